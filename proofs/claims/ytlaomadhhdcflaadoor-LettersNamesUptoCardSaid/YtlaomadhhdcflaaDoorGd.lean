import Derived.Test.YtlaomadhhdcflaaDoorGa
import Derived.Lib.TrimUEq
import Derived.Shelf.Unicode.DecodeAny
import Derived.WalkKit
import Derived.KernelRfl
import Derived.Test.YtlaomadhhdcflaaDoorGc
set_option linter.unusedVariables false
set_option linter.unusedSimpArgs false
/- Printed by symgen.py: typed functions of this seat, and why they tell what the program does. -/
set_option linter.unusedVariables false
set_option linter.unusedSimpArgs false
open Go Go.Ev Go.Ev.PV
namespace Go.Proofs.YtlaomadhhdcflaaDoor
theorem seinelaw1_awake_run {r : Bool} (n : Nat) (h : evalK Tryd.prog MT XT n 5 [] [] = some (seinelaw1_awakeE r, [])) : seinelaw1_awake = some r := tO_of (pair_inj seinelaw1_awakeEj) (evalK_OL n h)

def letters_Name_l1 (O : Orc) (LP : LBody → LBody) : LBody := fun s1 s1u => cnd (chkL [.str, .bool, (.int .i64), (.int .i64)] s1) (cnd (chkU [] s1u)
  (cnd (decide ((intV (gt s1 3)) < (intV (gt s1 2))))
   (bnd (ixStr (.str (strV (gt s1 0))) (.int .i64 (intV (gt s1 3)))) fun x11 => cnd (chk (.int .u8) x11)
   (callp O 15 [(.int .u8 (intV x11))] fun x13 => cnd (chk .bool x13)
   (cnd (!(boolV x13))
    (cnd ((intV (gt s1 3)) == 0)
     (some (.ret, [(.str (strV (gt s1 0))), (.bool false), (.int .i64 (intV (gt s1 2))), (.int .i64 (intV (gt s1 3)))], []))
     (bnd (ixStr (.str (strV (gt s1 0))) (.int .i64 (intV (gt s1 3)))) fun x15 => cnd (chk (.int .u8) x15)
     (callp O 16 [(.int .u8 (intV x15))] fun x17 => cnd (chk .bool x17)
     (cnd (!(boolV x17))
      (some (.ret, [(.str (strV (gt s1 0))), (.bool false), (.int .i64 (intV (gt s1 2))), (.int .i64 (intV (gt s1 3)))], []))
      (some (.nrm, [(.str (strV (gt s1 0))), (.bool (boolV (gt s1 1))), (.int .i64 (intV (gt s1 2))), (.int .i64 (IntKind.wrap .i64 ((intV (gt s1 3)) + 1)))], []))) none) none))
    (some (.nrm, [(.str (strV (gt s1 0))), (.bool (boolV (gt s1 1))), (.int .i64 (intV (gt s1 2))), (.int .i64 (IntKind.wrap .i64 ((intV (gt s1 3)) + 1)))], []))) none) none)
   (some (.brk 0, [(.str (strV (gt s1 0))), (.bool (boolV (gt s1 1))), (.int .i64 (intV (gt s1 2))), (.int .i64 (intV (gt s1 3)))], []))) none) none
def letters_Name_T1 (O : Orc) (LP : LBody → LBody) (s : Str) : Option (PV × UP) :=
  bnd (LP (letters_Name_l1 O LP) [(.str s), (.bool false), (.int .i64 (List.length s : Int)), (.int .i64 0)] []) fun y21 =>
  exIs y21.1 (some 0) (cnd (chkL [.str, .bool, (.int .i64), (.int .i64)] y21.2.1) (cnd (chkU [] y21.2.2)
   (some ((.bool (!((strV (gt y21.2.1 0)) == ([] : Str)))), [])) none) none)
  (exIs y21.1 none (cnd (chkL [.str, .bool, (.int .i64), (.int .i64)] y21.2.1) (cnd (chkU [] y21.2.2)
   (some ((.bool (boolV (gt y21.2.1 1))), [])) none) none)
  (none))
noncomputable def letters_Name_l1T (s : Str) : Int → Option (Int ⊕ (Unit ⊕ Unit))
  | t_10 =>
  cnd (decide (t_10 < (List.length s : Int)))
   (bnd (nthI s t_10) fun y12 =>
   bnd (letters_Letter (y12.toNat : Int)) fun y14 =>
   cnd (!y14)
    (cnd (t_10 == 0)
     (some (.inr (.inr ())))
     (bnd (nthI s t_10) fun y16 =>
     bnd (letters_Digit (y16.toNat : Int)) fun y18 =>
     cnd (!y18)
      (some (.inr (.inr ())))
      (some (.inl (IntKind.wrap .i64 (t_10 + 1))))))
    (some (.inl (IntKind.wrap .i64 (t_10 + 1)))))
   (some (.inr (.inl ())))
abbrev letters_Name_l1R (s : Str) (st : Int) (l : List PV) (u : UP) : Prop := l = [(.str s), (.bool false), (.int .i64 (List.length s : Int)), (.int .i64 st)] ∧ u = []
abbrev letters_Name_l1X (s : Str) (p : Unit ⊕ Unit) (r : Ex × List PV × UP) : Prop := elim p (fun (p : Unit) => ∃ (t_19 : Int), r = (Ex.brk 0, [(.str s), (.bool false), (.int .i64 (List.length s : Int)), (.int .i64 t_19)], [])) (fun q2 => (fun (p : Unit) => ∃ (t_20 : Int), r = (Ex.ret, [(.str s), (.bool false), (.int .i64 (List.length s : Int)), (.int .i64 t_20)], [])) q2)
noncomputable def letters_Name_B (s : Str) : Option Bool :=
  bnd (tloop (letters_Name_l1T s) 0) fun e21_2 => elim e21_2
  (fun p21 =>
   some (!(s == ([] : Str))))
  (fun p21 =>
  some false)
def letters_Name_ds : Decs := { decs := [(11, (.int .u8)), (12, .bool), (20, (.int .u8)), (21, .bool)], ups := [], loops := [(2, [], ⟨[.str, .bool, (.int .i64), (.int .i64)], [], [(some 0, [.str, .bool, (.int .i64), (.int .i64)], []), (none, [.str, .bool, (.int .i64), (.int .i64)], [])]⟩)] }
set_option maxRecDepth 100000 in
theorem letters_Name_t1 (O : Orc) (LP : LBody → LBody) (s : Str) : evalBodyD Tryd.prog (MT 10) letters_Name_ds Tryd.f10.ntmps O LP Tryd.f10 [(.str s)] [] = letters_Name_T1 O LP s := by kernel_rfl
theorem letters_Name_l1_ok (s : Str) : ∀ st l u, letters_Name_l1R s st l u → Imp (letters_Name_l1T s st) (letters_Name_l1 O loopLim l u) (StepR (letters_Name_l1R s) (letters_Name_l1X s)) := by
  rintro t_10 l u ⟨rfl, rfl⟩
  simp only [letters_Name_l1T, letters_Name_l1]
  refine Imp.chk rfl (Imp.chk rfl ?_)
  try simp only [evs, tys]
  refine Imp.cnd ?_ ?_
  · refine Imp.op (f := fun a => .int .u8 (a.toNat : Int)) (fun a h => op_ixStr h) (fun a => rfl) fun y12 hy12 => ?_
    try simp only [evs, tys]
    refine Imp.call (f := letters_LetterE) rfl (fun a h => by first | exact letters_Letter_spec h | simpa only [evs, tys, evl] using letters_Letter_spec h) (fun a => by first | rfl | simp only [letters_LetterE, evk, chks]) fun y14 hy14 => ?_
    try simp only [letters_LetterE, evs, tys]
    refine Imp.cnd ?_ ?_
    · refine Imp.cnd ?_ ?_
      · exact Imp.some (StepR.ret ⟨t_10, by first | rfl | simp only [evs, tys, evl, elim_inl, elim_inr]⟩)
      · refine Imp.op (f := fun a => .int .u8 (a.toNat : Int)) (fun a h => op_ixStr h) (fun a => rfl) fun y16 hy16 => ?_
        try simp only [evs, tys]
        refine Imp.call (f := letters_DigitE) rfl (fun a h => by first | exact letters_Digit_spec h | simpa only [evs, tys, evl] using letters_Digit_spec h) (fun a => by first | rfl | simp only [letters_DigitE, evk, chks]) fun y18 hy18 => ?_
        try simp only [letters_DigitE, evs, tys]
        refine Imp.cnd ?_ ?_
        · exact Imp.some (StepR.ret ⟨t_10, by first | rfl | simp only [evs, tys, evl, elim_inl, elim_inr]⟩)
        · exact Imp.some (StepR.next ⟨by first | rfl | simp only [evs, tys, evl], rfl⟩)
    · exact Imp.some (StepR.next ⟨by first | rfl | simp only [evs, tys, evl], rfl⟩)
  · exact Imp.some (StepR.brk ⟨t_10, by first | rfl | simp only [evs, tys, evl, elim_inl, elim_inr]⟩)
theorem letters_Name_imp (s : Str) : Imp (letters_Name_B s) (letters_Name_T1 O loopLim s) (fun r v => v = (letters_NameE r, [])) := by
  simp only [letters_Name_B, letters_Name_T1]
  try simp only [evs, tys]
  refine Imp.bnd (Imp.loop (letters_Name_l1_ok s) ⟨by first | rfl | simp only [evs, tys, evl], rfl⟩) ?_
  rintro (p | p) vy21 hy21
  · try simp only [elim_inl, elim_inr]
    obtain ⟨t_19, rfl⟩ := hy21
    refine Imp.exHit rfl (Imp.chk rfl (Imp.chk rfl ?_))
    try simp only [evs, tys]
    exact Imp.some (by first | rfl | simp only [letters_NameE, evs, tys, evl])
  · try simp only [elim_inl, elim_inr]
    obtain ⟨t_20, rfl⟩ := hy21
    refine Imp.exMiss rfl ?_
    refine Imp.exHit rfl (Imp.chk rfl (Imp.chk rfl ?_))
    try simp only [evs, tys]
    exact Imp.some (by first | rfl | simp only [letters_NameE, evs, tys, evl])
theorem letters_Name_run {s : Str} {r : Bool} (h : letters_Name_B s = some r) : letters_Name s = some r := by
  obtain ⟨v, hv, rfl⟩ := letters_Name_imp s r h
  exact tO_of (pair_inj letters_NameEj) (OL_runD letters_Name_ds rfl rfl Tryd.func10 ((letters_Name_t1 _ _ s).trans hv))

def letters_Letter_T1 (O : Orc) (LP : LBody → LBody) (c : Int) : Option (PV × UP) :=
  cnd (decide (c ≥ 97))
   (cnd (decide (c ≤ 122))
    (some ((.bool true), []))
    (cnd (decide (c ≥ 65))
     (cnd (decide (c ≤ 90))
      (some ((.bool true), []))
      (some ((.bool (c == 95)), [])))
     (some ((.bool (c == 95)), []))))
   (cnd (decide (c ≥ 65))
    (cnd (decide (c ≤ 90))
     (some ((.bool true), []))
     (some ((.bool (c == 95)), [])))
    (some ((.bool (c == 95)), [])))
noncomputable def letters_Letter_B (c : Int) : Option Bool :=
  cnd (decide (c ≥ 97))
   (cnd (decide (c ≤ 122))
    (some true)
    (cnd (decide (c ≥ 65))
     (cnd (decide (c ≤ 90))
      (some true)
      (some (c == 95)))
     (some (c == 95))))
   (cnd (decide (c ≥ 65))
    (cnd (decide (c ≤ 90))
     (some true)
     (some (c == 95)))
    (some (c == 95)))
def letters_Letter_ds : Decs := { decs := [], ups := [], loops := [] }
set_option maxRecDepth 100000 in
theorem letters_Letter_t1 (O : Orc) (LP : LBody → LBody) (c : Int) : evalBodyD Tryd.prog (MT 15) letters_Letter_ds Tryd.f15.ntmps O LP Tryd.f15 [(.int .u8 c)] [] = letters_Letter_T1 O LP c := by kernel_rfl
theorem letters_Letter_imp (c : Int) : Imp (letters_Letter_B c) (letters_Letter_T1 O loopLim c) (fun r v => v = (letters_LetterE r, [])) := by
  simp only [letters_Letter_B, letters_Letter_T1]
  try simp only [evs, tys]
  refine Imp.cnd ?_ ?_
  · refine Imp.cnd ?_ ?_
    · exact Imp.some (by first | rfl | simp only [letters_LetterE, evs, tys, evl])
    · refine Imp.cnd ?_ ?_
      · refine Imp.cnd ?_ ?_
        · exact Imp.some (by first | rfl | simp only [letters_LetterE, evs, tys, evl])
        · exact Imp.some (by first | rfl | simp only [letters_LetterE, evs, tys, evl])
      · exact Imp.some (by first | rfl | simp only [letters_LetterE, evs, tys, evl])
  · refine Imp.cnd ?_ ?_
    · refine Imp.cnd ?_ ?_
      · exact Imp.some (by first | rfl | simp only [letters_LetterE, evs, tys, evl])
      · exact Imp.some (by first | rfl | simp only [letters_LetterE, evs, tys, evl])
    · exact Imp.some (by first | rfl | simp only [letters_LetterE, evs, tys, evl])
theorem letters_Letter_run {c : Int} {r : Bool} (h : letters_Letter_B c = some r) : letters_Letter c = some r := by
  obtain ⟨v, hv, rfl⟩ := letters_Letter_imp c r h
  exact tO_of (pair_inj letters_LetterEj) (OL_runD letters_Letter_ds rfl rfl Tryd.func15 ((letters_Letter_t1 _ _ c).trans hv))

def letters_Digit_T1 (O : Orc) (LP : LBody → LBody) (c : Int) : Option (PV × UP) :=
  cnd (decide (c ≥ 48))
   (some ((.bool (decide (c ≤ 57))), []))
   (some ((.bool false), []))
noncomputable def letters_Digit_B (c : Int) : Option Bool :=
  cnd (decide (c ≥ 48))
   (some (decide (c ≤ 57)))
   (some false)
def letters_Digit_ds : Decs := { decs := [], ups := [], loops := [] }
set_option maxRecDepth 100000 in
theorem letters_Digit_t1 (O : Orc) (LP : LBody → LBody) (c : Int) : evalBodyD Tryd.prog (MT 16) letters_Digit_ds Tryd.f16.ntmps O LP Tryd.f16 [(.int .u8 c)] [] = letters_Digit_T1 O LP c := by kernel_rfl
theorem letters_Digit_imp (c : Int) : Imp (letters_Digit_B c) (letters_Digit_T1 O loopLim c) (fun r v => v = (letters_DigitE r, [])) := by
  simp only [letters_Digit_B, letters_Digit_T1]
  try simp only [evs, tys]
  refine Imp.cnd ?_ ?_
  · exact Imp.some (by first | rfl | simp only [letters_DigitE, evs, tys, evl])
  · exact Imp.some (by first | rfl | simp only [letters_DigitE, evs, tys, evl])
theorem letters_Digit_run {c : Int} {r : Bool} (h : letters_Digit_B c = some r) : letters_Digit c = some r := by
  obtain ⟨v, hv, rfl⟩ := letters_Digit_imp c r h
  exact tO_of (pair_inj letters_DigitEj) (OL_runD letters_Digit_ds rfl rfl Tryd.func16 ((letters_Digit_t1 _ _ c).trans hv))
end Go.Proofs.YtlaomadhhdcflaaDoor

/-
  What is answered from outside: contracts of the library's functions, laid at this program by the kit's tools.
-/
set_option linter.unusedVariables false
set_option linter.unusedSimpArgs false
open Go Go.Ev Go.Ev.PV
open Go.Shelf Go.RowKit
namespace Go.Proofs.YtlaomadhhdcflaaDoor
/-- The two tables of utf8, which are never written. -/
def GM : Mem := fun b i =>
  if b = 0 then (if i < 256 then some (.int .u8 (Go.Lib.firstT i)) else none)
  else if b = 1 then (if i < 32 then some (.int .u8 (if i % 2 = 0 then Go.Lib.accLo (i / 2) else Go.Lib.accHi (i / 2))) else none)
  else none
theorem tabs_of : ∀ (n : Nat) (M : Mem) (B : BM) (args : List PV) (up : UP) (vals : Array Value) (w : World), CallPre ⟨n, GM⟩ M B args up vals w → Go.Lib.Utf8Tabs 0 1 w := by
  intro n M B args up vals w hp
  refine ⟨fun c hc => hp.globW (by show GM 0 c = _; unfold GM; rw [if_pos rfl, if_pos hc]), fun i hi => ⟨hp.globW ?_, hp.globW ?_⟩⟩
  · show GM 1 (2 * i) = _
    unfold GM; rw [if_neg (by decide), if_pos rfl, if_pos (by omega), if_pos (by omega)]
    rw [show 2 * i / 2 = i by omega]
  · show GM 1 (2 * i + 1) = _
    unfold GM; rw [if_neg (by decide), if_pos rfl, if_pos (by omega), if_neg (by omega)]
    rw [show (2 * i + 1) / 2 = i by omega]
theorem decS_decodeGo (s : Str) : Go.Lib.decodeGo ⟨s.toArray⟩ = decS s := by
  have hsz : (⟨s.toArray⟩ : ByteArray).size = s.length := by show s.toArray.size = _; simp
  unfold Go.Lib.decodeGo decS
  by_cases h : s = []
  · subst h; rfl
  · have hl : s.length ≠ 0 := fun e => h (List.length_eq_zero_iff.1 e)
    rw [if_neg (by rw [hsz]; exact hl), if_neg h]
    have := Go.Lib.decodeL_N s
    unfold Go.Lib.decodeL at this
    exact this

def Tryd.lays260_ren : Go.Shelf.Ren := ⟨fun | 260 => 19 | n => n, fun | 9 => 9 | 21 => 21 | 3 => 3 | 4 => 4 | 5 => 5 | 119 => 42 | 0 => 0 | 46 => 41 | 139 => 45 | 138 => 44 | n => n, fun | 3 => 0 | 4 => 1 | n => n⟩

theorem Tryd.lays260 : Go.Proofs.Lays.n260 Tryd.prog Tryd.lays260_ren := {
  mixed := by kernel_rfl
  f260 := Tryd.func19.trans (congrArg some (by kernel_rfl))
  t0 := Tryd.underlying0
  a0 := Tryd.isAgg0
  z0 := Tryd.sizeOf0
  v0 := Tryd.zeroValue0
  t3 := Tryd.underlying3
  a3 := Tryd.isAgg3
  z3 := Tryd.sizeOf3
  v3 := Tryd.zeroValue3
  t4 := Tryd.underlying4
  a4 := Tryd.isAgg4
  z4 := Tryd.sizeOf4
  v4 := Tryd.zeroValue4
  t5 := Tryd.underlying5
  a5 := Tryd.isAgg5
  z5 := Tryd.sizeOf5
  v5 := Tryd.zeroValue5
  t9 := Tryd.underlying9
  a9 := Tryd.isAgg9
  z9 := Tryd.sizeOf9
  v9 := Tryd.zeroValue9
  t21 := Tryd.underlying21
  a21 := Tryd.isAgg21
  z21 := Tryd.sizeOf21
  v21 := Tryd.zeroValue21
  t46 := Tryd.underlying41
  a46 := Tryd.isAgg41
  z46 := Tryd.sizeOf41
  v46 := Tryd.zeroValue41
  t119 := Tryd.underlying42
  a119 := Tryd.isAgg42
  z119 := Tryd.sizeOf42
  t138 := Tryd.underlying44
  a138 := Tryd.isAgg44
  z138 := Tryd.sizeOf44
  v138 := Tryd.zeroValue44
  t139 := Tryd.underlying45
  a139 := Tryd.isAgg45
  z139 := Tryd.sizeOf45
  v139 := Tryd.zeroValue45
  g3 := by kernel_rfl
  g4 := by kernel_rfl }

def Tryd.lays197_ren : Go.Shelf.Ren := ⟨fun | 197 => 17 | 260 => 19 | n => n, fun | 9 => 9 | 21 => 21 | 3 => 3 | 4 => 4 | 5 => 5 | 105 => 38 | 119 => 42 | 0 => 0 | 46 => 41 | 139 => 45 | 138 => 44 | n => n, fun | 3 => 0 | 4 => 1 | n => n⟩

theorem Tryd.lays197 : Go.Proofs.Lays.n197 Tryd.prog Tryd.lays197_ren := {
  mixed := by kernel_rfl
  f197 := Tryd.func17.trans (congrArg some (by kernel_rfl))
  f260 := Tryd.func19.trans (congrArg some (by kernel_rfl))
  t0 := Tryd.underlying0
  a0 := Tryd.isAgg0
  z0 := Tryd.sizeOf0
  v0 := Tryd.zeroValue0
  t3 := Tryd.underlying3
  a3 := Tryd.isAgg3
  z3 := Tryd.sizeOf3
  v3 := Tryd.zeroValue3
  t4 := Tryd.underlying4
  a4 := Tryd.isAgg4
  z4 := Tryd.sizeOf4
  v4 := Tryd.zeroValue4
  t5 := Tryd.underlying5
  a5 := Tryd.isAgg5
  z5 := Tryd.sizeOf5
  v5 := Tryd.zeroValue5
  t9 := Tryd.underlying9
  a9 := Tryd.isAgg9
  z9 := Tryd.sizeOf9
  v9 := Tryd.zeroValue9
  t21 := Tryd.underlying21
  a21 := Tryd.isAgg21
  z21 := Tryd.sizeOf21
  v21 := Tryd.zeroValue21
  t46 := Tryd.underlying41
  a46 := Tryd.isAgg41
  z46 := Tryd.sizeOf41
  v46 := Tryd.zeroValue41
  t105 := Tryd.underlying38
  a105 := Tryd.isAgg38
  z105 := Tryd.sizeOf38
  v105 := Tryd.zeroValue38
  t119 := Tryd.underlying42
  a119 := Tryd.isAgg42
  z119 := Tryd.sizeOf42
  t138 := Tryd.underlying44
  a138 := Tryd.isAgg44
  z138 := Tryd.sizeOf44
  v138 := Tryd.zeroValue44
  t139 := Tryd.underlying45
  a139 := Tryd.isAgg45
  z139 := Tryd.sizeOf45
  v139 := Tryd.zeroValue45
  g3 := by kernel_rfl
  g4 := by kernel_rfl }

theorem xok_decode : ∀ args up r up', xDecode args up = some (r, up') → ∀ (n : Nat) w M B vals, CallPre ⟨n, GM⟩ M B args up vals w → Invokes Tryd.prog 17 vals w (CallPost ⟨n, GM⟩ M B args up vals w r up') :=
  xDecode_ok (T := Go.Lib.Utf8Tabs 0 1) tabs_of (fun _ _ => enters_of Tryd.func17 (by kernel_rfl) rfl _ _) fun s w hT => by
    have := Any.utf8_DecodeRuneInString Tryd.lays197 ⟨s.toArray⟩ w hT
    rw [decS_decodeGo] at this; exact this
theorem xok : ExtOk Tryd.prog GM XT := by
  intro f g h
  unfold XT at h
  simp only [Go.Ev.look] at h
  split at h
  · rename_i e; subst e; cases h; exact xok_decode
  simp at h
end Go.Proofs.YtlaomadhhdcflaaDoor



import Derived.Test.YteiccdhdfcbokaaGa
set_option linter.unusedVariables false
set_option linter.unusedSimpArgs false
/- Printed by symgen.py: typed functions of this seat, and why they tell what the program does. -/
set_option linter.unusedVariables false
set_option linter.unusedSimpArgs false
open Go Go.Ev Go.Ev.PV
namespace Go.Proofs.Yteiccdhdfcbokaa
def seinelaw16_ArgsSays_T1 (O : Orc) (LP : LBody → LBody) (params : List GParam) (l0 : List GMember) : Option (PV × UP) :=
  callp O 6 [(.slice (List.map encParam params) [] false), (.slice (List.map encMember l0) [] false)] fun x1 => cnd (chk .bool x1)
  (cnd (!(boolV x1))
   (callp O 7 [] fun x3 => cnd (chk .bool x3)
   (some ((.bool (boolV x3)), [])) none)
   (callp O 8 [(.slice (List.map encParam params) [] false)] fun x5 => cnd (chk (.sl false) x5)
   (callp O 9 [(.slice (List.map encMember l0) [] false)] fun x7 => cnd (chk (.sl false) x7)
   (callp O 10 [(.slice (esV x5) [] false), (.slice (esV x7) [] false)] fun x9 => cnd (chk .bool x9)
   (callp O 11 [(.slice (List.map encParam params) [] false), (.slice (List.map encMember l0) [] false)] fun x11 => cnd (chk .bool x11)
   (cnd ((boolV x9) == (boolV x11))
    (callp O 12 [(.slice (esV x7) [] false)] fun x13 => cnd (chk .bool x13)
    (callp O 13 [(.slice (List.map encMember l0) [] false)] fun x15 => cnd (chk .bool x15)
    (cnd ((boolV x13) == (boolV x15))
     (callp O 14 [(.slice (esV x5) [] false), (.slice (esV x7) [] false)] fun x17 => cnd (chk .bool x17)
     (callp O 15 [(.slice (List.map encParam params) [] false), (.slice (List.map encMember l0) [] false)] fun x19 => cnd (chk .bool x19)
     (cnd ((boolV x17) == (boolV x19))
      (callp O 16 [(.slice (esV x5) [] false), (.slice (List.map encParam params) [] false)] fun x21 => cnd (chk .bool x21)
      (cnd (boolV x21)
       (callp O 17 [(.slice (esV x7) [] false), (.slice (List.map encMember l0) [] false)] fun x23 => cnd (chk .bool x23)
       (cnd (boolV x23)
        (callp O 7 [] fun x25 => cnd (chk .bool x25)
        (some ((.bool (boolV x25)), [])) none)
        (some ((.bool false), []))) none)
       (some ((.bool false), []))) none)
      (some ((.bool false), []))) none) none)
     (some ((.bool false), []))) none) none)
    (some ((.bool false), []))) none) none) none) none)) none
noncomputable def seinelaw16_ArgsSays_B (params : List GParam) (l0 : List GMember) : Option Bool :=
  bnd (seinelaw16_small params l0) fun y2 =>
  cnd (!y2)
   (bnd (seinelaw16_awake) fun y4 =>
   some y4)
   (bnd (seinekeep_Params params) fun y6 =>
   bnd (seinekeep_Members l0) fun y8 =>
   bnd (args_Known y6 y8) fun y10 =>
   bnd (seineref13_Known params l0) fun y12 =>
   cnd (y10 == y12)
    (bnd (args_Once y8) fun y14 =>
    bnd (seineref13_Once l0) fun y16 =>
    cnd (y14 == y16)
     (bnd (args_Needed y6 y8) fun y18 =>
     bnd (seineref13_Needed params l0) fun y20 =>
     cnd (y18 == y20)
      (bnd (seineref6_SameParams y6 params) fun y22 =>
      cnd y22
       (bnd (seineref1_Members y8 l0) fun y24 =>
       cnd y24
        (bnd (seinelaw16_awake) fun y26 =>
        some y26)
        (some false))
       (some false))
      (some false))
     (some false))
    (some false))
def seinelaw16_ArgsSays_ds : Decs := { decs := [(9, .bool), (11, .bool), (13, (.sl false)), (15, (.sl false)), (18, .bool), (21, .bool), (25, .bool), (27, .bool), (33, .bool), (36, .bool), (42, .bool), (47, .bool), (50, .bool)], ups := [], loops := [] }
set_option maxRecDepth 100000 in
theorem seinelaw16_ArgsSays_t1 (O : Orc) (LP : LBody → LBody) (params : List GParam) (l0 : List GMember) : evalBodyD Try.prog (MT 3) seinelaw16_ArgsSays_ds Try.f3.ntmps O LP Try.f3 [(.slice (List.map encParam params) [] false), (.slice (List.map encMember l0) [] false)] [] = seinelaw16_ArgsSays_T1 O LP params l0 := by kernel_rfl
theorem seinelaw16_ArgsSays_imp (params : List GParam) (l0 : List GMember) : Imp (seinelaw16_ArgsSays_B params l0) (seinelaw16_ArgsSays_T1 O loopLim params l0) (fun r v => v = (seinelaw16_ArgsSaysE r, [])) := by
  simp only [seinelaw16_ArgsSays_B, seinelaw16_ArgsSays_T1]
  try simp only [evs, tys]
  refine Imp.call (f := seinelaw16_smallE) rfl (fun a h => by first | exact seinelaw16_small_spec h | simpa only [evs, tys, evl] using seinelaw16_small_spec h) (fun a => by first | rfl | simp only [seinelaw16_smallE, evk, chks]) fun y2 hy2 => ?_
  try simp only [seinelaw16_smallE, evs, tys]
  refine Imp.cnd ?_ ?_
  · refine Imp.call (f := seinelaw16_awakeE) rfl (fun a h => by first | exact seinelaw16_awake_spec h | simpa only [evs, tys, evl] using seinelaw16_awake_spec h) (fun a => by first | rfl | simp only [seinelaw16_awakeE, evk, chks]) fun y4 hy4 => ?_
    try simp only [seinelaw16_awakeE, evs, tys]
    exact Imp.some (by first | rfl | simp only [seinelaw16_ArgsSaysE, evs, tys, evl])
  · refine Imp.call (f := seinekeep_ParamsE) rfl (fun a h => by first | exact seinekeep_Params_spec h | simpa only [evs, tys, evl] using seinekeep_Params_spec h) (fun a => by first | rfl | simp only [seinekeep_ParamsE, evk, chks]) fun y6 hy6 => ?_
    try simp only [seinekeep_ParamsE, evs, tys]
    refine Imp.call (f := seinekeep_MembersE) rfl (fun a h => by first | exact seinekeep_Members_spec h | simpa only [evs, tys, evl] using seinekeep_Members_spec h) (fun a => by first | rfl | simp only [seinekeep_MembersE, evk, chks]) fun y8 hy8 => ?_
    try simp only [seinekeep_MembersE, evs, tys]
    refine Imp.call (f := args_KnownE) rfl (fun a h => by first | exact args_Known_spec h | simpa only [evs, tys, evl] using args_Known_spec h) (fun a => by first | rfl | simp only [args_KnownE, evk, chks]) fun y10 hy10 => ?_
    try simp only [args_KnownE, evs, tys]
    refine Imp.call (f := seineref13_KnownE) rfl (fun a h => by first | exact seineref13_Known_spec h | simpa only [evs, tys, evl] using seineref13_Known_spec h) (fun a => by first | rfl | simp only [seineref13_KnownE, evk, chks]) fun y12 hy12 => ?_
    try simp only [seineref13_KnownE, evs, tys]
    refine Imp.cnd ?_ ?_
    · refine Imp.call (f := args_OnceE) rfl (fun a h => by first | exact args_Once_spec h | simpa only [evs, tys, evl] using args_Once_spec h) (fun a => by first | rfl | simp only [args_OnceE, evk, chks]) fun y14 hy14 => ?_
      try simp only [args_OnceE, evs, tys]
      refine Imp.call (f := seineref13_OnceE) rfl (fun a h => by first | exact seineref13_Once_spec h | simpa only [evs, tys, evl] using seineref13_Once_spec h) (fun a => by first | rfl | simp only [seineref13_OnceE, evk, chks]) fun y16 hy16 => ?_
      try simp only [seineref13_OnceE, evs, tys]
      refine Imp.cnd ?_ ?_
      · refine Imp.call (f := args_NeededE) rfl (fun a h => by first | exact args_Needed_spec h | simpa only [evs, tys, evl] using args_Needed_spec h) (fun a => by first | rfl | simp only [args_NeededE, evk, chks]) fun y18 hy18 => ?_
        try simp only [args_NeededE, evs, tys]
        refine Imp.call (f := seineref13_NeededE) rfl (fun a h => by first | exact seineref13_Needed_spec h | simpa only [evs, tys, evl] using seineref13_Needed_spec h) (fun a => by first | rfl | simp only [seineref13_NeededE, evk, chks]) fun y20 hy20 => ?_
        try simp only [seineref13_NeededE, evs, tys]
        refine Imp.cnd ?_ ?_
        · refine Imp.call (f := seineref6_SameParamsE) rfl (fun a h => by first | exact seineref6_SameParams_spec h | simpa only [evs, tys, evl] using seineref6_SameParams_spec h) (fun a => by first | rfl | simp only [seineref6_SameParamsE, evk, chks]) fun y22 hy22 => ?_
          try simp only [seineref6_SameParamsE, evs, tys]
          refine Imp.cnd ?_ ?_
          · refine Imp.call (f := seineref1_MembersE) rfl (fun a h => by first | exact seineref1_Members_spec h | simpa only [evs, tys, evl] using seineref1_Members_spec h) (fun a => by first | rfl | simp only [seineref1_MembersE, evk, chks]) fun y24 hy24 => ?_
            try simp only [seineref1_MembersE, evs, tys]
            refine Imp.cnd ?_ ?_
            · refine Imp.call (f := seinelaw16_awakeE) rfl (fun a h => by first | exact seinelaw16_awake_spec h | simpa only [evs, tys, evl] using seinelaw16_awake_spec h) (fun a => by first | rfl | simp only [seinelaw16_awakeE, evk, chks]) fun y26 hy26 => ?_
              try simp only [seinelaw16_awakeE, evs, tys]
              exact Imp.some (by first | rfl | simp only [seinelaw16_ArgsSaysE, evs, tys, evl])
            · exact Imp.some (by first | rfl | simp only [seinelaw16_ArgsSaysE, evs, tys, evl])
          · exact Imp.some (by first | rfl | simp only [seinelaw16_ArgsSaysE, evs, tys, evl])
        · exact Imp.some (by first | rfl | simp only [seinelaw16_ArgsSaysE, evs, tys, evl])
      · exact Imp.some (by first | rfl | simp only [seinelaw16_ArgsSaysE, evs, tys, evl])
    · exact Imp.some (by first | rfl | simp only [seinelaw16_ArgsSaysE, evs, tys, evl])
theorem seinelaw16_ArgsSays_run {params : List GParam} {l0 : List GMember} {r : Bool} (h : seinelaw16_ArgsSays_B params l0 = some r) : seinelaw16_ArgsSays params l0 = some r := by
  obtain ⟨v, hv, rfl⟩ := seinelaw16_ArgsSays_imp params l0 r h
  exact tO_of (pair_inj seinelaw16_ArgsSaysEj) (OL_runD seinelaw16_ArgsSays_ds rfl rfl Try.func3 ((seinelaw16_ArgsSays_t1 _ _ params l0).trans hv))

def args_Once_i1_l1 (O : Orc) (LP : LBody → LBody) : LBody := fun s1 s1u => cnd (chkL [(.sl true), .bool, (.sl false), (.int .i64), (.int .i64)] s1) (cnd (chkU [] s1u)
  (cnd (decide ((intV (gt s1 4)) < (intV (gt s1 3))))
   (bnd (ix 6 (.slice (esV (gt s1 2)) [] false) (.int .i64 (intV (gt s1 4)))) fun x9 => cnd (chk (.ref shMember) x9)
   (bnd (slcHi 6 (.slice (esV (gt s1 0)) [] false) (.int .i64 (intV (gt s1 4)))) fun x11 => cnd (chk (.slb false) x11)
   (callp O 26 [(.str (strV (gt (aggV (refV x9)) 0))), (.slice (esV x11) [] false)] fun x13 => cnd (chk (.tup [shValue, .bool]) x13)
   (cnd (boolV (gt (tupV x13) 1))
    (some (.ret, [(.slice (esV (gt s1 0)) [] true), (.bool false), (.slice (esV (gt s1 2)) [] false), (.int .i64 (intV (gt s1 3))), (.int .i64 (intV (gt s1 4)))], []))
    (some (.nrm, [(.slice (esV (gt s1 0)) [] true), (.bool (boolV (gt s1 1))), (.slice (esV (gt s1 2)) [] false), (.int .i64 (intV (gt s1 3))), (.int .i64 (IntKind.wrap .i64 ((intV (gt s1 4)) + 1)))], []))) none) none) none)
   (some (.brk 0, [(.slice (esV (gt s1 0)) [] true), (.bool (boolV (gt s1 1))), (.slice (esV (gt s1 2)) [] false), (.int .i64 (intV (gt s1 3))), (.int .i64 (intV (gt s1 4)))], []))) none) none
def args_Once_i1_T1 (O : Orc) (LP : LBody → LBody) : Option (PV × UP) :=
  bnd (LP (args_Once_i1_l1 O LP) [(.slice [] [] true), (.bool false), (.slice [] [] false), (.int .i64 0), (.int .i64 0)] []) fun y17 =>
  exIs y17.1 (some 0) (cnd (chkL [(.sl true), .bool, (.sl false), (.int .i64), (.int .i64)] y17.2.1) (cnd (chkU [] y17.2.2)
   (some ((.bool true), [])) none) none)
  (exIs y17.1 none (cnd (chkL [(.sl true), .bool, (.sl false), (.int .i64), (.int .i64)] y17.2.1) (cnd (chkU [] y17.2.2)
   (some ((.bool (boolV (gt y17.2.1 1))), [])) none) none)
  (none))
noncomputable def args_Once_i1_l1T : Int → Option (Int ⊕ (Unit ⊕ Unit))
  | t_8 =>
  cnd (decide (t_8 < 0))
   (bnd (nthI ([] : List GMember) t_8) fun y10 =>
   bnd (tslc ([] : List GMember) 0 t_8) fun y12 =>
   bnd (value_Get y10.name y12) fun y14 =>
   cnd y14.2
    (some (.inr (.inr ())))
    (some (.inl (IntKind.wrap .i64 (t_8 + 1)))))
   (some (.inr (.inl ())))
abbrev args_Once_i1_l1R (st : Int) (l : List PV) (u : UP) : Prop := l = [(.slice [] [] true), (.bool false), (.slice [] [] false), (.int .i64 0), (.int .i64 st)] ∧ u = []
abbrev args_Once_i1_l1X (p : Unit ⊕ Unit) (r : Ex × List PV × UP) : Prop := elim p (fun (p : Unit) => ∃ (t_15 : Int), r = (Ex.brk 0, [(.slice [] [] true), (.bool false), (.slice [] [] false), (.int .i64 0), (.int .i64 t_15)], [])) (fun q2 => (fun (p : Unit) => ∃ (t_16 : Int), r = (Ex.ret, [(.slice [] [] true), (.bool false), (.slice [] [] false), (.int .i64 0), (.int .i64 t_16)], [])) q2)
noncomputable def args_Once_i1_B : Option Bool :=
  bnd (tloop args_Once_i1_l1T 0) fun e17_2 => elim e17_2
  (fun p17 =>
   some true)
  (fun p17 =>
  some false)
def args_Once_i1_ds : Decs := { decs := [(12, (.ref shMember)), (19, (.slb false)), (20, (.tup [shValue, .bool]))], ups := [], loops := [(2, [], ⟨[(.sl true), .bool, (.sl false), (.int .i64), (.int .i64)], [], [(some 0, [(.sl true), .bool, (.sl false), (.int .i64), (.int .i64)], []), (none, [(.sl true), .bool, (.sl false), (.int .i64), (.int .i64)], [])]⟩)] }
set_option maxRecDepth 100000 in
theorem args_Once_i1_t1 (O : Orc) (LP : LBody → LBody) : evalBodyD Try.prog (MT 12) args_Once_i1_ds Try.f12.ntmps O LP Try.f12 [(.slice [] [] true)] [] = args_Once_i1_T1 O LP := by kernel_rfl
theorem args_Once_i1_l1_ok : ∀ st l u, args_Once_i1_l1R st l u → Imp (args_Once_i1_l1T st) (args_Once_i1_l1 O loopLim l u) (StepR (args_Once_i1_l1R) (args_Once_i1_l1X)) := by
  rintro t_8 l u ⟨rfl, rfl⟩
  simp only [args_Once_i1_l1T, args_Once_i1_l1]
  refine Imp.chk rfl (Imp.chk rfl ?_)
  try simp only [evs, tys]
  refine Imp.cnd ?_ ?_
  · refine Imp.op (f := fun a => .ref (encMember a)) (fun a h => op_ix (enc := encMember) (by first | rfl | simp only [evs, tys, evl]) ⟨by first | rfl | simp only [evs, tys, evc], by decide⟩ h) (fun a => chk_GMember a) fun y10 hy10 => ?_
    try simp only [evs, tys]
    refine Imp.op2 (f := fun a b => .slice (List.map encMember a) (List.map encMember b) false) (fun a h => op_slcHi (enc := encMember) (b := _) (by first | rfl | simp only [evs, tys, evl]) (by first | rfl | exact List.map_nil.symm | simp only [evs, tys, evl]) (fun a => by first | rfl | simp only [evs, tys, evc]) h) (fun a b => rfl) fun y12 jby12 hy12 => ?_
    try simp only [evs, tys]
    refine Imp.call (f := value_GetE) rfl (fun a h => by first | exact value_Get_spec h | simpa only [evs, tys, evl] using value_Get_spec h) (fun a => by first | rfl | simp only [value_GetE, evk, chks]) fun y14 hy14 => ?_
    try simp only [value_GetE, evs, tys]
    refine Imp.cnd ?_ ?_
    · exact Imp.some (StepR.ret ⟨t_8, by first | rfl | simp only [evs, tys, evl, elim_inl, elim_inr]⟩)
    · exact Imp.some (StepR.next ⟨by first | rfl | simp only [evs, tys, evl], rfl⟩)
  · exact Imp.some (StepR.brk ⟨t_8, by first | rfl | simp only [evs, tys, evl, elim_inl, elim_inr]⟩)
theorem args_Once_i1_imp : Imp (args_Once_i1_B) (args_Once_i1_T1 O loopLim) (fun r v => v = (args_Once_i1E r, [])) := by
  simp only [args_Once_i1_B, args_Once_i1_T1]
  try simp only [evs, tys]
  refine Imp.bnd (Imp.loop (args_Once_i1_l1_ok) ⟨by first | rfl | simp only [evs, tys, evl], rfl⟩) ?_
  rintro (p | p) vy17 hy17
  · try simp only [elim_inl, elim_inr]
    obtain ⟨t_15, rfl⟩ := hy17
    refine Imp.exHit rfl (Imp.chk rfl (Imp.chk rfl ?_))
    try simp only [evs, tys]
    exact Imp.some (by first | rfl | simp only [args_Once_i1E, evs, tys, evl])
  · try simp only [elim_inl, elim_inr]
    obtain ⟨t_16, rfl⟩ := hy17
    refine Imp.exMiss rfl ?_
    refine Imp.exHit rfl (Imp.chk rfl (Imp.chk rfl ?_))
    try simp only [evs, tys]
    exact Imp.some (by first | rfl | simp only [args_Once_i1E, evs, tys, evl])
theorem args_Once_i1_run {r : Bool} (h : args_Once_i1_B = some r) : args_Once_i1 = some r := by
  obtain ⟨v, hv, rfl⟩ := args_Once_i1_imp r h
  exact tO_of (pair_inj args_Once_i1Ej) (OL_runD args_Once_i1_ds rfl rfl Try.func12 ((args_Once_i1_t1 _ _).trans hv))

def seinelaw16_ArgsTurned_T1 (O : Orc) (LP : LBody → LBody) (params : List GParam) (l0 : List GMember) (by0 : Int) : Option (PV × UP) :=
  callp O 6 [(.slice (List.map encParam params) [] false), (.slice (List.map encMember l0) [] false)] fun x1 => cnd (chk .bool x1)
  (cnd (!(boolV x1))
   (callp O 12 [(.slice [] [] true)] fun x3 => cnd (chk .bool x3)
   (cnd (boolV x3)
    (callp O 7 [] fun x5 => cnd (chk .bool x5)
    (some ((.bool (boolV x5)), [])) none)
    (some ((.bool false), []))) none)
   (cnd ((List.length (List.map encMember l0) : Int) == 0)
    (callp O 12 [(.slice [] [] true)] fun x7 => cnd (chk .bool x7)
    (cnd (boolV x7)
     (callp O 7 [] fun x9 => cnd (chk .bool x9)
     (some ((.bool (boolV x9)), [])) none)
     (some ((.bool false), []))) none)
    (bnd (bin .rem (.int .u64 (IntKind.wrap .u64 by0)) (.int .u64 (IntKind.wrap .u64 (List.length (List.map encMember l0) : Int)))) fun x11 => cnd (chk (.int .u64) x11)
    (bnd (slcLo 6 (.slice (List.map encMember l0) [] false) (.int .i64 (IntKind.wrap .i64 (intV x11)))) fun x13 => cnd (chk (.slb false) x13)
    (bnd (apd 6 (.slice [] [] true) (.slice (esV x13) (bsV x13) false)) fun x15 => cnd (chk (.sl true) x15)
    (bnd (slcHi 6 (.slice (List.map encMember l0) [] false) (.int .i64 (IntKind.wrap .i64 (intV x11)))) fun x17 => cnd (chk (.slb false) x17)
    (bnd (apd 6 (.slice (esV x15) [] true) (.slice (esV x17) (bsV x17) false)) fun x19 => cnd (chk (.sl true) x19)
    (callp O 10 [(.slice (List.map encParam params) [] false), (.slice (esV x19) [] false)] fun x21 => cnd (chk .bool x21)
    (callp O 10 [(.slice (List.map encParam params) [] false), (.slice (List.map encMember l0) [] false)] fun x23 => cnd (chk .bool x23)
    (cnd (!((boolV x21) == (boolV x23)))
     (some ((.bool false), []))
     (callp O 12 [(.slice (esV x19) [] false)] fun x25 => cnd (chk .bool x25)
     (callp O 12 [(.slice (List.map encMember l0) [] false)] fun x27 => cnd (chk .bool x27)
     (cnd (!((boolV x25) == (boolV x27)))
      (some ((.bool false), []))
      (callp O 14 [(.slice (List.map encParam params) [] false), (.slice (esV x19) [] false)] fun x29 => cnd (chk .bool x29)
      (callp O 14 [(.slice (List.map encParam params) [] false), (.slice (List.map encMember l0) [] false)] fun x31 => cnd (chk .bool x31)
      (cnd (!((boolV x29) == (boolV x31)))
       (some ((.bool false), []))
       (bnd (apd 6 (.slice (esV x19) [] true) (.slice (List.map encMember l0) [] false)) fun x33 => cnd (chk (.sl true) x33)
       (callp O 12 [(.slice (esV x33) [] false)] fun x35 => cnd (chk .bool x35)
       (cnd (!(boolV x35))
        (callp O 7 [] fun x37 => cnd (chk .bool x37)
        (some ((.bool (boolV x37)), [])) none)
        (some ((.bool false), []))) none) none)) none) none)) none) none)) none) none) none) none) none) none) none))) none
noncomputable def seinelaw16_ArgsTurned_B (params : List GParam) (l0 : List GMember) (by0 : Int) : Option Bool :=
  bnd (seinelaw16_small params l0) fun y2 =>
  cnd (!y2)
   (bnd (args_Once_i1) fun y4 =>
   cnd y4
    (bnd (seinelaw16_awake) fun y6 =>
    some y6)
    (some false))
   (cnd ((List.length l0 : Int) == 0)
    (bnd (args_Once_i1) fun y8 =>
    cnd y8
     (bnd (seinelaw16_awake) fun y10 =>
     some y10)
     (some false))
    (bnd (trem0 (IntKind.wrap .u64 by0) (IntKind.wrap .u64 (List.length l0 : Int))) fun y12 =>
    bnd (tslc (l0 : List GMember) (IntKind.wrap .i64 y12) (List.length l0)) fun y14 =>
    bnd (tapp ([] : List GMember) y14) fun y16 =>
    bnd (tslc (l0 : List GMember) 0 (IntKind.wrap .i64 y12)) fun y18 =>
    bnd (tapp y16 y18) fun y20 =>
    bnd (args_Known params y20) fun y22 =>
    bnd (args_Known params l0) fun y24 =>
    cnd (!(y22 == y24))
     (some false)
     (bnd (args_Once y20) fun y26 =>
     bnd (args_Once l0) fun y28 =>
     cnd (!(y26 == y28))
      (some false)
      (bnd (args_Needed params y20) fun y30 =>
      bnd (args_Needed params l0) fun y32 =>
      cnd (!(y30 == y32))
       (some false)
       (bnd (tapp y20 l0) fun y34 =>
       bnd (args_Once y34) fun y36 =>
       cnd (!y36)
        (bnd (seinelaw16_awake) fun y38 =>
        some y38)
        (some false))))))
def seinelaw16_ArgsTurned_ds : Decs := { decs := [(11, .bool), (18, .bool), (20, .bool), (27, (.int .u64)), (31, (.slb false)), (32, (.sl true)), (35, (.slb false)), (36, (.sl true)), (39, .bool), (42, .bool), (46, .bool), (48, .bool), (54, .bool), (57, .bool), (62, (.sl true)), (63, .bool), (66, .bool)], ups := [], loops := [] }
set_option maxRecDepth 100000 in
theorem seinelaw16_ArgsTurned_t1 (O : Orc) (LP : LBody → LBody) (params : List GParam) (l0 : List GMember) (by0 : Int) : evalBodyD Try.prog (MT 4) seinelaw16_ArgsTurned_ds Try.f4.ntmps O LP Try.f4 [(.slice (List.map encParam params) [] false), (.slice (List.map encMember l0) [] false), (.int .i64 by0)] [] = seinelaw16_ArgsTurned_T1 O LP params l0 by0 := by kernel_rfl
theorem seinelaw16_ArgsTurned_imp (params : List GParam) (l0 : List GMember) (by0 : Int) : Imp (seinelaw16_ArgsTurned_B params l0 by0) (seinelaw16_ArgsTurned_T1 O loopLim params l0 by0) (fun r v => v = (seinelaw16_ArgsTurnedE r, [])) := by
  simp only [seinelaw16_ArgsTurned_B, seinelaw16_ArgsTurned_T1]
  try simp only [evs, tys]
  refine Imp.call (f := seinelaw16_smallE) rfl (fun a h => by first | exact seinelaw16_small_spec h | simpa only [evs, tys, evl] using seinelaw16_small_spec h) (fun a => by first | rfl | simp only [seinelaw16_smallE, evk, chks]) fun y2 hy2 => ?_
  try simp only [seinelaw16_smallE, evs, tys]
  refine Imp.cnd ?_ ?_
  · refine Imp.call (f := args_Once_i1E) rfl (fun a h => by first | exact args_Once_i1_spec h | simpa only [evs, tys, evl] using args_Once_i1_spec h) (fun a => by first | rfl | simp only [args_Once_i1E, evk, chks]) fun y4 hy4 => ?_
    try simp only [args_Once_i1E, evs, tys]
    refine Imp.cnd ?_ ?_
    · refine Imp.call (f := seinelaw16_awakeE) rfl (fun a h => by first | exact seinelaw16_awake_spec h | simpa only [evs, tys, evl] using seinelaw16_awake_spec h) (fun a => by first | rfl | simp only [seinelaw16_awakeE, evk, chks]) fun y6 hy6 => ?_
      try simp only [seinelaw16_awakeE, evs, tys]
      exact Imp.some (by first | rfl | simp only [seinelaw16_ArgsTurnedE, evs, tys, evl])
    · exact Imp.some (by first | rfl | simp only [seinelaw16_ArgsTurnedE, evs, tys, evl])
  · refine Imp.cnd ?_ ?_
    · refine Imp.call (f := args_Once_i1E) rfl (fun a h => by first | exact args_Once_i1_spec h | simpa only [evs, tys, evl] using args_Once_i1_spec h) (fun a => by first | rfl | simp only [args_Once_i1E, evk, chks]) fun y8 hy8 => ?_
      try simp only [args_Once_i1E, evs, tys]
      refine Imp.cnd ?_ ?_
      · refine Imp.call (f := seinelaw16_awakeE) rfl (fun a h => by first | exact seinelaw16_awake_spec h | simpa only [evs, tys, evl] using seinelaw16_awake_spec h) (fun a => by first | rfl | simp only [seinelaw16_awakeE, evk, chks]) fun y10 hy10 => ?_
        try simp only [seinelaw16_awakeE, evs, tys]
        exact Imp.some (by first | rfl | simp only [seinelaw16_ArgsTurnedE, evs, tys, evl])
      · exact Imp.some (by first | rfl | simp only [seinelaw16_ArgsTurnedE, evs, tys, evl])
    · refine Imp.op (f := fun a => .int _ a) (fun a h => op_rem h) (fun a => rfl) fun y12 hy12 => ?_
      try simp only [evs, tys]
      refine Imp.op2 (f := fun a b => .slice (List.map encMember a) (List.map encMember b) false) (fun a h => op_slcLo (enc := encMember) (b := _) (by first | rfl | simp only [evs, tys, evl]) (by first | rfl | exact List.map_nil.symm | simp only [evs, tys, evl]) (fun a => by first | rfl | simp only [evs, tys, evc]) h) (fun a b => rfl) fun y14 jby14 hy14 => ?_
      try simp only [evs, tys]
      refine Imp.op (f := fun a => .slice (List.map encMember a) [] true) (fun a h => op_apd (enc := encMember) (by first | rfl | simp only [evs, tys, evl]) (by first | rfl | simp only [evs, tys, evl]) (fun a => by first | rfl | simp only [evs, tys, evc]) h) (fun a => rfl) fun y16 hy16 => ?_
      try simp only [evs, tys]
      refine Imp.op2 (f := fun a b => .slice (List.map encMember a) (List.map encMember b) false) (fun a h => op_slcHi (enc := encMember) (b := _) (by first | rfl | simp only [evs, tys, evl]) (by first | rfl | exact List.map_nil.symm | simp only [evs, tys, evl]) (fun a => by first | rfl | simp only [evs, tys, evc]) h) (fun a b => rfl) fun y18 jby18 hy18 => ?_
      try simp only [evs, tys]
      refine Imp.op (f := fun a => .slice (List.map encMember a) [] true) (fun a h => op_apd (enc := encMember) (by first | rfl | simp only [evs, tys, evl]) (by first | rfl | simp only [evs, tys, evl]) (fun a => by first | rfl | simp only [evs, tys, evc]) h) (fun a => rfl) fun y20 hy20 => ?_
      try simp only [evs, tys]
      refine Imp.call (f := args_KnownE) rfl (fun a h => by first | exact args_Known_spec h | simpa only [evs, tys, evl] using args_Known_spec h) (fun a => by first | rfl | simp only [args_KnownE, evk, chks]) fun y22 hy22 => ?_
      try simp only [args_KnownE, evs, tys]
      refine Imp.call (f := args_KnownE) rfl (fun a h => by first | exact args_Known_spec h | simpa only [evs, tys, evl] using args_Known_spec h) (fun a => by first | rfl | simp only [args_KnownE, evk, chks]) fun y24 hy24 => ?_
      try simp only [args_KnownE, evs, tys]
      refine Imp.cnd ?_ ?_
      · exact Imp.some (by first | rfl | simp only [seinelaw16_ArgsTurnedE, evs, tys, evl])
      · refine Imp.call (f := args_OnceE) rfl (fun a h => by first | exact args_Once_spec h | simpa only [evs, tys, evl] using args_Once_spec h) (fun a => by first | rfl | simp only [args_OnceE, evk, chks]) fun y26 hy26 => ?_
        try simp only [args_OnceE, evs, tys]
        refine Imp.call (f := args_OnceE) rfl (fun a h => by first | exact args_Once_spec h | simpa only [evs, tys, evl] using args_Once_spec h) (fun a => by first | rfl | simp only [args_OnceE, evk, chks]) fun y28 hy28 => ?_
        try simp only [args_OnceE, evs, tys]
        refine Imp.cnd ?_ ?_
        · exact Imp.some (by first | rfl | simp only [seinelaw16_ArgsTurnedE, evs, tys, evl])
        · refine Imp.call (f := args_NeededE) rfl (fun a h => by first | exact args_Needed_spec h | simpa only [evs, tys, evl] using args_Needed_spec h) (fun a => by first | rfl | simp only [args_NeededE, evk, chks]) fun y30 hy30 => ?_
          try simp only [args_NeededE, evs, tys]
          refine Imp.call (f := args_NeededE) rfl (fun a h => by first | exact args_Needed_spec h | simpa only [evs, tys, evl] using args_Needed_spec h) (fun a => by first | rfl | simp only [args_NeededE, evk, chks]) fun y32 hy32 => ?_
          try simp only [args_NeededE, evs, tys]
          refine Imp.cnd ?_ ?_
          · exact Imp.some (by first | rfl | simp only [seinelaw16_ArgsTurnedE, evs, tys, evl])
          · refine Imp.op (f := fun a => .slice (List.map encMember a) [] true) (fun a h => op_apd (enc := encMember) (by first | rfl | simp only [evs, tys, evl]) (by first | rfl | simp only [evs, tys, evl]) (fun a => by first | rfl | simp only [evs, tys, evc]) h) (fun a => rfl) fun y34 hy34 => ?_
            try simp only [evs, tys]
            refine Imp.call (f := args_OnceE) rfl (fun a h => by first | exact args_Once_spec h | simpa only [evs, tys, evl] using args_Once_spec h) (fun a => by first | rfl | simp only [args_OnceE, evk, chks]) fun y36 hy36 => ?_
            try simp only [args_OnceE, evs, tys]
            refine Imp.cnd ?_ ?_
            · refine Imp.call (f := seinelaw16_awakeE) rfl (fun a h => by first | exact seinelaw16_awake_spec h | simpa only [evs, tys, evl] using seinelaw16_awake_spec h) (fun a => by first | rfl | simp only [seinelaw16_awakeE, evk, chks]) fun y38 hy38 => ?_
              try simp only [seinelaw16_awakeE, evs, tys]
              exact Imp.some (by first | rfl | simp only [seinelaw16_ArgsTurnedE, evs, tys, evl])
            · exact Imp.some (by first | rfl | simp only [seinelaw16_ArgsTurnedE, evs, tys, evl])
theorem seinelaw16_ArgsTurned_run {params : List GParam} {l0 : List GMember} {by0 : Int} {r : Bool} (h : seinelaw16_ArgsTurned_B params l0 by0 = some r) : seinelaw16_ArgsTurned params l0 by0 = some r := by
  obtain ⟨v, hv, rfl⟩ := seinelaw16_ArgsTurned_imp params l0 by0 r h
  exact tO_of (pair_inj seinelaw16_ArgsTurnedEj) (OL_runD seinelaw16_ArgsTurned_ds rfl rfl Try.func4 ((seinelaw16_ArgsTurned_t1 _ _ params l0 by0).trans hv))

def seinelaw16_small_i1_T1 (O : Orc) (LP : LBody → LBody) (params : List GParam) : Option (PV × UP) :=
  callp O 19 [(.agg [(.slice [(.agg [(.int .i64 0), (.str []), (.slice [] [] false), (.slice [] [] false), (.slice [] [] false), (.slice (List.map encParam params) [] false)])] [] false), (.str []), (.str [])])] fun x1 => cnd (chk .bool x1)
  (cnd (boolV x1)
   (callp O 20 [(.agg [(.int .i64 0), (.int .i64 0), (.str []), (.slice [] [] false), (.slice [] [] false)])] fun x3 => cnd (chk (.int .i64) x3)
   (some ((.bool (decide ((intV x3) ≤ 2000))), [])) none)
   (some ((.bool false), []))) none
noncomputable def seinelaw16_small_i1_B (params : List GParam) : Option Bool :=
  bnd (seinelaw8_Light (GSchema.mk [(GDef.mk 0 [] ([] : List Str) ([] : List GFieldDef) ([] : List Str) params)] [] [])) fun y2 =>
  cnd y2
   (bnd (seinekeep_Size (GValue.mk 0 0 [] ([] : List GValue) ([] : List GMember))) fun y4 =>
   some (decide (y4 ≤ 2000)))
   (some false)
def seinelaw16_small_i1_ds : Decs := { decs := [(9, .bool), (13, (.int .i64))], ups := [], loops := [] }
set_option maxRecDepth 100000 in
theorem seinelaw16_small_i1_t1 (O : Orc) (LP : LBody → LBody) (params : List GParam) : evalBodyD Try.prog (MT 6) seinelaw16_small_i1_ds Try.f6.ntmps O LP Try.f6 [(.slice (List.map encParam params) [] false), (.slice [] [] true)] [] = seinelaw16_small_i1_T1 O LP params := by kernel_rfl
theorem seinelaw16_small_i1_imp (params : List GParam) : Imp (seinelaw16_small_i1_B params) (seinelaw16_small_i1_T1 O loopLim params) (fun r v => v = (seinelaw16_small_i1E r, [])) := by
  simp only [seinelaw16_small_i1_B, seinelaw16_small_i1_T1]
  try simp only [evs, tys]
  refine Imp.call (f := seinelaw8_LightE) rfl (fun a h => by first | exact seinelaw8_Light_spec h | simpa only [evs, tys, evl] using seinelaw8_Light_spec h) (fun a => by first | rfl | simp only [seinelaw8_LightE, evk, chks]) fun y2 hy2 => ?_
  try simp only [seinelaw8_LightE, evs, tys]
  refine Imp.cnd ?_ ?_
  · refine Imp.call (f := seinekeep_SizeE) rfl (fun a h => by first | exact seinekeep_Size_spec h | simpa only [evs, tys, evl] using seinekeep_Size_spec h) (fun a => by first | rfl | simp only [seinekeep_SizeE, evk, chks]) fun y4 hy4 => ?_
    try simp only [seinekeep_SizeE, evs, tys]
    exact Imp.some (by first | rfl | simp only [seinelaw16_small_i1E, evs, tys, evl])
  · exact Imp.some (by first | rfl | simp only [seinelaw16_small_i1E, evs, tys, evl])
theorem seinelaw16_small_i1_run {params : List GParam} {r : Bool} (h : seinelaw16_small_i1_B params = some r) : seinelaw16_small_i1 params = some r := by
  obtain ⟨v, hv, rfl⟩ := seinelaw16_small_i1_imp params r h
  exact tO_of (pair_inj seinelaw16_small_i1Ej) (OL_runD seinelaw16_small_i1_ds rfl rfl Try.func6 ((seinelaw16_small_i1_t1 _ _ params).trans hv))
end Go.Proofs.Yteiccdhdfcbokaa

/- Printed by symgen.py: typed functions of this seat, and why they tell what the program does. -/
set_option linter.unusedVariables false
set_option linter.unusedSimpArgs false
open Go Go.Ev Go.Ev.PV
namespace Go.Proofs.Yteiccdhdfcbokaa
def seinelaw16_ArgsFull_l1 (O : Orc) (LP : LBody → LBody) : LBody := fun s29 s29u => cnd (chkL [(.sl false), (.int .i64), (.sl true), .bool, (.int .i64), (.int .i64)] s29) (cnd (chkU [] s29u)
  (cnd (decide ((intV (gt s29 5)) < (intV (gt s29 4))))
   (cnd (boolV (gt s29 3))
    (some (.nrm, [(.slice (esV (gt s29 0)) [] false), (.int .i64 (intV (gt s29 1))), (.slice (esV (gt s29 2)) [] true), (.bool true), (.int .i64 (intV (gt s29 4))), (.int .i64 (IntKind.wrap .i64 ((intV (gt s29 5)) + 1)))], []))
    (bnd (ix 10 (.slice (esV (gt s29 0)) [] false) (.int .i64 (intV (gt s29 5)))) fun x36 => cnd (chk (.ref shParam) x36)
    (bnd (ix 10 (.slice (esV (gt s29 0)) [] false) (.int .i64 (intV (gt s29 4)))) fun x38 => cnd (chk (.ref shParam) x38)
    (some (.nrm, [(.slice (esV (gt s29 0)) [] false), (.int .i64 (intV (gt s29 1))), (.slice (esV (gt s29 2)) [] true), (.bool ((strV (gt (aggV (refV x36)) 0)) == (strV (gt (aggV (refV x38)) 0)))), (.int .i64 (intV (gt s29 4))), (.int .i64 (IntKind.wrap .i64 ((intV (gt s29 5)) + 1)))], [])) none) none))
   (some (.brk 2, [(.slice (esV (gt s29 0)) [] false), (.int .i64 (intV (gt s29 1))), (.slice (esV (gt s29 2)) [] true), (.bool (boolV (gt s29 3))), (.int .i64 (intV (gt s29 4))), (.int .i64 (intV (gt s29 5)))], []))) none) none
def seinelaw16_ArgsFull_l2 (O : Orc) (LP : LBody → LBody) : LBody := fun s7 s7u => cnd (chkL [(.sl false), (.int .i64), (.sl true), .bool, (.int .i64)] s7) (cnd (chkU [] s7u)
  (cnd (decide ((intV (gt s7 4)) < (List.length (esV (gt s7 0)) : Int)))
   (bnd (LP (seinelaw16_ArgsFull_l1 O LP) [(.slice (esV (gt s7 0)) [] false), (.int .i64 (intV (gt s7 1))), (.slice (esV (gt s7 2)) [] true), (.bool (boolV (gt s7 3))), (.int .i64 (intV (gt s7 4))), (.int .i64 0)] []) fun y42 =>
   exIs y42.1 (some 2) (cnd (chkL [(.sl false), (.int .i64), (.sl true), .bool, (.int .i64), (.int .i64)] y42.2.1) (cnd (chkU [] y42.2.2)
    (bnd (ix 10 (.slice (esV (gt y42.2.1 0)) [] false) (.int .i64 (intV (gt y42.2.1 4)))) fun x43 => cnd (chk (.ref shParam) x43)
    (bnd (apd 6 (.slice (esV (gt y42.2.1 2)) [] true) (.slice [(.agg [(.str (strV (gt (aggV (refV x43)) 0))), (.int .i64 0), (.int .i64 0), (.str []), (.slice [] [] false), (.slice [] [] false)])] [] true)) fun x45 => cnd (chk (.sl true) x45)
    (some (.nrm, [(.slice (esV (gt y42.2.1 0)) [] false), (.int .i64 (intV (gt y42.2.1 1))), (.slice (esV x45) [] true), (.bool (boolV (gt y42.2.1 3))), (.int .i64 (IntKind.wrap .i64 ((intV (gt y42.2.1 4)) + 1)))], [])) none) none) none) none)
   (none))
   (some (.brk 0, [(.slice (esV (gt s7 0)) [] false), (.int .i64 (intV (gt s7 1))), (.slice (esV (gt s7 2)) [] true), (.bool (boolV (gt s7 3))), (.int .i64 (intV (gt s7 4)))], []))) none) none
def seinelaw16_ArgsFull_T1 (O : Orc) (LP : LBody → LBody) (params : List GParam) (at0 : Int) : Option (PV × UP) :=
  callp O 6 [(.slice (List.map encParam params) [] false), (.slice [] [] true)] fun x1 => cnd (chk .bool x1)
  (cnd (!(boolV x1))
   (callp O 7 [] fun x3 => cnd (chk .bool x3)
   (some ((.bool (boolV x3)), [])) none)
   (cnd ((List.length (List.map encParam params) : Int) == 0)
    (callp O 7 [] fun x5 => cnd (chk .bool x5)
    (some ((.bool (boolV x5)), [])) none)
    (bnd (LP (seinelaw16_ArgsFull_l2 O LP) [(.slice (List.map encParam params) [] false), (.int .i64 at0), (.slice [] [] true), (.bool false), (.int .i64 0)] []) fun y50 =>
    exIs y50.1 (some 0) (cnd (chkL [(.sl false), (.int .i64), (.sl true), .bool, (.int .i64)] y50.2.1) (cnd (chkU [] y50.2.2)
     (bnd (bin .rem (.int .u64 (IntKind.wrap .u64 (intV (gt y50.2.1 1)))) (.int .u64 (IntKind.wrap .u64 (List.length (esV (gt y50.2.1 0)) : Int)))) fun x51 => cnd (chk (.int .u64) x51)
     (bnd (slcHi 6 (.slice (esV (gt y50.2.1 2)) [] false) (.int .i64 (IntKind.wrap .i64 (intV x51)))) fun x53 => cnd (chk (.slb false) x53)
     (bnd (apd 6 (.slice [] [] true) (.slice (esV x53) (bsV x53) false)) fun x55 => cnd (chk (.sl true) x55)
     (bnd (slcLo 6 (.slice (esV (gt y50.2.1 2)) [] false) (.int .i64 (IntKind.wrap .i64 ((IntKind.wrap .i64 (intV x51)) + 1)))) fun x57 => cnd (chk (.slb false) x57)
     (bnd (apd 6 (.slice (esV x55) [] true) (.slice (esV x57) (bsV x57) false)) fun x59 => cnd (chk (.sl true) x59)
     (callp O 10 [(.slice (esV (gt y50.2.1 0)) [] false), (.slice (esV (gt y50.2.1 2)) [] false)] fun x61 => cnd (chk .bool x61)
     (cnd (!(boolV x61))
      (some ((.bool false), []))
      (callp O 12 [(.slice (esV (gt y50.2.1 2)) [] false)] fun x63 => cnd (chk .bool x63)
      (cnd ((boolV x63) == (boolV (gt y50.2.1 3)))
       (some ((.bool false), []))
       (callp O 14 [(.slice (esV (gt y50.2.1 0)) [] false), (.slice (esV (gt y50.2.1 2)) [] false)] fun x65 => cnd (chk .bool x65)
       (cnd (!(boolV x65))
        (some ((.bool false), []))
        (cnd (boolV (gt y50.2.1 3))
         (callp O 7 [] fun x67 => cnd (chk .bool x67)
         (some ((.bool (boolV x67)), [])) none)
         (callp O 14 [(.slice (esV (gt y50.2.1 0)) [] false), (.slice (esV x59) [] false)] fun x69 => cnd (chk .bool x69)
         (bnd (ix 10 (.slice (esV (gt y50.2.1 0)) [] false) (.int .i64 (IntKind.wrap .i64 (intV x51)))) fun x71 => cnd (chk (.ref shParam) x71)
         (cnd (boolV (gt (aggV (refV x71)) 4))
          (cnd ((boolV x69) == true)
           (callp O 7 [] fun x73 => cnd (chk .bool x73)
           (some ((.bool (boolV x73)), [])) none)
           (some ((.bool false), [])))
          (bnd (ix 10 (.slice (esV (gt y50.2.1 0)) [] false) (.int .i64 (IntKind.wrap .i64 (intV x51)))) fun x75 => cnd (chk (.ref shParam) x75)
          (callp O 18 [(.agg [(.str (strV (gt (aggV (refV x75)) 1))), (.int .i64 (intV (gt (aggV (refV x75)) 2))), (.int .i64 (intV (gt (aggV (refV x75)) 3)))])] fun x77 => cnd (chk .bool x77)
          (cnd ((boolV x69) == (!(boolV x77)))
           (callp O 7 [] fun x79 => cnd (chk .bool x79)
           (some ((.bool (boolV x79)), [])) none)
           (some ((.bool false), []))) none) none)) none) none))) none)) none)) none) none) none) none) none) none) none) none)
    (none)))) none
noncomputable def seinelaw16_ArgsFull_l1T (params : List GParam) (i_28 : Int) : (Bool × Int) → Option ((Bool × Int) ⊕ Bool)
  | (twice_34, k_35) =>
  cnd (decide (k_35 < i_28))
   (cnd twice_34
    (some (.inl (true, (IntKind.wrap .i64 (k_35 + 1)))))
    (bnd (nthI params k_35) fun y37 =>
    bnd (nthI params i_28) fun y39 =>
    some (.inl ((y37.name == y39.name), (IntKind.wrap .i64 (k_35 + 1))))))
   (some (.inr twice_34))
abbrev seinelaw16_ArgsFull_l1R (params : List GParam) (at0 : Int) (l_26 : List GMember) (i_28 : Int) (st : Bool × Int) (l : List PV) (u : UP) : Prop := l = [(.slice (List.map encParam params) [] false), (.int .i64 at0), (.slice (List.map encMember l_26) [] true), (.bool st.1), (.int .i64 i_28), (.int .i64 st.2)] ∧ u = []
abbrev seinelaw16_ArgsFull_l1X (params : List GParam) (at0 : Int) (l_26 : List GMember) (i_28 : Int) (p : Bool) (r : Ex × List PV × UP) : Prop := (fun (p : Bool) => ∃ (k_41 : Int), r = (Ex.brk 2, [(.slice (List.map encParam params) [] false), (.int .i64 at0), (.slice (List.map encMember l_26) [] true), (.bool p), (.int .i64 i_28), (.int .i64 k_41)], [])) p
noncomputable def seinelaw16_ArgsFull_l2T (params : List GParam) : ((List GMember) × Bool × Int) → Option (((List GMember) × Bool × Int) ⊕ (((List GMember) × Bool)))
  | (l_26, twice_27, i_28) =>
  cnd (decide (i_28 < (List.length params : Int)))
   (bnd (tloop (seinelaw16_ArgsFull_l1T params i_28) (twice_27, 0)) fun twice_40 =>
   bnd (nthI params i_28) fun y44 =>
   bnd (tapp l_26 [(GMember.mk y44.name (GValue.mk 0 0 [] ([] : List GValue) ([] : List GMember)))]) fun y46 =>
   some (.inl (y46, twice_40, (IntKind.wrap .i64 (i_28 + 1)))))
   (some (.inr (l_26, twice_27)))
abbrev seinelaw16_ArgsFull_l2R (params : List GParam) (at0 : Int) (st : (List GMember) × Bool × Int) (l : List PV) (u : UP) : Prop := l = [(.slice (List.map encParam params) [] false), (.int .i64 at0), (.slice (List.map encMember st.1) [] true), (.bool st.2.1), (.int .i64 st.2.2)] ∧ u = []
abbrev seinelaw16_ArgsFull_l2X (params : List GParam) (at0 : Int) (p : ((List GMember) × Bool)) (r : Ex × List PV × UP) : Prop := (fun (p : (List GMember) × Bool) => ∃ (i_49 : Int), r = (Ex.brk 0, [(.slice (List.map encParam params) [] false), (.int .i64 at0), (.slice (List.map encMember p.1) [] true), (.bool p.2), (.int .i64 i_49)], [])) p
noncomputable def seinelaw16_ArgsFull_B (params : List GParam) (at0 : Int) : Option Bool :=
  bnd (seinelaw16_small_i1 params) fun y2 =>
  cnd (!y2)
   (bnd (seinelaw16_awake) fun y4 =>
   some y4)
   (cnd ((List.length params : Int) == 0)
    (bnd (seinelaw16_awake) fun y6 =>
    some y6)
    (bnd (tloop (seinelaw16_ArgsFull_l2T params) ([], false, 0)) fun p50 =>
    bnd (trem0 (IntKind.wrap .u64 at0) (IntKind.wrap .u64 (List.length params : Int))) fun y52 =>
    bnd (tslc (p50.1 : List GMember) 0 (IntKind.wrap .i64 y52)) fun y54 =>
    bnd (tapp ([] : List GMember) y54) fun y56 =>
    bnd (tslc (p50.1 : List GMember) (IntKind.wrap .i64 ((IntKind.wrap .i64 y52) + 1)) (List.length p50.1)) fun y58 =>
    bnd (tapp y56 y58) fun y60 =>
    bnd (args_Known params p50.1) fun y62 =>
    cnd (!y62)
     (some false)
     (bnd (args_Once p50.1) fun y64 =>
     cnd (y64 == p50.2)
      (some false)
      (bnd (args_Needed params p50.1) fun y66 =>
      cnd (!y66)
       (some false)
       (cnd p50.2
        (bnd (seinelaw16_awake) fun y68 =>
        some y68)
        (bnd (args_Needed params y60) fun y70 =>
        bnd (nthI params (IntKind.wrap .i64 y52)) fun y72 =>
        cnd y72.has
         (cnd (y70 == true)
          (bnd (seinelaw16_awake) fun y74 =>
          some y74)
          (some false))
         (bnd (nthI params (IntKind.wrap .i64 y52)) fun y76 =>
         bnd (wrap_Is y76.t) fun y78 =>
         cnd (y70 == (!y78))
          (bnd (seinelaw16_awake) fun y80 =>
          some y80)
          (some false))))))))
def seinelaw16_ArgsFull_ds : Decs := { decs := [(12, .bool), (19, .bool), (35, (.ref shParam)), (40, (.ref shParam)), (48, (.ref shParam)), (53, (.sl true)), (59, (.int .u64)), (63, (.slb false)), (64, (.sl true)), (68, (.slb false)), (69, (.sl true)), (72, .bool), (76, .bool), (83, .bool), (90, .bool), (93, (.ref shParam)), (99, (.ref shParam)), (102, .bool), (108, .bool)], ups := [], loops := [(6, [], ⟨[(.sl false), (.int .i64), (.sl true), .bool, (.int .i64)], [], [(some 0, [(.sl false), (.int .i64), (.sl true), .bool, (.int .i64)], [])]⟩), (9, [], ⟨[(.sl false), (.int .i64), (.sl true), .bool, (.int .i64), (.int .i64)], [], [(some 2, [(.sl false), (.int .i64), (.sl true), .bool, (.int .i64), (.int .i64)], [])]⟩)] }
set_option maxRecDepth 100000 in
theorem seinelaw16_ArgsFull_t1 (O : Orc) (LP : LBody → LBody) (params : List GParam) (at0 : Int) : evalBodyD Try.prog (MT 5) seinelaw16_ArgsFull_ds Try.f5.ntmps O LP Try.f5 [(.slice (List.map encParam params) [] false), (.int .i64 at0)] [] = seinelaw16_ArgsFull_T1 O LP params at0 := by kernel_rfl
theorem seinelaw16_ArgsFull_l1_ok (params : List GParam) (at0 : Int) (l_26 : List GMember) (i_28 : Int) : ∀ st l u, seinelaw16_ArgsFull_l1R params at0 l_26 i_28 st l u → Imp (seinelaw16_ArgsFull_l1T params i_28 st) (seinelaw16_ArgsFull_l1 O loopLim l u) (StepR (seinelaw16_ArgsFull_l1R params at0 l_26 i_28) (seinelaw16_ArgsFull_l1X params at0 l_26 i_28)) := by
  rintro ⟨twice_34, k_35⟩ l u ⟨rfl, rfl⟩
  simp only [seinelaw16_ArgsFull_l1T, seinelaw16_ArgsFull_l1]
  refine Imp.chk rfl (Imp.chk rfl ?_)
  try simp only [evs, tys]
  refine Imp.cnd ?_ ?_
  · refine Imp.cnd ?_ ?_
    · exact Imp.some (StepR.next ⟨by first | rfl | simp only [evs, tys, evl], rfl⟩)
    · refine Imp.op (f := fun a => .ref (encParam a)) (fun a h => op_ix (enc := encParam) (by first | rfl | simp only [evs, tys, evl]) ⟨by first | rfl | simp only [evs, tys, evc], by decide⟩ h) (fun a => chk_GParam a) fun y37 hy37 => ?_
      try simp only [evs, tys]
      refine Imp.op (f := fun a => .ref (encParam a)) (fun a h => op_ix (enc := encParam) (by first | rfl | simp only [evs, tys, evl]) ⟨by first | rfl | simp only [evs, tys, evc], by decide⟩ h) (fun a => chk_GParam a) fun y39 hy39 => ?_
      try simp only [evs, tys]
      exact Imp.some (StepR.next ⟨by first | rfl | simp only [evs, tys, evl], rfl⟩)
  · exact Imp.some (StepR.brk ⟨k_35, by first | rfl | simp only [evs, tys, evl, elim_inl, elim_inr]⟩)
theorem seinelaw16_ArgsFull_l2_ok (params : List GParam) (at0 : Int) : ∀ st l u, seinelaw16_ArgsFull_l2R params at0 st l u → Imp (seinelaw16_ArgsFull_l2T params st) (seinelaw16_ArgsFull_l2 O loopLim l u) (StepR (seinelaw16_ArgsFull_l2R params at0) (seinelaw16_ArgsFull_l2X params at0)) := by
  rintro ⟨l_26, twice_27, i_28⟩ l u ⟨rfl, rfl⟩
  simp only [seinelaw16_ArgsFull_l2T, seinelaw16_ArgsFull_l2]
  refine Imp.chk rfl (Imp.chk rfl ?_)
  try simp only [evs, tys]
  refine Imp.cnd ?_ ?_
  · refine Imp.bnd (Imp.loop (seinelaw16_ArgsFull_l1_ok params at0 l_26 i_28) ⟨by first | rfl | simp only [evs, tys, evl], rfl⟩) ?_
    rintro twice_40 vy42 hy42
    obtain ⟨k_41, rfl⟩ := hy42
    refine Imp.exHit rfl (Imp.chk rfl (Imp.chk rfl ?_))
    try simp only [evs, tys]
    refine Imp.op (f := fun a => .ref (encParam a)) (fun a h => op_ix (enc := encParam) (by first | rfl | simp only [evs, tys, evl]) ⟨by first | rfl | simp only [evs, tys, evc], by decide⟩ h) (fun a => chk_GParam a) fun y44 hy44 => ?_
    try simp only [evs, tys]
    refine Imp.op (f := fun a => .slice (List.map encMember a) [] true) (fun a h => op_apd (enc := encMember) (by first | rfl | simp only [evs, tys, evl]) (by first | rfl | simp only [evs, tys, evl]) (fun a => by first | rfl | simp only [evs, tys, evc]) h) (fun a => rfl) fun y46 hy46 => ?_
    try simp only [evs, tys]
    exact Imp.some (StepR.next ⟨by first | rfl | simp only [evs, tys, evl], rfl⟩)
  · exact Imp.some (StepR.brk ⟨i_28, by first | rfl | simp only [evs, tys, evl, elim_inl, elim_inr]⟩)
theorem seinelaw16_ArgsFull_imp (params : List GParam) (at0 : Int) : Imp (seinelaw16_ArgsFull_B params at0) (seinelaw16_ArgsFull_T1 O loopLim params at0) (fun r v => v = (seinelaw16_ArgsFullE r, [])) := by
  simp only [seinelaw16_ArgsFull_B, seinelaw16_ArgsFull_T1]
  try simp only [evs, tys]
  refine Imp.call (f := seinelaw16_small_i1E) rfl (fun a h => by first | exact seinelaw16_small_i1_spec h | simpa only [evs, tys, evl] using seinelaw16_small_i1_spec h) (fun a => by first | rfl | simp only [seinelaw16_small_i1E, evk, chks]) fun y2 hy2 => ?_
  try simp only [seinelaw16_small_i1E, evs, tys]
  refine Imp.cnd ?_ ?_
  · refine Imp.call (f := seinelaw16_awakeE) rfl (fun a h => by first | exact seinelaw16_awake_spec h | simpa only [evs, tys, evl] using seinelaw16_awake_spec h) (fun a => by first | rfl | simp only [seinelaw16_awakeE, evk, chks]) fun y4 hy4 => ?_
    try simp only [seinelaw16_awakeE, evs, tys]
    exact Imp.some (by first | rfl | simp only [seinelaw16_ArgsFullE, evs, tys, evl])
  · refine Imp.cnd ?_ ?_
    · refine Imp.call (f := seinelaw16_awakeE) rfl (fun a h => by first | exact seinelaw16_awake_spec h | simpa only [evs, tys, evl] using seinelaw16_awake_spec h) (fun a => by first | rfl | simp only [seinelaw16_awakeE, evk, chks]) fun y6 hy6 => ?_
      try simp only [seinelaw16_awakeE, evs, tys]
      exact Imp.some (by first | rfl | simp only [seinelaw16_ArgsFullE, evs, tys, evl])
    · refine Imp.bnd (Imp.loop (seinelaw16_ArgsFull_l2_ok params at0) ⟨by first | rfl | simp only [evs, tys, evl], rfl⟩) ?_
      rintro ⟨l_47, twice_48⟩ vy50 hy50
      obtain ⟨i_49, rfl⟩ := hy50
      refine Imp.exHit rfl (Imp.chk rfl (Imp.chk rfl ?_))
      try simp only [evs, tys]
      refine Imp.op (f := fun a => .int _ a) (fun a h => op_rem h) (fun a => rfl) fun y52 hy52 => ?_
      try simp only [evs, tys]
      refine Imp.op2 (f := fun a b => .slice (List.map encMember a) (List.map encMember b) false) (fun a h => op_slcHi (enc := encMember) (b := _) (by first | rfl | simp only [evs, tys, evl]) (by first | rfl | exact List.map_nil.symm | simp only [evs, tys, evl]) (fun a => by first | rfl | simp only [evs, tys, evc]) h) (fun a b => rfl) fun y54 jby54 hy54 => ?_
      try simp only [evs, tys]
      refine Imp.op (f := fun a => .slice (List.map encMember a) [] true) (fun a h => op_apd (enc := encMember) (by first | rfl | simp only [evs, tys, evl]) (by first | rfl | simp only [evs, tys, evl]) (fun a => by first | rfl | simp only [evs, tys, evc]) h) (fun a => rfl) fun y56 hy56 => ?_
      try simp only [evs, tys]
      refine Imp.op2 (f := fun a b => .slice (List.map encMember a) (List.map encMember b) false) (fun a h => op_slcLo (enc := encMember) (b := _) (by first | rfl | simp only [evs, tys, evl]) (by first | rfl | exact List.map_nil.symm | simp only [evs, tys, evl]) (fun a => by first | rfl | simp only [evs, tys, evc]) h) (fun a b => rfl) fun y58 jby58 hy58 => ?_
      try simp only [evs, tys]
      refine Imp.op (f := fun a => .slice (List.map encMember a) [] true) (fun a h => op_apd (enc := encMember) (by first | rfl | simp only [evs, tys, evl]) (by first | rfl | simp only [evs, tys, evl]) (fun a => by first | rfl | simp only [evs, tys, evc]) h) (fun a => rfl) fun y60 hy60 => ?_
      try simp only [evs, tys]
      refine Imp.call (f := args_KnownE) rfl (fun a h => by first | exact args_Known_spec h | simpa only [evs, tys, evl] using args_Known_spec h) (fun a => by first | rfl | simp only [args_KnownE, evk, chks]) fun y62 hy62 => ?_
      try simp only [args_KnownE, evs, tys]
      refine Imp.cnd ?_ ?_
      · exact Imp.some (by first | rfl | simp only [seinelaw16_ArgsFullE, evs, tys, evl])
      · refine Imp.call (f := args_OnceE) rfl (fun a h => by first | exact args_Once_spec h | simpa only [evs, tys, evl] using args_Once_spec h) (fun a => by first | rfl | simp only [args_OnceE, evk, chks]) fun y64 hy64 => ?_
        try simp only [args_OnceE, evs, tys]
        refine Imp.cnd ?_ ?_
        · exact Imp.some (by first | rfl | simp only [seinelaw16_ArgsFullE, evs, tys, evl])
        · refine Imp.call (f := args_NeededE) rfl (fun a h => by first | exact args_Needed_spec h | simpa only [evs, tys, evl] using args_Needed_spec h) (fun a => by first | rfl | simp only [args_NeededE, evk, chks]) fun y66 hy66 => ?_
          try simp only [args_NeededE, evs, tys]
          refine Imp.cnd ?_ ?_
          · exact Imp.some (by first | rfl | simp only [seinelaw16_ArgsFullE, evs, tys, evl])
          · refine Imp.cnd ?_ ?_
            · refine Imp.call (f := seinelaw16_awakeE) rfl (fun a h => by first | exact seinelaw16_awake_spec h | simpa only [evs, tys, evl] using seinelaw16_awake_spec h) (fun a => by first | rfl | simp only [seinelaw16_awakeE, evk, chks]) fun y68 hy68 => ?_
              try simp only [seinelaw16_awakeE, evs, tys]
              exact Imp.some (by first | rfl | simp only [seinelaw16_ArgsFullE, evs, tys, evl])
            · refine Imp.call (f := args_NeededE) rfl (fun a h => by first | exact args_Needed_spec h | simpa only [evs, tys, evl] using args_Needed_spec h) (fun a => by first | rfl | simp only [args_NeededE, evk, chks]) fun y70 hy70 => ?_
              try simp only [args_NeededE, evs, tys]
              refine Imp.op (f := fun a => .ref (encParam a)) (fun a h => op_ix (enc := encParam) (by first | rfl | simp only [evs, tys, evl]) ⟨by first | rfl | simp only [evs, tys, evc], by decide⟩ h) (fun a => chk_GParam a) fun y72 hy72 => ?_
              try simp only [evs, tys]
              refine Imp.cnd ?_ ?_
              · refine Imp.cnd ?_ ?_
                · refine Imp.call (f := seinelaw16_awakeE) rfl (fun a h => by first | exact seinelaw16_awake_spec h | simpa only [evs, tys, evl] using seinelaw16_awake_spec h) (fun a => by first | rfl | simp only [seinelaw16_awakeE, evk, chks]) fun y74 hy74 => ?_
                  try simp only [seinelaw16_awakeE, evs, tys]
                  exact Imp.some (by first | rfl | simp only [seinelaw16_ArgsFullE, evs, tys, evl])
                · exact Imp.some (by first | rfl | simp only [seinelaw16_ArgsFullE, evs, tys, evl])
              · refine Imp.op (f := fun a => .ref (encParam a)) (fun a h => op_ix (enc := encParam) (by first | rfl | simp only [evs, tys, evl]) ⟨by first | rfl | simp only [evs, tys, evc], by decide⟩ h) (fun a => chk_GParam a) fun y76 hy76 => ?_
                try simp only [evs, tys]
                refine Imp.call (f := wrap_IsE) rfl (fun a h => by first | exact wrap_Is_spec h | simpa only [evs, tys, evl] using wrap_Is_spec h) (fun a => by first | rfl | simp only [wrap_IsE, evk, chks]) fun y78 hy78 => ?_
                try simp only [wrap_IsE, evs, tys]
                refine Imp.cnd ?_ ?_
                · refine Imp.call (f := seinelaw16_awakeE) rfl (fun a h => by first | exact seinelaw16_awake_spec h | simpa only [evs, tys, evl] using seinelaw16_awake_spec h) (fun a => by first | rfl | simp only [seinelaw16_awakeE, evk, chks]) fun y80 hy80 => ?_
                  try simp only [seinelaw16_awakeE, evs, tys]
                  exact Imp.some (by first | rfl | simp only [seinelaw16_ArgsFullE, evs, tys, evl])
                · exact Imp.some (by first | rfl | simp only [seinelaw16_ArgsFullE, evs, tys, evl])
theorem seinelaw16_ArgsFull_run {params : List GParam} {at0 : Int} {r : Bool} (h : seinelaw16_ArgsFull_B params at0 = some r) : seinelaw16_ArgsFull params at0 = some r := by
  obtain ⟨v, hv, rfl⟩ := seinelaw16_ArgsFull_imp params at0 r h
  exact tO_of (pair_inj seinelaw16_ArgsFullEj) (OL_runD seinelaw16_ArgsFull_ds rfl rfl Try.func5 ((seinelaw16_ArgsFull_t1 _ _ params at0).trans hv))

def seinelaw16_small_T1 (O : Orc) (LP : LBody → LBody) (params : List GParam) (l0 : List GMember) : Option (PV × UP) :=
  callp O 19 [(.agg [(.slice [(.agg [(.int .i64 0), (.str []), (.slice [] [] false), (.slice [] [] false), (.slice [] [] false), (.slice (List.map encParam params) [] false)])] [] false), (.str []), (.str [])])] fun x1 => cnd (chk .bool x1)
  (cnd (boolV x1)
   (callp O 20 [(.agg [(.int .i64 0), (.int .i64 0), (.str []), (.slice [] [] false), (.slice (List.map encMember l0) [] false)])] fun x3 => cnd (chk (.int .i64) x3)
   (some ((.bool (decide ((intV x3) ≤ 2000))), [])) none)
   (some ((.bool false), []))) none
noncomputable def seinelaw16_small_B (params : List GParam) (l0 : List GMember) : Option Bool :=
  bnd (seinelaw8_Light (GSchema.mk [(GDef.mk 0 [] ([] : List Str) ([] : List GFieldDef) ([] : List Str) params)] [] [])) fun y2 =>
  cnd y2
   (bnd (seinekeep_Size (GValue.mk 0 0 [] ([] : List GValue) l0)) fun y4 =>
   some (decide (y4 ≤ 2000)))
   (some false)
def seinelaw16_small_ds : Decs := { decs := [(9, .bool), (13, (.int .i64))], ups := [], loops := [] }
set_option maxRecDepth 100000 in
theorem seinelaw16_small_t1 (O : Orc) (LP : LBody → LBody) (params : List GParam) (l0 : List GMember) : evalBodyD Try.prog (MT 6) seinelaw16_small_ds Try.f6.ntmps O LP Try.f6 [(.slice (List.map encParam params) [] false), (.slice (List.map encMember l0) [] false)] [] = seinelaw16_small_T1 O LP params l0 := by kernel_rfl
theorem seinelaw16_small_imp (params : List GParam) (l0 : List GMember) : Imp (seinelaw16_small_B params l0) (seinelaw16_small_T1 O loopLim params l0) (fun r v => v = (seinelaw16_smallE r, [])) := by
  simp only [seinelaw16_small_B, seinelaw16_small_T1]
  try simp only [evs, tys]
  refine Imp.call (f := seinelaw8_LightE) rfl (fun a h => by first | exact seinelaw8_Light_spec h | simpa only [evs, tys, evl] using seinelaw8_Light_spec h) (fun a => by first | rfl | simp only [seinelaw8_LightE, evk, chks]) fun y2 hy2 => ?_
  try simp only [seinelaw8_LightE, evs, tys]
  refine Imp.cnd ?_ ?_
  · refine Imp.call (f := seinekeep_SizeE) rfl (fun a h => by first | exact seinekeep_Size_spec h | simpa only [evs, tys, evl] using seinekeep_Size_spec h) (fun a => by first | rfl | simp only [seinekeep_SizeE, evk, chks]) fun y4 hy4 => ?_
    try simp only [seinekeep_SizeE, evs, tys]
    exact Imp.some (by first | rfl | simp only [seinelaw16_smallE, evs, tys, evl])
  · exact Imp.some (by first | rfl | simp only [seinelaw16_smallE, evs, tys, evl])
theorem seinelaw16_small_run {params : List GParam} {l0 : List GMember} {r : Bool} (h : seinelaw16_small_B params l0 = some r) : seinelaw16_small params l0 = some r := by
  obtain ⟨v, hv, rfl⟩ := seinelaw16_small_imp params l0 r h
  exact tO_of (pair_inj seinelaw16_smallEj) (OL_runD seinelaw16_small_ds rfl rfl Try.func6 ((seinelaw16_small_t1 _ _ params l0).trans hv))

theorem seinelaw16_awake_run {r : Bool} (n : Nat) (h : evalK Try.prog MT n 7 [] [] = some (seinelaw16_awakeE r, [])) : seinelaw16_awake = some r := tO_of (pair_inj seinelaw16_awakeEj) (evalK_OL (fun _ => rfl) n h)

def seinekeep_Params_T1 (O : Orc) (LP : LBody → LBody) (l0 : List GParam) : Option (PV × UP) :=
  bnd (apd 10 (.slice [] [] true) (.slice (List.map encParam l0) [] false)) fun x1 => cnd (chk (.sl true) x1)
  (some ((.slice (esV x1) [] false), [])) none
noncomputable def seinekeep_Params_B (l0 : List GParam) : Option (List GParam) :=
  bnd (tapp ([] : List GParam) l0) fun y2 =>
  some y2
def seinekeep_Params_ds : Decs := { decs := [(4, (.sl true))], ups := [], loops := [] }
set_option maxRecDepth 100000 in
theorem seinekeep_Params_t1 (O : Orc) (LP : LBody → LBody) (l0 : List GParam) : evalBodyD Try.prog (MT 8) seinekeep_Params_ds Try.f8.ntmps O LP Try.f8 [(.slice (List.map encParam l0) [] false)] [] = seinekeep_Params_T1 O LP l0 := by kernel_rfl
theorem seinekeep_Params_imp (l0 : List GParam) : Imp (seinekeep_Params_B l0) (seinekeep_Params_T1 O loopLim l0) (fun r v => v = (seinekeep_ParamsE r, [])) := by
  simp only [seinekeep_Params_B, seinekeep_Params_T1]
  try simp only [evs, tys]
  refine Imp.op (f := fun a => .slice (List.map encParam a) [] true) (fun a h => op_apd (enc := encParam) (by first | rfl | simp only [evs, tys, evl]) (by first | rfl | simp only [evs, tys, evl]) (fun a => by first | rfl | simp only [evs, tys, evc]) h) (fun a => rfl) fun y2 hy2 => ?_
  try simp only [evs, tys]
  exact Imp.some (by first | rfl | simp only [seinekeep_ParamsE, evs, tys, evl])
theorem seinekeep_Params_run {l0 : List GParam} {r : List GParam} (h : seinekeep_Params_B l0 = some r) : seinekeep_Params l0 = some r := by
  obtain ⟨v, hv, rfl⟩ := seinekeep_Params_imp l0 r h
  exact tO_of (pair_inj seinekeep_ParamsEj) (OL_runD seinekeep_Params_ds rfl rfl Try.func8 ((seinekeep_Params_t1 _ _ l0).trans hv))

def seinekeep_Members_l1 (O : Orc) (LP : LBody → LBody) : LBody := fun s1 s1u => cnd (chkL [(.sl false), (.sl true), (.int .i64)] s1) (cnd (chkU [] s1u)
  (cnd (decide ((intV (gt s1 2)) < (List.length (esV (gt s1 0)) : Int)))
   (bnd (ix 6 (.slice (esV (gt s1 0)) [] false) (.int .i64 (intV (gt s1 2)))) fun x12 => cnd (chk (.ref shMember) x12)
   (bnd (ix 6 (.slice (esV (gt s1 0)) [] false) (.int .i64 (intV (gt s1 2)))) fun x14 => cnd (chk (.ref shMember) x14)
   (callp O 23 [(.agg [(.int .i64 (intV (gt (aggV (refV x14)) 1))), (.int .i64 (intV (gt (aggV (refV x14)) 2))), (.str (strV (gt (aggV (refV x14)) 3))), (.slice (esV (gt (aggV (refV x14)) 4)) [] false), (.slice (esV (gt (aggV (refV x14)) 5)) [] false)])] fun x16 => cnd (chk shValue x16)
   (bnd (apd 6 (.slice (esV (gt s1 1)) [] true) (.slice [(.agg [(.str (strV (gt (aggV (refV x12)) 0))), (.int .i64 (intV (gt (aggV x16) 0))), (.int .i64 (intV (gt (aggV x16) 1))), (.str (strV (gt (aggV x16) 2))), (.slice (esV (gt (aggV x16) 3)) [] false), (.slice (esV (gt (aggV x16) 4)) [] false)])] [] true)) fun x18 => cnd (chk (.sl true) x18)
   (some (.nrm, [(.slice (esV (gt s1 0)) [] false), (.slice (esV x18) [] true), (.int .i64 (IntKind.wrap .i64 ((intV (gt s1 2)) + 1)))], [])) none) none) none) none)
   (some (.brk 0, [(.slice (esV (gt s1 0)) [] false), (.slice (esV (gt s1 1)) [] true), (.int .i64 (intV (gt s1 2)))], []))) none) none
def seinekeep_Members_T1 (O : Orc) (LP : LBody → LBody) (l0 : List GMember) : Option (PV × UP) :=
  bnd (LP (seinekeep_Members_l1 O LP) [(.slice (List.map encMember l0) [] false), (.slice [] [] true), (.int .i64 0)] []) fun y22 =>
  exIs y22.1 (some 0) (cnd (chkL [(.sl false), (.sl true), (.int .i64)] y22.2.1) (cnd (chkU [] y22.2.2)
   (some ((.slice (esV (gt y22.2.1 1)) [] false), [])) none) none)
  (none)
noncomputable def seinekeep_Members_l1T (l0 : List GMember) : ((List GMember) × Int) → Option (((List GMember) × Int) ⊕ ((List GMember)))
  | (out_10, i_11) =>
  cnd (decide (i_11 < (List.length l0 : Int)))
   (bnd (nthI l0 i_11) fun y13 =>
   bnd (nthI l0 i_11) fun y15 =>
   bnd (seinekeep_Value y15.v) fun y17 =>
   bnd (tapp out_10 [(GMember.mk y13.name y17)]) fun y19 =>
   some (.inl (y19, (IntKind.wrap .i64 (i_11 + 1)))))
   (some (.inr out_10))
abbrev seinekeep_Members_l1R (l0 : List GMember) (st : (List GMember) × Int) (l : List PV) (u : UP) : Prop := l = [(.slice (List.map encMember l0) [] false), (.slice (List.map encMember st.1) [] true), (.int .i64 st.2)] ∧ u = []
abbrev seinekeep_Members_l1X (l0 : List GMember) (p : (List GMember)) (r : Ex × List PV × UP) : Prop := (fun (p : (List GMember)) => ∃ (i_21 : Int), r = (Ex.brk 0, [(.slice (List.map encMember l0) [] false), (.slice (List.map encMember p) [] true), (.int .i64 i_21)], [])) p
noncomputable def seinekeep_Members_B (l0 : List GMember) : Option (List GMember) :=
  bnd (tloop (seinekeep_Members_l1T l0) ([], 0)) fun out_20 =>
  some out_20
def seinekeep_Members_ds : Decs := { decs := [(14, (.ref shMember)), (19, (.ref shMember)), (22, shValue), (25, (.sl true))], ups := [], loops := [(3, [], ⟨[(.sl false), (.sl true), (.int .i64)], [], [(some 0, [(.sl false), (.sl true), (.int .i64)], [])]⟩)] }
set_option maxRecDepth 100000 in
theorem seinekeep_Members_t1 (O : Orc) (LP : LBody → LBody) (l0 : List GMember) : evalBodyD Try.prog (MT 9) seinekeep_Members_ds Try.f9.ntmps O LP Try.f9 [(.slice (List.map encMember l0) [] false)] [] = seinekeep_Members_T1 O LP l0 := by kernel_rfl
theorem seinekeep_Members_l1_ok (l0 : List GMember) : ∀ st l u, seinekeep_Members_l1R l0 st l u → Imp (seinekeep_Members_l1T l0 st) (seinekeep_Members_l1 O loopLim l u) (StepR (seinekeep_Members_l1R l0) (seinekeep_Members_l1X l0)) := by
  rintro ⟨out_10, i_11⟩ l u ⟨rfl, rfl⟩
  simp only [seinekeep_Members_l1T, seinekeep_Members_l1]
  refine Imp.chk rfl (Imp.chk rfl ?_)
  try simp only [evs, tys]
  refine Imp.cnd ?_ ?_
  · refine Imp.op (f := fun a => .ref (encMember a)) (fun a h => op_ix (enc := encMember) (by first | rfl | simp only [evs, tys, evl]) ⟨by first | rfl | simp only [evs, tys, evc], by decide⟩ h) (fun a => chk_GMember a) fun y13 hy13 => ?_
    try simp only [evs, tys]
    refine Imp.op (f := fun a => .ref (encMember a)) (fun a h => op_ix (enc := encMember) (by first | rfl | simp only [evs, tys, evl]) ⟨by first | rfl | simp only [evs, tys, evc], by decide⟩ h) (fun a => chk_GMember a) fun y15 hy15 => ?_
    try simp only [evs, tys]
    refine Imp.call (f := seinekeep_ValueE) rfl (fun a h => by first | exact seinekeep_Value_spec h | simpa only [evs, tys, evl] using seinekeep_Value_spec h) (fun a => by first | rfl | simp only [seinekeep_ValueE, evk, chks]) fun y17 hy17 => ?_
    try simp only [seinekeep_ValueE, evs, tys]
    refine Imp.op (f := fun a => .slice (List.map encMember a) [] true) (fun a h => op_apd (enc := encMember) (by first | rfl | simp only [evs, tys, evl]) (by first | rfl | simp only [evs, tys, evl]) (fun a => by first | rfl | simp only [evs, tys, evc]) h) (fun a => rfl) fun y19 hy19 => ?_
    try simp only [evs, tys]
    exact Imp.some (StepR.next ⟨by first | rfl | simp only [evs, tys, evl], rfl⟩)
  · exact Imp.some (StepR.brk ⟨i_11, by first | rfl | simp only [evs, tys, evl, elim_inl, elim_inr]⟩)
theorem seinekeep_Members_imp (l0 : List GMember) : Imp (seinekeep_Members_B l0) (seinekeep_Members_T1 O loopLim l0) (fun r v => v = (seinekeep_MembersE r, [])) := by
  simp only [seinekeep_Members_B, seinekeep_Members_T1]
  try simp only [evs, tys]
  refine Imp.bnd (Imp.loop (seinekeep_Members_l1_ok l0) ⟨by first | rfl | simp only [evs, tys, evl], rfl⟩) ?_
  rintro out_20 vy22 hy22
  obtain ⟨i_21, rfl⟩ := hy22
  refine Imp.exHit rfl (Imp.chk rfl (Imp.chk rfl ?_))
  try simp only [evs, tys]
  exact Imp.some (by first | rfl | simp only [seinekeep_MembersE, evs, tys, evl])
theorem seinekeep_Members_run {l0 : List GMember} {r : List GMember} (h : seinekeep_Members_B l0 = some r) : seinekeep_Members l0 = some r := by
  obtain ⟨v, hv, rfl⟩ := seinekeep_Members_imp l0 r h
  exact tO_of (pair_inj seinekeep_MembersEj) (OL_runD seinekeep_Members_ds rfl rfl Try.func9 ((seinekeep_Members_t1 _ _ l0).trans hv))

def args_Known_l1 (O : Orc) (LP : LBody → LBody) : LBody := fun s1 s1u => cnd (chkL [(.sl false), .bool, (.sl false), (.int .i64), (.int .i64)] s1) (cnd (chkU [] s1u)
  (cnd (decide ((intV (gt s1 4)) < (intV (gt s1 3))))
   (bnd (ix 6 (.slice (esV (gt s1 2)) [] false) (.int .i64 (intV (gt s1 4)))) fun x7 => cnd (chk (.ref shMember) x7)
   (callp O 24 [(.slice (esV (gt s1 0)) [] false), (.str (strV (gt (aggV (refV x7)) 0)))] fun x9 => cnd (chk (.tup [shParam, .bool]) x9)
   (cnd (!(boolV (gt (tupV x9) 1)))
    (some (.ret, [(.slice (esV (gt s1 0)) [] false), (.bool false), (.slice (esV (gt s1 2)) [] false), (.int .i64 (intV (gt s1 3))), (.int .i64 (intV (gt s1 4)))], []))
    (some (.nrm, [(.slice (esV (gt s1 0)) [] false), (.bool (boolV (gt s1 1))), (.slice (esV (gt s1 2)) [] false), (.int .i64 (intV (gt s1 3))), (.int .i64 (IntKind.wrap .i64 ((intV (gt s1 4)) + 1)))], []))) none) none)
   (some (.brk 0, [(.slice (esV (gt s1 0)) [] false), (.bool (boolV (gt s1 1))), (.slice (esV (gt s1 2)) [] false), (.int .i64 (intV (gt s1 3))), (.int .i64 (intV (gt s1 4)))], []))) none) none
def args_Known_T1 (O : Orc) (LP : LBody → LBody) (params : List GParam) (l0 : List GMember) : Option (PV × UP) :=
  bnd (LP (args_Known_l1 O LP) [(.slice (List.map encParam params) [] false), (.bool false), (.slice (List.map encMember l0) [] false), (.int .i64 (List.length (List.map encMember l0) : Int)), (.int .i64 0)] []) fun y13 =>
  exIs y13.1 (some 0) (cnd (chkL [(.sl false), .bool, (.sl false), (.int .i64), (.int .i64)] y13.2.1) (cnd (chkU [] y13.2.2)
   (some ((.bool true), [])) none) none)
  (exIs y13.1 none (cnd (chkL [(.sl false), .bool, (.sl false), (.int .i64), (.int .i64)] y13.2.1) (cnd (chkU [] y13.2.2)
   (some ((.bool (boolV (gt y13.2.1 1))), [])) none) none)
  (none))
noncomputable def args_Known_l1T (params : List GParam) (l0 : List GMember) : Int → Option (Int ⊕ (Unit ⊕ Unit))
  | t_6 =>
  cnd (decide (t_6 < (List.length l0 : Int)))
   (bnd (nthI l0 t_6) fun y8 =>
   bnd (literal_Param params y8.name) fun y10 =>
   cnd (!y10.2)
    (some (.inr (.inr ())))
    (some (.inl (IntKind.wrap .i64 (t_6 + 1)))))
   (some (.inr (.inl ())))
abbrev args_Known_l1R (params : List GParam) (l0 : List GMember) (st : Int) (l : List PV) (u : UP) : Prop := l = [(.slice (List.map encParam params) [] false), (.bool false), (.slice (List.map encMember l0) [] false), (.int .i64 (List.length l0 : Int)), (.int .i64 st)] ∧ u = []
abbrev args_Known_l1X (params : List GParam) (l0 : List GMember) (p : Unit ⊕ Unit) (r : Ex × List PV × UP) : Prop := elim p (fun (p : Unit) => ∃ (t_11 : Int), r = (Ex.brk 0, [(.slice (List.map encParam params) [] false), (.bool false), (.slice (List.map encMember l0) [] false), (.int .i64 (List.length l0 : Int)), (.int .i64 t_11)], [])) (fun q2 => (fun (p : Unit) => ∃ (t_12 : Int), r = (Ex.ret, [(.slice (List.map encParam params) [] false), (.bool false), (.slice (List.map encMember l0) [] false), (.int .i64 (List.length l0 : Int)), (.int .i64 t_12)], [])) q2)
noncomputable def args_Known_B (params : List GParam) (l0 : List GMember) : Option Bool :=
  bnd (tloop (args_Known_l1T params l0) 0) fun e13_2 => elim e13_2
  (fun p13 =>
   some true)
  (fun p13 =>
  some false)
def args_Known_ds : Decs := { decs := [(13, (.ref shMember)), (19, (.tup [shParam, .bool]))], ups := [], loops := [(2, [], ⟨[(.sl false), .bool, (.sl false), (.int .i64), (.int .i64)], [], [(some 0, [(.sl false), .bool, (.sl false), (.int .i64), (.int .i64)], []), (none, [(.sl false), .bool, (.sl false), (.int .i64), (.int .i64)], [])]⟩)] }
set_option maxRecDepth 100000 in
theorem args_Known_t1 (O : Orc) (LP : LBody → LBody) (params : List GParam) (l0 : List GMember) : evalBodyD Try.prog (MT 10) args_Known_ds Try.f10.ntmps O LP Try.f10 [(.slice (List.map encParam params) [] false), (.slice (List.map encMember l0) [] false)] [] = args_Known_T1 O LP params l0 := by kernel_rfl
theorem args_Known_l1_ok (params : List GParam) (l0 : List GMember) : ∀ st l u, args_Known_l1R params l0 st l u → Imp (args_Known_l1T params l0 st) (args_Known_l1 O loopLim l u) (StepR (args_Known_l1R params l0) (args_Known_l1X params l0)) := by
  rintro t_6 l u ⟨rfl, rfl⟩
  simp only [args_Known_l1T, args_Known_l1]
  refine Imp.chk rfl (Imp.chk rfl ?_)
  try simp only [evs, tys]
  refine Imp.cnd ?_ ?_
  · refine Imp.op (f := fun a => .ref (encMember a)) (fun a h => op_ix (enc := encMember) (by first | rfl | simp only [evs, tys, evl]) ⟨by first | rfl | simp only [evs, tys, evc], by decide⟩ h) (fun a => chk_GMember a) fun y8 hy8 => ?_
    try simp only [evs, tys]
    refine Imp.call (f := literal_ParamE) rfl (fun a h => by first | exact literal_Param_spec h | simpa only [evs, tys, evl] using literal_Param_spec h) (fun a => by first | rfl | simp only [literal_ParamE, evk, chks]) fun y10 hy10 => ?_
    try simp only [literal_ParamE, evs, tys]
    refine Imp.cnd ?_ ?_
    · exact Imp.some (StepR.ret ⟨t_6, by first | rfl | simp only [evs, tys, evl, elim_inl, elim_inr]⟩)
    · exact Imp.some (StepR.next ⟨by first | rfl | simp only [evs, tys, evl], rfl⟩)
  · exact Imp.some (StepR.brk ⟨t_6, by first | rfl | simp only [evs, tys, evl, elim_inl, elim_inr]⟩)
theorem args_Known_imp (params : List GParam) (l0 : List GMember) : Imp (args_Known_B params l0) (args_Known_T1 O loopLim params l0) (fun r v => v = (args_KnownE r, [])) := by
  simp only [args_Known_B, args_Known_T1]
  try simp only [evs, tys]
  refine Imp.bnd (Imp.loop (args_Known_l1_ok params l0) ⟨by first | rfl | simp only [evs, tys, evl], rfl⟩) ?_
  rintro (p | p) vy13 hy13
  · try simp only [elim_inl, elim_inr]
    obtain ⟨t_11, rfl⟩ := hy13
    refine Imp.exHit rfl (Imp.chk rfl (Imp.chk rfl ?_))
    try simp only [evs, tys]
    exact Imp.some (by first | rfl | simp only [args_KnownE, evs, tys, evl])
  · try simp only [elim_inl, elim_inr]
    obtain ⟨t_12, rfl⟩ := hy13
    refine Imp.exMiss rfl ?_
    refine Imp.exHit rfl (Imp.chk rfl (Imp.chk rfl ?_))
    try simp only [evs, tys]
    exact Imp.some (by first | rfl | simp only [args_KnownE, evs, tys, evl])
theorem args_Known_run {params : List GParam} {l0 : List GMember} {r : Bool} (h : args_Known_B params l0 = some r) : args_Known params l0 = some r := by
  obtain ⟨v, hv, rfl⟩ := args_Known_imp params l0 r h
  exact tO_of (pair_inj args_KnownEj) (OL_runD args_Known_ds rfl rfl Try.func10 ((args_Known_t1 _ _ params l0).trans hv))
end Go.Proofs.Yteiccdhdfcbokaa

/- Printed by symgen.py: typed functions of this seat, and why they tell what the program does. -/
set_option linter.unusedVariables false
set_option linter.unusedSimpArgs false
open Go Go.Ev Go.Ev.PV
namespace Go.Proofs.Yteiccdhdfcbokaa
def seineref13_Known_l1 (O : Orc) (LP : LBody → LBody) : LBody := fun s1 s1u => cnd (chkL [(.sl false), (.sl false), .bool, (.int .i64)] s1) (cnd (chkU [] s1u)
  (cnd (decide ((intV (gt s1 3)) < (List.length (esV (gt s1 1)) : Int)))
   (bnd (ix 6 (.slice (esV (gt s1 1)) [] false) (.int .i64 (intV (gt s1 3)))) fun x7 => cnd (chk (.ref shMember) x7)
   (callp O 25 [(.slice (esV (gt s1 0)) [] false), (.str (strV (gt (aggV (refV x7)) 0)))] fun x9 => cnd (chk (.tup [shParam, .bool]) x9)
   (cnd (!(boolV (gt (tupV x9) 1)))
    (some (.ret, [(.slice (esV (gt s1 0)) [] false), (.slice (esV (gt s1 1)) [] false), (.bool false), (.int .i64 (intV (gt s1 3)))], []))
    (some (.nrm, [(.slice (esV (gt s1 0)) [] false), (.slice (esV (gt s1 1)) [] false), (.bool (boolV (gt s1 2))), (.int .i64 (IntKind.wrap .i64 ((intV (gt s1 3)) + 1)))], []))) none) none)
   (some (.brk 0, [(.slice (esV (gt s1 0)) [] false), (.slice (esV (gt s1 1)) [] false), (.bool (boolV (gt s1 2))), (.int .i64 (intV (gt s1 3)))], []))) none) none
def seineref13_Known_T1 (O : Orc) (LP : LBody → LBody) (l0 : List GParam) (m : List GMember) : Option (PV × UP) :=
  bnd (LP (seineref13_Known_l1 O LP) [(.slice (List.map encParam l0) [] false), (.slice (List.map encMember m) [] false), (.bool false), (.int .i64 0)] []) fun y13 =>
  exIs y13.1 (some 0) (cnd (chkL [(.sl false), (.sl false), .bool, (.int .i64)] y13.2.1) (cnd (chkU [] y13.2.2)
   (some ((.bool true), [])) none) none)
  (exIs y13.1 none (cnd (chkL [(.sl false), (.sl false), .bool, (.int .i64)] y13.2.1) (cnd (chkU [] y13.2.2)
   (some ((.bool (boolV (gt y13.2.1 2))), [])) none) none)
  (none))
noncomputable def seineref13_Known_l1T (l0 : List GParam) (m : List GMember) : Int → Option (Int ⊕ (Unit ⊕ Unit))
  | i_6 =>
  cnd (decide (i_6 < (List.length m : Int)))
   (bnd (nthI m i_6) fun y8 =>
   bnd (seineref9_Param l0 y8.name) fun y10 =>
   cnd (!y10.2)
    (some (.inr (.inr ())))
    (some (.inl (IntKind.wrap .i64 (i_6 + 1)))))
   (some (.inr (.inl ())))
abbrev seineref13_Known_l1R (l0 : List GParam) (m : List GMember) (st : Int) (l : List PV) (u : UP) : Prop := l = [(.slice (List.map encParam l0) [] false), (.slice (List.map encMember m) [] false), (.bool false), (.int .i64 st)] ∧ u = []
abbrev seineref13_Known_l1X (l0 : List GParam) (m : List GMember) (p : Unit ⊕ Unit) (r : Ex × List PV × UP) : Prop := elim p (fun (p : Unit) => ∃ (i_11 : Int), r = (Ex.brk 0, [(.slice (List.map encParam l0) [] false), (.slice (List.map encMember m) [] false), (.bool false), (.int .i64 i_11)], [])) (fun q2 => (fun (p : Unit) => ∃ (i_12 : Int), r = (Ex.ret, [(.slice (List.map encParam l0) [] false), (.slice (List.map encMember m) [] false), (.bool false), (.int .i64 i_12)], [])) q2)
noncomputable def seineref13_Known_B (l0 : List GParam) (m : List GMember) : Option Bool :=
  bnd (tloop (seineref13_Known_l1T l0 m) 0) fun e13_2 => elim e13_2
  (fun p13 =>
   some true)
  (fun p13 =>
  some false)
def seineref13_Known_ds : Decs := { decs := [(18, (.ref shMember)), (21, (.tup [shParam, .bool]))], ups := [], loops := [(2, [], ⟨[(.sl false), (.sl false), .bool, (.int .i64)], [], [(some 0, [(.sl false), (.sl false), .bool, (.int .i64)], []), (none, [(.sl false), (.sl false), .bool, (.int .i64)], [])]⟩)] }
set_option maxRecDepth 100000 in
theorem seineref13_Known_t1 (O : Orc) (LP : LBody → LBody) (l0 : List GParam) (m : List GMember) : evalBodyD Try.prog (MT 11) seineref13_Known_ds Try.f11.ntmps O LP Try.f11 [(.slice (List.map encParam l0) [] false), (.slice (List.map encMember m) [] false)] [] = seineref13_Known_T1 O LP l0 m := by kernel_rfl
theorem seineref13_Known_l1_ok (l0 : List GParam) (m : List GMember) : ∀ st l u, seineref13_Known_l1R l0 m st l u → Imp (seineref13_Known_l1T l0 m st) (seineref13_Known_l1 O loopLim l u) (StepR (seineref13_Known_l1R l0 m) (seineref13_Known_l1X l0 m)) := by
  rintro i_6 l u ⟨rfl, rfl⟩
  simp only [seineref13_Known_l1T, seineref13_Known_l1]
  refine Imp.chk rfl (Imp.chk rfl ?_)
  try simp only [evs, tys]
  refine Imp.cnd ?_ ?_
  · refine Imp.op (f := fun a => .ref (encMember a)) (fun a h => op_ix (enc := encMember) (by first | rfl | simp only [evs, tys, evl]) ⟨by first | rfl | simp only [evs, tys, evc], by decide⟩ h) (fun a => chk_GMember a) fun y8 hy8 => ?_
    try simp only [evs, tys]
    refine Imp.call (f := seineref9_ParamE) rfl (fun a h => by first | exact seineref9_Param_spec h | simpa only [evs, tys, evl] using seineref9_Param_spec h) (fun a => by first | rfl | simp only [seineref9_ParamE, evk, chks]) fun y10 hy10 => ?_
    try simp only [seineref9_ParamE, evs, tys]
    refine Imp.cnd ?_ ?_
    · exact Imp.some (StepR.ret ⟨i_6, by first | rfl | simp only [evs, tys, evl, elim_inl, elim_inr]⟩)
    · exact Imp.some (StepR.next ⟨by first | rfl | simp only [evs, tys, evl], rfl⟩)
  · exact Imp.some (StepR.brk ⟨i_6, by first | rfl | simp only [evs, tys, evl, elim_inl, elim_inr]⟩)
theorem seineref13_Known_imp (l0 : List GParam) (m : List GMember) : Imp (seineref13_Known_B l0 m) (seineref13_Known_T1 O loopLim l0 m) (fun r v => v = (seineref13_KnownE r, [])) := by
  simp only [seineref13_Known_B, seineref13_Known_T1]
  try simp only [evs, tys]
  refine Imp.bnd (Imp.loop (seineref13_Known_l1_ok l0 m) ⟨by first | rfl | simp only [evs, tys, evl], rfl⟩) ?_
  rintro (p | p) vy13 hy13
  · try simp only [elim_inl, elim_inr]
    obtain ⟨i_11, rfl⟩ := hy13
    refine Imp.exHit rfl (Imp.chk rfl (Imp.chk rfl ?_))
    try simp only [evs, tys]
    exact Imp.some (by first | rfl | simp only [seineref13_KnownE, evs, tys, evl])
  · try simp only [elim_inl, elim_inr]
    obtain ⟨i_12, rfl⟩ := hy13
    refine Imp.exMiss rfl ?_
    refine Imp.exHit rfl (Imp.chk rfl (Imp.chk rfl ?_))
    try simp only [evs, tys]
    exact Imp.some (by first | rfl | simp only [seineref13_KnownE, evs, tys, evl])
theorem seineref13_Known_run {l0 : List GParam} {m : List GMember} {r : Bool} (h : seineref13_Known_B l0 m = some r) : seineref13_Known l0 m = some r := by
  obtain ⟨v, hv, rfl⟩ := seineref13_Known_imp l0 m r h
  exact tO_of (pair_inj seineref13_KnownEj) (OL_runD seineref13_Known_ds rfl rfl Try.func11 ((seineref13_Known_t1 _ _ l0 m).trans hv))

def args_Once_l1 (O : Orc) (LP : LBody → LBody) : LBody := fun s1 s1u => cnd (chkL [(.sl false), .bool, (.sl false), (.int .i64), (.int .i64)] s1) (cnd (chkU [] s1u)
  (cnd (decide ((intV (gt s1 4)) < (intV (gt s1 3))))
   (bnd (ix 6 (.slice (esV (gt s1 2)) [] false) (.int .i64 (intV (gt s1 4)))) fun x9 => cnd (chk (.ref shMember) x9)
   (bnd (slcHi 6 (.slice (esV (gt s1 0)) [] false) (.int .i64 (intV (gt s1 4)))) fun x11 => cnd (chk (.slb false) x11)
   (callp O 26 [(.str (strV (gt (aggV (refV x9)) 0))), (.slice (esV x11) [] false)] fun x13 => cnd (chk (.tup [shValue, .bool]) x13)
   (cnd (boolV (gt (tupV x13) 1))
    (some (.ret, [(.slice (esV (gt s1 0)) [] false), (.bool false), (.slice (esV (gt s1 2)) [] false), (.int .i64 (intV (gt s1 3))), (.int .i64 (intV (gt s1 4)))], []))
    (some (.nrm, [(.slice (esV (gt s1 0)) [] false), (.bool (boolV (gt s1 1))), (.slice (esV (gt s1 2)) [] false), (.int .i64 (intV (gt s1 3))), (.int .i64 (IntKind.wrap .i64 ((intV (gt s1 4)) + 1)))], []))) none) none) none)
   (some (.brk 0, [(.slice (esV (gt s1 0)) [] false), (.bool (boolV (gt s1 1))), (.slice (esV (gt s1 2)) [] false), (.int .i64 (intV (gt s1 3))), (.int .i64 (intV (gt s1 4)))], []))) none) none
def args_Once_T1 (O : Orc) (LP : LBody → LBody) (l0 : List GMember) : Option (PV × UP) :=
  bnd (LP (args_Once_l1 O LP) [(.slice (List.map encMember l0) [] false), (.bool false), (.slice (List.map encMember l0) [] false), (.int .i64 (List.length (List.map encMember l0) : Int)), (.int .i64 0)] []) fun y17 =>
  exIs y17.1 (some 0) (cnd (chkL [(.sl false), .bool, (.sl false), (.int .i64), (.int .i64)] y17.2.1) (cnd (chkU [] y17.2.2)
   (some ((.bool true), [])) none) none)
  (exIs y17.1 none (cnd (chkL [(.sl false), .bool, (.sl false), (.int .i64), (.int .i64)] y17.2.1) (cnd (chkU [] y17.2.2)
   (some ((.bool (boolV (gt y17.2.1 1))), [])) none) none)
  (none))
noncomputable def args_Once_l1T (l0 : List GMember) : Int → Option (Int ⊕ (Unit ⊕ Unit))
  | t_8 =>
  cnd (decide (t_8 < (List.length l0 : Int)))
   (bnd (nthI l0 t_8) fun y10 =>
   bnd (tslc (l0 : List GMember) 0 t_8) fun y12 =>
   bnd (value_Get y10.name y12) fun y14 =>
   cnd y14.2
    (some (.inr (.inr ())))
    (some (.inl (IntKind.wrap .i64 (t_8 + 1)))))
   (some (.inr (.inl ())))
abbrev args_Once_l1R (l0 : List GMember) (st : Int) (l : List PV) (u : UP) : Prop := l = [(.slice (List.map encMember l0) [] false), (.bool false), (.slice (List.map encMember l0) [] false), (.int .i64 (List.length l0 : Int)), (.int .i64 st)] ∧ u = []
abbrev args_Once_l1X (l0 : List GMember) (p : Unit ⊕ Unit) (r : Ex × List PV × UP) : Prop := elim p (fun (p : Unit) => ∃ (t_15 : Int), r = (Ex.brk 0, [(.slice (List.map encMember l0) [] false), (.bool false), (.slice (List.map encMember l0) [] false), (.int .i64 (List.length l0 : Int)), (.int .i64 t_15)], [])) (fun q2 => (fun (p : Unit) => ∃ (t_16 : Int), r = (Ex.ret, [(.slice (List.map encMember l0) [] false), (.bool false), (.slice (List.map encMember l0) [] false), (.int .i64 (List.length l0 : Int)), (.int .i64 t_16)], [])) q2)
noncomputable def args_Once_B (l0 : List GMember) : Option Bool :=
  bnd (tloop (args_Once_l1T l0) 0) fun e17_2 => elim e17_2
  (fun p17 =>
   some true)
  (fun p17 =>
  some false)
def args_Once_ds : Decs := { decs := [(12, (.ref shMember)), (19, (.slb false)), (20, (.tup [shValue, .bool]))], ups := [], loops := [(2, [], ⟨[(.sl false), .bool, (.sl false), (.int .i64), (.int .i64)], [], [(some 0, [(.sl false), .bool, (.sl false), (.int .i64), (.int .i64)], []), (none, [(.sl false), .bool, (.sl false), (.int .i64), (.int .i64)], [])]⟩)] }
set_option maxRecDepth 100000 in
theorem args_Once_t1 (O : Orc) (LP : LBody → LBody) (l0 : List GMember) : evalBodyD Try.prog (MT 12) args_Once_ds Try.f12.ntmps O LP Try.f12 [(.slice (List.map encMember l0) [] false)] [] = args_Once_T1 O LP l0 := by kernel_rfl
theorem args_Once_l1_ok (l0 : List GMember) : ∀ st l u, args_Once_l1R l0 st l u → Imp (args_Once_l1T l0 st) (args_Once_l1 O loopLim l u) (StepR (args_Once_l1R l0) (args_Once_l1X l0)) := by
  rintro t_8 l u ⟨rfl, rfl⟩
  simp only [args_Once_l1T, args_Once_l1]
  refine Imp.chk rfl (Imp.chk rfl ?_)
  try simp only [evs, tys]
  refine Imp.cnd ?_ ?_
  · refine Imp.op (f := fun a => .ref (encMember a)) (fun a h => op_ix (enc := encMember) (by first | rfl | simp only [evs, tys, evl]) ⟨by first | rfl | simp only [evs, tys, evc], by decide⟩ h) (fun a => chk_GMember a) fun y10 hy10 => ?_
    try simp only [evs, tys]
    refine Imp.op2 (f := fun a b => .slice (List.map encMember a) (List.map encMember b) false) (fun a h => op_slcHi (enc := encMember) (b := _) (by first | rfl | simp only [evs, tys, evl]) (by first | rfl | exact List.map_nil.symm | simp only [evs, tys, evl]) (fun a => by first | rfl | simp only [evs, tys, evc]) h) (fun a b => rfl) fun y12 jby12 hy12 => ?_
    try simp only [evs, tys]
    refine Imp.call (f := value_GetE) rfl (fun a h => by first | exact value_Get_spec h | simpa only [evs, tys, evl] using value_Get_spec h) (fun a => by first | rfl | simp only [value_GetE, evk, chks]) fun y14 hy14 => ?_
    try simp only [value_GetE, evs, tys]
    refine Imp.cnd ?_ ?_
    · exact Imp.some (StepR.ret ⟨t_8, by first | rfl | simp only [evs, tys, evl, elim_inl, elim_inr]⟩)
    · exact Imp.some (StepR.next ⟨by first | rfl | simp only [evs, tys, evl], rfl⟩)
  · exact Imp.some (StepR.brk ⟨t_8, by first | rfl | simp only [evs, tys, evl, elim_inl, elim_inr]⟩)
theorem args_Once_imp (l0 : List GMember) : Imp (args_Once_B l0) (args_Once_T1 O loopLim l0) (fun r v => v = (args_OnceE r, [])) := by
  simp only [args_Once_B, args_Once_T1]
  try simp only [evs, tys]
  refine Imp.bnd (Imp.loop (args_Once_l1_ok l0) ⟨by first | rfl | simp only [evs, tys, evl], rfl⟩) ?_
  rintro (p | p) vy17 hy17
  · try simp only [elim_inl, elim_inr]
    obtain ⟨t_15, rfl⟩ := hy17
    refine Imp.exHit rfl (Imp.chk rfl (Imp.chk rfl ?_))
    try simp only [evs, tys]
    exact Imp.some (by first | rfl | simp only [args_OnceE, evs, tys, evl])
  · try simp only [elim_inl, elim_inr]
    obtain ⟨t_16, rfl⟩ := hy17
    refine Imp.exMiss rfl ?_
    refine Imp.exHit rfl (Imp.chk rfl (Imp.chk rfl ?_))
    try simp only [evs, tys]
    exact Imp.some (by first | rfl | simp only [args_OnceE, evs, tys, evl])
theorem args_Once_run {l0 : List GMember} {r : Bool} (h : args_Once_B l0 = some r) : args_Once l0 = some r := by
  obtain ⟨v, hv, rfl⟩ := args_Once_imp l0 r h
  exact tO_of (pair_inj args_OnceEj) (OL_runD args_Once_ds rfl rfl Try.func12 ((args_Once_t1 _ _ l0).trans hv))

def seineref13_Once_l1 (O : Orc) (LP : LBody → LBody) : LBody := fun s16 s16u => cnd (chkL [(.sl false), .bool, (.int .i64), (.int .i64)] s16) (cnd (chkU [] s16u)
  (cnd (decide ((intV (gt s16 3)) < (intV (gt s16 2))))
   (bnd (ix 6 (.slice (esV (gt s16 0)) [] false) (.int .i64 (intV (gt s16 2)))) fun x22 => cnd (chk (.ref shMember) x22)
   (bnd (ix 6 (.slice (esV (gt s16 0)) [] false) (.int .i64 (intV (gt s16 3)))) fun x24 => cnd (chk (.ref shMember) x24)
   (cnd ((strV (gt (aggV (refV x22)) 0)) == (strV (gt (aggV (refV x24)) 0)))
    (some (.ret, [(.slice (esV (gt s16 0)) [] false), (.bool false), (.int .i64 (intV (gt s16 2))), (.int .i64 (intV (gt s16 3)))], []))
    (some (.nrm, [(.slice (esV (gt s16 0)) [] false), (.bool (boolV (gt s16 1))), (.int .i64 (intV (gt s16 2))), (.int .i64 (IntKind.wrap .i64 ((intV (gt s16 3)) + 1)))], []))) none) none)
   (some (.brk 2, [(.slice (esV (gt s16 0)) [] false), (.bool (boolV (gt s16 1))), (.int .i64 (intV (gt s16 2))), (.int .i64 (intV (gt s16 3)))], []))) none) none
def seineref13_Once_l2 (O : Orc) (LP : LBody → LBody) : LBody := fun s1 s1u => cnd (chkL [(.sl false), .bool, (.int .i64)] s1) (cnd (chkU [] s1u)
  (cnd (decide ((intV (gt s1 2)) < (List.length (esV (gt s1 0)) : Int)))
   (bnd (LP (seineref13_Once_l1 O LP) [(.slice (esV (gt s1 0)) [] false), (.bool (boolV (gt s1 1))), (.int .i64 (intV (gt s1 2))), (.int .i64 0)] []) fun y28 =>
   exIs y28.1 (some 2) (cnd (chkL [(.sl false), .bool, (.int .i64), (.int .i64)] y28.2.1) (cnd (chkU [] y28.2.2)
    (some (.nrm, [(.slice (esV (gt y28.2.1 0)) [] false), (.bool (boolV (gt y28.2.1 1))), (.int .i64 (IntKind.wrap .i64 ((intV (gt y28.2.1 2)) + 1)))], [])) none) none)
   (exIs y28.1 none (cnd (chkL [(.sl false), .bool, (.int .i64), (.int .i64)] y28.2.1) (cnd (chkU [] y28.2.2)
    (some (.ret, [(.slice (esV (gt y28.2.1 0)) [] false), (.bool (boolV (gt y28.2.1 1))), (.int .i64 (intV (gt y28.2.1 2)))], [])) none) none)
   (none)))
   (some (.brk 0, [(.slice (esV (gt s1 0)) [] false), (.bool (boolV (gt s1 1))), (.int .i64 (intV (gt s1 2)))], []))) none) none
def seineref13_Once_T1 (O : Orc) (LP : LBody → LBody) (m : List GMember) : Option (PV × UP) :=
  bnd (LP (seineref13_Once_l2 O LP) [(.slice (List.map encMember m) [] false), (.bool false), (.int .i64 0)] []) fun y31 =>
  exIs y31.1 (some 0) (cnd (chkL [(.sl false), .bool, (.int .i64)] y31.2.1) (cnd (chkU [] y31.2.2)
   (some ((.bool true), [])) none) none)
  (exIs y31.1 none (cnd (chkL [(.sl false), .bool, (.int .i64)] y31.2.1) (cnd (chkU [] y31.2.2)
   (some ((.bool (boolV (gt y31.2.1 1))), [])) none) none)
  (none))
noncomputable def seineref13_Once_l1T (m : List GMember) (i_15 : Int) : Int → Option (Int ⊕ (Unit ⊕ Unit))
  | k_21 =>
  cnd (decide (k_21 < i_15))
   (bnd (nthI m i_15) fun y23 =>
   bnd (nthI m k_21) fun y25 =>
   cnd (y23.name == y25.name)
    (some (.inr (.inr ())))
    (some (.inl (IntKind.wrap .i64 (k_21 + 1)))))
   (some (.inr (.inl ())))
abbrev seineref13_Once_l1R (m : List GMember) (i_15 : Int) (st : Int) (l : List PV) (u : UP) : Prop := l = [(.slice (List.map encMember m) [] false), (.bool false), (.int .i64 i_15), (.int .i64 st)] ∧ u = []
abbrev seineref13_Once_l1X (m : List GMember) (i_15 : Int) (p : Unit ⊕ Unit) (r : Ex × List PV × UP) : Prop := elim p (fun (p : Unit) => ∃ (k_26 : Int), r = (Ex.brk 2, [(.slice (List.map encMember m) [] false), (.bool false), (.int .i64 i_15), (.int .i64 k_26)], [])) (fun q2 => (fun (p : Unit) => ∃ (k_27 : Int), r = (Ex.ret, [(.slice (List.map encMember m) [] false), (.bool false), (.int .i64 i_15), (.int .i64 k_27)], [])) q2)
noncomputable def seineref13_Once_l2T (m : List GMember) : Int → Option (Int ⊕ (Unit ⊕ Unit))
  | i_15 =>
  cnd (decide (i_15 < (List.length m : Int)))
   (bnd (tloop (seineref13_Once_l1T m i_15) 0) fun e28_2 => elim e28_2
   (fun p28 =>
    some (.inl (IntKind.wrap .i64 (i_15 + 1))))
   (fun p28 =>
   some (.inr (.inr ()))))
   (some (.inr (.inl ())))
abbrev seineref13_Once_l2R (m : List GMember) (st : Int) (l : List PV) (u : UP) : Prop := l = [(.slice (List.map encMember m) [] false), (.bool false), (.int .i64 st)] ∧ u = []
abbrev seineref13_Once_l2X (m : List GMember) (p : Unit ⊕ Unit) (r : Ex × List PV × UP) : Prop := elim p (fun (p : Unit) => ∃ (i_29 : Int), r = (Ex.brk 0, [(.slice (List.map encMember m) [] false), (.bool false), (.int .i64 i_29)], [])) (fun q2 => (fun (p : Unit) => ∃ (i_30 : Int), r = (Ex.ret, [(.slice (List.map encMember m) [] false), (.bool false), (.int .i64 i_30)], [])) q2)
noncomputable def seineref13_Once_B (m : List GMember) : Option Bool :=
  bnd (tloop (seineref13_Once_l2T m) 0) fun e31_2 => elim e31_2
  (fun p31 =>
   some true)
  (fun p31 =>
  some false)
def seineref13_Once_ds : Decs := { decs := [(18, (.ref shMember)), (23, (.ref shMember))], ups := [], loops := [(2, [], ⟨[(.sl false), .bool, (.int .i64)], [], [(some 0, [(.sl false), .bool, (.int .i64)], []), (none, [(.sl false), .bool, (.int .i64)], [])]⟩), (5, [], ⟨[(.sl false), .bool, (.int .i64), (.int .i64)], [], [(some 2, [(.sl false), .bool, (.int .i64), (.int .i64)], []), (none, [(.sl false), .bool, (.int .i64), (.int .i64)], [])]⟩)] }
set_option maxRecDepth 100000 in
theorem seineref13_Once_t1 (O : Orc) (LP : LBody → LBody) (m : List GMember) : evalBodyD Try.prog (MT 13) seineref13_Once_ds Try.f13.ntmps O LP Try.f13 [(.slice (List.map encMember m) [] false)] [] = seineref13_Once_T1 O LP m := by kernel_rfl
theorem seineref13_Once_l1_ok (m : List GMember) (i_15 : Int) : ∀ st l u, seineref13_Once_l1R m i_15 st l u → Imp (seineref13_Once_l1T m i_15 st) (seineref13_Once_l1 O loopLim l u) (StepR (seineref13_Once_l1R m i_15) (seineref13_Once_l1X m i_15)) := by
  rintro k_21 l u ⟨rfl, rfl⟩
  simp only [seineref13_Once_l1T, seineref13_Once_l1]
  refine Imp.chk rfl (Imp.chk rfl ?_)
  try simp only [evs, tys]
  refine Imp.cnd ?_ ?_
  · refine Imp.op (f := fun a => .ref (encMember a)) (fun a h => op_ix (enc := encMember) (by first | rfl | simp only [evs, tys, evl]) ⟨by first | rfl | simp only [evs, tys, evc], by decide⟩ h) (fun a => chk_GMember a) fun y23 hy23 => ?_
    try simp only [evs, tys]
    refine Imp.op (f := fun a => .ref (encMember a)) (fun a h => op_ix (enc := encMember) (by first | rfl | simp only [evs, tys, evl]) ⟨by first | rfl | simp only [evs, tys, evc], by decide⟩ h) (fun a => chk_GMember a) fun y25 hy25 => ?_
    try simp only [evs, tys]
    refine Imp.cnd ?_ ?_
    · exact Imp.some (StepR.ret ⟨k_21, by first | rfl | simp only [evs, tys, evl, elim_inl, elim_inr]⟩)
    · exact Imp.some (StepR.next ⟨by first | rfl | simp only [evs, tys, evl], rfl⟩)
  · exact Imp.some (StepR.brk ⟨k_21, by first | rfl | simp only [evs, tys, evl, elim_inl, elim_inr]⟩)
theorem seineref13_Once_l2_ok (m : List GMember) : ∀ st l u, seineref13_Once_l2R m st l u → Imp (seineref13_Once_l2T m st) (seineref13_Once_l2 O loopLim l u) (StepR (seineref13_Once_l2R m) (seineref13_Once_l2X m)) := by
  rintro i_15 l u ⟨rfl, rfl⟩
  simp only [seineref13_Once_l2T, seineref13_Once_l2]
  refine Imp.chk rfl (Imp.chk rfl ?_)
  try simp only [evs, tys]
  refine Imp.cnd ?_ ?_
  · refine Imp.bnd (Imp.loop (seineref13_Once_l1_ok m i_15) ⟨by first | rfl | simp only [evs, tys, evl], rfl⟩) ?_
    rintro (p | p) vy28 hy28
    · try simp only [elim_inl, elim_inr]
      obtain ⟨k_26, rfl⟩ := hy28
      refine Imp.exHit rfl (Imp.chk rfl (Imp.chk rfl ?_))
      try simp only [evs, tys]
      exact Imp.some (StepR.next ⟨by first | rfl | simp only [evs, tys, evl], rfl⟩)
    · try simp only [elim_inl, elim_inr]
      obtain ⟨k_27, rfl⟩ := hy28
      refine Imp.exMiss rfl ?_
      refine Imp.exHit rfl (Imp.chk rfl (Imp.chk rfl ?_))
      try simp only [evs, tys]
      exact Imp.some (StepR.ret ⟨i_15, by first | rfl | simp only [evs, tys, evl, elim_inl, elim_inr]⟩)
  · exact Imp.some (StepR.brk ⟨i_15, by first | rfl | simp only [evs, tys, evl, elim_inl, elim_inr]⟩)
theorem seineref13_Once_imp (m : List GMember) : Imp (seineref13_Once_B m) (seineref13_Once_T1 O loopLim m) (fun r v => v = (seineref13_OnceE r, [])) := by
  simp only [seineref13_Once_B, seineref13_Once_T1]
  try simp only [evs, tys]
  refine Imp.bnd (Imp.loop (seineref13_Once_l2_ok m) ⟨by first | rfl | simp only [evs, tys, evl], rfl⟩) ?_
  rintro (p | p) vy31 hy31
  · try simp only [elim_inl, elim_inr]
    obtain ⟨i_29, rfl⟩ := hy31
    refine Imp.exHit rfl (Imp.chk rfl (Imp.chk rfl ?_))
    try simp only [evs, tys]
    exact Imp.some (by first | rfl | simp only [seineref13_OnceE, evs, tys, evl])
  · try simp only [elim_inl, elim_inr]
    obtain ⟨i_30, rfl⟩ := hy31
    refine Imp.exMiss rfl ?_
    refine Imp.exHit rfl (Imp.chk rfl (Imp.chk rfl ?_))
    try simp only [evs, tys]
    exact Imp.some (by first | rfl | simp only [seineref13_OnceE, evs, tys, evl])
theorem seineref13_Once_run {m : List GMember} {r : Bool} (h : seineref13_Once_B m = some r) : seineref13_Once m = some r := by
  obtain ⟨v, hv, rfl⟩ := seineref13_Once_imp m r h
  exact tO_of (pair_inj seineref13_OnceEj) (OL_runD seineref13_Once_ds rfl rfl Try.func13 ((seineref13_Once_t1 _ _ m).trans hv))

def args_Needed_l1 (O : Orc) (LP : LBody → LBody) : LBody := fun s1 s1u => cnd (chkL [(.sl false), .bool, (.sl false), (.int .i64), (.int .i64)] s1) (cnd (chkU [] s1u)
  (cnd (decide ((intV (gt s1 4)) < (intV (gt s1 3))))
   (bnd (ix 10 (.slice (esV (gt s1 2)) [] false) (.int .i64 (intV (gt s1 4)))) fun x9 => cnd (chk (.ref shParam) x9)
   (callp O 26 [(.str (strV (gt (aggV (refV x9)) 0))), (.slice (esV (gt s1 0)) [] false)] fun x11 => cnd (chk (.tup [shValue, .bool]) x11)
   (cnd (boolV (gt (tupV x11) 1))
    (some (.nrm, [(.slice (esV (gt s1 0)) [] false), (.bool (boolV (gt s1 1))), (.slice (esV (gt s1 2)) [] false), (.int .i64 (intV (gt s1 3))), (.int .i64 (IntKind.wrap .i64 ((intV (gt s1 4)) + 1)))], []))
    (callp O 27 [(.agg [(.str (strV (gt (aggV (refV x9)) 0))), (.str (strV (gt (aggV (refV x9)) 1))), (.int .i64 (intV (gt (aggV (refV x9)) 2))), (.int .i64 (intV (gt (aggV (refV x9)) 3))), (.bool (boolV (gt (aggV (refV x9)) 4))), (.int .i64 (intV (gt (aggV (refV x9)) 5))), (.int .i64 (intV (gt (aggV (refV x9)) 6))), (.str (strV (gt (aggV (refV x9)) 7))), (.slice (esV (gt (aggV (refV x9)) 8)) [] false), (.slice (esV (gt (aggV (refV x9)) 9)) [] false)])] fun x13 => cnd (chk .bool x13)
    (cnd (!(boolV x13))
     (some (.nrm, [(.slice (esV (gt s1 0)) [] false), (.bool (boolV (gt s1 1))), (.slice (esV (gt s1 2)) [] false), (.int .i64 (intV (gt s1 3))), (.int .i64 (IntKind.wrap .i64 ((intV (gt s1 4)) + 1)))], []))
     (some (.ret, [(.slice (esV (gt s1 0)) [] false), (.bool false), (.slice (esV (gt s1 2)) [] false), (.int .i64 (intV (gt s1 3))), (.int .i64 (intV (gt s1 4)))], []))) none)) none) none)
   (some (.brk 0, [(.slice (esV (gt s1 0)) [] false), (.bool (boolV (gt s1 1))), (.slice (esV (gt s1 2)) [] false), (.int .i64 (intV (gt s1 3))), (.int .i64 (intV (gt s1 4)))], []))) none) none
def args_Needed_T1 (O : Orc) (LP : LBody → LBody) (params : List GParam) (l0 : List GMember) : Option (PV × UP) :=
  bnd (LP (args_Needed_l1 O LP) [(.slice (List.map encMember l0) [] false), (.bool false), (.slice (List.map encParam params) [] false), (.int .i64 (List.length (List.map encParam params) : Int)), (.int .i64 0)] []) fun y17 =>
  exIs y17.1 (some 0) (cnd (chkL [(.sl false), .bool, (.sl false), (.int .i64), (.int .i64)] y17.2.1) (cnd (chkU [] y17.2.2)
   (some ((.bool true), [])) none) none)
  (exIs y17.1 none (cnd (chkL [(.sl false), .bool, (.sl false), (.int .i64), (.int .i64)] y17.2.1) (cnd (chkU [] y17.2.2)
   (some ((.bool (boolV (gt y17.2.1 1))), [])) none) none)
  (none))
noncomputable def args_Needed_l1T (params : List GParam) (l0 : List GMember) : Int → Option (Int ⊕ (Unit ⊕ Unit))
  | t_8 =>
  cnd (decide (t_8 < (List.length params : Int)))
   (bnd (nthI params t_8) fun y10 =>
   bnd (value_Get y10.name l0) fun y12 =>
   cnd y12.2
    (some (.inl (IntKind.wrap .i64 (t_8 + 1))))
    (bnd (literal_Required y10) fun y14 =>
    cnd (!y14)
     (some (.inl (IntKind.wrap .i64 (t_8 + 1))))
     (some (.inr (.inr ())))))
   (some (.inr (.inl ())))
abbrev args_Needed_l1R (params : List GParam) (l0 : List GMember) (st : Int) (l : List PV) (u : UP) : Prop := l = [(.slice (List.map encMember l0) [] false), (.bool false), (.slice (List.map encParam params) [] false), (.int .i64 (List.length params : Int)), (.int .i64 st)] ∧ u = []
abbrev args_Needed_l1X (params : List GParam) (l0 : List GMember) (p : Unit ⊕ Unit) (r : Ex × List PV × UP) : Prop := elim p (fun (p : Unit) => ∃ (t_15 : Int), r = (Ex.brk 0, [(.slice (List.map encMember l0) [] false), (.bool false), (.slice (List.map encParam params) [] false), (.int .i64 (List.length params : Int)), (.int .i64 t_15)], [])) (fun q2 => (fun (p : Unit) => ∃ (t_16 : Int), r = (Ex.ret, [(.slice (List.map encMember l0) [] false), (.bool false), (.slice (List.map encParam params) [] false), (.int .i64 (List.length params : Int)), (.int .i64 t_16)], [])) q2)
noncomputable def args_Needed_B (params : List GParam) (l0 : List GMember) : Option Bool :=
  bnd (tloop (args_Needed_l1T params l0) 0) fun e17_2 => elim e17_2
  (fun p17 =>
   some true)
  (fun p17 =>
  some false)
def args_Needed_ds : Decs := { decs := [(13, (.ref shParam)), (19, (.tup [shValue, .bool])), (25, .bool)], ups := [], loops := [(2, [], ⟨[(.sl false), .bool, (.sl false), (.int .i64), (.int .i64)], [], [(some 0, [(.sl false), .bool, (.sl false), (.int .i64), (.int .i64)], []), (none, [(.sl false), .bool, (.sl false), (.int .i64), (.int .i64)], [])]⟩)] }
set_option maxRecDepth 100000 in
theorem args_Needed_t1 (O : Orc) (LP : LBody → LBody) (params : List GParam) (l0 : List GMember) : evalBodyD Try.prog (MT 14) args_Needed_ds Try.f14.ntmps O LP Try.f14 [(.slice (List.map encParam params) [] false), (.slice (List.map encMember l0) [] false)] [] = args_Needed_T1 O LP params l0 := by kernel_rfl
theorem args_Needed_l1_ok (params : List GParam) (l0 : List GMember) : ∀ st l u, args_Needed_l1R params l0 st l u → Imp (args_Needed_l1T params l0 st) (args_Needed_l1 O loopLim l u) (StepR (args_Needed_l1R params l0) (args_Needed_l1X params l0)) := by
  rintro t_8 l u ⟨rfl, rfl⟩
  simp only [args_Needed_l1T, args_Needed_l1]
  refine Imp.chk rfl (Imp.chk rfl ?_)
  try simp only [evs, tys]
  refine Imp.cnd ?_ ?_
  · refine Imp.op (f := fun a => .ref (encParam a)) (fun a h => op_ix (enc := encParam) (by first | rfl | simp only [evs, tys, evl]) ⟨by first | rfl | simp only [evs, tys, evc], by decide⟩ h) (fun a => chk_GParam a) fun y10 hy10 => ?_
    try simp only [evs, tys]
    refine Imp.call (f := value_GetE) rfl (fun a h => by first | exact value_Get_spec h | simpa only [evs, tys, evl] using value_Get_spec h) (fun a => by first | rfl | simp only [value_GetE, evk, chks]) fun y12 hy12 => ?_
    try simp only [value_GetE, evs, tys]
    refine Imp.cnd ?_ ?_
    · exact Imp.some (StepR.next ⟨by first | rfl | simp only [evs, tys, evl], rfl⟩)
    · refine Imp.call (f := literal_RequiredE) rfl (fun a h => by first | exact literal_Required_spec h | simpa only [evs, tys, evl] using literal_Required_spec h) (fun a => by first | rfl | simp only [literal_RequiredE, evk, chks]) fun y14 hy14 => ?_
      try simp only [literal_RequiredE, evs, tys]
      refine Imp.cnd ?_ ?_
      · exact Imp.some (StepR.next ⟨by first | rfl | simp only [evs, tys, evl], rfl⟩)
      · exact Imp.some (StepR.ret ⟨t_8, by first | rfl | simp only [evs, tys, evl, elim_inl, elim_inr]⟩)
  · exact Imp.some (StepR.brk ⟨t_8, by first | rfl | simp only [evs, tys, evl, elim_inl, elim_inr]⟩)
theorem args_Needed_imp (params : List GParam) (l0 : List GMember) : Imp (args_Needed_B params l0) (args_Needed_T1 O loopLim params l0) (fun r v => v = (args_NeededE r, [])) := by
  simp only [args_Needed_B, args_Needed_T1]
  try simp only [evs, tys]
  refine Imp.bnd (Imp.loop (args_Needed_l1_ok params l0) ⟨by first | rfl | simp only [evs, tys, evl], rfl⟩) ?_
  rintro (p | p) vy17 hy17
  · try simp only [elim_inl, elim_inr]
    obtain ⟨t_15, rfl⟩ := hy17
    refine Imp.exHit rfl (Imp.chk rfl (Imp.chk rfl ?_))
    try simp only [evs, tys]
    exact Imp.some (by first | rfl | simp only [args_NeededE, evs, tys, evl])
  · try simp only [elim_inl, elim_inr]
    obtain ⟨t_16, rfl⟩ := hy17
    refine Imp.exMiss rfl ?_
    refine Imp.exHit rfl (Imp.chk rfl (Imp.chk rfl ?_))
    try simp only [evs, tys]
    exact Imp.some (by first | rfl | simp only [args_NeededE, evs, tys, evl])
theorem args_Needed_run {params : List GParam} {l0 : List GMember} {r : Bool} (h : args_Needed_B params l0 = some r) : args_Needed params l0 = some r := by
  obtain ⟨v, hv, rfl⟩ := args_Needed_imp params l0 r h
  exact tO_of (pair_inj args_NeededEj) (OL_runD args_Needed_ds rfl rfl Try.func14 ((args_Needed_t1 _ _ params l0).trans hv))

def seineref13_Needed_l1 (O : Orc) (LP : LBody → LBody) : LBody := fun s1 s1u => cnd (chkL [(.sl false), (.sl false), .bool, (.int .i64)] s1) (cnd (chkU [] s1u)
  (cnd (decide ((intV (gt s1 3)) < (List.length (esV (gt s1 0)) : Int)))
   (bnd (ix 10 (.slice (esV (gt s1 0)) [] false) (.int .i64 (intV (gt s1 3)))) fun x13 => cnd (chk (.ref shParam) x13)
   (callp O 28 [(.str (strV (gt (aggV (refV x13)) 0))), (.slice (esV (gt s1 1)) [] false)] fun x15 => cnd (chk (.tup [shValue, .bool]) x15)
   (cnd (!(boolV (gt (tupV x15) 1)))
    (bnd (ix 10 (.slice (esV (gt s1 0)) [] false) (.int .i64 (intV (gt s1 3)))) fun x17 => cnd (chk (.ref shParam) x17)
    (callp O 29 [(.agg [(.str (strV (gt (aggV (refV x17)) 1))), (.int .i64 (intV (gt (aggV (refV x17)) 2))), (.int .i64 (intV (gt (aggV (refV x17)) 3)))])] fun x19 => cnd (chk .bool x19)
    (cnd (boolV x19)
     (bnd (ix 10 (.slice (esV (gt s1 0)) [] false) (.int .i64 (intV (gt s1 3)))) fun x21 => cnd (chk (.ref shParam) x21)
     (cnd (!(boolV (gt (aggV (refV x21)) 4)))
      (some (.ret, [(.slice (esV (gt s1 0)) [] false), (.slice (esV (gt s1 1)) [] false), (.bool false), (.int .i64 (intV (gt s1 3)))], []))
      (some (.nrm, [(.slice (esV (gt s1 0)) [] false), (.slice (esV (gt s1 1)) [] false), (.bool (boolV (gt s1 2))), (.int .i64 (IntKind.wrap .i64 ((intV (gt s1 3)) + 1)))], []))) none)
     (some (.nrm, [(.slice (esV (gt s1 0)) [] false), (.slice (esV (gt s1 1)) [] false), (.bool (boolV (gt s1 2))), (.int .i64 (IntKind.wrap .i64 ((intV (gt s1 3)) + 1)))], []))) none) none)
    (some (.nrm, [(.slice (esV (gt s1 0)) [] false), (.slice (esV (gt s1 1)) [] false), (.bool (boolV (gt s1 2))), (.int .i64 (IntKind.wrap .i64 ((intV (gt s1 3)) + 1)))], []))) none) none)
   (some (.brk 0, [(.slice (esV (gt s1 0)) [] false), (.slice (esV (gt s1 1)) [] false), (.bool (boolV (gt s1 2))), (.int .i64 (intV (gt s1 3)))], []))) none) none
def seineref13_Needed_T1 (O : Orc) (LP : LBody → LBody) (l0 : List GParam) (m : List GMember) : Option (PV × UP) :=
  bnd (LP (seineref13_Needed_l1 O LP) [(.slice (List.map encParam l0) [] false), (.slice (List.map encMember m) [] false), (.bool false), (.int .i64 0)] []) fun y25 =>
  exIs y25.1 (some 0) (cnd (chkL [(.sl false), (.sl false), .bool, (.int .i64)] y25.2.1) (cnd (chkU [] y25.2.2)
   (some ((.bool true), [])) none) none)
  (exIs y25.1 none (cnd (chkL [(.sl false), (.sl false), .bool, (.int .i64)] y25.2.1) (cnd (chkU [] y25.2.2)
   (some ((.bool (boolV (gt y25.2.1 2))), [])) none) none)
  (none))
noncomputable def seineref13_Needed_l1T (l0 : List GParam) (m : List GMember) : Int → Option (Int ⊕ (Unit ⊕ Unit))
  | i_12 =>
  cnd (decide (i_12 < (List.length l0 : Int)))
   (bnd (nthI l0 i_12) fun y14 =>
   bnd (seineref1_Get y14.name m) fun y16 =>
   cnd (!y16.2)
    (bnd (nthI l0 i_12) fun y18 =>
    bnd (seineref1_Is y18.t) fun y20 =>
    cnd y20
     (bnd (nthI l0 i_12) fun y22 =>
     cnd (!y22.has)
      (some (.inr (.inr ())))
      (some (.inl (IntKind.wrap .i64 (i_12 + 1)))))
     (some (.inl (IntKind.wrap .i64 (i_12 + 1)))))
    (some (.inl (IntKind.wrap .i64 (i_12 + 1)))))
   (some (.inr (.inl ())))
abbrev seineref13_Needed_l1R (l0 : List GParam) (m : List GMember) (st : Int) (l : List PV) (u : UP) : Prop := l = [(.slice (List.map encParam l0) [] false), (.slice (List.map encMember m) [] false), (.bool false), (.int .i64 st)] ∧ u = []
abbrev seineref13_Needed_l1X (l0 : List GParam) (m : List GMember) (p : Unit ⊕ Unit) (r : Ex × List PV × UP) : Prop := elim p (fun (p : Unit) => ∃ (i_23 : Int), r = (Ex.brk 0, [(.slice (List.map encParam l0) [] false), (.slice (List.map encMember m) [] false), (.bool false), (.int .i64 i_23)], [])) (fun q2 => (fun (p : Unit) => ∃ (i_24 : Int), r = (Ex.ret, [(.slice (List.map encParam l0) [] false), (.slice (List.map encMember m) [] false), (.bool false), (.int .i64 i_24)], [])) q2)
noncomputable def seineref13_Needed_B (l0 : List GParam) (m : List GMember) : Option Bool :=
  bnd (tloop (seineref13_Needed_l1T l0 m) 0) fun e25_2 => elim e25_2
  (fun p25 =>
   some true)
  (fun p25 =>
  some false)
def seineref13_Needed_ds : Decs := { decs := [(17, (.ref shParam)), (21, (.tup [shValue, .bool])), (29, (.ref shParam)), (32, .bool), (37, (.ref shParam))], ups := [], loops := [(2, [], ⟨[(.sl false), (.sl false), .bool, (.int .i64)], [], [(some 0, [(.sl false), (.sl false), .bool, (.int .i64)], []), (none, [(.sl false), (.sl false), .bool, (.int .i64)], [])]⟩)] }
set_option maxRecDepth 100000 in
theorem seineref13_Needed_t1 (O : Orc) (LP : LBody → LBody) (l0 : List GParam) (m : List GMember) : evalBodyD Try.prog (MT 15) seineref13_Needed_ds Try.f15.ntmps O LP Try.f15 [(.slice (List.map encParam l0) [] false), (.slice (List.map encMember m) [] false)] [] = seineref13_Needed_T1 O LP l0 m := by kernel_rfl
theorem seineref13_Needed_l1_ok (l0 : List GParam) (m : List GMember) : ∀ st l u, seineref13_Needed_l1R l0 m st l u → Imp (seineref13_Needed_l1T l0 m st) (seineref13_Needed_l1 O loopLim l u) (StepR (seineref13_Needed_l1R l0 m) (seineref13_Needed_l1X l0 m)) := by
  rintro i_12 l u ⟨rfl, rfl⟩
  simp only [seineref13_Needed_l1T, seineref13_Needed_l1]
  refine Imp.chk rfl (Imp.chk rfl ?_)
  try simp only [evs, tys]
  refine Imp.cnd ?_ ?_
  · refine Imp.op (f := fun a => .ref (encParam a)) (fun a h => op_ix (enc := encParam) (by first | rfl | simp only [evs, tys, evl]) ⟨by first | rfl | simp only [evs, tys, evc], by decide⟩ h) (fun a => chk_GParam a) fun y14 hy14 => ?_
    try simp only [evs, tys]
    refine Imp.call (f := seineref1_GetE) rfl (fun a h => by first | exact seineref1_Get_spec h | simpa only [evs, tys, evl] using seineref1_Get_spec h) (fun a => by first | rfl | simp only [seineref1_GetE, evk, chks]) fun y16 hy16 => ?_
    try simp only [seineref1_GetE, evs, tys]
    refine Imp.cnd ?_ ?_
    · refine Imp.op (f := fun a => .ref (encParam a)) (fun a h => op_ix (enc := encParam) (by first | rfl | simp only [evs, tys, evl]) ⟨by first | rfl | simp only [evs, tys, evc], by decide⟩ h) (fun a => chk_GParam a) fun y18 hy18 => ?_
      try simp only [evs, tys]
      refine Imp.call (f := seineref1_IsE) rfl (fun a h => by first | exact seineref1_Is_spec h | simpa only [evs, tys, evl] using seineref1_Is_spec h) (fun a => by first | rfl | simp only [seineref1_IsE, evk, chks]) fun y20 hy20 => ?_
      try simp only [seineref1_IsE, evs, tys]
      refine Imp.cnd ?_ ?_
      · refine Imp.op (f := fun a => .ref (encParam a)) (fun a h => op_ix (enc := encParam) (by first | rfl | simp only [evs, tys, evl]) ⟨by first | rfl | simp only [evs, tys, evc], by decide⟩ h) (fun a => chk_GParam a) fun y22 hy22 => ?_
        try simp only [evs, tys]
        refine Imp.cnd ?_ ?_
        · exact Imp.some (StepR.ret ⟨i_12, by first | rfl | simp only [evs, tys, evl, elim_inl, elim_inr]⟩)
        · exact Imp.some (StepR.next ⟨by first | rfl | simp only [evs, tys, evl], rfl⟩)
      · exact Imp.some (StepR.next ⟨by first | rfl | simp only [evs, tys, evl], rfl⟩)
    · exact Imp.some (StepR.next ⟨by first | rfl | simp only [evs, tys, evl], rfl⟩)
  · exact Imp.some (StepR.brk ⟨i_12, by first | rfl | simp only [evs, tys, evl, elim_inl, elim_inr]⟩)
theorem seineref13_Needed_imp (l0 : List GParam) (m : List GMember) : Imp (seineref13_Needed_B l0 m) (seineref13_Needed_T1 O loopLim l0 m) (fun r v => v = (seineref13_NeededE r, [])) := by
  simp only [seineref13_Needed_B, seineref13_Needed_T1]
  try simp only [evs, tys]
  refine Imp.bnd (Imp.loop (seineref13_Needed_l1_ok l0 m) ⟨by first | rfl | simp only [evs, tys, evl], rfl⟩) ?_
  rintro (p | p) vy25 hy25
  · try simp only [elim_inl, elim_inr]
    obtain ⟨i_23, rfl⟩ := hy25
    refine Imp.exHit rfl (Imp.chk rfl (Imp.chk rfl ?_))
    try simp only [evs, tys]
    exact Imp.some (by first | rfl | simp only [seineref13_NeededE, evs, tys, evl])
  · try simp only [elim_inl, elim_inr]
    obtain ⟨i_24, rfl⟩ := hy25
    refine Imp.exMiss rfl ?_
    refine Imp.exHit rfl (Imp.chk rfl (Imp.chk rfl ?_))
    try simp only [evs, tys]
    exact Imp.some (by first | rfl | simp only [seineref13_NeededE, evs, tys, evl])
theorem seineref13_Needed_run {l0 : List GParam} {m : List GMember} {r : Bool} (h : seineref13_Needed_B l0 m = some r) : seineref13_Needed l0 m = some r := by
  obtain ⟨v, hv, rfl⟩ := seineref13_Needed_imp l0 m r h
  exact tO_of (pair_inj seineref13_NeededEj) (OL_runD seineref13_Needed_ds rfl rfl Try.func15 ((seineref13_Needed_t1 _ _ l0 m).trans hv))
end Go.Proofs.Yteiccdhdfcbokaa

/- Printed by symgen.py: typed functions of this seat, and why they tell what the program does. -/
set_option linter.unusedVariables false
set_option linter.unusedSimpArgs false
open Go Go.Ev Go.Ev.PV
namespace Go.Proofs.Yteiccdhdfcbokaa
def seineref6_SameParams_l1 (O : Orc) (LP : LBody → LBody) : LBody := fun s1 s1u => cnd (chkL [(.sl false), (.sl false), .bool, (.int .i64)] s1) (cnd (chkU [] s1u)
  (cnd (decide ((intV (gt s1 3)) < (List.length (esV (gt s1 0)) : Int)))
   (bnd (ix 10 (.slice (esV (gt s1 0)) [] false) (.int .i64 (intV (gt s1 3)))) fun x21 => cnd (chk (.ref shParam) x21)
   (bnd (ix 10 (.slice (esV (gt s1 1)) [] false) (.int .i64 (intV (gt s1 3)))) fun x23 => cnd (chk (.ref shParam) x23)
   (cnd (!((strV (gt (aggV (refV x21)) 0)) == (strV (gt (aggV (refV x23)) 0))))
    (some (.ret, [(.slice (esV (gt s1 0)) [] false), (.slice (esV (gt s1 1)) [] false), (.bool false), (.int .i64 (intV (gt s1 3)))], []))
    (bnd (ix 10 (.slice (esV (gt s1 0)) [] false) (.int .i64 (intV (gt s1 3)))) fun x25 => cnd (chk (.ref shParam) x25)
    (bnd (ix 10 (.slice (esV (gt s1 1)) [] false) (.int .i64 (intV (gt s1 3)))) fun x27 => cnd (chk (.ref shParam) x27)
    (cnd (!(((strV (gt (aggV (refV x25)) 1)) == (strV (gt (aggV (refV x27)) 1))) && (((intV (gt (aggV (refV x25)) 2)) == (intV (gt (aggV (refV x27)) 2))) && (((intV (gt (aggV (refV x25)) 3)) == (intV (gt (aggV (refV x27)) 3))) && true))))
     (some (.ret, [(.slice (esV (gt s1 0)) [] false), (.slice (esV (gt s1 1)) [] false), (.bool false), (.int .i64 (intV (gt s1 3)))], []))
     (bnd (ix 10 (.slice (esV (gt s1 0)) [] false) (.int .i64 (intV (gt s1 3)))) fun x29 => cnd (chk (.ref shParam) x29)
     (bnd (ix 10 (.slice (esV (gt s1 1)) [] false) (.int .i64 (intV (gt s1 3)))) fun x31 => cnd (chk (.ref shParam) x31)
     (cnd (!((boolV (gt (aggV (refV x29)) 4)) == (boolV (gt (aggV (refV x31)) 4))))
      (some (.ret, [(.slice (esV (gt s1 0)) [] false), (.slice (esV (gt s1 1)) [] false), (.bool false), (.int .i64 (intV (gt s1 3)))], []))
      (bnd (ix 10 (.slice (esV (gt s1 0)) [] false) (.int .i64 (intV (gt s1 3)))) fun x33 => cnd (chk (.ref shParam) x33)
      (bnd (ix 10 (.slice (esV (gt s1 1)) [] false) (.int .i64 (intV (gt s1 3)))) fun x35 => cnd (chk (.ref shParam) x35)
      (callp O 30 [(.agg [(.int .i64 (intV (gt (aggV (refV x33)) 5))), (.int .i64 (intV (gt (aggV (refV x33)) 6))), (.str (strV (gt (aggV (refV x33)) 7))), (.slice (esV (gt (aggV (refV x33)) 8)) [] false), (.slice (esV (gt (aggV (refV x33)) 9)) [] false)]), (.agg [(.int .i64 (intV (gt (aggV (refV x35)) 5))), (.int .i64 (intV (gt (aggV (refV x35)) 6))), (.str (strV (gt (aggV (refV x35)) 7))), (.slice (esV (gt (aggV (refV x35)) 8)) [] false), (.slice (esV (gt (aggV (refV x35)) 9)) [] false)])] fun x37 => cnd (chk .bool x37)
      (cnd (!(boolV x37))
       (some (.ret, [(.slice (esV (gt s1 0)) [] false), (.slice (esV (gt s1 1)) [] false), (.bool false), (.int .i64 (intV (gt s1 3)))], []))
       (some (.nrm, [(.slice (esV (gt s1 0)) [] false), (.slice (esV (gt s1 1)) [] false), (.bool (boolV (gt s1 2))), (.int .i64 (IntKind.wrap .i64 ((intV (gt s1 3)) + 1)))], []))) none) none) none)) none) none)) none) none)) none) none)
   (some (.brk 0, [(.slice (esV (gt s1 0)) [] false), (.slice (esV (gt s1 1)) [] false), (.bool (boolV (gt s1 2))), (.int .i64 (intV (gt s1 3)))], []))) none) none
def seineref6_SameParams_T1 (O : Orc) (LP : LBody → LBody) (a : List GParam) (b : List GParam) : Option (PV × UP) :=
  cnd ((List.length (List.map encParam a) : Int) != (List.length (List.map encParam b) : Int))
   (some ((.bool false), []))
   (bnd (LP (seineref6_SameParams_l1 O LP) [(.slice (List.map encParam a) [] false), (.slice (List.map encParam b) [] false), (.bool false), (.int .i64 0)] []) fun y41 =>
   exIs y41.1 (some 0) (cnd (chkL [(.sl false), (.sl false), .bool, (.int .i64)] y41.2.1) (cnd (chkU [] y41.2.2)
    (some ((.bool true), [])) none) none)
   (exIs y41.1 none (cnd (chkL [(.sl false), (.sl false), .bool, (.int .i64)] y41.2.1) (cnd (chkU [] y41.2.2)
    (some ((.bool (boolV (gt y41.2.1 2))), [])) none) none)
   (none)))
noncomputable def seineref6_SameParams_l1T (a : List GParam) (b : List GParam) : Int → Option (Int ⊕ (Unit ⊕ Unit))
  | i_20 =>
  cnd (decide (i_20 < (List.length a : Int)))
   (bnd (nthI a i_20) fun y22 =>
   bnd (nthI b i_20) fun y24 =>
   cnd (!(y22.name == y24.name))
    (some (.inr (.inr ())))
    (bnd (nthI a i_20) fun y26 =>
    bnd (nthI b i_20) fun y28 =>
    cnd (!((y26.t.name == y28.t.name) && ((y26.t.lists == y28.t.lists) && ((y26.t.musts == y28.t.musts) && true))))
     (some (.inr (.inr ())))
     (bnd (nthI a i_20) fun y30 =>
     bnd (nthI b i_20) fun y32 =>
     cnd (!(y30.has == y32.has))
      (some (.inr (.inr ())))
      (bnd (nthI a i_20) fun y34 =>
      bnd (nthI b i_20) fun y36 =>
      bnd (seineref1_Same y34.default y36.default) fun y38 =>
      cnd (!y38)
       (some (.inr (.inr ())))
       (some (.inl (IntKind.wrap .i64 (i_20 + 1))))))))
   (some (.inr (.inl ())))
abbrev seineref6_SameParams_l1R (a : List GParam) (b : List GParam) (st : Int) (l : List PV) (u : UP) : Prop := l = [(.slice (List.map encParam a) [] false), (.slice (List.map encParam b) [] false), (.bool false), (.int .i64 st)] ∧ u = []
abbrev seineref6_SameParams_l1X (a : List GParam) (b : List GParam) (p : Unit ⊕ Unit) (r : Ex × List PV × UP) : Prop := elim p (fun (p : Unit) => ∃ (i_39 : Int), r = (Ex.brk 0, [(.slice (List.map encParam a) [] false), (.slice (List.map encParam b) [] false), (.bool false), (.int .i64 i_39)], [])) (fun q2 => (fun (p : Unit) => ∃ (i_40 : Int), r = (Ex.ret, [(.slice (List.map encParam a) [] false), (.slice (List.map encParam b) [] false), (.bool false), (.int .i64 i_40)], [])) q2)
noncomputable def seineref6_SameParams_B (a : List GParam) (b : List GParam) : Option Bool :=
  cnd ((List.length a : Int) != (List.length b : Int))
   (some false)
   (bnd (tloop (seineref6_SameParams_l1T a b) 0) fun e41_2 => elim e41_2
   (fun p41 =>
    some true)
   (fun p41 =>
   some false))
def seineref6_SameParams_ds : Decs := { decs := [(19, (.ref shParam)), (24, (.ref shParam)), (31, (.ref shParam)), (36, (.ref shParam)), (44, (.ref shParam)), (49, (.ref shParam)), (57, (.ref shParam)), (62, (.ref shParam)), (65, .bool)], ups := [], loops := [(4, [], ⟨[(.sl false), (.sl false), .bool, (.int .i64)], [], [(some 0, [(.sl false), (.sl false), .bool, (.int .i64)], []), (none, [(.sl false), (.sl false), .bool, (.int .i64)], [])]⟩)] }
set_option maxRecDepth 100000 in
theorem seineref6_SameParams_t1 (O : Orc) (LP : LBody → LBody) (a : List GParam) (b : List GParam) : evalBodyD Try.prog (MT 16) seineref6_SameParams_ds Try.f16.ntmps O LP Try.f16 [(.slice (List.map encParam a) [] false), (.slice (List.map encParam b) [] false)] [] = seineref6_SameParams_T1 O LP a b := by kernel_rfl
theorem seineref6_SameParams_l1_ok (a : List GParam) (b : List GParam) : ∀ st l u, seineref6_SameParams_l1R a b st l u → Imp (seineref6_SameParams_l1T a b st) (seineref6_SameParams_l1 O loopLim l u) (StepR (seineref6_SameParams_l1R a b) (seineref6_SameParams_l1X a b)) := by
  rintro i_20 l u ⟨rfl, rfl⟩
  simp only [seineref6_SameParams_l1T, seineref6_SameParams_l1]
  refine Imp.chk rfl (Imp.chk rfl ?_)
  try simp only [evs, tys]
  refine Imp.cnd ?_ ?_
  · refine Imp.op (f := fun a => .ref (encParam a)) (fun a h => op_ix (enc := encParam) (by first | rfl | simp only [evs, tys, evl]) ⟨by first | rfl | simp only [evs, tys, evc], by decide⟩ h) (fun a => chk_GParam a) fun y22 hy22 => ?_
    try simp only [evs, tys]
    refine Imp.op (f := fun a => .ref (encParam a)) (fun a h => op_ix (enc := encParam) (by first | rfl | simp only [evs, tys, evl]) ⟨by first | rfl | simp only [evs, tys, evc], by decide⟩ h) (fun a => chk_GParam a) fun y24 hy24 => ?_
    try simp only [evs, tys]
    refine Imp.cnd ?_ ?_
    · exact Imp.some (StepR.ret ⟨i_20, by first | rfl | simp only [evs, tys, evl, elim_inl, elim_inr]⟩)
    · refine Imp.op (f := fun a => .ref (encParam a)) (fun a h => op_ix (enc := encParam) (by first | rfl | simp only [evs, tys, evl]) ⟨by first | rfl | simp only [evs, tys, evc], by decide⟩ h) (fun a => chk_GParam a) fun y26 hy26 => ?_
      try simp only [evs, tys]
      refine Imp.op (f := fun a => .ref (encParam a)) (fun a h => op_ix (enc := encParam) (by first | rfl | simp only [evs, tys, evl]) ⟨by first | rfl | simp only [evs, tys, evc], by decide⟩ h) (fun a => chk_GParam a) fun y28 hy28 => ?_
      try simp only [evs, tys]
      refine Imp.cnd ?_ ?_
      · exact Imp.some (StepR.ret ⟨i_20, by first | rfl | simp only [evs, tys, evl, elim_inl, elim_inr]⟩)
      · refine Imp.op (f := fun a => .ref (encParam a)) (fun a h => op_ix (enc := encParam) (by first | rfl | simp only [evs, tys, evl]) ⟨by first | rfl | simp only [evs, tys, evc], by decide⟩ h) (fun a => chk_GParam a) fun y30 hy30 => ?_
        try simp only [evs, tys]
        refine Imp.op (f := fun a => .ref (encParam a)) (fun a h => op_ix (enc := encParam) (by first | rfl | simp only [evs, tys, evl]) ⟨by first | rfl | simp only [evs, tys, evc], by decide⟩ h) (fun a => chk_GParam a) fun y32 hy32 => ?_
        try simp only [evs, tys]
        refine Imp.cnd ?_ ?_
        · exact Imp.some (StepR.ret ⟨i_20, by first | rfl | simp only [evs, tys, evl, elim_inl, elim_inr]⟩)
        · refine Imp.op (f := fun a => .ref (encParam a)) (fun a h => op_ix (enc := encParam) (by first | rfl | simp only [evs, tys, evl]) ⟨by first | rfl | simp only [evs, tys, evc], by decide⟩ h) (fun a => chk_GParam a) fun y34 hy34 => ?_
          try simp only [evs, tys]
          refine Imp.op (f := fun a => .ref (encParam a)) (fun a h => op_ix (enc := encParam) (by first | rfl | simp only [evs, tys, evl]) ⟨by first | rfl | simp only [evs, tys, evc], by decide⟩ h) (fun a => chk_GParam a) fun y36 hy36 => ?_
          try simp only [evs, tys]
          refine Imp.call (f := seineref1_SameE) rfl (fun a h => by first | exact seineref1_Same_spec h | simpa only [evs, tys, evl] using seineref1_Same_spec h) (fun a => by first | rfl | simp only [seineref1_SameE, evk, chks]) fun y38 hy38 => ?_
          try simp only [seineref1_SameE, evs, tys]
          refine Imp.cnd ?_ ?_
          · exact Imp.some (StepR.ret ⟨i_20, by first | rfl | simp only [evs, tys, evl, elim_inl, elim_inr]⟩)
          · exact Imp.some (StepR.next ⟨by first | rfl | simp only [evs, tys, evl], rfl⟩)
  · exact Imp.some (StepR.brk ⟨i_20, by first | rfl | simp only [evs, tys, evl, elim_inl, elim_inr]⟩)
theorem seineref6_SameParams_imp (a : List GParam) (b : List GParam) : Imp (seineref6_SameParams_B a b) (seineref6_SameParams_T1 O loopLim a b) (fun r v => v = (seineref6_SameParamsE r, [])) := by
  simp only [seineref6_SameParams_B, seineref6_SameParams_T1]
  try simp only [evs, tys]
  refine Imp.cnd ?_ ?_
  · exact Imp.some (by first | rfl | simp only [seineref6_SameParamsE, evs, tys, evl])
  · refine Imp.bnd (Imp.loop (seineref6_SameParams_l1_ok a b) ⟨by first | rfl | simp only [evs, tys, evl], rfl⟩) ?_
    rintro (p | p) vy41 hy41
    · try simp only [elim_inl, elim_inr]
      obtain ⟨i_39, rfl⟩ := hy41
      refine Imp.exHit rfl (Imp.chk rfl (Imp.chk rfl ?_))
      try simp only [evs, tys]
      exact Imp.some (by first | rfl | simp only [seineref6_SameParamsE, evs, tys, evl])
    · try simp only [elim_inl, elim_inr]
      obtain ⟨i_40, rfl⟩ := hy41
      refine Imp.exMiss rfl ?_
      refine Imp.exHit rfl (Imp.chk rfl (Imp.chk rfl ?_))
      try simp only [evs, tys]
      exact Imp.some (by first | rfl | simp only [seineref6_SameParamsE, evs, tys, evl])
theorem seineref6_SameParams_run {a : List GParam} {b : List GParam} {r : Bool} (h : seineref6_SameParams_B a b = some r) : seineref6_SameParams a b = some r := by
  obtain ⟨v, hv, rfl⟩ := seineref6_SameParams_imp a b r h
  exact tO_of (pair_inj seineref6_SameParamsEj) (OL_runD seineref6_SameParams_ds rfl rfl Try.func16 ((seineref6_SameParams_t1 _ _ a b).trans hv))

def seineref1_Members_l1 (O : Orc) (LP : LBody → LBody) : LBody := fun s1 s1u => cnd (chkL [(.sl false), (.sl false), .bool, (.int .i64)] s1) (cnd (chkU [] s1u)
  (cnd (decide ((intV (gt s1 3)) < (List.length (esV (gt s1 0)) : Int)))
   (bnd (ix 6 (.slice (esV (gt s1 0)) [] false) (.int .i64 (intV (gt s1 3)))) fun x13 => cnd (chk (.ref shMember) x13)
   (bnd (ix 6 (.slice (esV (gt s1 1)) [] false) (.int .i64 (intV (gt s1 3)))) fun x15 => cnd (chk (.ref shMember) x15)
   (cnd (!((strV (gt (aggV (refV x13)) 0)) == (strV (gt (aggV (refV x15)) 0))))
    (some (.ret, [(.slice (esV (gt s1 0)) [] false), (.slice (esV (gt s1 1)) [] false), (.bool false), (.int .i64 (intV (gt s1 3)))], []))
    (bnd (ix 6 (.slice (esV (gt s1 0)) [] false) (.int .i64 (intV (gt s1 3)))) fun x17 => cnd (chk (.ref shMember) x17)
    (bnd (ix 6 (.slice (esV (gt s1 1)) [] false) (.int .i64 (intV (gt s1 3)))) fun x19 => cnd (chk (.ref shMember) x19)
    (callp O 30 [(.agg [(.int .i64 (intV (gt (aggV (refV x17)) 1))), (.int .i64 (intV (gt (aggV (refV x17)) 2))), (.str (strV (gt (aggV (refV x17)) 3))), (.slice (esV (gt (aggV (refV x17)) 4)) [] false), (.slice (esV (gt (aggV (refV x17)) 5)) [] false)]), (.agg [(.int .i64 (intV (gt (aggV (refV x19)) 1))), (.int .i64 (intV (gt (aggV (refV x19)) 2))), (.str (strV (gt (aggV (refV x19)) 3))), (.slice (esV (gt (aggV (refV x19)) 4)) [] false), (.slice (esV (gt (aggV (refV x19)) 5)) [] false)])] fun x21 => cnd (chk .bool x21)
    (cnd (!(boolV x21))
     (some (.ret, [(.slice (esV (gt s1 0)) [] false), (.slice (esV (gt s1 1)) [] false), (.bool false), (.int .i64 (intV (gt s1 3)))], []))
     (some (.nrm, [(.slice (esV (gt s1 0)) [] false), (.slice (esV (gt s1 1)) [] false), (.bool (boolV (gt s1 2))), (.int .i64 (IntKind.wrap .i64 ((intV (gt s1 3)) + 1)))], []))) none) none) none)) none) none)
   (some (.brk 0, [(.slice (esV (gt s1 0)) [] false), (.slice (esV (gt s1 1)) [] false), (.bool (boolV (gt s1 2))), (.int .i64 (intV (gt s1 3)))], []))) none) none
def seineref1_Members_T1 (O : Orc) (LP : LBody → LBody) (a : List GMember) (b : List GMember) : Option (PV × UP) :=
  cnd ((List.length (List.map encMember a) : Int) != (List.length (List.map encMember b) : Int))
   (some ((.bool false), []))
   (bnd (LP (seineref1_Members_l1 O LP) [(.slice (List.map encMember a) [] false), (.slice (List.map encMember b) [] false), (.bool false), (.int .i64 0)] []) fun y25 =>
   exIs y25.1 (some 0) (cnd (chkL [(.sl false), (.sl false), .bool, (.int .i64)] y25.2.1) (cnd (chkU [] y25.2.2)
    (some ((.bool true), [])) none) none)
   (exIs y25.1 none (cnd (chkL [(.sl false), (.sl false), .bool, (.int .i64)] y25.2.1) (cnd (chkU [] y25.2.2)
    (some ((.bool (boolV (gt y25.2.1 2))), [])) none) none)
   (none)))
noncomputable def seineref1_Members_l1T (a : List GMember) (b : List GMember) : Int → Option (Int ⊕ (Unit ⊕ Unit))
  | i_12 =>
  cnd (decide (i_12 < (List.length a : Int)))
   (bnd (nthI a i_12) fun y14 =>
   bnd (nthI b i_12) fun y16 =>
   cnd (!(y14.name == y16.name))
    (some (.inr (.inr ())))
    (bnd (nthI a i_12) fun y18 =>
    bnd (nthI b i_12) fun y20 =>
    bnd (seineref1_Same y18.v y20.v) fun y22 =>
    cnd (!y22)
     (some (.inr (.inr ())))
     (some (.inl (IntKind.wrap .i64 (i_12 + 1))))))
   (some (.inr (.inl ())))
abbrev seineref1_Members_l1R (a : List GMember) (b : List GMember) (st : Int) (l : List PV) (u : UP) : Prop := l = [(.slice (List.map encMember a) [] false), (.slice (List.map encMember b) [] false), (.bool false), (.int .i64 st)] ∧ u = []
abbrev seineref1_Members_l1X (a : List GMember) (b : List GMember) (p : Unit ⊕ Unit) (r : Ex × List PV × UP) : Prop := elim p (fun (p : Unit) => ∃ (i_23 : Int), r = (Ex.brk 0, [(.slice (List.map encMember a) [] false), (.slice (List.map encMember b) [] false), (.bool false), (.int .i64 i_23)], [])) (fun q2 => (fun (p : Unit) => ∃ (i_24 : Int), r = (Ex.ret, [(.slice (List.map encMember a) [] false), (.slice (List.map encMember b) [] false), (.bool false), (.int .i64 i_24)], [])) q2)
noncomputable def seineref1_Members_B (a : List GMember) (b : List GMember) : Option Bool :=
  cnd ((List.length a : Int) != (List.length b : Int))
   (some false)
   (bnd (tloop (seineref1_Members_l1T a b) 0) fun e25_2 => elim e25_2
   (fun p25 =>
    some true)
   (fun p25 =>
   some false))
def seineref1_Members_ds : Decs := { decs := [(19, (.ref shMember)), (24, (.ref shMember)), (31, (.ref shMember)), (36, (.ref shMember)), (39, .bool)], ups := [], loops := [(4, [], ⟨[(.sl false), (.sl false), .bool, (.int .i64)], [], [(some 0, [(.sl false), (.sl false), .bool, (.int .i64)], []), (none, [(.sl false), (.sl false), .bool, (.int .i64)], [])]⟩)] }
set_option maxRecDepth 100000 in
theorem seineref1_Members_t1 (O : Orc) (LP : LBody → LBody) (a : List GMember) (b : List GMember) : evalBodyD Try.prog (MT 17) seineref1_Members_ds Try.f17.ntmps O LP Try.f17 [(.slice (List.map encMember a) [] false), (.slice (List.map encMember b) [] false)] [] = seineref1_Members_T1 O LP a b := by kernel_rfl
theorem seineref1_Members_l1_ok (a : List GMember) (b : List GMember) : ∀ st l u, seineref1_Members_l1R a b st l u → Imp (seineref1_Members_l1T a b st) (seineref1_Members_l1 O loopLim l u) (StepR (seineref1_Members_l1R a b) (seineref1_Members_l1X a b)) := by
  rintro i_12 l u ⟨rfl, rfl⟩
  simp only [seineref1_Members_l1T, seineref1_Members_l1]
  refine Imp.chk rfl (Imp.chk rfl ?_)
  try simp only [evs, tys]
  refine Imp.cnd ?_ ?_
  · refine Imp.op (f := fun a => .ref (encMember a)) (fun a h => op_ix (enc := encMember) (by first | rfl | simp only [evs, tys, evl]) ⟨by first | rfl | simp only [evs, tys, evc], by decide⟩ h) (fun a => chk_GMember a) fun y14 hy14 => ?_
    try simp only [evs, tys]
    refine Imp.op (f := fun a => .ref (encMember a)) (fun a h => op_ix (enc := encMember) (by first | rfl | simp only [evs, tys, evl]) ⟨by first | rfl | simp only [evs, tys, evc], by decide⟩ h) (fun a => chk_GMember a) fun y16 hy16 => ?_
    try simp only [evs, tys]
    refine Imp.cnd ?_ ?_
    · exact Imp.some (StepR.ret ⟨i_12, by first | rfl | simp only [evs, tys, evl, elim_inl, elim_inr]⟩)
    · refine Imp.op (f := fun a => .ref (encMember a)) (fun a h => op_ix (enc := encMember) (by first | rfl | simp only [evs, tys, evl]) ⟨by first | rfl | simp only [evs, tys, evc], by decide⟩ h) (fun a => chk_GMember a) fun y18 hy18 => ?_
      try simp only [evs, tys]
      refine Imp.op (f := fun a => .ref (encMember a)) (fun a h => op_ix (enc := encMember) (by first | rfl | simp only [evs, tys, evl]) ⟨by first | rfl | simp only [evs, tys, evc], by decide⟩ h) (fun a => chk_GMember a) fun y20 hy20 => ?_
      try simp only [evs, tys]
      refine Imp.call (f := seineref1_SameE) rfl (fun a h => by first | exact seineref1_Same_spec h | simpa only [evs, tys, evl] using seineref1_Same_spec h) (fun a => by first | rfl | simp only [seineref1_SameE, evk, chks]) fun y22 hy22 => ?_
      try simp only [seineref1_SameE, evs, tys]
      refine Imp.cnd ?_ ?_
      · exact Imp.some (StepR.ret ⟨i_12, by first | rfl | simp only [evs, tys, evl, elim_inl, elim_inr]⟩)
      · exact Imp.some (StepR.next ⟨by first | rfl | simp only [evs, tys, evl], rfl⟩)
  · exact Imp.some (StepR.brk ⟨i_12, by first | rfl | simp only [evs, tys, evl, elim_inl, elim_inr]⟩)
theorem seineref1_Members_imp (a : List GMember) (b : List GMember) : Imp (seineref1_Members_B a b) (seineref1_Members_T1 O loopLim a b) (fun r v => v = (seineref1_MembersE r, [])) := by
  simp only [seineref1_Members_B, seineref1_Members_T1]
  try simp only [evs, tys]
  refine Imp.cnd ?_ ?_
  · exact Imp.some (by first | rfl | simp only [seineref1_MembersE, evs, tys, evl])
  · refine Imp.bnd (Imp.loop (seineref1_Members_l1_ok a b) ⟨by first | rfl | simp only [evs, tys, evl], rfl⟩) ?_
    rintro (p | p) vy25 hy25
    · try simp only [elim_inl, elim_inr]
      obtain ⟨i_23, rfl⟩ := hy25
      refine Imp.exHit rfl (Imp.chk rfl (Imp.chk rfl ?_))
      try simp only [evs, tys]
      exact Imp.some (by first | rfl | simp only [seineref1_MembersE, evs, tys, evl])
    · try simp only [elim_inl, elim_inr]
      obtain ⟨i_24, rfl⟩ := hy25
      refine Imp.exMiss rfl ?_
      refine Imp.exHit rfl (Imp.chk rfl (Imp.chk rfl ?_))
      try simp only [evs, tys]
      exact Imp.some (by first | rfl | simp only [seineref1_MembersE, evs, tys, evl])
theorem seineref1_Members_run {a : List GMember} {b : List GMember} {r : Bool} (h : seineref1_Members_B a b = some r) : seineref1_Members a b = some r := by
  obtain ⟨v, hv, rfl⟩ := seineref1_Members_imp a b r h
  exact tO_of (pair_inj seineref1_MembersEj) (OL_runD seineref1_Members_ds rfl rfl Try.func17 ((seineref1_Members_t1 _ _ a b).trans hv))

def value_Get_l1 (O : Orc) (LP : LBody → LBody) : LBody := fun s1 s1u => cnd (chkL [.str, (.ptr 0 4 0), .bool, (.sl false), (.int .i64), (.int .i64), (.int .i64), (.int .i64), .str, (.sl true), (.sl true)] s1) (cnd (chkU [] s1u)
  (cnd (decide ((intV (gt s1 5)) < (intV (gt s1 4))))
   (bnd (ix 6 (.slice (esV (gt s1 3)) [] false) (.int .i64 (intV (gt s1 5)))) fun x5 => cnd (chk (.ref shMember) x5)
   (cnd ((strV (gt (aggV (refV x5)) 0)) == (strV (gt s1 0)))
    (some (.ret, [(.str (strV (gt s1 0))), (.ptr 0 4 0), (.bool true), (.slice (esV (gt s1 3)) [] false), (.int .i64 (intV (gt s1 4))), (.int .i64 (intV (gt s1 5))), (.int .i64 (intV (gt (aggV (refV x5)) 1))), (.int .i64 (intV (gt (aggV (refV x5)) 2))), (.str (strV (gt (aggV (refV x5)) 3))), (.slice (esV (gt (aggV (refV x5)) 4)) [] false), (.slice (esV (gt (aggV (refV x5)) 5)) [] false)], []))
    (some (.nrm, [(.str (strV (gt s1 0))), (.ptr 0 4 0), (.bool (boolV (gt s1 2))), (.slice (esV (gt s1 3)) [] false), (.int .i64 (intV (gt s1 4))), (.int .i64 (IntKind.wrap .i64 ((intV (gt s1 5)) + 1))), (.int .i64 (intV (gt s1 6))), (.int .i64 (intV (gt s1 7))), (.str (strV (gt s1 8))), (.slice (esV (gt s1 9)) [] true), (.slice (esV (gt s1 10)) [] true)], []))) none)
   (some (.brk 0, [(.str (strV (gt s1 0))), (.ptr 0 4 0), (.bool (boolV (gt s1 2))), (.slice (esV (gt s1 3)) [] false), (.int .i64 (intV (gt s1 4))), (.int .i64 (intV (gt s1 5))), (.int .i64 (intV (gt s1 6))), (.int .i64 (intV (gt s1 7))), (.str (strV (gt s1 8))), (.slice (esV (gt s1 9)) [] true), (.slice (esV (gt s1 10)) [] true)], []))) none) none
def value_Get_T1 (O : Orc) (LP : LBody → LBody) (name : Str) (l0 : List GMember) : Option (PV × UP) :=
  bnd (LP (value_Get_l1 O LP) [(.str name), (.ptr 0 4 0), (.bool false), (.slice (List.map encMember l0) [] false), (.int .i64 (List.length (List.map encMember l0) : Int)), (.int .i64 0), (.int .i64 0), (.int .i64 0), (.str []), (.slice [] [] true), (.slice [] [] true)] []) fun y14 =>
  exIs y14.1 (some 0) (cnd (chkL [.str, (.ptr 0 4 0), .bool, (.sl false), (.int .i64), (.int .i64), (.int .i64), (.int .i64), .str, (.sl true), (.sl true)] y14.2.1) (cnd (chkU [] y14.2.2)
   (some ((.tuple [(.agg [(.int .i64 0), (.int .i64 0), (.str []), (.slice [] [] false), (.slice [] [] false)]), (.bool false)]), [])) none) none)
  (exIs y14.1 none (cnd (chkL [.str, (.ptr 0 4 0), .bool, (.sl false), (.int .i64), (.int .i64), (.int .i64), (.int .i64), .str, (.sl false), (.sl false)] y14.2.1) (cnd (chkU [] y14.2.2)
   (some ((.tuple [(.agg [(.int .i64 (intV (gt y14.2.1 6))), (.int .i64 (intV (gt y14.2.1 7))), (.str (strV (gt y14.2.1 8))), (.slice (esV (gt y14.2.1 9)) [] false), (.slice (esV (gt y14.2.1 10)) [] false)]), (.bool (boolV (gt y14.2.1 2)))]), [])) none) none)
  (none))
noncomputable def value_Get_l1T (name : Str) (l0 : List GMember) : Int → Option (Int ⊕ (Unit ⊕ (Int × Int × Str × (List GValue) × (List GMember))))
  | t_4 =>
  cnd (decide (t_4 < (List.length l0 : Int)))
   (bnd (nthI l0 t_4) fun y6 =>
   cnd (y6.name == name)
    (some (.inr (.inr (y6.v.kind, y6.v.n, y6.v.s, y6.v.l, y6.v.m))))
    (some (.inl (IntKind.wrap .i64 (t_4 + 1)))))
   (some (.inr (.inl ())))
abbrev value_Get_l1R (name : Str) (l0 : List GMember) (st : Int) (l : List PV) (u : UP) : Prop := l = [(.str name), (.ptr 0 4 0), (.bool false), (.slice (List.map encMember l0) [] false), (.int .i64 (List.length l0 : Int)), (.int .i64 st), (.int .i64 0), (.int .i64 0), (.str []), (.slice [] [] true), (.slice [] [] true)] ∧ u = []
abbrev value_Get_l1X (name : Str) (l0 : List GMember) (p : Unit ⊕ (Int × Int × Str × (List GValue) × (List GMember))) (r : Ex × List PV × UP) : Prop := elim p (fun (p : Unit) => ∃ (t_7 : Int), r = (Ex.brk 0, [(.str name), (.ptr 0 4 0), (.bool false), (.slice (List.map encMember l0) [] false), (.int .i64 (List.length l0 : Int)), (.int .i64 t_7), (.int .i64 0), (.int .i64 0), (.str []), (.slice [] [] true), (.slice [] [] true)], [])) (fun q2 => (fun (p : Int × Int × Str × (List GValue) × (List GMember)) => ∃ (t_8 : Int), r = (Ex.ret, [(.str name), (.ptr 0 4 0), (.bool true), (.slice (List.map encMember l0) [] false), (.int .i64 (List.length l0 : Int)), (.int .i64 t_8), (.int .i64 p.1), (.int .i64 p.2.1), (.str p.2.2.1), (.slice (List.map encValue p.2.2.2.1) [] false), (.slice (List.map encMember p.2.2.2.2) [] false)], [])) q2)
noncomputable def value_Get_B (name : Str) (l0 : List GMember) : Option (GValue × Bool) :=
  bnd (tloop (value_Get_l1T name l0) 0) fun e14_2 => elim e14_2
  (fun p14 =>
   some ((GValue.mk 0 0 [] ([] : List GValue) ([] : List GMember)), false))
  (fun p14 =>
  some ((GValue.mk p14.1 p14.2.1 p14.2.2.1 p14.2.2.2.1 p14.2.2.2.2), true))
def value_Get_ds : Decs := { decs := [(12, (.ref shMember))], ups := [], loops := [(2, [(4, 5)], ⟨[.str, (.ptr 0 4 0), .bool, (.sl false), (.int .i64), (.int .i64), (.int .i64), (.int .i64), .str, (.sl true), (.sl true)], [], [(some 0, [.str, (.ptr 0 4 0), .bool, (.sl false), (.int .i64), (.int .i64), (.int .i64), (.int .i64), .str, (.sl true), (.sl true)], []), (none, [.str, (.ptr 0 4 0), .bool, (.sl false), (.int .i64), (.int .i64), (.int .i64), (.int .i64), .str, (.sl false), (.sl false)], [])]⟩)] }
set_option maxRecDepth 100000 in
theorem value_Get_t1 (O : Orc) (LP : LBody → LBody) (name : Str) (l0 : List GMember) : evalBodyD Try.prog (MT 26) value_Get_ds Try.f26.ntmps O LP Try.f26 [(.str name), (.slice (List.map encMember l0) [] false)] [] = value_Get_T1 O LP name l0 := by kernel_rfl
theorem value_Get_l1_ok (name : Str) (l0 : List GMember) : ∀ st l u, value_Get_l1R name l0 st l u → Imp (value_Get_l1T name l0 st) (value_Get_l1 O loopLim l u) (StepR (value_Get_l1R name l0) (value_Get_l1X name l0)) := by
  rintro t_4 l u ⟨rfl, rfl⟩
  simp only [value_Get_l1T, value_Get_l1]
  refine Imp.chk rfl (Imp.chk rfl ?_)
  try simp only [evs, tys]
  refine Imp.cnd ?_ ?_
  · refine Imp.op (f := fun a => .ref (encMember a)) (fun a h => op_ix (enc := encMember) (by first | rfl | simp only [evs, tys, evl]) ⟨by first | rfl | simp only [evs, tys, evc], by decide⟩ h) (fun a => chk_GMember a) fun y6 hy6 => ?_
    try simp only [evs, tys]
    refine Imp.cnd ?_ ?_
    · exact Imp.some (StepR.ret ⟨t_4, by first | rfl | simp only [evs, tys, evl, elim_inl, elim_inr]⟩)
    · exact Imp.some (StepR.next ⟨by first | rfl | simp only [evs, tys, evl], rfl⟩)
  · exact Imp.some (StepR.brk ⟨t_4, by first | rfl | simp only [evs, tys, evl, elim_inl, elim_inr]⟩)
theorem value_Get_imp (name : Str) (l0 : List GMember) : Imp (value_Get_B name l0) (value_Get_T1 O loopLim name l0) (fun r v => v = (value_GetE r, [])) := by
  simp only [value_Get_B, value_Get_T1]
  try simp only [evs, tys]
  refine Imp.bnd (Imp.loop (value_Get_l1_ok name l0) ⟨by first | rfl | simp only [evs, tys, evl], rfl⟩) ?_
  rintro (p | ⟨b_9, b_10, b_11, b_12, b_13⟩) vy14 hy14
  · try simp only [elim_inl, elim_inr]
    obtain ⟨t_7, rfl⟩ := hy14
    refine Imp.exHit rfl (Imp.chk rfl (Imp.chk rfl ?_))
    try simp only [evs, tys]
    exact Imp.some (by first | rfl | simp only [value_GetE, evs, tys, evl])
  · try simp only [elim_inl, elim_inr]
    obtain ⟨t_8, rfl⟩ := hy14
    refine Imp.exMiss rfl ?_
    refine Imp.exHit rfl (Imp.chk rfl (Imp.chk rfl ?_))
    try simp only [evs, tys]
    exact Imp.some (by first | rfl | simp only [value_GetE, evs, tys, evl])
theorem value_Get_run {name : Str} {l0 : List GMember} {r : GValue × Bool} (h : value_Get_B name l0 = some r) : value_Get name l0 = some r := by
  obtain ⟨v, hv, rfl⟩ := value_Get_imp name l0 r h
  exact tO_of (pair_inj value_GetEj) (OL_runD value_Get_ds rfl rfl Try.func26 ((value_Get_t1 _ _ name l0).trans hv))
end Go.Proofs.Yteiccdhdfcbokaa

/- Printed by symgen.py: typed functions of this seat, and why they tell what the program does. -/
set_option linter.unusedVariables false
set_option linter.unusedSimpArgs false
open Go Go.Ev Go.Ev.PV
namespace Go.Proofs.Yteiccdhdfcbokaa
def seinelaw8_Light_l1 (O : Orc) (LP : LBody → LBody) : LBody := fun s46 s46u => cnd (chkL [(.ptr 0 1 0), (.int .i64), (.int .i64), (.ptr 0 5 0), (.int .i64), (.int .i64), .str, (.sl false), (.sl false), (.sl false), (.sl false), (.sl false), .str, .str] s46) (cnd (chkU [] s46u)
  (cnd (decide ((intV (gt s46 4)) < (List.length (esV (gt s46 8)) : Int)))
   (bnd (ix 6 (.slice (esV (gt s46 8)) [] false) (.int .i64 (intV (gt s46 4)))) fun x59 => cnd (chk (.ref shFieldDef) x59)
   (bnd (ix 6 (.slice (esV (gt s46 8)) [] false) (.int .i64 (intV (gt s46 4)))) fun x61 => cnd (chk (.ref shFieldDef) x61)
   (callp O 34 [(.slice (esV (gt (aggV (refV x61)) 1)) [] false)] fun x63 => cnd (chk (.int .i64) x63)
   (bnd (ix 6 (.slice (esV (gt s46 8)) [] false) (.int .i64 (intV (gt s46 4)))) fun x65 => cnd (chk (.ref shFieldDef) x65)
   (callp O 35 [(.slice (esV (gt (aggV (refV x65)) 5)) [] false)] fun x67 => cnd (chk (.int .i64) x67)
   (some (.nrm, [(.ptr 0 1 0), (.int .i64 (IntKind.wrap .i64 ((IntKind.wrap .i64 ((IntKind.wrap .i64 ((IntKind.wrap .i64 ((intV (gt s46 1)) + 1)) + (List.length (strV (gt (aggV (refV x59)) 0)) : Int))) + (intV x63))) + (intV x67)))), (.int .i64 (intV (gt s46 2))), (.ptr 0 5 0), (.int .i64 (IntKind.wrap .i64 ((intV (gt s46 4)) + 1))), (.int .i64 (intV (gt s46 5))), (.str (strV (gt s46 6))), (.slice (esV (gt s46 7)) [] false), (.slice (esV (gt s46 8)) [] false), (.slice (esV (gt s46 9)) [] false), (.slice (esV (gt s46 10)) [] false), (.slice (esV (gt s46 11)) [] false), (.str (strV (gt s46 12))), (.str (strV (gt s46 13)))], [])) none) none) none) none) none)
   (some (.brk 2, [(.ptr 0 1 0), (.int .i64 (intV (gt s46 1))), (.int .i64 (intV (gt s46 2))), (.ptr 0 5 0), (.int .i64 (intV (gt s46 4))), (.int .i64 (intV (gt s46 5))), (.str (strV (gt s46 6))), (.slice (esV (gt s46 7)) [] false), (.slice (esV (gt s46 8)) [] false), (.slice (esV (gt s46 9)) [] false), (.slice (esV (gt s46 10)) [] false), (.slice (esV (gt s46 11)) [] false), (.str (strV (gt s46 12))), (.str (strV (gt s46 13)))], []))) none) none
def seinelaw8_Light_l2 (O : Orc) (LP : LBody → LBody) : LBody := fun s1 s1u => cnd (chkL [(.ptr 0 1 0), (.int .i64), (.int .i64), (.sl false), .str, .str] s1) (cnd (chkU [] s1u)
  (cnd (decide ((intV (gt s1 2)) < (List.length (esV (gt s1 3)) : Int)))
   (bnd (ix 6 (.slice (esV (gt s1 3)) [] false) (.int .i64 (intV (gt s1 2)))) fun x38 => cnd (chk (.ref shDef) x38)
   (callp O 33 [(.slice (esV (gt (aggV (refV x38)) 2)) [] false)] fun x40 => cnd (chk (.int .i64) x40)
   (callp O 33 [(.slice (esV (gt (aggV (refV x38)) 4)) [] false)] fun x42 => cnd (chk (.int .i64) x42)
   (callp O 34 [(.slice (esV (gt (aggV (refV x38)) 5)) [] false)] fun x44 => cnd (chk (.int .i64) x44)
   (bnd (LP (seinelaw8_Light_l1 O LP) [(.ptr 0 1 0), (.int .i64 (IntKind.wrap .i64 ((IntKind.wrap .i64 ((IntKind.wrap .i64 ((IntKind.wrap .i64 ((IntKind.wrap .i64 ((intV (gt s1 1)) + 1)) + (List.length (strV (gt (aggV (refV x38)) 1)) : Int))) + (intV x40))) + (intV x42))) + (intV x44)))), (.int .i64 (intV (gt s1 2))), (.ptr 0 5 0), (.int .i64 0), (.int .i64 (intV (gt (aggV (refV x38)) 0))), (.str (strV (gt (aggV (refV x38)) 1))), (.slice (esV (gt (aggV (refV x38)) 2)) [] false), (.slice (esV (gt (aggV (refV x38)) 3)) [] false), (.slice (esV (gt (aggV (refV x38)) 4)) [] false), (.slice (esV (gt (aggV (refV x38)) 5)) [] false), (.slice (esV (gt s1 3)) [] false), (.str (strV (gt s1 4))), (.str (strV (gt s1 5)))] []) fun y71 =>
   exIs y71.1 (some 2) (cnd (chkL [(.ptr 0 1 0), (.int .i64), (.int .i64), (.ptr 0 5 0), (.int .i64), (.int .i64), .str, (.sl false), (.sl false), (.sl false), (.sl false), (.sl false), .str, .str] y71.2.1) (cnd (chkU [] y71.2.2)
    (some (.nrm, [(.ptr 0 1 0), (.int .i64 (intV (gt y71.2.1 1))), (.int .i64 (IntKind.wrap .i64 ((intV (gt y71.2.1 2)) + 1))), (.slice (esV (gt y71.2.1 11)) [] false), (.str (strV (gt y71.2.1 12))), (.str (strV (gt y71.2.1 13)))], [])) none) none)
   (none)) none) none) none) none)
   (some (.brk 0, [(.ptr 0 1 0), (.int .i64 (intV (gt s1 1))), (.int .i64 (intV (gt s1 2))), (.slice (esV (gt s1 3)) [] false), (.str (strV (gt s1 4))), (.str (strV (gt s1 5)))], []))) none) none
def seinelaw8_Light_T1 (O : Orc) (LP : LBody → LBody) (s : GSchema) : Option (PV × UP) :=
  bnd (LP (seinelaw8_Light_l2 O LP) [(.ptr 0 1 0), (.int .i64 0), (.int .i64 0), (.slice (List.map encDef s.defs) [] false), (.str s.query), (.str s.mutation)] []) fun y74 =>
  exIs y74.1 (some 0) (cnd (chkL [(.ptr 0 1 0), (.int .i64), (.int .i64), (.sl false), .str, .str] y74.2.1) (cnd (chkU [] y74.2.2)
   (some ((.bool (decide ((intV (gt y74.2.1 1)) ≤ 4000))), [])) none) none)
  (none)
noncomputable def seinelaw8_Light_l1T (y39 : GDef) : (Int × Int) → Option ((Int × Int) ⊕ Int)
  | (n_57, k_58) =>
  cnd (decide (k_58 < (List.length y39.fields : Int)))
   (bnd (nthI y39.fields k_58) fun y60 =>
   bnd (nthI y39.fields k_58) fun y62 =>
   bnd (seinelaw8_lightParams y62.params) fun y64 =>
   bnd (nthI y39.fields k_58) fun y66 =>
   bnd (seinelaw8_lightDirs y66.dirs) fun y68 =>
   some (.inl ((IntKind.wrap .i64 ((IntKind.wrap .i64 ((IntKind.wrap .i64 ((IntKind.wrap .i64 (n_57 + 1)) + (List.length y60.name : Int))) + y64)) + y68)), (IntKind.wrap .i64 (k_58 + 1)))))
   (some (.inr n_57))
abbrev seinelaw8_Light_l1R (s : GSchema) (i_37 : Int) (y39 : GDef) (st : Int × Int) (l : List PV) (u : UP) : Prop := l = [(.ptr 0 1 0), (.int .i64 st.1), (.int .i64 i_37), (.ptr 0 5 0), (.int .i64 st.2), (.int .i64 y39.kind), (.str y39.name), (.slice (List.map PV.str y39.faces) [] false), (.slice (List.map encFieldDef y39.fields) [] false), (.slice (List.map PV.str y39.parts) [] false), (.slice (List.map encParam y39.params) [] false), (.slice (List.map encDef s.defs) [] false), (.str s.query), (.str s.mutation)] ∧ u = []
abbrev seinelaw8_Light_l1X (s : GSchema) (i_37 : Int) (y39 : GDef) (p : Int) (r : Ex × List PV × UP) : Prop := (fun (p : Int) => ∃ (k_70 : Int), r = (Ex.brk 2, [(.ptr 0 1 0), (.int .i64 p), (.int .i64 i_37), (.ptr 0 5 0), (.int .i64 k_70), (.int .i64 y39.kind), (.str y39.name), (.slice (List.map PV.str y39.faces) [] false), (.slice (List.map encFieldDef y39.fields) [] false), (.slice (List.map PV.str y39.parts) [] false), (.slice (List.map encParam y39.params) [] false), (.slice (List.map encDef s.defs) [] false), (.str s.query), (.str s.mutation)], [])) p
noncomputable def seinelaw8_Light_l2T (s : GSchema) : (Int × Int) → Option ((Int × Int) ⊕ Int)
  | (n_36, i_37) =>
  cnd (decide (i_37 < (List.length s.defs : Int)))
   (bnd (nthI s.defs i_37) fun y39 =>
   bnd (seinelaw8_lightTexts y39.faces) fun y41 =>
   bnd (seinelaw8_lightTexts y39.parts) fun y43 =>
   bnd (seinelaw8_lightParams y39.params) fun y45 =>
   bnd (tloop (seinelaw8_Light_l1T y39) ((IntKind.wrap .i64 ((IntKind.wrap .i64 ((IntKind.wrap .i64 ((IntKind.wrap .i64 ((IntKind.wrap .i64 (n_36 + 1)) + (List.length y39.name : Int))) + y41)) + y43)) + y45)), 0)) fun n_69 =>
   some (.inl (n_69, (IntKind.wrap .i64 (i_37 + 1)))))
   (some (.inr n_36))
abbrev seinelaw8_Light_l2R (s : GSchema) (st : Int × Int) (l : List PV) (u : UP) : Prop := l = [(.ptr 0 1 0), (.int .i64 st.1), (.int .i64 st.2), (.slice (List.map encDef s.defs) [] false), (.str s.query), (.str s.mutation)] ∧ u = []
abbrev seinelaw8_Light_l2X (s : GSchema) (p : Int) (r : Ex × List PV × UP) : Prop := (fun (p : Int) => ∃ (i_73 : Int), r = (Ex.brk 0, [(.ptr 0 1 0), (.int .i64 p), (.int .i64 i_73), (.slice (List.map encDef s.defs) [] false), (.str s.query), (.str s.mutation)], [])) p
noncomputable def seinelaw8_Light_B (s : GSchema) : Option Bool :=
  bnd (tloop (seinelaw8_Light_l2T s) (0, 0)) fun n_72 =>
  some (decide (n_72 ≤ 4000))
def seinelaw8_Light_ds : Decs := { decs := [(17, (.ref shDef)), (27, (.int .i64)), (31, (.int .i64)), (35, (.int .i64)), (49, (.ref shFieldDef)), (57, (.ref shFieldDef)), (60, (.int .i64)), (65, (.ref shFieldDef)), (68, (.int .i64))], ups := [], loops := [(3, [(1, 3)], ⟨[(.ptr 0 1 0), (.int .i64), (.int .i64), (.sl false), .str, .str], [], [(some 0, [(.ptr 0 1 0), (.int .i64), (.int .i64), (.sl false), .str, .str], [])]⟩), (8, [(5, 6), (1, 3)], ⟨[(.ptr 0 1 0), (.int .i64), (.int .i64), (.ptr 0 5 0), (.int .i64), (.int .i64), .str, (.sl false), (.sl false), (.sl false), (.sl false), (.sl false), .str, .str], [], [(some 2, [(.ptr 0 1 0), (.int .i64), (.int .i64), (.ptr 0 5 0), (.int .i64), (.int .i64), .str, (.sl false), (.sl false), (.sl false), (.sl false), (.sl false), .str, .str], [])]⟩)] }
set_option maxRecDepth 100000 in
theorem seinelaw8_Light_t1 (O : Orc) (LP : LBody → LBody) (s : GSchema) : evalBodyD Try.prog (MT 19) seinelaw8_Light_ds Try.f19.ntmps O LP Try.f19 [(.agg [(.slice (List.map encDef s.defs) [] false), (.str s.query), (.str s.mutation)])] [] = seinelaw8_Light_T1 O LP s := by kernel_rfl
theorem seinelaw8_Light_l1_ok (s : GSchema) (i_37 : Int) (y39 : GDef) : ∀ st l u, seinelaw8_Light_l1R s i_37 y39 st l u → Imp (seinelaw8_Light_l1T y39 st) (seinelaw8_Light_l1 O loopLim l u) (StepR (seinelaw8_Light_l1R s i_37 y39) (seinelaw8_Light_l1X s i_37 y39)) := by
  rintro ⟨n_57, k_58⟩ l u ⟨rfl, rfl⟩
  simp only [seinelaw8_Light_l1T, seinelaw8_Light_l1]
  refine Imp.chk rfl (Imp.chk rfl ?_)
  try simp only [evs, tys]
  refine Imp.cnd ?_ ?_
  · refine Imp.op (f := fun a => .ref (encFieldDef a)) (fun a h => op_ix (enc := encFieldDef) (by first | rfl | simp only [evs, tys, evl]) ⟨by first | rfl | simp only [evs, tys, evc], by decide⟩ h) (fun a => chk_GFieldDef a) fun y60 hy60 => ?_
    try simp only [evs, tys]
    refine Imp.op (f := fun a => .ref (encFieldDef a)) (fun a h => op_ix (enc := encFieldDef) (by first | rfl | simp only [evs, tys, evl]) ⟨by first | rfl | simp only [evs, tys, evc], by decide⟩ h) (fun a => chk_GFieldDef a) fun y62 hy62 => ?_
    try simp only [evs, tys]
    refine Imp.call (f := seinelaw8_lightParamsE) rfl (fun a h => by first | exact seinelaw8_lightParams_spec h | simpa only [evs, tys, evl] using seinelaw8_lightParams_spec h) (fun a => by first | rfl | simp only [seinelaw8_lightParamsE, evk, chks]) fun y64 hy64 => ?_
    try simp only [seinelaw8_lightParamsE, evs, tys]
    refine Imp.op (f := fun a => .ref (encFieldDef a)) (fun a h => op_ix (enc := encFieldDef) (by first | rfl | simp only [evs, tys, evl]) ⟨by first | rfl | simp only [evs, tys, evc], by decide⟩ h) (fun a => chk_GFieldDef a) fun y66 hy66 => ?_
    try simp only [evs, tys]
    refine Imp.call (f := seinelaw8_lightDirsE) rfl (fun a h => by first | exact seinelaw8_lightDirs_spec h | simpa only [evs, tys, evl] using seinelaw8_lightDirs_spec h) (fun a => by first | rfl | simp only [seinelaw8_lightDirsE, evk, chks]) fun y68 hy68 => ?_
    try simp only [seinelaw8_lightDirsE, evs, tys]
    exact Imp.some (StepR.next ⟨by first | rfl | simp only [evs, tys, evl], rfl⟩)
  · exact Imp.some (StepR.brk ⟨k_58, by first | rfl | simp only [evs, tys, evl, elim_inl, elim_inr]⟩)
theorem seinelaw8_Light_l2_ok (s : GSchema) : ∀ st l u, seinelaw8_Light_l2R s st l u → Imp (seinelaw8_Light_l2T s st) (seinelaw8_Light_l2 O loopLim l u) (StepR (seinelaw8_Light_l2R s) (seinelaw8_Light_l2X s)) := by
  rintro ⟨n_36, i_37⟩ l u ⟨rfl, rfl⟩
  simp only [seinelaw8_Light_l2T, seinelaw8_Light_l2]
  refine Imp.chk rfl (Imp.chk rfl ?_)
  try simp only [evs, tys]
  refine Imp.cnd ?_ ?_
  · refine Imp.op (f := fun a => .ref (encDef a)) (fun a h => op_ix (enc := encDef) (by first | rfl | simp only [evs, tys, evl]) ⟨by first | rfl | simp only [evs, tys, evc], by decide⟩ h) (fun a => chk_GDef a) fun y39 hy39 => ?_
    try simp only [evs, tys]
    refine Imp.call (f := seinelaw8_lightTextsE) rfl (fun a h => by first | exact seinelaw8_lightTexts_spec h | simpa only [evs, tys, evl] using seinelaw8_lightTexts_spec h) (fun a => by first | rfl | simp only [seinelaw8_lightTextsE, evk, chks]) fun y41 hy41 => ?_
    try simp only [seinelaw8_lightTextsE, evs, tys]
    refine Imp.call (f := seinelaw8_lightTextsE) rfl (fun a h => by first | exact seinelaw8_lightTexts_spec h | simpa only [evs, tys, evl] using seinelaw8_lightTexts_spec h) (fun a => by first | rfl | simp only [seinelaw8_lightTextsE, evk, chks]) fun y43 hy43 => ?_
    try simp only [seinelaw8_lightTextsE, evs, tys]
    refine Imp.call (f := seinelaw8_lightParamsE) rfl (fun a h => by first | exact seinelaw8_lightParams_spec h | simpa only [evs, tys, evl] using seinelaw8_lightParams_spec h) (fun a => by first | rfl | simp only [seinelaw8_lightParamsE, evk, chks]) fun y45 hy45 => ?_
    try simp only [seinelaw8_lightParamsE, evs, tys]
    refine Imp.bnd (Imp.loop (seinelaw8_Light_l1_ok s i_37 y39) ⟨by first | rfl | simp only [evs, tys, evl], rfl⟩) ?_
    rintro n_69 vy71 hy71
    obtain ⟨k_70, rfl⟩ := hy71
    refine Imp.exHit rfl (Imp.chk rfl (Imp.chk rfl ?_))
    try simp only [evs, tys]
    exact Imp.some (StepR.next ⟨by first | rfl | simp only [evs, tys, evl], rfl⟩)
  · exact Imp.some (StepR.brk ⟨i_37, by first | rfl | simp only [evs, tys, evl, elim_inl, elim_inr]⟩)
theorem seinelaw8_Light_imp (s : GSchema) : Imp (seinelaw8_Light_B s) (seinelaw8_Light_T1 O loopLim s) (fun r v => v = (seinelaw8_LightE r, [])) := by
  simp only [seinelaw8_Light_B, seinelaw8_Light_T1]
  try simp only [evs, tys]
  refine Imp.bnd (Imp.loop (seinelaw8_Light_l2_ok s) ⟨by first | rfl | simp only [evs, tys, evl], rfl⟩) ?_
  rintro n_72 vy74 hy74
  obtain ⟨i_73, rfl⟩ := hy74
  refine Imp.exHit rfl (Imp.chk rfl (Imp.chk rfl ?_))
  try simp only [evs, tys]
  exact Imp.some (by first | rfl | simp only [seinelaw8_LightE, evs, tys, evl])
theorem seinelaw8_Light_run {s : GSchema} {r : Bool} (h : seinelaw8_Light_B s = some r) : seinelaw8_Light s = some r := by
  obtain ⟨v, hv, rfl⟩ := seinelaw8_Light_imp s r h
  exact tO_of (pair_inj seinelaw8_LightEj) (OL_runD seinelaw8_Light_ds rfl rfl Try.func19 ((seinelaw8_Light_t1 _ _ s).trans hv))

def seinekeep_Size_l1 (O : Orc) (LP : LBody → LBody) : LBody := fun s1 s1u => cnd (chkL [(.ptr 0 1 0), (.int .i64), (.int .i64), (.int .i64), (.int .i64), .str, (.sl false), (.sl false)] s1) (cnd (chkU [] s1u)
  (cnd (decide ((intV (gt s1 2)) < (List.length (esV (gt s1 6)) : Int)))
   (bnd (ix 5 (.slice (esV (gt s1 6)) [] false) (.int .i64 (intV (gt s1 2)))) fun x8 => cnd (chk (.ref shValue) x8)
   (callp O 20 [(.agg [(.int .i64 (intV (gt (aggV (refV x8)) 0))), (.int .i64 (intV (gt (aggV (refV x8)) 1))), (.str (strV (gt (aggV (refV x8)) 2))), (.slice (esV (gt (aggV (refV x8)) 3)) [] false), (.slice (esV (gt (aggV (refV x8)) 4)) [] false)])] fun x10 => cnd (chk (.int .i64) x10)
   (some (.nrm, [(.ptr 0 1 0), (.int .i64 (IntKind.wrap .i64 ((intV (gt s1 1)) + (intV x10)))), (.int .i64 (IntKind.wrap .i64 ((intV (gt s1 2)) + 1))), (.int .i64 (intV (gt s1 3))), (.int .i64 (intV (gt s1 4))), (.str (strV (gt s1 5))), (.slice (esV (gt s1 6)) [] false), (.slice (esV (gt s1 7)) [] false)], [])) none) none)
   (some (.brk 0, [(.ptr 0 1 0), (.int .i64 (intV (gt s1 1))), (.int .i64 (intV (gt s1 2))), (.int .i64 (intV (gt s1 3))), (.int .i64 (intV (gt s1 4))), (.str (strV (gt s1 5))), (.slice (esV (gt s1 6)) [] false), (.slice (esV (gt s1 7)) [] false)], []))) none) none
def seinekeep_Size_l2 (O : Orc) (LP : LBody → LBody) : LBody := fun s15 s15u => cnd (chkL [(.ptr 0 1 0), (.int .i64), (.int .i64), (.int .i64), (.int .i64), .str, (.sl false), (.sl false)] s15) (cnd (chkU [] s15u)
  (cnd (decide ((intV (gt s15 2)) < (List.length (esV (gt s15 7)) : Int)))
   (bnd (ix 6 (.slice (esV (gt s15 7)) [] false) (.int .i64 (intV (gt s15 2)))) fun x24 => cnd (chk (.ref shMember) x24)
   (bnd (ix 6 (.slice (esV (gt s15 7)) [] false) (.int .i64 (intV (gt s15 2)))) fun x26 => cnd (chk (.ref shMember) x26)
   (callp O 20 [(.agg [(.int .i64 (intV (gt (aggV (refV x26)) 1))), (.int .i64 (intV (gt (aggV (refV x26)) 2))), (.str (strV (gt (aggV (refV x26)) 3))), (.slice (esV (gt (aggV (refV x26)) 4)) [] false), (.slice (esV (gt (aggV (refV x26)) 5)) [] false)])] fun x28 => cnd (chk (.int .i64) x28)
   (some (.nrm, [(.ptr 0 1 0), (.int .i64 (IntKind.wrap .i64 ((IntKind.wrap .i64 ((intV (gt s15 1)) + (List.length (strV (gt (aggV (refV x24)) 0)) : Int))) + (intV x28)))), (.int .i64 (IntKind.wrap .i64 ((intV (gt s15 2)) + 1))), (.int .i64 (intV (gt s15 3))), (.int .i64 (intV (gt s15 4))), (.str (strV (gt s15 5))), (.slice (esV (gt s15 6)) [] false), (.slice (esV (gt s15 7)) [] false)], [])) none) none) none)
   (some (.brk 2, [(.ptr 0 1 0), (.int .i64 (intV (gt s15 1))), (.int .i64 (intV (gt s15 2))), (.int .i64 (intV (gt s15 3))), (.int .i64 (intV (gt s15 4))), (.str (strV (gt s15 5))), (.slice (esV (gt s15 6)) [] false), (.slice (esV (gt s15 7)) [] false)], []))) none) none
def seinekeep_Size_T1 (O : Orc) (LP : LBody → LBody) (v0 : GValue) : Option (PV × UP) :=
  bnd (LP (seinekeep_Size_l1 O LP) [(.ptr 0 1 0), (.int .i64 (IntKind.wrap .i64 (1 + (List.length v0.s : Int)))), (.int .i64 0), (.int .i64 v0.kind), (.int .i64 v0.n), (.str v0.s), (.slice (List.map encValue v0.l) [] false), (.slice (List.map encMember v0.m) [] false)] []) fun y14 =>
  exIs y14.1 (some 0) (cnd (chkL [(.ptr 0 1 0), (.int .i64), (.int .i64), (.int .i64), (.int .i64), .str, (.sl false), (.sl false)] y14.2.1) (cnd (chkU [] y14.2.2)
   (bnd (LP (seinekeep_Size_l2 O LP) [(.ptr 0 1 0), (.int .i64 (intV (gt y14.2.1 1))), (.int .i64 0), (.int .i64 (intV (gt y14.2.1 3))), (.int .i64 (intV (gt y14.2.1 4))), (.str (strV (gt y14.2.1 5))), (.slice (esV (gt y14.2.1 6)) [] false), (.slice (esV (gt y14.2.1 7)) [] false)] []) fun y32 =>
   exIs y32.1 (some 2) (cnd (chkL [(.ptr 0 1 0), (.int .i64), (.int .i64), (.int .i64), (.int .i64), .str, (.sl false), (.sl false)] y32.2.1) (cnd (chkU [] y32.2.2)
    (some ((.int .i64 (intV (gt y32.2.1 1))), [])) none) none)
   (none)) none) none)
  (none)
noncomputable def seinekeep_Size_l1T (v0 : GValue) : (Int × Int) → Option ((Int × Int) ⊕ Int)
  | (n_6, i_7) =>
  cnd (decide (i_7 < (List.length v0.l : Int)))
   (bnd (nthI v0.l i_7) fun y9 =>
   bnd (seinekeep_Size y9) fun y11 =>
   some (.inl ((IntKind.wrap .i64 (n_6 + y11)), (IntKind.wrap .i64 (i_7 + 1)))))
   (some (.inr n_6))
abbrev seinekeep_Size_l1R (v0 : GValue) (st : Int × Int) (l : List PV) (u : UP) : Prop := l = [(.ptr 0 1 0), (.int .i64 st.1), (.int .i64 st.2), (.int .i64 v0.kind), (.int .i64 v0.n), (.str v0.s), (.slice (List.map encValue v0.l) [] false), (.slice (List.map encMember v0.m) [] false)] ∧ u = []
abbrev seinekeep_Size_l1X (v0 : GValue) (p : Int) (r : Ex × List PV × UP) : Prop := (fun (p : Int) => ∃ (i_13 : Int), r = (Ex.brk 0, [(.ptr 0 1 0), (.int .i64 p), (.int .i64 i_13), (.int .i64 v0.kind), (.int .i64 v0.n), (.str v0.s), (.slice (List.map encValue v0.l) [] false), (.slice (List.map encMember v0.m) [] false)], [])) p
noncomputable def seinekeep_Size_l2T (v0 : GValue) : (Int × Int) → Option ((Int × Int) ⊕ Int)
  | (n_22, i_23) =>
  cnd (decide (i_23 < (List.length v0.m : Int)))
   (bnd (nthI v0.m i_23) fun y25 =>
   bnd (nthI v0.m i_23) fun y27 =>
   bnd (seinekeep_Size y27.v) fun y29 =>
   some (.inl ((IntKind.wrap .i64 ((IntKind.wrap .i64 (n_22 + (List.length y25.name : Int))) + y29)), (IntKind.wrap .i64 (i_23 + 1)))))
   (some (.inr n_22))
abbrev seinekeep_Size_l2R (v0 : GValue) (st : Int × Int) (l : List PV) (u : UP) : Prop := l = [(.ptr 0 1 0), (.int .i64 st.1), (.int .i64 st.2), (.int .i64 v0.kind), (.int .i64 v0.n), (.str v0.s), (.slice (List.map encValue v0.l) [] false), (.slice (List.map encMember v0.m) [] false)] ∧ u = []
abbrev seinekeep_Size_l2X (v0 : GValue) (p : Int) (r : Ex × List PV × UP) : Prop := (fun (p : Int) => ∃ (i_31 : Int), r = (Ex.brk 2, [(.ptr 0 1 0), (.int .i64 p), (.int .i64 i_31), (.int .i64 v0.kind), (.int .i64 v0.n), (.str v0.s), (.slice (List.map encValue v0.l) [] false), (.slice (List.map encMember v0.m) [] false)], [])) p
noncomputable def seinekeep_Size_B (v0 : GValue) : Option Int :=
  bnd (tloop (seinekeep_Size_l1T v0) ((IntKind.wrap .i64 (1 + (List.length v0.s : Int))), 0)) fun n_12 =>
  bnd (tloop (seinekeep_Size_l2T v0) (n_12, 0)) fun n_30 =>
  some n_30
def seinekeep_Size_ds : Decs := { decs := [(21, (.ref shValue)), (23, (.int .i64)), (36, (.ref shMember)), (44, (.ref shMember)), (47, (.int .i64))], ups := [], loops := [(3, [(1, 5)], ⟨[(.ptr 0 1 0), (.int .i64), (.int .i64), (.int .i64), (.int .i64), .str, (.sl false), (.sl false)], [], [(some 0, [(.ptr 0 1 0), (.int .i64), (.int .i64), (.int .i64), (.int .i64), .str, (.sl false), (.sl false)], [])]⟩), (7, [(1, 5)], ⟨[(.ptr 0 1 0), (.int .i64), (.int .i64), (.int .i64), (.int .i64), .str, (.sl false), (.sl false)], [], [(some 2, [(.ptr 0 1 0), (.int .i64), (.int .i64), (.int .i64), (.int .i64), .str, (.sl false), (.sl false)], [])]⟩)] }
set_option maxRecDepth 100000 in
theorem seinekeep_Size_t1 (O : Orc) (LP : LBody → LBody) (v0 : GValue) : evalBodyD Try.prog (MT 20) seinekeep_Size_ds Try.f20.ntmps O LP Try.f20 [(.agg [(.int .i64 v0.kind), (.int .i64 v0.n), (.str v0.s), (.slice (List.map encValue v0.l) [] false), (.slice (List.map encMember v0.m) [] false)])] [] = seinekeep_Size_T1 O LP v0 := by kernel_rfl
theorem seinekeep_Size_l1_ok (v0 : GValue) : ∀ st l u, seinekeep_Size_l1R v0 st l u → Imp (seinekeep_Size_l1T v0 st) (seinekeep_Size_l1 O loopLim l u) (StepR (seinekeep_Size_l1R v0) (seinekeep_Size_l1X v0)) := by
  rintro ⟨n_6, i_7⟩ l u ⟨rfl, rfl⟩
  simp only [seinekeep_Size_l1T, seinekeep_Size_l1]
  refine Imp.chk rfl (Imp.chk rfl ?_)
  try simp only [evs, tys]
  refine Imp.cnd ?_ ?_
  · refine Imp.op (f := fun a => .ref (encValue a)) (fun a h => op_ix (enc := encValue) (by first | rfl | simp only [evs, tys, evl]) ⟨by first | rfl | simp only [evs, tys, evc], by decide⟩ h) (fun a => chk_GValue a) fun y9 hy9 => ?_
    try simp only [evs, tys]
    refine Imp.call (f := seinekeep_SizeE) rfl (fun a h => by first | exact seinekeep_Size_spec h | simpa only [evs, tys, evl] using seinekeep_Size_spec h) (fun a => by first | rfl | simp only [seinekeep_SizeE, evk, chks]) fun y11 hy11 => ?_
    try simp only [seinekeep_SizeE, evs, tys]
    exact Imp.some (StepR.next ⟨by first | rfl | simp only [evs, tys, evl], rfl⟩)
  · exact Imp.some (StepR.brk ⟨i_7, by first | rfl | simp only [evs, tys, evl, elim_inl, elim_inr]⟩)
theorem seinekeep_Size_l2_ok (v0 : GValue) : ∀ st l u, seinekeep_Size_l2R v0 st l u → Imp (seinekeep_Size_l2T v0 st) (seinekeep_Size_l2 O loopLim l u) (StepR (seinekeep_Size_l2R v0) (seinekeep_Size_l2X v0)) := by
  rintro ⟨n_22, i_23⟩ l u ⟨rfl, rfl⟩
  simp only [seinekeep_Size_l2T, seinekeep_Size_l2]
  refine Imp.chk rfl (Imp.chk rfl ?_)
  try simp only [evs, tys]
  refine Imp.cnd ?_ ?_
  · refine Imp.op (f := fun a => .ref (encMember a)) (fun a h => op_ix (enc := encMember) (by first | rfl | simp only [evs, tys, evl]) ⟨by first | rfl | simp only [evs, tys, evc], by decide⟩ h) (fun a => chk_GMember a) fun y25 hy25 => ?_
    try simp only [evs, tys]
    refine Imp.op (f := fun a => .ref (encMember a)) (fun a h => op_ix (enc := encMember) (by first | rfl | simp only [evs, tys, evl]) ⟨by first | rfl | simp only [evs, tys, evc], by decide⟩ h) (fun a => chk_GMember a) fun y27 hy27 => ?_
    try simp only [evs, tys]
    refine Imp.call (f := seinekeep_SizeE) rfl (fun a h => by first | exact seinekeep_Size_spec h | simpa only [evs, tys, evl] using seinekeep_Size_spec h) (fun a => by first | rfl | simp only [seinekeep_SizeE, evk, chks]) fun y29 hy29 => ?_
    try simp only [seinekeep_SizeE, evs, tys]
    exact Imp.some (StepR.next ⟨by first | rfl | simp only [evs, tys, evl], rfl⟩)
  · exact Imp.some (StepR.brk ⟨i_23, by first | rfl | simp only [evs, tys, evl, elim_inl, elim_inr]⟩)
theorem seinekeep_Size_imp (v0 : GValue) : Imp (seinekeep_Size_B v0) (seinekeep_Size_T1 O loopLim v0) (fun r v => v = (seinekeep_SizeE r, [])) := by
  simp only [seinekeep_Size_B, seinekeep_Size_T1]
  try simp only [evs, tys]
  refine Imp.bnd (Imp.loop (seinekeep_Size_l1_ok v0) ⟨by first | rfl | simp only [evs, tys, evl], rfl⟩) ?_
  rintro n_12 vy14 hy14
  obtain ⟨i_13, rfl⟩ := hy14
  refine Imp.exHit rfl (Imp.chk rfl (Imp.chk rfl ?_))
  try simp only [evs, tys]
  refine Imp.bnd (Imp.loop (seinekeep_Size_l2_ok v0) ⟨by first | rfl | simp only [evs, tys, evl], rfl⟩) ?_
  rintro n_30 vy32 hy32
  obtain ⟨i_31, rfl⟩ := hy32
  refine Imp.exHit rfl (Imp.chk rfl (Imp.chk rfl ?_))
  try simp only [evs, tys]
  exact Imp.some (by first | rfl | simp only [seinekeep_SizeE, evs, tys, evl])
theorem seinekeep_Size_run {v0 : GValue} {r : Int} (h : seinekeep_Size_B v0 = some r) : seinekeep_Size v0 = some r := by
  obtain ⟨v, hv, rfl⟩ := seinekeep_Size_imp v0 r h
  exact tO_of (pair_inj seinekeep_SizeEj) (OL_runD seinekeep_Size_ds rfl rfl Try.func20 ((seinekeep_Size_t1 _ _ v0).trans hv))

def wrap_Is_T1 (O : Orc) (LP : LBody → LBody) (t : GType) : Option (PV × UP) :=
  callp O 31 [(.agg [(.str t.name), (.int .i64 t.lists), (.int .i64 t.musts)])] fun x1 => cnd (chk .bool x1)
  (cnd (boolV x1)
   (callp O 32 [(.agg [(.str t.name), (.int .i64 t.lists), (.int .i64 t.musts)]), (.int .i64 0)] fun x3 => cnd (chk .bool x3)
   (some ((.bool (boolV x3)), [])) none)
   (some ((.bool false), []))) none
noncomputable def wrap_Is_B (t : GType) : Option Bool :=
  bnd (wrap_Right t) fun y2 =>
  cnd y2
   (bnd (wrap_bit t 0) fun y4 =>
   some y4)
   (some false)
def wrap_Is_ds : Decs := { decs := [(4, .bool), (7, .bool)], ups := [], loops := [] }
set_option maxRecDepth 100000 in
theorem wrap_Is_t1 (O : Orc) (LP : LBody → LBody) (t : GType) : evalBodyD Try.prog (MT 18) wrap_Is_ds Try.f18.ntmps O LP Try.f18 [(.agg [(.str t.name), (.int .i64 t.lists), (.int .i64 t.musts)])] [] = wrap_Is_T1 O LP t := by kernel_rfl
theorem wrap_Is_imp (t : GType) : Imp (wrap_Is_B t) (wrap_Is_T1 O loopLim t) (fun r v => v = (wrap_IsE r, [])) := by
  simp only [wrap_Is_B, wrap_Is_T1]
  try simp only [evs, tys]
  refine Imp.call (f := wrap_RightE) rfl (fun a h => by first | exact wrap_Right_spec h | simpa only [evs, tys, evl] using wrap_Right_spec h) (fun a => by first | rfl | simp only [wrap_RightE, evk, chks]) fun y2 hy2 => ?_
  try simp only [wrap_RightE, evs, tys]
  refine Imp.cnd ?_ ?_
  · refine Imp.call (f := wrap_bitE) rfl (fun a h => by first | exact wrap_bit_spec h | simpa only [evs, tys, evl] using wrap_bit_spec h) (fun a => by first | rfl | simp only [wrap_bitE, evk, chks]) fun y4 hy4 => ?_
    try simp only [wrap_bitE, evs, tys]
    exact Imp.some (by first | rfl | simp only [wrap_IsE, evs, tys, evl])
  · exact Imp.some (by first | rfl | simp only [wrap_IsE, evs, tys, evl])
theorem wrap_Is_run {t : GType} {r : Bool} (h : wrap_Is_B t = some r) : wrap_Is t = some r := by
  obtain ⟨v, hv, rfl⟩ := wrap_Is_imp t r h
  exact tO_of (pair_inj wrap_IsEj) (OL_runD wrap_Is_ds rfl rfl Try.func18 ((wrap_Is_t1 _ _ t).trans hv))

def literal_Param_1_T1 (O : Orc) (LP : LBody → LBody) (p0 : GParam) (u0_4 : Str) (u0_40 : Str) (u0_400 : Int) (u0_4000 : Int) (u0_40000 : Bool) (u0_400000 : Int) (u0_4000000 : Int) (u0_40000000 : Str) (u0_3 : Str) : Option (PV × UP) :=
  some ((.bool (p0.name == u0_3)), [[(4, [(.str u0_4), (.str u0_40), (.int .i64 u0_400), (.int .i64 u0_4000), (.bool u0_40000), (.int .i64 u0_400000), (.int .i64 u0_4000000), (.str u0_40000000), (.slice [] [] true), (.slice [] [] true)]), (3, [(.str u0_3)])]])
noncomputable def literal_Param_1_B (p0 : GParam) (u0_4 : Str) (u0_40 : Str) (u0_400 : Int) (u0_4000 : Int) (u0_40000 : Bool) (u0_400000 : Int) (u0_4000000 : Int) (u0_40000000 : Str) (u0_3 : Str) : Option Bool :=
  some (p0.name == u0_3)
def literal_Param_1_ds : Decs := { decs := [], ups := [], loops := [] }
set_option maxRecDepth 100000 in
theorem literal_Param_1_t1 (O : Orc) (LP : LBody → LBody) (p0 : GParam) (u0_4 : Str) (u0_40 : Str) (u0_400 : Int) (u0_4000 : Int) (u0_40000 : Bool) (u0_400000 : Int) (u0_4000000 : Int) (u0_40000000 : Str) (u0_3 : Str) : evalBodyD Try.prog (MT 39) literal_Param_1_ds Try.f39.ntmps O LP Try.f39 [(.agg [(.str p0.name), (.str p0.t.name), (.int .i64 p0.t.lists), (.int .i64 p0.t.musts), (.bool p0.has), (.int .i64 p0.default.kind), (.int .i64 p0.default.n), (.str p0.default.s), (.slice (List.map encValue p0.default.l) [] false), (.slice (List.map encMember p0.default.m) [] false)]), (.ptr 1 3 0)] [[(4, [(.str u0_4), (.str u0_40), (.int .i64 u0_400), (.int .i64 u0_4000), (.bool u0_40000), (.int .i64 u0_400000), (.int .i64 u0_4000000), (.str u0_40000000), (.slice [] [] true), (.slice [] [] true)]), (3, [(.str u0_3)])]] = literal_Param_1_T1 O LP p0 u0_4 u0_40 u0_400 u0_4000 u0_40000 u0_400000 u0_4000000 u0_40000000 u0_3 := by kernel_rfl
theorem literal_Param_1_imp (p0 : GParam) (u0_4 : Str) (u0_40 : Str) (u0_400 : Int) (u0_4000 : Int) (u0_40000 : Bool) (u0_400000 : Int) (u0_4000000 : Int) (u0_40000000 : Str) (u0_3 : Str) : Imp (literal_Param_1_B p0 u0_4 u0_40 u0_400 u0_4000 u0_40000 u0_400000 u0_4000000 u0_40000000 u0_3) (literal_Param_1_T1 O loopLim p0 u0_4 u0_40 u0_400 u0_4000 u0_40000 u0_400000 u0_4000000 u0_40000000 u0_3) (fun r v => v = (literal_Param_1E r, (literal_Param_1U p0 u0_4 u0_40 u0_400 u0_4000 u0_40000 u0_400000 u0_4000000 u0_40000000 u0_3 r))) := by
  simp only [literal_Param_1_B, literal_Param_1_T1]
  try simp only [evs, tys]
  exact Imp.some (by first | rfl | simp only [literal_Param_1E, literal_Param_1U, evs, tys, evl])
theorem literal_Param_1_run {p0 : GParam} {u0_4 : Str} {u0_40 : Str} {u0_400 : Int} {u0_4000 : Int} {u0_40000 : Bool} {u0_400000 : Int} {u0_4000000 : Int} {u0_40000000 : Str} {u0_3 : Str} {r : Bool} (h : literal_Param_1_B p0 u0_4 u0_40 u0_400 u0_4000 u0_40000 u0_400000 u0_4000000 u0_40000000 u0_3 = some r) : literal_Param_1 p0 u0_4 u0_40 u0_400 u0_4000 u0_40000 u0_400000 u0_4000000 u0_40000000 u0_3 = some r := by
  obtain ⟨v, hv, rfl⟩ := literal_Param_1_imp p0 u0_4 u0_40 u0_400 u0_4000 u0_40000 u0_400000 u0_4000000 u0_40000000 u0_3 r h
  exact tO_of (fun a b h => literal_Param_1Ej a b (Prod.mk.inj h).1) (OL_runD literal_Param_1_ds rfl rfl Try.func39 ((literal_Param_1_t1 _ _ p0 u0_4 u0_40 u0_400 u0_4000 u0_40000 u0_400000 u0_4000000 u0_40000000 u0_3).trans hv))
end Go.Proofs.Yteiccdhdfcbokaa

/- Printed by symgen.py: typed functions of this seat, and why they tell what the program does. -/
set_option linter.unusedVariables false
set_option linter.unusedSimpArgs false
open Go Go.Ev Go.Ev.PV
namespace Go.Proofs.Yteiccdhdfcbokaa
def slices_IndexFunc_Param_l1 (O : Orc) (LP : LBody → LBody) : LBody := fun s1 s1u => cnd (chkL [(.sl false), (.func 39 [] [(.ptr 1 3 0)]), (.int .i64), (.int .i64), (.int .i64)] s1) (cnd (chkU [[(4, [.str, .str, (.int .i64), (.int .i64), .bool, (.int .i64), (.int .i64), .str, (.sl true), (.sl true)]), (3, [.str])]] s1u)
  (cnd (decide ((intV (gt s1 4)) < (intV (gt s1 3))))
   (bnd (ix 10 (.slice (esV (gt s1 0)) [] false) (.int .i64 (intV (gt s1 4)))) fun x7 => cnd (chk (.ref shParam) x7)
   (bnd (O 39 [(.agg [(.str (strV (gt (aggV (refV x7)) 0))), (.str (strV (gt (aggV (refV x7)) 1))), (.int .i64 (intV (gt (aggV (refV x7)) 2))), (.int .i64 (intV (gt (aggV (refV x7)) 3))), (.bool (boolV (gt (aggV (refV x7)) 4))), (.int .i64 (intV (gt (aggV (refV x7)) 5))), (.int .i64 (intV (gt (aggV (refV x7)) 6))), (.str (strV (gt (aggV (refV x7)) 7))), (.slice (esV (gt (aggV (refV x7)) 8)) [] false), (.slice (esV (gt (aggV (refV x7)) 9)) [] false)]), (.ptr 2 3 0)] [[], [(4, [(.str (strV (gt (boxI (frI s1u 0) 0) 0))), (.str (strV (gt (boxI (frI s1u 0) 0) 1))), (.int .i64 (intV (gt (boxI (frI s1u 0) 0) 2))), (.int .i64 (intV (gt (boxI (frI s1u 0) 0) 3))), (.bool (boolV (gt (boxI (frI s1u 0) 0) 4))), (.int .i64 (intV (gt (boxI (frI s1u 0) 0) 5))), (.int .i64 (intV (gt (boxI (frI s1u 0) 0) 6))), (.str (strV (gt (boxI (frI s1u 0) 0) 7))), (.slice (esV (gt (boxI (frI s1u 0) 0) 8)) [] true), (.slice (esV (gt (boxI (frI s1u 0) 0) 9)) [] true)]), (3, [(.str (strV (gt (boxI (frI s1u 0) 1) 0)))])]]) fun x9 => cnd (chkU [[], [(4, [.str, .str, (.int .i64), (.int .i64), .bool, (.int .i64), (.int .i64), .str, (.sl true), (.sl true)]), (3, [.str])]] x9.2) (cnd (chk .bool x9.1)
   (cnd (boolV x9.1)
    (some (.ret, [(.slice (esV (gt s1 0)) [] false), (.func (.func 39) [] [(.ptr 1 3 0)]), (.int .i64 (intV (gt s1 4))), (.int .i64 (intV (gt s1 3))), (.int .i64 (intV (gt s1 4)))], [[(4, [(.str (strV (gt (boxI (frI x9.2 1) 0) 0))), (.str (strV (gt (boxI (frI x9.2 1) 0) 1))), (.int .i64 (intV (gt (boxI (frI x9.2 1) 0) 2))), (.int .i64 (intV (gt (boxI (frI x9.2 1) 0) 3))), (.bool (boolV (gt (boxI (frI x9.2 1) 0) 4))), (.int .i64 (intV (gt (boxI (frI x9.2 1) 0) 5))), (.int .i64 (intV (gt (boxI (frI x9.2 1) 0) 6))), (.str (strV (gt (boxI (frI x9.2 1) 0) 7))), (.slice (esV (gt (boxI (frI x9.2 1) 0) 8)) [] true), (.slice (esV (gt (boxI (frI x9.2 1) 0) 9)) [] true)]), (3, [(.str (strV (gt (boxI (frI x9.2 1) 1) 0)))])]]))
    (some (.nrm, [(.slice (esV (gt s1 0)) [] false), (.func (.func 39) [] [(.ptr 1 3 0)]), (.int .i64 (intV (gt s1 2))), (.int .i64 (intV (gt s1 3))), (.int .i64 (IntKind.wrap .i64 ((intV (gt s1 4)) + 1)))], [[(4, [(.str (strV (gt (boxI (frI x9.2 1) 0) 0))), (.str (strV (gt (boxI (frI x9.2 1) 0) 1))), (.int .i64 (intV (gt (boxI (frI x9.2 1) 0) 2))), (.int .i64 (intV (gt (boxI (frI x9.2 1) 0) 3))), (.bool (boolV (gt (boxI (frI x9.2 1) 0) 4))), (.int .i64 (intV (gt (boxI (frI x9.2 1) 0) 5))), (.int .i64 (intV (gt (boxI (frI x9.2 1) 0) 6))), (.str (strV (gt (boxI (frI x9.2 1) 0) 7))), (.slice (esV (gt (boxI (frI x9.2 1) 0) 8)) [] true), (.slice (esV (gt (boxI (frI x9.2 1) 0) 9)) [] true)]), (3, [(.str (strV (gt (boxI (frI x9.2 1) 1) 0)))])]]))) none) none) none)
   (some (.brk 0, [(.slice (esV (gt s1 0)) [] false), (.func (.func 39) [] [(.ptr 1 3 0)]), (.int .i64 (intV (gt s1 2))), (.int .i64 (intV (gt s1 3))), (.int .i64 (intV (gt s1 4)))], [[(4, [(.str (strV (gt (boxI (frI s1u 0) 0) 0))), (.str (strV (gt (boxI (frI s1u 0) 0) 1))), (.int .i64 (intV (gt (boxI (frI s1u 0) 0) 2))), (.int .i64 (intV (gt (boxI (frI s1u 0) 0) 3))), (.bool (boolV (gt (boxI (frI s1u 0) 0) 4))), (.int .i64 (intV (gt (boxI (frI s1u 0) 0) 5))), (.int .i64 (intV (gt (boxI (frI s1u 0) 0) 6))), (.str (strV (gt (boxI (frI s1u 0) 0) 7))), (.slice (esV (gt (boxI (frI s1u 0) 0) 8)) [] true), (.slice (esV (gt (boxI (frI s1u 0) 0) 9)) [] true)]), (3, [(.str (strV (gt (boxI (frI s1u 0) 1) 0)))])]]))) none) none
def slices_IndexFunc_Param_T1 (O : Orc) (LP : LBody → LBody) (s : List GParam) (u0_4 : Str) (u0_40 : Str) (u0_400 : Int) (u0_4000 : Int) (u0_40000 : Bool) (u0_400000 : Int) (u0_4000000 : Int) (u0_40000000 : Str) (u0_3 : Str) : Option (PV × UP) :=
  bnd (LP (slices_IndexFunc_Param_l1 O LP) [(.slice (List.map encParam s) [] false), (.func (.func 39) [] [(.ptr 1 3 0)]), (.int .i64 0), (.int .i64 (List.length (List.map encParam s) : Int)), (.int .i64 0)] [[(4, [(.str u0_4), (.str u0_40), (.int .i64 u0_400), (.int .i64 u0_4000), (.bool u0_40000), (.int .i64 u0_400000), (.int .i64 u0_4000000), (.str u0_40000000), (.slice [] [] true), (.slice [] [] true)]), (3, [(.str u0_3)])]]) fun y14 =>
  exIs y14.1 (some 0) (cnd (chkL [(.sl false), (.func 39 [] [(.ptr 1 3 0)]), (.int .i64), (.int .i64), (.int .i64)] y14.2.1) (cnd (chkU [[(4, [.str, .str, (.int .i64), (.int .i64), .bool, (.int .i64), (.int .i64), .str, (.sl true), (.sl true)]), (3, [.str])]] y14.2.2)
   (some ((.int .i64 (-1)), [[(4, [(.str (strV (gt (boxI (frI y14.2.2 0) 0) 0))), (.str (strV (gt (boxI (frI y14.2.2 0) 0) 1))), (.int .i64 (intV (gt (boxI (frI y14.2.2 0) 0) 2))), (.int .i64 (intV (gt (boxI (frI y14.2.2 0) 0) 3))), (.bool (boolV (gt (boxI (frI y14.2.2 0) 0) 4))), (.int .i64 (intV (gt (boxI (frI y14.2.2 0) 0) 5))), (.int .i64 (intV (gt (boxI (frI y14.2.2 0) 0) 6))), (.str (strV (gt (boxI (frI y14.2.2 0) 0) 7))), (.slice (esV (gt (boxI (frI y14.2.2 0) 0) 8)) [] true), (.slice (esV (gt (boxI (frI y14.2.2 0) 0) 9)) [] true)]), (3, [(.str (strV (gt (boxI (frI y14.2.2 0) 1) 0)))])]])) none) none)
  (exIs y14.1 none (cnd (chkL [(.sl false), (.func 39 [] [(.ptr 1 3 0)]), (.int .i64), (.int .i64), (.int .i64)] y14.2.1) (cnd (chkU [[(4, [.str, .str, (.int .i64), (.int .i64), .bool, (.int .i64), (.int .i64), .str, (.sl true), (.sl true)]), (3, [.str])]] y14.2.2)
   (some ((.int .i64 (intV (gt y14.2.1 2))), [[(4, [(.str (strV (gt (boxI (frI y14.2.2 0) 0) 0))), (.str (strV (gt (boxI (frI y14.2.2 0) 0) 1))), (.int .i64 (intV (gt (boxI (frI y14.2.2 0) 0) 2))), (.int .i64 (intV (gt (boxI (frI y14.2.2 0) 0) 3))), (.bool (boolV (gt (boxI (frI y14.2.2 0) 0) 4))), (.int .i64 (intV (gt (boxI (frI y14.2.2 0) 0) 5))), (.int .i64 (intV (gt (boxI (frI y14.2.2 0) 0) 6))), (.str (strV (gt (boxI (frI y14.2.2 0) 0) 7))), (.slice (esV (gt (boxI (frI y14.2.2 0) 0) 8)) [] true), (.slice (esV (gt (boxI (frI y14.2.2 0) 0) 9)) [] true)]), (3, [(.str (strV (gt (boxI (frI y14.2.2 0) 1) 0)))])]])) none) none)
  (none))
noncomputable def slices_IndexFunc_Param_l1T (s : List GParam) (u0_4 : Str) (u0_40 : Str) (u0_400 : Int) (u0_4000 : Int) (u0_40000 : Bool) (u0_400000 : Int) (u0_4000000 : Int) (u0_40000000 : Str) (u0_3 : Str) : Int → Option (Int ⊕ (Unit ⊕ Int))
  | t_6 =>
  cnd (decide (t_6 < (List.length s : Int)))
   (bnd (nthI s t_6) fun y8 =>
   bnd (literal_Param_1 y8 u0_4 u0_40 u0_400 u0_4000 u0_40000 u0_400000 u0_4000000 u0_40000000 u0_3) fun y10 =>
   cnd y10
    (some (.inr (.inr t_6)))
    (some (.inl (IntKind.wrap .i64 (t_6 + 1)))))
   (some (.inr (.inl ())))
abbrev slices_IndexFunc_Param_l1R (s : List GParam) (u0_4 : Str) (u0_40 : Str) (u0_400 : Int) (u0_4000 : Int) (u0_40000 : Bool) (u0_400000 : Int) (u0_4000000 : Int) (u0_40000000 : Str) (u0_3 : Str) (st : Int) (l : List PV) (u : UP) : Prop := l = [(.slice (List.map encParam s) [] false), (.func (.func 39) [] [(.ptr 1 3 0)]), (.int .i64 0), (.int .i64 (List.length s : Int)), (.int .i64 st)] ∧ u = [[(4, [(.str u0_4), (.str u0_40), (.int .i64 u0_400), (.int .i64 u0_4000), (.bool u0_40000), (.int .i64 u0_400000), (.int .i64 u0_4000000), (.str u0_40000000), (.slice [] [] true), (.slice [] [] true)]), (3, [(.str u0_3)])]]
abbrev slices_IndexFunc_Param_l1X (s : List GParam) (u0_4 : Str) (u0_40 : Str) (u0_400 : Int) (u0_4000 : Int) (u0_40000 : Bool) (u0_400000 : Int) (u0_4000000 : Int) (u0_40000000 : Str) (u0_3 : Str) (p : Unit ⊕ Int) (r : Ex × List PV × UP) : Prop := elim p (fun (p : Unit) => ∃ (t_11 : Int), r = (Ex.brk 0, [(.slice (List.map encParam s) [] false), (.func (.func 39) [] [(.ptr 1 3 0)]), (.int .i64 0), (.int .i64 (List.length s : Int)), (.int .i64 t_11)], [[(4, [(.str u0_4), (.str u0_40), (.int .i64 u0_400), (.int .i64 u0_4000), (.bool u0_40000), (.int .i64 u0_400000), (.int .i64 u0_4000000), (.str u0_40000000), (.slice [] [] true), (.slice [] [] true)]), (3, [(.str u0_3)])]])) (fun q2 => (fun (p : Int) => ∃ (t_13 : Int), r = (Ex.ret, [(.slice (List.map encParam s) [] false), (.func (.func 39) [] [(.ptr 1 3 0)]), (.int .i64 p), (.int .i64 (List.length s : Int)), (.int .i64 t_13)], [[(4, [(.str u0_4), (.str u0_40), (.int .i64 u0_400), (.int .i64 u0_4000), (.bool u0_40000), (.int .i64 u0_400000), (.int .i64 u0_4000000), (.str u0_40000000), (.slice [] [] true), (.slice [] [] true)]), (3, [(.str u0_3)])]])) q2)
noncomputable def slices_IndexFunc_Param_B (s : List GParam) (u0_4 : Str) (u0_40 : Str) (u0_400 : Int) (u0_4000 : Int) (u0_40000 : Bool) (u0_400000 : Int) (u0_4000000 : Int) (u0_40000000 : Str) (u0_3 : Str) : Option Int :=
  bnd (tloop (slices_IndexFunc_Param_l1T s u0_4 u0_40 u0_400 u0_4000 u0_40000 u0_400000 u0_4000000 u0_40000000 u0_3) 0) fun e14_2 => elim e14_2
  (fun p14 =>
   some (-1))
  (fun t_12 =>
  some t_12)
def slices_IndexFunc_Param_ds : Decs := { decs := [(14, (.ref shParam)), (16, .bool)], ups := [(16, [[], [(4, [.str, .str, (.int .i64), (.int .i64), .bool, (.int .i64), (.int .i64), .str, (.sl true), (.sl true)]), (3, [.str])]])], loops := [(2, [], ⟨[(.sl false), (.func 39 [] [(.ptr 1 3 0)]), (.int .i64), (.int .i64), (.int .i64)], [[(4, [.str, .str, (.int .i64), (.int .i64), .bool, (.int .i64), (.int .i64), .str, (.sl true), (.sl true)]), (3, [.str])]], [(some 0, [(.sl false), (.func 39 [] [(.ptr 1 3 0)]), (.int .i64), (.int .i64), (.int .i64)], [[(4, [.str, .str, (.int .i64), (.int .i64), .bool, (.int .i64), (.int .i64), .str, (.sl true), (.sl true)]), (3, [.str])]]), (none, [(.sl false), (.func 39 [] [(.ptr 1 3 0)]), (.int .i64), (.int .i64), (.int .i64)], [[(4, [.str, .str, (.int .i64), (.int .i64), .bool, (.int .i64), (.int .i64), .str, (.sl true), (.sl true)]), (3, [.str])]])]⟩)] }
set_option maxRecDepth 100000 in
theorem slices_IndexFunc_Param_t1 (O : Orc) (LP : LBody → LBody) (s : List GParam) (u0_4 : Str) (u0_40 : Str) (u0_400 : Int) (u0_4000 : Int) (u0_40000 : Bool) (u0_400000 : Int) (u0_4000000 : Int) (u0_40000000 : Str) (u0_3 : Str) : evalBodyD Try.prog (MT 38) slices_IndexFunc_Param_ds Try.f38.ntmps O LP Try.f38 [(.slice (List.map encParam s) [] false), (.func (.func 39) [] [(.ptr 1 3 0)])] [[(4, [(.str u0_4), (.str u0_40), (.int .i64 u0_400), (.int .i64 u0_4000), (.bool u0_40000), (.int .i64 u0_400000), (.int .i64 u0_4000000), (.str u0_40000000), (.slice [] [] true), (.slice [] [] true)]), (3, [(.str u0_3)])]] = slices_IndexFunc_Param_T1 O LP s u0_4 u0_40 u0_400 u0_4000 u0_40000 u0_400000 u0_4000000 u0_40000000 u0_3 := by kernel_rfl
theorem slices_IndexFunc_Param_l1_ok (s : List GParam) (u0_4 : Str) (u0_40 : Str) (u0_400 : Int) (u0_4000 : Int) (u0_40000 : Bool) (u0_400000 : Int) (u0_4000000 : Int) (u0_40000000 : Str) (u0_3 : Str) : ∀ st l u, slices_IndexFunc_Param_l1R s u0_4 u0_40 u0_400 u0_4000 u0_40000 u0_400000 u0_4000000 u0_40000000 u0_3 st l u → Imp (slices_IndexFunc_Param_l1T s u0_4 u0_40 u0_400 u0_4000 u0_40000 u0_400000 u0_4000000 u0_40000000 u0_3 st) (slices_IndexFunc_Param_l1 O loopLim l u) (StepR (slices_IndexFunc_Param_l1R s u0_4 u0_40 u0_400 u0_4000 u0_40000 u0_400000 u0_4000000 u0_40000000 u0_3) (slices_IndexFunc_Param_l1X s u0_4 u0_40 u0_400 u0_4000 u0_40000 u0_400000 u0_4000000 u0_40000000 u0_3)) := by
  rintro t_6 l u ⟨rfl, rfl⟩
  simp only [slices_IndexFunc_Param_l1T, slices_IndexFunc_Param_l1]
  refine Imp.chk rfl (Imp.chk rfl ?_)
  try simp only [evs, tys]
  refine Imp.cnd ?_ ?_
  · refine Imp.op (f := fun a => .ref (encParam a)) (fun a h => op_ix (enc := encParam) (by first | rfl | simp only [evs, tys, evl]) ⟨by first | rfl | simp only [evs, tys, evc], by decide⟩ h) (fun a => chk_GParam a) fun y8 hy8 => ?_
    try simp only [evs, tys]
    refine Imp.gcall (f := literal_Param_1E) (fu := fun a => [] :: literal_Param_1U y8 u0_4 u0_40 u0_400 u0_4000 u0_40000 u0_400000 u0_4000000 u0_40000000 u0_3 a) (fun a h => by first | exact OL_drop rfl rfl (by first | rfl | (simp only [literal_Param_1E, tys]; rfl)) (literal_Param_1_spec h) | (have h' := literal_Param_1_spec h; simp only [evs, tys, evl, literal_Param_1U] at h'; exact OL_drop rfl rfl (by first | rfl | (simp only [literal_Param_1E, tys]; rfl)) (h'))) (fun a => by first | rfl | simp only [literal_Param_1E, evk, chks]) (fun a => by first | rfl | (simp only [literal_Param_1U, evs, tys]; rfl)) fun y10 hy10 => ?_
    try simp only [literal_Param_1E, literal_Param_1U, evs, tys]
    refine Imp.cnd ?_ ?_
    · exact Imp.some (StepR.ret ⟨t_6, by first | rfl | simp only [evs, tys, evl, elim_inl, elim_inr]⟩)
    · exact Imp.some (StepR.next ⟨by first | rfl | simp only [evs, tys, evl], rfl⟩)
  · exact Imp.some (StepR.brk ⟨t_6, by first | rfl | simp only [evs, tys, evl, elim_inl, elim_inr]⟩)
theorem slices_IndexFunc_Param_imp (s : List GParam) (u0_4 : Str) (u0_40 : Str) (u0_400 : Int) (u0_4000 : Int) (u0_40000 : Bool) (u0_400000 : Int) (u0_4000000 : Int) (u0_40000000 : Str) (u0_3 : Str) : Imp (slices_IndexFunc_Param_B s u0_4 u0_40 u0_400 u0_4000 u0_40000 u0_400000 u0_4000000 u0_40000000 u0_3) (slices_IndexFunc_Param_T1 O loopLim s u0_4 u0_40 u0_400 u0_4000 u0_40000 u0_400000 u0_4000000 u0_40000000 u0_3) (fun r v => v = (slices_IndexFunc_ParamE r, (slices_IndexFunc_ParamU s u0_4 u0_40 u0_400 u0_4000 u0_40000 u0_400000 u0_4000000 u0_40000000 u0_3 r))) := by
  simp only [slices_IndexFunc_Param_B, slices_IndexFunc_Param_T1]
  try simp only [evs, tys]
  refine Imp.bnd (Imp.loop (slices_IndexFunc_Param_l1_ok s u0_4 u0_40 u0_400 u0_4000 u0_40000 u0_400000 u0_4000000 u0_40000000 u0_3) ⟨by first | rfl | simp only [evs, tys, evl], rfl⟩) ?_
  rintro (p | t_12) vy14 hy14
  · try simp only [elim_inl, elim_inr]
    obtain ⟨t_11, rfl⟩ := hy14
    refine Imp.exHit rfl (Imp.chk rfl (Imp.chk rfl ?_))
    try simp only [evs, tys]
    exact Imp.some (by first | rfl | simp only [slices_IndexFunc_ParamE, slices_IndexFunc_ParamU, evs, tys, evl])
  · try simp only [elim_inl, elim_inr]
    obtain ⟨t_13, rfl⟩ := hy14
    refine Imp.exMiss rfl ?_
    refine Imp.exHit rfl (Imp.chk rfl (Imp.chk rfl ?_))
    try simp only [evs, tys]
    exact Imp.some (by first | rfl | simp only [slices_IndexFunc_ParamE, slices_IndexFunc_ParamU, evs, tys, evl])
theorem slices_IndexFunc_Param_run {s : List GParam} {u0_4 : Str} {u0_40 : Str} {u0_400 : Int} {u0_4000 : Int} {u0_40000 : Bool} {u0_400000 : Int} {u0_4000000 : Int} {u0_40000000 : Str} {u0_3 : Str} {r : Int} (h : slices_IndexFunc_Param_B s u0_4 u0_40 u0_400 u0_4000 u0_40000 u0_400000 u0_4000000 u0_40000000 u0_3 = some r) : slices_IndexFunc_Param s u0_4 u0_40 u0_400 u0_4000 u0_40000 u0_400000 u0_4000000 u0_40000000 u0_3 = some r := by
  obtain ⟨v, hv, rfl⟩ := slices_IndexFunc_Param_imp s u0_4 u0_40 u0_400 u0_4000 u0_40000 u0_400000 u0_4000000 u0_40000000 u0_3 r h
  exact tO_of (fun a b h => slices_IndexFunc_ParamEj a b (Prod.mk.inj h).1) (OL_runD slices_IndexFunc_Param_ds rfl rfl Try.func38 ((slices_IndexFunc_Param_t1 _ _ s u0_4 u0_40 u0_400 u0_4000 u0_40000 u0_400000 u0_4000000 u0_40000000 u0_3).trans hv))

def literal_Param_T1 (O : Orc) (LP : LBody → LBody) (l0 : List GParam) (name : Str) : Option (PV × UP) :=
  bnd (O 38 [(.slice (List.map encParam l0) [] false), (.func (.func 39) [] [(.ptr 1 3 0)])] [[(4, [(.str []), (.str []), (.int .i64 0), (.int .i64 0), (.bool false), (.int .i64 0), (.int .i64 0), (.str []), (.slice [] [] true), (.slice [] [] true)]), (3, [(.str name)])]]) fun x1 => cnd (chkU [[(4, [.str, .str, (.int .i64), (.int .i64), .bool, (.int .i64), (.int .i64), .str, (.sl true), (.sl true)]), (3, [.str])]] x1.2) (cnd (chk (.int .i64) x1.1)
  (cnd (decide ((intV x1.1) < 0))
   (some ((.tuple [(.agg [(.str []), (.str []), (.int .i64 0), (.int .i64 0), (.bool false), (.int .i64 0), (.int .i64 0), (.str []), (.slice [] [] false), (.slice [] [] false)]), (.bool false)]), []))
   (bnd (ix 10 (.slice (List.map encParam l0) [] false) (.int .i64 (intV x1.1))) fun x3 => cnd (chk (.ref shParam) x3)
   (some ((.tuple [(.agg [(.str (strV (gt (aggV (refV x3)) 0))), (.str (strV (gt (aggV (refV x3)) 1))), (.int .i64 (intV (gt (aggV (refV x3)) 2))), (.int .i64 (intV (gt (aggV (refV x3)) 3))), (.bool (boolV (gt (aggV (refV x3)) 4))), (.int .i64 (intV (gt (aggV (refV x3)) 5))), (.int .i64 (intV (gt (aggV (refV x3)) 6))), (.str (strV (gt (aggV (refV x3)) 7))), (.slice (esV (gt (aggV (refV x3)) 8)) [] false), (.slice (esV (gt (aggV (refV x3)) 9)) [] false)]), (.bool true)]), [])) none)) none) none
noncomputable def literal_Param_B (l0 : List GParam) (name : Str) : Option (GParam × Bool) :=
  bnd (slices_IndexFunc_Param l0 [] [] 0 0 false 0 0 [] name) fun y2 =>
  cnd (decide (y2 < 0))
   (some ((GParam.mk [] (GType.mk [] 0 0) false (GValue.mk 0 0 [] ([] : List GValue) ([] : List GMember))), false))
   (bnd (nthI l0 y2) fun y4 =>
   some (y4, true))
def literal_Param_ds : Decs := { decs := [(9, (.int .i64)), (15, (.ref shParam))], ups := [(9, [[(4, [.str, .str, (.int .i64), (.int .i64), .bool, (.int .i64), (.int .i64), .str, (.sl true), (.sl true)]), (3, [.str])]])], loops := [] }
set_option maxRecDepth 100000 in
theorem literal_Param_t1 (O : Orc) (LP : LBody → LBody) (l0 : List GParam) (name : Str) : evalBodyD Try.prog (MT 24) literal_Param_ds Try.f24.ntmps O LP Try.f24 [(.slice (List.map encParam l0) [] false), (.str name)] [] = literal_Param_T1 O LP l0 name := by kernel_rfl
theorem literal_Param_imp (l0 : List GParam) (name : Str) : Imp (literal_Param_B l0 name) (literal_Param_T1 O loopLim l0 name) (fun r v => v = (literal_ParamE r, [])) := by
  simp only [literal_Param_B, literal_Param_T1]
  try simp only [evs, tys]
  refine Imp.gcall (f := slices_IndexFunc_ParamE) (fu := fun a => slices_IndexFunc_ParamU l0 [] [] 0 0 false 0 0 [] name a) (fun a h => by first | exact slices_IndexFunc_Param_spec h | (have h' := slices_IndexFunc_Param_spec h; simp only [evs, tys, evl, slices_IndexFunc_ParamU] at h'; exact h')) (fun a => by first | rfl | simp only [slices_IndexFunc_ParamE, evk, chks]) (fun a => by first | rfl | (simp only [slices_IndexFunc_ParamU, evs, tys]; rfl)) fun y2 hy2 => ?_
  try simp only [slices_IndexFunc_ParamE, slices_IndexFunc_ParamU, evs, tys]
  refine Imp.cnd ?_ ?_
  · exact Imp.some (by first | rfl | simp only [literal_ParamE, evs, tys, evl])
  · refine Imp.op (f := fun a => .ref (encParam a)) (fun a h => op_ix (enc := encParam) (by first | rfl | simp only [evs, tys, evl]) ⟨by first | rfl | simp only [evs, tys, evc], by decide⟩ h) (fun a => chk_GParam a) fun y4 hy4 => ?_
    try simp only [evs, tys]
    exact Imp.some (by first | rfl | simp only [literal_ParamE, evs, tys, evl])
theorem literal_Param_run {l0 : List GParam} {name : Str} {r : GParam × Bool} (h : literal_Param_B l0 name = some r) : literal_Param l0 name = some r := by
  obtain ⟨v, hv, rfl⟩ := literal_Param_imp l0 name r h
  exact tO_of (pair_inj literal_ParamEj) (OL_runD literal_Param_ds rfl rfl Try.func24 ((literal_Param_t1 _ _ l0 name).trans hv))

def seinekeep_Value_l1 (O : Orc) (LP : LBody → LBody) : LBody := fun s1 s1u => cnd (chkL [(.ptr 0 1 0), (.ptr 0 2 0), (.sl true), (.int .i64), (.int .i64), (.int .i64), .str, (.sl true), (.sl true), (.int .i64), (.int .i64), .str, (.sl false), (.sl false)] s1) (cnd (chkU [] s1u)
  (cnd (decide ((intV (gt s1 3)) < (List.length (esV (gt s1 12)) : Int)))
   (bnd (ix 5 (.slice (esV (gt s1 12)) [] false) (.int .i64 (intV (gt s1 3)))) fun x10 => cnd (chk (.ref shValue) x10)
   (callp O 23 [(.agg [(.int .i64 (intV (gt (aggV (refV x10)) 0))), (.int .i64 (intV (gt (aggV (refV x10)) 1))), (.str (strV (gt (aggV (refV x10)) 2))), (.slice (esV (gt (aggV (refV x10)) 3)) [] false), (.slice (esV (gt (aggV (refV x10)) 4)) [] false)])] fun x12 => cnd (chk shValue x12)
   (bnd (apd 5 (.slice (esV (gt s1 2)) [] true) (.slice [(.agg [(.int .i64 (intV (gt (aggV x12) 0))), (.int .i64 (intV (gt (aggV x12) 1))), (.str (strV (gt (aggV x12) 2))), (.slice (esV (gt (aggV x12) 3)) [] false), (.slice (esV (gt (aggV x12) 4)) [] false)])] [] true)) fun x14 => cnd (chk (.sl true) x14)
   (some (.nrm, [(.ptr 0 1 0), (.ptr 0 2 0), (.slice (esV x14) [] true), (.int .i64 (IntKind.wrap .i64 ((intV (gt s1 3)) + 1))), (.int .i64 (intV (gt s1 4))), (.int .i64 (intV (gt s1 5))), (.str (strV (gt s1 6))), (.slice (esV (gt s1 7)) [] true), (.slice (esV (gt s1 8)) [] true), (.int .i64 (intV (gt s1 9))), (.int .i64 (intV (gt s1 10))), (.str (strV (gt s1 11))), (.slice (esV (gt s1 12)) [] false), (.slice (esV (gt s1 13)) [] false)], [])) none) none) none)
   (some (.brk 0, [(.ptr 0 1 0), (.ptr 0 2 0), (.slice (esV (gt s1 2)) [] true), (.int .i64 (intV (gt s1 3))), (.int .i64 (intV (gt s1 4))), (.int .i64 (intV (gt s1 5))), (.str (strV (gt s1 6))), (.slice (esV (gt s1 7)) [] true), (.slice (esV (gt s1 8)) [] true), (.int .i64 (intV (gt s1 9))), (.int .i64 (intV (gt s1 10))), (.str (strV (gt s1 11))), (.slice (esV (gt s1 12)) [] false), (.slice (esV (gt s1 13)) [] false)], []))) none) none
def seinekeep_Value_T1 (O : Orc) (LP : LBody → LBody) (v0 : GValue) : Option (PV × UP) :=
  bnd (LP (seinekeep_Value_l1 O LP) [(.ptr 0 1 0), (.ptr 0 2 0), (.slice [] [] true), (.int .i64 0), (.int .i64 0), (.int .i64 0), (.str []), (.slice [] [] true), (.slice [] [] true), (.int .i64 v0.kind), (.int .i64 v0.n), (.str v0.s), (.slice (List.map encValue v0.l) [] false), (.slice (List.map encMember v0.m) [] false)] []) fun y18 =>
  exIs y18.1 (some 0) (cnd (chkL [(.ptr 0 1 0), (.ptr 0 2 0), (.sl true), (.int .i64), (.int .i64), (.int .i64), .str, (.sl true), (.sl true), (.int .i64), (.int .i64), .str, (.sl false), (.sl false)] y18.2.1) (cnd (chkU [] y18.2.2)
   (callp O 9 [(.slice (esV (gt y18.2.1 13)) [] false)] fun x19 => cnd (chk (.sl false) x19)
   (some ((.agg [(.int .i64 (intV (gt y18.2.1 9))), (.int .i64 (intV (gt y18.2.1 10))), (.str (strV (gt y18.2.1 11))), (.slice (esV (gt y18.2.1 2)) [] false), (.slice (esV x19) [] false)]), [])) none) none) none)
  (none)
noncomputable def seinekeep_Value_l1T (v0 : GValue) : ((List GValue) × Int) → Option (((List GValue) × Int) ⊕ ((List GValue)))
  | (l_8, i_9) =>
  cnd (decide (i_9 < (List.length v0.l : Int)))
   (bnd (nthI v0.l i_9) fun y11 =>
   bnd (seinekeep_Value y11) fun y13 =>
   bnd (tapp l_8 [y13]) fun y15 =>
   some (.inl (y15, (IntKind.wrap .i64 (i_9 + 1)))))
   (some (.inr l_8))
abbrev seinekeep_Value_l1R (v0 : GValue) (st : (List GValue) × Int) (l : List PV) (u : UP) : Prop := l = [(.ptr 0 1 0), (.ptr 0 2 0), (.slice (List.map encValue st.1) [] true), (.int .i64 st.2), (.int .i64 0), (.int .i64 0), (.str []), (.slice [] [] true), (.slice [] [] true), (.int .i64 v0.kind), (.int .i64 v0.n), (.str v0.s), (.slice (List.map encValue v0.l) [] false), (.slice (List.map encMember v0.m) [] false)] ∧ u = []
abbrev seinekeep_Value_l1X (v0 : GValue) (p : (List GValue)) (r : Ex × List PV × UP) : Prop := (fun (p : (List GValue)) => ∃ (i_17 : Int), r = (Ex.brk 0, [(.ptr 0 1 0), (.ptr 0 2 0), (.slice (List.map encValue p) [] true), (.int .i64 i_17), (.int .i64 0), (.int .i64 0), (.str []), (.slice [] [] true), (.slice [] [] true), (.int .i64 v0.kind), (.int .i64 v0.n), (.str v0.s), (.slice (List.map encValue v0.l) [] false), (.slice (List.map encMember v0.m) [] false)], [])) p
noncomputable def seinekeep_Value_B (v0 : GValue) : Option GValue :=
  bnd (tloop (seinekeep_Value_l1T v0) ([], 0)) fun l_16 =>
  bnd (seinekeep_Members v0.m) fun y20 =>
  some (GValue.mk v0.kind v0.n v0.s l_16 y20)
def seinekeep_Value_ds : Decs := { decs := [(16, (.ref shValue)), (18, shValue), (20, (.sl true)), (24, (.sl false))], ups := [], loops := [(3, [(2, 5), (1, 5)], ⟨[(.ptr 0 1 0), (.ptr 0 2 0), (.sl true), (.int .i64), (.int .i64), (.int .i64), .str, (.sl true), (.sl true), (.int .i64), (.int .i64), .str, (.sl false), (.sl false)], [], [(some 0, [(.ptr 0 1 0), (.ptr 0 2 0), (.sl true), (.int .i64), (.int .i64), (.int .i64), .str, (.sl true), (.sl true), (.int .i64), (.int .i64), .str, (.sl false), (.sl false)], [])]⟩)] }
set_option maxRecDepth 100000 in
theorem seinekeep_Value_t1 (O : Orc) (LP : LBody → LBody) (v0 : GValue) : evalBodyD Try.prog (MT 23) seinekeep_Value_ds Try.f23.ntmps O LP Try.f23 [(.agg [(.int .i64 v0.kind), (.int .i64 v0.n), (.str v0.s), (.slice (List.map encValue v0.l) [] false), (.slice (List.map encMember v0.m) [] false)])] [] = seinekeep_Value_T1 O LP v0 := by kernel_rfl
theorem seinekeep_Value_l1_ok (v0 : GValue) : ∀ st l u, seinekeep_Value_l1R v0 st l u → Imp (seinekeep_Value_l1T v0 st) (seinekeep_Value_l1 O loopLim l u) (StepR (seinekeep_Value_l1R v0) (seinekeep_Value_l1X v0)) := by
  rintro ⟨l_8, i_9⟩ l u ⟨rfl, rfl⟩
  simp only [seinekeep_Value_l1T, seinekeep_Value_l1]
  refine Imp.chk rfl (Imp.chk rfl ?_)
  try simp only [evs, tys]
  refine Imp.cnd ?_ ?_
  · refine Imp.op (f := fun a => .ref (encValue a)) (fun a h => op_ix (enc := encValue) (by first | rfl | simp only [evs, tys, evl]) ⟨by first | rfl | simp only [evs, tys, evc], by decide⟩ h) (fun a => chk_GValue a) fun y11 hy11 => ?_
    try simp only [evs, tys]
    refine Imp.call (f := seinekeep_ValueE) rfl (fun a h => by first | exact seinekeep_Value_spec h | simpa only [evs, tys, evl] using seinekeep_Value_spec h) (fun a => by first | rfl | simp only [seinekeep_ValueE, evk, chks]) fun y13 hy13 => ?_
    try simp only [seinekeep_ValueE, evs, tys]
    refine Imp.op (f := fun a => .slice (List.map encValue a) [] true) (fun a h => op_apd (enc := encValue) (by first | rfl | simp only [evs, tys, evl]) (by first | rfl | simp only [evs, tys, evl]) (fun a => by first | rfl | simp only [evs, tys, evc]) h) (fun a => rfl) fun y15 hy15 => ?_
    try simp only [evs, tys]
    exact Imp.some (StepR.next ⟨by first | rfl | simp only [evs, tys, evl], rfl⟩)
  · exact Imp.some (StepR.brk ⟨i_9, by first | rfl | simp only [evs, tys, evl, elim_inl, elim_inr]⟩)
theorem seinekeep_Value_imp (v0 : GValue) : Imp (seinekeep_Value_B v0) (seinekeep_Value_T1 O loopLim v0) (fun r v => v = (seinekeep_ValueE r, [])) := by
  simp only [seinekeep_Value_B, seinekeep_Value_T1]
  try simp only [evs, tys]
  refine Imp.bnd (Imp.loop (seinekeep_Value_l1_ok v0) ⟨by first | rfl | simp only [evs, tys, evl], rfl⟩) ?_
  rintro l_16 vy18 hy18
  obtain ⟨i_17, rfl⟩ := hy18
  refine Imp.exHit rfl (Imp.chk rfl (Imp.chk rfl ?_))
  try simp only [evs, tys]
  refine Imp.call (f := seinekeep_MembersE) rfl (fun a h => by first | exact seinekeep_Members_spec h | simpa only [evs, tys, evl] using seinekeep_Members_spec h) (fun a => by first | rfl | simp only [seinekeep_MembersE, evk, chks]) fun y20 hy20 => ?_
  try simp only [seinekeep_MembersE, evs, tys]
  exact Imp.some (by first | rfl | simp only [seinekeep_ValueE, evs, tys, evl])
theorem seinekeep_Value_run {v0 : GValue} {r : GValue} (h : seinekeep_Value_B v0 = some r) : seinekeep_Value v0 = some r := by
  obtain ⟨v, hv, rfl⟩ := seinekeep_Value_imp v0 r h
  exact tO_of (pair_inj seinekeep_ValueEj) (OL_runD seinekeep_Value_ds rfl rfl Try.func23 ((seinekeep_Value_t1 _ _ v0).trans hv))

def seineref9_Param_l1 (O : Orc) (LP : LBody → LBody) : LBody := fun s1 s1u => cnd (chkL [(.sl false), .str, (.ptr 0 4 0), .bool, (.int .i64), .str, .str, (.int .i64), (.int .i64), .bool, (.int .i64), (.int .i64), .str, (.sl true), (.sl true)] s1) (cnd (chkU [] s1u)
  (cnd (decide ((intV (gt s1 4)) < (List.length (esV (gt s1 0)) : Int)))
   (bnd (ix 10 (.slice (esV (gt s1 0)) [] false) (.int .i64 (intV (gt s1 4)))) fun x7 => cnd (chk (.ref shParam) x7)
   (cnd ((strV (gt (aggV (refV x7)) 0)) == (strV (gt s1 1)))
    (bnd (ix 10 (.slice (esV (gt s1 0)) [] false) (.int .i64 (intV (gt s1 4)))) fun x9 => cnd (chk (.ref shParam) x9)
    (some (.ret, [(.slice (esV (gt s1 0)) [] false), (.str (strV (gt s1 1))), (.ptr 0 4 0), (.bool true), (.int .i64 (intV (gt s1 4))), (.str (strV (gt (aggV (refV x9)) 0))), (.str (strV (gt (aggV (refV x9)) 1))), (.int .i64 (intV (gt (aggV (refV x9)) 2))), (.int .i64 (intV (gt (aggV (refV x9)) 3))), (.bool (boolV (gt (aggV (refV x9)) 4))), (.int .i64 (intV (gt (aggV (refV x9)) 5))), (.int .i64 (intV (gt (aggV (refV x9)) 6))), (.str (strV (gt (aggV (refV x9)) 7))), (.slice (esV (gt (aggV (refV x9)) 8)) [] false), (.slice (esV (gt (aggV (refV x9)) 9)) [] false)], [])) none)
    (some (.nrm, [(.slice (esV (gt s1 0)) [] false), (.str (strV (gt s1 1))), (.ptr 0 4 0), (.bool (boolV (gt s1 3))), (.int .i64 (IntKind.wrap .i64 ((intV (gt s1 4)) + 1))), (.str (strV (gt s1 5))), (.str (strV (gt s1 6))), (.int .i64 (intV (gt s1 7))), (.int .i64 (intV (gt s1 8))), (.bool (boolV (gt s1 9))), (.int .i64 (intV (gt s1 10))), (.int .i64 (intV (gt s1 11))), (.str (strV (gt s1 12))), (.slice (esV (gt s1 13)) [] true), (.slice (esV (gt s1 14)) [] true)], []))) none)
   (some (.brk 0, [(.slice (esV (gt s1 0)) [] false), (.str (strV (gt s1 1))), (.ptr 0 4 0), (.bool (boolV (gt s1 3))), (.int .i64 (intV (gt s1 4))), (.str (strV (gt s1 5))), (.str (strV (gt s1 6))), (.int .i64 (intV (gt s1 7))), (.int .i64 (intV (gt s1 8))), (.bool (boolV (gt s1 9))), (.int .i64 (intV (gt s1 10))), (.int .i64 (intV (gt s1 11))), (.str (strV (gt s1 12))), (.slice (esV (gt s1 13)) [] true), (.slice (esV (gt s1 14)) [] true)], []))) none) none
def seineref9_Param_T1 (O : Orc) (LP : LBody → LBody) (l0 : List GParam) (name : Str) : Option (PV × UP) :=
  bnd (LP (seineref9_Param_l1 O LP) [(.slice (List.map encParam l0) [] false), (.str name), (.ptr 0 4 0), (.bool false), (.int .i64 0), (.str []), (.str []), (.int .i64 0), (.int .i64 0), (.bool false), (.int .i64 0), (.int .i64 0), (.str []), (.slice [] [] true), (.slice [] [] true)] []) fun y23 =>
  exIs y23.1 (some 0) (cnd (chkL [(.sl false), .str, (.ptr 0 4 0), .bool, (.int .i64), .str, .str, (.int .i64), (.int .i64), .bool, (.int .i64), (.int .i64), .str, (.sl true), (.sl true)] y23.2.1) (cnd (chkU [] y23.2.2)
   (some ((.tuple [(.agg [(.str []), (.str []), (.int .i64 0), (.int .i64 0), (.bool false), (.int .i64 0), (.int .i64 0), (.str []), (.slice [] [] false), (.slice [] [] false)]), (.bool false)]), [])) none) none)
  (exIs y23.1 none (cnd (chkL [(.sl false), .str, (.ptr 0 4 0), .bool, (.int .i64), .str, .str, (.int .i64), (.int .i64), .bool, (.int .i64), (.int .i64), .str, (.sl false), (.sl false)] y23.2.1) (cnd (chkU [] y23.2.2)
   (some ((.tuple [(.agg [(.str (strV (gt y23.2.1 5))), (.str (strV (gt y23.2.1 6))), (.int .i64 (intV (gt y23.2.1 7))), (.int .i64 (intV (gt y23.2.1 8))), (.bool (boolV (gt y23.2.1 9))), (.int .i64 (intV (gt y23.2.1 10))), (.int .i64 (intV (gt y23.2.1 11))), (.str (strV (gt y23.2.1 12))), (.slice (esV (gt y23.2.1 13)) [] false), (.slice (esV (gt y23.2.1 14)) [] false)]), (.bool (boolV (gt y23.2.1 3)))]), [])) none) none)
  (none))
noncomputable def seineref9_Param_l1T (l0 : List GParam) (name : Str) : Int → Option (Int ⊕ (Unit ⊕ (Str × Str × Int × Int × Bool × Int × Int × Str × (List GValue) × (List GMember))))
  | i_6 =>
  cnd (decide (i_6 < (List.length l0 : Int)))
   (bnd (nthI l0 i_6) fun y8 =>
   cnd (y8.name == name)
    (bnd (nthI l0 i_6) fun y10 =>
    some (.inr (.inr (y10.name, y10.t.name, y10.t.lists, y10.t.musts, y10.has, y10.default.kind, y10.default.n, y10.default.s, y10.default.l, y10.default.m))))
    (some (.inl (IntKind.wrap .i64 (i_6 + 1)))))
   (some (.inr (.inl ())))
abbrev seineref9_Param_l1R (l0 : List GParam) (name : Str) (st : Int) (l : List PV) (u : UP) : Prop := l = [(.slice (List.map encParam l0) [] false), (.str name), (.ptr 0 4 0), (.bool false), (.int .i64 st), (.str []), (.str []), (.int .i64 0), (.int .i64 0), (.bool false), (.int .i64 0), (.int .i64 0), (.str []), (.slice [] [] true), (.slice [] [] true)] ∧ u = []
abbrev seineref9_Param_l1X (l0 : List GParam) (name : Str) (p : Unit ⊕ (Str × Str × Int × Int × Bool × Int × Int × Str × (List GValue) × (List GMember))) (r : Ex × List PV × UP) : Prop := elim p (fun (p : Unit) => ∃ (i_11 : Int), r = (Ex.brk 0, [(.slice (List.map encParam l0) [] false), (.str name), (.ptr 0 4 0), (.bool false), (.int .i64 i_11), (.str []), (.str []), (.int .i64 0), (.int .i64 0), (.bool false), (.int .i64 0), (.int .i64 0), (.str []), (.slice [] [] true), (.slice [] [] true)], [])) (fun q2 => (fun (p : Str × Str × Int × Int × Bool × Int × Int × Str × (List GValue) × (List GMember)) => ∃ (i_12 : Int), r = (Ex.ret, [(.slice (List.map encParam l0) [] false), (.str name), (.ptr 0 4 0), (.bool true), (.int .i64 i_12), (.str p.1), (.str p.2.1), (.int .i64 p.2.2.1), (.int .i64 p.2.2.2.1), (.bool p.2.2.2.2.1), (.int .i64 p.2.2.2.2.2.1), (.int .i64 p.2.2.2.2.2.2.1), (.str p.2.2.2.2.2.2.2.1), (.slice (List.map encValue p.2.2.2.2.2.2.2.2.1) [] false), (.slice (List.map encMember p.2.2.2.2.2.2.2.2.2) [] false)], [])) q2)
noncomputable def seineref9_Param_B (l0 : List GParam) (name : Str) : Option (GParam × Bool) :=
  bnd (tloop (seineref9_Param_l1T l0 name) 0) fun e23_2 => elim e23_2
  (fun p23 =>
   some ((GParam.mk [] (GType.mk [] 0 0) false (GValue.mk 0 0 [] ([] : List GValue) ([] : List GMember))), false))
  (fun p23 =>
  some ((GParam.mk p23.1 (GType.mk p23.2.1 p23.2.2.1 p23.2.2.2.1) p23.2.2.2.2.1 (GValue.mk p23.2.2.2.2.2.1 p23.2.2.2.2.2.2.1 p23.2.2.2.2.2.2.2.1 p23.2.2.2.2.2.2.2.2.1 p23.2.2.2.2.2.2.2.2.2)), true))
def seineref9_Param_ds : Decs := { decs := [(15, (.ref shParam)), (22, (.ref shParam))], ups := [], loops := [(2, [(4, 10)], ⟨[(.sl false), .str, (.ptr 0 4 0), .bool, (.int .i64), .str, .str, (.int .i64), (.int .i64), .bool, (.int .i64), (.int .i64), .str, (.sl true), (.sl true)], [], [(some 0, [(.sl false), .str, (.ptr 0 4 0), .bool, (.int .i64), .str, .str, (.int .i64), (.int .i64), .bool, (.int .i64), (.int .i64), .str, (.sl true), (.sl true)], []), (none, [(.sl false), .str, (.ptr 0 4 0), .bool, (.int .i64), .str, .str, (.int .i64), (.int .i64), .bool, (.int .i64), (.int .i64), .str, (.sl false), (.sl false)], [])]⟩)] }
set_option maxRecDepth 100000 in
theorem seineref9_Param_t1 (O : Orc) (LP : LBody → LBody) (l0 : List GParam) (name : Str) : evalBodyD Try.prog (MT 25) seineref9_Param_ds Try.f25.ntmps O LP Try.f25 [(.slice (List.map encParam l0) [] false), (.str name)] [] = seineref9_Param_T1 O LP l0 name := by kernel_rfl
theorem seineref9_Param_l1_ok (l0 : List GParam) (name : Str) : ∀ st l u, seineref9_Param_l1R l0 name st l u → Imp (seineref9_Param_l1T l0 name st) (seineref9_Param_l1 O loopLim l u) (StepR (seineref9_Param_l1R l0 name) (seineref9_Param_l1X l0 name)) := by
  rintro i_6 l u ⟨rfl, rfl⟩
  simp only [seineref9_Param_l1T, seineref9_Param_l1]
  refine Imp.chk rfl (Imp.chk rfl ?_)
  try simp only [evs, tys]
  refine Imp.cnd ?_ ?_
  · refine Imp.op (f := fun a => .ref (encParam a)) (fun a h => op_ix (enc := encParam) (by first | rfl | simp only [evs, tys, evl]) ⟨by first | rfl | simp only [evs, tys, evc], by decide⟩ h) (fun a => chk_GParam a) fun y8 hy8 => ?_
    try simp only [evs, tys]
    refine Imp.cnd ?_ ?_
    · refine Imp.op (f := fun a => .ref (encParam a)) (fun a h => op_ix (enc := encParam) (by first | rfl | simp only [evs, tys, evl]) ⟨by first | rfl | simp only [evs, tys, evc], by decide⟩ h) (fun a => chk_GParam a) fun y10 hy10 => ?_
      try simp only [evs, tys]
      exact Imp.some (StepR.ret ⟨i_6, by first | rfl | simp only [evs, tys, evl, elim_inl, elim_inr]⟩)
    · exact Imp.some (StepR.next ⟨by first | rfl | simp only [evs, tys, evl], rfl⟩)
  · exact Imp.some (StepR.brk ⟨i_6, by first | rfl | simp only [evs, tys, evl, elim_inl, elim_inr]⟩)
theorem seineref9_Param_imp (l0 : List GParam) (name : Str) : Imp (seineref9_Param_B l0 name) (seineref9_Param_T1 O loopLim l0 name) (fun r v => v = (seineref9_ParamE r, [])) := by
  simp only [seineref9_Param_B, seineref9_Param_T1]
  try simp only [evs, tys]
  refine Imp.bnd (Imp.loop (seineref9_Param_l1_ok l0 name) ⟨by first | rfl | simp only [evs, tys, evl], rfl⟩) ?_
  rintro (p | ⟨b_13, b_14, b_15, b_16, b_17, b_18, b_19, b_20, b_21, b_22⟩) vy23 hy23
  · try simp only [elim_inl, elim_inr]
    obtain ⟨i_11, rfl⟩ := hy23
    refine Imp.exHit rfl (Imp.chk rfl (Imp.chk rfl ?_))
    try simp only [evs, tys]
    exact Imp.some (by first | rfl | simp only [seineref9_ParamE, evs, tys, evl])
  · try simp only [elim_inl, elim_inr]
    obtain ⟨i_12, rfl⟩ := hy23
    refine Imp.exMiss rfl ?_
    refine Imp.exHit rfl (Imp.chk rfl (Imp.chk rfl ?_))
    try simp only [evs, tys]
    exact Imp.some (by first | rfl | simp only [seineref9_ParamE, evs, tys, evl])
theorem seineref9_Param_run {l0 : List GParam} {name : Str} {r : GParam × Bool} (h : seineref9_Param_B l0 name = some r) : seineref9_Param l0 name = some r := by
  obtain ⟨v, hv, rfl⟩ := seineref9_Param_imp l0 name r h
  exact tO_of (pair_inj seineref9_ParamEj) (OL_runD seineref9_Param_ds rfl rfl Try.func25 ((seineref9_Param_t1 _ _ l0 name).trans hv))

def literal_Required_T1 (O : Orc) (LP : LBody → LBody) (p0 : GParam) : Option (PV × UP) :=
  callp O 18 [(.agg [(.str p0.t.name), (.int .i64 p0.t.lists), (.int .i64 p0.t.musts)])] fun x1 => cnd (chk .bool x1)
  (cnd (boolV x1)
   (some ((.bool (!p0.has)), []))
   (some ((.bool false), []))) none
noncomputable def literal_Required_B (p0 : GParam) : Option Bool :=
  bnd (wrap_Is p0.t) fun y2 =>
  cnd y2
   (some (!p0.has))
   (some false)
def literal_Required_ds : Decs := { decs := [(5, .bool)], ups := [], loops := [] }
set_option maxRecDepth 100000 in
theorem literal_Required_t1 (O : Orc) (LP : LBody → LBody) (p0 : GParam) : evalBodyD Try.prog (MT 27) literal_Required_ds Try.f27.ntmps O LP Try.f27 [(.agg [(.str p0.name), (.str p0.t.name), (.int .i64 p0.t.lists), (.int .i64 p0.t.musts), (.bool p0.has), (.int .i64 p0.default.kind), (.int .i64 p0.default.n), (.str p0.default.s), (.slice (List.map encValue p0.default.l) [] false), (.slice (List.map encMember p0.default.m) [] false)])] [] = literal_Required_T1 O LP p0 := by kernel_rfl
theorem literal_Required_imp (p0 : GParam) : Imp (literal_Required_B p0) (literal_Required_T1 O loopLim p0) (fun r v => v = (literal_RequiredE r, [])) := by
  simp only [literal_Required_B, literal_Required_T1]
  try simp only [evs, tys]
  refine Imp.call (f := wrap_IsE) rfl (fun a h => by first | exact wrap_Is_spec h | simpa only [evs, tys, evl] using wrap_Is_spec h) (fun a => by first | rfl | simp only [wrap_IsE, evk, chks]) fun y2 hy2 => ?_
  try simp only [wrap_IsE, evs, tys]
  refine Imp.cnd ?_ ?_
  · exact Imp.some (by first | rfl | simp only [literal_RequiredE, evs, tys, evl])
  · exact Imp.some (by first | rfl | simp only [literal_RequiredE, evs, tys, evl])
theorem literal_Required_run {p0 : GParam} {r : Bool} (h : literal_Required_B p0 = some r) : literal_Required p0 = some r := by
  obtain ⟨v, hv, rfl⟩ := literal_Required_imp p0 r h
  exact tO_of (pair_inj literal_RequiredEj) (OL_runD literal_Required_ds rfl rfl Try.func27 ((literal_Required_t1 _ _ p0).trans hv))
end Go.Proofs.Yteiccdhdfcbokaa

/- Printed by symgen.py: typed functions of this seat, and why they tell what the program does. -/
set_option linter.unusedVariables false
set_option linter.unusedSimpArgs false
open Go Go.Ev Go.Ev.PV
namespace Go.Proofs.Yteiccdhdfcbokaa
def seineref1_Get_l1 (O : Orc) (LP : LBody → LBody) : LBody := fun s1 s1u => cnd (chkL [.str, (.sl false), (.ptr 0 4 0), .bool, (.int .i64), (.int .i64), (.int .i64), .str, (.sl true), (.sl true)] s1) (cnd (chkU [] s1u)
  (cnd (decide ((intV (gt s1 4)) < (List.length (esV (gt s1 1)) : Int)))
   (bnd (ix 6 (.slice (esV (gt s1 1)) [] false) (.int .i64 (intV (gt s1 4)))) fun x7 => cnd (chk (.ref shMember) x7)
   (cnd ((strV (gt (aggV (refV x7)) 0)) == (strV (gt s1 0)))
    (bnd (ix 6 (.slice (esV (gt s1 1)) [] false) (.int .i64 (intV (gt s1 4)))) fun x9 => cnd (chk (.ref shMember) x9)
    (some (.ret, [(.str (strV (gt s1 0))), (.slice (esV (gt s1 1)) [] false), (.ptr 0 4 0), (.bool true), (.int .i64 (intV (gt s1 4))), (.int .i64 (intV (gt (aggV (refV x9)) 1))), (.int .i64 (intV (gt (aggV (refV x9)) 2))), (.str (strV (gt (aggV (refV x9)) 3))), (.slice (esV (gt (aggV (refV x9)) 4)) [] false), (.slice (esV (gt (aggV (refV x9)) 5)) [] false)], [])) none)
    (some (.nrm, [(.str (strV (gt s1 0))), (.slice (esV (gt s1 1)) [] false), (.ptr 0 4 0), (.bool (boolV (gt s1 3))), (.int .i64 (IntKind.wrap .i64 ((intV (gt s1 4)) + 1))), (.int .i64 (intV (gt s1 5))), (.int .i64 (intV (gt s1 6))), (.str (strV (gt s1 7))), (.slice (esV (gt s1 8)) [] true), (.slice (esV (gt s1 9)) [] true)], []))) none)
   (some (.brk 0, [(.str (strV (gt s1 0))), (.slice (esV (gt s1 1)) [] false), (.ptr 0 4 0), (.bool (boolV (gt s1 3))), (.int .i64 (intV (gt s1 4))), (.int .i64 (intV (gt s1 5))), (.int .i64 (intV (gt s1 6))), (.str (strV (gt s1 7))), (.slice (esV (gt s1 8)) [] true), (.slice (esV (gt s1 9)) [] true)], []))) none) none
def seineref1_Get_T1 (O : Orc) (LP : LBody → LBody) (name : Str) (l0 : List GMember) : Option (PV × UP) :=
  bnd (LP (seineref1_Get_l1 O LP) [(.str name), (.slice (List.map encMember l0) [] false), (.ptr 0 4 0), (.bool false), (.int .i64 0), (.int .i64 0), (.int .i64 0), (.str []), (.slice [] [] true), (.slice [] [] true)] []) fun y18 =>
  exIs y18.1 (some 0) (cnd (chkL [.str, (.sl false), (.ptr 0 4 0), .bool, (.int .i64), (.int .i64), (.int .i64), .str, (.sl true), (.sl true)] y18.2.1) (cnd (chkU [] y18.2.2)
   (some ((.tuple [(.agg [(.int .i64 0), (.int .i64 0), (.str []), (.slice [] [] false), (.slice [] [] false)]), (.bool false)]), [])) none) none)
  (exIs y18.1 none (cnd (chkL [.str, (.sl false), (.ptr 0 4 0), .bool, (.int .i64), (.int .i64), (.int .i64), .str, (.sl false), (.sl false)] y18.2.1) (cnd (chkU [] y18.2.2)
   (some ((.tuple [(.agg [(.int .i64 (intV (gt y18.2.1 5))), (.int .i64 (intV (gt y18.2.1 6))), (.str (strV (gt y18.2.1 7))), (.slice (esV (gt y18.2.1 8)) [] false), (.slice (esV (gt y18.2.1 9)) [] false)]), (.bool (boolV (gt y18.2.1 3)))]), [])) none) none)
  (none))
noncomputable def seineref1_Get_l1T (name : Str) (l0 : List GMember) : Int → Option (Int ⊕ (Unit ⊕ (Int × Int × Str × (List GValue) × (List GMember))))
  | i_6 =>
  cnd (decide (i_6 < (List.length l0 : Int)))
   (bnd (nthI l0 i_6) fun y8 =>
   cnd (y8.name == name)
    (bnd (nthI l0 i_6) fun y10 =>
    some (.inr (.inr (y10.v.kind, y10.v.n, y10.v.s, y10.v.l, y10.v.m))))
    (some (.inl (IntKind.wrap .i64 (i_6 + 1)))))
   (some (.inr (.inl ())))
abbrev seineref1_Get_l1R (name : Str) (l0 : List GMember) (st : Int) (l : List PV) (u : UP) : Prop := l = [(.str name), (.slice (List.map encMember l0) [] false), (.ptr 0 4 0), (.bool false), (.int .i64 st), (.int .i64 0), (.int .i64 0), (.str []), (.slice [] [] true), (.slice [] [] true)] ∧ u = []
abbrev seineref1_Get_l1X (name : Str) (l0 : List GMember) (p : Unit ⊕ (Int × Int × Str × (List GValue) × (List GMember))) (r : Ex × List PV × UP) : Prop := elim p (fun (p : Unit) => ∃ (i_11 : Int), r = (Ex.brk 0, [(.str name), (.slice (List.map encMember l0) [] false), (.ptr 0 4 0), (.bool false), (.int .i64 i_11), (.int .i64 0), (.int .i64 0), (.str []), (.slice [] [] true), (.slice [] [] true)], [])) (fun q2 => (fun (p : Int × Int × Str × (List GValue) × (List GMember)) => ∃ (i_12 : Int), r = (Ex.ret, [(.str name), (.slice (List.map encMember l0) [] false), (.ptr 0 4 0), (.bool true), (.int .i64 i_12), (.int .i64 p.1), (.int .i64 p.2.1), (.str p.2.2.1), (.slice (List.map encValue p.2.2.2.1) [] false), (.slice (List.map encMember p.2.2.2.2) [] false)], [])) q2)
noncomputable def seineref1_Get_B (name : Str) (l0 : List GMember) : Option (GValue × Bool) :=
  bnd (tloop (seineref1_Get_l1T name l0) 0) fun e18_2 => elim e18_2
  (fun p18 =>
   some ((GValue.mk 0 0 [] ([] : List GValue) ([] : List GMember)), false))
  (fun p18 =>
  some ((GValue.mk p18.1 p18.2.1 p18.2.2.1 p18.2.2.2.1 p18.2.2.2.2), true))
def seineref1_Get_ds : Decs := { decs := [(15, (.ref shMember)), (22, (.ref shMember))], ups := [], loops := [(2, [(4, 5)], ⟨[.str, (.sl false), (.ptr 0 4 0), .bool, (.int .i64), (.int .i64), (.int .i64), .str, (.sl true), (.sl true)], [], [(some 0, [.str, (.sl false), (.ptr 0 4 0), .bool, (.int .i64), (.int .i64), (.int .i64), .str, (.sl true), (.sl true)], []), (none, [.str, (.sl false), (.ptr 0 4 0), .bool, (.int .i64), (.int .i64), (.int .i64), .str, (.sl false), (.sl false)], [])]⟩)] }
set_option maxRecDepth 100000 in
theorem seineref1_Get_t1 (O : Orc) (LP : LBody → LBody) (name : Str) (l0 : List GMember) : evalBodyD Try.prog (MT 28) seineref1_Get_ds Try.f28.ntmps O LP Try.f28 [(.str name), (.slice (List.map encMember l0) [] false)] [] = seineref1_Get_T1 O LP name l0 := by kernel_rfl
theorem seineref1_Get_l1_ok (name : Str) (l0 : List GMember) : ∀ st l u, seineref1_Get_l1R name l0 st l u → Imp (seineref1_Get_l1T name l0 st) (seineref1_Get_l1 O loopLim l u) (StepR (seineref1_Get_l1R name l0) (seineref1_Get_l1X name l0)) := by
  rintro i_6 l u ⟨rfl, rfl⟩
  simp only [seineref1_Get_l1T, seineref1_Get_l1]
  refine Imp.chk rfl (Imp.chk rfl ?_)
  try simp only [evs, tys]
  refine Imp.cnd ?_ ?_
  · refine Imp.op (f := fun a => .ref (encMember a)) (fun a h => op_ix (enc := encMember) (by first | rfl | simp only [evs, tys, evl]) ⟨by first | rfl | simp only [evs, tys, evc], by decide⟩ h) (fun a => chk_GMember a) fun y8 hy8 => ?_
    try simp only [evs, tys]
    refine Imp.cnd ?_ ?_
    · refine Imp.op (f := fun a => .ref (encMember a)) (fun a h => op_ix (enc := encMember) (by first | rfl | simp only [evs, tys, evl]) ⟨by first | rfl | simp only [evs, tys, evc], by decide⟩ h) (fun a => chk_GMember a) fun y10 hy10 => ?_
      try simp only [evs, tys]
      exact Imp.some (StepR.ret ⟨i_6, by first | rfl | simp only [evs, tys, evl, elim_inl, elim_inr]⟩)
    · exact Imp.some (StepR.next ⟨by first | rfl | simp only [evs, tys, evl], rfl⟩)
  · exact Imp.some (StepR.brk ⟨i_6, by first | rfl | simp only [evs, tys, evl, elim_inl, elim_inr]⟩)
theorem seineref1_Get_imp (name : Str) (l0 : List GMember) : Imp (seineref1_Get_B name l0) (seineref1_Get_T1 O loopLim name l0) (fun r v => v = (seineref1_GetE r, [])) := by
  simp only [seineref1_Get_B, seineref1_Get_T1]
  try simp only [evs, tys]
  refine Imp.bnd (Imp.loop (seineref1_Get_l1_ok name l0) ⟨by first | rfl | simp only [evs, tys, evl], rfl⟩) ?_
  rintro (p | ⟨b_13, b_14, b_15, b_16, b_17⟩) vy18 hy18
  · try simp only [elim_inl, elim_inr]
    obtain ⟨i_11, rfl⟩ := hy18
    refine Imp.exHit rfl (Imp.chk rfl (Imp.chk rfl ?_))
    try simp only [evs, tys]
    exact Imp.some (by first | rfl | simp only [seineref1_GetE, evs, tys, evl])
  · try simp only [elim_inl, elim_inr]
    obtain ⟨i_12, rfl⟩ := hy18
    refine Imp.exMiss rfl ?_
    refine Imp.exHit rfl (Imp.chk rfl (Imp.chk rfl ?_))
    try simp only [evs, tys]
    exact Imp.some (by first | rfl | simp only [seineref1_GetE, evs, tys, evl])
theorem seineref1_Get_run {name : Str} {l0 : List GMember} {r : GValue × Bool} (h : seineref1_Get_B name l0 = some r) : seineref1_Get name l0 = some r := by
  obtain ⟨v, hv, rfl⟩ := seineref1_Get_imp name l0 r h
  exact tO_of (pair_inj seineref1_GetEj) (OL_runD seineref1_Get_ds rfl rfl Try.func28 ((seineref1_Get_t1 _ _ name l0).trans hv))

def seineref1_Is_T1 (O : Orc) (LP : LBody → LBody) (t : GType) : Option (PV × UP) :=
  callp O 40 [(.agg [(.str t.name), (.int .i64 t.lists), (.int .i64 t.musts)])] fun x1 => cnd (chk .bool x1)
  (cnd (boolV x1)
   (some ((.bool ((bits .and .i64 t.musts 1) == 1)), []))
   (some ((.bool false), []))) none
noncomputable def seineref1_Is_B (t : GType) : Option Bool :=
  bnd (seineref1_RightType t) fun y2 =>
  cnd y2
   (some ((bits .and .i64 t.musts 1) == 1))
   (some false)
def seineref1_Is_ds : Decs := { decs := [(4, .bool)], ups := [], loops := [] }
set_option maxRecDepth 100000 in
theorem seineref1_Is_t1 (O : Orc) (LP : LBody → LBody) (t : GType) : evalBodyD Try.prog (MT 29) seineref1_Is_ds Try.f29.ntmps O LP Try.f29 [(.agg [(.str t.name), (.int .i64 t.lists), (.int .i64 t.musts)])] [] = seineref1_Is_T1 O LP t := by kernel_rfl
theorem seineref1_Is_imp (t : GType) : Imp (seineref1_Is_B t) (seineref1_Is_T1 O loopLim t) (fun r v => v = (seineref1_IsE r, [])) := by
  simp only [seineref1_Is_B, seineref1_Is_T1]
  try simp only [evs, tys]
  refine Imp.call (f := seineref1_RightTypeE) rfl (fun a h => by first | exact seineref1_RightType_spec h | simpa only [evs, tys, evl] using seineref1_RightType_spec h) (fun a => by first | rfl | simp only [seineref1_RightTypeE, evk, chks]) fun y2 hy2 => ?_
  try simp only [seineref1_RightTypeE, evs, tys]
  refine Imp.cnd ?_ ?_
  · exact Imp.some (by first | rfl | simp only [seineref1_IsE, evs, tys, evl])
  · exact Imp.some (by first | rfl | simp only [seineref1_IsE, evs, tys, evl])
theorem seineref1_Is_run {t : GType} {r : Bool} (h : seineref1_Is_B t = some r) : seineref1_Is t = some r := by
  obtain ⟨v, hv, rfl⟩ := seineref1_Is_imp t r h
  exact tO_of (pair_inj seineref1_IsEj) (OL_runD seineref1_Is_ds rfl rfl Try.func29 ((seineref1_Is_t1 _ _ t).trans hv))

def seineref1_Same_l1 (O : Orc) (LP : LBody → LBody) : LBody := fun s1 s1u => cnd (chkL [(.ptr 0 2 0), (.ptr 0 3 0), .bool, (.int .i64), (.int .i64), (.int .i64), .str, (.sl false), (.sl false), (.int .i64), (.int .i64), .str, (.sl false), (.sl false)] s1) (cnd (chkU [] s1u)
  (cnd (decide ((intV (gt s1 3)) < (List.length (esV (gt s1 12)) : Int)))
   (bnd (ix 5 (.slice (esV (gt s1 12)) [] false) (.int .i64 (intV (gt s1 3)))) fun x9 => cnd (chk (.ref shValue) x9)
   (bnd (ix 5 (.slice (esV (gt s1 7)) [] false) (.int .i64 (intV (gt s1 3)))) fun x11 => cnd (chk (.ref shValue) x11)
   (callp O 30 [(.agg [(.int .i64 (intV (gt (aggV (refV x9)) 0))), (.int .i64 (intV (gt (aggV (refV x9)) 1))), (.str (strV (gt (aggV (refV x9)) 2))), (.slice (esV (gt (aggV (refV x9)) 3)) [] false), (.slice (esV (gt (aggV (refV x9)) 4)) [] false)]), (.agg [(.int .i64 (intV (gt (aggV (refV x11)) 0))), (.int .i64 (intV (gt (aggV (refV x11)) 1))), (.str (strV (gt (aggV (refV x11)) 2))), (.slice (esV (gt (aggV (refV x11)) 3)) [] false), (.slice (esV (gt (aggV (refV x11)) 4)) [] false)])] fun x13 => cnd (chk .bool x13)
   (cnd (!(boolV x13))
    (some (.ret, [(.ptr 0 2 0), (.ptr 0 3 0), (.bool false), (.int .i64 (intV (gt s1 3))), (.int .i64 (intV (gt s1 4))), (.int .i64 (intV (gt s1 5))), (.str (strV (gt s1 6))), (.slice (esV (gt s1 7)) [] false), (.slice (esV (gt s1 8)) [] false), (.int .i64 (intV (gt s1 9))), (.int .i64 (intV (gt s1 10))), (.str (strV (gt s1 11))), (.slice (esV (gt s1 12)) [] false), (.slice (esV (gt s1 13)) [] false)], []))
    (some (.nrm, [(.ptr 0 2 0), (.ptr 0 3 0), (.bool (boolV (gt s1 2))), (.int .i64 (IntKind.wrap .i64 ((intV (gt s1 3)) + 1))), (.int .i64 (intV (gt s1 4))), (.int .i64 (intV (gt s1 5))), (.str (strV (gt s1 6))), (.slice (esV (gt s1 7)) [] false), (.slice (esV (gt s1 8)) [] false), (.int .i64 (intV (gt s1 9))), (.int .i64 (intV (gt s1 10))), (.str (strV (gt s1 11))), (.slice (esV (gt s1 12)) [] false), (.slice (esV (gt s1 13)) [] false)], []))) none) none) none)
   (some (.brk 0, [(.ptr 0 2 0), (.ptr 0 3 0), (.bool (boolV (gt s1 2))), (.int .i64 (intV (gt s1 3))), (.int .i64 (intV (gt s1 4))), (.int .i64 (intV (gt s1 5))), (.str (strV (gt s1 6))), (.slice (esV (gt s1 7)) [] false), (.slice (esV (gt s1 8)) [] false), (.int .i64 (intV (gt s1 9))), (.int .i64 (intV (gt s1 10))), (.str (strV (gt s1 11))), (.slice (esV (gt s1 12)) [] false), (.slice (esV (gt s1 13)) [] false)], []))) none) none
def seineref1_Same_T1 (O : Orc) (LP : LBody → LBody) (a : GValue) (b : GValue) : Option (PV × UP) :=
  cnd (a.kind != b.kind)
   (some ((.bool false), []))
   (cnd (a.n != b.n)
    (some ((.bool false), []))
    (cnd (!(a.s == b.s))
     (some ((.bool false), []))
     (cnd ((List.length (List.map encValue a.l) : Int) != (List.length (List.map encValue b.l) : Int))
      (some ((.bool false), []))
      (bnd (LP (seineref1_Same_l1 O LP) [(.ptr 0 2 0), (.ptr 0 3 0), (.bool false), (.int .i64 0), (.int .i64 b.kind), (.int .i64 b.n), (.str b.s), (.slice (List.map encValue b.l) [] false), (.slice (List.map encMember b.m) [] false), (.int .i64 a.kind), (.int .i64 a.n), (.str a.s), (.slice (List.map encValue a.l) [] false), (.slice (List.map encMember a.m) [] false)] []) fun y17 =>
      exIs y17.1 (some 0) (cnd (chkL [(.ptr 0 2 0), (.ptr 0 3 0), .bool, (.int .i64), (.int .i64), (.int .i64), .str, (.sl false), (.sl false), (.int .i64), (.int .i64), .str, (.sl false), (.sl false)] y17.2.1) (cnd (chkU [] y17.2.2)
       (callp O 17 [(.slice (esV (gt y17.2.1 13)) [] false), (.slice (esV (gt y17.2.1 8)) [] false)] fun x18 => cnd (chk .bool x18)
       (some ((.bool (boolV x18)), [])) none) none) none)
      (exIs y17.1 none (cnd (chkL [(.ptr 0 2 0), (.ptr 0 3 0), .bool, (.int .i64), (.int .i64), (.int .i64), .str, (.sl false), (.sl false), (.int .i64), (.int .i64), .str, (.sl false), (.sl false)] y17.2.1) (cnd (chkU [] y17.2.2)
       (some ((.bool (boolV (gt y17.2.1 2))), [])) none) none)
      (none))))))
noncomputable def seineref1_Same_l1T (a : GValue) (b : GValue) : Int → Option (Int ⊕ (Unit ⊕ Unit))
  | i_8 =>
  cnd (decide (i_8 < (List.length a.l : Int)))
   (bnd (nthI a.l i_8) fun y10 =>
   bnd (nthI b.l i_8) fun y12 =>
   bnd (seineref1_Same y10 y12) fun y14 =>
   cnd (!y14)
    (some (.inr (.inr ())))
    (some (.inl (IntKind.wrap .i64 (i_8 + 1)))))
   (some (.inr (.inl ())))
abbrev seineref1_Same_l1R (a : GValue) (b : GValue) (st : Int) (l : List PV) (u : UP) : Prop := l = [(.ptr 0 2 0), (.ptr 0 3 0), (.bool false), (.int .i64 st), (.int .i64 b.kind), (.int .i64 b.n), (.str b.s), (.slice (List.map encValue b.l) [] false), (.slice (List.map encMember b.m) [] false), (.int .i64 a.kind), (.int .i64 a.n), (.str a.s), (.slice (List.map encValue a.l) [] false), (.slice (List.map encMember a.m) [] false)] ∧ u = []
abbrev seineref1_Same_l1X (a : GValue) (b : GValue) (p : Unit ⊕ Unit) (r : Ex × List PV × UP) : Prop := elim p (fun (p : Unit) => ∃ (i_15 : Int), r = (Ex.brk 0, [(.ptr 0 2 0), (.ptr 0 3 0), (.bool false), (.int .i64 i_15), (.int .i64 b.kind), (.int .i64 b.n), (.str b.s), (.slice (List.map encValue b.l) [] false), (.slice (List.map encMember b.m) [] false), (.int .i64 a.kind), (.int .i64 a.n), (.str a.s), (.slice (List.map encValue a.l) [] false), (.slice (List.map encMember a.m) [] false)], [])) (fun q2 => (fun (p : Unit) => ∃ (i_16 : Int), r = (Ex.ret, [(.ptr 0 2 0), (.ptr 0 3 0), (.bool false), (.int .i64 i_16), (.int .i64 b.kind), (.int .i64 b.n), (.str b.s), (.slice (List.map encValue b.l) [] false), (.slice (List.map encMember b.m) [] false), (.int .i64 a.kind), (.int .i64 a.n), (.str a.s), (.slice (List.map encValue a.l) [] false), (.slice (List.map encMember a.m) [] false)], [])) q2)
noncomputable def seineref1_Same_B (a : GValue) (b : GValue) : Option Bool :=
  cnd (a.kind != b.kind)
   (some false)
   (cnd (a.n != b.n)
    (some false)
    (cnd (!(a.s == b.s))
     (some false)
     (cnd ((List.length a.l : Int) != (List.length b.l : Int))
      (some false)
      (bnd (tloop (seineref1_Same_l1T a b) 0) fun e17_2 => elim e17_2
      (fun p17 =>
       bnd (seineref1_Members a.m b.m) fun y19 =>
       some y19)
      (fun p17 =>
      some false)))))
def seineref1_Same_ds : Decs := { decs := [(44, (.ref shValue)), (49, (.ref shValue)), (51, .bool), (57, .bool)], ups := [], loops := [(4, [(3, 5), (2, 5)], ⟨[(.ptr 0 2 0), (.ptr 0 3 0), .bool, (.int .i64), (.int .i64), (.int .i64), .str, (.sl false), (.sl false), (.int .i64), (.int .i64), .str, (.sl false), (.sl false)], [], [(some 0, [(.ptr 0 2 0), (.ptr 0 3 0), .bool, (.int .i64), (.int .i64), (.int .i64), .str, (.sl false), (.sl false), (.int .i64), (.int .i64), .str, (.sl false), (.sl false)], []), (none, [(.ptr 0 2 0), (.ptr 0 3 0), .bool, (.int .i64), (.int .i64), (.int .i64), .str, (.sl false), (.sl false), (.int .i64), (.int .i64), .str, (.sl false), (.sl false)], [])]⟩)] }
set_option maxRecDepth 100000 in
theorem seineref1_Same_t1 (O : Orc) (LP : LBody → LBody) (a : GValue) (b : GValue) : evalBodyD Try.prog (MT 30) seineref1_Same_ds Try.f30.ntmps O LP Try.f30 [(.agg [(.int .i64 a.kind), (.int .i64 a.n), (.str a.s), (.slice (List.map encValue a.l) [] false), (.slice (List.map encMember a.m) [] false)]), (.agg [(.int .i64 b.kind), (.int .i64 b.n), (.str b.s), (.slice (List.map encValue b.l) [] false), (.slice (List.map encMember b.m) [] false)])] [] = seineref1_Same_T1 O LP a b := by kernel_rfl
theorem seineref1_Same_l1_ok (a : GValue) (b : GValue) : ∀ st l u, seineref1_Same_l1R a b st l u → Imp (seineref1_Same_l1T a b st) (seineref1_Same_l1 O loopLim l u) (StepR (seineref1_Same_l1R a b) (seineref1_Same_l1X a b)) := by
  rintro i_8 l u ⟨rfl, rfl⟩
  simp only [seineref1_Same_l1T, seineref1_Same_l1]
  refine Imp.chk rfl (Imp.chk rfl ?_)
  try simp only [evs, tys]
  refine Imp.cnd ?_ ?_
  · refine Imp.op (f := fun a => .ref (encValue a)) (fun a h => op_ix (enc := encValue) (by first | rfl | simp only [evs, tys, evl]) ⟨by first | rfl | simp only [evs, tys, evc], by decide⟩ h) (fun a => chk_GValue a) fun y10 hy10 => ?_
    try simp only [evs, tys]
    refine Imp.op (f := fun a => .ref (encValue a)) (fun a h => op_ix (enc := encValue) (by first | rfl | simp only [evs, tys, evl]) ⟨by first | rfl | simp only [evs, tys, evc], by decide⟩ h) (fun a => chk_GValue a) fun y12 hy12 => ?_
    try simp only [evs, tys]
    refine Imp.call (f := seineref1_SameE) rfl (fun a h => by first | exact seineref1_Same_spec h | simpa only [evs, tys, evl] using seineref1_Same_spec h) (fun a => by first | rfl | simp only [seineref1_SameE, evk, chks]) fun y14 hy14 => ?_
    try simp only [seineref1_SameE, evs, tys]
    refine Imp.cnd ?_ ?_
    · exact Imp.some (StepR.ret ⟨i_8, by first | rfl | simp only [evs, tys, evl, elim_inl, elim_inr]⟩)
    · exact Imp.some (StepR.next ⟨by first | rfl | simp only [evs, tys, evl], rfl⟩)
  · exact Imp.some (StepR.brk ⟨i_8, by first | rfl | simp only [evs, tys, evl, elim_inl, elim_inr]⟩)
theorem seineref1_Same_imp (a : GValue) (b : GValue) : Imp (seineref1_Same_B a b) (seineref1_Same_T1 O loopLim a b) (fun r v => v = (seineref1_SameE r, [])) := by
  simp only [seineref1_Same_B, seineref1_Same_T1]
  try simp only [evs, tys]
  refine Imp.cnd ?_ ?_
  · exact Imp.some (by first | rfl | simp only [seineref1_SameE, evs, tys, evl])
  · refine Imp.cnd ?_ ?_
    · exact Imp.some (by first | rfl | simp only [seineref1_SameE, evs, tys, evl])
    · refine Imp.cnd ?_ ?_
      · exact Imp.some (by first | rfl | simp only [seineref1_SameE, evs, tys, evl])
      · refine Imp.cnd ?_ ?_
        · exact Imp.some (by first | rfl | simp only [seineref1_SameE, evs, tys, evl])
        · refine Imp.bnd (Imp.loop (seineref1_Same_l1_ok a b) ⟨by first | rfl | simp only [evs, tys, evl], rfl⟩) ?_
          rintro (p | p) vy17 hy17
          · try simp only [elim_inl, elim_inr]
            obtain ⟨i_15, rfl⟩ := hy17
            refine Imp.exHit rfl (Imp.chk rfl (Imp.chk rfl ?_))
            try simp only [evs, tys]
            refine Imp.call (f := seineref1_MembersE) rfl (fun a h => by first | exact seineref1_Members_spec h | simpa only [evs, tys, evl] using seineref1_Members_spec h) (fun a => by first | rfl | simp only [seineref1_MembersE, evk, chks]) fun y19 hy19 => ?_
            try simp only [seineref1_MembersE, evs, tys]
            exact Imp.some (by first | rfl | simp only [seineref1_SameE, evs, tys, evl])
          · try simp only [elim_inl, elim_inr]
            obtain ⟨i_16, rfl⟩ := hy17
            refine Imp.exMiss rfl ?_
            refine Imp.exHit rfl (Imp.chk rfl (Imp.chk rfl ?_))
            try simp only [evs, tys]
            exact Imp.some (by first | rfl | simp only [seineref1_SameE, evs, tys, evl])
theorem seineref1_Same_run {a : GValue} {b : GValue} {r : Bool} (h : seineref1_Same_B a b = some r) : seineref1_Same a b = some r := by
  obtain ⟨v, hv, rfl⟩ := seineref1_Same_imp a b r h
  exact tO_of (pair_inj seineref1_SameEj) (OL_runD seineref1_Same_ds rfl rfl Try.func30 ((seineref1_Same_t1 _ _ a b).trans hv))

def seinelaw8_lightTexts_l1 (O : Orc) (LP : LBody → LBody) : LBody := fun s1 s1u => cnd (chkL [(.sl false), (.int .i64), (.int .i64)] s1) (cnd (chkU [] s1u)
  (cnd (decide ((intV (gt s1 2)) < (List.length (esV (gt s1 0)) : Int)))
   (bnd (ix 1 (.slice (esV (gt s1 0)) [] false) (.int .i64 (intV (gt s1 2)))) fun x6 => cnd (chk (.ref .str) x6)
   (some (.nrm, [(.slice (esV (gt s1 0)) [] false), (.int .i64 (IntKind.wrap .i64 ((IntKind.wrap .i64 ((intV (gt s1 1)) + 1)) + (List.length (strV (refV x6)) : Int)))), (.int .i64 (IntKind.wrap .i64 ((intV (gt s1 2)) + 1)))], [])) none)
   (some (.brk 0, [(.slice (esV (gt s1 0)) [] false), (.int .i64 (intV (gt s1 1))), (.int .i64 (intV (gt s1 2)))], []))) none) none
def seinelaw8_lightTexts_T1 (O : Orc) (LP : LBody → LBody) (l0 : List Str) : Option (PV × UP) :=
  bnd (LP (seinelaw8_lightTexts_l1 O LP) [(.slice (List.map PV.str l0) [] false), (.int .i64 0), (.int .i64 0)] []) fun y10 =>
  exIs y10.1 (some 0) (cnd (chkL [(.sl false), (.int .i64), (.int .i64)] y10.2.1) (cnd (chkU [] y10.2.2)
   (some ((.int .i64 (intV (gt y10.2.1 1))), [])) none) none)
  (none)
noncomputable def seinelaw8_lightTexts_l1T (l0 : List Str) : (Int × Int) → Option ((Int × Int) ⊕ Int)
  | (n_4, i_5) =>
  cnd (decide (i_5 < (List.length l0 : Int)))
   (bnd (nthI l0 i_5) fun y7 =>
   some (.inl ((IntKind.wrap .i64 ((IntKind.wrap .i64 (n_4 + 1)) + (List.length y7 : Int))), (IntKind.wrap .i64 (i_5 + 1)))))
   (some (.inr n_4))
abbrev seinelaw8_lightTexts_l1R (l0 : List Str) (st : Int × Int) (l : List PV) (u : UP) : Prop := l = [(.slice (List.map PV.str l0) [] false), (.int .i64 st.1), (.int .i64 st.2)] ∧ u = []
abbrev seinelaw8_lightTexts_l1X (l0 : List Str) (p : Int) (r : Ex × List PV × UP) : Prop := (fun (p : Int) => ∃ (i_9 : Int), r = (Ex.brk 0, [(.slice (List.map PV.str l0) [] false), (.int .i64 p), (.int .i64 i_9)], [])) p
noncomputable def seinelaw8_lightTexts_B (l0 : List Str) : Option Int :=
  bnd (tloop (seinelaw8_lightTexts_l1T l0) (0, 0)) fun n_8 =>
  some n_8
def seinelaw8_lightTexts_ds : Decs := { decs := [(15, (.ref .str))], ups := [], loops := [(3, [], ⟨[(.sl false), (.int .i64), (.int .i64)], [], [(some 0, [(.sl false), (.int .i64), (.int .i64)], [])]⟩)] }
set_option maxRecDepth 100000 in
theorem seinelaw8_lightTexts_t1 (O : Orc) (LP : LBody → LBody) (l0 : List Str) : evalBodyD Try.prog (MT 33) seinelaw8_lightTexts_ds Try.f33.ntmps O LP Try.f33 [(.slice (List.map PV.str l0) [] false)] [] = seinelaw8_lightTexts_T1 O LP l0 := by kernel_rfl
theorem seinelaw8_lightTexts_l1_ok (l0 : List Str) : ∀ st l u, seinelaw8_lightTexts_l1R l0 st l u → Imp (seinelaw8_lightTexts_l1T l0 st) (seinelaw8_lightTexts_l1 O loopLim l u) (StepR (seinelaw8_lightTexts_l1R l0) (seinelaw8_lightTexts_l1X l0)) := by
  rintro ⟨n_4, i_5⟩ l u ⟨rfl, rfl⟩
  simp only [seinelaw8_lightTexts_l1T, seinelaw8_lightTexts_l1]
  refine Imp.chk rfl (Imp.chk rfl ?_)
  try simp only [evs, tys]
  refine Imp.cnd ?_ ?_
  · refine Imp.op (f := fun a => .ref (PV.str a)) (fun a h => op_ix (enc := PV.str) (by first | rfl | simp only [evs, tys, evl]) ⟨by first | rfl | simp only [evs, tys, evc], by decide⟩ h) (fun a => rfl) fun y7 hy7 => ?_
    try simp only [evs, tys]
    exact Imp.some (StepR.next ⟨by first | rfl | simp only [evs, tys, evl], rfl⟩)
  · exact Imp.some (StepR.brk ⟨i_5, by first | rfl | simp only [evs, tys, evl, elim_inl, elim_inr]⟩)
theorem seinelaw8_lightTexts_imp (l0 : List Str) : Imp (seinelaw8_lightTexts_B l0) (seinelaw8_lightTexts_T1 O loopLim l0) (fun r v => v = (seinelaw8_lightTextsE r, [])) := by
  simp only [seinelaw8_lightTexts_B, seinelaw8_lightTexts_T1]
  try simp only [evs, tys]
  refine Imp.bnd (Imp.loop (seinelaw8_lightTexts_l1_ok l0) ⟨by first | rfl | simp only [evs, tys, evl], rfl⟩) ?_
  rintro n_8 vy10 hy10
  obtain ⟨i_9, rfl⟩ := hy10
  refine Imp.exHit rfl (Imp.chk rfl (Imp.chk rfl ?_))
  try simp only [evs, tys]
  exact Imp.some (by first | rfl | simp only [seinelaw8_lightTextsE, evs, tys, evl])
theorem seinelaw8_lightTexts_run {l0 : List Str} {r : Int} (h : seinelaw8_lightTexts_B l0 = some r) : seinelaw8_lightTexts l0 = some r := by
  obtain ⟨v, hv, rfl⟩ := seinelaw8_lightTexts_imp l0 r h
  exact tO_of (pair_inj seinelaw8_lightTextsEj) (OL_runD seinelaw8_lightTexts_ds rfl rfl Try.func33 ((seinelaw8_lightTexts_t1 _ _ l0).trans hv))

def seinelaw8_lightParams_l1 (O : Orc) (LP : LBody → LBody) : LBody := fun s1 s1u => cnd (chkL [(.sl false), (.int .i64), (.int .i64)] s1) (cnd (chkU [] s1u)
  (cnd (decide ((intV (gt s1 2)) < (List.length (esV (gt s1 0)) : Int)))
   (bnd (ix 10 (.slice (esV (gt s1 0)) [] false) (.int .i64 (intV (gt s1 2)))) fun x10 => cnd (chk (.ref shParam) x10)
   (bnd (ix 10 (.slice (esV (gt s1 0)) [] false) (.int .i64 (intV (gt s1 2)))) fun x12 => cnd (chk (.ref shParam) x12)
   (callp O 20 [(.agg [(.int .i64 (intV (gt (aggV (refV x12)) 5))), (.int .i64 (intV (gt (aggV (refV x12)) 6))), (.str (strV (gt (aggV (refV x12)) 7))), (.slice (esV (gt (aggV (refV x12)) 8)) [] false), (.slice (esV (gt (aggV (refV x12)) 9)) [] false)])] fun x14 => cnd (chk (.int .i64) x14)
   (some (.nrm, [(.slice (esV (gt s1 0)) [] false), (.int .i64 (IntKind.wrap .i64 ((IntKind.wrap .i64 ((IntKind.wrap .i64 ((intV (gt s1 1)) + 1)) + (List.length (strV (gt (aggV (refV x10)) 0)) : Int))) + (intV x14)))), (.int .i64 (IntKind.wrap .i64 ((intV (gt s1 2)) + 1)))], [])) none) none) none)
   (some (.brk 0, [(.slice (esV (gt s1 0)) [] false), (.int .i64 (intV (gt s1 1))), (.int .i64 (intV (gt s1 2)))], []))) none) none
def seinelaw8_lightParams_T1 (O : Orc) (LP : LBody → LBody) (l0 : List GParam) : Option (PV × UP) :=
  bnd (LP (seinelaw8_lightParams_l1 O LP) [(.slice (List.map encParam l0) [] false), (.int .i64 0), (.int .i64 0)] []) fun y18 =>
  exIs y18.1 (some 0) (cnd (chkL [(.sl false), (.int .i64), (.int .i64)] y18.2.1) (cnd (chkU [] y18.2.2)
   (some ((.int .i64 (intV (gt y18.2.1 1))), [])) none) none)
  (none)
noncomputable def seinelaw8_lightParams_l1T (l0 : List GParam) : (Int × Int) → Option ((Int × Int) ⊕ Int)
  | (n_8, i_9) =>
  cnd (decide (i_9 < (List.length l0 : Int)))
   (bnd (nthI l0 i_9) fun y11 =>
   bnd (nthI l0 i_9) fun y13 =>
   bnd (seinekeep_Size y13.default) fun y15 =>
   some (.inl ((IntKind.wrap .i64 ((IntKind.wrap .i64 ((IntKind.wrap .i64 (n_8 + 1)) + (List.length y11.name : Int))) + y15)), (IntKind.wrap .i64 (i_9 + 1)))))
   (some (.inr n_8))
abbrev seinelaw8_lightParams_l1R (l0 : List GParam) (st : Int × Int) (l : List PV) (u : UP) : Prop := l = [(.slice (List.map encParam l0) [] false), (.int .i64 st.1), (.int .i64 st.2)] ∧ u = []
abbrev seinelaw8_lightParams_l1X (l0 : List GParam) (p : Int) (r : Ex × List PV × UP) : Prop := (fun (p : Int) => ∃ (i_17 : Int), r = (Ex.brk 0, [(.slice (List.map encParam l0) [] false), (.int .i64 p), (.int .i64 i_17)], [])) p
noncomputable def seinelaw8_lightParams_B (l0 : List GParam) : Option Int :=
  bnd (tloop (seinelaw8_lightParams_l1T l0) (0, 0)) fun n_16 =>
  some n_16
def seinelaw8_lightParams_ds : Decs := { decs := [(15, (.ref shParam)), (22, (.ref shParam)), (25, (.int .i64))], ups := [], loops := [(3, [], ⟨[(.sl false), (.int .i64), (.int .i64)], [], [(some 0, [(.sl false), (.int .i64), (.int .i64)], [])]⟩)] }
set_option maxRecDepth 100000 in
theorem seinelaw8_lightParams_t1 (O : Orc) (LP : LBody → LBody) (l0 : List GParam) : evalBodyD Try.prog (MT 34) seinelaw8_lightParams_ds Try.f34.ntmps O LP Try.f34 [(.slice (List.map encParam l0) [] false)] [] = seinelaw8_lightParams_T1 O LP l0 := by kernel_rfl
theorem seinelaw8_lightParams_l1_ok (l0 : List GParam) : ∀ st l u, seinelaw8_lightParams_l1R l0 st l u → Imp (seinelaw8_lightParams_l1T l0 st) (seinelaw8_lightParams_l1 O loopLim l u) (StepR (seinelaw8_lightParams_l1R l0) (seinelaw8_lightParams_l1X l0)) := by
  rintro ⟨n_8, i_9⟩ l u ⟨rfl, rfl⟩
  simp only [seinelaw8_lightParams_l1T, seinelaw8_lightParams_l1]
  refine Imp.chk rfl (Imp.chk rfl ?_)
  try simp only [evs, tys]
  refine Imp.cnd ?_ ?_
  · refine Imp.op (f := fun a => .ref (encParam a)) (fun a h => op_ix (enc := encParam) (by first | rfl | simp only [evs, tys, evl]) ⟨by first | rfl | simp only [evs, tys, evc], by decide⟩ h) (fun a => chk_GParam a) fun y11 hy11 => ?_
    try simp only [evs, tys]
    refine Imp.op (f := fun a => .ref (encParam a)) (fun a h => op_ix (enc := encParam) (by first | rfl | simp only [evs, tys, evl]) ⟨by first | rfl | simp only [evs, tys, evc], by decide⟩ h) (fun a => chk_GParam a) fun y13 hy13 => ?_
    try simp only [evs, tys]
    refine Imp.call (f := seinekeep_SizeE) rfl (fun a h => by first | exact seinekeep_Size_spec h | simpa only [evs, tys, evl] using seinekeep_Size_spec h) (fun a => by first | rfl | simp only [seinekeep_SizeE, evk, chks]) fun y15 hy15 => ?_
    try simp only [seinekeep_SizeE, evs, tys]
    exact Imp.some (StepR.next ⟨by first | rfl | simp only [evs, tys, evl], rfl⟩)
  · exact Imp.some (StepR.brk ⟨i_9, by first | rfl | simp only [evs, tys, evl, elim_inl, elim_inr]⟩)
theorem seinelaw8_lightParams_imp (l0 : List GParam) : Imp (seinelaw8_lightParams_B l0) (seinelaw8_lightParams_T1 O loopLim l0) (fun r v => v = (seinelaw8_lightParamsE r, [])) := by
  simp only [seinelaw8_lightParams_B, seinelaw8_lightParams_T1]
  try simp only [evs, tys]
  refine Imp.bnd (Imp.loop (seinelaw8_lightParams_l1_ok l0) ⟨by first | rfl | simp only [evs, tys, evl], rfl⟩) ?_
  rintro n_16 vy18 hy18
  obtain ⟨i_17, rfl⟩ := hy18
  refine Imp.exHit rfl (Imp.chk rfl (Imp.chk rfl ?_))
  try simp only [evs, tys]
  exact Imp.some (by first | rfl | simp only [seinelaw8_lightParamsE, evs, tys, evl])
theorem seinelaw8_lightParams_run {l0 : List GParam} {r : Int} (h : seinelaw8_lightParams_B l0 = some r) : seinelaw8_lightParams l0 = some r := by
  obtain ⟨v, hv, rfl⟩ := seinelaw8_lightParams_imp l0 r h
  exact tO_of (pair_inj seinelaw8_lightParamsEj) (OL_runD seinelaw8_lightParams_ds rfl rfl Try.func34 ((seinelaw8_lightParams_t1 _ _ l0).trans hv))

def seinelaw8_lightDirs_l1 (O : Orc) (LP : LBody → LBody) : LBody := fun s1 s1u => cnd (chkL [(.sl false), (.int .i64), (.int .i64)] s1) (cnd (chkU [] s1u)
  (cnd (decide ((intV (gt s1 2)) < (List.length (esV (gt s1 0)) : Int)))
   (bnd (ix 2 (.slice (esV (gt s1 0)) [] false) (.int .i64 (intV (gt s1 2)))) fun x10 => cnd (chk (.ref shDir) x10)
   (bnd (ix 2 (.slice (esV (gt s1 0)) [] false) (.int .i64 (intV (gt s1 2)))) fun x12 => cnd (chk (.ref shDir) x12)
   (callp O 20 [(.agg [(.int .i64 0), (.int .i64 0), (.str []), (.slice [] [] false), (.slice (esV (gt (aggV (refV x12)) 1)) [] false)])] fun x14 => cnd (chk (.int .i64) x14)
   (some (.nrm, [(.slice (esV (gt s1 0)) [] false), (.int .i64 (IntKind.wrap .i64 ((IntKind.wrap .i64 ((IntKind.wrap .i64 ((intV (gt s1 1)) + 1)) + (List.length (strV (gt (aggV (refV x10)) 0)) : Int))) + (intV x14)))), (.int .i64 (IntKind.wrap .i64 ((intV (gt s1 2)) + 1)))], [])) none) none) none)
   (some (.brk 0, [(.slice (esV (gt s1 0)) [] false), (.int .i64 (intV (gt s1 1))), (.int .i64 (intV (gt s1 2)))], []))) none) none
def seinelaw8_lightDirs_T1 (O : Orc) (LP : LBody → LBody) (l0 : List GDir) : Option (PV × UP) :=
  bnd (LP (seinelaw8_lightDirs_l1 O LP) [(.slice (List.map encDir l0) [] false), (.int .i64 0), (.int .i64 0)] []) fun y18 =>
  exIs y18.1 (some 0) (cnd (chkL [(.sl false), (.int .i64), (.int .i64)] y18.2.1) (cnd (chkU [] y18.2.2)
   (some ((.int .i64 (intV (gt y18.2.1 1))), [])) none) none)
  (none)
noncomputable def seinelaw8_lightDirs_l1T (l0 : List GDir) : (Int × Int) → Option ((Int × Int) ⊕ Int)
  | (n_8, i_9) =>
  cnd (decide (i_9 < (List.length l0 : Int)))
   (bnd (nthI l0 i_9) fun y11 =>
   bnd (nthI l0 i_9) fun y13 =>
   bnd (seinekeep_Size (GValue.mk 0 0 [] ([] : List GValue) y13.args)) fun y15 =>
   some (.inl ((IntKind.wrap .i64 ((IntKind.wrap .i64 ((IntKind.wrap .i64 (n_8 + 1)) + (List.length y11.name : Int))) + y15)), (IntKind.wrap .i64 (i_9 + 1)))))
   (some (.inr n_8))
abbrev seinelaw8_lightDirs_l1R (l0 : List GDir) (st : Int × Int) (l : List PV) (u : UP) : Prop := l = [(.slice (List.map encDir l0) [] false), (.int .i64 st.1), (.int .i64 st.2)] ∧ u = []
abbrev seinelaw8_lightDirs_l1X (l0 : List GDir) (p : Int) (r : Ex × List PV × UP) : Prop := (fun (p : Int) => ∃ (i_17 : Int), r = (Ex.brk 0, [(.slice (List.map encDir l0) [] false), (.int .i64 p), (.int .i64 i_17)], [])) p
noncomputable def seinelaw8_lightDirs_B (l0 : List GDir) : Option Int :=
  bnd (tloop (seinelaw8_lightDirs_l1T l0) (0, 0)) fun n_16 =>
  some n_16
def seinelaw8_lightDirs_ds : Decs := { decs := [(15, (.ref shDir)), (22, (.ref shDir)), (26, (.int .i64))], ups := [], loops := [(3, [], ⟨[(.sl false), (.int .i64), (.int .i64)], [], [(some 0, [(.sl false), (.int .i64), (.int .i64)], [])]⟩)] }
set_option maxRecDepth 100000 in
theorem seinelaw8_lightDirs_t1 (O : Orc) (LP : LBody → LBody) (l0 : List GDir) : evalBodyD Try.prog (MT 35) seinelaw8_lightDirs_ds Try.f35.ntmps O LP Try.f35 [(.slice (List.map encDir l0) [] false)] [] = seinelaw8_lightDirs_T1 O LP l0 := by kernel_rfl
theorem seinelaw8_lightDirs_l1_ok (l0 : List GDir) : ∀ st l u, seinelaw8_lightDirs_l1R l0 st l u → Imp (seinelaw8_lightDirs_l1T l0 st) (seinelaw8_lightDirs_l1 O loopLim l u) (StepR (seinelaw8_lightDirs_l1R l0) (seinelaw8_lightDirs_l1X l0)) := by
  rintro ⟨n_8, i_9⟩ l u ⟨rfl, rfl⟩
  simp only [seinelaw8_lightDirs_l1T, seinelaw8_lightDirs_l1]
  refine Imp.chk rfl (Imp.chk rfl ?_)
  try simp only [evs, tys]
  refine Imp.cnd ?_ ?_
  · refine Imp.op (f := fun a => .ref (encDir a)) (fun a h => op_ix (enc := encDir) (by first | rfl | simp only [evs, tys, evl]) ⟨by first | rfl | simp only [evs, tys, evc], by decide⟩ h) (fun a => chk_GDir a) fun y11 hy11 => ?_
    try simp only [evs, tys]
    refine Imp.op (f := fun a => .ref (encDir a)) (fun a h => op_ix (enc := encDir) (by first | rfl | simp only [evs, tys, evl]) ⟨by first | rfl | simp only [evs, tys, evc], by decide⟩ h) (fun a => chk_GDir a) fun y13 hy13 => ?_
    try simp only [evs, tys]
    refine Imp.call (f := seinekeep_SizeE) rfl (fun a h => by first | exact seinekeep_Size_spec h | simpa only [evs, tys, evl] using seinekeep_Size_spec h) (fun a => by first | rfl | simp only [seinekeep_SizeE, evk, chks]) fun y15 hy15 => ?_
    try simp only [seinekeep_SizeE, evs, tys]
    exact Imp.some (StepR.next ⟨by first | rfl | simp only [evs, tys, evl], rfl⟩)
  · exact Imp.some (StepR.brk ⟨i_9, by first | rfl | simp only [evs, tys, evl, elim_inl, elim_inr]⟩)
theorem seinelaw8_lightDirs_imp (l0 : List GDir) : Imp (seinelaw8_lightDirs_B l0) (seinelaw8_lightDirs_T1 O loopLim l0) (fun r v => v = (seinelaw8_lightDirsE r, [])) := by
  simp only [seinelaw8_lightDirs_B, seinelaw8_lightDirs_T1]
  try simp only [evs, tys]
  refine Imp.bnd (Imp.loop (seinelaw8_lightDirs_l1_ok l0) ⟨by first | rfl | simp only [evs, tys, evl], rfl⟩) ?_
  rintro n_16 vy18 hy18
  obtain ⟨i_17, rfl⟩ := hy18
  refine Imp.exHit rfl (Imp.chk rfl (Imp.chk rfl ?_))
  try simp only [evs, tys]
  exact Imp.some (by first | rfl | simp only [seinelaw8_lightDirsE, evs, tys, evl])
theorem seinelaw8_lightDirs_run {l0 : List GDir} {r : Int} (h : seinelaw8_lightDirs_B l0 = some r) : seinelaw8_lightDirs l0 = some r := by
  obtain ⟨v, hv, rfl⟩ := seinelaw8_lightDirs_imp l0 r h
  exact tO_of (pair_inj seinelaw8_lightDirsEj) (OL_runD seinelaw8_lightDirs_ds rfl rfl Try.func35 ((seinelaw8_lightDirs_t1 _ _ l0).trans hv))

def wrap_Right_T1 (O : Orc) (LP : LBody → LBody) (t : GType) : Option (PV × UP) :=
  callp O 41 [(.str t.name)] fun x1 => cnd (chk .bool x1)
  (cnd (boolV x1)
   (cnd (decide (t.lists ≥ 0))
    (cnd (decide (t.lists ≤ 4))
     (cnd (decide (t.musts ≥ 0))
      (bnd (bin .shr (.int .i64 t.musts) (.int .i64 (IntKind.wrap .i64 (t.lists + 1)))) fun x3 => cnd (chk (.int .i64) x3)
      (some ((.bool ((intV x3) == 0)), [])) none)
      (some ((.bool false), [])))
     (some ((.bool false), [])))
    (some ((.bool false), [])))
   (some ((.bool false), []))) none
noncomputable def wrap_Right_B (t : GType) : Option Bool :=
  bnd (letters_Name t.name) fun y2 =>
  cnd y2
   (cnd (decide (t.lists ≥ 0))
    (cnd (decide (t.lists ≤ 4))
     (cnd (decide (t.musts ≥ 0))
      (bnd (tshr .i64 t.musts (IntKind.wrap .i64 (t.lists + 1))) fun y4 =>
      some (y4 == 0))
      (some false))
     (some false))
    (some false))
   (some false)
def wrap_Right_ds : Decs := { decs := [(5, .bool), (27, (.int .i64))], ups := [], loops := [] }
set_option maxRecDepth 100000 in
theorem wrap_Right_t1 (O : Orc) (LP : LBody → LBody) (t : GType) : evalBodyD Try.prog (MT 31) wrap_Right_ds Try.f31.ntmps O LP Try.f31 [(.agg [(.str t.name), (.int .i64 t.lists), (.int .i64 t.musts)])] [] = wrap_Right_T1 O LP t := by kernel_rfl
theorem wrap_Right_imp (t : GType) : Imp (wrap_Right_B t) (wrap_Right_T1 O loopLim t) (fun r v => v = (wrap_RightE r, [])) := by
  simp only [wrap_Right_B, wrap_Right_T1]
  try simp only [evs, tys]
  refine Imp.call (f := letters_NameE) rfl (fun a h => by first | exact letters_Name_spec h | simpa only [evs, tys, evl] using letters_Name_spec h) (fun a => by first | rfl | simp only [letters_NameE, evk, chks]) fun y2 hy2 => ?_
  try simp only [letters_NameE, evs, tys]
  refine Imp.cnd ?_ ?_
  · refine Imp.cnd ?_ ?_
    · refine Imp.cnd ?_ ?_
      · refine Imp.cnd ?_ ?_
        · refine Imp.op (f := fun a => .int _ a) (fun a h => op_shr h) (fun a => rfl) fun y4 hy4 => ?_
          try simp only [evs, tys]
          exact Imp.some (by first | rfl | simp only [wrap_RightE, evs, tys, evl])
        · exact Imp.some (by first | rfl | simp only [wrap_RightE, evs, tys, evl])
      · exact Imp.some (by first | rfl | simp only [wrap_RightE, evs, tys, evl])
    · exact Imp.some (by first | rfl | simp only [wrap_RightE, evs, tys, evl])
  · exact Imp.some (by first | rfl | simp only [wrap_RightE, evs, tys, evl])
theorem wrap_Right_run {t : GType} {r : Bool} (h : wrap_Right_B t = some r) : wrap_Right t = some r := by
  obtain ⟨v, hv, rfl⟩ := wrap_Right_imp t r h
  exact tO_of (pair_inj wrap_RightEj) (OL_runD wrap_Right_ds rfl rfl Try.func31 ((wrap_Right_t1 _ _ t).trans hv))
end Go.Proofs.Yteiccdhdfcbokaa

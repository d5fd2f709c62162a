import Derived.Test.YtdnghbdhbahmeaaGa
import Derived.Shelf.Strings.Repeat
import Derived.WalkKit
import Derived.KernelRfl
set_option linter.unusedVariables false
set_option linter.unusedSimpArgs false
/- Printed by symgen.py: typed functions of this seat, and why they tell what the program does. -/
set_option linter.unusedVariables false
set_option linter.unusedSimpArgs false
open Go Go.Ev Go.Ev.PV
namespace Go.Proofs.Ytdnghbdhbahmeaa
def seinelaw4_WrapBack_T1 (O : Orc) (LP : LBody → LBody) (t : GType) (s : Str) : Option (PV × UP) :=
  cnd (decide ((List.length t.name : Int) > 2000))
   (callp O 8 [] fun x1 => cnd (chk .bool x1)
   (some ((.bool (boolV x1)), [])) none)
   (cnd (decide ((List.length s : Int) > 2000))
    (callp O 8 [] fun x3 => cnd (chk .bool x3)
    (some ((.bool (boolV x3)), [])) none)
    (callp O 9 [(.agg [(.str t.name), (.int .i64 t.lists), (.int .i64 t.musts)])] fun x5 => cnd (chk (.tup [.str, .bool]) x5)
    (callp O 10 [(.str (strV (gt (tupV x5) 0)))] fun x7 => cnd (chk (.tup [shType, .bool]) x7)
    (callp O 11 [(.agg [(.str t.name), (.int .i64 t.lists), (.int .i64 t.musts)])] fun x9 => cnd (chk .bool x9)
    (cnd (!((boolV (gt (tupV x5) 1)) == (boolV x9)))
     (some ((.bool false), []))
     (cnd (boolV (gt (tupV x5) 1))
      (cnd (!(boolV (gt (tupV x7) 1)))
       (some ((.bool false), []))
       (cnd (!(((strV (gt (aggV (gt (tupV x7) 0)) 0)) == t.name) && (((intV (gt (aggV (gt (tupV x7) 0)) 1)) == t.lists) && (((intV (gt (aggV (gt (tupV x7) 0)) 2)) == t.musts) && true))))
        (some ((.bool false), []))
        (cnd (!(boolV (gt (tupV x5) 1)))
         (cnd (!((strV (gt (tupV x5) 0)) == ([] : Str)))
          (some ((.bool false), []))
          (callp O 10 [(.str s)] fun x11 => cnd (chk (.tup [shType, .bool]) x11)
          (cnd (!(boolV (gt (tupV x11) 1)))
           (cnd (((strV (gt (aggV (gt (tupV x11) 0)) 0)) == []) && (((intV (gt (aggV (gt (tupV x11) 0)) 1)) == 0) && (((intV (gt (aggV (gt (tupV x11) 0)) 2)) == 0) && true)))
            (callp O 8 [] fun x13 => cnd (chk .bool x13)
            (some ((.bool (boolV x13)), [])) none)
            (some ((.bool false), [])))
           (callp O 9 [(.agg [(.str (strV (gt (aggV (gt (tupV x11) 0)) 0))), (.int .i64 (intV (gt (aggV (gt (tupV x11) 0)) 1))), (.int .i64 (intV (gt (aggV (gt (tupV x11) 0)) 2)))])] fun x15 => cnd (chk (.tup [.str, .bool]) x15)
           (cnd (boolV (gt (tupV x15) 1))
            (cnd ((strV (gt (tupV x15) 0)) == s)
             (callp O 8 [] fun x17 => cnd (chk .bool x17)
             (some ((.bool (boolV x17)), [])) none)
             (some ((.bool false), [])))
            (some ((.bool false), []))) none)) none))
         (callp O 10 [(.str s)] fun x19 => cnd (chk (.tup [shType, .bool]) x19)
         (cnd (!(boolV (gt (tupV x19) 1)))
          (cnd (((strV (gt (aggV (gt (tupV x19) 0)) 0)) == []) && (((intV (gt (aggV (gt (tupV x19) 0)) 1)) == 0) && (((intV (gt (aggV (gt (tupV x19) 0)) 2)) == 0) && true)))
           (callp O 8 [] fun x21 => cnd (chk .bool x21)
           (some ((.bool (boolV x21)), [])) none)
           (some ((.bool false), [])))
          (callp O 9 [(.agg [(.str (strV (gt (aggV (gt (tupV x19) 0)) 0))), (.int .i64 (intV (gt (aggV (gt (tupV x19) 0)) 1))), (.int .i64 (intV (gt (aggV (gt (tupV x19) 0)) 2)))])] fun x23 => cnd (chk (.tup [.str, .bool]) x23)
          (cnd (boolV (gt (tupV x23) 1))
           (cnd ((strV (gt (tupV x23) 0)) == s)
            (callp O 8 [] fun x25 => cnd (chk .bool x25)
            (some ((.bool (boolV x25)), [])) none)
            (some ((.bool false), [])))
           (some ((.bool false), []))) none)) none))))
      (cnd (!(boolV (gt (tupV x5) 1)))
       (cnd (!((strV (gt (tupV x5) 0)) == ([] : Str)))
        (some ((.bool false), []))
        (callp O 10 [(.str s)] fun x27 => cnd (chk (.tup [shType, .bool]) x27)
        (cnd (!(boolV (gt (tupV x27) 1)))
         (cnd (((strV (gt (aggV (gt (tupV x27) 0)) 0)) == []) && (((intV (gt (aggV (gt (tupV x27) 0)) 1)) == 0) && (((intV (gt (aggV (gt (tupV x27) 0)) 2)) == 0) && true)))
          (callp O 8 [] fun x29 => cnd (chk .bool x29)
          (some ((.bool (boolV x29)), [])) none)
          (some ((.bool false), [])))
         (callp O 9 [(.agg [(.str (strV (gt (aggV (gt (tupV x27) 0)) 0))), (.int .i64 (intV (gt (aggV (gt (tupV x27) 0)) 1))), (.int .i64 (intV (gt (aggV (gt (tupV x27) 0)) 2)))])] fun x31 => cnd (chk (.tup [.str, .bool]) x31)
         (cnd (boolV (gt (tupV x31) 1))
          (cnd ((strV (gt (tupV x31) 0)) == s)
           (callp O 8 [] fun x33 => cnd (chk .bool x33)
           (some ((.bool (boolV x33)), [])) none)
           (some ((.bool false), [])))
          (some ((.bool false), []))) none)) none))
       (callp O 10 [(.str s)] fun x35 => cnd (chk (.tup [shType, .bool]) x35)
       (cnd (!(boolV (gt (tupV x35) 1)))
        (cnd (((strV (gt (aggV (gt (tupV x35) 0)) 0)) == []) && (((intV (gt (aggV (gt (tupV x35) 0)) 1)) == 0) && (((intV (gt (aggV (gt (tupV x35) 0)) 2)) == 0) && true)))
         (callp O 8 [] fun x37 => cnd (chk .bool x37)
         (some ((.bool (boolV x37)), [])) none)
         (some ((.bool false), [])))
        (callp O 9 [(.agg [(.str (strV (gt (aggV (gt (tupV x35) 0)) 0))), (.int .i64 (intV (gt (aggV (gt (tupV x35) 0)) 1))), (.int .i64 (intV (gt (aggV (gt (tupV x35) 0)) 2)))])] fun x39 => cnd (chk (.tup [.str, .bool]) x39)
        (cnd (boolV (gt (tupV x39) 1))
         (cnd ((strV (gt (tupV x39) 0)) == s)
          (callp O 8 [] fun x41 => cnd (chk .bool x41)
          (some ((.bool (boolV x41)), [])) none)
          (some ((.bool false), [])))
         (some ((.bool false), []))) none)) none)))) none) none) none))
noncomputable def seinelaw4_WrapBack_B (t : GType) (s : Str) : Option Bool :=
  cnd (decide ((List.length t.name : Int) > 2000))
   (bnd (seinelaw4_awake) fun y2 =>
   some y2)
   (cnd (decide ((List.length s : Int) > 2000))
    (bnd (seinelaw4_awake) fun y4 =>
    some y4)
    (bnd (wrap_Print t) fun y6 =>
    bnd (wrap_Read y6.1) fun y8 =>
    bnd (wrap_Right t) fun y10 =>
    cnd (!(y6.2 == y10))
     (some false)
     (cnd y6.2
      (cnd (!y8.2)
       (some false)
       (cnd (!((y8.1.name == t.name) && ((y8.1.lists == t.lists) && ((y8.1.musts == t.musts) && true))))
        (some false)
        (cnd (!y6.2)
         (cnd (!(y6.1 == ([] : Str)))
          (some false)
          (bnd (wrap_Read s) fun y12 =>
          cnd (!y12.2)
           (cnd ((y12.1.name == []) && ((y12.1.lists == 0) && ((y12.1.musts == 0) && true)))
            (bnd (seinelaw4_awake) fun y14 =>
            some y14)
            (some false))
           (bnd (wrap_Print y12.1) fun y16 =>
           cnd y16.2
            (cnd (y16.1 == s)
             (bnd (seinelaw4_awake) fun y18 =>
             some y18)
             (some false))
            (some false))))
         (bnd (wrap_Read s) fun y20 =>
         cnd (!y20.2)
          (cnd ((y20.1.name == []) && ((y20.1.lists == 0) && ((y20.1.musts == 0) && true)))
           (bnd (seinelaw4_awake) fun y22 =>
           some y22)
           (some false))
          (bnd (wrap_Print y20.1) fun y24 =>
          cnd y24.2
           (cnd (y24.1 == s)
            (bnd (seinelaw4_awake) fun y26 =>
            some y26)
            (some false))
           (some false))))))
      (cnd (!y6.2)
       (cnd (!(y6.1 == ([] : Str)))
        (some false)
        (bnd (wrap_Read s) fun y28 =>
        cnd (!y28.2)
         (cnd ((y28.1.name == []) && ((y28.1.lists == 0) && ((y28.1.musts == 0) && true)))
          (bnd (seinelaw4_awake) fun y30 =>
          some y30)
          (some false))
         (bnd (wrap_Print y28.1) fun y32 =>
         cnd y32.2
          (cnd (y32.1 == s)
           (bnd (seinelaw4_awake) fun y34 =>
           some y34)
           (some false))
          (some false))))
       (bnd (wrap_Read s) fun y36 =>
       cnd (!y36.2)
        (cnd ((y36.1.name == []) && ((y36.1.lists == 0) && ((y36.1.musts == 0) && true)))
         (bnd (seinelaw4_awake) fun y38 =>
         some y38)
         (some false))
        (bnd (wrap_Print y36.1) fun y40 =>
        cnd y40.2
         (cnd (y40.1 == s)
          (bnd (seinelaw4_awake) fun y42 =>
          some y42)
          (some false))
         (some false)))))))
def seinelaw4_WrapBack_ds : Decs := { decs := [(18, .bool), (21, (.tup [.str, .bool])), (26, (.tup [shType, .bool])), (31, .bool), (55, (.tup [shType, .bool])), (64, .bool), (68, (.tup [.str, .bool])), (78, .bool)], ups := [], loops := [] }
set_option maxRecDepth 100000 in
theorem seinelaw4_WrapBack_t1 (O : Orc) (LP : LBody → LBody) (t : GType) (s : Str) : evalBodyD Try.prog (MT 3) seinelaw4_WrapBack_ds Try.f3.ntmps O LP Try.f3 [(.agg [(.str t.name), (.int .i64 t.lists), (.int .i64 t.musts)]), (.str s)] [] = seinelaw4_WrapBack_T1 O LP t s := by kernel_rfl
theorem seinelaw4_WrapBack_imp (t : GType) (s : Str) : Imp (seinelaw4_WrapBack_B t s) (seinelaw4_WrapBack_T1 O loopLim t s) (fun r v => v = (seinelaw4_WrapBackE r, [])) := by
  simp only [seinelaw4_WrapBack_B, seinelaw4_WrapBack_T1]
  try simp only [evs, tys]
  refine Imp.cnd ?_ ?_
  · refine Imp.call (f := seinelaw4_awakeE) rfl (fun a h => by first | exact seinelaw4_awake_spec h | simpa only [evs, tys, evl] using seinelaw4_awake_spec h) (fun a => by first | rfl | simp only [seinelaw4_awakeE, evk, chks]) fun y2 hy2 => ?_
    try simp only [seinelaw4_awakeE, evs, tys]
    exact Imp.some (by first | rfl | simp only [seinelaw4_WrapBackE, evs, tys, evl])
  · refine Imp.cnd ?_ ?_
    · refine Imp.call (f := seinelaw4_awakeE) rfl (fun a h => by first | exact seinelaw4_awake_spec h | simpa only [evs, tys, evl] using seinelaw4_awake_spec h) (fun a => by first | rfl | simp only [seinelaw4_awakeE, evk, chks]) fun y4 hy4 => ?_
      try simp only [seinelaw4_awakeE, evs, tys]
      exact Imp.some (by first | rfl | simp only [seinelaw4_WrapBackE, evs, tys, evl])
    · refine Imp.call (f := wrap_PrintE) rfl (fun a h => by first | exact wrap_Print_spec h | simpa only [evs, tys, evl] using wrap_Print_spec h) (fun a => by first | rfl | simp only [wrap_PrintE, evk, chks]) fun y6 hy6 => ?_
      try simp only [wrap_PrintE, evs, tys]
      refine Imp.call (f := wrap_ReadE) rfl (fun a h => by first | exact wrap_Read_spec h | simpa only [evs, tys, evl] using wrap_Read_spec h) (fun a => by first | rfl | simp only [wrap_ReadE, evk, chks]) fun y8 hy8 => ?_
      try simp only [wrap_ReadE, evs, tys]
      refine Imp.call (f := wrap_RightE) rfl (fun a h => by first | exact wrap_Right_spec h | simpa only [evs, tys, evl] using wrap_Right_spec h) (fun a => by first | rfl | simp only [wrap_RightE, evk, chks]) fun y10 hy10 => ?_
      try simp only [wrap_RightE, evs, tys]
      refine Imp.cnd ?_ ?_
      · exact Imp.some (by first | rfl | simp only [seinelaw4_WrapBackE, evs, tys, evl])
      · refine Imp.cnd ?_ ?_
        · refine Imp.cnd ?_ ?_
          · exact Imp.some (by first | rfl | simp only [seinelaw4_WrapBackE, evs, tys, evl])
          · refine Imp.cnd ?_ ?_
            · exact Imp.some (by first | rfl | simp only [seinelaw4_WrapBackE, evs, tys, evl])
            · refine Imp.cnd ?_ ?_
              · refine Imp.cnd ?_ ?_
                · exact Imp.some (by first | rfl | simp only [seinelaw4_WrapBackE, evs, tys, evl])
                · refine Imp.call (f := wrap_ReadE) rfl (fun a h => by first | exact wrap_Read_spec h | simpa only [evs, tys, evl] using wrap_Read_spec h) (fun a => by first | rfl | simp only [wrap_ReadE, evk, chks]) fun y12 hy12 => ?_
                  try simp only [wrap_ReadE, evs, tys]
                  refine Imp.cnd ?_ ?_
                  · refine Imp.cnd ?_ ?_
                    · refine Imp.call (f := seinelaw4_awakeE) rfl (fun a h => by first | exact seinelaw4_awake_spec h | simpa only [evs, tys, evl] using seinelaw4_awake_spec h) (fun a => by first | rfl | simp only [seinelaw4_awakeE, evk, chks]) fun y14 hy14 => ?_
                      try simp only [seinelaw4_awakeE, evs, tys]
                      exact Imp.some (by first | rfl | simp only [seinelaw4_WrapBackE, evs, tys, evl])
                    · exact Imp.some (by first | rfl | simp only [seinelaw4_WrapBackE, evs, tys, evl])
                  · refine Imp.call (f := wrap_PrintE) rfl (fun a h => by first | exact wrap_Print_spec h | simpa only [evs, tys, evl] using wrap_Print_spec h) (fun a => by first | rfl | simp only [wrap_PrintE, evk, chks]) fun y16 hy16 => ?_
                    try simp only [wrap_PrintE, evs, tys]
                    refine Imp.cnd ?_ ?_
                    · refine Imp.cnd ?_ ?_
                      · refine Imp.call (f := seinelaw4_awakeE) rfl (fun a h => by first | exact seinelaw4_awake_spec h | simpa only [evs, tys, evl] using seinelaw4_awake_spec h) (fun a => by first | rfl | simp only [seinelaw4_awakeE, evk, chks]) fun y18 hy18 => ?_
                        try simp only [seinelaw4_awakeE, evs, tys]
                        exact Imp.some (by first | rfl | simp only [seinelaw4_WrapBackE, evs, tys, evl])
                      · exact Imp.some (by first | rfl | simp only [seinelaw4_WrapBackE, evs, tys, evl])
                    · exact Imp.some (by first | rfl | simp only [seinelaw4_WrapBackE, evs, tys, evl])
              · refine Imp.call (f := wrap_ReadE) rfl (fun a h => by first | exact wrap_Read_spec h | simpa only [evs, tys, evl] using wrap_Read_spec h) (fun a => by first | rfl | simp only [wrap_ReadE, evk, chks]) fun y20 hy20 => ?_
                try simp only [wrap_ReadE, evs, tys]
                refine Imp.cnd ?_ ?_
                · refine Imp.cnd ?_ ?_
                  · refine Imp.call (f := seinelaw4_awakeE) rfl (fun a h => by first | exact seinelaw4_awake_spec h | simpa only [evs, tys, evl] using seinelaw4_awake_spec h) (fun a => by first | rfl | simp only [seinelaw4_awakeE, evk, chks]) fun y22 hy22 => ?_
                    try simp only [seinelaw4_awakeE, evs, tys]
                    exact Imp.some (by first | rfl | simp only [seinelaw4_WrapBackE, evs, tys, evl])
                  · exact Imp.some (by first | rfl | simp only [seinelaw4_WrapBackE, evs, tys, evl])
                · refine Imp.call (f := wrap_PrintE) rfl (fun a h => by first | exact wrap_Print_spec h | simpa only [evs, tys, evl] using wrap_Print_spec h) (fun a => by first | rfl | simp only [wrap_PrintE, evk, chks]) fun y24 hy24 => ?_
                  try simp only [wrap_PrintE, evs, tys]
                  refine Imp.cnd ?_ ?_
                  · refine Imp.cnd ?_ ?_
                    · refine Imp.call (f := seinelaw4_awakeE) rfl (fun a h => by first | exact seinelaw4_awake_spec h | simpa only [evs, tys, evl] using seinelaw4_awake_spec h) (fun a => by first | rfl | simp only [seinelaw4_awakeE, evk, chks]) fun y26 hy26 => ?_
                      try simp only [seinelaw4_awakeE, evs, tys]
                      exact Imp.some (by first | rfl | simp only [seinelaw4_WrapBackE, evs, tys, evl])
                    · exact Imp.some (by first | rfl | simp only [seinelaw4_WrapBackE, evs, tys, evl])
                  · exact Imp.some (by first | rfl | simp only [seinelaw4_WrapBackE, evs, tys, evl])
        · refine Imp.cnd ?_ ?_
          · refine Imp.cnd ?_ ?_
            · exact Imp.some (by first | rfl | simp only [seinelaw4_WrapBackE, evs, tys, evl])
            · refine Imp.call (f := wrap_ReadE) rfl (fun a h => by first | exact wrap_Read_spec h | simpa only [evs, tys, evl] using wrap_Read_spec h) (fun a => by first | rfl | simp only [wrap_ReadE, evk, chks]) fun y28 hy28 => ?_
              try simp only [wrap_ReadE, evs, tys]
              refine Imp.cnd ?_ ?_
              · refine Imp.cnd ?_ ?_
                · refine Imp.call (f := seinelaw4_awakeE) rfl (fun a h => by first | exact seinelaw4_awake_spec h | simpa only [evs, tys, evl] using seinelaw4_awake_spec h) (fun a => by first | rfl | simp only [seinelaw4_awakeE, evk, chks]) fun y30 hy30 => ?_
                  try simp only [seinelaw4_awakeE, evs, tys]
                  exact Imp.some (by first | rfl | simp only [seinelaw4_WrapBackE, evs, tys, evl])
                · exact Imp.some (by first | rfl | simp only [seinelaw4_WrapBackE, evs, tys, evl])
              · refine Imp.call (f := wrap_PrintE) rfl (fun a h => by first | exact wrap_Print_spec h | simpa only [evs, tys, evl] using wrap_Print_spec h) (fun a => by first | rfl | simp only [wrap_PrintE, evk, chks]) fun y32 hy32 => ?_
                try simp only [wrap_PrintE, evs, tys]
                refine Imp.cnd ?_ ?_
                · refine Imp.cnd ?_ ?_
                  · refine Imp.call (f := seinelaw4_awakeE) rfl (fun a h => by first | exact seinelaw4_awake_spec h | simpa only [evs, tys, evl] using seinelaw4_awake_spec h) (fun a => by first | rfl | simp only [seinelaw4_awakeE, evk, chks]) fun y34 hy34 => ?_
                    try simp only [seinelaw4_awakeE, evs, tys]
                    exact Imp.some (by first | rfl | simp only [seinelaw4_WrapBackE, evs, tys, evl])
                  · exact Imp.some (by first | rfl | simp only [seinelaw4_WrapBackE, evs, tys, evl])
                · exact Imp.some (by first | rfl | simp only [seinelaw4_WrapBackE, evs, tys, evl])
          · refine Imp.call (f := wrap_ReadE) rfl (fun a h => by first | exact wrap_Read_spec h | simpa only [evs, tys, evl] using wrap_Read_spec h) (fun a => by first | rfl | simp only [wrap_ReadE, evk, chks]) fun y36 hy36 => ?_
            try simp only [wrap_ReadE, evs, tys]
            refine Imp.cnd ?_ ?_
            · refine Imp.cnd ?_ ?_
              · refine Imp.call (f := seinelaw4_awakeE) rfl (fun a h => by first | exact seinelaw4_awake_spec h | simpa only [evs, tys, evl] using seinelaw4_awake_spec h) (fun a => by first | rfl | simp only [seinelaw4_awakeE, evk, chks]) fun y38 hy38 => ?_
                try simp only [seinelaw4_awakeE, evs, tys]
                exact Imp.some (by first | rfl | simp only [seinelaw4_WrapBackE, evs, tys, evl])
              · exact Imp.some (by first | rfl | simp only [seinelaw4_WrapBackE, evs, tys, evl])
            · refine Imp.call (f := wrap_PrintE) rfl (fun a h => by first | exact wrap_Print_spec h | simpa only [evs, tys, evl] using wrap_Print_spec h) (fun a => by first | rfl | simp only [wrap_PrintE, evk, chks]) fun y40 hy40 => ?_
              try simp only [wrap_PrintE, evs, tys]
              refine Imp.cnd ?_ ?_
              · refine Imp.cnd ?_ ?_
                · refine Imp.call (f := seinelaw4_awakeE) rfl (fun a h => by first | exact seinelaw4_awake_spec h | simpa only [evs, tys, evl] using seinelaw4_awake_spec h) (fun a => by first | rfl | simp only [seinelaw4_awakeE, evk, chks]) fun y42 hy42 => ?_
                  try simp only [seinelaw4_awakeE, evs, tys]
                  exact Imp.some (by first | rfl | simp only [seinelaw4_WrapBackE, evs, tys, evl])
                · exact Imp.some (by first | rfl | simp only [seinelaw4_WrapBackE, evs, tys, evl])
              · exact Imp.some (by first | rfl | simp only [seinelaw4_WrapBackE, evs, tys, evl])
theorem seinelaw4_WrapBack_run {t : GType} {s : Str} {r : Bool} (h : seinelaw4_WrapBack_B t s = some r) : seinelaw4_WrapBack t s = some r := by
  obtain ⟨v, hv, rfl⟩ := seinelaw4_WrapBack_imp t s r h
  exact tO_of (pair_inj seinelaw4_WrapBackEj) (OL_runD seinelaw4_WrapBack_ds rfl rfl Try.func3 ((seinelaw4_WrapBack_t1 _ _ t s).trans hv))

def seinelaw4_WrapSubs_T1 (O : Orc) (LP : LBody → LBody) (a : GType) (b : GType) : Option (PV × UP) :=
  cnd (decide ((List.length a.name : Int) > 2000))
   (callp O 8 [] fun x1 => cnd (chk .bool x1)
   (some ((.bool (boolV x1)), [])) none)
   (cnd (decide ((List.length b.name : Int) > 2000))
    (callp O 8 [] fun x3 => cnd (chk .bool x3)
    (some ((.bool (boolV x3)), [])) none)
    (callp O 12 [(.agg [(.str a.name), (.int .i64 a.lists), (.int .i64 a.musts)]), (.agg [(.str b.name), (.int .i64 b.lists), (.int .i64 b.musts)])] fun x5 => cnd (chk .bool x5)
    (callp O 13 [(.agg [(.str a.name), (.int .i64 a.lists), (.int .i64 a.musts)]), (.agg [(.str b.name), (.int .i64 b.lists), (.int .i64 b.musts)])] fun x7 => cnd (chk .bool x7)
    (cnd ((boolV x5) == (boolV x7))
     (callp O 8 [] fun x9 => cnd (chk .bool x9)
     (some ((.bool (boolV x9)), [])) none)
     (some ((.bool false), []))) none) none))
noncomputable def seinelaw4_WrapSubs_B (a : GType) (b : GType) : Option Bool :=
  cnd (decide ((List.length a.name : Int) > 2000))
   (bnd (seinelaw4_awake) fun y2 =>
   some y2)
   (cnd (decide ((List.length b.name : Int) > 2000))
    (bnd (seinelaw4_awake) fun y4 =>
    some y4)
    (bnd (wrap_Sub a b) fun y6 =>
    bnd (seineref1_SubType a b) fun y8 =>
    cnd (y6 == y8)
     (bnd (seinelaw4_awake) fun y10 =>
     some y10)
     (some false)))
def seinelaw4_WrapSubs_ds : Decs := { decs := [(15, .bool), (18, .bool), (21, .bool), (24, .bool)], ups := [], loops := [] }
set_option maxRecDepth 100000 in
theorem seinelaw4_WrapSubs_t1 (O : Orc) (LP : LBody → LBody) (a : GType) (b : GType) : evalBodyD Try.prog (MT 4) seinelaw4_WrapSubs_ds Try.f4.ntmps O LP Try.f4 [(.agg [(.str a.name), (.int .i64 a.lists), (.int .i64 a.musts)]), (.agg [(.str b.name), (.int .i64 b.lists), (.int .i64 b.musts)])] [] = seinelaw4_WrapSubs_T1 O LP a b := by kernel_rfl
theorem seinelaw4_WrapSubs_imp (a : GType) (b : GType) : Imp (seinelaw4_WrapSubs_B a b) (seinelaw4_WrapSubs_T1 O loopLim a b) (fun r v => v = (seinelaw4_WrapSubsE r, [])) := by
  simp only [seinelaw4_WrapSubs_B, seinelaw4_WrapSubs_T1]
  try simp only [evs, tys]
  refine Imp.cnd ?_ ?_
  · refine Imp.call (f := seinelaw4_awakeE) rfl (fun a h => by first | exact seinelaw4_awake_spec h | simpa only [evs, tys, evl] using seinelaw4_awake_spec h) (fun a => by first | rfl | simp only [seinelaw4_awakeE, evk, chks]) fun y2 hy2 => ?_
    try simp only [seinelaw4_awakeE, evs, tys]
    exact Imp.some (by first | rfl | simp only [seinelaw4_WrapSubsE, evs, tys, evl])
  · refine Imp.cnd ?_ ?_
    · refine Imp.call (f := seinelaw4_awakeE) rfl (fun a h => by first | exact seinelaw4_awake_spec h | simpa only [evs, tys, evl] using seinelaw4_awake_spec h) (fun a => by first | rfl | simp only [seinelaw4_awakeE, evk, chks]) fun y4 hy4 => ?_
      try simp only [seinelaw4_awakeE, evs, tys]
      exact Imp.some (by first | rfl | simp only [seinelaw4_WrapSubsE, evs, tys, evl])
    · refine Imp.call (f := wrap_SubE) rfl (fun a h => by first | exact wrap_Sub_spec h | simpa only [evs, tys, evl] using wrap_Sub_spec h) (fun a => by first | rfl | simp only [wrap_SubE, evk, chks]) fun y6 hy6 => ?_
      try simp only [wrap_SubE, evs, tys]
      refine Imp.call (f := seineref1_SubTypeE) rfl (fun a h => by first | exact seineref1_SubType_spec h | simpa only [evs, tys, evl] using seineref1_SubType_spec h) (fun a => by first | rfl | simp only [seineref1_SubTypeE, evk, chks]) fun y8 hy8 => ?_
      try simp only [seineref1_SubTypeE, evs, tys]
      refine Imp.cnd ?_ ?_
      · refine Imp.call (f := seinelaw4_awakeE) rfl (fun a h => by first | exact seinelaw4_awake_spec h | simpa only [evs, tys, evl] using seinelaw4_awake_spec h) (fun a => by first | rfl | simp only [seinelaw4_awakeE, evk, chks]) fun y10 hy10 => ?_
        try simp only [seinelaw4_awakeE, evs, tys]
        exact Imp.some (by first | rfl | simp only [seinelaw4_WrapSubsE, evs, tys, evl])
      · exact Imp.some (by first | rfl | simp only [seinelaw4_WrapSubsE, evs, tys, evl])
theorem seinelaw4_WrapSubs_run {a : GType} {b : GType} {r : Bool} (h : seinelaw4_WrapSubs_B a b = some r) : seinelaw4_WrapSubs a b = some r := by
  obtain ⟨v, hv, rfl⟩ := seinelaw4_WrapSubs_imp a b r h
  exact tO_of (pair_inj seinelaw4_WrapSubsEj) (OL_runD seinelaw4_WrapSubs_ds rfl rfl Try.func4 ((seinelaw4_WrapSubs_t1 _ _ a b).trans hv))
end Go.Proofs.Ytdnghbdhbahmeaa

/- Printed by symgen.py: typed functions of this seat, and why they tell what the program does. -/
set_option linter.unusedVariables false
set_option linter.unusedSimpArgs false
open Go Go.Ev Go.Ev.PV
namespace Go.Proofs.Ytdnghbdhbahmeaa
def seinelaw4_WrapOrder_T1 (O : Orc) (LP : LBody → LBody) (a : GType) (b : GType) (c : GType) : Option (PV × UP) :=
  cnd (decide ((List.length a.name : Int) > 2000))
   (callp O 8 [] fun x1 => cnd (chk .bool x1)
   (some ((.bool (boolV x1)), [])) none)
   (cnd (decide ((List.length b.name : Int) > 2000))
    (callp O 8 [] fun x3 => cnd (chk .bool x3)
    (some ((.bool (boolV x3)), [])) none)
    (cnd (decide ((List.length c.name : Int) > 2000))
     (callp O 8 [] fun x5 => cnd (chk .bool x5)
     (some ((.bool (boolV x5)), [])) none)
     (callp O 12 [(.agg [(.str a.name), (.int .i64 a.lists), (.int .i64 a.musts)]), (.agg [(.str a.name), (.int .i64 a.lists), (.int .i64 a.musts)])] fun x7 => cnd (chk .bool x7)
     (callp O 11 [(.agg [(.str a.name), (.int .i64 a.lists), (.int .i64 a.musts)])] fun x9 => cnd (chk .bool x9)
     (cnd (!((boolV x7) == (boolV x9)))
      (some ((.bool false), []))
      (callp O 12 [(.agg [(.str a.name), (.int .i64 a.lists), (.int .i64 a.musts)]), (.agg [(.str b.name), (.int .i64 b.lists), (.int .i64 b.musts)])] fun x11 => cnd (chk .bool x11)
      (cnd (boolV x11)
       (callp O 12 [(.agg [(.str b.name), (.int .i64 b.lists), (.int .i64 b.musts)]), (.agg [(.str a.name), (.int .i64 a.lists), (.int .i64 a.musts)])] fun x13 => cnd (chk .bool x13)
       (cnd (boolV x13)
        (cnd (!((a.name == b.name) && ((a.lists == b.lists) && ((a.musts == b.musts) && true))))
         (some ((.bool false), []))
         (callp O 12 [(.agg [(.str a.name), (.int .i64 a.lists), (.int .i64 a.musts)]), (.agg [(.str b.name), (.int .i64 b.lists), (.int .i64 b.musts)])] fun x15 => cnd (chk .bool x15)
         (cnd (boolV x15)
          (callp O 12 [(.agg [(.str b.name), (.int .i64 b.lists), (.int .i64 b.musts)]), (.agg [(.str c.name), (.int .i64 c.lists), (.int .i64 c.musts)])] fun x17 => cnd (chk .bool x17)
          (cnd (boolV x17)
           (callp O 12 [(.agg [(.str a.name), (.int .i64 a.lists), (.int .i64 a.musts)]), (.agg [(.str c.name), (.int .i64 c.lists), (.int .i64 c.musts)])] fun x19 => cnd (chk .bool x19)
           (cnd (!(boolV x19))
            (some ((.bool false), []))
            (callp O 8 [] fun x21 => cnd (chk .bool x21)
            (some ((.bool (boolV x21)), [])) none)) none)
           (callp O 8 [] fun x23 => cnd (chk .bool x23)
           (some ((.bool (boolV x23)), [])) none)) none)
          (callp O 8 [] fun x25 => cnd (chk .bool x25)
          (some ((.bool (boolV x25)), [])) none)) none))
        (callp O 12 [(.agg [(.str a.name), (.int .i64 a.lists), (.int .i64 a.musts)]), (.agg [(.str b.name), (.int .i64 b.lists), (.int .i64 b.musts)])] fun x27 => cnd (chk .bool x27)
        (cnd (boolV x27)
         (callp O 12 [(.agg [(.str b.name), (.int .i64 b.lists), (.int .i64 b.musts)]), (.agg [(.str c.name), (.int .i64 c.lists), (.int .i64 c.musts)])] fun x29 => cnd (chk .bool x29)
         (cnd (boolV x29)
          (callp O 12 [(.agg [(.str a.name), (.int .i64 a.lists), (.int .i64 a.musts)]), (.agg [(.str c.name), (.int .i64 c.lists), (.int .i64 c.musts)])] fun x31 => cnd (chk .bool x31)
          (cnd (!(boolV x31))
           (some ((.bool false), []))
           (callp O 8 [] fun x33 => cnd (chk .bool x33)
           (some ((.bool (boolV x33)), [])) none)) none)
          (callp O 8 [] fun x35 => cnd (chk .bool x35)
          (some ((.bool (boolV x35)), [])) none)) none)
         (callp O 8 [] fun x37 => cnd (chk .bool x37)
         (some ((.bool (boolV x37)), [])) none)) none)) none)
       (callp O 12 [(.agg [(.str a.name), (.int .i64 a.lists), (.int .i64 a.musts)]), (.agg [(.str b.name), (.int .i64 b.lists), (.int .i64 b.musts)])] fun x39 => cnd (chk .bool x39)
       (cnd (boolV x39)
        (callp O 12 [(.agg [(.str b.name), (.int .i64 b.lists), (.int .i64 b.musts)]), (.agg [(.str c.name), (.int .i64 c.lists), (.int .i64 c.musts)])] fun x41 => cnd (chk .bool x41)
        (cnd (boolV x41)
         (callp O 12 [(.agg [(.str a.name), (.int .i64 a.lists), (.int .i64 a.musts)]), (.agg [(.str c.name), (.int .i64 c.lists), (.int .i64 c.musts)])] fun x43 => cnd (chk .bool x43)
         (cnd (!(boolV x43))
          (some ((.bool false), []))
          (callp O 8 [] fun x45 => cnd (chk .bool x45)
          (some ((.bool (boolV x45)), [])) none)) none)
         (callp O 8 [] fun x47 => cnd (chk .bool x47)
         (some ((.bool (boolV x47)), [])) none)) none)
        (callp O 8 [] fun x49 => cnd (chk .bool x49)
        (some ((.bool (boolV x49)), [])) none)) none)) none)) none) none)))
noncomputable def seinelaw4_WrapOrder_B (a : GType) (b : GType) (c : GType) : Option Bool :=
  cnd (decide ((List.length a.name : Int) > 2000))
   (bnd (seinelaw4_awake) fun y2 =>
   some y2)
   (cnd (decide ((List.length b.name : Int) > 2000))
    (bnd (seinelaw4_awake) fun y4 =>
    some y4)
    (cnd (decide ((List.length c.name : Int) > 2000))
     (bnd (seinelaw4_awake) fun y6 =>
     some y6)
     (bnd (wrap_Sub a a) fun y8 =>
     bnd (wrap_Right a) fun y10 =>
     cnd (!(y8 == y10))
      (some false)
      (bnd (wrap_Sub a b) fun y12 =>
      cnd y12
       (bnd (wrap_Sub b a) fun y14 =>
       cnd y14
        (cnd (!((a.name == b.name) && ((a.lists == b.lists) && ((a.musts == b.musts) && true))))
         (some false)
         (bnd (wrap_Sub a b) fun y16 =>
         cnd y16
          (bnd (wrap_Sub b c) fun y18 =>
          cnd y18
           (bnd (wrap_Sub a c) fun y20 =>
           cnd (!y20)
            (some false)
            (bnd (seinelaw4_awake) fun y22 =>
            some y22))
           (bnd (seinelaw4_awake) fun y24 =>
           some y24))
          (bnd (seinelaw4_awake) fun y26 =>
          some y26)))
        (bnd (wrap_Sub a b) fun y28 =>
        cnd y28
         (bnd (wrap_Sub b c) fun y30 =>
         cnd y30
          (bnd (wrap_Sub a c) fun y32 =>
          cnd (!y32)
           (some false)
           (bnd (seinelaw4_awake) fun y34 =>
           some y34))
          (bnd (seinelaw4_awake) fun y36 =>
          some y36))
         (bnd (seinelaw4_awake) fun y38 =>
         some y38)))
       (bnd (wrap_Sub a b) fun y40 =>
       cnd y40
        (bnd (wrap_Sub b c) fun y42 =>
        cnd y42
         (bnd (wrap_Sub a c) fun y44 =>
         cnd (!y44)
          (some false)
          (bnd (seinelaw4_awake) fun y46 =>
          some y46))
         (bnd (seinelaw4_awake) fun y48 =>
         some y48))
        (bnd (seinelaw4_awake) fun y50 =>
        some y50))))))
def seinelaw4_WrapOrder_ds : Decs := { decs := [(23, .bool), (26, .bool), (28, .bool), (33, .bool), (37, .bool), (48, .bool), (52, .bool), (57, .bool), (61, .bool)], ups := [], loops := [] }
set_option maxRecDepth 100000 in
theorem seinelaw4_WrapOrder_t1 (O : Orc) (LP : LBody → LBody) (a : GType) (b : GType) (c : GType) : evalBodyD Try.prog (MT 5) seinelaw4_WrapOrder_ds Try.f5.ntmps O LP Try.f5 [(.agg [(.str a.name), (.int .i64 a.lists), (.int .i64 a.musts)]), (.agg [(.str b.name), (.int .i64 b.lists), (.int .i64 b.musts)]), (.agg [(.str c.name), (.int .i64 c.lists), (.int .i64 c.musts)])] [] = seinelaw4_WrapOrder_T1 O LP a b c := by kernel_rfl
theorem seinelaw4_WrapOrder_imp (a : GType) (b : GType) (c : GType) : Imp (seinelaw4_WrapOrder_B a b c) (seinelaw4_WrapOrder_T1 O loopLim a b c) (fun r v => v = (seinelaw4_WrapOrderE r, [])) := by
  simp only [seinelaw4_WrapOrder_B, seinelaw4_WrapOrder_T1]
  try simp only [evs, tys]
  refine Imp.cnd ?_ ?_
  · refine Imp.call (f := seinelaw4_awakeE) rfl (fun a h => by first | exact seinelaw4_awake_spec h | simpa only [evs, tys, evl] using seinelaw4_awake_spec h) (fun a => by first | rfl | simp only [seinelaw4_awakeE, evk, chks]) fun y2 hy2 => ?_
    try simp only [seinelaw4_awakeE, evs, tys]
    exact Imp.some (by first | rfl | simp only [seinelaw4_WrapOrderE, evs, tys, evl])
  · refine Imp.cnd ?_ ?_
    · refine Imp.call (f := seinelaw4_awakeE) rfl (fun a h => by first | exact seinelaw4_awake_spec h | simpa only [evs, tys, evl] using seinelaw4_awake_spec h) (fun a => by first | rfl | simp only [seinelaw4_awakeE, evk, chks]) fun y4 hy4 => ?_
      try simp only [seinelaw4_awakeE, evs, tys]
      exact Imp.some (by first | rfl | simp only [seinelaw4_WrapOrderE, evs, tys, evl])
    · refine Imp.cnd ?_ ?_
      · refine Imp.call (f := seinelaw4_awakeE) rfl (fun a h => by first | exact seinelaw4_awake_spec h | simpa only [evs, tys, evl] using seinelaw4_awake_spec h) (fun a => by first | rfl | simp only [seinelaw4_awakeE, evk, chks]) fun y6 hy6 => ?_
        try simp only [seinelaw4_awakeE, evs, tys]
        exact Imp.some (by first | rfl | simp only [seinelaw4_WrapOrderE, evs, tys, evl])
      · refine Imp.call (f := wrap_SubE) rfl (fun a h => by first | exact wrap_Sub_spec h | simpa only [evs, tys, evl] using wrap_Sub_spec h) (fun a => by first | rfl | simp only [wrap_SubE, evk, chks]) fun y8 hy8 => ?_
        try simp only [wrap_SubE, evs, tys]
        refine Imp.call (f := wrap_RightE) rfl (fun a h => by first | exact wrap_Right_spec h | simpa only [evs, tys, evl] using wrap_Right_spec h) (fun a => by first | rfl | simp only [wrap_RightE, evk, chks]) fun y10 hy10 => ?_
        try simp only [wrap_RightE, evs, tys]
        refine Imp.cnd ?_ ?_
        · exact Imp.some (by first | rfl | simp only [seinelaw4_WrapOrderE, evs, tys, evl])
        · refine Imp.call (f := wrap_SubE) rfl (fun a h => by first | exact wrap_Sub_spec h | simpa only [evs, tys, evl] using wrap_Sub_spec h) (fun a => by first | rfl | simp only [wrap_SubE, evk, chks]) fun y12 hy12 => ?_
          try simp only [wrap_SubE, evs, tys]
          refine Imp.cnd ?_ ?_
          · refine Imp.call (f := wrap_SubE) rfl (fun a h => by first | exact wrap_Sub_spec h | simpa only [evs, tys, evl] using wrap_Sub_spec h) (fun a => by first | rfl | simp only [wrap_SubE, evk, chks]) fun y14 hy14 => ?_
            try simp only [wrap_SubE, evs, tys]
            refine Imp.cnd ?_ ?_
            · refine Imp.cnd ?_ ?_
              · exact Imp.some (by first | rfl | simp only [seinelaw4_WrapOrderE, evs, tys, evl])
              · refine Imp.call (f := wrap_SubE) rfl (fun a h => by first | exact wrap_Sub_spec h | simpa only [evs, tys, evl] using wrap_Sub_spec h) (fun a => by first | rfl | simp only [wrap_SubE, evk, chks]) fun y16 hy16 => ?_
                try simp only [wrap_SubE, evs, tys]
                refine Imp.cnd ?_ ?_
                · refine Imp.call (f := wrap_SubE) rfl (fun a h => by first | exact wrap_Sub_spec h | simpa only [evs, tys, evl] using wrap_Sub_spec h) (fun a => by first | rfl | simp only [wrap_SubE, evk, chks]) fun y18 hy18 => ?_
                  try simp only [wrap_SubE, evs, tys]
                  refine Imp.cnd ?_ ?_
                  · refine Imp.call (f := wrap_SubE) rfl (fun a h => by first | exact wrap_Sub_spec h | simpa only [evs, tys, evl] using wrap_Sub_spec h) (fun a => by first | rfl | simp only [wrap_SubE, evk, chks]) fun y20 hy20 => ?_
                    try simp only [wrap_SubE, evs, tys]
                    refine Imp.cnd ?_ ?_
                    · exact Imp.some (by first | rfl | simp only [seinelaw4_WrapOrderE, evs, tys, evl])
                    · refine Imp.call (f := seinelaw4_awakeE) rfl (fun a h => by first | exact seinelaw4_awake_spec h | simpa only [evs, tys, evl] using seinelaw4_awake_spec h) (fun a => by first | rfl | simp only [seinelaw4_awakeE, evk, chks]) fun y22 hy22 => ?_
                      try simp only [seinelaw4_awakeE, evs, tys]
                      exact Imp.some (by first | rfl | simp only [seinelaw4_WrapOrderE, evs, tys, evl])
                  · refine Imp.call (f := seinelaw4_awakeE) rfl (fun a h => by first | exact seinelaw4_awake_spec h | simpa only [evs, tys, evl] using seinelaw4_awake_spec h) (fun a => by first | rfl | simp only [seinelaw4_awakeE, evk, chks]) fun y24 hy24 => ?_
                    try simp only [seinelaw4_awakeE, evs, tys]
                    exact Imp.some (by first | rfl | simp only [seinelaw4_WrapOrderE, evs, tys, evl])
                · refine Imp.call (f := seinelaw4_awakeE) rfl (fun a h => by first | exact seinelaw4_awake_spec h | simpa only [evs, tys, evl] using seinelaw4_awake_spec h) (fun a => by first | rfl | simp only [seinelaw4_awakeE, evk, chks]) fun y26 hy26 => ?_
                  try simp only [seinelaw4_awakeE, evs, tys]
                  exact Imp.some (by first | rfl | simp only [seinelaw4_WrapOrderE, evs, tys, evl])
            · refine Imp.call (f := wrap_SubE) rfl (fun a h => by first | exact wrap_Sub_spec h | simpa only [evs, tys, evl] using wrap_Sub_spec h) (fun a => by first | rfl | simp only [wrap_SubE, evk, chks]) fun y28 hy28 => ?_
              try simp only [wrap_SubE, evs, tys]
              refine Imp.cnd ?_ ?_
              · refine Imp.call (f := wrap_SubE) rfl (fun a h => by first | exact wrap_Sub_spec h | simpa only [evs, tys, evl] using wrap_Sub_spec h) (fun a => by first | rfl | simp only [wrap_SubE, evk, chks]) fun y30 hy30 => ?_
                try simp only [wrap_SubE, evs, tys]
                refine Imp.cnd ?_ ?_
                · refine Imp.call (f := wrap_SubE) rfl (fun a h => by first | exact wrap_Sub_spec h | simpa only [evs, tys, evl] using wrap_Sub_spec h) (fun a => by first | rfl | simp only [wrap_SubE, evk, chks]) fun y32 hy32 => ?_
                  try simp only [wrap_SubE, evs, tys]
                  refine Imp.cnd ?_ ?_
                  · exact Imp.some (by first | rfl | simp only [seinelaw4_WrapOrderE, evs, tys, evl])
                  · refine Imp.call (f := seinelaw4_awakeE) rfl (fun a h => by first | exact seinelaw4_awake_spec h | simpa only [evs, tys, evl] using seinelaw4_awake_spec h) (fun a => by first | rfl | simp only [seinelaw4_awakeE, evk, chks]) fun y34 hy34 => ?_
                    try simp only [seinelaw4_awakeE, evs, tys]
                    exact Imp.some (by first | rfl | simp only [seinelaw4_WrapOrderE, evs, tys, evl])
                · refine Imp.call (f := seinelaw4_awakeE) rfl (fun a h => by first | exact seinelaw4_awake_spec h | simpa only [evs, tys, evl] using seinelaw4_awake_spec h) (fun a => by first | rfl | simp only [seinelaw4_awakeE, evk, chks]) fun y36 hy36 => ?_
                  try simp only [seinelaw4_awakeE, evs, tys]
                  exact Imp.some (by first | rfl | simp only [seinelaw4_WrapOrderE, evs, tys, evl])
              · refine Imp.call (f := seinelaw4_awakeE) rfl (fun a h => by first | exact seinelaw4_awake_spec h | simpa only [evs, tys, evl] using seinelaw4_awake_spec h) (fun a => by first | rfl | simp only [seinelaw4_awakeE, evk, chks]) fun y38 hy38 => ?_
                try simp only [seinelaw4_awakeE, evs, tys]
                exact Imp.some (by first | rfl | simp only [seinelaw4_WrapOrderE, evs, tys, evl])
          · refine Imp.call (f := wrap_SubE) rfl (fun a h => by first | exact wrap_Sub_spec h | simpa only [evs, tys, evl] using wrap_Sub_spec h) (fun a => by first | rfl | simp only [wrap_SubE, evk, chks]) fun y40 hy40 => ?_
            try simp only [wrap_SubE, evs, tys]
            refine Imp.cnd ?_ ?_
            · refine Imp.call (f := wrap_SubE) rfl (fun a h => by first | exact wrap_Sub_spec h | simpa only [evs, tys, evl] using wrap_Sub_spec h) (fun a => by first | rfl | simp only [wrap_SubE, evk, chks]) fun y42 hy42 => ?_
              try simp only [wrap_SubE, evs, tys]
              refine Imp.cnd ?_ ?_
              · refine Imp.call (f := wrap_SubE) rfl (fun a h => by first | exact wrap_Sub_spec h | simpa only [evs, tys, evl] using wrap_Sub_spec h) (fun a => by first | rfl | simp only [wrap_SubE, evk, chks]) fun y44 hy44 => ?_
                try simp only [wrap_SubE, evs, tys]
                refine Imp.cnd ?_ ?_
                · exact Imp.some (by first | rfl | simp only [seinelaw4_WrapOrderE, evs, tys, evl])
                · refine Imp.call (f := seinelaw4_awakeE) rfl (fun a h => by first | exact seinelaw4_awake_spec h | simpa only [evs, tys, evl] using seinelaw4_awake_spec h) (fun a => by first | rfl | simp only [seinelaw4_awakeE, evk, chks]) fun y46 hy46 => ?_
                  try simp only [seinelaw4_awakeE, evs, tys]
                  exact Imp.some (by first | rfl | simp only [seinelaw4_WrapOrderE, evs, tys, evl])
              · refine Imp.call (f := seinelaw4_awakeE) rfl (fun a h => by first | exact seinelaw4_awake_spec h | simpa only [evs, tys, evl] using seinelaw4_awake_spec h) (fun a => by first | rfl | simp only [seinelaw4_awakeE, evk, chks]) fun y48 hy48 => ?_
                try simp only [seinelaw4_awakeE, evs, tys]
                exact Imp.some (by first | rfl | simp only [seinelaw4_WrapOrderE, evs, tys, evl])
            · refine Imp.call (f := seinelaw4_awakeE) rfl (fun a h => by first | exact seinelaw4_awake_spec h | simpa only [evs, tys, evl] using seinelaw4_awake_spec h) (fun a => by first | rfl | simp only [seinelaw4_awakeE, evk, chks]) fun y50 hy50 => ?_
              try simp only [seinelaw4_awakeE, evs, tys]
              exact Imp.some (by first | rfl | simp only [seinelaw4_WrapOrderE, evs, tys, evl])
theorem seinelaw4_WrapOrder_run {a : GType} {b : GType} {c : GType} {r : Bool} (h : seinelaw4_WrapOrder_B a b c = some r) : seinelaw4_WrapOrder a b c = some r := by
  obtain ⟨v, hv, rfl⟩ := seinelaw4_WrapOrder_imp a b c r h
  exact tO_of (pair_inj seinelaw4_WrapOrderEj) (OL_runD seinelaw4_WrapOrder_ds rfl rfl Try.func5 ((seinelaw4_WrapOrder_t1 _ _ a b c).trans hv))
end Go.Proofs.Ytdnghbdhbahmeaa

/- Printed by symgen.py: typed functions of this seat, and why they tell what the program does. -/
set_option linter.unusedVariables false
set_option linter.unusedSimpArgs false
open Go Go.Ev Go.Ev.PV
namespace Go.Proofs.Ytdnghbdhbahmeaa
def seinelaw4_WrapItems_T1 (O : Orc) (LP : LBody → LBody) (t : GType) : Option (PV × UP) :=
  cnd (decide ((List.length t.name : Int) > 2000))
   (callp O 8 [] fun x1 => cnd (chk .bool x1)
   (some ((.bool (boolV x1)), [])) none)
   (callp O 14 [(.agg [(.str t.name), (.int .i64 t.lists), (.int .i64 t.musts)])] fun x3 => cnd (chk (.tup [shType, .bool]) x3)
   (callp O 11 [(.agg [(.str t.name), (.int .i64 t.lists), (.int .i64 t.musts)])] fun x5 => cnd (chk .bool x5)
   (cnd (boolV x5)
    (cnd (!((boolV (gt (tupV x3) 1)) == (decide (t.lists < 4))))
     (some ((.bool false), []))
     (callp O 15 [(.agg [(.str (strV (gt (aggV (gt (tupV x3) 0)) 0))), (.int .i64 (intV (gt (aggV (gt (tupV x3) 0)) 1))), (.int .i64 (intV (gt (aggV (gt (tupV x3) 0)) 2)))])] fun x7 => cnd (chk (.tup [shType, .bool]) x7)
     (cnd (boolV (gt (tupV x3) 1))
      (cnd (!(boolV (gt (tupV x7) 1)))
       (some ((.bool false), []))
       (cnd (!(((strV (gt (aggV (gt (tupV x7) 0)) 0)) == t.name) && (((intV (gt (aggV (gt (tupV x7) 0)) 1)) == t.lists) && (((intV (gt (aggV (gt (tupV x7) 0)) 2)) == t.musts) && true))))
        (some ((.bool false), []))
        (callp O 16 [(.agg [(.str (strV (gt (aggV (gt (tupV x3) 0)) 0))), (.int .i64 (intV (gt (aggV (gt (tupV x3) 0)) 1))), (.int .i64 (intV (gt (aggV (gt (tupV x3) 0)) 2)))])] fun x9 => cnd (chk .bool x9)
        (cnd (boolV x9)
         (some ((.bool false), []))
         (cnd ((intV (gt (aggV (gt (tupV x3) 0)) 1)) != (IntKind.wrap .i64 (t.lists + 1)))
          (some ((.bool false), []))
          (callp O 15 [(.agg [(.str t.name), (.int .i64 t.lists), (.int .i64 t.musts)])] fun x11 => cnd (chk (.tup [shType, .bool]) x11)
          (callp O 11 [(.agg [(.str t.name), (.int .i64 t.lists), (.int .i64 t.musts)])] fun x13 => cnd (chk .bool x13)
          (cnd (boolV x13)
           (cnd (!((boolV (gt (tupV x11) 1)) == (decide (t.lists > 0))))
            (some ((.bool false), []))
            (cnd (!(boolV (gt (tupV x11) 1)))
             (cnd (((strV (gt (aggV (gt (tupV x11) 0)) 0)) == []) && (((intV (gt (aggV (gt (tupV x11) 0)) 1)) == 0) && (((intV (gt (aggV (gt (tupV x11) 0)) 2)) == 0) && true)))
              (callp O 8 [] fun x15 => cnd (chk .bool x15)
              (some ((.bool (boolV x15)), [])) none)
              (some ((.bool false), [])))
             (callp O 14 [(.agg [(.str (strV (gt (aggV (gt (tupV x11) 0)) 0))), (.int .i64 (intV (gt (aggV (gt (tupV x11) 0)) 1))), (.int .i64 (intV (gt (aggV (gt (tupV x11) 0)) 2)))])] fun x17 => cnd (chk (.tup [shType, .bool]) x17)
             (cnd (boolV (gt (tupV x17) 1))
              (callp O 17 [(.agg [(.str t.name), (.int .i64 t.lists), (.int .i64 t.musts)])] fun x19 => cnd (chk shType x19)
              (cnd (((strV (gt (aggV (gt (tupV x17) 0)) 0)) == (strV (gt (aggV x19) 0))) && (((intV (gt (aggV (gt (tupV x17) 0)) 1)) == (intV (gt (aggV x19) 1))) && (((intV (gt (aggV (gt (tupV x17) 0)) 2)) == (intV (gt (aggV x19) 2))) && true)))
               (callp O 8 [] fun x21 => cnd (chk .bool x21)
               (some ((.bool (boolV x21)), [])) none)
               (some ((.bool false), []))) none)
              (some ((.bool false), []))) none)))
           (cnd (!((boolV (gt (tupV x11) 1)) == false))
            (some ((.bool false), []))
            (cnd (!(boolV (gt (tupV x11) 1)))
             (cnd (((strV (gt (aggV (gt (tupV x11) 0)) 0)) == []) && (((intV (gt (aggV (gt (tupV x11) 0)) 1)) == 0) && (((intV (gt (aggV (gt (tupV x11) 0)) 2)) == 0) && true)))
              (callp O 8 [] fun x23 => cnd (chk .bool x23)
              (some ((.bool (boolV x23)), [])) none)
              (some ((.bool false), [])))
             (callp O 14 [(.agg [(.str (strV (gt (aggV (gt (tupV x11) 0)) 0))), (.int .i64 (intV (gt (aggV (gt (tupV x11) 0)) 1))), (.int .i64 (intV (gt (aggV (gt (tupV x11) 0)) 2)))])] fun x25 => cnd (chk (.tup [shType, .bool]) x25)
             (cnd (boolV (gt (tupV x25) 1))
              (callp O 17 [(.agg [(.str t.name), (.int .i64 t.lists), (.int .i64 t.musts)])] fun x27 => cnd (chk shType x27)
              (cnd (((strV (gt (aggV (gt (tupV x25) 0)) 0)) == (strV (gt (aggV x27) 0))) && (((intV (gt (aggV (gt (tupV x25) 0)) 1)) == (intV (gt (aggV x27) 1))) && (((intV (gt (aggV (gt (tupV x25) 0)) 2)) == (intV (gt (aggV x27) 2))) && true)))
               (callp O 8 [] fun x29 => cnd (chk .bool x29)
               (some ((.bool (boolV x29)), [])) none)
               (some ((.bool false), []))) none)
              (some ((.bool false), []))) none)))) none) none))) none)))
      (callp O 15 [(.agg [(.str t.name), (.int .i64 t.lists), (.int .i64 t.musts)])] fun x31 => cnd (chk (.tup [shType, .bool]) x31)
      (callp O 11 [(.agg [(.str t.name), (.int .i64 t.lists), (.int .i64 t.musts)])] fun x33 => cnd (chk .bool x33)
      (cnd (boolV x33)
       (cnd (!((boolV (gt (tupV x31) 1)) == (decide (t.lists > 0))))
        (some ((.bool false), []))
        (cnd (!(boolV (gt (tupV x31) 1)))
         (cnd (((strV (gt (aggV (gt (tupV x31) 0)) 0)) == []) && (((intV (gt (aggV (gt (tupV x31) 0)) 1)) == 0) && (((intV (gt (aggV (gt (tupV x31) 0)) 2)) == 0) && true)))
          (callp O 8 [] fun x35 => cnd (chk .bool x35)
          (some ((.bool (boolV x35)), [])) none)
          (some ((.bool false), [])))
         (callp O 14 [(.agg [(.str (strV (gt (aggV (gt (tupV x31) 0)) 0))), (.int .i64 (intV (gt (aggV (gt (tupV x31) 0)) 1))), (.int .i64 (intV (gt (aggV (gt (tupV x31) 0)) 2)))])] fun x37 => cnd (chk (.tup [shType, .bool]) x37)
         (cnd (boolV (gt (tupV x37) 1))
          (callp O 17 [(.agg [(.str t.name), (.int .i64 t.lists), (.int .i64 t.musts)])] fun x39 => cnd (chk shType x39)
          (cnd (((strV (gt (aggV (gt (tupV x37) 0)) 0)) == (strV (gt (aggV x39) 0))) && (((intV (gt (aggV (gt (tupV x37) 0)) 1)) == (intV (gt (aggV x39) 1))) && (((intV (gt (aggV (gt (tupV x37) 0)) 2)) == (intV (gt (aggV x39) 2))) && true)))
           (callp O 8 [] fun x41 => cnd (chk .bool x41)
           (some ((.bool (boolV x41)), [])) none)
           (some ((.bool false), []))) none)
          (some ((.bool false), []))) none)))
       (cnd (!((boolV (gt (tupV x31) 1)) == false))
        (some ((.bool false), []))
        (cnd (!(boolV (gt (tupV x31) 1)))
         (cnd (((strV (gt (aggV (gt (tupV x31) 0)) 0)) == []) && (((intV (gt (aggV (gt (tupV x31) 0)) 1)) == 0) && (((intV (gt (aggV (gt (tupV x31) 0)) 2)) == 0) && true)))
          (callp O 8 [] fun x43 => cnd (chk .bool x43)
          (some ((.bool (boolV x43)), [])) none)
          (some ((.bool false), [])))
         (callp O 14 [(.agg [(.str (strV (gt (aggV (gt (tupV x31) 0)) 0))), (.int .i64 (intV (gt (aggV (gt (tupV x31) 0)) 1))), (.int .i64 (intV (gt (aggV (gt (tupV x31) 0)) 2)))])] fun x45 => cnd (chk (.tup [shType, .bool]) x45)
         (cnd (boolV (gt (tupV x45) 1))
          (callp O 17 [(.agg [(.str t.name), (.int .i64 t.lists), (.int .i64 t.musts)])] fun x47 => cnd (chk shType x47)
          (cnd (((strV (gt (aggV (gt (tupV x45) 0)) 0)) == (strV (gt (aggV x47) 0))) && (((intV (gt (aggV (gt (tupV x45) 0)) 1)) == (intV (gt (aggV x47) 1))) && (((intV (gt (aggV (gt (tupV x45) 0)) 2)) == (intV (gt (aggV x47) 2))) && true)))
           (callp O 8 [] fun x49 => cnd (chk .bool x49)
           (some ((.bool (boolV x49)), [])) none)
           (some ((.bool false), []))) none)
          (some ((.bool false), []))) none)))) none) none)) none))
    (cnd (!((boolV (gt (tupV x3) 1)) == false))
     (some ((.bool false), []))
     (callp O 15 [(.agg [(.str (strV (gt (aggV (gt (tupV x3) 0)) 0))), (.int .i64 (intV (gt (aggV (gt (tupV x3) 0)) 1))), (.int .i64 (intV (gt (aggV (gt (tupV x3) 0)) 2)))])] fun x51 => cnd (chk (.tup [shType, .bool]) x51)
     (cnd (boolV (gt (tupV x3) 1))
      (cnd (!(boolV (gt (tupV x51) 1)))
       (some ((.bool false), []))
       (cnd (!(((strV (gt (aggV (gt (tupV x51) 0)) 0)) == t.name) && (((intV (gt (aggV (gt (tupV x51) 0)) 1)) == t.lists) && (((intV (gt (aggV (gt (tupV x51) 0)) 2)) == t.musts) && true))))
        (some ((.bool false), []))
        (callp O 16 [(.agg [(.str (strV (gt (aggV (gt (tupV x3) 0)) 0))), (.int .i64 (intV (gt (aggV (gt (tupV x3) 0)) 1))), (.int .i64 (intV (gt (aggV (gt (tupV x3) 0)) 2)))])] fun x53 => cnd (chk .bool x53)
        (cnd (boolV x53)
         (some ((.bool false), []))
         (cnd ((intV (gt (aggV (gt (tupV x3) 0)) 1)) != (IntKind.wrap .i64 (t.lists + 1)))
          (some ((.bool false), []))
          (callp O 15 [(.agg [(.str t.name), (.int .i64 t.lists), (.int .i64 t.musts)])] fun x55 => cnd (chk (.tup [shType, .bool]) x55)
          (callp O 11 [(.agg [(.str t.name), (.int .i64 t.lists), (.int .i64 t.musts)])] fun x57 => cnd (chk .bool x57)
          (cnd (boolV x57)
           (cnd (!((boolV (gt (tupV x55) 1)) == (decide (t.lists > 0))))
            (some ((.bool false), []))
            (cnd (!(boolV (gt (tupV x55) 1)))
             (cnd (((strV (gt (aggV (gt (tupV x55) 0)) 0)) == []) && (((intV (gt (aggV (gt (tupV x55) 0)) 1)) == 0) && (((intV (gt (aggV (gt (tupV x55) 0)) 2)) == 0) && true)))
              (callp O 8 [] fun x59 => cnd (chk .bool x59)
              (some ((.bool (boolV x59)), [])) none)
              (some ((.bool false), [])))
             (callp O 14 [(.agg [(.str (strV (gt (aggV (gt (tupV x55) 0)) 0))), (.int .i64 (intV (gt (aggV (gt (tupV x55) 0)) 1))), (.int .i64 (intV (gt (aggV (gt (tupV x55) 0)) 2)))])] fun x61 => cnd (chk (.tup [shType, .bool]) x61)
             (cnd (boolV (gt (tupV x61) 1))
              (callp O 17 [(.agg [(.str t.name), (.int .i64 t.lists), (.int .i64 t.musts)])] fun x63 => cnd (chk shType x63)
              (cnd (((strV (gt (aggV (gt (tupV x61) 0)) 0)) == (strV (gt (aggV x63) 0))) && (((intV (gt (aggV (gt (tupV x61) 0)) 1)) == (intV (gt (aggV x63) 1))) && (((intV (gt (aggV (gt (tupV x61) 0)) 2)) == (intV (gt (aggV x63) 2))) && true)))
               (callp O 8 [] fun x65 => cnd (chk .bool x65)
               (some ((.bool (boolV x65)), [])) none)
               (some ((.bool false), []))) none)
              (some ((.bool false), []))) none)))
           (cnd (!((boolV (gt (tupV x55) 1)) == false))
            (some ((.bool false), []))
            (cnd (!(boolV (gt (tupV x55) 1)))
             (cnd (((strV (gt (aggV (gt (tupV x55) 0)) 0)) == []) && (((intV (gt (aggV (gt (tupV x55) 0)) 1)) == 0) && (((intV (gt (aggV (gt (tupV x55) 0)) 2)) == 0) && true)))
              (callp O 8 [] fun x67 => cnd (chk .bool x67)
              (some ((.bool (boolV x67)), [])) none)
              (some ((.bool false), [])))
             (callp O 14 [(.agg [(.str (strV (gt (aggV (gt (tupV x55) 0)) 0))), (.int .i64 (intV (gt (aggV (gt (tupV x55) 0)) 1))), (.int .i64 (intV (gt (aggV (gt (tupV x55) 0)) 2)))])] fun x69 => cnd (chk (.tup [shType, .bool]) x69)
             (cnd (boolV (gt (tupV x69) 1))
              (callp O 17 [(.agg [(.str t.name), (.int .i64 t.lists), (.int .i64 t.musts)])] fun x71 => cnd (chk shType x71)
              (cnd (((strV (gt (aggV (gt (tupV x69) 0)) 0)) == (strV (gt (aggV x71) 0))) && (((intV (gt (aggV (gt (tupV x69) 0)) 1)) == (intV (gt (aggV x71) 1))) && (((intV (gt (aggV (gt (tupV x69) 0)) 2)) == (intV (gt (aggV x71) 2))) && true)))
               (callp O 8 [] fun x73 => cnd (chk .bool x73)
               (some ((.bool (boolV x73)), [])) none)
               (some ((.bool false), []))) none)
              (some ((.bool false), []))) none)))) none) none))) none)))
      (callp O 15 [(.agg [(.str t.name), (.int .i64 t.lists), (.int .i64 t.musts)])] fun x75 => cnd (chk (.tup [shType, .bool]) x75)
      (callp O 11 [(.agg [(.str t.name), (.int .i64 t.lists), (.int .i64 t.musts)])] fun x77 => cnd (chk .bool x77)
      (cnd (boolV x77)
       (cnd (!((boolV (gt (tupV x75) 1)) == (decide (t.lists > 0))))
        (some ((.bool false), []))
        (cnd (!(boolV (gt (tupV x75) 1)))
         (cnd (((strV (gt (aggV (gt (tupV x75) 0)) 0)) == []) && (((intV (gt (aggV (gt (tupV x75) 0)) 1)) == 0) && (((intV (gt (aggV (gt (tupV x75) 0)) 2)) == 0) && true)))
          (callp O 8 [] fun x79 => cnd (chk .bool x79)
          (some ((.bool (boolV x79)), [])) none)
          (some ((.bool false), [])))
         (callp O 14 [(.agg [(.str (strV (gt (aggV (gt (tupV x75) 0)) 0))), (.int .i64 (intV (gt (aggV (gt (tupV x75) 0)) 1))), (.int .i64 (intV (gt (aggV (gt (tupV x75) 0)) 2)))])] fun x81 => cnd (chk (.tup [shType, .bool]) x81)
         (cnd (boolV (gt (tupV x81) 1))
          (callp O 17 [(.agg [(.str t.name), (.int .i64 t.lists), (.int .i64 t.musts)])] fun x83 => cnd (chk shType x83)
          (cnd (((strV (gt (aggV (gt (tupV x81) 0)) 0)) == (strV (gt (aggV x83) 0))) && (((intV (gt (aggV (gt (tupV x81) 0)) 1)) == (intV (gt (aggV x83) 1))) && (((intV (gt (aggV (gt (tupV x81) 0)) 2)) == (intV (gt (aggV x83) 2))) && true)))
           (callp O 8 [] fun x85 => cnd (chk .bool x85)
           (some ((.bool (boolV x85)), [])) none)
           (some ((.bool false), []))) none)
          (some ((.bool false), []))) none)))
       (cnd (!((boolV (gt (tupV x75) 1)) == false))
        (some ((.bool false), []))
        (cnd (!(boolV (gt (tupV x75) 1)))
         (cnd (((strV (gt (aggV (gt (tupV x75) 0)) 0)) == []) && (((intV (gt (aggV (gt (tupV x75) 0)) 1)) == 0) && (((intV (gt (aggV (gt (tupV x75) 0)) 2)) == 0) && true)))
          (callp O 8 [] fun x87 => cnd (chk .bool x87)
          (some ((.bool (boolV x87)), [])) none)
          (some ((.bool false), [])))
         (callp O 14 [(.agg [(.str (strV (gt (aggV (gt (tupV x75) 0)) 0))), (.int .i64 (intV (gt (aggV (gt (tupV x75) 0)) 1))), (.int .i64 (intV (gt (aggV (gt (tupV x75) 0)) 2)))])] fun x89 => cnd (chk (.tup [shType, .bool]) x89)
         (cnd (boolV (gt (tupV x89) 1))
          (callp O 17 [(.agg [(.str t.name), (.int .i64 t.lists), (.int .i64 t.musts)])] fun x91 => cnd (chk shType x91)
          (cnd (((strV (gt (aggV (gt (tupV x89) 0)) 0)) == (strV (gt (aggV x91) 0))) && (((intV (gt (aggV (gt (tupV x89) 0)) 1)) == (intV (gt (aggV x91) 1))) && (((intV (gt (aggV (gt (tupV x89) 0)) 2)) == (intV (gt (aggV x91) 2))) && true)))
           (callp O 8 [] fun x93 => cnd (chk .bool x93)
           (some ((.bool (boolV x93)), [])) none)
           (some ((.bool false), []))) none)
          (some ((.bool false), []))) none)))) none) none)) none))) none) none)
noncomputable def seinelaw4_WrapItems_B (t : GType) : Option Bool :=
  cnd (decide ((List.length t.name : Int) > 2000))
   (bnd (seinelaw4_awake) fun y2 =>
   some y2)
   (bnd (wrap_List t) fun y4 =>
   bnd (wrap_Right t) fun y6 =>
   cnd y6
    (cnd (!(y4.2 == (decide (t.lists < 4))))
     (some false)
     (bnd (wrap_Item y4.1) fun y8 =>
     cnd y4.2
      (cnd (!y8.2)
       (some false)
       (cnd (!((y8.1.name == t.name) && ((y8.1.lists == t.lists) && ((y8.1.musts == t.musts) && true))))
        (some false)
        (bnd (wrap_Is y4.1) fun y10 =>
        cnd y10
         (some false)
         (cnd (y4.1.lists != (IntKind.wrap .i64 (t.lists + 1)))
          (some false)
          (bnd (wrap_Item t) fun y12 =>
          bnd (wrap_Right t) fun y14 =>
          cnd y14
           (cnd (!(y12.2 == (decide (t.lists > 0))))
            (some false)
            (cnd (!y12.2)
             (cnd ((y12.1.name == []) && ((y12.1.lists == 0) && ((y12.1.musts == 0) && true)))
              (bnd (seinelaw4_awake) fun y16 =>
              some y16)
              (some false))
             (bnd (wrap_List y12.1) fun y18 =>
             cnd y18.2
              (bnd (wrap_Bare t) fun y20 =>
              cnd ((y18.1.name == y20.name) && ((y18.1.lists == y20.lists) && ((y18.1.musts == y20.musts) && true)))
               (bnd (seinelaw4_awake) fun y22 =>
               some y22)
               (some false))
              (some false))))
           (cnd (!(y12.2 == false))
            (some false)
            (cnd (!y12.2)
             (cnd ((y12.1.name == []) && ((y12.1.lists == 0) && ((y12.1.musts == 0) && true)))
              (bnd (seinelaw4_awake) fun y24 =>
              some y24)
              (some false))
             (bnd (wrap_List y12.1) fun y26 =>
             cnd y26.2
              (bnd (wrap_Bare t) fun y28 =>
              cnd ((y26.1.name == y28.name) && ((y26.1.lists == y28.lists) && ((y26.1.musts == y28.musts) && true)))
               (bnd (seinelaw4_awake) fun y30 =>
               some y30)
               (some false))
              (some false)))))))))
      (bnd (wrap_Item t) fun y32 =>
      bnd (wrap_Right t) fun y34 =>
      cnd y34
       (cnd (!(y32.2 == (decide (t.lists > 0))))
        (some false)
        (cnd (!y32.2)
         (cnd ((y32.1.name == []) && ((y32.1.lists == 0) && ((y32.1.musts == 0) && true)))
          (bnd (seinelaw4_awake) fun y36 =>
          some y36)
          (some false))
         (bnd (wrap_List y32.1) fun y38 =>
         cnd y38.2
          (bnd (wrap_Bare t) fun y40 =>
          cnd ((y38.1.name == y40.name) && ((y38.1.lists == y40.lists) && ((y38.1.musts == y40.musts) && true)))
           (bnd (seinelaw4_awake) fun y42 =>
           some y42)
           (some false))
          (some false))))
       (cnd (!(y32.2 == false))
        (some false)
        (cnd (!y32.2)
         (cnd ((y32.1.name == []) && ((y32.1.lists == 0) && ((y32.1.musts == 0) && true)))
          (bnd (seinelaw4_awake) fun y44 =>
          some y44)
          (some false))
         (bnd (wrap_List y32.1) fun y46 =>
         cnd y46.2
          (bnd (wrap_Bare t) fun y48 =>
          cnd ((y46.1.name == y48.name) && ((y46.1.lists == y48.lists) && ((y46.1.musts == y48.musts) && true)))
           (bnd (seinelaw4_awake) fun y50 =>
           some y50)
           (some false))
          (some false)))))))
    (cnd (!(y4.2 == false))
     (some false)
     (bnd (wrap_Item y4.1) fun y52 =>
     cnd y4.2
      (cnd (!y52.2)
       (some false)
       (cnd (!((y52.1.name == t.name) && ((y52.1.lists == t.lists) && ((y52.1.musts == t.musts) && true))))
        (some false)
        (bnd (wrap_Is y4.1) fun y54 =>
        cnd y54
         (some false)
         (cnd (y4.1.lists != (IntKind.wrap .i64 (t.lists + 1)))
          (some false)
          (bnd (wrap_Item t) fun y56 =>
          bnd (wrap_Right t) fun y58 =>
          cnd y58
           (cnd (!(y56.2 == (decide (t.lists > 0))))
            (some false)
            (cnd (!y56.2)
             (cnd ((y56.1.name == []) && ((y56.1.lists == 0) && ((y56.1.musts == 0) && true)))
              (bnd (seinelaw4_awake) fun y60 =>
              some y60)
              (some false))
             (bnd (wrap_List y56.1) fun y62 =>
             cnd y62.2
              (bnd (wrap_Bare t) fun y64 =>
              cnd ((y62.1.name == y64.name) && ((y62.1.lists == y64.lists) && ((y62.1.musts == y64.musts) && true)))
               (bnd (seinelaw4_awake) fun y66 =>
               some y66)
               (some false))
              (some false))))
           (cnd (!(y56.2 == false))
            (some false)
            (cnd (!y56.2)
             (cnd ((y56.1.name == []) && ((y56.1.lists == 0) && ((y56.1.musts == 0) && true)))
              (bnd (seinelaw4_awake) fun y68 =>
              some y68)
              (some false))
             (bnd (wrap_List y56.1) fun y70 =>
             cnd y70.2
              (bnd (wrap_Bare t) fun y72 =>
              cnd ((y70.1.name == y72.name) && ((y70.1.lists == y72.lists) && ((y70.1.musts == y72.musts) && true)))
               (bnd (seinelaw4_awake) fun y74 =>
               some y74)
               (some false))
              (some false)))))))))
      (bnd (wrap_Item t) fun y76 =>
      bnd (wrap_Right t) fun y78 =>
      cnd y78
       (cnd (!(y76.2 == (decide (t.lists > 0))))
        (some false)
        (cnd (!y76.2)
         (cnd ((y76.1.name == []) && ((y76.1.lists == 0) && ((y76.1.musts == 0) && true)))
          (bnd (seinelaw4_awake) fun y80 =>
          some y80)
          (some false))
         (bnd (wrap_List y76.1) fun y82 =>
         cnd y82.2
          (bnd (wrap_Bare t) fun y84 =>
          cnd ((y82.1.name == y84.name) && ((y82.1.lists == y84.lists) && ((y82.1.musts == y84.musts) && true)))
           (bnd (seinelaw4_awake) fun y86 =>
           some y86)
           (some false))
          (some false))))
       (cnd (!(y76.2 == false))
        (some false)
        (cnd (!y76.2)
         (cnd ((y76.1.name == []) && ((y76.1.lists == 0) && ((y76.1.musts == 0) && true)))
          (bnd (seinelaw4_awake) fun y88 =>
          some y88)
          (some false))
         (bnd (wrap_List y76.1) fun y90 =>
         cnd y90.2
          (bnd (wrap_Bare t) fun y92 =>
          cnd ((y90.1.name == y92.name) && ((y90.1.lists == y92.lists) && ((y90.1.musts == y92.musts) && true)))
           (bnd (seinelaw4_awake) fun y94 =>
           some y94)
           (some false))
          (some false))))))))
def seinelaw4_WrapItems_ds : Decs := { decs := [(12, .bool), (15, (.tup [shType, .bool])), (20, .bool), (29, (.tup [shType, .bool])), (43, .bool), (56, (.tup [shType, .bool])), (61, .bool), (74, .bool), (78, (.tup [shType, .bool])), (85, shType), (89, .bool)], ups := [], loops := [] }
set_option maxRecDepth 100000 in
theorem seinelaw4_WrapItems_t1 (O : Orc) (LP : LBody → LBody) (t : GType) : evalBodyD Try.prog (MT 6) seinelaw4_WrapItems_ds Try.f6.ntmps O LP Try.f6 [(.agg [(.str t.name), (.int .i64 t.lists), (.int .i64 t.musts)])] [] = seinelaw4_WrapItems_T1 O LP t := by kernel_rfl
theorem seinelaw4_WrapItems_imp (t : GType) : Imp (seinelaw4_WrapItems_B t) (seinelaw4_WrapItems_T1 O loopLim t) (fun r v => v = (seinelaw4_WrapItemsE r, [])) := by
  simp only [seinelaw4_WrapItems_B, seinelaw4_WrapItems_T1]
  try simp only [evs, tys]
  refine Imp.cnd ?_ ?_
  · refine Imp.call (f := seinelaw4_awakeE) rfl (fun a h => by first | exact seinelaw4_awake_spec h | simpa only [evs, tys, evl] using seinelaw4_awake_spec h) (fun a => by first | rfl | simp only [seinelaw4_awakeE, evk, chks]) fun y2 hy2 => ?_
    try simp only [seinelaw4_awakeE, evs, tys]
    exact Imp.some (by first | rfl | simp only [seinelaw4_WrapItemsE, evs, tys, evl])
  · refine Imp.call (f := wrap_ListE) rfl (fun a h => by first | exact wrap_List_spec h | simpa only [evs, tys, evl] using wrap_List_spec h) (fun a => by first | rfl | simp only [wrap_ListE, evk, chks]) fun y4 hy4 => ?_
    try simp only [wrap_ListE, evs, tys]
    refine Imp.call (f := wrap_RightE) rfl (fun a h => by first | exact wrap_Right_spec h | simpa only [evs, tys, evl] using wrap_Right_spec h) (fun a => by first | rfl | simp only [wrap_RightE, evk, chks]) fun y6 hy6 => ?_
    try simp only [wrap_RightE, evs, tys]
    refine Imp.cnd ?_ ?_
    · refine Imp.cnd ?_ ?_
      · exact Imp.some (by first | rfl | simp only [seinelaw4_WrapItemsE, evs, tys, evl])
      · refine Imp.call (f := wrap_ItemE) rfl (fun a h => by first | exact wrap_Item_spec h | simpa only [evs, tys, evl] using wrap_Item_spec h) (fun a => by first | rfl | simp only [wrap_ItemE, evk, chks]) fun y8 hy8 => ?_
        try simp only [wrap_ItemE, evs, tys]
        refine Imp.cnd ?_ ?_
        · refine Imp.cnd ?_ ?_
          · exact Imp.some (by first | rfl | simp only [seinelaw4_WrapItemsE, evs, tys, evl])
          · refine Imp.cnd ?_ ?_
            · exact Imp.some (by first | rfl | simp only [seinelaw4_WrapItemsE, evs, tys, evl])
            · refine Imp.call (f := wrap_IsE) rfl (fun a h => by first | exact wrap_Is_spec h | simpa only [evs, tys, evl] using wrap_Is_spec h) (fun a => by first | rfl | simp only [wrap_IsE, evk, chks]) fun y10 hy10 => ?_
              try simp only [wrap_IsE, evs, tys]
              refine Imp.cnd ?_ ?_
              · exact Imp.some (by first | rfl | simp only [seinelaw4_WrapItemsE, evs, tys, evl])
              · refine Imp.cnd ?_ ?_
                · exact Imp.some (by first | rfl | simp only [seinelaw4_WrapItemsE, evs, tys, evl])
                · refine Imp.call (f := wrap_ItemE) rfl (fun a h => by first | exact wrap_Item_spec h | simpa only [evs, tys, evl] using wrap_Item_spec h) (fun a => by first | rfl | simp only [wrap_ItemE, evk, chks]) fun y12 hy12 => ?_
                  try simp only [wrap_ItemE, evs, tys]
                  refine Imp.call (f := wrap_RightE) rfl (fun a h => by first | exact wrap_Right_spec h | simpa only [evs, tys, evl] using wrap_Right_spec h) (fun a => by first | rfl | simp only [wrap_RightE, evk, chks]) fun y14 hy14 => ?_
                  try simp only [wrap_RightE, evs, tys]
                  refine Imp.cnd ?_ ?_
                  · refine Imp.cnd ?_ ?_
                    · exact Imp.some (by first | rfl | simp only [seinelaw4_WrapItemsE, evs, tys, evl])
                    · refine Imp.cnd ?_ ?_
                      · refine Imp.cnd ?_ ?_
                        · refine Imp.call (f := seinelaw4_awakeE) rfl (fun a h => by first | exact seinelaw4_awake_spec h | simpa only [evs, tys, evl] using seinelaw4_awake_spec h) (fun a => by first | rfl | simp only [seinelaw4_awakeE, evk, chks]) fun y16 hy16 => ?_
                          try simp only [seinelaw4_awakeE, evs, tys]
                          exact Imp.some (by first | rfl | simp only [seinelaw4_WrapItemsE, evs, tys, evl])
                        · exact Imp.some (by first | rfl | simp only [seinelaw4_WrapItemsE, evs, tys, evl])
                      · refine Imp.call (f := wrap_ListE) rfl (fun a h => by first | exact wrap_List_spec h | simpa only [evs, tys, evl] using wrap_List_spec h) (fun a => by first | rfl | simp only [wrap_ListE, evk, chks]) fun y18 hy18 => ?_
                        try simp only [wrap_ListE, evs, tys]
                        refine Imp.cnd ?_ ?_
                        · refine Imp.call (f := wrap_BareE) rfl (fun a h => by first | exact wrap_Bare_spec h | simpa only [evs, tys, evl] using wrap_Bare_spec h) (fun a => by first | rfl | simp only [wrap_BareE, evk, chks]) fun y20 hy20 => ?_
                          try simp only [wrap_BareE, evs, tys]
                          refine Imp.cnd ?_ ?_
                          · refine Imp.call (f := seinelaw4_awakeE) rfl (fun a h => by first | exact seinelaw4_awake_spec h | simpa only [evs, tys, evl] using seinelaw4_awake_spec h) (fun a => by first | rfl | simp only [seinelaw4_awakeE, evk, chks]) fun y22 hy22 => ?_
                            try simp only [seinelaw4_awakeE, evs, tys]
                            exact Imp.some (by first | rfl | simp only [seinelaw4_WrapItemsE, evs, tys, evl])
                          · exact Imp.some (by first | rfl | simp only [seinelaw4_WrapItemsE, evs, tys, evl])
                        · exact Imp.some (by first | rfl | simp only [seinelaw4_WrapItemsE, evs, tys, evl])
                  · refine Imp.cnd ?_ ?_
                    · exact Imp.some (by first | rfl | simp only [seinelaw4_WrapItemsE, evs, tys, evl])
                    · refine Imp.cnd ?_ ?_
                      · refine Imp.cnd ?_ ?_
                        · refine Imp.call (f := seinelaw4_awakeE) rfl (fun a h => by first | exact seinelaw4_awake_spec h | simpa only [evs, tys, evl] using seinelaw4_awake_spec h) (fun a => by first | rfl | simp only [seinelaw4_awakeE, evk, chks]) fun y24 hy24 => ?_
                          try simp only [seinelaw4_awakeE, evs, tys]
                          exact Imp.some (by first | rfl | simp only [seinelaw4_WrapItemsE, evs, tys, evl])
                        · exact Imp.some (by first | rfl | simp only [seinelaw4_WrapItemsE, evs, tys, evl])
                      · refine Imp.call (f := wrap_ListE) rfl (fun a h => by first | exact wrap_List_spec h | simpa only [evs, tys, evl] using wrap_List_spec h) (fun a => by first | rfl | simp only [wrap_ListE, evk, chks]) fun y26 hy26 => ?_
                        try simp only [wrap_ListE, evs, tys]
                        refine Imp.cnd ?_ ?_
                        · refine Imp.call (f := wrap_BareE) rfl (fun a h => by first | exact wrap_Bare_spec h | simpa only [evs, tys, evl] using wrap_Bare_spec h) (fun a => by first | rfl | simp only [wrap_BareE, evk, chks]) fun y28 hy28 => ?_
                          try simp only [wrap_BareE, evs, tys]
                          refine Imp.cnd ?_ ?_
                          · refine Imp.call (f := seinelaw4_awakeE) rfl (fun a h => by first | exact seinelaw4_awake_spec h | simpa only [evs, tys, evl] using seinelaw4_awake_spec h) (fun a => by first | rfl | simp only [seinelaw4_awakeE, evk, chks]) fun y30 hy30 => ?_
                            try simp only [seinelaw4_awakeE, evs, tys]
                            exact Imp.some (by first | rfl | simp only [seinelaw4_WrapItemsE, evs, tys, evl])
                          · exact Imp.some (by first | rfl | simp only [seinelaw4_WrapItemsE, evs, tys, evl])
                        · exact Imp.some (by first | rfl | simp only [seinelaw4_WrapItemsE, evs, tys, evl])
        · refine Imp.call (f := wrap_ItemE) rfl (fun a h => by first | exact wrap_Item_spec h | simpa only [evs, tys, evl] using wrap_Item_spec h) (fun a => by first | rfl | simp only [wrap_ItemE, evk, chks]) fun y32 hy32 => ?_
          try simp only [wrap_ItemE, evs, tys]
          refine Imp.call (f := wrap_RightE) rfl (fun a h => by first | exact wrap_Right_spec h | simpa only [evs, tys, evl] using wrap_Right_spec h) (fun a => by first | rfl | simp only [wrap_RightE, evk, chks]) fun y34 hy34 => ?_
          try simp only [wrap_RightE, evs, tys]
          refine Imp.cnd ?_ ?_
          · refine Imp.cnd ?_ ?_
            · exact Imp.some (by first | rfl | simp only [seinelaw4_WrapItemsE, evs, tys, evl])
            · refine Imp.cnd ?_ ?_
              · refine Imp.cnd ?_ ?_
                · refine Imp.call (f := seinelaw4_awakeE) rfl (fun a h => by first | exact seinelaw4_awake_spec h | simpa only [evs, tys, evl] using seinelaw4_awake_spec h) (fun a => by first | rfl | simp only [seinelaw4_awakeE, evk, chks]) fun y36 hy36 => ?_
                  try simp only [seinelaw4_awakeE, evs, tys]
                  exact Imp.some (by first | rfl | simp only [seinelaw4_WrapItemsE, evs, tys, evl])
                · exact Imp.some (by first | rfl | simp only [seinelaw4_WrapItemsE, evs, tys, evl])
              · refine Imp.call (f := wrap_ListE) rfl (fun a h => by first | exact wrap_List_spec h | simpa only [evs, tys, evl] using wrap_List_spec h) (fun a => by first | rfl | simp only [wrap_ListE, evk, chks]) fun y38 hy38 => ?_
                try simp only [wrap_ListE, evs, tys]
                refine Imp.cnd ?_ ?_
                · refine Imp.call (f := wrap_BareE) rfl (fun a h => by first | exact wrap_Bare_spec h | simpa only [evs, tys, evl] using wrap_Bare_spec h) (fun a => by first | rfl | simp only [wrap_BareE, evk, chks]) fun y40 hy40 => ?_
                  try simp only [wrap_BareE, evs, tys]
                  refine Imp.cnd ?_ ?_
                  · refine Imp.call (f := seinelaw4_awakeE) rfl (fun a h => by first | exact seinelaw4_awake_spec h | simpa only [evs, tys, evl] using seinelaw4_awake_spec h) (fun a => by first | rfl | simp only [seinelaw4_awakeE, evk, chks]) fun y42 hy42 => ?_
                    try simp only [seinelaw4_awakeE, evs, tys]
                    exact Imp.some (by first | rfl | simp only [seinelaw4_WrapItemsE, evs, tys, evl])
                  · exact Imp.some (by first | rfl | simp only [seinelaw4_WrapItemsE, evs, tys, evl])
                · exact Imp.some (by first | rfl | simp only [seinelaw4_WrapItemsE, evs, tys, evl])
          · refine Imp.cnd ?_ ?_
            · exact Imp.some (by first | rfl | simp only [seinelaw4_WrapItemsE, evs, tys, evl])
            · refine Imp.cnd ?_ ?_
              · refine Imp.cnd ?_ ?_
                · refine Imp.call (f := seinelaw4_awakeE) rfl (fun a h => by first | exact seinelaw4_awake_spec h | simpa only [evs, tys, evl] using seinelaw4_awake_spec h) (fun a => by first | rfl | simp only [seinelaw4_awakeE, evk, chks]) fun y44 hy44 => ?_
                  try simp only [seinelaw4_awakeE, evs, tys]
                  exact Imp.some (by first | rfl | simp only [seinelaw4_WrapItemsE, evs, tys, evl])
                · exact Imp.some (by first | rfl | simp only [seinelaw4_WrapItemsE, evs, tys, evl])
              · refine Imp.call (f := wrap_ListE) rfl (fun a h => by first | exact wrap_List_spec h | simpa only [evs, tys, evl] using wrap_List_spec h) (fun a => by first | rfl | simp only [wrap_ListE, evk, chks]) fun y46 hy46 => ?_
                try simp only [wrap_ListE, evs, tys]
                refine Imp.cnd ?_ ?_
                · refine Imp.call (f := wrap_BareE) rfl (fun a h => by first | exact wrap_Bare_spec h | simpa only [evs, tys, evl] using wrap_Bare_spec h) (fun a => by first | rfl | simp only [wrap_BareE, evk, chks]) fun y48 hy48 => ?_
                  try simp only [wrap_BareE, evs, tys]
                  refine Imp.cnd ?_ ?_
                  · refine Imp.call (f := seinelaw4_awakeE) rfl (fun a h => by first | exact seinelaw4_awake_spec h | simpa only [evs, tys, evl] using seinelaw4_awake_spec h) (fun a => by first | rfl | simp only [seinelaw4_awakeE, evk, chks]) fun y50 hy50 => ?_
                    try simp only [seinelaw4_awakeE, evs, tys]
                    exact Imp.some (by first | rfl | simp only [seinelaw4_WrapItemsE, evs, tys, evl])
                  · exact Imp.some (by first | rfl | simp only [seinelaw4_WrapItemsE, evs, tys, evl])
                · exact Imp.some (by first | rfl | simp only [seinelaw4_WrapItemsE, evs, tys, evl])
    · refine Imp.cnd ?_ ?_
      · exact Imp.some (by first | rfl | simp only [seinelaw4_WrapItemsE, evs, tys, evl])
      · refine Imp.call (f := wrap_ItemE) rfl (fun a h => by first | exact wrap_Item_spec h | simpa only [evs, tys, evl] using wrap_Item_spec h) (fun a => by first | rfl | simp only [wrap_ItemE, evk, chks]) fun y52 hy52 => ?_
        try simp only [wrap_ItemE, evs, tys]
        refine Imp.cnd ?_ ?_
        · refine Imp.cnd ?_ ?_
          · exact Imp.some (by first | rfl | simp only [seinelaw4_WrapItemsE, evs, tys, evl])
          · refine Imp.cnd ?_ ?_
            · exact Imp.some (by first | rfl | simp only [seinelaw4_WrapItemsE, evs, tys, evl])
            · refine Imp.call (f := wrap_IsE) rfl (fun a h => by first | exact wrap_Is_spec h | simpa only [evs, tys, evl] using wrap_Is_spec h) (fun a => by first | rfl | simp only [wrap_IsE, evk, chks]) fun y54 hy54 => ?_
              try simp only [wrap_IsE, evs, tys]
              refine Imp.cnd ?_ ?_
              · exact Imp.some (by first | rfl | simp only [seinelaw4_WrapItemsE, evs, tys, evl])
              · refine Imp.cnd ?_ ?_
                · exact Imp.some (by first | rfl | simp only [seinelaw4_WrapItemsE, evs, tys, evl])
                · refine Imp.call (f := wrap_ItemE) rfl (fun a h => by first | exact wrap_Item_spec h | simpa only [evs, tys, evl] using wrap_Item_spec h) (fun a => by first | rfl | simp only [wrap_ItemE, evk, chks]) fun y56 hy56 => ?_
                  try simp only [wrap_ItemE, evs, tys]
                  refine Imp.call (f := wrap_RightE) rfl (fun a h => by first | exact wrap_Right_spec h | simpa only [evs, tys, evl] using wrap_Right_spec h) (fun a => by first | rfl | simp only [wrap_RightE, evk, chks]) fun y58 hy58 => ?_
                  try simp only [wrap_RightE, evs, tys]
                  refine Imp.cnd ?_ ?_
                  · refine Imp.cnd ?_ ?_
                    · exact Imp.some (by first | rfl | simp only [seinelaw4_WrapItemsE, evs, tys, evl])
                    · refine Imp.cnd ?_ ?_
                      · refine Imp.cnd ?_ ?_
                        · refine Imp.call (f := seinelaw4_awakeE) rfl (fun a h => by first | exact seinelaw4_awake_spec h | simpa only [evs, tys, evl] using seinelaw4_awake_spec h) (fun a => by first | rfl | simp only [seinelaw4_awakeE, evk, chks]) fun y60 hy60 => ?_
                          try simp only [seinelaw4_awakeE, evs, tys]
                          exact Imp.some (by first | rfl | simp only [seinelaw4_WrapItemsE, evs, tys, evl])
                        · exact Imp.some (by first | rfl | simp only [seinelaw4_WrapItemsE, evs, tys, evl])
                      · refine Imp.call (f := wrap_ListE) rfl (fun a h => by first | exact wrap_List_spec h | simpa only [evs, tys, evl] using wrap_List_spec h) (fun a => by first | rfl | simp only [wrap_ListE, evk, chks]) fun y62 hy62 => ?_
                        try simp only [wrap_ListE, evs, tys]
                        refine Imp.cnd ?_ ?_
                        · refine Imp.call (f := wrap_BareE) rfl (fun a h => by first | exact wrap_Bare_spec h | simpa only [evs, tys, evl] using wrap_Bare_spec h) (fun a => by first | rfl | simp only [wrap_BareE, evk, chks]) fun y64 hy64 => ?_
                          try simp only [wrap_BareE, evs, tys]
                          refine Imp.cnd ?_ ?_
                          · refine Imp.call (f := seinelaw4_awakeE) rfl (fun a h => by first | exact seinelaw4_awake_spec h | simpa only [evs, tys, evl] using seinelaw4_awake_spec h) (fun a => by first | rfl | simp only [seinelaw4_awakeE, evk, chks]) fun y66 hy66 => ?_
                            try simp only [seinelaw4_awakeE, evs, tys]
                            exact Imp.some (by first | rfl | simp only [seinelaw4_WrapItemsE, evs, tys, evl])
                          · exact Imp.some (by first | rfl | simp only [seinelaw4_WrapItemsE, evs, tys, evl])
                        · exact Imp.some (by first | rfl | simp only [seinelaw4_WrapItemsE, evs, tys, evl])
                  · refine Imp.cnd ?_ ?_
                    · exact Imp.some (by first | rfl | simp only [seinelaw4_WrapItemsE, evs, tys, evl])
                    · refine Imp.cnd ?_ ?_
                      · refine Imp.cnd ?_ ?_
                        · refine Imp.call (f := seinelaw4_awakeE) rfl (fun a h => by first | exact seinelaw4_awake_spec h | simpa only [evs, tys, evl] using seinelaw4_awake_spec h) (fun a => by first | rfl | simp only [seinelaw4_awakeE, evk, chks]) fun y68 hy68 => ?_
                          try simp only [seinelaw4_awakeE, evs, tys]
                          exact Imp.some (by first | rfl | simp only [seinelaw4_WrapItemsE, evs, tys, evl])
                        · exact Imp.some (by first | rfl | simp only [seinelaw4_WrapItemsE, evs, tys, evl])
                      · refine Imp.call (f := wrap_ListE) rfl (fun a h => by first | exact wrap_List_spec h | simpa only [evs, tys, evl] using wrap_List_spec h) (fun a => by first | rfl | simp only [wrap_ListE, evk, chks]) fun y70 hy70 => ?_
                        try simp only [wrap_ListE, evs, tys]
                        refine Imp.cnd ?_ ?_
                        · refine Imp.call (f := wrap_BareE) rfl (fun a h => by first | exact wrap_Bare_spec h | simpa only [evs, tys, evl] using wrap_Bare_spec h) (fun a => by first | rfl | simp only [wrap_BareE, evk, chks]) fun y72 hy72 => ?_
                          try simp only [wrap_BareE, evs, tys]
                          refine Imp.cnd ?_ ?_
                          · refine Imp.call (f := seinelaw4_awakeE) rfl (fun a h => by first | exact seinelaw4_awake_spec h | simpa only [evs, tys, evl] using seinelaw4_awake_spec h) (fun a => by first | rfl | simp only [seinelaw4_awakeE, evk, chks]) fun y74 hy74 => ?_
                            try simp only [seinelaw4_awakeE, evs, tys]
                            exact Imp.some (by first | rfl | simp only [seinelaw4_WrapItemsE, evs, tys, evl])
                          · exact Imp.some (by first | rfl | simp only [seinelaw4_WrapItemsE, evs, tys, evl])
                        · exact Imp.some (by first | rfl | simp only [seinelaw4_WrapItemsE, evs, tys, evl])
        · refine Imp.call (f := wrap_ItemE) rfl (fun a h => by first | exact wrap_Item_spec h | simpa only [evs, tys, evl] using wrap_Item_spec h) (fun a => by first | rfl | simp only [wrap_ItemE, evk, chks]) fun y76 hy76 => ?_
          try simp only [wrap_ItemE, evs, tys]
          refine Imp.call (f := wrap_RightE) rfl (fun a h => by first | exact wrap_Right_spec h | simpa only [evs, tys, evl] using wrap_Right_spec h) (fun a => by first | rfl | simp only [wrap_RightE, evk, chks]) fun y78 hy78 => ?_
          try simp only [wrap_RightE, evs, tys]
          refine Imp.cnd ?_ ?_
          · refine Imp.cnd ?_ ?_
            · exact Imp.some (by first | rfl | simp only [seinelaw4_WrapItemsE, evs, tys, evl])
            · refine Imp.cnd ?_ ?_
              · refine Imp.cnd ?_ ?_
                · refine Imp.call (f := seinelaw4_awakeE) rfl (fun a h => by first | exact seinelaw4_awake_spec h | simpa only [evs, tys, evl] using seinelaw4_awake_spec h) (fun a => by first | rfl | simp only [seinelaw4_awakeE, evk, chks]) fun y80 hy80 => ?_
                  try simp only [seinelaw4_awakeE, evs, tys]
                  exact Imp.some (by first | rfl | simp only [seinelaw4_WrapItemsE, evs, tys, evl])
                · exact Imp.some (by first | rfl | simp only [seinelaw4_WrapItemsE, evs, tys, evl])
              · refine Imp.call (f := wrap_ListE) rfl (fun a h => by first | exact wrap_List_spec h | simpa only [evs, tys, evl] using wrap_List_spec h) (fun a => by first | rfl | simp only [wrap_ListE, evk, chks]) fun y82 hy82 => ?_
                try simp only [wrap_ListE, evs, tys]
                refine Imp.cnd ?_ ?_
                · refine Imp.call (f := wrap_BareE) rfl (fun a h => by first | exact wrap_Bare_spec h | simpa only [evs, tys, evl] using wrap_Bare_spec h) (fun a => by first | rfl | simp only [wrap_BareE, evk, chks]) fun y84 hy84 => ?_
                  try simp only [wrap_BareE, evs, tys]
                  refine Imp.cnd ?_ ?_
                  · refine Imp.call (f := seinelaw4_awakeE) rfl (fun a h => by first | exact seinelaw4_awake_spec h | simpa only [evs, tys, evl] using seinelaw4_awake_spec h) (fun a => by first | rfl | simp only [seinelaw4_awakeE, evk, chks]) fun y86 hy86 => ?_
                    try simp only [seinelaw4_awakeE, evs, tys]
                    exact Imp.some (by first | rfl | simp only [seinelaw4_WrapItemsE, evs, tys, evl])
                  · exact Imp.some (by first | rfl | simp only [seinelaw4_WrapItemsE, evs, tys, evl])
                · exact Imp.some (by first | rfl | simp only [seinelaw4_WrapItemsE, evs, tys, evl])
          · refine Imp.cnd ?_ ?_
            · exact Imp.some (by first | rfl | simp only [seinelaw4_WrapItemsE, evs, tys, evl])
            · refine Imp.cnd ?_ ?_
              · refine Imp.cnd ?_ ?_
                · refine Imp.call (f := seinelaw4_awakeE) rfl (fun a h => by first | exact seinelaw4_awake_spec h | simpa only [evs, tys, evl] using seinelaw4_awake_spec h) (fun a => by first | rfl | simp only [seinelaw4_awakeE, evk, chks]) fun y88 hy88 => ?_
                  try simp only [seinelaw4_awakeE, evs, tys]
                  exact Imp.some (by first | rfl | simp only [seinelaw4_WrapItemsE, evs, tys, evl])
                · exact Imp.some (by first | rfl | simp only [seinelaw4_WrapItemsE, evs, tys, evl])
              · refine Imp.call (f := wrap_ListE) rfl (fun a h => by first | exact wrap_List_spec h | simpa only [evs, tys, evl] using wrap_List_spec h) (fun a => by first | rfl | simp only [wrap_ListE, evk, chks]) fun y90 hy90 => ?_
                try simp only [wrap_ListE, evs, tys]
                refine Imp.cnd ?_ ?_
                · refine Imp.call (f := wrap_BareE) rfl (fun a h => by first | exact wrap_Bare_spec h | simpa only [evs, tys, evl] using wrap_Bare_spec h) (fun a => by first | rfl | simp only [wrap_BareE, evk, chks]) fun y92 hy92 => ?_
                  try simp only [wrap_BareE, evs, tys]
                  refine Imp.cnd ?_ ?_
                  · refine Imp.call (f := seinelaw4_awakeE) rfl (fun a h => by first | exact seinelaw4_awake_spec h | simpa only [evs, tys, evl] using seinelaw4_awake_spec h) (fun a => by first | rfl | simp only [seinelaw4_awakeE, evk, chks]) fun y94 hy94 => ?_
                    try simp only [seinelaw4_awakeE, evs, tys]
                    exact Imp.some (by first | rfl | simp only [seinelaw4_WrapItemsE, evs, tys, evl])
                  · exact Imp.some (by first | rfl | simp only [seinelaw4_WrapItemsE, evs, tys, evl])
                · exact Imp.some (by first | rfl | simp only [seinelaw4_WrapItemsE, evs, tys, evl])
theorem seinelaw4_WrapItems_run {t : GType} {r : Bool} (h : seinelaw4_WrapItems_B t = some r) : seinelaw4_WrapItems t = some r := by
  obtain ⟨v, hv, rfl⟩ := seinelaw4_WrapItems_imp t r h
  exact tO_of (pair_inj seinelaw4_WrapItemsEj) (OL_runD seinelaw4_WrapItems_ds rfl rfl Try.func6 ((seinelaw4_WrapItems_t1 _ _ t).trans hv))
end Go.Proofs.Ytdnghbdhbahmeaa

/- Printed by symgen.py: typed functions of this seat, and why they tell what the program does. -/
set_option linter.unusedVariables false
set_option linter.unusedSimpArgs false
open Go Go.Ev Go.Ev.PV
namespace Go.Proofs.Ytdnghbdhbahmeaa
def seinelaw4_WrapSays_T1 (O : Orc) (LP : LBody → LBody) (t : GType) (s : Str) : Option (PV × UP) :=
  cnd (decide ((List.length t.name : Int) > 2000))
   (callp O 8 [] fun x1 => cnd (chk .bool x1)
   (some ((.bool (boolV x1)), [])) none)
   (cnd (decide ((List.length s : Int) > 2000))
    (callp O 8 [] fun x3 => cnd (chk .bool x3)
    (some ((.bool (boolV x3)), [])) none)
    (callp O 9 [(.agg [(.str t.name), (.int .i64 t.lists), (.int .i64 t.musts)])] fun x5 => cnd (chk (.tup [.str, .bool]) x5)
    (callp O 18 [(.agg [(.str t.name), (.int .i64 t.lists), (.int .i64 t.musts)])] fun x7 => cnd (chk (.tup [.str, .bool]) x7)
    (cnd (!((strV (gt (tupV x5) 0)) == (strV (gt (tupV x7) 0))))
     (some ((.bool false), []))
     (cnd (!((boolV (gt (tupV x5) 1)) == (boolV (gt (tupV x7) 1))))
      (some ((.bool false), []))
      (callp O 11 [(.agg [(.str t.name), (.int .i64 t.lists), (.int .i64 t.musts)])] fun x9 => cnd (chk .bool x9)
      (callp O 19 [(.agg [(.str t.name), (.int .i64 t.lists), (.int .i64 t.musts)])] fun x11 => cnd (chk .bool x11)
      (cnd (!((boolV x9) == (boolV x11)))
       (some ((.bool false), []))
       (callp O 10 [(.str s)] fun x13 => cnd (chk (.tup [shType, .bool]) x13)
       (callp O 20 [(.str s)] fun x15 => cnd (chk (.tup [shType, .bool]) x15)
       (cnd (!(((strV (gt (aggV (gt (tupV x13) 0)) 0)) == (strV (gt (aggV (gt (tupV x15) 0)) 0))) && (((intV (gt (aggV (gt (tupV x13) 0)) 1)) == (intV (gt (aggV (gt (tupV x15) 0)) 1))) && (((intV (gt (aggV (gt (tupV x13) 0)) 2)) == (intV (gt (aggV (gt (tupV x15) 0)) 2))) && true))))
        (some ((.bool false), []))
        (cnd (!((boolV (gt (tupV x13) 1)) == (boolV (gt (tupV x15) 1))))
         (some ((.bool false), []))
         (callp O 15 [(.agg [(.str t.name), (.int .i64 t.lists), (.int .i64 t.musts)])] fun x17 => cnd (chk (.tup [shType, .bool]) x17)
         (callp O 21 [(.agg [(.str t.name), (.int .i64 t.lists), (.int .i64 t.musts)])] fun x19 => cnd (chk (.tup [shType, .bool]) x19)
         (cnd (!(((strV (gt (aggV (gt (tupV x17) 0)) 0)) == (strV (gt (aggV (gt (tupV x19) 0)) 0))) && (((intV (gt (aggV (gt (tupV x17) 0)) 1)) == (intV (gt (aggV (gt (tupV x19) 0)) 1))) && (((intV (gt (aggV (gt (tupV x17) 0)) 2)) == (intV (gt (aggV (gt (tupV x19) 0)) 2))) && true))))
          (some ((.bool false), []))
          (cnd (!((boolV (gt (tupV x17) 1)) == (boolV (gt (tupV x19) 1))))
           (some ((.bool false), []))
           (callp O 14 [(.agg [(.str t.name), (.int .i64 t.lists), (.int .i64 t.musts)])] fun x21 => cnd (chk (.tup [shType, .bool]) x21)
           (callp O 22 [(.agg [(.str t.name), (.int .i64 t.lists), (.int .i64 t.musts)])] fun x23 => cnd (chk (.tup [shType, .bool]) x23)
           (cnd (((strV (gt (aggV (gt (tupV x21) 0)) 0)) == (strV (gt (aggV (gt (tupV x23) 0)) 0))) && (((intV (gt (aggV (gt (tupV x21) 0)) 1)) == (intV (gt (aggV (gt (tupV x23) 0)) 1))) && (((intV (gt (aggV (gt (tupV x21) 0)) 2)) == (intV (gt (aggV (gt (tupV x23) 0)) 2))) && true)))
            (cnd ((boolV (gt (tupV x21) 1)) == (boolV (gt (tupV x23) 1)))
             (callp O 23 [(.agg [(.str t.name), (.int .i64 t.lists), (.int .i64 t.musts)])] fun x25 => cnd (chk shType x25)
             (callp O 24 [(.agg [(.str t.name), (.int .i64 t.lists), (.int .i64 t.musts)])] fun x27 => cnd (chk shType x27)
             (cnd (((strV (gt (aggV x25) 0)) == (strV (gt (aggV x27) 0))) && (((intV (gt (aggV x25) 1)) == (intV (gt (aggV x27) 1))) && (((intV (gt (aggV x25) 2)) == (intV (gt (aggV x27) 2))) && true)))
              (callp O 17 [(.agg [(.str t.name), (.int .i64 t.lists), (.int .i64 t.musts)])] fun x29 => cnd (chk shType x29)
              (callp O 25 [(.agg [(.str t.name), (.int .i64 t.lists), (.int .i64 t.musts)])] fun x31 => cnd (chk shType x31)
              (cnd (((strV (gt (aggV x29) 0)) == (strV (gt (aggV x31) 0))) && (((intV (gt (aggV x29) 1)) == (intV (gt (aggV x31) 1))) && (((intV (gt (aggV x29) 2)) == (intV (gt (aggV x31) 2))) && true)))
               (callp O 16 [(.agg [(.str t.name), (.int .i64 t.lists), (.int .i64 t.musts)])] fun x33 => cnd (chk .bool x33)
               (callp O 26 [(.agg [(.str t.name), (.int .i64 t.lists), (.int .i64 t.musts)])] fun x35 => cnd (chk .bool x35)
               (cnd ((boolV x33) == (boolV x35))
                (callp O 8 [] fun x37 => cnd (chk .bool x37)
                (some ((.bool (boolV x37)), [])) none)
                (some ((.bool false), []))) none) none)
               (some ((.bool false), []))) none) none)
              (some ((.bool false), []))) none) none)
             (some ((.bool false), [])))
            (some ((.bool false), []))) none) none))) none) none))) none) none)) none) none))) none) none))
noncomputable def seinelaw4_WrapSays_B (t : GType) (s : Str) : Option Bool :=
  cnd (decide ((List.length t.name : Int) > 2000))
   (bnd (seinelaw4_awake) fun y2 =>
   some y2)
   (cnd (decide ((List.length s : Int) > 2000))
    (bnd (seinelaw4_awake) fun y4 =>
    some y4)
    (bnd (wrap_Print t) fun y6 =>
    bnd (seineref1_PrintType t) fun y8 =>
    cnd (!(y6.1 == y8.1))
     (some false)
     (cnd (!(y6.2 == y8.2))
      (some false)
      (bnd (wrap_Right t) fun y10 =>
      bnd (seineref1_RightType t) fun y12 =>
      cnd (!(y10 == y12))
       (some false)
       (bnd (wrap_Read s) fun y14 =>
       bnd (seineref1_ReadType s) fun y16 =>
       cnd (!((y14.1.name == y16.1.name) && ((y14.1.lists == y16.1.lists) && ((y14.1.musts == y16.1.musts) && true))))
        (some false)
        (cnd (!(y14.2 == y16.2))
         (some false)
         (bnd (wrap_Item t) fun y18 =>
         bnd (seineref1_Item t) fun y20 =>
         cnd (!((y18.1.name == y20.1.name) && ((y18.1.lists == y20.1.lists) && ((y18.1.musts == y20.1.musts) && true))))
          (some false)
          (cnd (!(y18.2 == y20.2))
           (some false)
           (bnd (wrap_List t) fun y22 =>
           bnd (seineref1_List t) fun y24 =>
           cnd ((y22.1.name == y24.1.name) && ((y22.1.lists == y24.1.lists) && ((y22.1.musts == y24.1.musts) && true)))
            (cnd (y22.2 == y24.2)
             (bnd (wrap_Must t) fun y26 =>
             bnd (seineref1_Must t) fun y28 =>
             cnd ((y26.name == y28.name) && ((y26.lists == y28.lists) && ((y26.musts == y28.musts) && true)))
              (bnd (wrap_Bare t) fun y30 =>
              bnd (seineref1_Bare t) fun y32 =>
              cnd ((y30.name == y32.name) && ((y30.lists == y32.lists) && ((y30.musts == y32.musts) && true)))
               (bnd (wrap_Is t) fun y34 =>
               bnd (seineref1_Is t) fun y36 =>
               cnd (y34 == y36)
                (bnd (seinelaw4_awake) fun y38 =>
                some y38)
                (some false))
               (some false))
              (some false))
             (some false))
            (some false))))))))))
def seinelaw4_WrapSays_ds : Decs := { decs := [(20, .bool), (23, (.tup [.str, .bool])), (28, (.tup [.str, .bool])), (41, .bool), (43, .bool), (48, (.tup [shType, .bool])), (53, (.tup [shType, .bool])), (66, (.tup [shType, .bool])), (71, (.tup [shType, .bool])), (84, (.tup [shType, .bool])), (89, (.tup [shType, .bool])), (102, shType), (104, shType), (109, shType), (111, shType), (116, .bool), (118, .bool), (122, .bool)], ups := [], loops := [] }
set_option maxRecDepth 100000 in
theorem seinelaw4_WrapSays_t1 (O : Orc) (LP : LBody → LBody) (t : GType) (s : Str) : evalBodyD Try.prog (MT 7) seinelaw4_WrapSays_ds Try.f7.ntmps O LP Try.f7 [(.agg [(.str t.name), (.int .i64 t.lists), (.int .i64 t.musts)]), (.str s)] [] = seinelaw4_WrapSays_T1 O LP t s := by kernel_rfl
theorem seinelaw4_WrapSays_imp (t : GType) (s : Str) : Imp (seinelaw4_WrapSays_B t s) (seinelaw4_WrapSays_T1 O loopLim t s) (fun r v => v = (seinelaw4_WrapSaysE r, [])) := by
  simp only [seinelaw4_WrapSays_B, seinelaw4_WrapSays_T1]
  try simp only [evs, tys]
  refine Imp.cnd ?_ ?_
  · refine Imp.call (f := seinelaw4_awakeE) rfl (fun a h => by first | exact seinelaw4_awake_spec h | simpa only [evs, tys, evl] using seinelaw4_awake_spec h) (fun a => by first | rfl | simp only [seinelaw4_awakeE, evk, chks]) fun y2 hy2 => ?_
    try simp only [seinelaw4_awakeE, evs, tys]
    exact Imp.some (by first | rfl | simp only [seinelaw4_WrapSaysE, evs, tys, evl])
  · refine Imp.cnd ?_ ?_
    · refine Imp.call (f := seinelaw4_awakeE) rfl (fun a h => by first | exact seinelaw4_awake_spec h | simpa only [evs, tys, evl] using seinelaw4_awake_spec h) (fun a => by first | rfl | simp only [seinelaw4_awakeE, evk, chks]) fun y4 hy4 => ?_
      try simp only [seinelaw4_awakeE, evs, tys]
      exact Imp.some (by first | rfl | simp only [seinelaw4_WrapSaysE, evs, tys, evl])
    · refine Imp.call (f := wrap_PrintE) rfl (fun a h => by first | exact wrap_Print_spec h | simpa only [evs, tys, evl] using wrap_Print_spec h) (fun a => by first | rfl | simp only [wrap_PrintE, evk, chks]) fun y6 hy6 => ?_
      try simp only [wrap_PrintE, evs, tys]
      refine Imp.call (f := seineref1_PrintTypeE) rfl (fun a h => by first | exact seineref1_PrintType_spec h | simpa only [evs, tys, evl] using seineref1_PrintType_spec h) (fun a => by first | rfl | simp only [seineref1_PrintTypeE, evk, chks]) fun y8 hy8 => ?_
      try simp only [seineref1_PrintTypeE, evs, tys]
      refine Imp.cnd ?_ ?_
      · exact Imp.some (by first | rfl | simp only [seinelaw4_WrapSaysE, evs, tys, evl])
      · refine Imp.cnd ?_ ?_
        · exact Imp.some (by first | rfl | simp only [seinelaw4_WrapSaysE, evs, tys, evl])
        · refine Imp.call (f := wrap_RightE) rfl (fun a h => by first | exact wrap_Right_spec h | simpa only [evs, tys, evl] using wrap_Right_spec h) (fun a => by first | rfl | simp only [wrap_RightE, evk, chks]) fun y10 hy10 => ?_
          try simp only [wrap_RightE, evs, tys]
          refine Imp.call (f := seineref1_RightTypeE) rfl (fun a h => by first | exact seineref1_RightType_spec h | simpa only [evs, tys, evl] using seineref1_RightType_spec h) (fun a => by first | rfl | simp only [seineref1_RightTypeE, evk, chks]) fun y12 hy12 => ?_
          try simp only [seineref1_RightTypeE, evs, tys]
          refine Imp.cnd ?_ ?_
          · exact Imp.some (by first | rfl | simp only [seinelaw4_WrapSaysE, evs, tys, evl])
          · refine Imp.call (f := wrap_ReadE) rfl (fun a h => by first | exact wrap_Read_spec h | simpa only [evs, tys, evl] using wrap_Read_spec h) (fun a => by first | rfl | simp only [wrap_ReadE, evk, chks]) fun y14 hy14 => ?_
            try simp only [wrap_ReadE, evs, tys]
            refine Imp.call (f := seineref1_ReadTypeE) rfl (fun a h => by first | exact seineref1_ReadType_spec h | simpa only [evs, tys, evl] using seineref1_ReadType_spec h) (fun a => by first | rfl | simp only [seineref1_ReadTypeE, evk, chks]) fun y16 hy16 => ?_
            try simp only [seineref1_ReadTypeE, evs, tys]
            refine Imp.cnd ?_ ?_
            · exact Imp.some (by first | rfl | simp only [seinelaw4_WrapSaysE, evs, tys, evl])
            · refine Imp.cnd ?_ ?_
              · exact Imp.some (by first | rfl | simp only [seinelaw4_WrapSaysE, evs, tys, evl])
              · refine Imp.call (f := wrap_ItemE) rfl (fun a h => by first | exact wrap_Item_spec h | simpa only [evs, tys, evl] using wrap_Item_spec h) (fun a => by first | rfl | simp only [wrap_ItemE, evk, chks]) fun y18 hy18 => ?_
                try simp only [wrap_ItemE, evs, tys]
                refine Imp.call (f := seineref1_ItemE) rfl (fun a h => by first | exact seineref1_Item_spec h | simpa only [evs, tys, evl] using seineref1_Item_spec h) (fun a => by first | rfl | simp only [seineref1_ItemE, evk, chks]) fun y20 hy20 => ?_
                try simp only [seineref1_ItemE, evs, tys]
                refine Imp.cnd ?_ ?_
                · exact Imp.some (by first | rfl | simp only [seinelaw4_WrapSaysE, evs, tys, evl])
                · refine Imp.cnd ?_ ?_
                  · exact Imp.some (by first | rfl | simp only [seinelaw4_WrapSaysE, evs, tys, evl])
                  · refine Imp.call (f := wrap_ListE) rfl (fun a h => by first | exact wrap_List_spec h | simpa only [evs, tys, evl] using wrap_List_spec h) (fun a => by first | rfl | simp only [wrap_ListE, evk, chks]) fun y22 hy22 => ?_
                    try simp only [wrap_ListE, evs, tys]
                    refine Imp.call (f := seineref1_ListE) rfl (fun a h => by first | exact seineref1_List_spec h | simpa only [evs, tys, evl] using seineref1_List_spec h) (fun a => by first | rfl | simp only [seineref1_ListE, evk, chks]) fun y24 hy24 => ?_
                    try simp only [seineref1_ListE, evs, tys]
                    refine Imp.cnd ?_ ?_
                    · refine Imp.cnd ?_ ?_
                      · refine Imp.call (f := wrap_MustE) rfl (fun a h => by first | exact wrap_Must_spec h | simpa only [evs, tys, evl] using wrap_Must_spec h) (fun a => by first | rfl | simp only [wrap_MustE, evk, chks]) fun y26 hy26 => ?_
                        try simp only [wrap_MustE, evs, tys]
                        refine Imp.call (f := seineref1_MustE) rfl (fun a h => by first | exact seineref1_Must_spec h | simpa only [evs, tys, evl] using seineref1_Must_spec h) (fun a => by first | rfl | simp only [seineref1_MustE, evk, chks]) fun y28 hy28 => ?_
                        try simp only [seineref1_MustE, evs, tys]
                        refine Imp.cnd ?_ ?_
                        · refine Imp.call (f := wrap_BareE) rfl (fun a h => by first | exact wrap_Bare_spec h | simpa only [evs, tys, evl] using wrap_Bare_spec h) (fun a => by first | rfl | simp only [wrap_BareE, evk, chks]) fun y30 hy30 => ?_
                          try simp only [wrap_BareE, evs, tys]
                          refine Imp.call (f := seineref1_BareE) rfl (fun a h => by first | exact seineref1_Bare_spec h | simpa only [evs, tys, evl] using seineref1_Bare_spec h) (fun a => by first | rfl | simp only [seineref1_BareE, evk, chks]) fun y32 hy32 => ?_
                          try simp only [seineref1_BareE, evs, tys]
                          refine Imp.cnd ?_ ?_
                          · refine Imp.call (f := wrap_IsE) rfl (fun a h => by first | exact wrap_Is_spec h | simpa only [evs, tys, evl] using wrap_Is_spec h) (fun a => by first | rfl | simp only [wrap_IsE, evk, chks]) fun y34 hy34 => ?_
                            try simp only [wrap_IsE, evs, tys]
                            refine Imp.call (f := seineref1_IsE) rfl (fun a h => by first | exact seineref1_Is_spec h | simpa only [evs, tys, evl] using seineref1_Is_spec h) (fun a => by first | rfl | simp only [seineref1_IsE, evk, chks]) fun y36 hy36 => ?_
                            try simp only [seineref1_IsE, evs, tys]
                            refine Imp.cnd ?_ ?_
                            · refine Imp.call (f := seinelaw4_awakeE) rfl (fun a h => by first | exact seinelaw4_awake_spec h | simpa only [evs, tys, evl] using seinelaw4_awake_spec h) (fun a => by first | rfl | simp only [seinelaw4_awakeE, evk, chks]) fun y38 hy38 => ?_
                              try simp only [seinelaw4_awakeE, evs, tys]
                              exact Imp.some (by first | rfl | simp only [seinelaw4_WrapSaysE, evs, tys, evl])
                            · exact Imp.some (by first | rfl | simp only [seinelaw4_WrapSaysE, evs, tys, evl])
                          · exact Imp.some (by first | rfl | simp only [seinelaw4_WrapSaysE, evs, tys, evl])
                        · exact Imp.some (by first | rfl | simp only [seinelaw4_WrapSaysE, evs, tys, evl])
                      · exact Imp.some (by first | rfl | simp only [seinelaw4_WrapSaysE, evs, tys, evl])
                    · exact Imp.some (by first | rfl | simp only [seinelaw4_WrapSaysE, evs, tys, evl])
theorem seinelaw4_WrapSays_run {t : GType} {s : Str} {r : Bool} (h : seinelaw4_WrapSays_B t s = some r) : seinelaw4_WrapSays t s = some r := by
  obtain ⟨v, hv, rfl⟩ := seinelaw4_WrapSays_imp t s r h
  exact tO_of (pair_inj seinelaw4_WrapSaysEj) (OL_runD seinelaw4_WrapSays_ds rfl rfl Try.func7 ((seinelaw4_WrapSays_t1 _ _ t s).trans hv))

theorem seinelaw4_awake_run {r : Bool} (n : Nat) (h : evalK Try.prog MT XT n 8 [] [] = some (seinelaw4_awakeE r, [])) : seinelaw4_awake = some r := tO_of (pair_inj seinelaw4_awakeEj) (evalK_OL n h)

def wrap_Print_l1 (O : Orc) (LP : LBody → LBody) : LBody := fun s7 s7u => cnd (chkL [(.ptr 0 1 0), .str, (.int .i64), .str, (.int .i64), (.int .i64)] s7) (cnd (chkU [] s7u)
  (cnd (decide ((intV (gt s7 2)) ≥ 0))
   (cnd (decide ((intV (gt s7 2)) < (intV (gt s7 4))))
    (bnd (bin .add (.str (strV (gt s7 1))) (.str [93])) fun x20 => cnd (chk .str x20)
    (callp O 28 [(.agg [(.str (strV (gt s7 3))), (.int .i64 (intV (gt s7 4))), (.int .i64 (intV (gt s7 5)))]), (.int .i64 (intV (gt s7 2)))] fun x22 => cnd (chk .bool x22)
    (cnd (boolV x22)
     (bnd (bin .add (.str (strV x20)) (.str [33])) fun x24 => cnd (chk .str x24)
     (some (.nrm, [(.ptr 0 1 0), (.str (strV x24)), (.int .i64 (IntKind.wrap .i64 ((intV (gt s7 2)) - 1))), (.str (strV (gt s7 3))), (.int .i64 (intV (gt s7 4))), (.int .i64 (intV (gt s7 5)))], [])) none)
     (some (.nrm, [(.ptr 0 1 0), (.str (strV x20)), (.int .i64 (IntKind.wrap .i64 ((intV (gt s7 2)) - 1))), (.str (strV (gt s7 3))), (.int .i64 (intV (gt s7 4))), (.int .i64 (intV (gt s7 5)))], []))) none) none)
    (callp O 28 [(.agg [(.str (strV (gt s7 3))), (.int .i64 (intV (gt s7 4))), (.int .i64 (intV (gt s7 5)))]), (.int .i64 (intV (gt s7 2)))] fun x26 => cnd (chk .bool x26)
    (cnd (boolV x26)
     (bnd (bin .add (.str (strV (gt s7 1))) (.str [33])) fun x28 => cnd (chk .str x28)
     (some (.nrm, [(.ptr 0 1 0), (.str (strV x28)), (.int .i64 (IntKind.wrap .i64 ((intV (gt s7 2)) - 1))), (.str (strV (gt s7 3))), (.int .i64 (intV (gt s7 4))), (.int .i64 (intV (gt s7 5)))], [])) none)
     (some (.nrm, [(.ptr 0 1 0), (.str (strV (gt s7 1))), (.int .i64 (IntKind.wrap .i64 ((intV (gt s7 2)) - 1))), (.str (strV (gt s7 3))), (.int .i64 (intV (gt s7 4))), (.int .i64 (intV (gt s7 5)))], []))) none))
   (some (.brk 0, [(.ptr 0 1 0), (.str (strV (gt s7 1))), (.int .i64 (intV (gt s7 2))), (.str (strV (gt s7 3))), (.int .i64 (intV (gt s7 4))), (.int .i64 (intV (gt s7 5)))], []))) none) none
def wrap_Print_T1 (O : Orc) (LP : LBody → LBody) (t : GType) : Option (PV × UP) :=
  callp O 11 [(.agg [(.str t.name), (.int .i64 t.lists), (.int .i64 t.musts)])] fun x1 => cnd (chk .bool x1)
  (cnd (!(boolV x1))
   (some ((.tuple [(.str []), (.bool false)]), []))
   (callp O 27 [(.str [91]), (.int .i64 t.lists)] fun x3 => cnd (chk .str x3)
   (bnd (bin .add (.str (strV x3)) (.str t.name)) fun x5 => cnd (chk .str x5)
   (bnd (LP (wrap_Print_l1 O LP) [(.ptr 0 1 0), (.str (strV x5)), (.int .i64 t.lists), (.str t.name), (.int .i64 t.lists), (.int .i64 t.musts)] []) fun y32 =>
   exIs y32.1 (some 0) (cnd (chkL [(.ptr 0 1 0), .str, (.int .i64), .str, (.int .i64), (.int .i64)] y32.2.1) (cnd (chkU [] y32.2.2)
    (some ((.tuple [(.str (strV (gt y32.2.1 1))), (.bool true)]), [])) none) none)
   (none)) none) none)) none
noncomputable def wrap_Print_l1T (t : GType) : (Str × Int) → Option ((Str × Int) ⊕ Str)
  | (s_18, i_19) =>
  cnd (decide (i_19 ≥ 0))
   (cnd (decide (i_19 < t.lists))
    (bnd (tapp s_18 ([93] : Str)) fun y21 =>
    bnd (wrap_bit t i_19) fun y23 =>
    cnd y23
     (bnd (tapp y21 ([33] : Str)) fun y25 =>
     some (.inl (y25, (IntKind.wrap .i64 (i_19 - 1)))))
     (some (.inl (y21, (IntKind.wrap .i64 (i_19 - 1))))))
    (bnd (wrap_bit t i_19) fun y27 =>
    cnd y27
     (bnd (tapp s_18 ([33] : Str)) fun y29 =>
     some (.inl (y29, (IntKind.wrap .i64 (i_19 - 1)))))
     (some (.inl (s_18, (IntKind.wrap .i64 (i_19 - 1)))))))
   (some (.inr s_18))
abbrev wrap_Print_l1R (t : GType) (st : Str × Int) (l : List PV) (u : UP) : Prop := l = [(.ptr 0 1 0), (.str st.1), (.int .i64 st.2), (.str t.name), (.int .i64 t.lists), (.int .i64 t.musts)] ∧ u = []
abbrev wrap_Print_l1X (t : GType) (p : Str) (r : Ex × List PV × UP) : Prop := (fun (p : Str) => ∃ (i_31 : Int), r = (Ex.brk 0, [(.ptr 0 1 0), (.str p), (.int .i64 i_31), (.str t.name), (.int .i64 t.lists), (.int .i64 t.musts)], [])) p
noncomputable def wrap_Print_B (t : GType) : Option (Str × Bool) :=
  bnd (wrap_Right t) fun y2 =>
  cnd (!y2)
   (some ([], false))
   (bnd (strings_Repeat [91] t.lists) fun y4 =>
   bnd (tapp y4 t.name) fun y6 =>
   bnd (tloop (wrap_Print_l1T t) (y6, t.lists)) fun s_30 =>
   some (s_30, true))
def wrap_Print_ds : Decs := { decs := [(7, .bool), (11, .str), (14, .str), (26, .str), (29, .bool), (31, .str)], ups := [], loops := [(5, [(1, 3)], ⟨[(.ptr 0 1 0), .str, (.int .i64), .str, (.int .i64), (.int .i64)], [], [(some 0, [(.ptr 0 1 0), .str, (.int .i64), .str, (.int .i64), (.int .i64)], [])]⟩)] }
set_option maxRecDepth 100000 in
theorem wrap_Print_t1 (O : Orc) (LP : LBody → LBody) (t : GType) : evalBodyD Try.prog (MT 9) wrap_Print_ds Try.f9.ntmps O LP Try.f9 [(.agg [(.str t.name), (.int .i64 t.lists), (.int .i64 t.musts)])] [] = wrap_Print_T1 O LP t := by kernel_rfl
theorem wrap_Print_l1_ok (t : GType) : ∀ st l u, wrap_Print_l1R t st l u → Imp (wrap_Print_l1T t st) (wrap_Print_l1 O loopLim l u) (StepR (wrap_Print_l1R t) (wrap_Print_l1X t)) := by
  rintro ⟨s_18, i_19⟩ l u ⟨rfl, rfl⟩
  simp only [wrap_Print_l1T, wrap_Print_l1]
  refine Imp.chk rfl (Imp.chk rfl ?_)
  try simp only [evs, tys]
  refine Imp.cnd ?_ ?_
  · refine Imp.cnd ?_ ?_
    · refine Imp.op (f := fun a => .str a) (fun a h => op_cat h) (fun a => rfl) fun y21 hy21 => ?_
      try simp only [evs, tys]
      refine Imp.call (f := wrap_bitE) rfl (fun a h => by first | exact wrap_bit_spec h | simpa only [evs, tys, evl] using wrap_bit_spec h) (fun a => by first | rfl | simp only [wrap_bitE, evk, chks]) fun y23 hy23 => ?_
      try simp only [wrap_bitE, evs, tys]
      refine Imp.cnd ?_ ?_
      · refine Imp.op (f := fun a => .str a) (fun a h => op_cat h) (fun a => rfl) fun y25 hy25 => ?_
        try simp only [evs, tys]
        exact Imp.some (StepR.next ⟨by first | rfl | simp only [evs, tys, evl], rfl⟩)
      · exact Imp.some (StepR.next ⟨by first | rfl | simp only [evs, tys, evl], rfl⟩)
    · refine Imp.call (f := wrap_bitE) rfl (fun a h => by first | exact wrap_bit_spec h | simpa only [evs, tys, evl] using wrap_bit_spec h) (fun a => by first | rfl | simp only [wrap_bitE, evk, chks]) fun y27 hy27 => ?_
      try simp only [wrap_bitE, evs, tys]
      refine Imp.cnd ?_ ?_
      · refine Imp.op (f := fun a => .str a) (fun a h => op_cat h) (fun a => rfl) fun y29 hy29 => ?_
        try simp only [evs, tys]
        exact Imp.some (StepR.next ⟨by first | rfl | simp only [evs, tys, evl], rfl⟩)
      · exact Imp.some (StepR.next ⟨by first | rfl | simp only [evs, tys, evl], rfl⟩)
  · exact Imp.some (StepR.brk ⟨i_19, by first | rfl | simp only [evs, tys, evl, elim_inl, elim_inr]⟩)
theorem wrap_Print_imp (t : GType) : Imp (wrap_Print_B t) (wrap_Print_T1 O loopLim t) (fun r v => v = (wrap_PrintE r, [])) := by
  simp only [wrap_Print_B, wrap_Print_T1]
  try simp only [evs, tys]
  refine Imp.call (f := wrap_RightE) rfl (fun a h => by first | exact wrap_Right_spec h | simpa only [evs, tys, evl] using wrap_Right_spec h) (fun a => by first | rfl | simp only [wrap_RightE, evk, chks]) fun y2 hy2 => ?_
  try simp only [wrap_RightE, evs, tys]
  refine Imp.cnd ?_ ?_
  · exact Imp.some (by first | rfl | simp only [wrap_PrintE, evs, tys, evl])
  · refine Imp.call (f := strings_RepeatE) rfl (fun a h => by first | exact strings_Repeat_spec h | simpa only [evs, tys, evl] using strings_Repeat_spec h) (fun a => by first | rfl | simp only [strings_RepeatE, evk, chks]) fun y4 hy4 => ?_
    try simp only [strings_RepeatE, evs, tys]
    refine Imp.op (f := fun a => .str a) (fun a h => op_cat h) (fun a => rfl) fun y6 hy6 => ?_
    try simp only [evs, tys]
    refine Imp.bnd (Imp.loop (wrap_Print_l1_ok t) ⟨by first | rfl | simp only [evs, tys, evl], rfl⟩) ?_
    rintro s_30 vy32 hy32
    obtain ⟨i_31, rfl⟩ := hy32
    refine Imp.exHit rfl (Imp.chk rfl (Imp.chk rfl ?_))
    try simp only [evs, tys]
    exact Imp.some (by first | rfl | simp only [wrap_PrintE, evs, tys, evl])
theorem wrap_Print_run {t : GType} {r : Str × Bool} (h : wrap_Print_B t = some r) : wrap_Print t = some r := by
  obtain ⟨v, hv, rfl⟩ := wrap_Print_imp t r h
  exact tO_of (pair_inj wrap_PrintEj) (OL_runD wrap_Print_ds rfl rfl Try.func9 ((wrap_Print_t1 _ _ t).trans hv))
end Go.Proofs.Ytdnghbdhbahmeaa

/- Printed by symgen.py: typed functions of this seat, and why they tell what the program does. -/
set_option linter.unusedVariables false
set_option linter.unusedSimpArgs false
open Go Go.Ev Go.Ev.PV
namespace Go.Proofs.Ytdnghbdhbahmeaa
def wrap_Read_l1 (O : Orc) (LP : LBody → LBody) : LBody := fun s1 s1u => cnd (chkL [.str, (.ptr 0 2 0), (.int .i64), .str, (.int .i64), (.int .i64)] s1) (cnd (chkU [] s1u)
  (cnd (decide ((intV (gt s1 2)) < (List.length (strV (gt s1 0)) : Int)))
   (bnd (ixStr (.str (strV (gt s1 0))) (.int .i64 (intV (gt s1 2)))) fun x5 => cnd (chk (.int .u8) x5)
   (cnd ((intV x5) == 91)
    (some (.nrm, [(.str (strV (gt s1 0))), (.ptr 0 2 0), (.int .i64 (IntKind.wrap .i64 ((intV (gt s1 2)) + 1))), (.str (strV (gt s1 3))), (.int .i64 (intV (gt s1 4))), (.int .i64 (intV (gt s1 5)))], []))
    (some (.brk 0, [(.str (strV (gt s1 0))), (.ptr 0 2 0), (.int .i64 (intV (gt s1 2))), (.str (strV (gt s1 3))), (.int .i64 (intV (gt s1 4))), (.int .i64 (intV (gt s1 5)))], []))) none)
   (some (.brk 0, [(.str (strV (gt s1 0))), (.ptr 0 2 0), (.int .i64 (intV (gt s1 2))), (.str (strV (gt s1 3))), (.int .i64 (intV (gt s1 4))), (.int .i64 (intV (gt s1 5)))], []))) none) none
def wrap_Read_l2 (O : Orc) (LP : LBody → LBody) : LBody := fun s9 s9u => cnd (chkL [.str, (.ptr 0 2 0), (.int .i64), (.int .i64), .str, (.int .i64), (.int .i64)] s9) (cnd (chkU [] s9u)
  (cnd (decide ((intV (gt s9 3)) < (List.length (strV (gt s9 0)) : Int)))
   (bnd (ixStr (.str (strV (gt s9 0))) (.int .i64 (intV (gt s9 3)))) fun x15 => cnd (chk (.int .u8) x15)
   (cnd ((intV x15) != 93)
    (bnd (ixStr (.str (strV (gt s9 0))) (.int .i64 (intV (gt s9 3)))) fun x17 => cnd (chk (.int .u8) x17)
    (cnd ((intV x17) != 33)
     (some (.nrm, [(.str (strV (gt s9 0))), (.ptr 0 2 0), (.int .i64 (intV (gt s9 2))), (.int .i64 (IntKind.wrap .i64 ((intV (gt s9 3)) + 1))), (.str (strV (gt s9 4))), (.int .i64 (intV (gt s9 5))), (.int .i64 (intV (gt s9 6)))], []))
     (some (.brk 2, [(.str (strV (gt s9 0))), (.ptr 0 2 0), (.int .i64 (intV (gt s9 2))), (.int .i64 (intV (gt s9 3))), (.str (strV (gt s9 4))), (.int .i64 (intV (gt s9 5))), (.int .i64 (intV (gt s9 6)))], []))) none)
    (some (.brk 2, [(.str (strV (gt s9 0))), (.ptr 0 2 0), (.int .i64 (intV (gt s9 2))), (.int .i64 (intV (gt s9 3))), (.str (strV (gt s9 4))), (.int .i64 (intV (gt s9 5))), (.int .i64 (intV (gt s9 6)))], []))) none)
   (some (.brk 2, [(.str (strV (gt s9 0))), (.ptr 0 2 0), (.int .i64 (intV (gt s9 2))), (.int .i64 (intV (gt s9 3))), (.str (strV (gt s9 4))), (.int .i64 (intV (gt s9 5))), (.int .i64 (intV (gt s9 6)))], []))) none) none
def wrap_Read_l3 (O : Orc) (LP : LBody → LBody) : LBody := fun s25 s25u => cnd (chkL [.str, (.ptr 0 2 0), (.int .i64), (.ptr 0 6 0), .str, (.int .i64), .str, (.int .i64), (.int .i64), .str, (.int .i64), (.int .i64)] s25) (cnd (chkU [] s25u)
  (cnd (decide ((intV (gt s25 5)) ≥ 0))
   (cnd (decide ((intV (gt s25 5)) < (intV (gt s25 2))))
    (callp O 29 [(.str (strV (gt s25 4))), (.str [93])] fun x43 => cnd (chk .str x43)
    (callp O 30 [(.str (strV x43)), (.str [33])] fun x45 => cnd (chk .bool x45)
    (cnd (boolV x45)
     (bnd (bin .shl (.int .i64 1) (.int .i64 (intV (gt s25 5)))) fun x47 => cnd (chk (.int .i64) x47)
     (bnd (slcLo 0 (.str (strV x43)) (.int .i64 1)) fun x49 => cnd (chk .str x49)
     (some (.nrm, [(.str (strV (gt s25 0))), (.ptr 0 2 0), (.int .i64 (intV (gt s25 2))), (.ptr 0 6 0), (.str (strV x49)), (.int .i64 (IntKind.wrap .i64 ((intV (gt s25 5)) - 1))), (.str (strV (gt s25 6))), (.int .i64 (intV (gt s25 7))), (.int .i64 (bits .or .i64 (intV (gt s25 8)) (intV x47))), (.str (strV (gt s25 9))), (.int .i64 (intV (gt s25 10))), (.int .i64 (intV (gt s25 11)))], [])) none) none)
     (some (.nrm, [(.str (strV (gt s25 0))), (.ptr 0 2 0), (.int .i64 (intV (gt s25 2))), (.ptr 0 6 0), (.str (strV x43)), (.int .i64 (IntKind.wrap .i64 ((intV (gt s25 5)) - 1))), (.str (strV (gt s25 6))), (.int .i64 (intV (gt s25 7))), (.int .i64 (intV (gt s25 8))), (.str (strV (gt s25 9))), (.int .i64 (intV (gt s25 10))), (.int .i64 (intV (gt s25 11)))], []))) none) none)
    (callp O 30 [(.str (strV (gt s25 4))), (.str [33])] fun x51 => cnd (chk .bool x51)
    (cnd (boolV x51)
     (bnd (bin .shl (.int .i64 1) (.int .i64 (intV (gt s25 5)))) fun x53 => cnd (chk (.int .i64) x53)
     (bnd (slcLo 0 (.str (strV (gt s25 4))) (.int .i64 1)) fun x55 => cnd (chk .str x55)
     (some (.nrm, [(.str (strV (gt s25 0))), (.ptr 0 2 0), (.int .i64 (intV (gt s25 2))), (.ptr 0 6 0), (.str (strV x55)), (.int .i64 (IntKind.wrap .i64 ((intV (gt s25 5)) - 1))), (.str (strV (gt s25 6))), (.int .i64 (intV (gt s25 7))), (.int .i64 (bits .or .i64 (intV (gt s25 8)) (intV x53))), (.str (strV (gt s25 9))), (.int .i64 (intV (gt s25 10))), (.int .i64 (intV (gt s25 11)))], [])) none) none)
     (some (.nrm, [(.str (strV (gt s25 0))), (.ptr 0 2 0), (.int .i64 (intV (gt s25 2))), (.ptr 0 6 0), (.str (strV (gt s25 4))), (.int .i64 (IntKind.wrap .i64 ((intV (gt s25 5)) - 1))), (.str (strV (gt s25 6))), (.int .i64 (intV (gt s25 7))), (.int .i64 (intV (gt s25 8))), (.str (strV (gt s25 9))), (.int .i64 (intV (gt s25 10))), (.int .i64 (intV (gt s25 11)))], []))) none))
   (some (.brk 4, [(.str (strV (gt s25 0))), (.ptr 0 2 0), (.int .i64 (intV (gt s25 2))), (.ptr 0 6 0), (.str (strV (gt s25 4))), (.int .i64 (intV (gt s25 5))), (.str (strV (gt s25 6))), (.int .i64 (intV (gt s25 7))), (.int .i64 (intV (gt s25 8))), (.str (strV (gt s25 9))), (.int .i64 (intV (gt s25 10))), (.int .i64 (intV (gt s25 11)))], []))) none) none
def wrap_Read_T1 (O : Orc) (LP : LBody → LBody) (s : Str) : Option (PV × UP) :=
  bnd (LP (wrap_Read_l1 O LP) [(.str s), (.ptr 0 2 0), (.int .i64 0), (.str []), (.int .i64 0), (.int .i64 0)] []) fun y8 =>
  exIs y8.1 (some 0) (cnd (chkL [.str, (.ptr 0 2 0), (.int .i64), .str, (.int .i64), (.int .i64)] y8.2.1) (cnd (chkU [] y8.2.2)
   (bnd (LP (wrap_Read_l2 O LP) [(.str (strV (gt y8.2.1 0))), (.ptr 0 2 0), (.int .i64 (intV (gt y8.2.1 2))), (.int .i64 (intV (gt y8.2.1 2))), (.str (strV (gt y8.2.1 3))), (.int .i64 (intV (gt y8.2.1 4))), (.int .i64 (intV (gt y8.2.1 5)))] []) fun y20 =>
   exIs y20.1 (some 2) (cnd (chkL [.str, (.ptr 0 2 0), (.int .i64), (.int .i64), .str, (.int .i64), (.int .i64)] y20.2.1) (cnd (chkU [] y20.2.2)
    (bnd (slcLH 0 (.str (strV (gt y20.2.1 0))) (.int .i64 (intV (gt y20.2.1 2))) (.int .i64 (intV (gt y20.2.1 3)))) fun x21 => cnd (chk .str x21)
    (cnd (decide ((intV (gt y20.2.1 2)) > 4))
     (some ((.tuple [(.agg [(.str []), (.int .i64 0), (.int .i64 0)]), (.bool false)]), []))
     (bnd (slcLo 0 (.str (strV (gt y20.2.1 0))) (.int .i64 (intV (gt y20.2.1 3)))) fun x23 => cnd (chk .str x23)
     (bnd (LP (wrap_Read_l3 O LP) [(.str (strV (gt y20.2.1 0))), (.ptr 0 2 0), (.int .i64 (intV (gt y20.2.1 2))), (.ptr 0 6 0), (.str (strV x23)), (.int .i64 (intV (gt y20.2.1 2))), (.str (strV x21)), (.int .i64 (intV (gt y20.2.1 2))), (.int .i64 0), (.str (strV (gt y20.2.1 4))), (.int .i64 (intV (gt y20.2.1 5))), (.int .i64 (intV (gt y20.2.1 6)))] []) fun y60 =>
     exIs y60.1 (some 4) (cnd (chkL [.str, (.ptr 0 2 0), (.int .i64), (.ptr 0 6 0), .str, (.int .i64), .str, (.int .i64), (.int .i64), .str, (.int .i64), (.int .i64)] y60.2.1) (cnd (chkU [] y60.2.2)
      (callp O 9 [(.agg [(.str (strV (gt y60.2.1 6))), (.int .i64 (intV (gt y60.2.1 7))), (.int .i64 (intV (gt y60.2.1 8)))])] fun x61 => cnd (chk (.tup [.str, .bool]) x61)
      (cnd (!(boolV (gt (tupV x61) 1)))
       (some ((.tuple [(.agg [(.str []), (.int .i64 0), (.int .i64 0)]), (.bool false)]), []))
       (cnd (!((strV (gt (tupV x61) 0)) == (strV (gt y60.2.1 0))))
        (some ((.tuple [(.agg [(.str []), (.int .i64 0), (.int .i64 0)]), (.bool false)]), []))
        (some ((.tuple [(.agg [(.str (strV (gt y60.2.1 6))), (.int .i64 (intV (gt y60.2.1 7))), (.int .i64 (intV (gt y60.2.1 8)))]), (.bool true)]), [])))) none) none) none)
     (none)) none)) none) none) none)
   (none)) none) none)
  (none)
noncomputable def wrap_Read_l1T (s : Str) : Int → Option (Int ⊕ Int)
  | n_4 =>
  cnd (decide (n_4 < (List.length s : Int)))
   (bnd (nthI s n_4) fun y6 =>
   cnd ((y6.toNat : Int) == 91)
    (some (.inl (IntKind.wrap .i64 (n_4 + 1))))
    (some (.inr n_4)))
   (some (.inr n_4))
abbrev wrap_Read_l1R (s : Str) (st : Int) (l : List PV) (u : UP) : Prop := l = [(.str s), (.ptr 0 2 0), (.int .i64 st), (.str []), (.int .i64 0), (.int .i64 0)] ∧ u = []
abbrev wrap_Read_l1X (s : Str) (p : Int) (r : Ex × List PV × UP) : Prop := (fun (p : Int) => r = (Ex.brk 0, [(.str s), (.ptr 0 2 0), (.int .i64 p), (.str []), (.int .i64 0), (.int .i64 0)], [])) p
noncomputable def wrap_Read_l2T (s : Str) : Int → Option (Int ⊕ Int)
  | end_14 =>
  cnd (decide (end_14 < (List.length s : Int)))
   (bnd (nthI s end_14) fun y16 =>
   cnd ((y16.toNat : Int) != 93)
    (bnd (nthI s end_14) fun y18 =>
    cnd ((y18.toNat : Int) != 33)
     (some (.inl (IntKind.wrap .i64 (end_14 + 1))))
     (some (.inr end_14)))
    (some (.inr end_14)))
   (some (.inr end_14))
abbrev wrap_Read_l2R (s : Str) (n_7 : Int) (st : Int) (l : List PV) (u : UP) : Prop := l = [(.str s), (.ptr 0 2 0), (.int .i64 n_7), (.int .i64 st), (.str []), (.int .i64 0), (.int .i64 0)] ∧ u = []
abbrev wrap_Read_l2X (s : Str) (n_7 : Int) (p : Int) (r : Ex × List PV × UP) : Prop := (fun (p : Int) => r = (Ex.brk 2, [(.str s), (.ptr 0 2 0), (.int .i64 n_7), (.int .i64 p), (.str []), (.int .i64 0), (.int .i64 0)], [])) p
noncomputable def wrap_Read_l3T (n_7 : Int) : (Str × Int × Int) → Option ((Str × Int × Int) ⊕ Int)
  | (rest_40, i_41, t_42) =>
  cnd (decide (i_41 ≥ 0))
   (cnd (decide (i_41 < n_7))
    (bnd (strings_TrimPrefix rest_40 [93]) fun y44 =>
    bnd (strings_HasPrefix y44 [33]) fun y46 =>
    cnd y46
     (bnd (tshl .i64 1 i_41) fun y48 =>
     bnd (tslc y44 1 (List.length y44)) fun y50 =>
     some (.inl (y50, (IntKind.wrap .i64 (i_41 - 1)), (bits .or .i64 t_42 y48))))
     (some (.inl (y44, (IntKind.wrap .i64 (i_41 - 1)), t_42))))
    (bnd (strings_HasPrefix rest_40 [33]) fun y52 =>
    cnd y52
     (bnd (tshl .i64 1 i_41) fun y54 =>
     bnd (tslc rest_40 1 (List.length rest_40)) fun y56 =>
     some (.inl (y56, (IntKind.wrap .i64 (i_41 - 1)), (bits .or .i64 t_42 y54))))
     (some (.inl (rest_40, (IntKind.wrap .i64 (i_41 - 1)), t_42)))))
   (some (.inr t_42))
abbrev wrap_Read_l3R (s : Str) (n_7 : Int) (y22 : Str) (st : Str × Int × Int) (l : List PV) (u : UP) : Prop := l = [(.str s), (.ptr 0 2 0), (.int .i64 n_7), (.ptr 0 6 0), (.str st.1), (.int .i64 st.2.1), (.str y22), (.int .i64 n_7), (.int .i64 st.2.2), (.str []), (.int .i64 0), (.int .i64 0)] ∧ u = []
abbrev wrap_Read_l3X (s : Str) (n_7 : Int) (y22 : Str) (p : Int) (r : Ex × List PV × UP) : Prop := (fun (p : Int) => ∃ (rest_57 : Str), ∃ (i_58 : Int), r = (Ex.brk 4, [(.str s), (.ptr 0 2 0), (.int .i64 n_7), (.ptr 0 6 0), (.str rest_57), (.int .i64 i_58), (.str y22), (.int .i64 n_7), (.int .i64 p), (.str []), (.int .i64 0), (.int .i64 0)], [])) p
noncomputable def wrap_Read_B (s : Str) : Option (GType × Bool) :=
  bnd (tloop (wrap_Read_l1T s) 0) fun n_7 =>
  bnd (tloop (wrap_Read_l2T s) n_7) fun end_19 =>
  bnd (tslc s n_7 end_19) fun y22 =>
  cnd (decide (n_7 > 4))
   (some ((GType.mk [] 0 0), false))
   (bnd (tslc s end_19 (List.length s)) fun y24 =>
   bnd (tloop (wrap_Read_l3T n_7) (y24, n_7, 0)) fun t_59 =>
   bnd (wrap_Print (GType.mk y22 n_7 t_59)) fun y62 =>
   cnd (!y62.2)
    (some ((GType.mk [] 0 0), false))
    (cnd (!(y62.1 == s))
     (some ((GType.mk [] 0 0), false))
     (some ((GType.mk y22 n_7 t_59), true))))
def wrap_Read_ds : Decs := { decs := [(18, (.int .u8)), (31, (.int .u8)), (37, (.int .u8)), (45, .str), (53, .str), (63, .str), (65, .bool), (69, (.int .i64)), (73, .str), (76, (.tup [.str, .bool]))], ups := [], loops := [(2, [(2, 3)], ⟨[.str, (.ptr 0 2 0), (.int .i64), .str, (.int .i64), (.int .i64)], [], [(some 0, [.str, (.ptr 0 2 0), (.int .i64), .str, (.int .i64), (.int .i64)], [])]⟩), (5, [(2, 3)], ⟨[.str, (.ptr 0 2 0), (.int .i64), (.int .i64), .str, (.int .i64), (.int .i64)], [], [(some 2, [.str, (.ptr 0 2 0), (.int .i64), (.int .i64), .str, (.int .i64), (.int .i64)], [])]⟩), (12, [(6, 3), (2, 3)], ⟨[.str, (.ptr 0 2 0), (.int .i64), (.ptr 0 6 0), .str, (.int .i64), .str, (.int .i64), (.int .i64), .str, (.int .i64), (.int .i64)], [], [(some 4, [.str, (.ptr 0 2 0), (.int .i64), (.ptr 0 6 0), .str, (.int .i64), .str, (.int .i64), (.int .i64), .str, (.int .i64), (.int .i64)], [])]⟩)] }
set_option maxRecDepth 100000 in
theorem wrap_Read_t1 (O : Orc) (LP : LBody → LBody) (s : Str) : evalBodyD Try.prog (MT 10) wrap_Read_ds Try.f10.ntmps O LP Try.f10 [(.str s)] [] = wrap_Read_T1 O LP s := by kernel_rfl
theorem wrap_Read_l1_ok (s : Str) : ∀ st l u, wrap_Read_l1R s st l u → Imp (wrap_Read_l1T s st) (wrap_Read_l1 O loopLim l u) (StepR (wrap_Read_l1R s) (wrap_Read_l1X s)) := by
  rintro n_4 l u ⟨rfl, rfl⟩
  simp only [wrap_Read_l1T, wrap_Read_l1]
  refine Imp.chk rfl (Imp.chk rfl ?_)
  try simp only [evs, tys]
  refine Imp.cnd ?_ ?_
  · refine Imp.op (f := fun a => .int .u8 (a.toNat : Int)) (fun a h => op_ixStr h) (fun a => rfl) fun y6 hy6 => ?_
    try simp only [evs, tys]
    refine Imp.cnd ?_ ?_
    · exact Imp.some (StepR.next ⟨by first | rfl | simp only [evs, tys, evl], rfl⟩)
    · exact Imp.some (StepR.brk (by first | rfl | simp only [evs, tys, evl, elim_inl, elim_inr]))
  · exact Imp.some (StepR.brk (by first | rfl | simp only [evs, tys, evl, elim_inl, elim_inr]))
theorem wrap_Read_l2_ok (s : Str) (n_7 : Int) : ∀ st l u, wrap_Read_l2R s n_7 st l u → Imp (wrap_Read_l2T s st) (wrap_Read_l2 O loopLim l u) (StepR (wrap_Read_l2R s n_7) (wrap_Read_l2X s n_7)) := by
  rintro end_14 l u ⟨rfl, rfl⟩
  simp only [wrap_Read_l2T, wrap_Read_l2]
  refine Imp.chk rfl (Imp.chk rfl ?_)
  try simp only [evs, tys]
  refine Imp.cnd ?_ ?_
  · refine Imp.op (f := fun a => .int .u8 (a.toNat : Int)) (fun a h => op_ixStr h) (fun a => rfl) fun y16 hy16 => ?_
    try simp only [evs, tys]
    refine Imp.cnd ?_ ?_
    · refine Imp.op (f := fun a => .int .u8 (a.toNat : Int)) (fun a h => op_ixStr h) (fun a => rfl) fun y18 hy18 => ?_
      try simp only [evs, tys]
      refine Imp.cnd ?_ ?_
      · exact Imp.some (StepR.next ⟨by first | rfl | simp only [evs, tys, evl], rfl⟩)
      · exact Imp.some (StepR.brk (by first | rfl | simp only [evs, tys, evl, elim_inl, elim_inr]))
    · exact Imp.some (StepR.brk (by first | rfl | simp only [evs, tys, evl, elim_inl, elim_inr]))
  · exact Imp.some (StepR.brk (by first | rfl | simp only [evs, tys, evl, elim_inl, elim_inr]))
theorem wrap_Read_l3_ok (s : Str) (n_7 : Int) (y22 : Str) : ∀ st l u, wrap_Read_l3R s n_7 y22 st l u → Imp (wrap_Read_l3T n_7 st) (wrap_Read_l3 O loopLim l u) (StepR (wrap_Read_l3R s n_7 y22) (wrap_Read_l3X s n_7 y22)) := by
  rintro ⟨rest_40, i_41, t_42⟩ l u ⟨rfl, rfl⟩
  simp only [wrap_Read_l3T, wrap_Read_l3]
  refine Imp.chk rfl (Imp.chk rfl ?_)
  try simp only [evs, tys]
  refine Imp.cnd ?_ ?_
  · refine Imp.cnd ?_ ?_
    · refine Imp.call (f := strings_TrimPrefixE) rfl (fun a h => by first | exact strings_TrimPrefix_spec h | simpa only [evs, tys, evl] using strings_TrimPrefix_spec h) (fun a => by first | rfl | simp only [strings_TrimPrefixE, evk, chks]) fun y44 hy44 => ?_
      try simp only [strings_TrimPrefixE, evs, tys]
      refine Imp.call (f := strings_HasPrefixE) rfl (fun a h => by first | exact strings_HasPrefix_spec h | simpa only [evs, tys, evl] using strings_HasPrefix_spec h) (fun a => by first | rfl | simp only [strings_HasPrefixE, evk, chks]) fun y46 hy46 => ?_
      try simp only [strings_HasPrefixE, evs, tys]
      refine Imp.cnd ?_ ?_
      · refine Imp.op (f := fun a => .int _ a) (fun a h => op_shl h) (fun a => rfl) fun y48 hy48 => ?_
        try simp only [evs, tys]
        refine Imp.op (f := fun a => .str a) (fun a h => op_sslcLo h) (fun a => rfl) fun y50 hy50 => ?_
        try simp only [evs, tys]
        exact Imp.some (StepR.next ⟨by first | rfl | simp only [evs, tys, evl], rfl⟩)
      · exact Imp.some (StepR.next ⟨by first | rfl | simp only [evs, tys, evl], rfl⟩)
    · refine Imp.call (f := strings_HasPrefixE) rfl (fun a h => by first | exact strings_HasPrefix_spec h | simpa only [evs, tys, evl] using strings_HasPrefix_spec h) (fun a => by first | rfl | simp only [strings_HasPrefixE, evk, chks]) fun y52 hy52 => ?_
      try simp only [strings_HasPrefixE, evs, tys]
      refine Imp.cnd ?_ ?_
      · refine Imp.op (f := fun a => .int _ a) (fun a h => op_shl h) (fun a => rfl) fun y54 hy54 => ?_
        try simp only [evs, tys]
        refine Imp.op (f := fun a => .str a) (fun a h => op_sslcLo h) (fun a => rfl) fun y56 hy56 => ?_
        try simp only [evs, tys]
        exact Imp.some (StepR.next ⟨by first | rfl | simp only [evs, tys, evl], rfl⟩)
      · exact Imp.some (StepR.next ⟨by first | rfl | simp only [evs, tys, evl], rfl⟩)
  · exact Imp.some (StepR.brk ⟨rest_40, i_41, by first | rfl | simp only [evs, tys, evl, elim_inl, elim_inr]⟩)
theorem wrap_Read_imp (s : Str) : Imp (wrap_Read_B s) (wrap_Read_T1 O loopLim s) (fun r v => v = (wrap_ReadE r, [])) := by
  simp only [wrap_Read_B, wrap_Read_T1]
  try simp only [evs, tys]
  refine Imp.bnd (Imp.loop (wrap_Read_l1_ok s) ⟨by first | rfl | simp only [evs, tys, evl], rfl⟩) ?_
  rintro n_7 vy8 hy8
  cases hy8
  refine Imp.exHit rfl (Imp.chk rfl (Imp.chk rfl ?_))
  try simp only [evs, tys]
  refine Imp.bnd (Imp.loop (wrap_Read_l2_ok s n_7) ⟨by first | rfl | simp only [evs, tys, evl], rfl⟩) ?_
  rintro end_19 vy20 hy20
  cases hy20
  refine Imp.exHit rfl (Imp.chk rfl (Imp.chk rfl ?_))
  try simp only [evs, tys]
  refine Imp.op (f := fun a => .str a) (fun a h => op_sslcLH h) (fun a => rfl) fun y22 hy22 => ?_
  try simp only [evs, tys]
  refine Imp.cnd ?_ ?_
  · exact Imp.some (by first | rfl | simp only [wrap_ReadE, evs, tys, evl])
  · refine Imp.op (f := fun a => .str a) (fun a h => op_sslcLo h) (fun a => rfl) fun y24 hy24 => ?_
    try simp only [evs, tys]
    refine Imp.bnd (Imp.loop (wrap_Read_l3_ok s n_7 y22) ⟨by first | rfl | simp only [evs, tys, evl], rfl⟩) ?_
    rintro t_59 vy60 hy60
    obtain ⟨rest_57, i_58, rfl⟩ := hy60
    refine Imp.exHit rfl (Imp.chk rfl (Imp.chk rfl ?_))
    try simp only [evs, tys]
    refine Imp.call (f := wrap_PrintE) rfl (fun a h => by first | exact wrap_Print_spec h | simpa only [evs, tys, evl] using wrap_Print_spec h) (fun a => by first | rfl | simp only [wrap_PrintE, evk, chks]) fun y62 hy62 => ?_
    try simp only [wrap_PrintE, evs, tys]
    refine Imp.cnd ?_ ?_
    · exact Imp.some (by first | rfl | simp only [wrap_ReadE, evs, tys, evl])
    · refine Imp.cnd ?_ ?_
      · exact Imp.some (by first | rfl | simp only [wrap_ReadE, evs, tys, evl])
      · exact Imp.some (by first | rfl | simp only [wrap_ReadE, evs, tys, evl])
theorem wrap_Read_run {s : Str} {r : GType × Bool} (h : wrap_Read_B s = some r) : wrap_Read s = some r := by
  obtain ⟨v, hv, rfl⟩ := wrap_Read_imp s r h
  exact tO_of (pair_inj wrap_ReadEj) (OL_runD wrap_Read_ds rfl rfl Try.func10 ((wrap_Read_t1 _ _ s).trans hv))

def wrap_Right_T1 (O : Orc) (LP : LBody → LBody) (t : GType) : Option (PV × UP) :=
  callp O 31 [(.str t.name)] fun x1 => cnd (chk .bool x1)
  (cnd (boolV x1)
   (cnd (decide (t.lists ≥ 0))
    (cnd (decide (t.lists ≤ 4))
     (cnd (decide (t.musts ≥ 0))
      (bnd (bin .shr (.int .i64 t.musts) (.int .i64 (IntKind.wrap .i64 (t.lists + 1)))) fun x3 => cnd (chk (.int .i64) x3)
      (some ((.bool ((intV x3) == 0)), [])) none)
      (some ((.bool false), [])))
     (some ((.bool false), [])))
    (some ((.bool false), [])))
   (some ((.bool false), []))) none
noncomputable def wrap_Right_B (t : GType) : Option Bool :=
  bnd (letters_Name t.name) fun y2 =>
  cnd y2
   (cnd (decide (t.lists ≥ 0))
    (cnd (decide (t.lists ≤ 4))
     (cnd (decide (t.musts ≥ 0))
      (bnd (tshr .i64 t.musts (IntKind.wrap .i64 (t.lists + 1))) fun y4 =>
      some (y4 == 0))
      (some false))
     (some false))
    (some false))
   (some false)
def wrap_Right_ds : Decs := { decs := [(5, .bool), (27, (.int .i64))], ups := [], loops := [] }
set_option maxRecDepth 100000 in
theorem wrap_Right_t1 (O : Orc) (LP : LBody → LBody) (t : GType) : evalBodyD Try.prog (MT 11) wrap_Right_ds Try.f11.ntmps O LP Try.f11 [(.agg [(.str t.name), (.int .i64 t.lists), (.int .i64 t.musts)])] [] = wrap_Right_T1 O LP t := by kernel_rfl
theorem wrap_Right_imp (t : GType) : Imp (wrap_Right_B t) (wrap_Right_T1 O loopLim t) (fun r v => v = (wrap_RightE r, [])) := by
  simp only [wrap_Right_B, wrap_Right_T1]
  try simp only [evs, tys]
  refine Imp.call (f := letters_NameE) rfl (fun a h => by first | exact letters_Name_spec h | simpa only [evs, tys, evl] using letters_Name_spec h) (fun a => by first | rfl | simp only [letters_NameE, evk, chks]) fun y2 hy2 => ?_
  try simp only [letters_NameE, evs, tys]
  refine Imp.cnd ?_ ?_
  · refine Imp.cnd ?_ ?_
    · refine Imp.cnd ?_ ?_
      · refine Imp.cnd ?_ ?_
        · refine Imp.op (f := fun a => .int _ a) (fun a h => op_shr h) (fun a => rfl) fun y4 hy4 => ?_
          try simp only [evs, tys]
          exact Imp.some (by first | rfl | simp only [wrap_RightE, evs, tys, evl])
        · exact Imp.some (by first | rfl | simp only [wrap_RightE, evs, tys, evl])
      · exact Imp.some (by first | rfl | simp only [wrap_RightE, evs, tys, evl])
    · exact Imp.some (by first | rfl | simp only [wrap_RightE, evs, tys, evl])
  · exact Imp.some (by first | rfl | simp only [wrap_RightE, evs, tys, evl])
theorem wrap_Right_run {t : GType} {r : Bool} (h : wrap_Right_B t = some r) : wrap_Right t = some r := by
  obtain ⟨v, hv, rfl⟩ := wrap_Right_imp t r h
  exact tO_of (pair_inj wrap_RightEj) (OL_runD wrap_Right_ds rfl rfl Try.func11 ((wrap_Right_t1 _ _ t).trans hv))

def wrap_Sub_T1 (O : Orc) (LP : LBody → LBody) (a : GType) (b : GType) : Option (PV × UP) :=
  callp O 11 [(.agg [(.str a.name), (.int .i64 a.lists), (.int .i64 a.musts)])] fun x1 => cnd (chk .bool x1)
  (cnd (boolV x1)
   (callp O 11 [(.agg [(.str b.name), (.int .i64 b.lists), (.int .i64 b.musts)])] fun x3 => cnd (chk .bool x3)
   (cnd (boolV x3)
    (cnd (a.name == b.name)
     (cnd (a.lists == b.lists)
      (some ((.bool ((bits .andNot .i64 b.musts a.musts) == 0)), []))
      (some ((.bool false), [])))
     (some ((.bool false), [])))
    (some ((.bool false), []))) none)
   (some ((.bool false), []))) none
noncomputable def wrap_Sub_B (a : GType) (b : GType) : Option Bool :=
  bnd (wrap_Right a) fun y2 =>
  cnd y2
   (bnd (wrap_Right b) fun y4 =>
   cnd y4
    (cnd (a.name == b.name)
     (cnd (a.lists == b.lists)
      (some ((bits .andNot .i64 b.musts a.musts) == 0))
      (some false))
     (some false))
    (some false))
   (some false)
def wrap_Sub_ds : Decs := { decs := [(6, .bool), (9, .bool)], ups := [], loops := [] }
set_option maxRecDepth 100000 in
theorem wrap_Sub_t1 (O : Orc) (LP : LBody → LBody) (a : GType) (b : GType) : evalBodyD Try.prog (MT 12) wrap_Sub_ds Try.f12.ntmps O LP Try.f12 [(.agg [(.str a.name), (.int .i64 a.lists), (.int .i64 a.musts)]), (.agg [(.str b.name), (.int .i64 b.lists), (.int .i64 b.musts)])] [] = wrap_Sub_T1 O LP a b := by kernel_rfl
theorem wrap_Sub_imp (a : GType) (b : GType) : Imp (wrap_Sub_B a b) (wrap_Sub_T1 O loopLim a b) (fun r v => v = (wrap_SubE r, [])) := by
  simp only [wrap_Sub_B, wrap_Sub_T1]
  try simp only [evs, tys]
  refine Imp.call (f := wrap_RightE) rfl (fun a h => by first | exact wrap_Right_spec h | simpa only [evs, tys, evl] using wrap_Right_spec h) (fun a => by first | rfl | simp only [wrap_RightE, evk, chks]) fun y2 hy2 => ?_
  try simp only [wrap_RightE, evs, tys]
  refine Imp.cnd ?_ ?_
  · refine Imp.call (f := wrap_RightE) rfl (fun a h => by first | exact wrap_Right_spec h | simpa only [evs, tys, evl] using wrap_Right_spec h) (fun a => by first | rfl | simp only [wrap_RightE, evk, chks]) fun y4 hy4 => ?_
    try simp only [wrap_RightE, evs, tys]
    refine Imp.cnd ?_ ?_
    · refine Imp.cnd ?_ ?_
      · refine Imp.cnd ?_ ?_
        · exact Imp.some (by first | rfl | simp only [wrap_SubE, evs, tys, evl])
        · exact Imp.some (by first | rfl | simp only [wrap_SubE, evs, tys, evl])
      · exact Imp.some (by first | rfl | simp only [wrap_SubE, evs, tys, evl])
    · exact Imp.some (by first | rfl | simp only [wrap_SubE, evs, tys, evl])
  · exact Imp.some (by first | rfl | simp only [wrap_SubE, evs, tys, evl])
theorem wrap_Sub_run {a : GType} {b : GType} {r : Bool} (h : wrap_Sub_B a b = some r) : wrap_Sub a b = some r := by
  obtain ⟨v, hv, rfl⟩ := wrap_Sub_imp a b r h
  exact tO_of (pair_inj wrap_SubEj) (OL_runD wrap_Sub_ds rfl rfl Try.func12 ((wrap_Sub_t1 _ _ a b).trans hv))

def seineref1_SubType_T1 (O : Orc) (LP : LBody → LBody) (a : GType) (b : GType) : Option (PV × UP) :=
  callp O 19 [(.agg [(.str a.name), (.int .i64 a.lists), (.int .i64 a.musts)])] fun x1 => cnd (chk .bool x1)
  (cnd (boolV x1)
   (callp O 19 [(.agg [(.str b.name), (.int .i64 b.lists), (.int .i64 b.musts)])] fun x3 => cnd (chk .bool x3)
   (cnd (boolV x3)
    (cnd (a.name == b.name)
     (cnd (a.lists == b.lists)
      (some ((.bool ((bits .andNot .i64 b.musts a.musts) == 0)), []))
      (some ((.bool false), [])))
     (some ((.bool false), [])))
    (some ((.bool false), []))) none)
   (some ((.bool false), []))) none
noncomputable def seineref1_SubType_B (a : GType) (b : GType) : Option Bool :=
  bnd (seineref1_RightType a) fun y2 =>
  cnd y2
   (bnd (seineref1_RightType b) fun y4 =>
   cnd y4
    (cnd (a.name == b.name)
     (cnd (a.lists == b.lists)
      (some ((bits .andNot .i64 b.musts a.musts) == 0))
      (some false))
     (some false))
    (some false))
   (some false)
def seineref1_SubType_ds : Decs := { decs := [(6, .bool), (9, .bool)], ups := [], loops := [] }
set_option maxRecDepth 100000 in
theorem seineref1_SubType_t1 (O : Orc) (LP : LBody → LBody) (a : GType) (b : GType) : evalBodyD Try.prog (MT 13) seineref1_SubType_ds Try.f13.ntmps O LP Try.f13 [(.agg [(.str a.name), (.int .i64 a.lists), (.int .i64 a.musts)]), (.agg [(.str b.name), (.int .i64 b.lists), (.int .i64 b.musts)])] [] = seineref1_SubType_T1 O LP a b := by kernel_rfl
theorem seineref1_SubType_imp (a : GType) (b : GType) : Imp (seineref1_SubType_B a b) (seineref1_SubType_T1 O loopLim a b) (fun r v => v = (seineref1_SubTypeE r, [])) := by
  simp only [seineref1_SubType_B, seineref1_SubType_T1]
  try simp only [evs, tys]
  refine Imp.call (f := seineref1_RightTypeE) rfl (fun a h => by first | exact seineref1_RightType_spec h | simpa only [evs, tys, evl] using seineref1_RightType_spec h) (fun a => by first | rfl | simp only [seineref1_RightTypeE, evk, chks]) fun y2 hy2 => ?_
  try simp only [seineref1_RightTypeE, evs, tys]
  refine Imp.cnd ?_ ?_
  · refine Imp.call (f := seineref1_RightTypeE) rfl (fun a h => by first | exact seineref1_RightType_spec h | simpa only [evs, tys, evl] using seineref1_RightType_spec h) (fun a => by first | rfl | simp only [seineref1_RightTypeE, evk, chks]) fun y4 hy4 => ?_
    try simp only [seineref1_RightTypeE, evs, tys]
    refine Imp.cnd ?_ ?_
    · refine Imp.cnd ?_ ?_
      · refine Imp.cnd ?_ ?_
        · exact Imp.some (by first | rfl | simp only [seineref1_SubTypeE, evs, tys, evl])
        · exact Imp.some (by first | rfl | simp only [seineref1_SubTypeE, evs, tys, evl])
      · exact Imp.some (by first | rfl | simp only [seineref1_SubTypeE, evs, tys, evl])
    · exact Imp.some (by first | rfl | simp only [seineref1_SubTypeE, evs, tys, evl])
  · exact Imp.some (by first | rfl | simp only [seineref1_SubTypeE, evs, tys, evl])
theorem seineref1_SubType_run {a : GType} {b : GType} {r : Bool} (h : seineref1_SubType_B a b = some r) : seineref1_SubType a b = some r := by
  obtain ⟨v, hv, rfl⟩ := seineref1_SubType_imp a b r h
  exact tO_of (pair_inj seineref1_SubTypeEj) (OL_runD seineref1_SubType_ds rfl rfl Try.func13 ((seineref1_SubType_t1 _ _ a b).trans hv))

def wrap_List_T1 (O : Orc) (LP : LBody → LBody) (t : GType) : Option (PV × UP) :=
  callp O 11 [(.agg [(.str t.name), (.int .i64 t.lists), (.int .i64 t.musts)])] fun x1 => cnd (chk .bool x1)
  (cnd (!(boolV x1))
   (some ((.tuple [(.agg [(.str []), (.int .i64 0), (.int .i64 0)]), (.bool false)]), []))
   (cnd (t.lists == 4)
    (some ((.tuple [(.agg [(.str []), (.int .i64 0), (.int .i64 0)]), (.bool false)]), []))
    (some ((.tuple [(.agg [(.str t.name), (.int .i64 (IntKind.wrap .i64 (t.lists + 1))), (.int .i64 (IntKind.wrap .i64 (t.musts * 2 ^ min (Int.toNat 1) 64)))]), (.bool true)]), [])))) none
noncomputable def wrap_List_B (t : GType) : Option (GType × Bool) :=
  bnd (wrap_Right t) fun y2 =>
  cnd (!y2)
   (some ((GType.mk [] 0 0), false))
   (cnd (t.lists == 4)
    (some ((GType.mk [] 0 0), false))
    (some ((GType.mk t.name (IntKind.wrap .i64 (t.lists + 1)) (IntKind.wrap .i64 (t.musts * 2 ^ min (Int.toNat 1) 64))), true)))
def wrap_List_ds : Decs := { decs := [(5, .bool)], ups := [], loops := [] }
set_option maxRecDepth 100000 in
theorem wrap_List_t1 (O : Orc) (LP : LBody → LBody) (t : GType) : evalBodyD Try.prog (MT 14) wrap_List_ds Try.f14.ntmps O LP Try.f14 [(.agg [(.str t.name), (.int .i64 t.lists), (.int .i64 t.musts)])] [] = wrap_List_T1 O LP t := by kernel_rfl
theorem wrap_List_imp (t : GType) : Imp (wrap_List_B t) (wrap_List_T1 O loopLim t) (fun r v => v = (wrap_ListE r, [])) := by
  simp only [wrap_List_B, wrap_List_T1]
  try simp only [evs, tys]
  refine Imp.call (f := wrap_RightE) rfl (fun a h => by first | exact wrap_Right_spec h | simpa only [evs, tys, evl] using wrap_Right_spec h) (fun a => by first | rfl | simp only [wrap_RightE, evk, chks]) fun y2 hy2 => ?_
  try simp only [wrap_RightE, evs, tys]
  refine Imp.cnd ?_ ?_
  · exact Imp.some (by first | rfl | simp only [wrap_ListE, evs, tys, evl])
  · refine Imp.cnd ?_ ?_
    · exact Imp.some (by first | rfl | simp only [wrap_ListE, evs, tys, evl])
    · exact Imp.some (by first | rfl | simp only [wrap_ListE, evs, tys, evl])
theorem wrap_List_run {t : GType} {r : GType × Bool} (h : wrap_List_B t = some r) : wrap_List t = some r := by
  obtain ⟨v, hv, rfl⟩ := wrap_List_imp t r h
  exact tO_of (pair_inj wrap_ListEj) (OL_runD wrap_List_ds rfl rfl Try.func14 ((wrap_List_t1 _ _ t).trans hv))

def wrap_Item_T1 (O : Orc) (LP : LBody → LBody) (t : GType) : Option (PV × UP) :=
  callp O 11 [(.agg [(.str t.name), (.int .i64 t.lists), (.int .i64 t.musts)])] fun x1 => cnd (chk .bool x1)
  (cnd (!(boolV x1))
   (some ((.tuple [(.agg [(.str []), (.int .i64 0), (.int .i64 0)]), (.bool false)]), []))
   (cnd (t.lists == 0)
    (some ((.tuple [(.agg [(.str []), (.int .i64 0), (.int .i64 0)]), (.bool false)]), []))
    (some ((.tuple [(.agg [(.str t.name), (.int .i64 (IntKind.wrap .i64 (t.lists - 1))), (.int .i64 (Int.fdiv t.musts (2 ^ min (Int.toNat 1) 64)))]), (.bool true)]), [])))) none
noncomputable def wrap_Item_B (t : GType) : Option (GType × Bool) :=
  bnd (wrap_Right t) fun y2 =>
  cnd (!y2)
   (some ((GType.mk [] 0 0), false))
   (cnd (t.lists == 0)
    (some ((GType.mk [] 0 0), false))
    (some ((GType.mk t.name (IntKind.wrap .i64 (t.lists - 1)) (Int.fdiv t.musts (2 ^ min (Int.toNat 1) 64))), true)))
def wrap_Item_ds : Decs := { decs := [(5, .bool)], ups := [], loops := [] }
set_option maxRecDepth 100000 in
theorem wrap_Item_t1 (O : Orc) (LP : LBody → LBody) (t : GType) : evalBodyD Try.prog (MT 15) wrap_Item_ds Try.f15.ntmps O LP Try.f15 [(.agg [(.str t.name), (.int .i64 t.lists), (.int .i64 t.musts)])] [] = wrap_Item_T1 O LP t := by kernel_rfl
theorem wrap_Item_imp (t : GType) : Imp (wrap_Item_B t) (wrap_Item_T1 O loopLim t) (fun r v => v = (wrap_ItemE r, [])) := by
  simp only [wrap_Item_B, wrap_Item_T1]
  try simp only [evs, tys]
  refine Imp.call (f := wrap_RightE) rfl (fun a h => by first | exact wrap_Right_spec h | simpa only [evs, tys, evl] using wrap_Right_spec h) (fun a => by first | rfl | simp only [wrap_RightE, evk, chks]) fun y2 hy2 => ?_
  try simp only [wrap_RightE, evs, tys]
  refine Imp.cnd ?_ ?_
  · exact Imp.some (by first | rfl | simp only [wrap_ItemE, evs, tys, evl])
  · refine Imp.cnd ?_ ?_
    · exact Imp.some (by first | rfl | simp only [wrap_ItemE, evs, tys, evl])
    · exact Imp.some (by first | rfl | simp only [wrap_ItemE, evs, tys, evl])
theorem wrap_Item_run {t : GType} {r : GType × Bool} (h : wrap_Item_B t = some r) : wrap_Item t = some r := by
  obtain ⟨v, hv, rfl⟩ := wrap_Item_imp t r h
  exact tO_of (pair_inj wrap_ItemEj) (OL_runD wrap_Item_ds rfl rfl Try.func15 ((wrap_Item_t1 _ _ t).trans hv))

def wrap_Is_T1 (O : Orc) (LP : LBody → LBody) (t : GType) : Option (PV × UP) :=
  callp O 11 [(.agg [(.str t.name), (.int .i64 t.lists), (.int .i64 t.musts)])] fun x1 => cnd (chk .bool x1)
  (cnd (boolV x1)
   (callp O 28 [(.agg [(.str t.name), (.int .i64 t.lists), (.int .i64 t.musts)]), (.int .i64 0)] fun x3 => cnd (chk .bool x3)
   (some ((.bool (boolV x3)), [])) none)
   (some ((.bool false), []))) none
noncomputable def wrap_Is_B (t : GType) : Option Bool :=
  bnd (wrap_Right t) fun y2 =>
  cnd y2
   (bnd (wrap_bit t 0) fun y4 =>
   some y4)
   (some false)
def wrap_Is_ds : Decs := { decs := [(4, .bool), (7, .bool)], ups := [], loops := [] }
set_option maxRecDepth 100000 in
theorem wrap_Is_t1 (O : Orc) (LP : LBody → LBody) (t : GType) : evalBodyD Try.prog (MT 16) wrap_Is_ds Try.f16.ntmps O LP Try.f16 [(.agg [(.str t.name), (.int .i64 t.lists), (.int .i64 t.musts)])] [] = wrap_Is_T1 O LP t := by kernel_rfl
theorem wrap_Is_imp (t : GType) : Imp (wrap_Is_B t) (wrap_Is_T1 O loopLim t) (fun r v => v = (wrap_IsE r, [])) := by
  simp only [wrap_Is_B, wrap_Is_T1]
  try simp only [evs, tys]
  refine Imp.call (f := wrap_RightE) rfl (fun a h => by first | exact wrap_Right_spec h | simpa only [evs, tys, evl] using wrap_Right_spec h) (fun a => by first | rfl | simp only [wrap_RightE, evk, chks]) fun y2 hy2 => ?_
  try simp only [wrap_RightE, evs, tys]
  refine Imp.cnd ?_ ?_
  · refine Imp.call (f := wrap_bitE) rfl (fun a h => by first | exact wrap_bit_spec h | simpa only [evs, tys, evl] using wrap_bit_spec h) (fun a => by first | rfl | simp only [wrap_bitE, evk, chks]) fun y4 hy4 => ?_
    try simp only [wrap_bitE, evs, tys]
    exact Imp.some (by first | rfl | simp only [wrap_IsE, evs, tys, evl])
  · exact Imp.some (by first | rfl | simp only [wrap_IsE, evs, tys, evl])
theorem wrap_Is_run {t : GType} {r : Bool} (h : wrap_Is_B t = some r) : wrap_Is t = some r := by
  obtain ⟨v, hv, rfl⟩ := wrap_Is_imp t r h
  exact tO_of (pair_inj wrap_IsEj) (OL_runD wrap_Is_ds rfl rfl Try.func16 ((wrap_Is_t1 _ _ t).trans hv))

def wrap_Bare_T1 (O : Orc) (LP : LBody → LBody) (t : GType) : Option (PV × UP) :=
  callp O 11 [(.agg [(.str t.name), (.int .i64 t.lists), (.int .i64 t.musts)])] fun x1 => cnd (chk .bool x1)
  (cnd (boolV x1)
   (some ((.agg [(.str t.name), (.int .i64 t.lists), (.int .i64 (bits .andNot .i64 t.musts 1))]), []))
   (some ((.agg [(.str t.name), (.int .i64 t.lists), (.int .i64 t.musts)]), []))) none
noncomputable def wrap_Bare_B (t : GType) : Option GType :=
  bnd (wrap_Right t) fun y2 =>
  cnd y2
   (some (GType.mk t.name t.lists (bits .andNot .i64 t.musts 1)))
   (some t)
def wrap_Bare_ds : Decs := { decs := [(4, .bool)], ups := [], loops := [] }
set_option maxRecDepth 100000 in
theorem wrap_Bare_t1 (O : Orc) (LP : LBody → LBody) (t : GType) : evalBodyD Try.prog (MT 17) wrap_Bare_ds Try.f17.ntmps O LP Try.f17 [(.agg [(.str t.name), (.int .i64 t.lists), (.int .i64 t.musts)])] [] = wrap_Bare_T1 O LP t := by kernel_rfl
theorem wrap_Bare_imp (t : GType) : Imp (wrap_Bare_B t) (wrap_Bare_T1 O loopLim t) (fun r v => v = (wrap_BareE r, [])) := by
  simp only [wrap_Bare_B, wrap_Bare_T1]
  try simp only [evs, tys]
  refine Imp.call (f := wrap_RightE) rfl (fun a h => by first | exact wrap_Right_spec h | simpa only [evs, tys, evl] using wrap_Right_spec h) (fun a => by first | rfl | simp only [wrap_RightE, evk, chks]) fun y2 hy2 => ?_
  try simp only [wrap_RightE, evs, tys]
  refine Imp.cnd ?_ ?_
  · exact Imp.some (by first | rfl | simp only [wrap_BareE, evs, tys, evl])
  · exact Imp.some (by first | rfl | simp only [wrap_BareE, evs, tys, evl])
theorem wrap_Bare_run {t : GType} {r : GType} (h : wrap_Bare_B t = some r) : wrap_Bare t = some r := by
  obtain ⟨v, hv, rfl⟩ := wrap_Bare_imp t r h
  exact tO_of (pair_inj wrap_BareEj) (OL_runD wrap_Bare_ds rfl rfl Try.func17 ((wrap_Bare_t1 _ _ t).trans hv))
end Go.Proofs.Ytdnghbdhbahmeaa

/- Printed by symgen.py: typed functions of this seat, and why they tell what the program does. -/
set_option linter.unusedVariables false
set_option linter.unusedSimpArgs false
open Go Go.Ev Go.Ev.PV
namespace Go.Proofs.Ytdnghbdhbahmeaa
def seineref1_PrintType_l1 (O : Orc) (LP : LBody → LBody) : LBody := fun s3 s3u => cnd (chkL [(.ptr 0 1 0), .str, (.int .i64), .str, (.int .i64), (.int .i64)] s3) (cnd (chkU [] s3u)
  (cnd (decide ((intV (gt s3 2)) ≥ 0))
   (cnd (decide ((intV (gt s3 2)) < (intV (gt s3 4))))
    (bnd (bin .add (.str [91]) (.str (strV (gt s3 1)))) fun x18 => cnd (chk .str x18)
    (bnd (bin .add (.str (strV x18)) (.str [93])) fun x20 => cnd (chk .str x20)
    (bnd (bin .shr (.int .i64 (intV (gt s3 5))) (.int .u64 (IntKind.wrap .u64 (intV (gt s3 2))))) fun x22 => cnd (chk (.int .i64) x22)
    (cnd ((bits .and .i64 (intV x22) 1) == 1)
     (bnd (bin .add (.str (strV x20)) (.str [33])) fun x24 => cnd (chk .str x24)
     (some (.nrm, [(.ptr 0 1 0), (.str (strV x24)), (.int .i64 (IntKind.wrap .i64 ((intV (gt s3 2)) - 1))), (.str (strV (gt s3 3))), (.int .i64 (intV (gt s3 4))), (.int .i64 (intV (gt s3 5)))], [])) none)
     (some (.nrm, [(.ptr 0 1 0), (.str (strV x20)), (.int .i64 (IntKind.wrap .i64 ((intV (gt s3 2)) - 1))), (.str (strV (gt s3 3))), (.int .i64 (intV (gt s3 4))), (.int .i64 (intV (gt s3 5)))], []))) none) none) none)
    (bnd (bin .shr (.int .i64 (intV (gt s3 5))) (.int .u64 (IntKind.wrap .u64 (intV (gt s3 2))))) fun x26 => cnd (chk (.int .i64) x26)
    (cnd ((bits .and .i64 (intV x26) 1) == 1)
     (bnd (bin .add (.str (strV (gt s3 1))) (.str [33])) fun x28 => cnd (chk .str x28)
     (some (.nrm, [(.ptr 0 1 0), (.str (strV x28)), (.int .i64 (IntKind.wrap .i64 ((intV (gt s3 2)) - 1))), (.str (strV (gt s3 3))), (.int .i64 (intV (gt s3 4))), (.int .i64 (intV (gt s3 5)))], [])) none)
     (some (.nrm, [(.ptr 0 1 0), (.str (strV (gt s3 1))), (.int .i64 (IntKind.wrap .i64 ((intV (gt s3 2)) - 1))), (.str (strV (gt s3 3))), (.int .i64 (intV (gt s3 4))), (.int .i64 (intV (gt s3 5)))], []))) none))
   (some (.brk 0, [(.ptr 0 1 0), (.str (strV (gt s3 1))), (.int .i64 (intV (gt s3 2))), (.str (strV (gt s3 3))), (.int .i64 (intV (gt s3 4))), (.int .i64 (intV (gt s3 5)))], []))) none) none
def seineref1_PrintType_T1 (O : Orc) (LP : LBody → LBody) (t : GType) : Option (PV × UP) :=
  callp O 19 [(.agg [(.str t.name), (.int .i64 t.lists), (.int .i64 t.musts)])] fun x1 => cnd (chk .bool x1)
  (cnd (!(boolV x1))
   (some ((.tuple [(.str []), (.bool false)]), []))
   (bnd (LP (seineref1_PrintType_l1 O LP) [(.ptr 0 1 0), (.str t.name), (.int .i64 t.lists), (.str t.name), (.int .i64 t.lists), (.int .i64 t.musts)] []) fun y32 =>
   exIs y32.1 (some 0) (cnd (chkL [(.ptr 0 1 0), .str, (.int .i64), .str, (.int .i64), (.int .i64)] y32.2.1) (cnd (chkU [] y32.2.2)
    (some ((.tuple [(.str (strV (gt y32.2.1 1))), (.bool true)]), [])) none) none)
   (none))) none
noncomputable def seineref1_PrintType_l1T (t : GType) : (Str × Int) → Option ((Str × Int) ⊕ Str)
  | (out_16, i_17) =>
  cnd (decide (i_17 ≥ 0))
   (cnd (decide (i_17 < t.lists))
    (bnd (tapp ([91] : Str) out_16) fun y19 =>
    bnd (tapp y19 ([93] : Str)) fun y21 =>
    bnd (tshr .i64 t.musts (IntKind.wrap .u64 i_17)) fun y23 =>
    cnd ((bits .and .i64 y23 1) == 1)
     (bnd (tapp y21 ([33] : Str)) fun y25 =>
     some (.inl (y25, (IntKind.wrap .i64 (i_17 - 1)))))
     (some (.inl (y21, (IntKind.wrap .i64 (i_17 - 1))))))
    (bnd (tshr .i64 t.musts (IntKind.wrap .u64 i_17)) fun y27 =>
    cnd ((bits .and .i64 y27 1) == 1)
     (bnd (tapp out_16 ([33] : Str)) fun y29 =>
     some (.inl (y29, (IntKind.wrap .i64 (i_17 - 1)))))
     (some (.inl (out_16, (IntKind.wrap .i64 (i_17 - 1)))))))
   (some (.inr out_16))
abbrev seineref1_PrintType_l1R (t : GType) (st : Str × Int) (l : List PV) (u : UP) : Prop := l = [(.ptr 0 1 0), (.str st.1), (.int .i64 st.2), (.str t.name), (.int .i64 t.lists), (.int .i64 t.musts)] ∧ u = []
abbrev seineref1_PrintType_l1X (t : GType) (p : Str) (r : Ex × List PV × UP) : Prop := (fun (p : Str) => ∃ (i_31 : Int), r = (Ex.brk 0, [(.ptr 0 1 0), (.str p), (.int .i64 i_31), (.str t.name), (.int .i64 t.lists), (.int .i64 t.musts)], [])) p
noncomputable def seineref1_PrintType_B (t : GType) : Option (Str × Bool) :=
  bnd (seineref1_RightType t) fun y2 =>
  cnd (!y2)
   (some ([], false))
   (bnd (tloop (seineref1_PrintType_l1T t) (t.name, t.lists)) fun out_30 =>
   some (out_30, true))
def seineref1_PrintType_ds : Decs := { decs := [(7, .bool), (22, .str), (23, .str), (28, (.int .i64)), (32, .str)], ups := [], loops := [(5, [(1, 3)], ⟨[(.ptr 0 1 0), .str, (.int .i64), .str, (.int .i64), (.int .i64)], [], [(some 0, [(.ptr 0 1 0), .str, (.int .i64), .str, (.int .i64), (.int .i64)], [])]⟩)] }
set_option maxRecDepth 100000 in
theorem seineref1_PrintType_t1 (O : Orc) (LP : LBody → LBody) (t : GType) : evalBodyD Try.prog (MT 18) seineref1_PrintType_ds Try.f18.ntmps O LP Try.f18 [(.agg [(.str t.name), (.int .i64 t.lists), (.int .i64 t.musts)])] [] = seineref1_PrintType_T1 O LP t := by kernel_rfl
theorem seineref1_PrintType_l1_ok (t : GType) : ∀ st l u, seineref1_PrintType_l1R t st l u → Imp (seineref1_PrintType_l1T t st) (seineref1_PrintType_l1 O loopLim l u) (StepR (seineref1_PrintType_l1R t) (seineref1_PrintType_l1X t)) := by
  rintro ⟨out_16, i_17⟩ l u ⟨rfl, rfl⟩
  simp only [seineref1_PrintType_l1T, seineref1_PrintType_l1]
  refine Imp.chk rfl (Imp.chk rfl ?_)
  try simp only [evs, tys]
  refine Imp.cnd ?_ ?_
  · refine Imp.cnd ?_ ?_
    · refine Imp.op (f := fun a => .str a) (fun a h => op_cat h) (fun a => rfl) fun y19 hy19 => ?_
      try simp only [evs, tys]
      refine Imp.op (f := fun a => .str a) (fun a h => op_cat h) (fun a => rfl) fun y21 hy21 => ?_
      try simp only [evs, tys]
      refine Imp.op (f := fun a => .int _ a) (fun a h => op_shr h) (fun a => rfl) fun y23 hy23 => ?_
      try simp only [evs, tys]
      refine Imp.cnd ?_ ?_
      · refine Imp.op (f := fun a => .str a) (fun a h => op_cat h) (fun a => rfl) fun y25 hy25 => ?_
        try simp only [evs, tys]
        exact Imp.some (StepR.next ⟨by first | rfl | simp only [evs, tys, evl], rfl⟩)
      · exact Imp.some (StepR.next ⟨by first | rfl | simp only [evs, tys, evl], rfl⟩)
    · refine Imp.op (f := fun a => .int _ a) (fun a h => op_shr h) (fun a => rfl) fun y27 hy27 => ?_
      try simp only [evs, tys]
      refine Imp.cnd ?_ ?_
      · refine Imp.op (f := fun a => .str a) (fun a h => op_cat h) (fun a => rfl) fun y29 hy29 => ?_
        try simp only [evs, tys]
        exact Imp.some (StepR.next ⟨by first | rfl | simp only [evs, tys, evl], rfl⟩)
      · exact Imp.some (StepR.next ⟨by first | rfl | simp only [evs, tys, evl], rfl⟩)
  · exact Imp.some (StepR.brk ⟨i_17, by first | rfl | simp only [evs, tys, evl, elim_inl, elim_inr]⟩)
theorem seineref1_PrintType_imp (t : GType) : Imp (seineref1_PrintType_B t) (seineref1_PrintType_T1 O loopLim t) (fun r v => v = (seineref1_PrintTypeE r, [])) := by
  simp only [seineref1_PrintType_B, seineref1_PrintType_T1]
  try simp only [evs, tys]
  refine Imp.call (f := seineref1_RightTypeE) rfl (fun a h => by first | exact seineref1_RightType_spec h | simpa only [evs, tys, evl] using seineref1_RightType_spec h) (fun a => by first | rfl | simp only [seineref1_RightTypeE, evk, chks]) fun y2 hy2 => ?_
  try simp only [seineref1_RightTypeE, evs, tys]
  refine Imp.cnd ?_ ?_
  · exact Imp.some (by first | rfl | simp only [seineref1_PrintTypeE, evs, tys, evl])
  · refine Imp.bnd (Imp.loop (seineref1_PrintType_l1_ok t) ⟨by first | rfl | simp only [evs, tys, evl], rfl⟩) ?_
    rintro out_30 vy32 hy32
    obtain ⟨i_31, rfl⟩ := hy32
    refine Imp.exHit rfl (Imp.chk rfl (Imp.chk rfl ?_))
    try simp only [evs, tys]
    exact Imp.some (by first | rfl | simp only [seineref1_PrintTypeE, evs, tys, evl])
theorem seineref1_PrintType_run {t : GType} {r : Str × Bool} (h : seineref1_PrintType_B t = some r) : seineref1_PrintType t = some r := by
  obtain ⟨v, hv, rfl⟩ := seineref1_PrintType_imp t r h
  exact tO_of (pair_inj seineref1_PrintTypeEj) (OL_runD seineref1_PrintType_ds rfl rfl Try.func18 ((seineref1_PrintType_t1 _ _ t).trans hv))

def seineref1_RightType_T1 (O : Orc) (LP : LBody → LBody) (t : GType) : Option (PV × UP) :=
  callp O 32 [(.str t.name)] fun x1 => cnd (chk .bool x1)
  (cnd (boolV x1)
   (cnd (decide (t.lists ≥ 0))
    (cnd (decide (t.lists ≤ 4))
     (cnd (decide (t.musts ≥ 0))
      (bnd (bin .shl (.int .i64 2) (.int .u64 (IntKind.wrap .u64 t.lists))) fun x3 => cnd (chk (.int .i64) x3)
      (some ((.bool (decide (t.musts < (intV x3)))), [])) none)
      (some ((.bool false), [])))
     (some ((.bool false), [])))
    (some ((.bool false), [])))
   (some ((.bool false), []))) none
noncomputable def seineref1_RightType_B (t : GType) : Option Bool :=
  bnd (seineref1_Name t.name) fun y2 =>
  cnd y2
   (cnd (decide (t.lists ≥ 0))
    (cnd (decide (t.lists ≤ 4))
     (cnd (decide (t.musts ≥ 0))
      (bnd (tshl .i64 2 (IntKind.wrap .u64 t.lists)) fun y4 =>
      some (decide (t.musts < y4)))
      (some false))
     (some false))
    (some false))
   (some false)
def seineref1_RightType_ds : Decs := { decs := [(5, .bool), (27, (.int .i64))], ups := [], loops := [] }
set_option maxRecDepth 100000 in
theorem seineref1_RightType_t1 (O : Orc) (LP : LBody → LBody) (t : GType) : evalBodyD Try.prog (MT 19) seineref1_RightType_ds Try.f19.ntmps O LP Try.f19 [(.agg [(.str t.name), (.int .i64 t.lists), (.int .i64 t.musts)])] [] = seineref1_RightType_T1 O LP t := by kernel_rfl
theorem seineref1_RightType_imp (t : GType) : Imp (seineref1_RightType_B t) (seineref1_RightType_T1 O loopLim t) (fun r v => v = (seineref1_RightTypeE r, [])) := by
  simp only [seineref1_RightType_B, seineref1_RightType_T1]
  try simp only [evs, tys]
  refine Imp.call (f := seineref1_NameE) rfl (fun a h => by first | exact seineref1_Name_spec h | simpa only [evs, tys, evl] using seineref1_Name_spec h) (fun a => by first | rfl | simp only [seineref1_NameE, evk, chks]) fun y2 hy2 => ?_
  try simp only [seineref1_NameE, evs, tys]
  refine Imp.cnd ?_ ?_
  · refine Imp.cnd ?_ ?_
    · refine Imp.cnd ?_ ?_
      · refine Imp.cnd ?_ ?_
        · refine Imp.op (f := fun a => .int _ a) (fun a h => op_shl h) (fun a => rfl) fun y4 hy4 => ?_
          try simp only [evs, tys]
          exact Imp.some (by first | rfl | simp only [seineref1_RightTypeE, evs, tys, evl])
        · exact Imp.some (by first | rfl | simp only [seineref1_RightTypeE, evs, tys, evl])
      · exact Imp.some (by first | rfl | simp only [seineref1_RightTypeE, evs, tys, evl])
    · exact Imp.some (by first | rfl | simp only [seineref1_RightTypeE, evs, tys, evl])
  · exact Imp.some (by first | rfl | simp only [seineref1_RightTypeE, evs, tys, evl])
theorem seineref1_RightType_run {t : GType} {r : Bool} (h : seineref1_RightType_B t = some r) : seineref1_RightType t = some r := by
  obtain ⟨v, hv, rfl⟩ := seineref1_RightType_imp t r h
  exact tO_of (pair_inj seineref1_RightTypeEj) (OL_runD seineref1_RightType_ds rfl rfl Try.func19 ((seineref1_RightType_t1 _ _ t).trans hv))

def seineref1_ReadType_l1 (O : Orc) (LP : LBody → LBody) : LBody := fun s1 s1u => cnd (chkL [.str, (.ptr 0 2 0), (.ptr 0 4 0), .str, (.int .i64), (.int .i64), .str, (.int .i64), (.int .i64)] s1) (cnd (chkU [] s1u)
  (cnd (decide ((intV (gt s1 4)) < (List.length (strV (gt s1 0)) : Int)))
   (bnd (ixStr (.str (strV (gt s1 0))) (.int .i64 (intV (gt s1 4)))) fun x5 => cnd (chk (.int .u8) x5)
   (cnd ((intV x5) == 91)
    (some (.nrm, [(.str (strV (gt s1 0))), (.ptr 0 2 0), (.ptr 0 4 0), (.str (strV (gt s1 3))), (.int .i64 (IntKind.wrap .i64 ((intV (gt s1 4)) + 1))), (.int .i64 (intV (gt s1 5))), (.str (strV (gt s1 6))), (.int .i64 (intV (gt s1 7))), (.int .i64 (intV (gt s1 8)))], []))
    (some (.brk 0, [(.str (strV (gt s1 0))), (.ptr 0 2 0), (.ptr 0 4 0), (.str (strV (gt s1 3))), (.int .i64 (intV (gt s1 4))), (.int .i64 (intV (gt s1 5))), (.str (strV (gt s1 6))), (.int .i64 (intV (gt s1 7))), (.int .i64 (intV (gt s1 8)))], []))) none)
   (some (.brk 0, [(.str (strV (gt s1 0))), (.ptr 0 2 0), (.ptr 0 4 0), (.str (strV (gt s1 3))), (.int .i64 (intV (gt s1 4))), (.int .i64 (intV (gt s1 5))), (.str (strV (gt s1 6))), (.int .i64 (intV (gt s1 7))), (.int .i64 (intV (gt s1 8)))], []))) none) none
def seineref1_ReadType_l2 (O : Orc) (LP : LBody → LBody) : LBody := fun s9 s9u => cnd (chkL [.str, (.ptr 0 2 0), (.ptr 0 4 0), (.int .i64), .str, (.int .i64), (.int .i64), .str, (.int .i64), (.int .i64)] s9) (cnd (chkU [] s9u)
  (cnd (decide ((intV (gt s9 3)) < (List.length (strV (gt s9 0)) : Int)))
   (bnd (ixStr (.str (strV (gt s9 0))) (.int .i64 (intV (gt s9 3)))) fun x19 => cnd (chk (.int .u8) x19)
   (callp O 33 [(.int .u8 (intV x19))] fun x21 => cnd (chk .bool x21)
   (cnd (boolV x21)
    (some (.nrm, [(.str (strV (gt s9 0))), (.ptr 0 2 0), (.ptr 0 4 0), (.int .i64 (IntKind.wrap .i64 ((intV (gt s9 3)) + 1))), (.str (strV (gt s9 4))), (.int .i64 (intV (gt s9 5))), (.int .i64 (intV (gt s9 6))), (.str (strV (gt s9 7))), (.int .i64 (intV (gt s9 8))), (.int .i64 (intV (gt s9 9)))], []))
    (bnd (ixStr (.str (strV (gt s9 0))) (.int .i64 (intV (gt s9 3)))) fun x23 => cnd (chk (.int .u8) x23)
    (callp O 34 [(.int .u8 (intV x23))] fun x25 => cnd (chk .bool x25)
    (cnd (boolV x25)
     (some (.nrm, [(.str (strV (gt s9 0))), (.ptr 0 2 0), (.ptr 0 4 0), (.int .i64 (IntKind.wrap .i64 ((intV (gt s9 3)) + 1))), (.str (strV (gt s9 4))), (.int .i64 (intV (gt s9 5))), (.int .i64 (intV (gt s9 6))), (.str (strV (gt s9 7))), (.int .i64 (intV (gt s9 8))), (.int .i64 (intV (gt s9 9)))], []))
     (some (.brk 2, [(.str (strV (gt s9 0))), (.ptr 0 2 0), (.ptr 0 4 0), (.int .i64 (intV (gt s9 3))), (.str (strV (gt s9 4))), (.int .i64 (intV (gt s9 5))), (.int .i64 (intV (gt s9 6))), (.str (strV (gt s9 7))), (.int .i64 (intV (gt s9 8))), (.int .i64 (intV (gt s9 9)))], []))) none) none)) none) none)
   (some (.brk 2, [(.str (strV (gt s9 0))), (.ptr 0 2 0), (.ptr 0 4 0), (.int .i64 (intV (gt s9 3))), (.str (strV (gt s9 4))), (.int .i64 (intV (gt s9 5))), (.int .i64 (intV (gt s9 6))), (.str (strV (gt s9 7))), (.int .i64 (intV (gt s9 8))), (.int .i64 (intV (gt s9 9)))], []))) none) none
def seineref1_ReadType_l3 (O : Orc) (LP : LBody → LBody) : LBody := fun s33 s33u => cnd (chkL [.str, (.ptr 0 2 0), .bot, (.ptr 0 4 0), (.int .i64), (.int .i64), .str, (.int .i64), (.int .i64), .str, (.int .i64), (.int .i64)] s33) (cnd (chkU [] s33u)
  (cnd (decide ((intV (gt s33 5)) ≥ 0))
   (cnd (decide ((intV (gt s33 5)) < (intV (gt s33 7))))
    (cnd (decide ((intV (gt s33 4)) ≥ (List.length (strV (gt s33 0)) : Int)))
     (some (.ret, [(.str (strV (gt s33 0))), (.ptr 0 2 0), (.bool false), (.ptr 0 4 0), (.int .i64 (intV (gt s33 4))), (.int .i64 (intV (gt s33 5))), (.str (strV (gt s33 6))), (.int .i64 (intV (gt s33 7))), (.int .i64 (intV (gt s33 8))), (.str []), (.int .i64 0), (.int .i64 0)], []))
     (bnd (ixStr (.str (strV (gt s33 0))) (.int .i64 (intV (gt s33 4)))) fun x47 => cnd (chk (.int .u8) x47)
     (cnd ((intV x47) != 93)
      (some (.ret, [(.str (strV (gt s33 0))), (.ptr 0 2 0), (.bool false), (.ptr 0 4 0), (.int .i64 (intV (gt s33 4))), (.int .i64 (intV (gt s33 5))), (.str (strV (gt s33 6))), (.int .i64 (intV (gt s33 7))), (.int .i64 (intV (gt s33 8))), (.str []), (.int .i64 0), (.int .i64 0)], []))
      (cnd (decide ((IntKind.wrap .i64 ((intV (gt s33 4)) + 1)) < (List.length (strV (gt s33 0)) : Int)))
       (bnd (ixStr (.str (strV (gt s33 0))) (.int .i64 (IntKind.wrap .i64 ((intV (gt s33 4)) + 1)))) fun x49 => cnd (chk (.int .u8) x49)
       (cnd ((intV x49) == 33)
        (bnd (bin .shl (.int .i64 1) (.int .u64 (IntKind.wrap .u64 (intV (gt s33 5))))) fun x51 => cnd (chk (.int .i64) x51)
        (some (.nrm, [(.str (strV (gt s33 0))), (.ptr 0 2 0), .bot, (.ptr 0 4 0), (.int .i64 (IntKind.wrap .i64 ((IntKind.wrap .i64 ((intV (gt s33 4)) + 1)) + 1))), (.int .i64 (IntKind.wrap .i64 ((intV (gt s33 5)) - 1))), (.str (strV (gt s33 6))), (.int .i64 (intV (gt s33 7))), (.int .i64 (bits .or .i64 (intV (gt s33 8)) (intV x51))), (.str (strV (gt s33 9))), (.int .i64 (intV (gt s33 10))), (.int .i64 (intV (gt s33 11)))], [])) none)
        (some (.nrm, [(.str (strV (gt s33 0))), (.ptr 0 2 0), .bot, (.ptr 0 4 0), (.int .i64 (IntKind.wrap .i64 ((intV (gt s33 4)) + 1))), (.int .i64 (IntKind.wrap .i64 ((intV (gt s33 5)) - 1))), (.str (strV (gt s33 6))), (.int .i64 (intV (gt s33 7))), (.int .i64 (intV (gt s33 8))), (.str (strV (gt s33 9))), (.int .i64 (intV (gt s33 10))), (.int .i64 (intV (gt s33 11)))], []))) none)
       (some (.nrm, [(.str (strV (gt s33 0))), (.ptr 0 2 0), .bot, (.ptr 0 4 0), (.int .i64 (IntKind.wrap .i64 ((intV (gt s33 4)) + 1))), (.int .i64 (IntKind.wrap .i64 ((intV (gt s33 5)) - 1))), (.str (strV (gt s33 6))), (.int .i64 (intV (gt s33 7))), (.int .i64 (intV (gt s33 8))), (.str (strV (gt s33 9))), (.int .i64 (intV (gt s33 10))), (.int .i64 (intV (gt s33 11)))], [])))) none))
    (cnd (decide ((intV (gt s33 4)) < (List.length (strV (gt s33 0)) : Int)))
     (bnd (ixStr (.str (strV (gt s33 0))) (.int .i64 (intV (gt s33 4)))) fun x53 => cnd (chk (.int .u8) x53)
     (cnd ((intV x53) == 33)
      (bnd (bin .shl (.int .i64 1) (.int .u64 (IntKind.wrap .u64 (intV (gt s33 5))))) fun x55 => cnd (chk (.int .i64) x55)
      (some (.nrm, [(.str (strV (gt s33 0))), (.ptr 0 2 0), .bot, (.ptr 0 4 0), (.int .i64 (IntKind.wrap .i64 ((intV (gt s33 4)) + 1))), (.int .i64 (IntKind.wrap .i64 ((intV (gt s33 5)) - 1))), (.str (strV (gt s33 6))), (.int .i64 (intV (gt s33 7))), (.int .i64 (bits .or .i64 (intV (gt s33 8)) (intV x55))), (.str (strV (gt s33 9))), (.int .i64 (intV (gt s33 10))), (.int .i64 (intV (gt s33 11)))], [])) none)
      (some (.nrm, [(.str (strV (gt s33 0))), (.ptr 0 2 0), .bot, (.ptr 0 4 0), (.int .i64 (intV (gt s33 4))), (.int .i64 (IntKind.wrap .i64 ((intV (gt s33 5)) - 1))), (.str (strV (gt s33 6))), (.int .i64 (intV (gt s33 7))), (.int .i64 (intV (gt s33 8))), (.str (strV (gt s33 9))), (.int .i64 (intV (gt s33 10))), (.int .i64 (intV (gt s33 11)))], []))) none)
     (some (.nrm, [(.str (strV (gt s33 0))), (.ptr 0 2 0), .bot, (.ptr 0 4 0), (.int .i64 (intV (gt s33 4))), (.int .i64 (IntKind.wrap .i64 ((intV (gt s33 5)) - 1))), (.str (strV (gt s33 6))), (.int .i64 (intV (gt s33 7))), (.int .i64 (intV (gt s33 8))), (.str (strV (gt s33 9))), (.int .i64 (intV (gt s33 10))), (.int .i64 (intV (gt s33 11)))], []))))
   (some (.brk 4, [(.str (strV (gt s33 0))), (.ptr 0 2 0), .bot, (.ptr 0 4 0), (.int .i64 (intV (gt s33 4))), (.int .i64 (intV (gt s33 5))), (.str (strV (gt s33 6))), (.int .i64 (intV (gt s33 7))), (.int .i64 (intV (gt s33 8))), (.str (strV (gt s33 9))), (.int .i64 (intV (gt s33 10))), (.int .i64 (intV (gt s33 11)))], []))) none) none
def seineref1_ReadType_T1 (O : Orc) (LP : LBody → LBody) (s : Str) : Option (PV × UP) :=
  bnd (LP (seineref1_ReadType_l1 O LP) [(.str s), (.ptr 0 2 0), (.ptr 0 4 0), (.str []), (.int .i64 0), (.int .i64 0), (.str []), (.int .i64 0), (.int .i64 0)] []) fun y8 =>
  exIs y8.1 (some 0) (cnd (chkL [.str, (.ptr 0 2 0), (.ptr 0 4 0), .str, (.int .i64), (.int .i64), .str, (.int .i64), (.int .i64)] y8.2.1) (cnd (chkU [] y8.2.2)
   (bnd (LP (seineref1_ReadType_l2 O LP) [(.str (strV (gt y8.2.1 0))), (.ptr 0 2 0), (.ptr 0 4 0), (.int .i64 (intV (gt y8.2.1 4))), (.str (strV (gt y8.2.1 3))), (.int .i64 (intV (gt y8.2.1 4))), (.int .i64 (intV (gt y8.2.1 5))), (.str (strV (gt y8.2.1 6))), (.int .i64 (intV (gt y8.2.1 7))), (.int .i64 (intV (gt y8.2.1 8)))] []) fun y28 =>
   exIs y28.1 (some 2) (cnd (chkL [.str, (.ptr 0 2 0), (.ptr 0 4 0), (.int .i64), .str, (.int .i64), (.int .i64), .str, (.int .i64), (.int .i64)] y28.2.1) (cnd (chkU [] y28.2.2)
    (bnd (slcLH 0 (.str (strV (gt y28.2.1 0))) (.int .i64 (intV (gt y28.2.1 5))) (.int .i64 (intV (gt y28.2.1 3)))) fun x29 => cnd (chk .str x29)
    (cnd (decide ((intV (gt y28.2.1 5)) > 4))
     (some ((.tuple [(.agg [(.str []), (.int .i64 0), (.int .i64 0)]), (.bool false)]), []))
     (callp O 32 [(.str (strV x29))] fun x31 => cnd (chk .bool x31)
     (cnd (!(boolV x31))
      (some ((.tuple [(.agg [(.str []), (.int .i64 0), (.int .i64 0)]), (.bool false)]), []))
      (bnd (LP (seineref1_ReadType_l3 O LP) [(.str (strV (gt y28.2.1 0))), (.ptr 0 2 0), .bot, (.ptr 0 4 0), (.int .i64 (intV (gt y28.2.1 3))), (.int .i64 (intV (gt y28.2.1 5))), (.str (strV x29)), (.int .i64 (intV (gt y28.2.1 5))), (.int .i64 (intV (gt y28.2.1 6))), (.str (strV (gt y28.2.1 7))), (.int .i64 (intV (gt y28.2.1 8))), (.int .i64 (intV (gt y28.2.1 9)))] []) fun y63 =>
      exIs y63.1 (some 4) (cnd (chkL [.str, (.ptr 0 2 0), .bot, (.ptr 0 4 0), (.int .i64), (.int .i64), .str, (.int .i64), (.int .i64), .str, (.int .i64), (.int .i64)] y63.2.1) (cnd (chkU [] y63.2.2)
       (cnd ((intV (gt y63.2.1 4)) != (List.length (strV (gt y63.2.1 0)) : Int))
        (some ((.tuple [(.agg [(.str []), (.int .i64 0), (.int .i64 0)]), (.bool false)]), []))
        (some ((.tuple [(.agg [(.str (strV (gt y63.2.1 6))), (.int .i64 (intV (gt y63.2.1 7))), (.int .i64 (intV (gt y63.2.1 8)))]), (.bool true)]), []))) none) none)
      (exIs y63.1 none (cnd (chkL [.str, (.ptr 0 2 0), .bool, (.ptr 0 4 0), (.int .i64), (.int .i64), .str, (.int .i64), (.int .i64), .str, (.int .i64), (.int .i64)] y63.2.1) (cnd (chkU [] y63.2.2)
       (some ((.tuple [(.agg [(.str (strV (gt y63.2.1 9))), (.int .i64 (intV (gt y63.2.1 10))), (.int .i64 (intV (gt y63.2.1 11)))]), (.bool (boolV (gt y63.2.1 2)))]), [])) none) none)
      (none)))) none)) none) none) none)
   (none)) none) none)
  (none)
noncomputable def seineref1_ReadType_l1T (s : Str) : Int → Option (Int ⊕ Int)
  | t_4 =>
  cnd (decide (t_4 < (List.length s : Int)))
   (bnd (nthI s t_4) fun y6 =>
   cnd ((y6.toNat : Int) == 91)
    (some (.inl (IntKind.wrap .i64 (t_4 + 1))))
    (some (.inr t_4)))
   (some (.inr t_4))
abbrev seineref1_ReadType_l1R (s : Str) (st : Int) (l : List PV) (u : UP) : Prop := l = [(.str s), (.ptr 0 2 0), (.ptr 0 4 0), (.str []), (.int .i64 st), (.int .i64 0), (.str []), (.int .i64 0), (.int .i64 0)] ∧ u = []
abbrev seineref1_ReadType_l1X (s : Str) (p : Int) (r : Ex × List PV × UP) : Prop := (fun (p : Int) => r = (Ex.brk 0, [(.str s), (.ptr 0 2 0), (.ptr 0 4 0), (.str []), (.int .i64 p), (.int .i64 0), (.str []), (.int .i64 0), (.int .i64 0)], [])) p
noncomputable def seineref1_ReadType_l2T (s : Str) : Int → Option (Int ⊕ Int)
  | i_18 =>
  cnd (decide (i_18 < (List.length s : Int)))
   (bnd (nthI s i_18) fun y20 =>
   bnd (seineref1_start (y20.toNat : Int)) fun y22 =>
   cnd y22
    (some (.inl (IntKind.wrap .i64 (i_18 + 1))))
    (bnd (nthI s i_18) fun y24 =>
    bnd (seineref1_digit (y24.toNat : Int)) fun y26 =>
    cnd y26
     (some (.inl (IntKind.wrap .i64 (i_18 + 1))))
     (some (.inr i_18))))
   (some (.inr i_18))
abbrev seineref1_ReadType_l2R (s : Str) (t_7 : Int) (st : Int) (l : List PV) (u : UP) : Prop := l = [(.str s), (.ptr 0 2 0), (.ptr 0 4 0), (.int .i64 st), (.str []), (.int .i64 t_7), (.int .i64 0), (.str []), (.int .i64 0), (.int .i64 0)] ∧ u = []
abbrev seineref1_ReadType_l2X (s : Str) (t_7 : Int) (p : Int) (r : Ex × List PV × UP) : Prop := (fun (p : Int) => r = (Ex.brk 2, [(.str s), (.ptr 0 2 0), (.ptr 0 4 0), (.int .i64 p), (.str []), (.int .i64 t_7), (.int .i64 0), (.str []), (.int .i64 0), (.int .i64 0)], [])) p
noncomputable def seineref1_ReadType_l3T (s : Str) (t_7 : Int) : (Int × Int × Int) → Option ((Int × Int × Int) ⊕ ((Int × Int) ⊕ Unit))
  | (i_44, k_45, t_46) =>
  cnd (decide (k_45 ≥ 0))
   (cnd (decide (k_45 < t_7))
    (cnd (decide (i_44 ≥ (List.length s : Int)))
     (some (.inr (.inr ())))
     (bnd (nthI s i_44) fun y48 =>
     cnd ((y48.toNat : Int) != 93)
      (some (.inr (.inr ())))
      (cnd (decide ((IntKind.wrap .i64 (i_44 + 1)) < (List.length s : Int)))
       (bnd (nthI s (IntKind.wrap .i64 (i_44 + 1))) fun y50 =>
       cnd ((y50.toNat : Int) == 33)
        (bnd (tshl .i64 1 (IntKind.wrap .u64 k_45)) fun y52 =>
        some (.inl ((IntKind.wrap .i64 ((IntKind.wrap .i64 (i_44 + 1)) + 1)), (IntKind.wrap .i64 (k_45 - 1)), (bits .or .i64 t_46 y52))))
        (some (.inl ((IntKind.wrap .i64 (i_44 + 1)), (IntKind.wrap .i64 (k_45 - 1)), t_46))))
       (some (.inl ((IntKind.wrap .i64 (i_44 + 1)), (IntKind.wrap .i64 (k_45 - 1)), t_46))))))
    (cnd (decide (i_44 < (List.length s : Int)))
     (bnd (nthI s i_44) fun y54 =>
     cnd ((y54.toNat : Int) == 33)
      (bnd (tshl .i64 1 (IntKind.wrap .u64 k_45)) fun y56 =>
      some (.inl ((IntKind.wrap .i64 (i_44 + 1)), (IntKind.wrap .i64 (k_45 - 1)), (bits .or .i64 t_46 y56))))
      (some (.inl (i_44, (IntKind.wrap .i64 (k_45 - 1)), t_46))))
     (some (.inl (i_44, (IntKind.wrap .i64 (k_45 - 1)), t_46)))))
   (some (.inr (.inl (i_44, t_46))))
abbrev seineref1_ReadType_l3R (s : Str) (t_7 : Int) (y30 : Str) (st : Int × Int × Int) (l : List PV) (u : UP) : Prop := l = [(.str s), (.ptr 0 2 0), .bot, (.ptr 0 4 0), (.int .i64 st.1), (.int .i64 st.2.1), (.str y30), (.int .i64 t_7), (.int .i64 st.2.2), (.str []), (.int .i64 0), (.int .i64 0)] ∧ u = []
abbrev seineref1_ReadType_l3X (s : Str) (t_7 : Int) (y30 : Str) (p : (Int × Int) ⊕ Unit) (r : Ex × List PV × UP) : Prop := elim p (fun (p : Int × Int) => ∃ (k_58 : Int), r = (Ex.brk 4, [(.str s), (.ptr 0 2 0), .bot, (.ptr 0 4 0), (.int .i64 p.1), (.int .i64 k_58), (.str y30), (.int .i64 t_7), (.int .i64 p.2), (.str []), (.int .i64 0), (.int .i64 0)], [])) (fun q2 => (fun (p : Unit) => ∃ (i_60 : Int), ∃ (k_61 : Int), ∃ (t_62 : Int), r = (Ex.ret, [(.str s), (.ptr 0 2 0), (.bool false), (.ptr 0 4 0), (.int .i64 i_60), (.int .i64 k_61), (.str y30), (.int .i64 t_7), (.int .i64 t_62), (.str []), (.int .i64 0), (.int .i64 0)], [])) q2)
noncomputable def seineref1_ReadType_B (s : Str) : Option (GType × Bool) :=
  bnd (tloop (seineref1_ReadType_l1T s) 0) fun t_7 =>
  bnd (tloop (seineref1_ReadType_l2T s) t_7) fun i_27 =>
  bnd (tslc s t_7 i_27) fun y30 =>
  cnd (decide (t_7 > 4))
   (some ((GType.mk [] 0 0), false))
   (bnd (seineref1_Name y30) fun y32 =>
   cnd (!y32)
    (some ((GType.mk [] 0 0), false))
    (bnd (tloop (seineref1_ReadType_l3T s t_7) (i_27, t_7, 0)) fun e63_2 => elim e63_2
    (fun p63 =>
     cnd (p63.1 != (List.length s : Int))
      (some ((GType.mk [] 0 0), false))
      (some ((GType.mk y30 t_7 p63.2), true)))
    (fun p63 =>
    some ((GType.mk [] 0 0), false))))
def seineref1_ReadType_ds : Decs := { decs := [(17, (.int .u8)), (33, (.int .u8)), (34, .bool), (38, (.int .u8)), (39, .bool), (48, .str), (56, .bool), (77, (.int .u8)), (90, (.int .u8)), (97, (.int .i64))], ups := [], loops := [(2, [(4, 3), (2, 3)], ⟨[.str, (.ptr 0 2 0), (.ptr 0 4 0), .str, (.int .i64), (.int .i64), .str, (.int .i64), (.int .i64)], [], [(some 0, [.str, (.ptr 0 2 0), (.ptr 0 4 0), .str, (.int .i64), (.int .i64), .str, (.int .i64), (.int .i64)], [])]⟩), (5, [(4, 3), (2, 3)], ⟨[.str, (.ptr 0 2 0), (.ptr 0 4 0), (.int .i64), .str, (.int .i64), (.int .i64), .str, (.int .i64), (.int .i64)], [], [(some 2, [.str, (.ptr 0 2 0), (.ptr 0 4 0), (.int .i64), .str, (.int .i64), (.int .i64), .str, (.int .i64), (.int .i64)], [])]⟩), (11, [(4, 3), (2, 3)], ⟨[.str, (.ptr 0 2 0), .bot, (.ptr 0 4 0), (.int .i64), (.int .i64), .str, (.int .i64), (.int .i64), .str, (.int .i64), (.int .i64)], [], [(some 4, [.str, (.ptr 0 2 0), .bot, (.ptr 0 4 0), (.int .i64), (.int .i64), .str, (.int .i64), (.int .i64), .str, (.int .i64), (.int .i64)], []), (none, [.str, (.ptr 0 2 0), .bool, (.ptr 0 4 0), (.int .i64), (.int .i64), .str, (.int .i64), (.int .i64), .str, (.int .i64), (.int .i64)], [])]⟩)] }
set_option maxRecDepth 100000 in
theorem seineref1_ReadType_t1 (O : Orc) (LP : LBody → LBody) (s : Str) : evalBodyD Try.prog (MT 20) seineref1_ReadType_ds Try.f20.ntmps O LP Try.f20 [(.str s)] [] = seineref1_ReadType_T1 O LP s := by kernel_rfl
theorem seineref1_ReadType_l1_ok (s : Str) : ∀ st l u, seineref1_ReadType_l1R s st l u → Imp (seineref1_ReadType_l1T s st) (seineref1_ReadType_l1 O loopLim l u) (StepR (seineref1_ReadType_l1R s) (seineref1_ReadType_l1X s)) := by
  rintro t_4 l u ⟨rfl, rfl⟩
  simp only [seineref1_ReadType_l1T, seineref1_ReadType_l1]
  refine Imp.chk rfl (Imp.chk rfl ?_)
  try simp only [evs, tys]
  refine Imp.cnd ?_ ?_
  · refine Imp.op (f := fun a => .int .u8 (a.toNat : Int)) (fun a h => op_ixStr h) (fun a => rfl) fun y6 hy6 => ?_
    try simp only [evs, tys]
    refine Imp.cnd ?_ ?_
    · exact Imp.some (StepR.next ⟨by first | rfl | simp only [evs, tys, evl], rfl⟩)
    · exact Imp.some (StepR.brk (by first | rfl | simp only [evs, tys, evl, elim_inl, elim_inr]))
  · exact Imp.some (StepR.brk (by first | rfl | simp only [evs, tys, evl, elim_inl, elim_inr]))
theorem seineref1_ReadType_l2_ok (s : Str) (t_7 : Int) : ∀ st l u, seineref1_ReadType_l2R s t_7 st l u → Imp (seineref1_ReadType_l2T s st) (seineref1_ReadType_l2 O loopLim l u) (StepR (seineref1_ReadType_l2R s t_7) (seineref1_ReadType_l2X s t_7)) := by
  rintro i_18 l u ⟨rfl, rfl⟩
  simp only [seineref1_ReadType_l2T, seineref1_ReadType_l2]
  refine Imp.chk rfl (Imp.chk rfl ?_)
  try simp only [evs, tys]
  refine Imp.cnd ?_ ?_
  · refine Imp.op (f := fun a => .int .u8 (a.toNat : Int)) (fun a h => op_ixStr h) (fun a => rfl) fun y20 hy20 => ?_
    try simp only [evs, tys]
    refine Imp.call (f := seineref1_startE) rfl (fun a h => by first | exact seineref1_start_spec h | simpa only [evs, tys, evl] using seineref1_start_spec h) (fun a => by first | rfl | simp only [seineref1_startE, evk, chks]) fun y22 hy22 => ?_
    try simp only [seineref1_startE, evs, tys]
    refine Imp.cnd ?_ ?_
    · exact Imp.some (StepR.next ⟨by first | rfl | simp only [evs, tys, evl], rfl⟩)
    · refine Imp.op (f := fun a => .int .u8 (a.toNat : Int)) (fun a h => op_ixStr h) (fun a => rfl) fun y24 hy24 => ?_
      try simp only [evs, tys]
      refine Imp.call (f := seineref1_digitE) rfl (fun a h => by first | exact seineref1_digit_spec h | simpa only [evs, tys, evl] using seineref1_digit_spec h) (fun a => by first | rfl | simp only [seineref1_digitE, evk, chks]) fun y26 hy26 => ?_
      try simp only [seineref1_digitE, evs, tys]
      refine Imp.cnd ?_ ?_
      · exact Imp.some (StepR.next ⟨by first | rfl | simp only [evs, tys, evl], rfl⟩)
      · exact Imp.some (StepR.brk (by first | rfl | simp only [evs, tys, evl, elim_inl, elim_inr]))
  · exact Imp.some (StepR.brk (by first | rfl | simp only [evs, tys, evl, elim_inl, elim_inr]))
theorem seineref1_ReadType_l3_ok (s : Str) (t_7 : Int) (y30 : Str) : ∀ st l u, seineref1_ReadType_l3R s t_7 y30 st l u → Imp (seineref1_ReadType_l3T s t_7 st) (seineref1_ReadType_l3 O loopLim l u) (StepR (seineref1_ReadType_l3R s t_7 y30) (seineref1_ReadType_l3X s t_7 y30)) := by
  rintro ⟨i_44, k_45, t_46⟩ l u ⟨rfl, rfl⟩
  simp only [seineref1_ReadType_l3T, seineref1_ReadType_l3]
  refine Imp.chk rfl (Imp.chk rfl ?_)
  try simp only [evs, tys]
  refine Imp.cnd ?_ ?_
  · refine Imp.cnd ?_ ?_
    · refine Imp.cnd ?_ ?_
      · exact Imp.some (StepR.ret ⟨i_44, k_45, t_46, by first | rfl | simp only [evs, tys, evl, elim_inl, elim_inr]⟩)
      · refine Imp.op (f := fun a => .int .u8 (a.toNat : Int)) (fun a h => op_ixStr h) (fun a => rfl) fun y48 hy48 => ?_
        try simp only [evs, tys]
        refine Imp.cnd ?_ ?_
        · exact Imp.some (StepR.ret ⟨i_44, k_45, t_46, by first | rfl | simp only [evs, tys, evl, elim_inl, elim_inr]⟩)
        · refine Imp.cnd ?_ ?_
          · refine Imp.op (f := fun a => .int .u8 (a.toNat : Int)) (fun a h => op_ixStr h) (fun a => rfl) fun y50 hy50 => ?_
            try simp only [evs, tys]
            refine Imp.cnd ?_ ?_
            · refine Imp.op (f := fun a => .int _ a) (fun a h => op_shl h) (fun a => rfl) fun y52 hy52 => ?_
              try simp only [evs, tys]
              exact Imp.some (StepR.next ⟨by first | rfl | simp only [evs, tys, evl], rfl⟩)
            · exact Imp.some (StepR.next ⟨by first | rfl | simp only [evs, tys, evl], rfl⟩)
          · exact Imp.some (StepR.next ⟨by first | rfl | simp only [evs, tys, evl], rfl⟩)
    · refine Imp.cnd ?_ ?_
      · refine Imp.op (f := fun a => .int .u8 (a.toNat : Int)) (fun a h => op_ixStr h) (fun a => rfl) fun y54 hy54 => ?_
        try simp only [evs, tys]
        refine Imp.cnd ?_ ?_
        · refine Imp.op (f := fun a => .int _ a) (fun a h => op_shl h) (fun a => rfl) fun y56 hy56 => ?_
          try simp only [evs, tys]
          exact Imp.some (StepR.next ⟨by first | rfl | simp only [evs, tys, evl], rfl⟩)
        · exact Imp.some (StepR.next ⟨by first | rfl | simp only [evs, tys, evl], rfl⟩)
      · exact Imp.some (StepR.next ⟨by first | rfl | simp only [evs, tys, evl], rfl⟩)
  · exact Imp.some (StepR.brk ⟨k_45, by first | rfl | simp only [evs, tys, evl, elim_inl, elim_inr]⟩)
theorem seineref1_ReadType_imp (s : Str) : Imp (seineref1_ReadType_B s) (seineref1_ReadType_T1 O loopLim s) (fun r v => v = (seineref1_ReadTypeE r, [])) := by
  simp only [seineref1_ReadType_B, seineref1_ReadType_T1]
  try simp only [evs, tys]
  refine Imp.bnd (Imp.loop (seineref1_ReadType_l1_ok s) ⟨by first | rfl | simp only [evs, tys, evl], rfl⟩) ?_
  rintro t_7 vy8 hy8
  cases hy8
  refine Imp.exHit rfl (Imp.chk rfl (Imp.chk rfl ?_))
  try simp only [evs, tys]
  refine Imp.bnd (Imp.loop (seineref1_ReadType_l2_ok s t_7) ⟨by first | rfl | simp only [evs, tys, evl], rfl⟩) ?_
  rintro i_27 vy28 hy28
  cases hy28
  refine Imp.exHit rfl (Imp.chk rfl (Imp.chk rfl ?_))
  try simp only [evs, tys]
  refine Imp.op (f := fun a => .str a) (fun a h => op_sslcLH h) (fun a => rfl) fun y30 hy30 => ?_
  try simp only [evs, tys]
  refine Imp.cnd ?_ ?_
  · exact Imp.some (by first | rfl | simp only [seineref1_ReadTypeE, evs, tys, evl])
  · refine Imp.call (f := seineref1_NameE) rfl (fun a h => by first | exact seineref1_Name_spec h | simpa only [evs, tys, evl] using seineref1_Name_spec h) (fun a => by first | rfl | simp only [seineref1_NameE, evk, chks]) fun y32 hy32 => ?_
    try simp only [seineref1_NameE, evs, tys]
    refine Imp.cnd ?_ ?_
    · exact Imp.some (by first | rfl | simp only [seineref1_ReadTypeE, evs, tys, evl])
    · refine Imp.bnd (Imp.loop (seineref1_ReadType_l3_ok s t_7 y30) ⟨by first | rfl | simp only [evs, tys, evl], rfl⟩) ?_
      rintro (⟨i_57, t_59⟩ | p) vy63 hy63
      · try simp only [elim_inl, elim_inr]
        obtain ⟨k_58, rfl⟩ := hy63
        refine Imp.exHit rfl (Imp.chk rfl (Imp.chk rfl ?_))
        try simp only [evs, tys]
        refine Imp.cnd ?_ ?_
        · exact Imp.some (by first | rfl | simp only [seineref1_ReadTypeE, evs, tys, evl])
        · exact Imp.some (by first | rfl | simp only [seineref1_ReadTypeE, evs, tys, evl])
      · try simp only [elim_inl, elim_inr]
        obtain ⟨i_60, k_61, t_62, rfl⟩ := hy63
        refine Imp.exMiss rfl ?_
        refine Imp.exHit rfl (Imp.chk rfl (Imp.chk rfl ?_))
        try simp only [evs, tys]
        exact Imp.some (by first | rfl | simp only [seineref1_ReadTypeE, evs, tys, evl])
theorem seineref1_ReadType_run {s : Str} {r : GType × Bool} (h : seineref1_ReadType_B s = some r) : seineref1_ReadType s = some r := by
  obtain ⟨v, hv, rfl⟩ := seineref1_ReadType_imp s r h
  exact tO_of (pair_inj seineref1_ReadTypeEj) (OL_runD seineref1_ReadType_ds rfl rfl Try.func20 ((seineref1_ReadType_t1 _ _ s).trans hv))

def seineref1_Item_T1 (O : Orc) (LP : LBody → LBody) (t : GType) : Option (PV × UP) :=
  callp O 19 [(.agg [(.str t.name), (.int .i64 t.lists), (.int .i64 t.musts)])] fun x1 => cnd (chk .bool x1)
  (cnd (!(boolV x1))
   (some ((.tuple [(.agg [(.str []), (.int .i64 0), (.int .i64 0)]), (.bool false)]), []))
   (cnd (t.lists == 0)
    (some ((.tuple [(.agg [(.str []), (.int .i64 0), (.int .i64 0)]), (.bool false)]), []))
    (some ((.tuple [(.agg [(.str t.name), (.int .i64 (IntKind.wrap .i64 (t.lists - 1))), (.int .i64 (Int.fdiv t.musts (2 ^ min (Int.toNat 1) 64)))]), (.bool true)]), [])))) none
noncomputable def seineref1_Item_B (t : GType) : Option (GType × Bool) :=
  bnd (seineref1_RightType t) fun y2 =>
  cnd (!y2)
   (some ((GType.mk [] 0 0), false))
   (cnd (t.lists == 0)
    (some ((GType.mk [] 0 0), false))
    (some ((GType.mk t.name (IntKind.wrap .i64 (t.lists - 1)) (Int.fdiv t.musts (2 ^ min (Int.toNat 1) 64))), true)))
def seineref1_Item_ds : Decs := { decs := [(5, .bool)], ups := [], loops := [] }
set_option maxRecDepth 100000 in
theorem seineref1_Item_t1 (O : Orc) (LP : LBody → LBody) (t : GType) : evalBodyD Try.prog (MT 21) seineref1_Item_ds Try.f21.ntmps O LP Try.f21 [(.agg [(.str t.name), (.int .i64 t.lists), (.int .i64 t.musts)])] [] = seineref1_Item_T1 O LP t := by kernel_rfl
theorem seineref1_Item_imp (t : GType) : Imp (seineref1_Item_B t) (seineref1_Item_T1 O loopLim t) (fun r v => v = (seineref1_ItemE r, [])) := by
  simp only [seineref1_Item_B, seineref1_Item_T1]
  try simp only [evs, tys]
  refine Imp.call (f := seineref1_RightTypeE) rfl (fun a h => by first | exact seineref1_RightType_spec h | simpa only [evs, tys, evl] using seineref1_RightType_spec h) (fun a => by first | rfl | simp only [seineref1_RightTypeE, evk, chks]) fun y2 hy2 => ?_
  try simp only [seineref1_RightTypeE, evs, tys]
  refine Imp.cnd ?_ ?_
  · exact Imp.some (by first | rfl | simp only [seineref1_ItemE, evs, tys, evl])
  · refine Imp.cnd ?_ ?_
    · exact Imp.some (by first | rfl | simp only [seineref1_ItemE, evs, tys, evl])
    · exact Imp.some (by first | rfl | simp only [seineref1_ItemE, evs, tys, evl])
theorem seineref1_Item_run {t : GType} {r : GType × Bool} (h : seineref1_Item_B t = some r) : seineref1_Item t = some r := by
  obtain ⟨v, hv, rfl⟩ := seineref1_Item_imp t r h
  exact tO_of (pair_inj seineref1_ItemEj) (OL_runD seineref1_Item_ds rfl rfl Try.func21 ((seineref1_Item_t1 _ _ t).trans hv))
end Go.Proofs.Ytdnghbdhbahmeaa

/- Printed by symgen.py: typed functions of this seat, and why they tell what the program does. -/
set_option linter.unusedVariables false
set_option linter.unusedSimpArgs false
open Go Go.Ev Go.Ev.PV
namespace Go.Proofs.Ytdnghbdhbahmeaa
def seineref1_List_T1 (O : Orc) (LP : LBody → LBody) (t : GType) : Option (PV × UP) :=
  callp O 19 [(.agg [(.str t.name), (.int .i64 t.lists), (.int .i64 t.musts)])] fun x1 => cnd (chk .bool x1)
  (cnd (!(boolV x1))
   (some ((.tuple [(.agg [(.str []), (.int .i64 0), (.int .i64 0)]), (.bool false)]), []))
   (cnd (t.lists == 4)
    (some ((.tuple [(.agg [(.str []), (.int .i64 0), (.int .i64 0)]), (.bool false)]), []))
    (some ((.tuple [(.agg [(.str t.name), (.int .i64 (IntKind.wrap .i64 (t.lists + 1))), (.int .i64 (IntKind.wrap .i64 (t.musts * 2 ^ min (Int.toNat 1) 64)))]), (.bool true)]), [])))) none
noncomputable def seineref1_List_B (t : GType) : Option (GType × Bool) :=
  bnd (seineref1_RightType t) fun y2 =>
  cnd (!y2)
   (some ((GType.mk [] 0 0), false))
   (cnd (t.lists == 4)
    (some ((GType.mk [] 0 0), false))
    (some ((GType.mk t.name (IntKind.wrap .i64 (t.lists + 1)) (IntKind.wrap .i64 (t.musts * 2 ^ min (Int.toNat 1) 64))), true)))
def seineref1_List_ds : Decs := { decs := [(5, .bool)], ups := [], loops := [] }
set_option maxRecDepth 100000 in
theorem seineref1_List_t1 (O : Orc) (LP : LBody → LBody) (t : GType) : evalBodyD Try.prog (MT 22) seineref1_List_ds Try.f22.ntmps O LP Try.f22 [(.agg [(.str t.name), (.int .i64 t.lists), (.int .i64 t.musts)])] [] = seineref1_List_T1 O LP t := by kernel_rfl
theorem seineref1_List_imp (t : GType) : Imp (seineref1_List_B t) (seineref1_List_T1 O loopLim t) (fun r v => v = (seineref1_ListE r, [])) := by
  simp only [seineref1_List_B, seineref1_List_T1]
  try simp only [evs, tys]
  refine Imp.call (f := seineref1_RightTypeE) rfl (fun a h => by first | exact seineref1_RightType_spec h | simpa only [evs, tys, evl] using seineref1_RightType_spec h) (fun a => by first | rfl | simp only [seineref1_RightTypeE, evk, chks]) fun y2 hy2 => ?_
  try simp only [seineref1_RightTypeE, evs, tys]
  refine Imp.cnd ?_ ?_
  · exact Imp.some (by first | rfl | simp only [seineref1_ListE, evs, tys, evl])
  · refine Imp.cnd ?_ ?_
    · exact Imp.some (by first | rfl | simp only [seineref1_ListE, evs, tys, evl])
    · exact Imp.some (by first | rfl | simp only [seineref1_ListE, evs, tys, evl])
theorem seineref1_List_run {t : GType} {r : GType × Bool} (h : seineref1_List_B t = some r) : seineref1_List t = some r := by
  obtain ⟨v, hv, rfl⟩ := seineref1_List_imp t r h
  exact tO_of (pair_inj seineref1_ListEj) (OL_runD seineref1_List_ds rfl rfl Try.func22 ((seineref1_List_t1 _ _ t).trans hv))

def wrap_Must_T1 (O : Orc) (LP : LBody → LBody) (t : GType) : Option (PV × UP) :=
  callp O 11 [(.agg [(.str t.name), (.int .i64 t.lists), (.int .i64 t.musts)])] fun x1 => cnd (chk .bool x1)
  (cnd (boolV x1)
   (some ((.agg [(.str t.name), (.int .i64 t.lists), (.int .i64 (bits .or .i64 t.musts 1))]), []))
   (some ((.agg [(.str t.name), (.int .i64 t.lists), (.int .i64 t.musts)]), []))) none
noncomputable def wrap_Must_B (t : GType) : Option GType :=
  bnd (wrap_Right t) fun y2 =>
  cnd y2
   (some (GType.mk t.name t.lists (bits .or .i64 t.musts 1)))
   (some t)
def wrap_Must_ds : Decs := { decs := [(4, .bool)], ups := [], loops := [] }
set_option maxRecDepth 100000 in
theorem wrap_Must_t1 (O : Orc) (LP : LBody → LBody) (t : GType) : evalBodyD Try.prog (MT 23) wrap_Must_ds Try.f23.ntmps O LP Try.f23 [(.agg [(.str t.name), (.int .i64 t.lists), (.int .i64 t.musts)])] [] = wrap_Must_T1 O LP t := by kernel_rfl
theorem wrap_Must_imp (t : GType) : Imp (wrap_Must_B t) (wrap_Must_T1 O loopLim t) (fun r v => v = (wrap_MustE r, [])) := by
  simp only [wrap_Must_B, wrap_Must_T1]
  try simp only [evs, tys]
  refine Imp.call (f := wrap_RightE) rfl (fun a h => by first | exact wrap_Right_spec h | simpa only [evs, tys, evl] using wrap_Right_spec h) (fun a => by first | rfl | simp only [wrap_RightE, evk, chks]) fun y2 hy2 => ?_
  try simp only [wrap_RightE, evs, tys]
  refine Imp.cnd ?_ ?_
  · exact Imp.some (by first | rfl | simp only [wrap_MustE, evs, tys, evl])
  · exact Imp.some (by first | rfl | simp only [wrap_MustE, evs, tys, evl])
theorem wrap_Must_run {t : GType} {r : GType} (h : wrap_Must_B t = some r) : wrap_Must t = some r := by
  obtain ⟨v, hv, rfl⟩ := wrap_Must_imp t r h
  exact tO_of (pair_inj wrap_MustEj) (OL_runD wrap_Must_ds rfl rfl Try.func23 ((wrap_Must_t1 _ _ t).trans hv))

def seineref1_Must_T1 (O : Orc) (LP : LBody → LBody) (t : GType) : Option (PV × UP) :=
  callp O 19 [(.agg [(.str t.name), (.int .i64 t.lists), (.int .i64 t.musts)])] fun x1 => cnd (chk .bool x1)
  (cnd (boolV x1)
   (some ((.agg [(.str t.name), (.int .i64 t.lists), (.int .i64 (bits .or .i64 t.musts 1))]), []))
   (some ((.agg [(.str t.name), (.int .i64 t.lists), (.int .i64 t.musts)]), []))) none
noncomputable def seineref1_Must_B (t : GType) : Option GType :=
  bnd (seineref1_RightType t) fun y2 =>
  cnd y2
   (some (GType.mk t.name t.lists (bits .or .i64 t.musts 1)))
   (some t)
def seineref1_Must_ds : Decs := { decs := [(4, .bool)], ups := [], loops := [] }
set_option maxRecDepth 100000 in
theorem seineref1_Must_t1 (O : Orc) (LP : LBody → LBody) (t : GType) : evalBodyD Try.prog (MT 24) seineref1_Must_ds Try.f24.ntmps O LP Try.f24 [(.agg [(.str t.name), (.int .i64 t.lists), (.int .i64 t.musts)])] [] = seineref1_Must_T1 O LP t := by kernel_rfl
theorem seineref1_Must_imp (t : GType) : Imp (seineref1_Must_B t) (seineref1_Must_T1 O loopLim t) (fun r v => v = (seineref1_MustE r, [])) := by
  simp only [seineref1_Must_B, seineref1_Must_T1]
  try simp only [evs, tys]
  refine Imp.call (f := seineref1_RightTypeE) rfl (fun a h => by first | exact seineref1_RightType_spec h | simpa only [evs, tys, evl] using seineref1_RightType_spec h) (fun a => by first | rfl | simp only [seineref1_RightTypeE, evk, chks]) fun y2 hy2 => ?_
  try simp only [seineref1_RightTypeE, evs, tys]
  refine Imp.cnd ?_ ?_
  · exact Imp.some (by first | rfl | simp only [seineref1_MustE, evs, tys, evl])
  · exact Imp.some (by first | rfl | simp only [seineref1_MustE, evs, tys, evl])
theorem seineref1_Must_run {t : GType} {r : GType} (h : seineref1_Must_B t = some r) : seineref1_Must t = some r := by
  obtain ⟨v, hv, rfl⟩ := seineref1_Must_imp t r h
  exact tO_of (pair_inj seineref1_MustEj) (OL_runD seineref1_Must_ds rfl rfl Try.func24 ((seineref1_Must_t1 _ _ t).trans hv))

def seineref1_Bare_T1 (O : Orc) (LP : LBody → LBody) (t : GType) : Option (PV × UP) :=
  callp O 19 [(.agg [(.str t.name), (.int .i64 t.lists), (.int .i64 t.musts)])] fun x1 => cnd (chk .bool x1)
  (cnd (boolV x1)
   (some ((.agg [(.str t.name), (.int .i64 t.lists), (.int .i64 (bits .andNot .i64 t.musts 1))]), []))
   (some ((.agg [(.str t.name), (.int .i64 t.lists), (.int .i64 t.musts)]), []))) none
noncomputable def seineref1_Bare_B (t : GType) : Option GType :=
  bnd (seineref1_RightType t) fun y2 =>
  cnd y2
   (some (GType.mk t.name t.lists (bits .andNot .i64 t.musts 1)))
   (some t)
def seineref1_Bare_ds : Decs := { decs := [(4, .bool)], ups := [], loops := [] }
set_option maxRecDepth 100000 in
theorem seineref1_Bare_t1 (O : Orc) (LP : LBody → LBody) (t : GType) : evalBodyD Try.prog (MT 25) seineref1_Bare_ds Try.f25.ntmps O LP Try.f25 [(.agg [(.str t.name), (.int .i64 t.lists), (.int .i64 t.musts)])] [] = seineref1_Bare_T1 O LP t := by kernel_rfl
theorem seineref1_Bare_imp (t : GType) : Imp (seineref1_Bare_B t) (seineref1_Bare_T1 O loopLim t) (fun r v => v = (seineref1_BareE r, [])) := by
  simp only [seineref1_Bare_B, seineref1_Bare_T1]
  try simp only [evs, tys]
  refine Imp.call (f := seineref1_RightTypeE) rfl (fun a h => by first | exact seineref1_RightType_spec h | simpa only [evs, tys, evl] using seineref1_RightType_spec h) (fun a => by first | rfl | simp only [seineref1_RightTypeE, evk, chks]) fun y2 hy2 => ?_
  try simp only [seineref1_RightTypeE, evs, tys]
  refine Imp.cnd ?_ ?_
  · exact Imp.some (by first | rfl | simp only [seineref1_BareE, evs, tys, evl])
  · exact Imp.some (by first | rfl | simp only [seineref1_BareE, evs, tys, evl])
theorem seineref1_Bare_run {t : GType} {r : GType} (h : seineref1_Bare_B t = some r) : seineref1_Bare t = some r := by
  obtain ⟨v, hv, rfl⟩ := seineref1_Bare_imp t r h
  exact tO_of (pair_inj seineref1_BareEj) (OL_runD seineref1_Bare_ds rfl rfl Try.func25 ((seineref1_Bare_t1 _ _ t).trans hv))

def seineref1_Is_T1 (O : Orc) (LP : LBody → LBody) (t : GType) : Option (PV × UP) :=
  callp O 19 [(.agg [(.str t.name), (.int .i64 t.lists), (.int .i64 t.musts)])] fun x1 => cnd (chk .bool x1)
  (cnd (boolV x1)
   (some ((.bool ((bits .and .i64 t.musts 1) == 1)), []))
   (some ((.bool false), []))) none
noncomputable def seineref1_Is_B (t : GType) : Option Bool :=
  bnd (seineref1_RightType t) fun y2 =>
  cnd y2
   (some ((bits .and .i64 t.musts 1) == 1))
   (some false)
def seineref1_Is_ds : Decs := { decs := [(4, .bool)], ups := [], loops := [] }
set_option maxRecDepth 100000 in
theorem seineref1_Is_t1 (O : Orc) (LP : LBody → LBody) (t : GType) : evalBodyD Try.prog (MT 26) seineref1_Is_ds Try.f26.ntmps O LP Try.f26 [(.agg [(.str t.name), (.int .i64 t.lists), (.int .i64 t.musts)])] [] = seineref1_Is_T1 O LP t := by kernel_rfl
theorem seineref1_Is_imp (t : GType) : Imp (seineref1_Is_B t) (seineref1_Is_T1 O loopLim t) (fun r v => v = (seineref1_IsE r, [])) := by
  simp only [seineref1_Is_B, seineref1_Is_T1]
  try simp only [evs, tys]
  refine Imp.call (f := seineref1_RightTypeE) rfl (fun a h => by first | exact seineref1_RightType_spec h | simpa only [evs, tys, evl] using seineref1_RightType_spec h) (fun a => by first | rfl | simp only [seineref1_RightTypeE, evk, chks]) fun y2 hy2 => ?_
  try simp only [seineref1_RightTypeE, evs, tys]
  refine Imp.cnd ?_ ?_
  · exact Imp.some (by first | rfl | simp only [seineref1_IsE, evs, tys, evl])
  · exact Imp.some (by first | rfl | simp only [seineref1_IsE, evs, tys, evl])
theorem seineref1_Is_run {t : GType} {r : Bool} (h : seineref1_Is_B t = some r) : seineref1_Is t = some r := by
  obtain ⟨v, hv, rfl⟩ := seineref1_Is_imp t r h
  exact tO_of (pair_inj seineref1_IsEj) (OL_runD seineref1_Is_ds rfl rfl Try.func26 ((seineref1_Is_t1 _ _ t).trans hv))

theorem strings_Repeat_run {s : Str} {count : Int} {r : Str} (h : tRepeat s count = some r) : strings_Repeat s count = some r := tO_of (pair_inj strings_RepeatEj) (OL_ext (g := xRepeat) rfl (xRepeat_of h))

def wrap_bit_T1 (O : Orc) (LP : LBody → LBody) (t : GType) (i : Int) : Option (PV × UP) :=
  bnd (bin .shr (.int .i64 t.musts) (.int .i64 i)) fun x1 => cnd (chk (.int .i64) x1)
  (some ((.bool ((bits .and .i64 (intV x1) 1) == 1)), [])) none
noncomputable def wrap_bit_B (t : GType) (i : Int) : Option Bool :=
  bnd (tshr .i64 t.musts i) fun y2 =>
  some ((bits .and .i64 y2 1) == 1)
def wrap_bit_ds : Decs := { decs := [(8, (.int .i64))], ups := [], loops := [] }
set_option maxRecDepth 100000 in
theorem wrap_bit_t1 (O : Orc) (LP : LBody → LBody) (t : GType) (i : Int) : evalBodyD Try.prog (MT 28) wrap_bit_ds Try.f28.ntmps O LP Try.f28 [(.agg [(.str t.name), (.int .i64 t.lists), (.int .i64 t.musts)]), (.int .i64 i)] [] = wrap_bit_T1 O LP t i := by kernel_rfl
theorem wrap_bit_imp (t : GType) (i : Int) : Imp (wrap_bit_B t i) (wrap_bit_T1 O loopLim t i) (fun r v => v = (wrap_bitE r, [])) := by
  simp only [wrap_bit_B, wrap_bit_T1]
  try simp only [evs, tys]
  refine Imp.op (f := fun a => .int _ a) (fun a h => op_shr h) (fun a => rfl) fun y2 hy2 => ?_
  try simp only [evs, tys]
  exact Imp.some (by first | rfl | simp only [wrap_bitE, evs, tys, evl])
theorem wrap_bit_run {t : GType} {i : Int} {r : Bool} (h : wrap_bit_B t i = some r) : wrap_bit t i = some r := by
  obtain ⟨v, hv, rfl⟩ := wrap_bit_imp t i r h
  exact tO_of (pair_inj wrap_bitEj) (OL_runD wrap_bit_ds rfl rfl Try.func28 ((wrap_bit_t1 _ _ t i).trans hv))

def strings_TrimPrefix_T1 (O : Orc) (LP : LBody → LBody) (s : Str) (prefix0 : Str) : Option (PV × UP) :=
  callp O 40 [(.str s), (.str prefix0)] fun x1 => cnd (chk .str x1)
  (some ((.str (strV x1)), [])) none
noncomputable def strings_TrimPrefix_B (s : Str) (prefix0 : Str) : Option Str :=
  bnd (stringslite_TrimPrefix s prefix0) fun y2 =>
  some y2
def strings_TrimPrefix_ds : Decs := { decs := [(7, .str)], ups := [], loops := [] }
set_option maxRecDepth 100000 in
theorem strings_TrimPrefix_t1 (O : Orc) (LP : LBody → LBody) (s : Str) (prefix0 : Str) : evalBodyD Try.prog (MT 29) strings_TrimPrefix_ds Try.f29.ntmps O LP Try.f29 [(.str s), (.str prefix0)] [] = strings_TrimPrefix_T1 O LP s prefix0 := by kernel_rfl
theorem strings_TrimPrefix_imp (s : Str) (prefix0 : Str) : Imp (strings_TrimPrefix_B s prefix0) (strings_TrimPrefix_T1 O loopLim s prefix0) (fun r v => v = (strings_TrimPrefixE r, [])) := by
  simp only [strings_TrimPrefix_B, strings_TrimPrefix_T1]
  try simp only [evs, tys]
  refine Imp.call (f := stringslite_TrimPrefixE) rfl (fun a h => by first | exact stringslite_TrimPrefix_spec h | simpa only [evs, tys, evl] using stringslite_TrimPrefix_spec h) (fun a => by first | rfl | simp only [stringslite_TrimPrefixE, evk, chks]) fun y2 hy2 => ?_
  try simp only [stringslite_TrimPrefixE, evs, tys]
  exact Imp.some (by first | rfl | simp only [strings_TrimPrefixE, evs, tys, evl])
theorem strings_TrimPrefix_run {s : Str} {prefix0 : Str} {r : Str} (h : strings_TrimPrefix_B s prefix0 = some r) : strings_TrimPrefix s prefix0 = some r := by
  obtain ⟨v, hv, rfl⟩ := strings_TrimPrefix_imp s prefix0 r h
  exact tO_of (pair_inj strings_TrimPrefixEj) (OL_runD strings_TrimPrefix_ds rfl rfl Try.func29 ((strings_TrimPrefix_t1 _ _ s prefix0).trans hv))

def strings_HasPrefix_T1 (O : Orc) (LP : LBody → LBody) (s : Str) (prefix0 : Str) : Option (PV × UP) :=
  callp O 41 [(.str s), (.str prefix0)] fun x1 => cnd (chk .bool x1)
  (some ((.bool (boolV x1)), [])) none
noncomputable def strings_HasPrefix_B (s : Str) (prefix0 : Str) : Option Bool :=
  bnd (stringslite_HasPrefix s prefix0) fun y2 =>
  some y2
def strings_HasPrefix_ds : Decs := { decs := [(7, .bool)], ups := [], loops := [] }
set_option maxRecDepth 100000 in
theorem strings_HasPrefix_t1 (O : Orc) (LP : LBody → LBody) (s : Str) (prefix0 : Str) : evalBodyD Try.prog (MT 30) strings_HasPrefix_ds Try.f30.ntmps O LP Try.f30 [(.str s), (.str prefix0)] [] = strings_HasPrefix_T1 O LP s prefix0 := by kernel_rfl
theorem strings_HasPrefix_imp (s : Str) (prefix0 : Str) : Imp (strings_HasPrefix_B s prefix0) (strings_HasPrefix_T1 O loopLim s prefix0) (fun r v => v = (strings_HasPrefixE r, [])) := by
  simp only [strings_HasPrefix_B, strings_HasPrefix_T1]
  try simp only [evs, tys]
  refine Imp.call (f := stringslite_HasPrefixE) rfl (fun a h => by first | exact stringslite_HasPrefix_spec h | simpa only [evs, tys, evl] using stringslite_HasPrefix_spec h) (fun a => by first | rfl | simp only [stringslite_HasPrefixE, evk, chks]) fun y2 hy2 => ?_
  try simp only [stringslite_HasPrefixE, evs, tys]
  exact Imp.some (by first | rfl | simp only [strings_HasPrefixE, evs, tys, evl])
theorem strings_HasPrefix_run {s : Str} {prefix0 : Str} {r : Bool} (h : strings_HasPrefix_B s prefix0 = some r) : strings_HasPrefix s prefix0 = some r := by
  obtain ⟨v, hv, rfl⟩ := strings_HasPrefix_imp s prefix0 r h
  exact tO_of (pair_inj strings_HasPrefixEj) (OL_runD strings_HasPrefix_ds rfl rfl Try.func30 ((strings_HasPrefix_t1 _ _ s prefix0).trans hv))

def letters_Name_l1 (O : Orc) (LP : LBody → LBody) : LBody := fun s1 s1u => cnd (chkL [.str, .bool, (.int .i64), (.int .i64)] s1) (cnd (chkU [] s1u)
  (cnd (decide ((intV (gt s1 3)) < (intV (gt s1 2))))
   (bnd (ixStr (.str (strV (gt s1 0))) (.int .i64 (intV (gt s1 3)))) fun x11 => cnd (chk (.int .u8) x11)
   (callp O 42 [(.int .u8 (intV x11))] fun x13 => cnd (chk .bool x13)
   (cnd (!(boolV x13))
    (cnd ((intV (gt s1 3)) == 0)
     (some (.ret, [(.str (strV (gt s1 0))), (.bool false), (.int .i64 (intV (gt s1 2))), (.int .i64 (intV (gt s1 3)))], []))
     (bnd (ixStr (.str (strV (gt s1 0))) (.int .i64 (intV (gt s1 3)))) fun x15 => cnd (chk (.int .u8) x15)
     (callp O 43 [(.int .u8 (intV x15))] fun x17 => cnd (chk .bool x17)
     (cnd (!(boolV x17))
      (some (.ret, [(.str (strV (gt s1 0))), (.bool false), (.int .i64 (intV (gt s1 2))), (.int .i64 (intV (gt s1 3)))], []))
      (some (.nrm, [(.str (strV (gt s1 0))), (.bool (boolV (gt s1 1))), (.int .i64 (intV (gt s1 2))), (.int .i64 (IntKind.wrap .i64 ((intV (gt s1 3)) + 1)))], []))) none) none))
    (some (.nrm, [(.str (strV (gt s1 0))), (.bool (boolV (gt s1 1))), (.int .i64 (intV (gt s1 2))), (.int .i64 (IntKind.wrap .i64 ((intV (gt s1 3)) + 1)))], []))) none) none)
   (some (.brk 0, [(.str (strV (gt s1 0))), (.bool (boolV (gt s1 1))), (.int .i64 (intV (gt s1 2))), (.int .i64 (intV (gt s1 3)))], []))) none) none
def letters_Name_T1 (O : Orc) (LP : LBody → LBody) (s : Str) : Option (PV × UP) :=
  bnd (LP (letters_Name_l1 O LP) [(.str s), (.bool false), (.int .i64 (List.length s : Int)), (.int .i64 0)] []) fun y21 =>
  exIs y21.1 (some 0) (cnd (chkL [.str, .bool, (.int .i64), (.int .i64)] y21.2.1) (cnd (chkU [] y21.2.2)
   (some ((.bool (!((strV (gt y21.2.1 0)) == ([] : Str)))), [])) none) none)
  (exIs y21.1 none (cnd (chkL [.str, .bool, (.int .i64), (.int .i64)] y21.2.1) (cnd (chkU [] y21.2.2)
   (some ((.bool (boolV (gt y21.2.1 1))), [])) none) none)
  (none))
noncomputable def letters_Name_l1T (s : Str) : Int → Option (Int ⊕ (Unit ⊕ Unit))
  | t_10 =>
  cnd (decide (t_10 < (List.length s : Int)))
   (bnd (nthI s t_10) fun y12 =>
   bnd (letters_Letter (y12.toNat : Int)) fun y14 =>
   cnd (!y14)
    (cnd (t_10 == 0)
     (some (.inr (.inr ())))
     (bnd (nthI s t_10) fun y16 =>
     bnd (letters_Digit (y16.toNat : Int)) fun y18 =>
     cnd (!y18)
      (some (.inr (.inr ())))
      (some (.inl (IntKind.wrap .i64 (t_10 + 1))))))
    (some (.inl (IntKind.wrap .i64 (t_10 + 1)))))
   (some (.inr (.inl ())))
abbrev letters_Name_l1R (s : Str) (st : Int) (l : List PV) (u : UP) : Prop := l = [(.str s), (.bool false), (.int .i64 (List.length s : Int)), (.int .i64 st)] ∧ u = []
abbrev letters_Name_l1X (s : Str) (p : Unit ⊕ Unit) (r : Ex × List PV × UP) : Prop := elim p (fun (p : Unit) => ∃ (t_19 : Int), r = (Ex.brk 0, [(.str s), (.bool false), (.int .i64 (List.length s : Int)), (.int .i64 t_19)], [])) (fun q2 => (fun (p : Unit) => ∃ (t_20 : Int), r = (Ex.ret, [(.str s), (.bool false), (.int .i64 (List.length s : Int)), (.int .i64 t_20)], [])) q2)
noncomputable def letters_Name_B (s : Str) : Option Bool :=
  bnd (tloop (letters_Name_l1T s) 0) fun e21_2 => elim e21_2
  (fun p21 =>
   some (!(s == ([] : Str))))
  (fun p21 =>
  some false)
def letters_Name_ds : Decs := { decs := [(11, (.int .u8)), (12, .bool), (20, (.int .u8)), (21, .bool)], ups := [], loops := [(2, [], ⟨[.str, .bool, (.int .i64), (.int .i64)], [], [(some 0, [.str, .bool, (.int .i64), (.int .i64)], []), (none, [.str, .bool, (.int .i64), (.int .i64)], [])]⟩)] }
set_option maxRecDepth 100000 in
theorem letters_Name_t1 (O : Orc) (LP : LBody → LBody) (s : Str) : evalBodyD Try.prog (MT 31) letters_Name_ds Try.f31.ntmps O LP Try.f31 [(.str s)] [] = letters_Name_T1 O LP s := by kernel_rfl
theorem letters_Name_l1_ok (s : Str) : ∀ st l u, letters_Name_l1R s st l u → Imp (letters_Name_l1T s st) (letters_Name_l1 O loopLim l u) (StepR (letters_Name_l1R s) (letters_Name_l1X s)) := by
  rintro t_10 l u ⟨rfl, rfl⟩
  simp only [letters_Name_l1T, letters_Name_l1]
  refine Imp.chk rfl (Imp.chk rfl ?_)
  try simp only [evs, tys]
  refine Imp.cnd ?_ ?_
  · refine Imp.op (f := fun a => .int .u8 (a.toNat : Int)) (fun a h => op_ixStr h) (fun a => rfl) fun y12 hy12 => ?_
    try simp only [evs, tys]
    refine Imp.call (f := letters_LetterE) rfl (fun a h => by first | exact letters_Letter_spec h | simpa only [evs, tys, evl] using letters_Letter_spec h) (fun a => by first | rfl | simp only [letters_LetterE, evk, chks]) fun y14 hy14 => ?_
    try simp only [letters_LetterE, evs, tys]
    refine Imp.cnd ?_ ?_
    · refine Imp.cnd ?_ ?_
      · exact Imp.some (StepR.ret ⟨t_10, by first | rfl | simp only [evs, tys, evl, elim_inl, elim_inr]⟩)
      · refine Imp.op (f := fun a => .int .u8 (a.toNat : Int)) (fun a h => op_ixStr h) (fun a => rfl) fun y16 hy16 => ?_
        try simp only [evs, tys]
        refine Imp.call (f := letters_DigitE) rfl (fun a h => by first | exact letters_Digit_spec h | simpa only [evs, tys, evl] using letters_Digit_spec h) (fun a => by first | rfl | simp only [letters_DigitE, evk, chks]) fun y18 hy18 => ?_
        try simp only [letters_DigitE, evs, tys]
        refine Imp.cnd ?_ ?_
        · exact Imp.some (StepR.ret ⟨t_10, by first | rfl | simp only [evs, tys, evl, elim_inl, elim_inr]⟩)
        · exact Imp.some (StepR.next ⟨by first | rfl | simp only [evs, tys, evl], rfl⟩)
    · exact Imp.some (StepR.next ⟨by first | rfl | simp only [evs, tys, evl], rfl⟩)
  · exact Imp.some (StepR.brk ⟨t_10, by first | rfl | simp only [evs, tys, evl, elim_inl, elim_inr]⟩)
theorem letters_Name_imp (s : Str) : Imp (letters_Name_B s) (letters_Name_T1 O loopLim s) (fun r v => v = (letters_NameE r, [])) := by
  simp only [letters_Name_B, letters_Name_T1]
  try simp only [evs, tys]
  refine Imp.bnd (Imp.loop (letters_Name_l1_ok s) ⟨by first | rfl | simp only [evs, tys, evl], rfl⟩) ?_
  rintro (p | p) vy21 hy21
  · try simp only [elim_inl, elim_inr]
    obtain ⟨t_19, rfl⟩ := hy21
    refine Imp.exHit rfl (Imp.chk rfl (Imp.chk rfl ?_))
    try simp only [evs, tys]
    exact Imp.some (by first | rfl | simp only [letters_NameE, evs, tys, evl])
  · try simp only [elim_inl, elim_inr]
    obtain ⟨t_20, rfl⟩ := hy21
    refine Imp.exMiss rfl ?_
    refine Imp.exHit rfl (Imp.chk rfl (Imp.chk rfl ?_))
    try simp only [evs, tys]
    exact Imp.some (by first | rfl | simp only [letters_NameE, evs, tys, evl])
theorem letters_Name_run {s : Str} {r : Bool} (h : letters_Name_B s = some r) : letters_Name s = some r := by
  obtain ⟨v, hv, rfl⟩ := letters_Name_imp s r h
  exact tO_of (pair_inj letters_NameEj) (OL_runD letters_Name_ds rfl rfl Try.func31 ((letters_Name_t1 _ _ s).trans hv))

def seineref1_Name_l1 (O : Orc) (LP : LBody → LBody) : LBody := fun s5 s5u => cnd (chkL [.str, .bool, (.int .i64)] s5) (cnd (chkU [] s5u)
  (cnd (decide ((intV (gt s5 2)) < (List.length (strV (gt s5 0)) : Int)))
   (bnd (ixStr (.str (strV (gt s5 0))) (.int .i64 (intV (gt s5 2)))) fun x15 => cnd (chk (.int .u8) x15)
   (callp O 33 [(.int .u8 (intV x15))] fun x17 => cnd (chk .bool x17)
   (cnd (!(boolV x17))
    (bnd (ixStr (.str (strV (gt s5 0))) (.int .i64 (intV (gt s5 2)))) fun x19 => cnd (chk (.int .u8) x19)
    (callp O 34 [(.int .u8 (intV x19))] fun x21 => cnd (chk .bool x21)
    (cnd (!(boolV x21))
     (some (.ret, [(.str (strV (gt s5 0))), (.bool false), (.int .i64 (intV (gt s5 2)))], []))
     (some (.nrm, [(.str (strV (gt s5 0))), (.bool (boolV (gt s5 1))), (.int .i64 (IntKind.wrap .i64 ((intV (gt s5 2)) + 1)))], []))) none) none)
    (some (.nrm, [(.str (strV (gt s5 0))), (.bool (boolV (gt s5 1))), (.int .i64 (IntKind.wrap .i64 ((intV (gt s5 2)) + 1)))], []))) none) none)
   (some (.brk 0, [(.str (strV (gt s5 0))), (.bool (boolV (gt s5 1))), (.int .i64 (intV (gt s5 2)))], []))) none) none
def seineref1_Name_T1 (O : Orc) (LP : LBody → LBody) (s : Str) : Option (PV × UP) :=
  cnd (s == ([] : Str))
   (some ((.bool false), []))
   (bnd (ixStr (.str s) (.int .i64 0)) fun x1 => cnd (chk (.int .u8) x1)
   (callp O 33 [(.int .u8 (intV x1))] fun x3 => cnd (chk .bool x3)
   (cnd (!(boolV x3))
    (some ((.bool false), []))
    (bnd (LP (seineref1_Name_l1 O LP) [(.str s), (.bool false), (.int .i64 1)] []) fun y25 =>
    exIs y25.1 (some 0) (cnd (chkL [.str, .bool, (.int .i64)] y25.2.1) (cnd (chkU [] y25.2.2)
     (some ((.bool true), [])) none) none)
    (exIs y25.1 none (cnd (chkL [.str, .bool, (.int .i64)] y25.2.1) (cnd (chkU [] y25.2.2)
     (some ((.bool (boolV (gt y25.2.1 1))), [])) none) none)
    (none)))) none) none)
noncomputable def seineref1_Name_l1T (s : Str) : Int → Option (Int ⊕ (Unit ⊕ Unit))
  | i_14 =>
  cnd (decide (i_14 < (List.length s : Int)))
   (bnd (nthI s i_14) fun y16 =>
   bnd (seineref1_start (y16.toNat : Int)) fun y18 =>
   cnd (!y18)
    (bnd (nthI s i_14) fun y20 =>
    bnd (seineref1_digit (y20.toNat : Int)) fun y22 =>
    cnd (!y22)
     (some (.inr (.inr ())))
     (some (.inl (IntKind.wrap .i64 (i_14 + 1)))))
    (some (.inl (IntKind.wrap .i64 (i_14 + 1)))))
   (some (.inr (.inl ())))
abbrev seineref1_Name_l1R (s : Str) (st : Int) (l : List PV) (u : UP) : Prop := l = [(.str s), (.bool false), (.int .i64 st)] ∧ u = []
abbrev seineref1_Name_l1X (s : Str) (p : Unit ⊕ Unit) (r : Ex × List PV × UP) : Prop := elim p (fun (p : Unit) => ∃ (i_23 : Int), r = (Ex.brk 0, [(.str s), (.bool false), (.int .i64 i_23)], [])) (fun q2 => (fun (p : Unit) => ∃ (i_24 : Int), r = (Ex.ret, [(.str s), (.bool false), (.int .i64 i_24)], [])) q2)
noncomputable def seineref1_Name_B (s : Str) : Option Bool :=
  cnd (s == ([] : Str))
   (some false)
   (bnd (nthI s 0) fun y2 =>
   bnd (seineref1_start (y2.toNat : Int)) fun y4 =>
   cnd (!y4)
    (some false)
    (bnd (tloop (seineref1_Name_l1T s) 1) fun e25_2 => elim e25_2
    (fun p25 =>
     some true)
    (fun p25 =>
    some false)))
def seineref1_Name_ds : Decs := { decs := [(8, (.int .u8)), (9, .bool), (20, (.int .u8)), (21, .bool), (26, (.int .u8)), (27, .bool)], ups := [], loops := [(4, [], ⟨[.str, .bool, (.int .i64)], [], [(some 0, [.str, .bool, (.int .i64)], []), (none, [.str, .bool, (.int .i64)], [])]⟩)] }
set_option maxRecDepth 100000 in
theorem seineref1_Name_t1 (O : Orc) (LP : LBody → LBody) (s : Str) : evalBodyD Try.prog (MT 32) seineref1_Name_ds Try.f32.ntmps O LP Try.f32 [(.str s)] [] = seineref1_Name_T1 O LP s := by kernel_rfl
theorem seineref1_Name_l1_ok (s : Str) : ∀ st l u, seineref1_Name_l1R s st l u → Imp (seineref1_Name_l1T s st) (seineref1_Name_l1 O loopLim l u) (StepR (seineref1_Name_l1R s) (seineref1_Name_l1X s)) := by
  rintro i_14 l u ⟨rfl, rfl⟩
  simp only [seineref1_Name_l1T, seineref1_Name_l1]
  refine Imp.chk rfl (Imp.chk rfl ?_)
  try simp only [evs, tys]
  refine Imp.cnd ?_ ?_
  · refine Imp.op (f := fun a => .int .u8 (a.toNat : Int)) (fun a h => op_ixStr h) (fun a => rfl) fun y16 hy16 => ?_
    try simp only [evs, tys]
    refine Imp.call (f := seineref1_startE) rfl (fun a h => by first | exact seineref1_start_spec h | simpa only [evs, tys, evl] using seineref1_start_spec h) (fun a => by first | rfl | simp only [seineref1_startE, evk, chks]) fun y18 hy18 => ?_
    try simp only [seineref1_startE, evs, tys]
    refine Imp.cnd ?_ ?_
    · refine Imp.op (f := fun a => .int .u8 (a.toNat : Int)) (fun a h => op_ixStr h) (fun a => rfl) fun y20 hy20 => ?_
      try simp only [evs, tys]
      refine Imp.call (f := seineref1_digitE) rfl (fun a h => by first | exact seineref1_digit_spec h | simpa only [evs, tys, evl] using seineref1_digit_spec h) (fun a => by first | rfl | simp only [seineref1_digitE, evk, chks]) fun y22 hy22 => ?_
      try simp only [seineref1_digitE, evs, tys]
      refine Imp.cnd ?_ ?_
      · exact Imp.some (StepR.ret ⟨i_14, by first | rfl | simp only [evs, tys, evl, elim_inl, elim_inr]⟩)
      · exact Imp.some (StepR.next ⟨by first | rfl | simp only [evs, tys, evl], rfl⟩)
    · exact Imp.some (StepR.next ⟨by first | rfl | simp only [evs, tys, evl], rfl⟩)
  · exact Imp.some (StepR.brk ⟨i_14, by first | rfl | simp only [evs, tys, evl, elim_inl, elim_inr]⟩)
theorem seineref1_Name_imp (s : Str) : Imp (seineref1_Name_B s) (seineref1_Name_T1 O loopLim s) (fun r v => v = (seineref1_NameE r, [])) := by
  simp only [seineref1_Name_B, seineref1_Name_T1]
  try simp only [evs, tys]
  refine Imp.cnd ?_ ?_
  · exact Imp.some (by first | rfl | simp only [seineref1_NameE, evs, tys, evl])
  · refine Imp.op (f := fun a => .int .u8 (a.toNat : Int)) (fun a h => op_ixStr h) (fun a => rfl) fun y2 hy2 => ?_
    try simp only [evs, tys]
    refine Imp.call (f := seineref1_startE) rfl (fun a h => by first | exact seineref1_start_spec h | simpa only [evs, tys, evl] using seineref1_start_spec h) (fun a => by first | rfl | simp only [seineref1_startE, evk, chks]) fun y4 hy4 => ?_
    try simp only [seineref1_startE, evs, tys]
    refine Imp.cnd ?_ ?_
    · exact Imp.some (by first | rfl | simp only [seineref1_NameE, evs, tys, evl])
    · refine Imp.bnd (Imp.loop (seineref1_Name_l1_ok s) ⟨by first | rfl | simp only [evs, tys, evl], rfl⟩) ?_
      rintro (p | p) vy25 hy25
      · try simp only [elim_inl, elim_inr]
        obtain ⟨i_23, rfl⟩ := hy25
        refine Imp.exHit rfl (Imp.chk rfl (Imp.chk rfl ?_))
        try simp only [evs, tys]
        exact Imp.some (by first | rfl | simp only [seineref1_NameE, evs, tys, evl])
      · try simp only [elim_inl, elim_inr]
        obtain ⟨i_24, rfl⟩ := hy25
        refine Imp.exMiss rfl ?_
        refine Imp.exHit rfl (Imp.chk rfl (Imp.chk rfl ?_))
        try simp only [evs, tys]
        exact Imp.some (by first | rfl | simp only [seineref1_NameE, evs, tys, evl])
theorem seineref1_Name_run {s : Str} {r : Bool} (h : seineref1_Name_B s = some r) : seineref1_Name s = some r := by
  obtain ⟨v, hv, rfl⟩ := seineref1_Name_imp s r h
  exact tO_of (pair_inj seineref1_NameEj) (OL_runD seineref1_Name_ds rfl rfl Try.func32 ((seineref1_Name_t1 _ _ s).trans hv))

def seineref1_start_T1 (O : Orc) (LP : LBody → LBody) (c : Int) : Option (PV × UP) :=
  cnd (decide (c ≥ 97))
   (cnd (decide (c ≤ 122))
    (some ((.bool true), []))
    (cnd (decide (c ≥ 65))
     (cnd (decide (c ≤ 90))
      (some ((.bool true), []))
      (some ((.bool (c == 95)), [])))
     (some ((.bool (c == 95)), []))))
   (cnd (decide (c ≥ 65))
    (cnd (decide (c ≤ 90))
     (some ((.bool true), []))
     (some ((.bool (c == 95)), [])))
    (some ((.bool (c == 95)), [])))
noncomputable def seineref1_start_B (c : Int) : Option Bool :=
  cnd (decide (c ≥ 97))
   (cnd (decide (c ≤ 122))
    (some true)
    (cnd (decide (c ≥ 65))
     (cnd (decide (c ≤ 90))
      (some true)
      (some (c == 95)))
     (some (c == 95))))
   (cnd (decide (c ≥ 65))
    (cnd (decide (c ≤ 90))
     (some true)
     (some (c == 95)))
    (some (c == 95)))
def seineref1_start_ds : Decs := { decs := [], ups := [], loops := [] }
set_option maxRecDepth 100000 in
theorem seineref1_start_t1 (O : Orc) (LP : LBody → LBody) (c : Int) : evalBodyD Try.prog (MT 33) seineref1_start_ds Try.f33.ntmps O LP Try.f33 [(.int .u8 c)] [] = seineref1_start_T1 O LP c := by kernel_rfl
theorem seineref1_start_imp (c : Int) : Imp (seineref1_start_B c) (seineref1_start_T1 O loopLim c) (fun r v => v = (seineref1_startE r, [])) := by
  simp only [seineref1_start_B, seineref1_start_T1]
  try simp only [evs, tys]
  refine Imp.cnd ?_ ?_
  · refine Imp.cnd ?_ ?_
    · exact Imp.some (by first | rfl | simp only [seineref1_startE, evs, tys, evl])
    · refine Imp.cnd ?_ ?_
      · refine Imp.cnd ?_ ?_
        · exact Imp.some (by first | rfl | simp only [seineref1_startE, evs, tys, evl])
        · exact Imp.some (by first | rfl | simp only [seineref1_startE, evs, tys, evl])
      · exact Imp.some (by first | rfl | simp only [seineref1_startE, evs, tys, evl])
  · refine Imp.cnd ?_ ?_
    · refine Imp.cnd ?_ ?_
      · exact Imp.some (by first | rfl | simp only [seineref1_startE, evs, tys, evl])
      · exact Imp.some (by first | rfl | simp only [seineref1_startE, evs, tys, evl])
    · exact Imp.some (by first | rfl | simp only [seineref1_startE, evs, tys, evl])
theorem seineref1_start_run {c : Int} {r : Bool} (h : seineref1_start_B c = some r) : seineref1_start c = some r := by
  obtain ⟨v, hv, rfl⟩ := seineref1_start_imp c r h
  exact tO_of (pair_inj seineref1_startEj) (OL_runD seineref1_start_ds rfl rfl Try.func33 ((seineref1_start_t1 _ _ c).trans hv))

def seineref1_digit_T1 (O : Orc) (LP : LBody → LBody) (c : Int) : Option (PV × UP) :=
  cnd (decide (c ≥ 48))
   (some ((.bool (decide (c ≤ 57))), []))
   (some ((.bool false), []))
noncomputable def seineref1_digit_B (c : Int) : Option Bool :=
  cnd (decide (c ≥ 48))
   (some (decide (c ≤ 57)))
   (some false)
def seineref1_digit_ds : Decs := { decs := [], ups := [], loops := [] }
set_option maxRecDepth 100000 in
theorem seineref1_digit_t1 (O : Orc) (LP : LBody → LBody) (c : Int) : evalBodyD Try.prog (MT 34) seineref1_digit_ds Try.f34.ntmps O LP Try.f34 [(.int .u8 c)] [] = seineref1_digit_T1 O LP c := by kernel_rfl
theorem seineref1_digit_imp (c : Int) : Imp (seineref1_digit_B c) (seineref1_digit_T1 O loopLim c) (fun r v => v = (seineref1_digitE r, [])) := by
  simp only [seineref1_digit_B, seineref1_digit_T1]
  try simp only [evs, tys]
  refine Imp.cnd ?_ ?_
  · exact Imp.some (by first | rfl | simp only [seineref1_digitE, evs, tys, evl])
  · exact Imp.some (by first | rfl | simp only [seineref1_digitE, evs, tys, evl])
theorem seineref1_digit_run {c : Int} {r : Bool} (h : seineref1_digit_B c = some r) : seineref1_digit c = some r := by
  obtain ⟨v, hv, rfl⟩ := seineref1_digit_imp c r h
  exact tO_of (pair_inj seineref1_digitEj) (OL_runD seineref1_digit_ds rfl rfl Try.func34 ((seineref1_digit_t1 _ _ c).trans hv))

def stringslite_TrimPrefix_T1 (O : Orc) (LP : LBody → LBody) (s : Str) (prefix0 : Str) : Option (PV × UP) :=
  callp O 41 [(.str s), (.str prefix0)] fun x1 => cnd (chk .bool x1)
  (cnd (boolV x1)
   (bnd (slcLo 0 (.str s) (.int .i64 (List.length prefix0 : Int))) fun x3 => cnd (chk .str x3)
   (some ((.str (strV x3)), [])) none)
   (some ((.str s), []))) none
noncomputable def stringslite_TrimPrefix_B (s : Str) (prefix0 : Str) : Option Str :=
  bnd (stringslite_HasPrefix s prefix0) fun y2 =>
  cnd y2
   (bnd (tslc s (List.length prefix0 : Int) (List.length s)) fun y4 =>
   some y4)
   (some s)
def stringslite_TrimPrefix_ds : Decs := { decs := [(7, .bool), (11, .str)], ups := [], loops := [] }
set_option maxRecDepth 100000 in
theorem stringslite_TrimPrefix_t1 (O : Orc) (LP : LBody → LBody) (s : Str) (prefix0 : Str) : evalBodyD Try.prog (MT 40) stringslite_TrimPrefix_ds Try.f40.ntmps O LP Try.f40 [(.str s), (.str prefix0)] [] = stringslite_TrimPrefix_T1 O LP s prefix0 := by kernel_rfl
theorem stringslite_TrimPrefix_imp (s : Str) (prefix0 : Str) : Imp (stringslite_TrimPrefix_B s prefix0) (stringslite_TrimPrefix_T1 O loopLim s prefix0) (fun r v => v = (stringslite_TrimPrefixE r, [])) := by
  simp only [stringslite_TrimPrefix_B, stringslite_TrimPrefix_T1]
  try simp only [evs, tys]
  refine Imp.call (f := stringslite_HasPrefixE) rfl (fun a h => by first | exact stringslite_HasPrefix_spec h | simpa only [evs, tys, evl] using stringslite_HasPrefix_spec h) (fun a => by first | rfl | simp only [stringslite_HasPrefixE, evk, chks]) fun y2 hy2 => ?_
  try simp only [stringslite_HasPrefixE, evs, tys]
  refine Imp.cnd ?_ ?_
  · refine Imp.op (f := fun a => .str a) (fun a h => op_sslcLo h) (fun a => rfl) fun y4 hy4 => ?_
    try simp only [evs, tys]
    exact Imp.some (by first | rfl | simp only [stringslite_TrimPrefixE, evs, tys, evl])
  · exact Imp.some (by first | rfl | simp only [stringslite_TrimPrefixE, evs, tys, evl])
theorem stringslite_TrimPrefix_run {s : Str} {prefix0 : Str} {r : Str} (h : stringslite_TrimPrefix_B s prefix0 = some r) : stringslite_TrimPrefix s prefix0 = some r := by
  obtain ⟨v, hv, rfl⟩ := stringslite_TrimPrefix_imp s prefix0 r h
  exact tO_of (pair_inj stringslite_TrimPrefixEj) (OL_runD stringslite_TrimPrefix_ds rfl rfl Try.func40 ((stringslite_TrimPrefix_t1 _ _ s prefix0).trans hv))

def stringslite_HasPrefix_T1 (O : Orc) (LP : LBody → LBody) (s : Str) (prefix0 : Str) : Option (PV × UP) :=
  cnd (decide ((List.length s : Int) ≥ (List.length prefix0 : Int)))
   (bnd (slcHi 0 (.str s) (.int .i64 (List.length prefix0 : Int))) fun x1 => cnd (chk .str x1)
   (some ((.bool ((strV x1) == prefix0)), [])) none)
   (some ((.bool false), []))
noncomputable def stringslite_HasPrefix_B (s : Str) (prefix0 : Str) : Option Bool :=
  cnd (decide ((List.length s : Int) ≥ (List.length prefix0 : Int)))
   (bnd (tslc s 0 (List.length prefix0 : Int)) fun y2 =>
   some (y2 == prefix0))
   (some false)
def stringslite_HasPrefix_ds : Decs := { decs := [(14, .str)], ups := [], loops := [] }
set_option maxRecDepth 100000 in
theorem stringslite_HasPrefix_t1 (O : Orc) (LP : LBody → LBody) (s : Str) (prefix0 : Str) : evalBodyD Try.prog (MT 41) stringslite_HasPrefix_ds Try.f41.ntmps O LP Try.f41 [(.str s), (.str prefix0)] [] = stringslite_HasPrefix_T1 O LP s prefix0 := by kernel_rfl
theorem stringslite_HasPrefix_imp (s : Str) (prefix0 : Str) : Imp (stringslite_HasPrefix_B s prefix0) (stringslite_HasPrefix_T1 O loopLim s prefix0) (fun r v => v = (stringslite_HasPrefixE r, [])) := by
  simp only [stringslite_HasPrefix_B, stringslite_HasPrefix_T1]
  try simp only [evs, tys]
  refine Imp.cnd ?_ ?_
  · refine Imp.op (f := fun a => .str a) (fun a h => op_sslcHi h) (fun a => rfl) fun y2 hy2 => ?_
    try simp only [evs, tys]
    exact Imp.some (by first | rfl | simp only [stringslite_HasPrefixE, evs, tys, evl])
  · exact Imp.some (by first | rfl | simp only [stringslite_HasPrefixE, evs, tys, evl])
theorem stringslite_HasPrefix_run {s : Str} {prefix0 : Str} {r : Bool} (h : stringslite_HasPrefix_B s prefix0 = some r) : stringslite_HasPrefix s prefix0 = some r := by
  obtain ⟨v, hv, rfl⟩ := stringslite_HasPrefix_imp s prefix0 r h
  exact tO_of (pair_inj stringslite_HasPrefixEj) (OL_runD stringslite_HasPrefix_ds rfl rfl Try.func41 ((stringslite_HasPrefix_t1 _ _ s prefix0).trans hv))

def letters_Letter_T1 (O : Orc) (LP : LBody → LBody) (c : Int) : Option (PV × UP) :=
  cnd (decide (c ≥ 97))
   (cnd (decide (c ≤ 122))
    (some ((.bool true), []))
    (cnd (decide (c ≥ 65))
     (cnd (decide (c ≤ 90))
      (some ((.bool true), []))
      (some ((.bool (c == 95)), [])))
     (some ((.bool (c == 95)), []))))
   (cnd (decide (c ≥ 65))
    (cnd (decide (c ≤ 90))
     (some ((.bool true), []))
     (some ((.bool (c == 95)), [])))
    (some ((.bool (c == 95)), [])))
noncomputable def letters_Letter_B (c : Int) : Option Bool :=
  cnd (decide (c ≥ 97))
   (cnd (decide (c ≤ 122))
    (some true)
    (cnd (decide (c ≥ 65))
     (cnd (decide (c ≤ 90))
      (some true)
      (some (c == 95)))
     (some (c == 95))))
   (cnd (decide (c ≥ 65))
    (cnd (decide (c ≤ 90))
     (some true)
     (some (c == 95)))
    (some (c == 95)))
def letters_Letter_ds : Decs := { decs := [], ups := [], loops := [] }
set_option maxRecDepth 100000 in
theorem letters_Letter_t1 (O : Orc) (LP : LBody → LBody) (c : Int) : evalBodyD Try.prog (MT 42) letters_Letter_ds Try.f42.ntmps O LP Try.f42 [(.int .u8 c)] [] = letters_Letter_T1 O LP c := by kernel_rfl
theorem letters_Letter_imp (c : Int) : Imp (letters_Letter_B c) (letters_Letter_T1 O loopLim c) (fun r v => v = (letters_LetterE r, [])) := by
  simp only [letters_Letter_B, letters_Letter_T1]
  try simp only [evs, tys]
  refine Imp.cnd ?_ ?_
  · refine Imp.cnd ?_ ?_
    · exact Imp.some (by first | rfl | simp only [letters_LetterE, evs, tys, evl])
    · refine Imp.cnd ?_ ?_
      · refine Imp.cnd ?_ ?_
        · exact Imp.some (by first | rfl | simp only [letters_LetterE, evs, tys, evl])
        · exact Imp.some (by first | rfl | simp only [letters_LetterE, evs, tys, evl])
      · exact Imp.some (by first | rfl | simp only [letters_LetterE, evs, tys, evl])
  · refine Imp.cnd ?_ ?_
    · refine Imp.cnd ?_ ?_
      · exact Imp.some (by first | rfl | simp only [letters_LetterE, evs, tys, evl])
      · exact Imp.some (by first | rfl | simp only [letters_LetterE, evs, tys, evl])
    · exact Imp.some (by first | rfl | simp only [letters_LetterE, evs, tys, evl])
theorem letters_Letter_run {c : Int} {r : Bool} (h : letters_Letter_B c = some r) : letters_Letter c = some r := by
  obtain ⟨v, hv, rfl⟩ := letters_Letter_imp c r h
  exact tO_of (pair_inj letters_LetterEj) (OL_runD letters_Letter_ds rfl rfl Try.func42 ((letters_Letter_t1 _ _ c).trans hv))
end Go.Proofs.Ytdnghbdhbahmeaa

/- Printed by symgen.py: typed functions of this seat, and why they tell what the program does. -/
set_option linter.unusedVariables false
set_option linter.unusedSimpArgs false
open Go Go.Ev Go.Ev.PV
namespace Go.Proofs.Ytdnghbdhbahmeaa
def letters_Digit_T1 (O : Orc) (LP : LBody → LBody) (c : Int) : Option (PV × UP) :=
  cnd (decide (c ≥ 48))
   (some ((.bool (decide (c ≤ 57))), []))
   (some ((.bool false), []))
noncomputable def letters_Digit_B (c : Int) : Option Bool :=
  cnd (decide (c ≥ 48))
   (some (decide (c ≤ 57)))
   (some false)
def letters_Digit_ds : Decs := { decs := [], ups := [], loops := [] }
set_option maxRecDepth 100000 in
theorem letters_Digit_t1 (O : Orc) (LP : LBody → LBody) (c : Int) : evalBodyD Try.prog (MT 43) letters_Digit_ds Try.f43.ntmps O LP Try.f43 [(.int .u8 c)] [] = letters_Digit_T1 O LP c := by kernel_rfl
theorem letters_Digit_imp (c : Int) : Imp (letters_Digit_B c) (letters_Digit_T1 O loopLim c) (fun r v => v = (letters_DigitE r, [])) := by
  simp only [letters_Digit_B, letters_Digit_T1]
  try simp only [evs, tys]
  refine Imp.cnd ?_ ?_
  · exact Imp.some (by first | rfl | simp only [letters_DigitE, evs, tys, evl])
  · exact Imp.some (by first | rfl | simp only [letters_DigitE, evs, tys, evl])
theorem letters_Digit_run {c : Int} {r : Bool} (h : letters_Digit_B c = some r) : letters_Digit c = some r := by
  obtain ⟨v, hv, rfl⟩ := letters_Digit_imp c r h
  exact tO_of (pair_inj letters_DigitEj) (OL_runD letters_Digit_ds rfl rfl Try.func43 ((letters_Digit_t1 _ _ c).trans hv))
end Go.Proofs.Ytdnghbdhbahmeaa

/-
  What is answered from outside: contracts of the library's functions, laid at this program by the kit's tools.
-/
set_option linter.unusedVariables false
set_option linter.unusedSimpArgs false
open Go Go.Ev Go.Ev.PV
open Go.Shelf Go.RowKit
namespace Go.Proofs.Ytdnghbdhbahmeaa
def Try.lays105_ren : Go.Shelf.Ren := ⟨fun | 105 => 27 | 212 => 35 | 99 => 30 | 165 => 36 | 166 => 37 | 170 => 38 | 169 => 39 | 263 => 44 | 264 => 45 | 206 => 41 | 240 => 46 | 241 => 47 | 276 => 48 | 277 => 49 | n => n, fun | 9 => 9 | 3 => 3 | 4 => 4 | 20 => 20 | 0 => 0 | 46 => 40 | 109 => 42 | 5 => 5 | 72 => 47 | 76 => 51 | 51 => 55 | 146 => 56 | 53 => 58 | 148 => 59 | 70 => 44 | 37 => 45 | 75 => 50 | 127 => 61 | 164 => 62 | 80 => 54 | n => n, fun | n => n⟩

theorem Try.lays105 : Go.Proofs.Lays.n105 Try.prog Try.lays105_ren := {
  mixed := by kernel_rfl
  f99 := Try.func30.trans (congrArg some (by kernel_rfl))
  f105 := Try.func27.trans (congrArg some (by kernel_rfl))
  f165 := Try.func36.trans (congrArg some (by kernel_rfl))
  f166 := Try.func37.trans (congrArg some (by kernel_rfl))
  f169 := Try.func39.trans (congrArg some (by kernel_rfl))
  f170 := Try.func38.trans (congrArg some (by kernel_rfl))
  f206 := Try.func41.trans (congrArg some (by kernel_rfl))
  f212 := Try.func35.trans (congrArg some (by kernel_rfl))
  f240 := Try.func46.trans (congrArg some (by kernel_rfl))
  f241 := Try.func47.trans (congrArg some (by kernel_rfl))
  f263 := Try.func44.trans (congrArg some (by kernel_rfl))
  f264 := Try.func45.trans (congrArg some (by kernel_rfl))
  f276 := Try.func48.trans (congrArg some (by kernel_rfl))
  f277 := Try.func49.trans (congrArg some (by kernel_rfl))
  t0 := Try.underlying0
  a0 := Try.isAgg0
  z0 := Try.sizeOf0
  v0 := Try.zeroValue0
  t3 := Try.underlying3
  a3 := Try.isAgg3
  z3 := Try.sizeOf3
  v3 := Try.zeroValue3
  t4 := Try.underlying4
  a4 := Try.isAgg4
  z4 := Try.sizeOf4
  v4 := Try.zeroValue4
  t5 := Try.underlying5
  a5 := Try.isAgg5
  z5 := Try.sizeOf5
  v5 := Try.zeroValue5
  t9 := Try.underlying9
  a9 := Try.isAgg9
  z9 := Try.sizeOf9
  v9 := Try.zeroValue9
  t20 := Try.underlying20
  a20 := Try.isAgg20
  z20 := Try.sizeOf20
  v20 := Try.zeroValue20
  t37 := Try.underlying45
  a37 := Try.isAgg45
  z37 := Try.sizeOf45
  v37 := Try.zeroValue45
  t46 := Try.underlying40
  a46 := Try.isAgg40
  z46 := Try.sizeOf40
  v46 := Try.zeroValue40
  t51 := Try.underlying55
  a51 := Try.isAgg55
  z51 := Try.sizeOf55
  v51 := Try.zeroValue55
  t53 := Try.underlying58
  a53 := Try.isAgg58
  z53 := Try.sizeOf58
  v53 := Try.zeroValue58
  t70 := Try.underlying44
  a70 := Try.isAgg44
  z70 := Try.sizeOf44
  v70 := Try.zeroValue44
  t72 := Try.underlying47
  a72 := Try.isAgg47
  z72 := Try.sizeOf47
  v72 := Try.zeroValue47
  t75 := Try.underlying50
  a75 := Try.isAgg50
  z75 := Try.sizeOf50
  v75 := Try.zeroValue50
  t76 := Try.underlying51
  a76 := Try.isAgg51
  z76 := Try.sizeOf51
  v76 := Try.zeroValue51
  t109 := Try.underlying42
  a109 := Try.isAgg42
  z109 := Try.sizeOf42
  v109 := Try.zeroValue42
  t127 := Try.underlying61
  a127 := Try.isAgg61
  z127 := Try.sizeOf61
  v127 := Try.zeroValue61
  t146 := Try.underlying56
  a146 := Try.isAgg56
  z146 := Try.sizeOf56
  v146 := Try.zeroValue56
  t148 := Try.underlying59
  a148 := Try.isAgg59
  z148 := Try.sizeOf59
  v148 := Try.zeroValue59
  t164 := Try.underlying62
  a164 := Try.isAgg62
  z164 := Try.sizeOf62
  v164 := Try.zeroValue62 }

theorem Try.Builder_Extra_105 : Builder.Extra Try.prog Try.lays105_ren := {
  sizeBuilder := by kernel_rfl
  liesBuilder := by kernel_rfl
  t5 := Try.underlying5
  a5 := Try.isAgg5
  z5 := Try.sizeOf5
  v5 := Try.zeroValue5
  infoByte := by kernel_rfl
  cellsByte := by kernel_rfl
  sizeByte := by kernel_rfl
  neB5 := by decide }

theorem Try.strings_Repeat (s : ByteArray) (c : Nat) (w : World) (hc : c ≤ 9223372036854775807) (hlen : s.size * c ≤ 140737488355328) :
    Calls Try.prog 27 #[.string s, .int .i64 c] w fun e w' => e = .returned (.string ⟨(Lib.repeatL s.data.toList c).toArray⟩) ∧ Below w.heap.size w w' := Any.strings_Repeat Try.lays105 Try.Builder_Extra_105 s c w hc hlen

theorem repeatL_eq (l : List UInt8) : ∀ c, Go.Lib.repeatL l c = (List.replicate c l).flatten
  | 0 => rfl
  | c + 1 => by rw [Go.Lib.repeatL, List.replicate_succ, List.flatten_cons, repeatL_eq l c]
theorem xok_repeat : ∀ args up r up', xRepeat args up = some (r, up') → ∀ base w M B vals, CallPre base M B args up vals w → Invokes Try.prog 27 vals w (CallPost base M B args up vals w r up') :=
  xRepeat_ok (fun _ _ => enters_of Try.func27 (by kernel_rfl) rfl _ _) fun s c w h1 h2 => by
    have := Try.strings_Repeat s c w h1 h2
    rw [repeatL_eq] at this; exact this
theorem xok : ExtOk Try.prog XT := by
  intro f g h
  unfold XT at h
  simp only [Go.Ev.look] at h
  split at h
  · rename_i e; subst e; cases h; exact xok_repeat
  simp at h
end Go.Proofs.Ytdnghbdhbahmeaa



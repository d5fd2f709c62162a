import Derived.Test.YtphmfillajagdaaGreatGa
import Derived.Test.YtphmfillajagdaaGreatGb
set_option maxRecDepth 100000
set_option linter.unusedVariables false
set_option linter.unusedSimpArgs false
set_option linter.unusedSimpArgs false
open Go Go.Ev Go.Ev.PV
namespace Go.Proofs.YtphmfillajagdaaGreat
abbrev r1_Code_l1F : List Sh := [.str,n6,n6,n6,n6,n6,n6,n6]
def r1_Code_l1 (O : Orc) (LP : LBs) : LBody := fun s3 s3u => cnd (chkL r1_Code_l1F s3) (cnd (chkU [] s3u)
 (cnd (decide ((iv s3 7) < (iv s3 5)))
 (bnd (ixStr (zt s3 0) (i6 (w6 ((iv s3 1) + (iv s3 7))))) fun x8 => cnd (chk (.int .u8) x8)
 (cnd (decide ((w6 (intV x8)) < 128))
 (some (.ret,(pu (pu (rb r1_Code_l1F s3) 2 (i6 0)) 3 (i6 0)),[]))
 (cnd (decide ((w6 (intV x8)) > 191))
 (some (.ret,(pu (pu (rb r1_Code_l1F s3) 2 (i6 0)) 3 (i6 0)),[]))
 (some (.nrm,(pu (pu (rb r1_Code_l1F s3) 4 (i6 (bits .or .i64 (w6 ((iv s3 4) * 2 ^ min (Int.toNat 6) 64)) (bits .and .i64 (w6 (intV x8)) 63)))) 7 (i6 (w6 ((iv s3 7) + 1)))),[])))) none)
 (some (.brk 1,(rb r1_Code_l1F s3),[]))) none) none
abbrev r1_Code_l2F : List Sh := [.str,n6,n6,n6,n6,n6,n6,n6]
def r1_Code_l2 (O : Orc) (LP : LBs) : LBody := fun s15 s15u => cnd (chkL r1_Code_l2F s15) (cnd (chkU [] s15u)
 (cnd (decide ((iv s15 7) < (iv s15 5)))
 (bnd (ixStr (zt s15 0) (i6 (w6 ((iv s15 1) + (iv s15 7))))) fun x20 => cnd (chk (.int .u8) x20)
 (cnd (decide ((w6 (intV x20)) < 128))
 (some (.ret,(pu (pu (rb r1_Code_l2F s15) 2 (i6 0)) 3 (i6 0)),[]))
 (cnd (decide ((w6 (intV x20)) > 191))
 (some (.ret,(pu (pu (rb r1_Code_l2F s15) 2 (i6 0)) 3 (i6 0)),[]))
 (some (.nrm,(pu (pu (rb r1_Code_l2F s15) 4 (i6 (bits .or .i64 (w6 ((iv s15 4) * 2 ^ min (Int.toNat 6) 64)) (bits .and .i64 (w6 (intV x20)) 63)))) 7 (i6 (w6 ((iv s15 7) + 1)))),[])))) none)
 (some (.brk 1,(rb r1_Code_l2F s15),[]))) none) none
abbrev r1_Code_l3F : List Sh := [.str,n6,n6,n6,n6,n6,n6,n6]
def r1_Code_l3 (O : Orc) (LP : LBs) : LBody := fun s27 s27u => cnd (chkL r1_Code_l3F s27) (cnd (chkU [] s27u)
 (cnd (decide ((iv s27 7) < (iv s27 5)))
 (bnd (ixStr (zt s27 0) (i6 (w6 ((iv s27 1) + (iv s27 7))))) fun x32 => cnd (chk (.int .u8) x32)
 (cnd (decide ((w6 (intV x32)) < 128))
 (some (.ret,(pu (pu (rb r1_Code_l3F s27) 2 (i6 0)) 3 (i6 0)),[]))
 (cnd (decide ((w6 (intV x32)) > 191))
 (some (.ret,(pu (pu (rb r1_Code_l3F s27) 2 (i6 0)) 3 (i6 0)),[]))
 (some (.nrm,(pu (pu (rb r1_Code_l3F s27) 4 (i6 (bits .or .i64 (w6 ((iv s27 4) * 2 ^ min (Int.toNat 6) 64)) (bits .and .i64 (w6 (intV x32)) 63)))) 7 (i6 (w6 ((iv s27 7) + 1)))),[])))) none)
 (some (.brk 1,(rb r1_Code_l3F s27),[]))) none) none
def r1_Code_T1 (O : Orc) (LP : LBs) (s : Str) (i : Int) : Option (PV × UP) :=
 cnd (decide (i < 0))
 (some ((.tuple [(i6 0),(i6 0)]),[]))
 (cnd (decide (i ≥ (List.length s : Int)))
 (some ((.tuple [(i6 0),(i6 0)]),[]))
 (bnd (ixStr (.str s) (i6 i)) fun x1 => cnd (chk (.int .u8) x1)
 (cnd (decide ((w6 (intV x1)) < 128))
 (some ((.tuple [(i6 (w6 (intV x1))),(i6 1)]),[]))
 (cnd (decide ((w6 (intV x1)) ≥ 194))
 (cnd (decide ((w6 (intV x1)) < 224))
 (cnd (decide ((2 : Int) > (w6 ((List.length s : Int) - i))))
 (some ((.tuple [(i6 0),(i6 0)]),[]))
 (bnd (LP (r1_Code_l1 O LP) [(.str s),(i6 i),(i6 0),(i6 0),(i6 (bits .and .i64 (w6 (intV x1)) 31)),(i6 2),(i6 128),(i6 1)] []) fun y14 =>
 exIs y14.1 (some 1) (cnd (chkL r1_Code_l1F y14.2.1) (cnd (chkU [] y14.2.2)
 (cnd (decide ((iv y14.2.1 4) < (iv y14.2.1 6)))
 (some ((.tuple [(i6 0),(i6 0)]),[]))
 (cnd (decide ((iv y14.2.1 4) > 1114111))
 (some ((.tuple [(i6 0),(i6 0)]),[]))
 (cnd (decide ((iv y14.2.1 4) ≥ 55296))
 (cnd (decide ((iv y14.2.1 4) < 57344))
 (some ((.tuple [(i6 0),(i6 0)]),[]))
 (some ((.tuple [(zn y14.2.1 4),(zn y14.2.1 5)]),[])))
 (some ((.tuple [(zn y14.2.1 4),(zn y14.2.1 5)]),[]))))) none) none)
 (exIs y14.1 none (cnd (chkL r1_Code_l1F y14.2.1) (cnd (chkU [] y14.2.2)
 (some ((.tuple [(zn y14.2.1 2),(zn y14.2.1 3)]),[])) none) none)
 (none))))
 (cnd (decide ((w6 (intV x1)) ≥ 224))
 (cnd (decide ((w6 (intV x1)) < 240))
 (cnd (decide ((3 : Int) > (w6 ((List.length s : Int) - i))))
 (some ((.tuple [(i6 0),(i6 0)]),[]))
 (bnd (LP (r1_Code_l2 O LP) [(.str s),(i6 i),(i6 0),(i6 0),(i6 (bits .and .i64 (w6 (intV x1)) 15)),(i6 3),(i6 2048),(i6 1)] []) fun y26 =>
 exIs y26.1 (some 1) (cnd (chkL r1_Code_l1F y26.2.1) (cnd (chkU [] y26.2.2)
 (cnd (decide ((iv y26.2.1 4) < (iv y26.2.1 6)))
 (some ((.tuple [(i6 0),(i6 0)]),[]))
 (cnd (decide ((iv y26.2.1 4) > 1114111))
 (some ((.tuple [(i6 0),(i6 0)]),[]))
 (cnd (decide ((iv y26.2.1 4) ≥ 55296))
 (cnd (decide ((iv y26.2.1 4) < 57344))
 (some ((.tuple [(i6 0),(i6 0)]),[]))
 (some ((.tuple [(zn y26.2.1 4),(zn y26.2.1 5)]),[])))
 (some ((.tuple [(zn y26.2.1 4),(zn y26.2.1 5)]),[]))))) none) none)
 (exIs y26.1 none (cnd (chkL r1_Code_l1F y26.2.1) (cnd (chkU [] y26.2.2)
 (some ((.tuple [(zn y26.2.1 2),(zn y26.2.1 3)]),[])) none) none)
 (none))))
 (cnd (decide ((w6 (intV x1)) ≥ 240))
 (cnd (decide ((w6 (intV x1)) < 245))
 (cnd (decide ((4 : Int) > (w6 ((List.length s : Int) - i))))
 (some ((.tuple [(i6 0),(i6 0)]),[]))
 (bnd (LP (r1_Code_l3 O LP) [(.str s),(i6 i),(i6 0),(i6 0),(i6 (bits .and .i64 (w6 (intV x1)) 7)),(i6 4),(i6 65536),(i6 1)] []) fun y38 =>
 exIs y38.1 (some 1) (cnd (chkL r1_Code_l1F y38.2.1) (cnd (chkU [] y38.2.2)
 (cnd (decide ((iv y38.2.1 4) < (iv y38.2.1 6)))
 (some ((.tuple [(i6 0),(i6 0)]),[]))
 (cnd (decide ((iv y38.2.1 4) > 1114111))
 (some ((.tuple [(i6 0),(i6 0)]),[]))
 (cnd (decide ((iv y38.2.1 4) ≥ 55296))
 (cnd (decide ((iv y38.2.1 4) < 57344))
 (some ((.tuple [(i6 0),(i6 0)]),[]))
 (some ((.tuple [(zn y38.2.1 4),(zn y38.2.1 5)]),[])))
 (some ((.tuple [(zn y38.2.1 4),(zn y38.2.1 5)]),[]))))) none) none)
 (exIs y38.1 none (cnd (chkL r1_Code_l1F y38.2.1) (cnd (chkU [] y38.2.2)
 (some ((.tuple [(zn y38.2.1 2),(zn y38.2.1 3)]),[])) none) none)
 (none))))
 (some ((.tuple [(i6 0),(i6 0)]),[])))
 (some ((.tuple [(i6 0),(i6 0)]),[]))))
 (cnd (decide ((w6 (intV x1)) ≥ 240))
 (cnd (decide ((w6 (intV x1)) < 245))
 (cnd (decide ((4 : Int) > (w6 ((List.length s : Int) - i))))
 (some ((.tuple [(i6 0),(i6 0)]),[]))
 (bnd (LP (r1_Code_l3 O LP) [(.str s),(i6 i),(i6 0),(i6 0),(i6 (bits .and .i64 (w6 (intV x1)) 7)),(i6 4),(i6 65536),(i6 1)] []) fun y50 =>
 exIs y50.1 (some 1) (cnd (chkL r1_Code_l1F y50.2.1) (cnd (chkU [] y50.2.2)
 (cnd (decide ((iv y50.2.1 4) < (iv y50.2.1 6)))
 (some ((.tuple [(i6 0),(i6 0)]),[]))
 (cnd (decide ((iv y50.2.1 4) > 1114111))
 (some ((.tuple [(i6 0),(i6 0)]),[]))
 (cnd (decide ((iv y50.2.1 4) ≥ 55296))
 (cnd (decide ((iv y50.2.1 4) < 57344))
 (some ((.tuple [(i6 0),(i6 0)]),[]))
 (some ((.tuple [(zn y50.2.1 4),(zn y50.2.1 5)]),[])))
 (some ((.tuple [(zn y50.2.1 4),(zn y50.2.1 5)]),[]))))) none) none)
 (exIs y50.1 none (cnd (chkL r1_Code_l1F y50.2.1) (cnd (chkU [] y50.2.2)
 (some ((.tuple [(zn y50.2.1 2),(zn y50.2.1 3)]),[])) none) none)
 (none))))
 (some ((.tuple [(i6 0),(i6 0)]),[])))
 (some ((.tuple [(i6 0),(i6 0)]),[])))))
 (cnd (decide ((w6 (intV x1)) ≥ 224))
 (cnd (decide ((w6 (intV x1)) < 240))
 (cnd (decide ((3 : Int) > (w6 ((List.length s : Int) - i))))
 (some ((.tuple [(i6 0),(i6 0)]),[]))
 (bnd (LP (r1_Code_l2 O LP) [(.str s),(i6 i),(i6 0),(i6 0),(i6 (bits .and .i64 (w6 (intV x1)) 15)),(i6 3),(i6 2048),(i6 1)] []) fun y62 =>
 exIs y62.1 (some 1) (cnd (chkL r1_Code_l1F y62.2.1) (cnd (chkU [] y62.2.2)
 (cnd (decide ((iv y62.2.1 4) < (iv y62.2.1 6)))
 (some ((.tuple [(i6 0),(i6 0)]),[]))
 (cnd (decide ((iv y62.2.1 4) > 1114111))
 (some ((.tuple [(i6 0),(i6 0)]),[]))
 (cnd (decide ((iv y62.2.1 4) ≥ 55296))
 (cnd (decide ((iv y62.2.1 4) < 57344))
 (some ((.tuple [(i6 0),(i6 0)]),[]))
 (some ((.tuple [(zn y62.2.1 4),(zn y62.2.1 5)]),[])))
 (some ((.tuple [(zn y62.2.1 4),(zn y62.2.1 5)]),[]))))) none) none)
 (exIs y62.1 none (cnd (chkL r1_Code_l1F y62.2.1) (cnd (chkU [] y62.2.2)
 (some ((.tuple [(zn y62.2.1 2),(zn y62.2.1 3)]),[])) none) none)
 (none))))
 (cnd (decide ((w6 (intV x1)) ≥ 240))
 (cnd (decide ((w6 (intV x1)) < 245))
 (cnd (decide ((4 : Int) > (w6 ((List.length s : Int) - i))))
 (some ((.tuple [(i6 0),(i6 0)]),[]))
 (bnd (LP (r1_Code_l3 O LP) [(.str s),(i6 i),(i6 0),(i6 0),(i6 (bits .and .i64 (w6 (intV x1)) 7)),(i6 4),(i6 65536),(i6 1)] []) fun y74 =>
 exIs y74.1 (some 1) (cnd (chkL r1_Code_l1F y74.2.1) (cnd (chkU [] y74.2.2)
 (cnd (decide ((iv y74.2.1 4) < (iv y74.2.1 6)))
 (some ((.tuple [(i6 0),(i6 0)]),[]))
 (cnd (decide ((iv y74.2.1 4) > 1114111))
 (some ((.tuple [(i6 0),(i6 0)]),[]))
 (cnd (decide ((iv y74.2.1 4) ≥ 55296))
 (cnd (decide ((iv y74.2.1 4) < 57344))
 (some ((.tuple [(i6 0),(i6 0)]),[]))
 (some ((.tuple [(zn y74.2.1 4),(zn y74.2.1 5)]),[])))
 (some ((.tuple [(zn y74.2.1 4),(zn y74.2.1 5)]),[]))))) none) none)
 (exIs y74.1 none (cnd (chkL r1_Code_l1F y74.2.1) (cnd (chkU [] y74.2.2)
 (some ((.tuple [(zn y74.2.1 2),(zn y74.2.1 3)]),[])) none) none)
 (none))))
 (some ((.tuple [(i6 0),(i6 0)]),[])))
 (some ((.tuple [(i6 0),(i6 0)]),[]))))
 (cnd (decide ((w6 (intV x1)) ≥ 240))
 (cnd (decide ((w6 (intV x1)) < 245))
 (cnd (decide ((4 : Int) > (w6 ((List.length s : Int) - i))))
 (some ((.tuple [(i6 0),(i6 0)]),[]))
 (bnd (LP (r1_Code_l3 O LP) [(.str s),(i6 i),(i6 0),(i6 0),(i6 (bits .and .i64 (w6 (intV x1)) 7)),(i6 4),(i6 65536),(i6 1)] []) fun y86 =>
 exIs y86.1 (some 1) (cnd (chkL r1_Code_l1F y86.2.1) (cnd (chkU [] y86.2.2)
 (cnd (decide ((iv y86.2.1 4) < (iv y86.2.1 6)))
 (some ((.tuple [(i6 0),(i6 0)]),[]))
 (cnd (decide ((iv y86.2.1 4) > 1114111))
 (some ((.tuple [(i6 0),(i6 0)]),[]))
 (cnd (decide ((iv y86.2.1 4) ≥ 55296))
 (cnd (decide ((iv y86.2.1 4) < 57344))
 (some ((.tuple [(i6 0),(i6 0)]),[]))
 (some ((.tuple [(zn y86.2.1 4),(zn y86.2.1 5)]),[])))
 (some ((.tuple [(zn y86.2.1 4),(zn y86.2.1 5)]),[]))))) none) none)
 (exIs y86.1 none (cnd (chkL r1_Code_l1F y86.2.1) (cnd (chkU [] y86.2.2)
 (some ((.tuple [(zn y86.2.1 2),(zn y86.2.1 3)]),[])) none) none)
 (none))))
 (some ((.tuple [(i6 0),(i6 0)]),[])))
 (some ((.tuple [(i6 0),(i6 0)]),[])))))) none))
noncomputable def r1_Code_l1T (s : Str) (i : Int) : (Int × Int) → Option ((Int × Int) ⊕ (Int ⊕ Unit))
 | (c_6, k_7) =>
 cnd (decide (k_7 < 2))
  (bnd (nthI s (IntKind.wrap .i64 (i + k_7))) fun y9 =>
  cnd (decide ((IntKind.wrap .i64 (y9.toNat : Int)) < 128))
  (some (.inr (.inr ())))
  (cnd (decide ((IntKind.wrap .i64 (y9.toNat : Int)) > 191))
   (some (.inr (.inr ())))
   (some (.inl ((bits .or .i64 (IntKind.wrap .i64 (c_6 * 2 ^ min (Int.toNat 6) 64)) (bits .and .i64 (IntKind.wrap .i64 (y9.toNat : Int)) 63)), (IntKind.wrap .i64 (k_7 + 1)))))))
  (some (.inr (.inl c_6)))
abbrev r1_Code_l1R (s : Str) (i : Int) (st : Int × Int) (l : List PV) (u : UP) : Prop := l = [(.str s),(i6 i),(i6 0),(i6 0),(i6 st.1),(i6 2),(i6 128),(i6 st.2)] ∧ u = []
abbrev r1_Code_l1X (s : Str) (i : Int) (p : Int ⊕ Unit) (r : EU) : Prop := elim p (fun (p : Int) => ∃ (k_11 : Int),r = (Ex.brk 1,[(.str s),(i6 i),(i6 0),(i6 0),(i6 p),(i6 2),(i6 128),(i6 k_11)],[])) (fun q2 => (fun (p : Unit) => ∃ (c_12 : Int),∃ (k_13 : Int),r = (Ex.ret,[(.str s),(i6 i),(i6 0),(i6 0),(i6 c_12),(i6 2),(i6 128),(i6 k_13)],[])) q2)
noncomputable def r1_Code_l2T (s : Str) (i : Int) : (Int × Int) → Option ((Int × Int) ⊕ (Int ⊕ Unit))
 | (c_18, k_19) =>
 cnd (decide (k_19 < 3))
  (bnd (nthI s (IntKind.wrap .i64 (i + k_19))) fun y21 =>
  cnd (decide ((IntKind.wrap .i64 (y21.toNat : Int)) < 128))
  (some (.inr (.inr ())))
  (cnd (decide ((IntKind.wrap .i64 (y21.toNat : Int)) > 191))
   (some (.inr (.inr ())))
   (some (.inl ((bits .or .i64 (IntKind.wrap .i64 (c_18 * 2 ^ min (Int.toNat 6) 64)) (bits .and .i64 (IntKind.wrap .i64 (y21.toNat : Int)) 63)), (IntKind.wrap .i64 (k_19 + 1)))))))
  (some (.inr (.inl c_18)))
abbrev r1_Code_l2P (s : Str) (i : Int) (a0 a1 : PV) : List PV := [(.str s),(i6 i),(i6 0),(i6 0),a0,(i6 3),(i6 2048),a1]
abbrev r1_Code_l2R (s : Str) (i : Int) (st : Int × Int) (l : List PV) (u : UP) : Prop := l = (r1_Code_l2P s i (i6 st.1) (i6 st.2)) ∧ u = []
abbrev r1_Code_l2X (s : Str) (i : Int) (p : Int ⊕ Unit) (r : EU) : Prop := elim p (fun (p : Int) => ∃ (k_23 : Int),r = (Ex.brk 1,(r1_Code_l2P s i (i6 p) (i6 k_23)),[])) (fun (p : Unit) => ∃ (c_24 : Int),∃ (k_25 : Int),r = (Ex.ret,(r1_Code_l2P s i (i6 c_24) (i6 k_25)),[]))
noncomputable def r1_Code_l3T (s : Str) (i : Int) : (Int × Int) → Option ((Int × Int) ⊕ (Int ⊕ Unit))
 | (c_30, k_31) =>
 cnd (decide (k_31 < 4))
  (bnd (nthI s (IntKind.wrap .i64 (i + k_31))) fun y33 =>
  cnd (decide ((IntKind.wrap .i64 (y33.toNat : Int)) < 128))
  (some (.inr (.inr ())))
  (cnd (decide ((IntKind.wrap .i64 (y33.toNat : Int)) > 191))
   (some (.inr (.inr ())))
   (some (.inl ((bits .or .i64 (IntKind.wrap .i64 (c_30 * 2 ^ min (Int.toNat 6) 64)) (bits .and .i64 (IntKind.wrap .i64 (y33.toNat : Int)) 63)), (IntKind.wrap .i64 (k_31 + 1)))))))
  (some (.inr (.inl c_30)))
abbrev r1_Code_l3P (s : Str) (i : Int) (a0 a1 : PV) : List PV := [(.str s),(i6 i),(i6 0),(i6 0),a0,(i6 4),(i6 65536),a1]
abbrev r1_Code_l3R (s : Str) (i : Int) (st : Int × Int) (l : List PV) (u : UP) : Prop := l = (r1_Code_l3P s i (i6 st.1) (i6 st.2)) ∧ u = []
abbrev r1_Code_l3X (s : Str) (i : Int) (p : Int ⊕ Unit) (r : EU) : Prop := elim p (fun (p : Int) => ∃ (k_35 : Int),r = (Ex.brk 1,(r1_Code_l3P s i (i6 p) (i6 k_35)),[])) (fun (p : Unit) => ∃ (c_36 : Int),∃ (k_37 : Int),r = (Ex.ret,(r1_Code_l3P s i (i6 c_36) (i6 k_37)),[]))
noncomputable def r1_Code_B (s : Str) (i : Int) : Option (Int × Int) :=
 cnd (decide (i < 0))
 (some (0,0))
 (cnd (decide (i ≥ (List.length s : Int)))
 (some (0,0))
 (bnd (nthI s i) fun y2 =>
 cnd (decide ((IntKind.wrap .i64 (y2.toNat : Int)) < 128))
 (some ((IntKind.wrap .i64 (y2.toNat : Int)),1))
 (cnd (decide ((IntKind.wrap .i64 (y2.toNat : Int)) ≥ 194))
 (cnd (decide ((IntKind.wrap .i64 (y2.toNat : Int)) < 224))
 (cnd (decide ((2 : Int) > (IntKind.wrap .i64 ((List.length s : Int) - i))))
 (some (0,0))
 (bnd (tloop (r1_Code_l1T s i) ((bits .and .i64 (IntKind.wrap .i64 (y2.toNat : Int)) 31),1)) fun e14_2 => elim e14_2
 (fun c_10 =>
 cnd (decide (c_10 < 128))
 (some (0,0))
 (cnd (decide (c_10 > 1114111))
 (some (0,0))
 (cnd (decide (c_10 ≥ 55296))
 (cnd (decide (c_10 < 57344))
 (some (0,0))
 (some (c_10,2)))
 (some (c_10,2)))))
 (fun p14 =>
 some (0,0))))
 (cnd (decide ((IntKind.wrap .i64 (y2.toNat : Int)) ≥ 224))
 (cnd (decide ((IntKind.wrap .i64 (y2.toNat : Int)) < 240))
 (cnd (decide ((3 : Int) > (IntKind.wrap .i64 ((List.length s : Int) - i))))
 (some (0,0))
 (bnd (tloop (r1_Code_l2T s i) ((bits .and .i64 (IntKind.wrap .i64 (y2.toNat : Int)) 15),1)) fun e26_2 => elim e26_2
 (fun c_22 =>
 cnd (decide (c_22 < 2048))
 (some (0,0))
 (cnd (decide (c_22 > 1114111))
 (some (0,0))
 (cnd (decide (c_22 ≥ 55296))
 (cnd (decide (c_22 < 57344))
 (some (0,0))
 (some (c_22,3)))
 (some (c_22,3)))))
 (fun p26 =>
 some (0,0))))
 (cnd (decide ((IntKind.wrap .i64 (y2.toNat : Int)) ≥ 240))
 (cnd (decide ((IntKind.wrap .i64 (y2.toNat : Int)) < 245))
 (cnd (decide ((4 : Int) > (IntKind.wrap .i64 ((List.length s : Int) - i))))
 (some (0,0))
 (bnd (tloop (r1_Code_l3T s i) ((bits .and .i64 (IntKind.wrap .i64 (y2.toNat : Int)) 7),1)) fun e38_2 => elim e38_2
 (fun c_34 =>
 cnd (decide (c_34 < 65536))
 (some (0,0))
 (cnd (decide (c_34 > 1114111))
 (some (0,0))
 (cnd (decide (c_34 ≥ 55296))
 (cnd (decide (c_34 < 57344))
 (some (0,0))
 (some (c_34,4)))
 (some (c_34,4)))))
 (fun p38 =>
 some (0,0))))
 (some (0,0)))
 (some (0,0))))
 (cnd (decide ((IntKind.wrap .i64 (y2.toNat : Int)) ≥ 240))
 (cnd (decide ((IntKind.wrap .i64 (y2.toNat : Int)) < 245))
 (cnd (decide ((4 : Int) > (IntKind.wrap .i64 ((List.length s : Int) - i))))
 (some (0,0))
 (bnd (tloop (r1_Code_l3T s i) ((bits .and .i64 (IntKind.wrap .i64 (y2.toNat : Int)) 7),1)) fun e50_2 => elim e50_2
 (fun c_46 =>
 cnd (decide (c_46 < 65536))
 (some (0,0))
 (cnd (decide (c_46 > 1114111))
 (some (0,0))
 (cnd (decide (c_46 ≥ 55296))
 (cnd (decide (c_46 < 57344))
 (some (0,0))
 (some (c_46,4)))
 (some (c_46,4)))))
 (fun p50 =>
 some (0,0))))
 (some (0,0)))
 (some (0,0)))))
 (cnd (decide ((IntKind.wrap .i64 (y2.toNat : Int)) ≥ 224))
 (cnd (decide ((IntKind.wrap .i64 (y2.toNat : Int)) < 240))
 (cnd (decide ((3 : Int) > (IntKind.wrap .i64 ((List.length s : Int) - i))))
 (some (0,0))
 (bnd (tloop (r1_Code_l2T s i) ((bits .and .i64 (IntKind.wrap .i64 (y2.toNat : Int)) 15),1)) fun e62_2 => elim e62_2
 (fun c_58 =>
 cnd (decide (c_58 < 2048))
 (some (0,0))
 (cnd (decide (c_58 > 1114111))
 (some (0,0))
 (cnd (decide (c_58 ≥ 55296))
 (cnd (decide (c_58 < 57344))
 (some (0,0))
 (some (c_58,3)))
 (some (c_58,3)))))
 (fun p62 =>
 some (0,0))))
 (cnd (decide ((IntKind.wrap .i64 (y2.toNat : Int)) ≥ 240))
 (cnd (decide ((IntKind.wrap .i64 (y2.toNat : Int)) < 245))
 (cnd (decide ((4 : Int) > (IntKind.wrap .i64 ((List.length s : Int) - i))))
 (some (0,0))
 (bnd (tloop (r1_Code_l3T s i) ((bits .and .i64 (IntKind.wrap .i64 (y2.toNat : Int)) 7),1)) fun e74_2 => elim e74_2
 (fun c_70 =>
 cnd (decide (c_70 < 65536))
 (some (0,0))
 (cnd (decide (c_70 > 1114111))
 (some (0,0))
 (cnd (decide (c_70 ≥ 55296))
 (cnd (decide (c_70 < 57344))
 (some (0,0))
 (some (c_70,4)))
 (some (c_70,4)))))
 (fun p74 =>
 some (0,0))))
 (some (0,0)))
 (some (0,0))))
 (cnd (decide ((IntKind.wrap .i64 (y2.toNat : Int)) ≥ 240))
 (cnd (decide ((IntKind.wrap .i64 (y2.toNat : Int)) < 245))
 (cnd (decide ((4 : Int) > (IntKind.wrap .i64 ((List.length s : Int) - i))))
 (some (0,0))
 (bnd (tloop (r1_Code_l3T s i) ((bits .and .i64 (IntKind.wrap .i64 (y2.toNat : Int)) 7),1)) fun e86_2 => elim e86_2
 (fun c_82 =>
 cnd (decide (c_82 < 65536))
 (some (0,0))
 (cnd (decide (c_82 > 1114111))
 (some (0,0))
 (cnd (decide (c_82 ≥ 55296))
 (cnd (decide (c_82 < 57344))
 (some (0,0))
 (some (c_82,4)))
 (some (c_82,4)))))
 (fun p86 =>
 some (0,0))))
 (some (0,0)))
 (some (0,0)))))))
def r1_Code_ds : Decs := { decs := [(21,(.int .u8)),(68,(.int .u8))],loops := [(17,[],⟨r1_Code_l1F,[],[(some 1,r1_Code_l1F,[]),(none,r1_Code_l1F,[])]⟩)] }
theorem r1_Code_t1 (O : Orc) (LP : LBs) (s : Str) (i : Int) : eW 251 r1_Code_ds Tryz.f251 O LP [(.str s),(i6 i)] [] = r1_Code_T1 O LP s i := by kernel_rfl
theorem r1_Code_l1_ok (s : Str) (i : Int) : Lok (r1_Code_l1R s i) (r1_Code_l1T s i) (r1_Code_l1 O loopLim) (r1_Code_l1X s i) := by
 rintro ⟨c_6,k_7⟩ l u ⟨rfl,rfl⟩
 simp only [r1_Code_l1T,r1_Code_l1,zd,zr]
 refine zG ?_
 try simp only [evs,tys]
 apply Imp.cnd
 ·refine Imp.op (f := fun a => .int .u8 (a.toNat : Int)) (fun a h => op_ixStr h) (fun a => rfl) fun y9 hy9 => ?_
  try simp only [evs,tys]
  apply Imp.cnd
  ·exact zT ⟨c_6,k_7,zE⟩
  ·apply Imp.cnd
   ·exact zT ⟨c_6,k_7,zE⟩
   ·exact zN
 ·exact zB ⟨k_7,zE⟩
theorem r1_Code_l2_ok (s : Str) (i : Int) : Lok (r1_Code_l2R s i) (r1_Code_l2T s i) (r1_Code_l2 O loopLim) (r1_Code_l2X s i) := by
 rintro ⟨c_18,k_19⟩ l u ⟨rfl,rfl⟩
 simp only [r1_Code_l2T,r1_Code_l2,zd,zr]
 refine zG ?_
 try simp only [evs,tys]
 apply Imp.cnd
 ·refine Imp.op (f := fun a => .int .u8 (a.toNat : Int)) (fun a h => op_ixStr h) (fun a => rfl) fun y21 hy21 => ?_
  try simp only [evs,tys]
  apply Imp.cnd
  ·exact zT ⟨c_18,k_19,zE⟩
  ·apply Imp.cnd
   ·exact zT ⟨c_18,k_19,zE⟩
   ·exact zN
 ·exact zB ⟨k_19,zE⟩
theorem r1_Code_l3_ok (s : Str) (i : Int) : Lok (r1_Code_l3R s i) (r1_Code_l3T s i) (r1_Code_l3 O loopLim) (r1_Code_l3X s i) := by
 rintro ⟨c_30,k_31⟩ l u ⟨rfl,rfl⟩
 simp only [r1_Code_l3T,r1_Code_l3,zd,zr]
 refine zG ?_
 try simp only [evs,tys]
 apply Imp.cnd
 ·refine Imp.op (f := fun a => .int .u8 (a.toNat : Int)) (fun a h => op_ixStr h) (fun a => rfl) fun y33 hy33 => ?_
  try simp only [evs,tys]
  apply Imp.cnd
  ·exact zT ⟨c_30,k_31,zE⟩
  ·apply Imp.cnd
   ·exact zT ⟨c_30,k_31,zE⟩
   ·exact zN
 ·exact zB ⟨k_31,zE⟩
theorem r1_Code_imp (s : Str) (i : Int) : Imp (r1_Code_B s i) (r1_Code_T1 O loopLim s i) (Ri r1_numeralE) := by
 simp only [r1_Code_B,r1_Code_T1,zd,zr]
 try simp only [evs,tys]
 apply Imp.cnd
 ·exact zR
 ·apply Imp.cnd
  ·exact zR
  ·refine Imp.op (f := fun a => .int .u8 (a.toNat : Int)) (fun a h => op_ixStr h) (fun a => rfl) fun y2 hy2 => ?_
   try simp only [evs,tys]
   apply Imp.cnd
   ·exact zR
   ·apply Imp.cnd
    ·apply Imp.cnd
     ·apply Imp.cnd
      ·exact zR
      ·refine zL (r1_Code_l1_ok s i) ?_
       rintro (c_10 | p) vy14 hy14
       ·try simp only [elim_inl,elim_inr]
        obtain ⟨k_11,rfl⟩ := hy14
        refine zH ?_
        try simp only [evs,tys]
        apply Imp.cnd
        ·exact zR
        ·apply Imp.cnd
         ·exact zR
         ·apply Imp.cnd
          ·apply Imp.cnd
           ·exact zR
           ·exact zR
          ·exact zR
       ·try simp only [elim_inl,elim_inr]
        obtain ⟨c_12,k_13,rfl⟩ := hy14
        refine Imp.exMiss rfl ?_
        refine zH ?_
        try simp only [evs,tys]
        exact zR
     ·apply Imp.cnd
      ·apply Imp.cnd
       ·apply Imp.cnd
        ·exact zR
        ·refine zL (r1_Code_l2_ok s i) ?_
         rintro (c_22 | p) vy26 hy26
         ·try simp only [elim_inl,elim_inr]
          obtain ⟨k_23,rfl⟩ := hy26
          refine zH ?_
          try simp only [evs,tys]
          apply Imp.cnd
          ·exact zR
          ·apply Imp.cnd
           ·exact zR
           ·apply Imp.cnd
            ·apply Imp.cnd
             ·exact zR
             ·exact zR
            ·exact zR
         ·try simp only [elim_inl,elim_inr]
          obtain ⟨c_24,k_25,rfl⟩ := hy26
          refine Imp.exMiss rfl ?_
          refine zH ?_
          try simp only [evs,tys]
          exact zR
       ·apply Imp.cnd
        ·apply Imp.cnd
         ·apply Imp.cnd
          ·exact zR
          ·refine zL (r1_Code_l3_ok s i) ?_
           rintro (c_34 | p) vy38 hy38
           ·try simp only [elim_inl,elim_inr]
            obtain ⟨k_35,rfl⟩ := hy38
            refine zH ?_
            try simp only [evs,tys]
            apply Imp.cnd
            ·exact zR
            ·apply Imp.cnd
             ·exact zR
             ·apply Imp.cnd
              ·apply Imp.cnd
               ·exact zR
               ·exact zR
              ·exact zR
           ·try simp only [elim_inl,elim_inr]
            obtain ⟨c_36,k_37,rfl⟩ := hy38
            refine Imp.exMiss rfl ?_
            refine zH ?_
            try simp only [evs,tys]
            exact zR
         ·exact zR
        ·exact zR
      ·apply Imp.cnd
       ·apply Imp.cnd
        ·apply Imp.cnd
         ·exact zR
         ·refine zL (r1_Code_l3_ok s i) ?_
          rintro (c_46 | p) vy50 hy50
          ·try simp only [elim_inl,elim_inr]
           obtain ⟨k_47,rfl⟩ := hy50
           refine zH ?_
           try simp only [evs,tys]
           apply Imp.cnd
           ·exact zR
           ·apply Imp.cnd
            ·exact zR
            ·apply Imp.cnd
             ·apply Imp.cnd
              ·exact zR
              ·exact zR
             ·exact zR
          ·try simp only [elim_inl,elim_inr]
           obtain ⟨c_48,k_49,rfl⟩ := hy50
           refine Imp.exMiss rfl ?_
           refine zH ?_
           try simp only [evs,tys]
           exact zR
        ·exact zR
       ·exact zR
    ·apply Imp.cnd
     ·apply Imp.cnd
      ·apply Imp.cnd
       ·exact zR
       ·refine zL (r1_Code_l2_ok s i) ?_
        rintro (c_58 | p) vy62 hy62
        ·try simp only [elim_inl,elim_inr]
         obtain ⟨k_59,rfl⟩ := hy62
         refine zH ?_
         try simp only [evs,tys]
         apply Imp.cnd
         ·exact zR
         ·apply Imp.cnd
          ·exact zR
          ·apply Imp.cnd
           ·apply Imp.cnd
            ·exact zR
            ·exact zR
           ·exact zR
        ·try simp only [elim_inl,elim_inr]
         obtain ⟨c_60,k_61,rfl⟩ := hy62
         refine Imp.exMiss rfl ?_
         refine zH ?_
         try simp only [evs,tys]
         exact zR
      ·apply Imp.cnd
       ·apply Imp.cnd
        ·apply Imp.cnd
         ·exact zR
         ·refine zL (r1_Code_l3_ok s i) ?_
          rintro (c_70 | p) vy74 hy74
          ·try simp only [elim_inl,elim_inr]
           obtain ⟨k_71,rfl⟩ := hy74
           refine zH ?_
           try simp only [evs,tys]
           apply Imp.cnd
           ·exact zR
           ·apply Imp.cnd
            ·exact zR
            ·apply Imp.cnd
             ·apply Imp.cnd
              ·exact zR
              ·exact zR
             ·exact zR
          ·try simp only [elim_inl,elim_inr]
           obtain ⟨c_72,k_73,rfl⟩ := hy74
           refine Imp.exMiss rfl ?_
           refine zH ?_
           try simp only [evs,tys]
           exact zR
        ·exact zR
       ·exact zR
     ·apply Imp.cnd
      ·apply Imp.cnd
       ·apply Imp.cnd
        ·exact zR
        ·refine zL (r1_Code_l3_ok s i) ?_
         rintro (c_82 | p) vy86 hy86
         ·try simp only [elim_inl,elim_inr]
          obtain ⟨k_83,rfl⟩ := hy86
          refine zH ?_
          try simp only [evs,tys]
          apply Imp.cnd
          ·exact zR
          ·apply Imp.cnd
           ·exact zR
           ·apply Imp.cnd
            ·apply Imp.cnd
             ·exact zR
             ·exact zR
            ·exact zR
         ·try simp only [elim_inl,elim_inr]
          obtain ⟨c_84,k_85,rfl⟩ := hy86
          refine Imp.exMiss rfl ?_
          refine zH ?_
          try simp only [evs,tys]
          exact zR
       ·exact zR
      ·exact zR
theorem r1_Code_run {s : Str} {i : Int} {r : Int × Int} (h : r1_Code_B s i = some r) : r1_Code s i = some r := zV r1_numeralEj (r1_Code_imp s i) Tryz.func251 (r1_Code_t1 _ _ s i) h
open Go Go.Ev Go.Ev.PV
abbrev value_Get_l1F : List Sh := [.str,(.ptr 0 4 0),.bool,sf,n6,n6,n6,n6,.str,st',st']
def value_Get_l1 (O : Orc) (LP : LBs) : LBody := fun s1 s1u => cnd (chkL value_Get_l1F s1) (cnd (chkU [] s1u)
 (cnd (decide ((iv s1 5) < (iv s1 4)))
 (bnd (ix 6 (zs s1 3) (zn s1 5)) fun x5 => cnd (chk (.ref shMember) x5)
 (cnd ((sv (rf x5) 0) == (sv s1 0))
 (some (.ret,[(zt s1 0),(.ptr 0 4 0),(.bool true),(zs s1 3),(zn s1 4),(zn s1 5),(zn (rf x5) 1),(zn (rf x5) 2),(zt (rf x5) 3),(zs (rf x5) 4),(zs (rf x5) 5)],[]))
 (some (.nrm,(pu (rb value_Get_l1F s1) 5 (i6 (w6 ((iv s1 5) + 1)))),[]))) none)
 (some (.brk 0,(rb value_Get_l1F s1),[]))) none) none
def value_Get_T1 (O : Orc) (LP : LBs) (name : Str) (l0 : List GMember) : Option (PV × UP) :=
 bnd (LP (value_Get_l1 O LP) [(.str name),(.ptr 0 4 0),(.bool false),(zq encMember l0),(i6 (List.length (List.map encMember l0) : Int)),(i6 0),(i6 0),(i6 0),(.str []),(.slice [] [] true),(.slice [] [] true)] []) fun y14 =>
 exIs y14.1 (some 0) (cnd (chkL value_Get_l1F y14.2.1) (cnd (chkU [] y14.2.2)
 (some ((.tuple [(.agg [(i6 0),(i6 0),(.str []),(.slice [] [] false),(.slice [] [] false)]),(.bool false)]),[])) none) none)
 (exIs y14.1 none (cnd (chkL [.str,(.ptr 0 4 0),.bool,sf,n6,n6,n6,n6,.str,sf,sf] y14.2.1) (cnd (chkU [] y14.2.2)
 (some ((.tuple [(.agg [(zn y14.2.1 6),(zn y14.2.1 7),(zt y14.2.1 8),(zs y14.2.1 9),(zs y14.2.1 10)]),(zb y14.2.1 2)]),[])) none) none)
 (none))
noncomputable def value_Get_l1T (name : Str) (l0 : List GMember) : Int → Option (Int ⊕ (Unit ⊕ (Int × Int × Str × (List GValue) × (List GMember))))
 | t_4 =>
 cnd (decide (t_4 < (List.length l0 : Int)))
  (bnd (nthI l0 t_4) fun y6 =>
  cnd (y6.name == name)
  (some (.inr (.inr (y6.v.kind,y6.v.n,y6.v.s,y6.v.l,y6.v.m))))
  (some (.inl (IntKind.wrap .i64 (t_4 + 1)))))
  (some (.inr (.inl ())))
abbrev value_Get_l1R (name : Str) (l0 : List GMember) (st : Int) (l : List PV) (u : UP) : Prop := l = [(.str name),(.ptr 0 4 0),(.bool false),(zq encMember l0),(i6 (List.length l0 : Int)),(i6 st),(i6 0),(i6 0),(.str []),(.slice [] [] true),(.slice [] [] true)] ∧ u = []
abbrev value_Get_l1X (name : Str) (l0 : List GMember) (p : Unit ⊕ (Int × Int × Str × (List GValue) × (List GMember))) (r : EU) : Prop := elim p (fun (p : Unit) => ∃ (t_7 : Int),r = (Ex.brk 0,[(.str name),(.ptr 0 4 0),(.bool false),(zq encMember l0),(i6 (List.length l0 : Int)),(i6 t_7),(i6 0),(i6 0),(.str []),(.slice [] [] true),(.slice [] [] true)],[])) (fun q2 => (fun (p : Int × Int × Str × (List GValue) × (List GMember)) => ∃ (t_8 : Int),r = (Ex.ret,[(.str name),(.ptr 0 4 0),(.bool true),(zq encMember l0),(i6 (List.length l0 : Int)),(i6 t_8),(i6 p.1),(i6 p.2.1),(.str p.2.2.1),(zq encValue p.2.2.2.1),(zq encMember p.2.2.2.2)],[])) q2)
noncomputable def value_Get_B (name : Str) (l0 : List GMember) : Option (GValue × Bool) :=
 bnd (tloop (value_Get_l1T name l0) 0) fun e14_2 => elim e14_2
 (fun p14 =>
 some ((GValue.mk 0 0 [] ([] : List GValue) ([] : List GMember)),false))
 (fun p14 =>
 some ((GValue.mk p14.1 p14.2.1 p14.2.2.1 p14.2.2.2.1 p14.2.2.2.2),true))
def value_Get_ds : Decs := { decs := [(12,(.ref shMember))],loops := [(2,[(4,5)],⟨value_Get_l1F,[],[(some 0,value_Get_l1F,[]),(none,[.str,(.ptr 0 4 0),.bool,sf,n6,n6,n6,n6,.str,sf,sf],[])]⟩)] }
theorem value_Get_t1 (O : Orc) (LP : LBs) (name : Str) (l0 : List GMember) : eW 106 value_Get_ds Tryz.f106 O LP [(.str name),(zq encMember l0)] [] = value_Get_T1 O LP name l0 := by kernel_rfl
theorem value_Get_l1_ok (name : Str) (l0 : List GMember) : Lok (value_Get_l1R name l0) (value_Get_l1T name l0) (value_Get_l1 O loopLim) (value_Get_l1X name l0) := by
 rintro t_4 l u ⟨rfl,rfl⟩
 simp only [value_Get_l1T,value_Get_l1,zd,zr]
 refine zG ?_
 try simp only [evs,tys]
 apply Imp.cnd
 ·refine zX encMember chk_GMember fun y6 _ => ?_
  try simp only [evs,tys]
  apply Imp.cnd
  ·exact zT ⟨t_4,zE⟩
  ·exact zN
 ·exact zB ⟨t_4,zE⟩
theorem value_Get_imp (name : Str) (l0 : List GMember) : Imp (value_Get_B name l0) (value_Get_T1 O loopLim name l0) (Ri value_GetE) := by
 simp only [value_Get_B,value_Get_T1,zd,zr]
 try simp only [evs,tys]
 refine zL (value_Get_l1_ok name l0) ?_
 rintro (p | ⟨b_9,b_10,b_11,b_12,b_13⟩) vy14 hy14
 ·try simp only [elim_inl,elim_inr]
  obtain ⟨t_7,rfl⟩ := hy14
  refine zH ?_
  try simp only [evs,tys]
  exact zR
 ·try simp only [elim_inl,elim_inr]
  obtain ⟨t_8,rfl⟩ := hy14
  refine Imp.exMiss rfl ?_
  refine zH ?_
  try simp only [evs,tys]
  exact zR
theorem value_Get_run {name : Str} {l0 : List GMember} {r : GValue × Bool} (h : value_Get_B name l0 = some r) : value_Get name l0 = some r := zV value_GetEj (value_Get_imp name l0) Tryz.func106 (value_Get_t1 _ _ name l0) h
def li_Param_1_T1 (O : Orc) (LP : LBs) (p0 : GParam) (u0_4 : Str) (u0_40 : Str) (u0_400 : Int) (u0_4000 : Int) (u0_40000 : Bool) (u0_400000 : Int) (u0_4000000 : Int) (u0_40000000 : Str) (u0_3 : Str) : Option (PV × UP) :=
 some ((.bool (p0.name == u0_3)),[[(4,[(.str u0_4),(.str u0_40),(i6 u0_400),(i6 u0_4000),(.bool u0_40000),(i6 u0_400000),(i6 u0_4000000),(.str u0_40000000),(.slice [] [] true),(.slice [] [] true)]),(3,[(.str u0_3)])]])
noncomputable def li_Param_1_B (p0 : GParam) (u0_4 : Str) (u0_40 : Str) (u0_400 : Int) (u0_4000 : Int) (u0_40000 : Bool) (u0_400000 : Int) (u0_4000000 : Int) (u0_40000000 : Str) (u0_3 : Str) : Option Bool :=
 some (p0.name == u0_3)
def li_Param_1_ds : Decs := { }
theorem li_Param_1_t1 (O : Orc) (LP : LBs) (p0 : GParam) (u0_4 : Str) (u0_40 : Str) (u0_400 : Int) (u0_4000 : Int) (u0_40000 : Bool) (u0_400000 : Int) (u0_4000000 : Int) (u0_40000000 : Str) (u0_3 : Str) : eW 177 li_Param_1_ds Tryz.f177 O LP [(.agg [(.str p0.name),(.str p0.t.name),(i6 p0.t.lists),(i6 p0.t.musts),(.bool p0.has),(i6 p0.default.kind),(i6 p0.default.n),(.str p0.default.s),(zq encValue p0.default.l),(zq encMember p0.default.m)]),(.ptr 1 3 0)] [[(4,[(.str u0_4),(.str u0_40),(i6 u0_400),(i6 u0_4000),(.bool u0_40000),(i6 u0_400000),(i6 u0_4000000),(.str u0_40000000),(.slice [] [] true),(.slice [] [] true)]),(3,[(.str u0_3)])]] = li_Param_1_T1 O LP p0 u0_4 u0_40 u0_400 u0_4000 u0_40000 u0_400000 u0_4000000 u0_40000000 u0_3 := by kernel_rfl
theorem li_Param_1_imp (p0 : GParam) (u0_4 : Str) (u0_40 : Str) (u0_400 : Int) (u0_4000 : Int) (u0_40000 : Bool) (u0_400000 : Int) (u0_4000000 : Int) (u0_40000000 : Str) (u0_3 : Str) : Imp (li_Param_1_B p0 u0_4 u0_40 u0_400 u0_4000 u0_40000 u0_400000 u0_4000000 u0_40000000 u0_3) (li_Param_1_T1 O loopLim p0 u0_4 u0_40 u0_400 u0_4000 u0_40000 u0_400000 u0_4000000 u0_40000000 u0_3) (fun r v => v = (s6_ArgsRulesE r,(li_Param_1U p0 u0_4 u0_40 u0_400 u0_4000 u0_40000 u0_400000 u0_4000000 u0_40000000 u0_3 r))) := by
 simp only [li_Param_1_B,li_Param_1_T1,zd,zr]
 try simp only [evs,tys]
 exact Imp.some (by first | rfl | simp only [zes,li_Param_1U,evs,tys,evl])
theorem li_Param_1_run {p0 : GParam} {u0_4 : Str} {u0_40 : Str} {u0_400 : Int} {u0_4000 : Int} {u0_40000 : Bool} {u0_400000 : Int} {u0_4000000 : Int} {u0_40000000 : Str} {u0_3 : Str} {r : Bool} (h : li_Param_1_B p0 u0_4 u0_40 u0_400 u0_4000 u0_40000 u0_400000 u0_4000000 u0_40000000 u0_3 = some r) : li_Param_1 p0 u0_4 u0_40 u0_400 u0_4000 u0_40000 u0_400000 u0_4000000 u0_40000000 u0_3 = some r := zV s6_ArgsRulesEj (li_Param_1_imp p0 u0_4 u0_40 u0_400 u0_4000 u0_40000 u0_400000 u0_4000000 u0_40000000 u0_3) Tryz.func177 (li_Param_1_t1 _ _ p0 u0_4 u0_40 u0_400 u0_4000 u0_40000 u0_400000 u0_4000000 u0_40000000 u0_3) h
abbrev sx_Param_l1F : List Sh := [sf,(.func 177 [] [(.ptr 1 3 0)]),n6,n6,n6]
def sx_Param_l1 (O : Orc) (LP : LBs) : LBody := fun s1 s1u => cnd (chkL sx_Param_l1F s1) (cnd (chkU [[(4,[.str,.str,n6,n6,.bool,n6,n6,.str,st',st']),(3,[.str])]] s1u)
 (cnd (decide ((iv s1 4) < (iv s1 3)))
 (bnd (ix 10 (zs s1 0) (zn s1 4)) fun x7 => cnd (chk (.ref shParam) x7)
 (bnd (O 177 [(.agg [(zt (rf x7) 0),(zt (rf x7) 1),(zn (rf x7) 2),(zn (rf x7) 3),(zb (rf x7) 4),(zn (rf x7) 5),(zn (rf x7) 6),(zt (rf x7) 7),(zs (rf x7) 8),(zs (rf x7) 9)]),(.ptr 2 3 0)] [[],[(4,[(zt (bx s1u 0 0) 0),(zt (bx s1u 0 0) 1),(zn (bx s1u 0 0) 2),(zn (bx s1u 0 0) 3),(zb (bx s1u 0 0) 4),(zn (bx s1u 0 0) 5),(zn (bx s1u 0 0) 6),(zt (bx s1u 0 0) 7),(zo (bx s1u 0 0) 8),(zo (bx s1u 0 0) 9)]),(3,[(zt (bx s1u 0 1) 0)])]]) fun x9 => cnd (chkU [[],[(4,[.str,.str,n6,n6,.bool,n6,n6,.str,st',st']),(3,[.str])]] x9.2) (cnd (chk .bool x9.1)
 (cnd (boolV x9.1)
 (some (.ret,[(zs s1 0),(.func (.func 177) [] [(.ptr 1 3 0)]),(zn s1 4),(zn s1 3),(zn s1 4)],[[(4,[(zt (bx x9.2 1 0) 0),(zt (bx x9.2 1 0) 1),(zn (bx x9.2 1 0) 2),(zn (bx x9.2 1 0) 3),(zb (bx x9.2 1 0) 4),(zn (bx x9.2 1 0) 5),(zn (bx x9.2 1 0) 6),(zt (bx x9.2 1 0) 7),(zo (bx x9.2 1 0) 8),(zo (bx x9.2 1 0) 9)]),(3,[(zt (bx x9.2 1 1) 0)])]]))
 (some (.nrm,[(zs s1 0),(.func (.func 177) [] [(.ptr 1 3 0)]),(zn s1 2),(zn s1 3),(i6 (w6 ((iv s1 4) + 1)))],[[(4,[(zt (bx x9.2 1 0) 0),(zt (bx x9.2 1 0) 1),(zn (bx x9.2 1 0) 2),(zn (bx x9.2 1 0) 3),(zb (bx x9.2 1 0) 4),(zn (bx x9.2 1 0) 5),(zn (bx x9.2 1 0) 6),(zt (bx x9.2 1 0) 7),(zo (bx x9.2 1 0) 8),(zo (bx x9.2 1 0) 9)]),(3,[(zt (bx x9.2 1 1) 0)])]]))) none) none) none)
 (some (.brk 0,(pu (rb sx_Param_l1F s1) 1 (.func (.func 177) [] [(.ptr 1 3 0)])),[[(4,[(zt (bx s1u 0 0) 0),(zt (bx s1u 0 0) 1),(zn (bx s1u 0 0) 2),(zn (bx s1u 0 0) 3),(zb (bx s1u 0 0) 4),(zn (bx s1u 0 0) 5),(zn (bx s1u 0 0) 6),(zt (bx s1u 0 0) 7),(zo (bx s1u 0 0) 8),(zo (bx s1u 0 0) 9)]),(3,[(zt (bx s1u 0 1) 0)])]]))) none) none
def sx_Param_T1 (O : Orc) (LP : LBs) (s : List GParam) (u0_4 : Str) (u0_40 : Str) (u0_400 : Int) (u0_4000 : Int) (u0_40000 : Bool) (u0_400000 : Int) (u0_4000000 : Int) (u0_40000000 : Str) (u0_3 : Str) : Option (PV × UP) :=
 bnd (LP (sx_Param_l1 O LP) [(zq encParam s),(.func (.func 177) [] [(.ptr 1 3 0)]),(i6 0),(i6 (List.length (List.map encParam s) : Int)),(i6 0)] [[(4,[(.str u0_4),(.str u0_40),(i6 u0_400),(i6 u0_4000),(.bool u0_40000),(i6 u0_400000),(i6 u0_4000000),(.str u0_40000000),(.slice [] [] true),(.slice [] [] true)]),(3,[(.str u0_3)])]]) fun y14 =>
 exIs y14.1 (some 0) (cnd (chkL sx_Param_l1F y14.2.1) (cnd (chkU [[(4,[.str,.str,n6,n6,.bool,n6,n6,.str,st',st']),(3,[.str])]] y14.2.2)
 (some ((i6 (-1)),[[(4,[(zt (bx y14.2.2 0 0) 0),(zt (bx y14.2.2 0 0) 1),(zn (bx y14.2.2 0 0) 2),(zn (bx y14.2.2 0 0) 3),(zb (bx y14.2.2 0 0) 4),(zn (bx y14.2.2 0 0) 5),(zn (bx y14.2.2 0 0) 6),(zt (bx y14.2.2 0 0) 7),(zo (bx y14.2.2 0 0) 8),(zo (bx y14.2.2 0 0) 9)]),(3,[(zt (bx y14.2.2 0 1) 0)])]])) none) none)
 (exIs y14.1 none (cnd (chkL sx_Param_l1F y14.2.1) (cnd (chkU [[(4,[.str,.str,n6,n6,.bool,n6,n6,.str,st',st']),(3,[.str])]] y14.2.2)
 (some ((zn y14.2.1 2),[[(4,[(zt (bx y14.2.2 0 0) 0),(zt (bx y14.2.2 0 0) 1),(zn (bx y14.2.2 0 0) 2),(zn (bx y14.2.2 0 0) 3),(zb (bx y14.2.2 0 0) 4),(zn (bx y14.2.2 0 0) 5),(zn (bx y14.2.2 0 0) 6),(zt (bx y14.2.2 0 0) 7),(zo (bx y14.2.2 0 0) 8),(zo (bx y14.2.2 0 0) 9)]),(3,[(zt (bx y14.2.2 0 1) 0)])]])) none) none)
 (none))
noncomputable def sx_Param_l1T (s : List GParam) (u0_4 : Str) (u0_40 : Str) (u0_400 : Int) (u0_4000 : Int) (u0_40000 : Bool) (u0_400000 : Int) (u0_4000000 : Int) (u0_40000000 : Str) (u0_3 : Str) : Int → Option (Int ⊕ (Unit ⊕ Int))
 | t_6 =>
 cnd (decide (t_6 < (List.length s : Int)))
  (bnd (nthI s t_6) fun y8 =>
  bnd (li_Param_1 y8 u0_4 u0_40 u0_400 u0_4000 u0_40000 u0_400000 u0_4000000 u0_40000000 u0_3) fun y10 =>
  cnd y10
  (some (.inr (.inr t_6)))
  (some (.inl (IntKind.wrap .i64 (t_6 + 1)))))
  (some (.inr (.inl ())))
abbrev sx_Param_l1R (s : List GParam) (u0_4 : Str) (u0_40 : Str) (u0_400 : Int) (u0_4000 : Int) (u0_40000 : Bool) (u0_400000 : Int) (u0_4000000 : Int) (u0_40000000 : Str) (u0_3 : Str) (st : Int) (l : List PV) (u : UP) : Prop := l = [(zq encParam s),(.func (.func 177) [] [(.ptr 1 3 0)]),(i6 0),(i6 (List.length s : Int)),(i6 st)] ∧ u = [[(4,[(.str u0_4),(.str u0_40),(i6 u0_400),(i6 u0_4000),(.bool u0_40000),(i6 u0_400000),(i6 u0_4000000),(.str u0_40000000),(.slice [] [] true),(.slice [] [] true)]),(3,[(.str u0_3)])]]
abbrev sx_Param_l1X (s : List GParam) (u0_4 : Str) (u0_40 : Str) (u0_400 : Int) (u0_4000 : Int) (u0_40000 : Bool) (u0_400000 : Int) (u0_4000000 : Int) (u0_40000000 : Str) (u0_3 : Str) (p : Unit ⊕ Int) (r : EU) : Prop := elim p (fun (p : Unit) => ∃ (t_11 : Int),r = (Ex.brk 0,[(zq encParam s),(.func (.func 177) [] [(.ptr 1 3 0)]),(i6 0),(i6 (List.length s : Int)),(i6 t_11)],[[(4,[(.str u0_4),(.str u0_40),(i6 u0_400),(i6 u0_4000),(.bool u0_40000),(i6 u0_400000),(i6 u0_4000000),(.str u0_40000000),(.slice [] [] true),(.slice [] [] true)]),(3,[(.str u0_3)])]])) (fun q2 => (fun (p : Int) => ∃ (t_13 : Int),r = (Ex.ret,[(zq encParam s),(.func (.func 177) [] [(.ptr 1 3 0)]),(i6 p),(i6 (List.length s : Int)),(i6 t_13)],[[(4,[(.str u0_4),(.str u0_40),(i6 u0_400),(i6 u0_4000),(.bool u0_40000),(i6 u0_400000),(i6 u0_4000000),(.str u0_40000000),(.slice [] [] true),(.slice [] [] true)]),(3,[(.str u0_3)])]])) q2)
noncomputable def sx_Param_B (s : List GParam) (u0_4 : Str) (u0_40 : Str) (u0_400 : Int) (u0_4000 : Int) (u0_40000 : Bool) (u0_400000 : Int) (u0_4000000 : Int) (u0_40000000 : Str) (u0_3 : Str) : Option Int :=
 bnd (tloop (sx_Param_l1T s u0_4 u0_40 u0_400 u0_4000 u0_40000 u0_400000 u0_4000000 u0_40000000 u0_3) 0) fun e14_2 => elim e14_2
 (fun p14 =>
 some (-1))
 (fun t_12 =>
 some t_12)
def sx_Param_ds : Decs := { decs := [(14,(.ref shParam)),(16,.bool)],ups := [(16,[[],[(4,[.str,.str,n6,n6,.bool,n6,n6,.str,st',st']),(3,[.str])]])],loops := [(2,[],⟨sx_Param_l1F,[[(4,[.str,.str,n6,n6,.bool,n6,n6,.str,st',st']),(3,[.str])]],[(some 0,sx_Param_l1F,[[(4,[.str,.str,n6,n6,.bool,n6,n6,.str,st',st']),(3,[.str])]]),(none,sx_Param_l1F,[[(4,[.str,.str,n6,n6,.bool,n6,n6,.str,st',st']),(3,[.str])]])]⟩)] }
theorem sx_Param_t1 (O : Orc) (LP : LBs) (s : List GParam) (u0_4 : Str) (u0_40 : Str) (u0_400 : Int) (u0_4000 : Int) (u0_40000 : Bool) (u0_400000 : Int) (u0_4000000 : Int) (u0_40000000 : Str) (u0_3 : Str) : eW 176 sx_Param_ds Tryz.f176 O LP [(zq encParam s),(.func (.func 177) [] [(.ptr 1 3 0)])] [[(4,[(.str u0_4),(.str u0_40),(i6 u0_400),(i6 u0_4000),(.bool u0_40000),(i6 u0_400000),(i6 u0_4000000),(.str u0_40000000),(.slice [] [] true),(.slice [] [] true)]),(3,[(.str u0_3)])]] = sx_Param_T1 O LP s u0_4 u0_40 u0_400 u0_4000 u0_40000 u0_400000 u0_4000000 u0_40000000 u0_3 := by kernel_rfl
theorem sx_Param_l1_ok (s : List GParam) (u0_4 : Str) (u0_40 : Str) (u0_400 : Int) (u0_4000 : Int) (u0_40000 : Bool) (u0_400000 : Int) (u0_4000000 : Int) (u0_40000000 : Str) (u0_3 : Str) : Lok (sx_Param_l1R s u0_4 u0_40 u0_400 u0_4000 u0_40000 u0_400000 u0_4000000 u0_40000000 u0_3) (sx_Param_l1T s u0_4 u0_40 u0_400 u0_4000 u0_40000 u0_400000 u0_4000000 u0_40000000 u0_3) (sx_Param_l1 O loopLim) (sx_Param_l1X s u0_4 u0_40 u0_400 u0_4000 u0_40000 u0_400000 u0_4000000 u0_40000000 u0_3) := by
 rintro t_6 l u ⟨rfl,rfl⟩
 simp only [sx_Param_l1T,sx_Param_l1,zd,zr]
 refine zG ?_
 try simp only [evs,tys]
 apply Imp.cnd
 ·refine zX encParam chk_GParam fun y8 _ => ?_
  try simp only [evs,tys]
  refine Imp.gcall (f := s6_ArgsRulesE) (fu := fun a => [] :: li_Param_1U y8 u0_4 u0_40 u0_400 u0_4000 u0_40000 u0_400000 u0_4000000 u0_40000000 u0_3 a) (fun a h => by first | exact OL_drop rfl rfl (by first | rfl | (simp only [zes,tys]; rfl)) (tO_spec h) | (have h' := tO_spec h; simp only [evs,tys,evl,li_Param_1U] at h'; exact OL_drop rfl rfl (by first | rfl | (simp only [zes,tys]; rfl)) h')) zK (fun a => by first | rfl | (simp only [li_Param_1U,evs,tys]; first | rfl | (cases w <;> rfl))) fun y10 hy10 => ?_
  try simp only [s6_ArgsRulesE,li_Param_1U,evs,tys]
  apply Imp.cnd
  ·exact zT ⟨t_6,zE⟩
  ·exact zN
 ·exact zB ⟨t_6,zE⟩
theorem sx_Param_imp (s : List GParam) (u0_4 : Str) (u0_40 : Str) (u0_400 : Int) (u0_4000 : Int) (u0_40000 : Bool) (u0_400000 : Int) (u0_4000000 : Int) (u0_40000000 : Str) (u0_3 : Str) : Imp (sx_Param_B s u0_4 u0_40 u0_400 u0_4000 u0_40000 u0_400000 u0_4000000 u0_40000000 u0_3) (sx_Param_T1 O loopLim s u0_4 u0_40 u0_400 u0_4000 u0_40000 u0_400000 u0_4000000 u0_40000000 u0_3) (fun r v => v = (r9_CheckE r,(sx_ParamU s u0_4 u0_40 u0_400 u0_4000 u0_40000 u0_400000 u0_4000000 u0_40000000 u0_3 r))) := by
 simp only [sx_Param_B,sx_Param_T1,zd,zr]
 try simp only [evs,tys]
 refine zL (sx_Param_l1_ok s u0_4 u0_40 u0_400 u0_4000 u0_40000 u0_400000 u0_4000000 u0_40000000 u0_3) ?_
 rintro (p | t_12) vy14 hy14
 ·try simp only [elim_inl,elim_inr]
  obtain ⟨t_11,rfl⟩ := hy14
  refine zH ?_
  try simp only [evs,tys]
  exact Imp.some (by first | rfl | simp only [zes,sx_ParamU,evs,tys,evl])
 ·try simp only [elim_inl,elim_inr]
  obtain ⟨t_13,rfl⟩ := hy14
  refine Imp.exMiss rfl ?_
  refine zH ?_
  try simp only [evs,tys]
  exact Imp.some (by first | rfl | simp only [zes,sx_ParamU,evs,tys,evl])
theorem sx_Param_run {s : List GParam} {u0_4 : Str} {u0_40 : Str} {u0_400 : Int} {u0_4000 : Int} {u0_40000 : Bool} {u0_400000 : Int} {u0_4000000 : Int} {u0_40000000 : Str} {u0_3 : Str} {r : Int} (h : sx_Param_B s u0_4 u0_40 u0_400 u0_4000 u0_40000 u0_400000 u0_4000000 u0_40000000 u0_3 = some r) : sx_Param s u0_4 u0_40 u0_400 u0_4000 u0_40000 u0_400000 u0_4000000 u0_40000000 u0_3 = some r := zV r9_CheckEj (sx_Param_imp s u0_4 u0_40 u0_400 u0_4000 u0_40000 u0_400000 u0_4000000 u0_40000000 u0_3) Tryz.func176 (sx_Param_t1 _ _ s u0_4 u0_40 u0_400 u0_4000 u0_40000 u0_400000 u0_4000000 u0_40000000 u0_3) h
def li_Param_T1 (O : Orc) (LP : LBs) (l0 : List GParam) (name : Str) : Option (PV × UP) :=
 bnd (O 176 [(zq encParam l0),(.func (.func 177) [] [(.ptr 1 3 0)])] [[(4,[(.str []),(.str []),(i6 0),(i6 0),(.bool false),(i6 0),(i6 0),(.str []),(.slice [] [] true),(.slice [] [] true)]),(3,[(.str name)])]]) fun x1 => cnd (chkU [[(4,[.str,.str,n6,n6,.bool,n6,n6,.str,st',st']),(3,[.str])]] x1.2) (cnd (chk n6 x1.1)
 (cnd (decide ((intV x1.1) < 0))
 (some ((.tuple [(.agg [(.str []),(.str []),(i6 0),(i6 0),(.bool false),(i6 0),(i6 0),(.str []),(.slice [] [] false),(.slice [] [] false)]),(.bool false)]),[]))
 (bnd (ix 10 (zq encParam l0) (i6 (intV x1.1))) fun x3 => cnd (chk (.ref shParam) x3)
 (some ((.tuple [(.agg [(zt (rf x3) 0),(zt (rf x3) 1),(zn (rf x3) 2),(zn (rf x3) 3),(zb (rf x3) 4),(zn (rf x3) 5),(zn (rf x3) 6),(zt (rf x3) 7),(zs (rf x3) 8),(zs (rf x3) 9)]),(.bool true)]),[])) none)) none) none
noncomputable def li_Param_B (l0 : List GParam) (name : Str) : Option (GParam × Bool) :=
 bnd (sx_Param l0 [] [] 0 0 false 0 0 [] name) fun y2 =>
 cnd (decide (y2 < 0))
 (some ((GParam.mk [] (GType.mk [] 0 0) false (GValue.mk 0 0 [] ([] : List GValue) ([] : List GMember))),false))
 (bnd (nthI l0 y2) fun y4 =>
 some (y4,true))
def li_Param_ds : Decs := { decs := [(9,n6),(15,(.ref shParam))],ups := [(9,[[(4,[.str,.str,n6,n6,.bool,n6,n6,.str,st',st']),(3,[.str])]])] }
theorem li_Param_t1 (O : Orc) (LP : LBs) (l0 : List GParam) (name : Str) : eW 107 li_Param_ds Tryz.f107 O LP [(zq encParam l0),(.str name)] [] = li_Param_T1 O LP l0 name := by kernel_rfl
theorem li_Param_imp (l0 : List GParam) (name : Str) : Imp (li_Param_B l0 name) (li_Param_T1 O loopLim l0 name) (Ri li_ParamE) := by
 simp only [li_Param_B,li_Param_T1,zd,zr]
 try simp only [evs,tys]
 refine Imp.gcall (f := r9_CheckE) (fu := fun a => sx_ParamU l0 [] [] 0 0 false 0 0 [] name a) (fun a h => by first | exact tO_spec h | (have h' := tO_spec h; simp only [evs,tys,evl,sx_ParamU] at h'; exact h')) zK (fun a => by first | rfl | (simp only [sx_ParamU,evs,tys]; first | rfl | (cases w <;> rfl))) fun y2 hy2 => ?_
 try simp only [r9_CheckE,sx_ParamU,evs,tys]
 apply Imp.cnd
 ·exact zR
 ·refine zX encParam chk_GParam fun y4 _ => ?_
  try simp only [evs,tys]
  exact zR
theorem li_Param_run {l0 : List GParam} {name : Str} {r : GParam × Bool} (h : li_Param_B l0 name = some r) : li_Param l0 name = some r := zV li_ParamEj (li_Param_imp l0 name) Tryz.func107 (li_Param_t1 _ _ l0 name) h
def fi_Root_T1 (O : Orc) (LP : LBs) (s : GSchema) (o : GOp) : Option (PV × UP) :=
 cnd (o.kind == 1)
 (some ((.str s.mutation),[]))
 (some ((.str s.query),[]))
noncomputable def fi_Root_B (s : GSchema) (o : GOp) : Option Str :=
 cnd (o.kind == 1)
 (some s.mutation)
 (some s.query)
def fi_Root_ds : Decs := { }
theorem fi_Root_t1 (O : Orc) (LP : LBs) (s : GSchema) (o : GOp) : eW 68 fi_Root_ds Tryz.f68 O LP [(eS s),(.agg [(i6 o.kind),(.str o.name),(zq encVarDef o.vars),(zq encDir o.dirs),(zq encSel o.sels)])] [] = fi_Root_T1 O LP s o := by kernel_rfl
theorem fi_Root_imp (s : GSchema) (o : GOp) : Imp (fi_Root_B s o) (fi_Root_T1 O loopLim s o) (Ri fi_RootE) := by
 simp only [fi_Root_B,fi_Root_T1,zd,zr]
 try simp only [evs,tys]
 apply Imp.cnd
 ·exact zR
 ·exact zR
theorem fi_Root_run {s : GSchema} {o : GOp} {r : Str} (h : fi_Root_B s o = some r) : fi_Root s o = some r := zV fi_RootEj (fi_Root_imp s o) Tryz.func68 (fi_Root_t1 _ _ s o) h
def de_Field_1_T1 (O : Orc) (LP : LBs) (f : GFieldDef) (u0_8 : GDef) (u0_6 : Str) (u0_60 : Str) (u0_600 : Int) (u0_6000 : Int) (u0_5 : Str) (u0_3 : GSchema) : Option (PV × UP) :=
 some ((.bool (f.name == u0_5)),[[(8,[(i6 u0_8.kind),(.str u0_8.name),(zq PV.str u0_8.faces),(zq encFieldDef u0_8.fields),(zq PV.str u0_8.parts),(zq encParam u0_8.params)]),(6,[(.str u0_6),(.slice [] [] true),(.str u0_60),(i6 u0_600),(i6 u0_6000),(.slice [] [] true)]),(5,[(.str u0_5)]),(3,[(zq encDef u0_3.defs),(.str u0_3.query),(.str u0_3.mutation)])]])
noncomputable def de_Field_1_B (f : GFieldDef) (u0_8 : GDef) (u0_6 : Str) (u0_60 : Str) (u0_600 : Int) (u0_6000 : Int) (u0_5 : Str) (u0_3 : GSchema) : Option Bool :=
 some (f.name == u0_5)
def de_Field_1_ds : Decs := { }
theorem de_Field_1_t1 (O : Orc) (LP : LBs) (f : GFieldDef) (u0_8 : GDef) (u0_6 : Str) (u0_60 : Str) (u0_600 : Int) (u0_6000 : Int) (u0_5 : Str) (u0_3 : GSchema) : eW 180 de_Field_1_ds Tryz.f180 O LP [(.agg [(.str f.name),(zq encParam f.params),(.str f.t.name),(i6 f.t.lists),(i6 f.t.musts),(zq encDir f.dirs)]),(.ptr 1 5 0)] [[(8,[(i6 u0_8.kind),(.str u0_8.name),(zq PV.str u0_8.faces),(zq encFieldDef u0_8.fields),(zq PV.str u0_8.parts),(zq encParam u0_8.params)]),(6,[(.str u0_6),(.slice [] [] true),(.str u0_60),(i6 u0_600),(i6 u0_6000),(.slice [] [] true)]),(5,[(.str u0_5)]),(3,[(zq encDef u0_3.defs),(.str u0_3.query),(.str u0_3.mutation)])]] = de_Field_1_T1 O LP f u0_8 u0_6 u0_60 u0_600 u0_6000 u0_5 u0_3 := by kernel_rfl
theorem de_Field_1_imp (f : GFieldDef) (u0_8 : GDef) (u0_6 : Str) (u0_60 : Str) (u0_600 : Int) (u0_6000 : Int) (u0_5 : Str) (u0_3 : GSchema) : Imp (de_Field_1_B f u0_8 u0_6 u0_60 u0_600 u0_6000 u0_5 u0_3) (de_Field_1_T1 O loopLim f u0_8 u0_6 u0_60 u0_600 u0_6000 u0_5 u0_3) (fun r v => v = (s6_ArgsRulesE r,(de_Field_1U f u0_8 u0_6 u0_60 u0_600 u0_6000 u0_5 u0_3 r))) := by
 simp only [de_Field_1_B,de_Field_1_T1,zd,zr]
 try simp only [evs,tys]
 exact Imp.some (by first | rfl | simp only [zes,de_Field_1U,evs,tys,evl])
theorem de_Field_1_run {f : GFieldDef} {u0_8 : GDef} {u0_6 : Str} {u0_60 : Str} {u0_600 : Int} {u0_6000 : Int} {u0_5 : Str} {u0_3 : GSchema} {r : Bool} (h : de_Field_1_B f u0_8 u0_6 u0_60 u0_600 u0_6000 u0_5 u0_3 = some r) : de_Field_1 f u0_8 u0_6 u0_60 u0_600 u0_6000 u0_5 u0_3 = some r := zV s6_ArgsRulesEj (de_Field_1_imp f u0_8 u0_6 u0_60 u0_600 u0_6000 u0_5 u0_3) Tryz.func180 (de_Field_1_t1 _ _ f u0_8 u0_6 u0_60 u0_600 u0_6000 u0_5 u0_3) h
abbrev sx_FieldDef_l1F : List Sh := [sf,(.func 180 [] [(.ptr 1 5 0)]),n6,n6,n6]
def sx_FieldDef_l1 (O : Orc) (LP : LBs) : LBody := fun s1 s1u => cnd (chkL sx_FieldDef_l1F s1) (cnd (chkU [[(8,[n6,.str,sf,sf,sf,sf]),(6,[.str,st',.str,n6,n6,st']),(5,[.str]),(3,[sf,.str,.str])]] s1u)
 (cnd (decide ((iv s1 4) < (iv s1 3)))
 (bnd (ix 6 (zs s1 0) (zn s1 4)) fun x7 => cnd (chk (.ref shFieldDef) x7)
 (bnd (O 180 [(.agg [(zt (rf x7) 0),(zs (rf x7) 1),(zt (rf x7) 2),(zn (rf x7) 3),(zn (rf x7) 4),(zs (rf x7) 5)]),(.ptr 2 5 0)] [[],[(8,[(zn (bx s1u 0 0) 0),(zt (bx s1u 0 0) 1),(zs (bx s1u 0 0) 2),(zs (bx s1u 0 0) 3),(zs (bx s1u 0 0) 4),(zs (bx s1u 0 0) 5)]),(6,[(zt (bx s1u 0 1) 0),(zo (bx s1u 0 1) 1),(zt (bx s1u 0 1) 2),(zn (bx s1u 0 1) 3),(zn (bx s1u 0 1) 4),(zo (bx s1u 0 1) 5)]),(5,[(zt (bx s1u 0 2) 0)]),(3,[(zs (bx s1u 0 3) 0),(zt (bx s1u 0 3) 1),(zt (bx s1u 0 3) 2)])]]) fun x9 => cnd (chkU [[],[(8,[n6,.str,sf,sf,sf,sf]),(6,[.str,st',.str,n6,n6,st']),(5,[.str]),(3,[sf,.str,.str])]] x9.2) (cnd (chk .bool x9.1)
 (cnd (boolV x9.1)
 (some (.ret,[(zs s1 0),(.func (.func 180) [] [(.ptr 1 5 0)]),(zn s1 4),(zn s1 3),(zn s1 4)],[[(8,[(zn (bx x9.2 1 0) 0),(zt (bx x9.2 1 0) 1),(zs (bx x9.2 1 0) 2),(zs (bx x9.2 1 0) 3),(zs (bx x9.2 1 0) 4),(zs (bx x9.2 1 0) 5)]),(6,[(zt (bx x9.2 1 1) 0),(zo (bx x9.2 1 1) 1),(zt (bx x9.2 1 1) 2),(zn (bx x9.2 1 1) 3),(zn (bx x9.2 1 1) 4),(zo (bx x9.2 1 1) 5)]),(5,[(zt (bx x9.2 1 2) 0)]),(3,[(zs (bx x9.2 1 3) 0),(zt (bx x9.2 1 3) 1),(zt (bx x9.2 1 3) 2)])]]))
 (some (.nrm,[(zs s1 0),(.func (.func 180) [] [(.ptr 1 5 0)]),(zn s1 2),(zn s1 3),(i6 (w6 ((iv s1 4) + 1)))],[[(8,[(zn (bx x9.2 1 0) 0),(zt (bx x9.2 1 0) 1),(zs (bx x9.2 1 0) 2),(zs (bx x9.2 1 0) 3),(zs (bx x9.2 1 0) 4),(zs (bx x9.2 1 0) 5)]),(6,[(zt (bx x9.2 1 1) 0),(zo (bx x9.2 1 1) 1),(zt (bx x9.2 1 1) 2),(zn (bx x9.2 1 1) 3),(zn (bx x9.2 1 1) 4),(zo (bx x9.2 1 1) 5)]),(5,[(zt (bx x9.2 1 2) 0)]),(3,[(zs (bx x9.2 1 3) 0),(zt (bx x9.2 1 3) 1),(zt (bx x9.2 1 3) 2)])]]))) none) none) none)
 (some (.brk 0,(pu (rb sx_FieldDef_l1F s1) 1 (.func (.func 180) [] [(.ptr 1 5 0)])),[[(8,[(zn (bx s1u 0 0) 0),(zt (bx s1u 0 0) 1),(zs (bx s1u 0 0) 2),(zs (bx s1u 0 0) 3),(zs (bx s1u 0 0) 4),(zs (bx s1u 0 0) 5)]),(6,[(zt (bx s1u 0 1) 0),(zo (bx s1u 0 1) 1),(zt (bx s1u 0 1) 2),(zn (bx s1u 0 1) 3),(zn (bx s1u 0 1) 4),(zo (bx s1u 0 1) 5)]),(5,[(zt (bx s1u 0 2) 0)]),(3,[(zs (bx s1u 0 3) 0),(zt (bx s1u 0 3) 1),(zt (bx s1u 0 3) 2)])]]))) none) none
def sx_FieldDef_T1 (O : Orc) (LP : LBs) (s : List GFieldDef) (u0_8 : GDef) (u0_6 : Str) (u0_60 : Str) (u0_600 : Int) (u0_6000 : Int) (u0_5 : Str) (u0_3 : GSchema) : Option (PV × UP) :=
 bnd (LP (sx_FieldDef_l1 O LP) [(zq encFieldDef s),(.func (.func 180) [] [(.ptr 1 5 0)]),(i6 0),(i6 (List.length (List.map encFieldDef s) : Int)),(i6 0)] [[(8,[(i6 u0_8.kind),(.str u0_8.name),(zq PV.str u0_8.faces),(zq encFieldDef u0_8.fields),(zq PV.str u0_8.parts),(zq encParam u0_8.params)]),(6,[(.str u0_6),(.slice [] [] true),(.str u0_60),(i6 u0_600),(i6 u0_6000),(.slice [] [] true)]),(5,[(.str u0_5)]),(3,[(zq encDef u0_3.defs),(.str u0_3.query),(.str u0_3.mutation)])]]) fun y14 =>
 exIs y14.1 (some 0) (cnd (chkL sx_FieldDef_l1F y14.2.1) (cnd (chkU [[(8,[n6,.str,sf,sf,sf,sf]),(6,[.str,st',.str,n6,n6,st']),(5,[.str]),(3,[sf,.str,.str])]] y14.2.2)
 (some ((i6 (-1)),[[(8,[(zn (bx y14.2.2 0 0) 0),(zt (bx y14.2.2 0 0) 1),(zs (bx y14.2.2 0 0) 2),(zs (bx y14.2.2 0 0) 3),(zs (bx y14.2.2 0 0) 4),(zs (bx y14.2.2 0 0) 5)]),(6,[(zt (bx y14.2.2 0 1) 0),(zo (bx y14.2.2 0 1) 1),(zt (bx y14.2.2 0 1) 2),(zn (bx y14.2.2 0 1) 3),(zn (bx y14.2.2 0 1) 4),(zo (bx y14.2.2 0 1) 5)]),(5,[(zt (bx y14.2.2 0 2) 0)]),(3,[(zs (bx y14.2.2 0 3) 0),(zt (bx y14.2.2 0 3) 1),(zt (bx y14.2.2 0 3) 2)])]])) none) none)
 (exIs y14.1 none (cnd (chkL sx_FieldDef_l1F y14.2.1) (cnd (chkU [[(8,[n6,.str,sf,sf,sf,sf]),(6,[.str,st',.str,n6,n6,st']),(5,[.str]),(3,[sf,.str,.str])]] y14.2.2)
 (some ((zn y14.2.1 2),[[(8,[(zn (bx y14.2.2 0 0) 0),(zt (bx y14.2.2 0 0) 1),(zs (bx y14.2.2 0 0) 2),(zs (bx y14.2.2 0 0) 3),(zs (bx y14.2.2 0 0) 4),(zs (bx y14.2.2 0 0) 5)]),(6,[(zt (bx y14.2.2 0 1) 0),(zo (bx y14.2.2 0 1) 1),(zt (bx y14.2.2 0 1) 2),(zn (bx y14.2.2 0 1) 3),(zn (bx y14.2.2 0 1) 4),(zo (bx y14.2.2 0 1) 5)]),(5,[(zt (bx y14.2.2 0 2) 0)]),(3,[(zs (bx y14.2.2 0 3) 0),(zt (bx y14.2.2 0 3) 1),(zt (bx y14.2.2 0 3) 2)])]])) none) none)
 (none))
noncomputable def sx_FieldDef_l1T (s : List GFieldDef) (u0_8 : GDef) (u0_6 : Str) (u0_60 : Str) (u0_600 : Int) (u0_6000 : Int) (u0_5 : Str) (u0_3 : GSchema) : Int → Option (Int ⊕ (Unit ⊕ Int))
 | t_6 =>
 cnd (decide (t_6 < (List.length s : Int)))
  (bnd (nthI s t_6) fun y8 =>
  bnd (de_Field_1 y8 u0_8 u0_6 u0_60 u0_600 u0_6000 u0_5 u0_3) fun y10 =>
  cnd y10
  (some (.inr (.inr t_6)))
  (some (.inl (IntKind.wrap .i64 (t_6 + 1)))))
  (some (.inr (.inl ())))
abbrev sx_FieldDef_l1R (s : List GFieldDef) (u0_8 : GDef) (u0_6 : Str) (u0_60 : Str) (u0_600 : Int) (u0_6000 : Int) (u0_5 : Str) (u0_3 : GSchema) (st : Int) (l : List PV) (u : UP) : Prop := l = [(zq encFieldDef s),(.func (.func 180) [] [(.ptr 1 5 0)]),(i6 0),(i6 (List.length s : Int)),(i6 st)] ∧ u = [[(8,[(i6 u0_8.kind),(.str u0_8.name),(zq PV.str u0_8.faces),(zq encFieldDef u0_8.fields),(zq PV.str u0_8.parts),(zq encParam u0_8.params)]),(6,[(.str u0_6),(.slice [] [] true),(.str u0_60),(i6 u0_600),(i6 u0_6000),(.slice [] [] true)]),(5,[(.str u0_5)]),(3,[(zq encDef u0_3.defs),(.str u0_3.query),(.str u0_3.mutation)])]]
abbrev sx_FieldDef_l1X (s : List GFieldDef) (u0_8 : GDef) (u0_6 : Str) (u0_60 : Str) (u0_600 : Int) (u0_6000 : Int) (u0_5 : Str) (u0_3 : GSchema) (p : Unit ⊕ Int) (r : EU) : Prop := elim p (fun (p : Unit) => ∃ (t_11 : Int),r = (Ex.brk 0,[(zq encFieldDef s),(.func (.func 180) [] [(.ptr 1 5 0)]),(i6 0),(i6 (List.length s : Int)),(i6 t_11)],[[(8,[(i6 u0_8.kind),(.str u0_8.name),(zq PV.str u0_8.faces),(zq encFieldDef u0_8.fields),(zq PV.str u0_8.parts),(zq encParam u0_8.params)]),(6,[(.str u0_6),(.slice [] [] true),(.str u0_60),(i6 u0_600),(i6 u0_6000),(.slice [] [] true)]),(5,[(.str u0_5)]),(3,[(zq encDef u0_3.defs),(.str u0_3.query),(.str u0_3.mutation)])]])) (fun q2 => (fun (p : Int) => ∃ (t_13 : Int),r = (Ex.ret,[(zq encFieldDef s),(.func (.func 180) [] [(.ptr 1 5 0)]),(i6 p),(i6 (List.length s : Int)),(i6 t_13)],[[(8,[(i6 u0_8.kind),(.str u0_8.name),(zq PV.str u0_8.faces),(zq encFieldDef u0_8.fields),(zq PV.str u0_8.parts),(zq encParam u0_8.params)]),(6,[(.str u0_6),(.slice [] [] true),(.str u0_60),(i6 u0_600),(i6 u0_6000),(.slice [] [] true)]),(5,[(.str u0_5)]),(3,[(zq encDef u0_3.defs),(.str u0_3.query),(.str u0_3.mutation)])]])) q2)
noncomputable def sx_FieldDef_B (s : List GFieldDef) (u0_8 : GDef) (u0_6 : Str) (u0_60 : Str) (u0_600 : Int) (u0_6000 : Int) (u0_5 : Str) (u0_3 : GSchema) : Option Int :=
 bnd (tloop (sx_FieldDef_l1T s u0_8 u0_6 u0_60 u0_600 u0_6000 u0_5 u0_3) 0) fun e14_2 => elim e14_2
 (fun p14 =>
 some (-1))
 (fun t_12 =>
 some t_12)
def sx_FieldDef_ds : Decs := { decs := [(14,(.ref shFieldDef)),(16,.bool)],ups := [(16,[[],[(8,[n6,.str,sf,sf,sf,sf]),(6,[.str,st',.str,n6,n6,st']),(5,[.str]),(3,[sf,.str,.str])]])],loops := [(2,[],⟨sx_FieldDef_l1F,[[(8,[n6,.str,sf,sf,sf,sf]),(6,[.str,st',.str,n6,n6,st']),(5,[.str]),(3,[sf,.str,.str])]],[(some 0,sx_FieldDef_l1F,[[(8,[n6,.str,sf,sf,sf,sf]),(6,[.str,st',.str,n6,n6,st']),(5,[.str]),(3,[sf,.str,.str])]]),(none,sx_FieldDef_l1F,[[(8,[n6,.str,sf,sf,sf,sf]),(6,[.str,st',.str,n6,n6,st']),(5,[.str]),(3,[sf,.str,.str])]])]⟩)] }
theorem sx_FieldDef_t1 (O : Orc) (LP : LBs) (s : List GFieldDef) (u0_8 : GDef) (u0_6 : Str) (u0_60 : Str) (u0_600 : Int) (u0_6000 : Int) (u0_5 : Str) (u0_3 : GSchema) : eW 179 sx_FieldDef_ds Tryz.f179 O LP [(zq encFieldDef s),(.func (.func 180) [] [(.ptr 1 5 0)])] [[(8,[(i6 u0_8.kind),(.str u0_8.name),(zq PV.str u0_8.faces),(zq encFieldDef u0_8.fields),(zq PV.str u0_8.parts),(zq encParam u0_8.params)]),(6,[(.str u0_6),(.slice [] [] true),(.str u0_60),(i6 u0_600),(i6 u0_6000),(.slice [] [] true)]),(5,[(.str u0_5)]),(3,[(zq encDef u0_3.defs),(.str u0_3.query),(.str u0_3.mutation)])]] = sx_FieldDef_T1 O LP s u0_8 u0_6 u0_60 u0_600 u0_6000 u0_5 u0_3 := by kernel_rfl
theorem sx_FieldDef_l1_ok (s : List GFieldDef) (u0_8 : GDef) (u0_6 : Str) (u0_60 : Str) (u0_600 : Int) (u0_6000 : Int) (u0_5 : Str) (u0_3 : GSchema) : Lok (sx_FieldDef_l1R s u0_8 u0_6 u0_60 u0_600 u0_6000 u0_5 u0_3) (sx_FieldDef_l1T s u0_8 u0_6 u0_60 u0_600 u0_6000 u0_5 u0_3) (sx_FieldDef_l1 O loopLim) (sx_FieldDef_l1X s u0_8 u0_6 u0_60 u0_600 u0_6000 u0_5 u0_3) := by
 rintro t_6 l u ⟨rfl,rfl⟩
 simp only [sx_FieldDef_l1T,sx_FieldDef_l1,zd,zr]
 refine zG ?_
 try simp only [evs,tys]
 apply Imp.cnd
 ·refine zX encFieldDef chk_GFieldDef fun y8 _ => ?_
  try simp only [evs,tys]
  refine Imp.gcall (f := s6_ArgsRulesE) (fu := fun a => [] :: de_Field_1U y8 u0_8 u0_6 u0_60 u0_600 u0_6000 u0_5 u0_3 a) (fun a h => by first | exact OL_drop rfl rfl (by first | rfl | (simp only [zes,tys]; rfl)) (tO_spec h) | (have h' := tO_spec h; simp only [evs,tys,evl,de_Field_1U] at h'; exact OL_drop rfl rfl (by first | rfl | (simp only [zes,tys]; rfl)) h')) zK (fun a => by first | rfl | (simp only [de_Field_1U,evs,tys]; first | rfl | (cases w <;> rfl))) fun y10 hy10 => ?_
  try simp only [s6_ArgsRulesE,de_Field_1U,evs,tys]
  apply Imp.cnd
  ·exact zT ⟨t_6,zE⟩
  ·exact zN
 ·exact zB ⟨t_6,zE⟩
theorem sx_FieldDef_imp (s : List GFieldDef) (u0_8 : GDef) (u0_6 : Str) (u0_60 : Str) (u0_600 : Int) (u0_6000 : Int) (u0_5 : Str) (u0_3 : GSchema) : Imp (sx_FieldDef_B s u0_8 u0_6 u0_60 u0_600 u0_6000 u0_5 u0_3) (sx_FieldDef_T1 O loopLim s u0_8 u0_6 u0_60 u0_600 u0_6000 u0_5 u0_3) (fun r v => v = (r9_CheckE r,(sx_FieldDefU s u0_8 u0_6 u0_60 u0_600 u0_6000 u0_5 u0_3 r))) := by
 simp only [sx_FieldDef_B,sx_FieldDef_T1,zd,zr]
 try simp only [evs,tys]
 refine zL (sx_FieldDef_l1_ok s u0_8 u0_6 u0_60 u0_600 u0_6000 u0_5 u0_3) ?_
 rintro (p | t_12) vy14 hy14
 ·try simp only [elim_inl,elim_inr]
  obtain ⟨t_11,rfl⟩ := hy14
  refine zH ?_
  try simp only [evs,tys]
  exact Imp.some (by first | rfl | simp only [zes,sx_FieldDefU,evs,tys,evl])
 ·try simp only [elim_inl,elim_inr]
  obtain ⟨t_13,rfl⟩ := hy14
  refine Imp.exMiss rfl ?_
  refine zH ?_
  try simp only [evs,tys]
  exact Imp.some (by first | rfl | simp only [zes,sx_FieldDefU,evs,tys,evl])
theorem sx_FieldDef_run {s : List GFieldDef} {u0_8 : GDef} {u0_6 : Str} {u0_60 : Str} {u0_600 : Int} {u0_6000 : Int} {u0_5 : Str} {u0_3 : GSchema} {r : Int} (h : sx_FieldDef_B s u0_8 u0_6 u0_60 u0_600 u0_6000 u0_5 u0_3 = some r) : sx_FieldDef s u0_8 u0_6 u0_60 u0_600 u0_6000 u0_5 u0_3 = some r := zV r9_CheckEj (sx_FieldDef_imp s u0_8 u0_6 u0_60 u0_600 u0_6000 u0_5 u0_3) Tryz.func179 (sx_FieldDef_t1 _ _ s u0_8 u0_6 u0_60 u0_600 u0_6000 u0_5 u0_3) h
def de_Field_T1 (O : Orc) (LP : LBs) (s : GSchema) (typ : Str) (name : Str) : Option (PV × UP) :=
 cnd (name == ([95,95,116,121,112,101,110,97,109,101] : Str))
 (callp O 140 [(eS s),(.str typ)] fun x1 => cnd (chk .bool x1)
 (cnd (boolV x1)
 (some ((.tuple [(.agg [(.str [95,95,116,121,112,101,110,97,109,101]),(.slice [] [] false),(.str [83,116,114,105,110,103]),(i6 0),(i6 1),(.slice [] [] false)]),(.bool true)]),[]))
 (callp O 178 [(eS s),(.str typ)] fun x3 => cnd (chk (.tup [shDef,.bool]) x3)
 (cnd (!(boolV (tv x3 1)))
 (some ((.tuple [(.agg [(.str []),(.slice [] [] false),(.str []),(i6 0),(i6 0),(.slice [] [] false)]),(.bool false)]),[]))
 (cnd ((iv (tg x3 0) 0) != 1)
 (cnd ((iv (tg x3 0) 0) != 2)
 (some ((.tuple [(.agg [(.str []),(.slice [] [] false),(.str []),(i6 0),(i6 0),(.slice [] [] false)]),(.bool false)]),[]))
 (bnd (O 179 [(zs (tg x3 0) 3),(.func (.func 180) [] [(.ptr 1 5 0)])] [[(8,[(zn (tg x3 0) 0),(zt (tg x3 0) 1),(zs (tg x3 0) 2),(zs (tg x3 0) 3),(zs (tg x3 0) 4),(zs (tg x3 0) 5)]),(6,[(.str []),(.slice [] [] true),(.str []),(i6 0),(i6 0),(.slice [] [] true)]),(5,[(.str name)]),(3,[(zq encDef s.defs),(.str s.query),(.str s.mutation)])]]) fun x5 => cnd (chkU [[(8,[n6,.str,sf,sf,sf,sf]),(6,[.str,st',.str,n6,n6,st']),(5,[.str]),(3,[sf,.str,.str])]] x5.2) (cnd (chk n6 x5.1)
 (cnd (decide ((intV x5.1) < 0))
 (some ((.tuple [(.agg [(.str []),(.slice [] [] false),(.str []),(i6 0),(i6 0),(.slice [] [] false)]),(.bool false)]),[]))
 (bnd (ix 6 (zs (bx x5.2 0 0) 3) (i6 (intV x5.1))) fun x7 => cnd (chk (.ref shFieldDef) x7)
 (some ((.tuple [(.agg [(zt (rf x7) 0),(zs (rf x7) 1),(zt (rf x7) 2),(zn (rf x7) 3),(zn (rf x7) 4),(zs (rf x7) 5)]),(.bool true)]),[])) none)) none) none))
 (bnd (O 179 [(zs (tg x3 0) 3),(.func (.func 180) [] [(.ptr 1 5 0)])] [[(8,[(zn (tg x3 0) 0),(zt (tg x3 0) 1),(zs (tg x3 0) 2),(zs (tg x3 0) 3),(zs (tg x3 0) 4),(zs (tg x3 0) 5)]),(6,[(.str []),(.slice [] [] true),(.str []),(i6 0),(i6 0),(.slice [] [] true)]),(5,[(.str name)]),(3,[(zq encDef s.defs),(.str s.query),(.str s.mutation)])]]) fun x9 => cnd (chkU [[(8,[n6,.str,sf,sf,sf,sf]),(6,[.str,st',.str,n6,n6,st']),(5,[.str]),(3,[sf,.str,.str])]] x9.2) (cnd (chk n6 x9.1)
 (cnd (decide ((intV x9.1) < 0))
 (some ((.tuple [(.agg [(.str []),(.slice [] [] false),(.str []),(i6 0),(i6 0),(.slice [] [] false)]),(.bool false)]),[]))
 (bnd (ix 6 (zs (bx x9.2 0 0) 3) (i6 (intV x9.1))) fun x11 => cnd (chk (.ref shFieldDef) x11)
 (some ((.tuple [(.agg [(zt (rf x11) 0),(zs (rf x11) 1),(zt (rf x11) 2),(zn (rf x11) 3),(zn (rf x11) 4),(zs (rf x11) 5)]),(.bool true)]),[])) none)) none) none))) none)) none)
 (callp O 178 [(eS s),(.str typ)] fun x13 => cnd (chk (.tup [shDef,.bool]) x13)
 (cnd (!(boolV (tv x13 1)))
 (some ((.tuple [(.agg [(.str []),(.slice [] [] false),(.str []),(i6 0),(i6 0),(.slice [] [] false)]),(.bool false)]),[]))
 (cnd ((iv (tg x13 0) 0) != 1)
 (cnd ((iv (tg x13 0) 0) != 2)
 (some ((.tuple [(.agg [(.str []),(.slice [] [] false),(.str []),(i6 0),(i6 0),(.slice [] [] false)]),(.bool false)]),[]))
 (bnd (O 179 [(zs (tg x13 0) 3),(.func (.func 180) [] [(.ptr 1 5 0)])] [[(8,[(zn (tg x13 0) 0),(zt (tg x13 0) 1),(zs (tg x13 0) 2),(zs (tg x13 0) 3),(zs (tg x13 0) 4),(zs (tg x13 0) 5)]),(6,[(.str []),(.slice [] [] true),(.str []),(i6 0),(i6 0),(.slice [] [] true)]),(5,[(.str name)]),(3,[(zq encDef s.defs),(.str s.query),(.str s.mutation)])]]) fun x15 => cnd (chkU [[(8,[n6,.str,sf,sf,sf,sf]),(6,[.str,st',.str,n6,n6,st']),(5,[.str]),(3,[sf,.str,.str])]] x15.2) (cnd (chk n6 x15.1)
 (cnd (decide ((intV x15.1) < 0))
 (some ((.tuple [(.agg [(.str []),(.slice [] [] false),(.str []),(i6 0),(i6 0),(.slice [] [] false)]),(.bool false)]),[]))
 (bnd (ix 6 (zs (bx x15.2 0 0) 3) (i6 (intV x15.1))) fun x17 => cnd (chk (.ref shFieldDef) x17)
 (some ((.tuple [(.agg [(zt (rf x17) 0),(zs (rf x17) 1),(zt (rf x17) 2),(zn (rf x17) 3),(zn (rf x17) 4),(zs (rf x17) 5)]),(.bool true)]),[])) none)) none) none))
 (bnd (O 179 [(zs (tg x13 0) 3),(.func (.func 180) [] [(.ptr 1 5 0)])] [[(8,[(zn (tg x13 0) 0),(zt (tg x13 0) 1),(zs (tg x13 0) 2),(zs (tg x13 0) 3),(zs (tg x13 0) 4),(zs (tg x13 0) 5)]),(6,[(.str []),(.slice [] [] true),(.str []),(i6 0),(i6 0),(.slice [] [] true)]),(5,[(.str name)]),(3,[(zq encDef s.defs),(.str s.query),(.str s.mutation)])]]) fun x19 => cnd (chkU [[(8,[n6,.str,sf,sf,sf,sf]),(6,[.str,st',.str,n6,n6,st']),(5,[.str]),(3,[sf,.str,.str])]] x19.2) (cnd (chk n6 x19.1)
 (cnd (decide ((intV x19.1) < 0))
 (some ((.tuple [(.agg [(.str []),(.slice [] [] false),(.str []),(i6 0),(i6 0),(.slice [] [] false)]),(.bool false)]),[]))
 (bnd (ix 6 (zs (bx x19.2 0 0) 3) (i6 (intV x19.1))) fun x21 => cnd (chk (.ref shFieldDef) x21)
 (some ((.tuple [(.agg [(zt (rf x21) 0),(zs (rf x21) 1),(zt (rf x21) 2),(zn (rf x21) 3),(zn (rf x21) 4),(zs (rf x21) 5)]),(.bool true)]),[])) none)) none) none))) none)
noncomputable def de_Field_B (s : GSchema) (typ : Str) (name : Str) : Option (GFieldDef × Bool) :=
 cnd (name == ([95,95,116,121,112,101,110,97,109,101] : Str))
 (bnd (de_Composite s typ) fun y2 =>
 cnd y2
 (some ((GFieldDef.mk [95,95,116,121,112,101,110,97,109,101] ([] : List GParam) (GType.mk [83,116,114,105,110,103] 0 1) ([] : List GDir)),true))
 (bnd (de_Find s typ) fun y4 =>
 cnd (!y4.2)
 (some ((GFieldDef.mk [] ([] : List GParam) (GType.mk [] 0 0) ([] : List GDir)),false))
 (cnd (y4.1.kind != 1)
 (cnd (y4.1.kind != 2)
 (some ((GFieldDef.mk [] ([] : List GParam) (GType.mk [] 0 0) ([] : List GDir)),false))
 (bnd (sx_FieldDef y4.1.fields y4.1 [] [] 0 0 name s) fun y6 =>
 cnd (decide (y6 < 0))
 (some ((GFieldDef.mk [] ([] : List GParam) (GType.mk [] 0 0) ([] : List GDir)),false))
 (bnd (nthI y4.1.fields y6) fun y8 =>
 some (y8,true))))
 (bnd (sx_FieldDef y4.1.fields y4.1 [] [] 0 0 name s) fun y10 =>
 cnd (decide (y10 < 0))
 (some ((GFieldDef.mk [] ([] : List GParam) (GType.mk [] 0 0) ([] : List GDir)),false))
 (bnd (nthI y4.1.fields y10) fun y12 =>
 some (y12,true))))))
 (bnd (de_Find s typ) fun y14 =>
 cnd (!y14.2)
 (some ((GFieldDef.mk [] ([] : List GParam) (GType.mk [] 0 0) ([] : List GDir)),false))
 (cnd (y14.1.kind != 1)
 (cnd (y14.1.kind != 2)
 (some ((GFieldDef.mk [] ([] : List GParam) (GType.mk [] 0 0) ([] : List GDir)),false))
 (bnd (sx_FieldDef y14.1.fields y14.1 [] [] 0 0 name s) fun y16 =>
 cnd (decide (y16 < 0))
 (some ((GFieldDef.mk [] ([] : List GParam) (GType.mk [] 0 0) ([] : List GDir)),false))
 (bnd (nthI y14.1.fields y16) fun y18 =>
 some (y18,true))))
 (bnd (sx_FieldDef y14.1.fields y14.1 [] [] 0 0 name s) fun y20 =>
 cnd (decide (y20 < 0))
 (some ((GFieldDef.mk [] ([] : List GParam) (GType.mk [] 0 0) ([] : List GDir)),false))
 (bnd (nthI y14.1.fields y20) fun y22 =>
 some (y22,true)))))
def de_Field_ds : Decs := { decs := [(16,.bool),(23,(.tup [shDef,.bool])),(42,n6),(49,(.ref shFieldDef))],ups := [(42,[[(8,[n6,.str,sf,sf,sf,sf]),(6,[.str,st',.str,n6,n6,st']),(5,[.str]),(3,[sf,.str,.str])]])] }
theorem de_Field_t1 (O : Orc) (LP : LBs) (s : GSchema) (typ : Str) (name : Str) : eW 109 de_Field_ds Tryz.f109 O LP [(eS s),(.str typ),(.str name)] [] = de_Field_T1 O LP s typ name := by kernel_rfl
theorem de_Field_imp (s : GSchema) (typ : Str) (name : Str) : Imp (de_Field_B s typ name) (de_Field_T1 O loopLim s typ name) (Ri de_FieldE) := by
 simp only [de_Field_B,de_Field_T1,zd,zr]
 try simp only [evs,tys]
 apply Imp.cnd
 ·refine zC rfl fun y2 _ => ?_
  try simp only [zes,evs,tys]
  apply Imp.cnd
  ·exact zR
  ·refine zC rfl fun y4 _ => ?_
   try simp only [zes,evs,tys]
   apply Imp.cnd
   ·exact zR
   ·apply Imp.cnd
    ·apply Imp.cnd
     ·exact zR
     ·refine Imp.gcall (f := r9_CheckE) (fu := fun a => sx_FieldDefU y4.1.fields y4.1 [] [] 0 0 name s a) (fun a h => by first | exact tO_spec h | (have h' := tO_spec h; simp only [evs,tys,evl,sx_FieldDefU] at h'; exact h')) zK (fun a => by first | rfl | (simp only [sx_FieldDefU,evs,tys]; first | rfl | (cases w <;> rfl))) fun y6 hy6 => ?_
      try simp only [r9_CheckE,sx_FieldDefU,evs,tys]
      apply Imp.cnd
      ·exact zR
      ·refine zX encFieldDef chk_GFieldDef fun y8 _ => ?_
       try simp only [evs,tys]
       exact zR
    ·refine Imp.gcall (f := r9_CheckE) (fu := fun a => sx_FieldDefU y4.1.fields y4.1 [] [] 0 0 name s a) (fun a h => by first | exact tO_spec h | (have h' := tO_spec h; simp only [evs,tys,evl,sx_FieldDefU] at h'; exact h')) zK (fun a => by first | rfl | (simp only [sx_FieldDefU,evs,tys]; first | rfl | (cases w <;> rfl))) fun y10 hy10 => ?_
     try simp only [r9_CheckE,sx_FieldDefU,evs,tys]
     apply Imp.cnd
     ·exact zR
     ·refine zX encFieldDef chk_GFieldDef fun y12 _ => ?_
      try simp only [evs,tys]
      exact zR
 ·refine zC rfl fun y14 _ => ?_
  try simp only [zes,evs,tys]
  apply Imp.cnd
  ·exact zR
  ·apply Imp.cnd
   ·apply Imp.cnd
    ·exact zR
    ·refine Imp.gcall (f := r9_CheckE) (fu := fun a => sx_FieldDefU y14.1.fields y14.1 [] [] 0 0 name s a) (fun a h => by first | exact tO_spec h | (have h' := tO_spec h; simp only [evs,tys,evl,sx_FieldDefU] at h'; exact h')) zK (fun a => by first | rfl | (simp only [sx_FieldDefU,evs,tys]; first | rfl | (cases w <;> rfl))) fun y16 hy16 => ?_
     try simp only [r9_CheckE,sx_FieldDefU,evs,tys]
     apply Imp.cnd
     ·exact zR
     ·refine zX encFieldDef chk_GFieldDef fun y18 _ => ?_
      try simp only [evs,tys]
      exact zR
   ·refine Imp.gcall (f := r9_CheckE) (fu := fun a => sx_FieldDefU y14.1.fields y14.1 [] [] 0 0 name s a) (fun a h => by first | exact tO_spec h | (have h' := tO_spec h; simp only [evs,tys,evl,sx_FieldDefU] at h'; exact h')) zK (fun a => by first | rfl | (simp only [sx_FieldDefU,evs,tys]; first | rfl | (cases w <;> rfl))) fun y20 hy20 => ?_
    try simp only [r9_CheckE,sx_FieldDefU,evs,tys]
    apply Imp.cnd
    ·exact zR
    ·refine zX encFieldDef chk_GFieldDef fun y22 _ => ?_
     try simp only [evs,tys]
     exact zR
theorem de_Field_run {s : GSchema} {typ : Str} {name : Str} {r : GFieldDef × Bool} (h : de_Field_B s typ name = some r) : de_Field s typ name = some r := zV de_FieldEj (de_Field_imp s typ name) Tryz.func109 (de_Field_t1 _ _ s typ name) h
abbrev ar_Known_i1_l1F : List Sh := [sf,.bool,sf,n6,n6]
def ar_Known_i1_l1 (O : Orc) (LP : LBs) : LBody := fun s1 s1u => cnd (chkL ar_Known_i1_l1F s1) (cnd (chkU [] s1u)
 (cnd (decide ((iv s1 4) < (iv s1 3)))
 (bnd (ix 6 (zs s1 2) (zn s1 4)) fun x7 => cnd (chk (.ref shMember) x7)
 (callp O 107 [(zs s1 0),(zt (rf x7) 0)] fun x9 => cnd (chk (.tup [shParam,.bool]) x9)
 (cnd (!(boolV (tv x9 1)))
 (some (.ret,(pu (rb ar_Known_i1_l1F s1) 1 (.bool false)),[]))
 (some (.nrm,(pu (rb ar_Known_i1_l1F s1) 4 (i6 (w6 ((iv s1 4) + 1)))),[]))) none) none)
 (some (.brk 0,(rb ar_Known_i1_l1F s1),[]))) none) none
def ar_Known_i1_T1 (O : Orc) (LP : LBs) (params : List GParam) (l0 : List GMember) : Option (PV × UP) :=
 bnd (LP (ar_Known_i1_l1 O LP) [(zq encParam params),(.bool false),(zq encMember l0),(i6 (List.length (List.map encMember l0) : Int)),(i6 0)] []) fun y13 =>
 exIs y13.1 (some 0) (cnd (chkL ar_Known_i1_l1F y13.2.1) (cnd (chkU [] y13.2.2)
 (some ((.bool true),[])) none) none)
 (exIs y13.1 none (cnd (chkL ar_Known_i1_l1F y13.2.1) (cnd (chkU [] y13.2.2)
 (some ((zb y13.2.1 1),[])) none) none)
 (none))
noncomputable def ar_Known_i1_l1T (params : List GParam) (l0 : List GMember) : Int → Option (Int ⊕ (Unit ⊕ Unit))
 | t_6 =>
 cnd (decide (t_6 < (List.length l0 : Int)))
  (bnd (nthI l0 t_6) fun y8 =>
  bnd (li_Param params y8.name) fun y10 =>
  cnd (!y10.2)
  (some (.inr (.inr ())))
  (some (.inl (IntKind.wrap .i64 (t_6 + 1)))))
  (some (.inr (.inl ())))
abbrev ar_Known_i1_l1P (params : List GParam) (l0 : List GMember) (a0 : PV) : List PV := [(zq encParam params),(.bool false),(zq encMember l0),(i6 (List.length l0 : Int)),a0]
abbrev ar_Known_i1_l1R (params : List GParam) (l0 : List GMember) (st : Int) (l : List PV) (u : UP) : Prop := l = (ar_Known_i1_l1P params l0 (i6 st)) ∧ u = []
abbrev ar_Known_i1_l1X (params : List GParam) (l0 : List GMember) (p : Unit ⊕ Unit) (r : EU) : Prop := elim p (fun (p : Unit) => ∃ (t_11 : Int),r = (Ex.brk 0,(ar_Known_i1_l1P params l0 (i6 t_11)),[])) (fun (p : Unit) => ∃ (t_12 : Int),r = (Ex.ret,(ar_Known_i1_l1P params l0 (i6 t_12)),[]))
noncomputable def ar_Known_i1_B (params : List GParam) (l0 : List GMember) : Option Bool :=
 bnd (tloop (ar_Known_i1_l1T params l0) 0) fun e13_2 => elim e13_2
 (fun p13 =>
 some true)
 (fun p13 =>
 some false)
def ar_Known_i1_ds : Decs := { decs := [(13,(.ref shMember)),(19,(.tup [shParam,.bool]))],loops := [(2,[],⟨ar_Known_i1_l1F,[],[(some 0,ar_Known_i1_l1F,[]),(none,ar_Known_i1_l1F,[])]⟩)] }
theorem ar_Known_i1_t1 (O : Orc) (LP : LBs) (params : List GParam) (l0 : List GMember) : eW 46 ar_Known_i1_ds Tryz.f46 O LP [(zq encParam params),(zq encMember l0)] [] = ar_Known_i1_T1 O LP params l0 := by kernel_rfl
theorem ar_Known_i1_l1_ok (params : List GParam) (l0 : List GMember) : Lok (ar_Known_i1_l1R params l0) (ar_Known_i1_l1T params l0) (ar_Known_i1_l1 O loopLim) (ar_Known_i1_l1X params l0) := by
 rintro t_6 l u ⟨rfl,rfl⟩
 simp only [ar_Known_i1_l1T,ar_Known_i1_l1,zd,zr]
 refine zG ?_
 try simp only [evs,tys]
 apply Imp.cnd
 ·refine zX encMember chk_GMember fun y8 _ => ?_
  try simp only [evs,tys]
  refine zC rfl fun y10 _ => ?_
  try simp only [zes,evs,tys]
  apply Imp.cnd
  ·exact zT ⟨t_6,zE⟩
  ·exact zN
 ·exact zB ⟨t_6,zE⟩
theorem ar_Known_i1_imp (params : List GParam) (l0 : List GMember) : Imp (ar_Known_i1_B params l0) (ar_Known_i1_T1 O loopLim params l0) (Ri s6_ArgsRulesE) := by
 simp only [ar_Known_i1_B,ar_Known_i1_T1,zd,zr]
 try simp only [evs,tys]
 refine zL (ar_Known_i1_l1_ok params l0) ?_
 rintro (p | p) vy13 hy13
 ·try simp only [elim_inl,elim_inr]
  obtain ⟨t_11,rfl⟩ := hy13
  refine zH ?_
  try simp only [evs,tys]
  exact zR
 ·try simp only [elim_inl,elim_inr]
  obtain ⟨t_12,rfl⟩ := hy13
  refine Imp.exMiss rfl ?_
  refine zH ?_
  try simp only [evs,tys]
  exact zR
theorem ar_Known_i1_run {params : List GParam} {l0 : List GMember} {r : Bool} (h : ar_Known_i1_B params l0 = some r) : ar_Known_i1 params l0 = some r := zV s6_ArgsRulesEj (ar_Known_i1_imp params l0) Tryz.func46 (ar_Known_i1_t1 _ _ params l0) h
def ar_Params_T1 (O : Orc) (LP : LBs) (d : GDir) : Option (PV × UP) :=
 callp O 34 [(.str d.name)] fun x1 => cnd (chk (.tup [shParam,.bool]) x1)
 (cnd (!(boolV (tv x1 1)))
 (some ((.slice [] [] false),[]))
 (some ((.slice [(.agg [(zt (tg x1 0) 0),(zt (tg x1 0) 1),(zn (tg x1 0) 2),(zn (tg x1 0) 3),(zb (tg x1 0) 4),(zn (tg x1 0) 5),(zn (tg x1 0) 6),(zt (tg x1 0) 7),(zs (tg x1 0) 8),(zs (tg x1 0) 9)])] [] false),[]))) none
noncomputable def ar_Params_B (d : GDir) : Option (List GParam) :=
 bnd (dirs_Param d.name) fun y2 =>
 cnd (!y2.2)
 (some ([] : List GParam))
 (some [y2.1])
def ar_Params_ds : Decs := { decs := [(8,(.tup [shParam,.bool]))] }
theorem ar_Params_t1 (O : Orc) (LP : LBs) (d : GDir) : eW 110 ar_Params_ds Tryz.f110 O LP [(eR d)] [] = ar_Params_T1 O LP d := by kernel_rfl
theorem ar_Params_imp (d : GDir) : Imp (ar_Params_B d) (ar_Params_T1 O loopLim d) (Ri r3_paramsE) := by
 simp only [ar_Params_B,ar_Params_T1,zd,zr]
 try simp only [evs,tys]
 refine zC rfl fun y2 _ => ?_
 try simp only [zes,evs,tys]
 apply Imp.cnd
 ·exact zR
 ·exact zR
theorem ar_Params_run {d : GDir} {r : List GParam} (h : ar_Params_B d = some r) : ar_Params d = some r := zV r3_paramsEj (ar_Params_imp d) Tryz.func110 (ar_Params_t1 _ _ d) h
def fi_Within_T1 (O : Orc) (LP : LBs) (s : GSchema) (typ : Str) (x : GSel) : Option (PV × UP) :=
 cnd (x.kind == 0)
 (callp O 109 [(eS s),(.str typ),(.str x.name)] fun x1 => cnd (chk (.tup [shFieldDef,.bool]) x1)
 (some ((zt (tg x1 0) 2),[])) none)
 (cnd (x.kind == 2)
 (cnd (!(x.on_ == ([] : Str)))
 (some ((.str x.on_),[]))
 (cnd (x.kind == 2)
 (some ((.str typ),[]))
 (some ((.str []),[]))))
 (cnd (x.kind == 2)
 (some ((.str typ),[]))
 (some ((.str []),[]))))
noncomputable def fi_Within_B (s : GSchema) (typ : Str) (x : GSel) : Option Str :=
 cnd (x.kind == 0)
 (bnd (de_Field s typ x.name) fun y2 =>
 some y2.1.t.name)
 (cnd (x.kind == 2)
 (cnd (!(x.on_ == ([] : Str)))
 (some x.on_)
 (cnd (x.kind == 2)
 (some typ)
 (some [])))
 (cnd (x.kind == 2)
 (some typ)
 (some [])))
def fi_Within_ds : Decs := { decs := [(18,(.tup [shFieldDef,.bool]))] }
theorem fi_Within_t1 (O : Orc) (LP : LBs) (s : GSchema) (typ : Str) (x : GSel) : eW 138 fi_Within_ds Tryz.f138 O LP [(eS s),(.str typ),(eL x)] [] = fi_Within_T1 O LP s typ x := by kernel_rfl
theorem fi_Within_imp (s : GSchema) (typ : Str) (x : GSel) : Imp (fi_Within_B s typ x) (fi_Within_T1 O loopLim s typ x) (Ri fi_RootE) := by
 simp only [fi_Within_B,fi_Within_T1,zd,zr]
 try simp only [evs,tys]
 apply Imp.cnd
 ·refine zC rfl fun y2 _ => ?_
  try simp only [zes,evs,tys]
  exact zR
 ·apply Imp.cnd
  ·apply Imp.cnd
   ·exact zR
   ·apply Imp.cnd
    ·exact zR
    ·exact zR
  ·apply Imp.cnd
   ·exact zR
   ·exact zR
theorem fi_Within_run {s : GSchema} {typ : Str} {x : GSel} {r : Str} (h : fi_Within_B s typ x = some r) : fi_Within s typ x = some r := zV fi_RootEj (fi_Within_imp s typ x) Tryz.func138 (fi_Within_t1 _ _ s typ x) h
def ar_once_T1 (O : Orc) (LP : LBs) (a : List GParam) (l0 : List GMember) : Option (PV × UP) :=
 callp O 45 [(zq encMember l0)] fun x1 => cnd (chk .bool x1)
 (some ((.bool (boolV x1)),[])) none
noncomputable def ar_once_B (a : List GParam) (l0 : List GMember) : Option Bool :=
 bnd (ar_Once_i1 l0) fun y2 =>
 some y2
def ar_once_ds : Decs := { decs := [(6,.bool)] }
theorem ar_once_t1 (O : Orc) (LP : LBs) (a : List GParam) (l0 : List GMember) : eW 48 ar_once_ds Tryz.f48 O LP [(zq encParam a),(zq encMember l0)] [] = ar_once_T1 O LP a l0 := by kernel_rfl
theorem ar_once_imp (a : List GParam) (l0 : List GMember) : Imp (ar_once_B a l0) (ar_once_T1 O loopLim a l0) (Ri s6_ArgsRulesE) := by
 simp only [ar_once_B,ar_once_T1,zd,zr]
 try simp only [evs,tys]
 refine zC rfl fun y2 _ => ?_
 try simp only [zes,evs,tys]
 exact zR
theorem ar_once_run {a : List GParam} {l0 : List GMember} {r : Bool} (h : ar_once_B a l0 = some r) : ar_once a l0 = some r := zV s6_ArgsRulesEj (ar_once_imp a l0) Tryz.func48 (ar_once_t1 _ _ a l0) h
abbrev ar_Needed_l1F : List Sh := [sf,.bool,sf,n6,n6]
def ar_Needed_l1 (O : Orc) (LP : LBs) : LBody := fun s1 s1u => cnd (chkL ar_Needed_l1F s1) (cnd (chkU [] s1u)
 (cnd (decide ((iv s1 4) < (iv s1 3)))
 (bnd (ix 10 (zs s1 2) (zn s1 4)) fun x9 => cnd (chk (.ref shParam) x9)
 (callp O 106 [(zt (rf x9) 0),(zs s1 0)] fun x11 => cnd (chk (.tup [shValue,.bool]) x11)
 (cnd (boolV (tv x11 1))
 (some (.nrm,(pu (rb ar_Needed_l1F s1) 4 (i6 (w6 ((iv s1 4) + 1)))),[]))
 (callp O 111 [(.agg [(zt (rf x9) 0),(zt (rf x9) 1),(zn (rf x9) 2),(zn (rf x9) 3),(zb (rf x9) 4),(zn (rf x9) 5),(zn (rf x9) 6),(zt (rf x9) 7),(zs (rf x9) 8),(zs (rf x9) 9)])] fun x13 => cnd (chk .bool x13)
 (cnd (!(boolV x13))
 (some (.nrm,(pu (rb ar_Needed_l1F s1) 4 (i6 (w6 ((iv s1 4) + 1)))),[]))
 (some (.ret,(pu (rb ar_Needed_l1F s1) 1 (.bool false)),[]))) none)) none) none)
 (some (.brk 0,(rb ar_Needed_l1F s1),[]))) none) none
def ar_Needed_T1 (O : Orc) (LP : LBs) (params : List GParam) (l0 : List GMember) : Option (PV × UP) :=
 bnd (LP (ar_Needed_l1 O LP) [(zq encMember l0),(.bool false),(zq encParam params),(i6 (List.length (List.map encParam params) : Int)),(i6 0)] []) fun y17 =>
 exIs y17.1 (some 0) (cnd (chkL ar_Needed_l1F y17.2.1) (cnd (chkU [] y17.2.2)
 (some ((.bool true),[])) none) none)
 (exIs y17.1 none (cnd (chkL ar_Needed_l1F y17.2.1) (cnd (chkU [] y17.2.2)
 (some ((zb y17.2.1 1),[])) none) none)
 (none))
noncomputable def ar_Needed_l1T (params : List GParam) (l0 : List GMember) : Int → Option (Int ⊕ (Unit ⊕ Unit))
 | t_8 =>
 cnd (decide (t_8 < (List.length params : Int)))
  (bnd (nthI params t_8) fun y10 =>
  bnd (value_Get y10.name l0) fun y12 =>
  cnd y12.2
  (some (.inl (IntKind.wrap .i64 (t_8 + 1))))
  (bnd (li_Required y10) fun y14 =>
  cnd (!y14)
   (some (.inl (IntKind.wrap .i64 (t_8 + 1))))
   (some (.inr (.inr ())))))
  (some (.inr (.inl ())))
abbrev ar_Needed_l1P (params : List GParam) (l0 : List GMember) (a0 : PV) : List PV := [(zq encMember l0),(.bool false),(zq encParam params),(i6 (List.length params : Int)),a0]
abbrev ar_Needed_l1R (params : List GParam) (l0 : List GMember) (st : Int) (l : List PV) (u : UP) : Prop := l = (ar_Needed_l1P params l0 (i6 st)) ∧ u = []
abbrev ar_Needed_l1X (params : List GParam) (l0 : List GMember) (p : Unit ⊕ Unit) (r : EU) : Prop := elim p (fun (p : Unit) => ∃ (t_15 : Int),r = (Ex.brk 0,(ar_Needed_l1P params l0 (i6 t_15)),[])) (fun (p : Unit) => ∃ (t_16 : Int),r = (Ex.ret,(ar_Needed_l1P params l0 (i6 t_16)),[]))
noncomputable def ar_Needed_B (params : List GParam) (l0 : List GMember) : Option Bool :=
 bnd (tloop (ar_Needed_l1T params l0) 0) fun e17_2 => elim e17_2
 (fun p17 =>
 some true)
 (fun p17 =>
 some false)
def ar_Needed_ds : Decs := { decs := [(13,(.ref shParam)),(19,(.tup [shValue,.bool])),(25,.bool)],loops := [(2,[],⟨ar_Needed_l1F,[],[(some 0,ar_Needed_l1F,[]),(none,ar_Needed_l1F,[])]⟩)] }
theorem ar_Needed_t1 (O : Orc) (LP : LBs) (params : List GParam) (l0 : List GMember) : eW 49 ar_Needed_ds Tryz.f49 O LP [(zq encParam params),(zq encMember l0)] [] = ar_Needed_T1 O LP params l0 := by kernel_rfl
theorem ar_Needed_l1_ok (params : List GParam) (l0 : List GMember) : Lok (ar_Needed_l1R params l0) (ar_Needed_l1T params l0) (ar_Needed_l1 O loopLim) (ar_Needed_l1X params l0) := by
 rintro t_8 l u ⟨rfl,rfl⟩
 simp only [ar_Needed_l1T,ar_Needed_l1,zd,zr]
 refine zG ?_
 try simp only [evs,tys]
 apply Imp.cnd
 ·refine zX encParam chk_GParam fun y10 _ => ?_
  try simp only [evs,tys]
  refine zC rfl fun y12 _ => ?_
  try simp only [zes,evs,tys]
  apply Imp.cnd
  ·exact zN
  ·refine zC rfl fun y14 _ => ?_
   try simp only [zes,evs,tys]
   apply Imp.cnd
   ·exact zN
   ·exact zT ⟨t_8,zE⟩
 ·exact zB ⟨t_8,zE⟩
theorem ar_Needed_imp (params : List GParam) (l0 : List GMember) : Imp (ar_Needed_B params l0) (ar_Needed_T1 O loopLim params l0) (Ri s6_ArgsRulesE) := by
 simp only [ar_Needed_B,ar_Needed_T1,zd,zr]
 try simp only [evs,tys]
 refine zL (ar_Needed_l1_ok params l0) ?_
 rintro (p | p) vy17 hy17
 ·try simp only [elim_inl,elim_inr]
  obtain ⟨t_15,rfl⟩ := hy17
  refine zH ?_
  try simp only [evs,tys]
  exact zR
 ·try simp only [elim_inl,elim_inr]
  obtain ⟨t_16,rfl⟩ := hy17
  refine Imp.exMiss rfl ?_
  refine zH ?_
  try simp only [evs,tys]
  exact zR
theorem ar_Needed_run {params : List GParam} {l0 : List GMember} {r : Bool} (h : ar_Needed_B params l0 = some r) : ar_Needed params l0 = some r := zV s6_ArgsRulesEj (ar_Needed_imp params l0) Tryz.func49 (ar_Needed_t1 _ _ params l0) h
def r3_Root_T1 (O : Orc) (LP : LBs) (s : GSchema) (o : GOp) : Option (PV × UP) :=
 cnd (o.kind == 1)
 (some ((.str s.mutation),[]))
 (some ((.str s.query),[]))
noncomputable def r3_Root_B (s : GSchema) (o : GOp) : Option Str :=
 cnd (o.kind == 1)
 (some s.mutation)
 (some s.query)
def r3_Root_ds : Decs := { }
theorem r3_Root_t1 (O : Orc) (LP : LBs) (s : GSchema) (o : GOp) : eW 116 r3_Root_ds Tryz.f116 O LP [(eS s),(.agg [(i6 o.kind),(.str o.name),(zq encVarDef o.vars),(zq encDir o.dirs),(zq encSel o.sels)])] [] = r3_Root_T1 O LP s o := by kernel_rfl
theorem r3_Root_imp (s : GSchema) (o : GOp) : Imp (r3_Root_B s o) (r3_Root_T1 O loopLim s o) (Ri fi_RootE) := by
 simp only [r3_Root_B,r3_Root_T1,zd,zr]
 try simp only [evs,tys]
 apply Imp.cnd
 ·exact zR
 ·exact zR
theorem r3_Root_run {s : GSchema} {o : GOp} {r : Str} (h : r3_Root_B s o = some r) : r3_Root s o = some r := zV fi_RootEj (r3_Root_imp s o) Tryz.func116 (r3_Root_t1 _ _ s o) h
abbrev r3_spots_l1F : List Sh := [.str,sf,st',(.ptr 0 4 0),n6,sf,.str,.str]
def r3_spots_l1 (O : Orc) (LP : LBs) : LBody := fun s1 s1u => cnd (chkL r3_spots_l1F s1) (cnd (chkU [] s1u)
 (cnd (decide ((iv s1 4) < (List.length (ev s1 1) : Int)))
 (bnd (ix 7 (zs s1 1) (zn s1 4)) fun x16 => cnd (chk (.ref shSel) x16)
 (bnd (apd 8 (zo s1 2) (.slice [(.agg [(zt s1 0),(zn (rf x16) 0),(zt (rf x16) 1),(zt (rf x16) 2),(zs (rf x16) 3),(zs (rf x16) 4),(zt (rf x16) 5),(zs (rf x16) 6)])] [] true)) fun x18 => cnd (chk st' x18)
 (bnd (ix 7 (zs s1 1) (zn s1 4)) fun x20 => cnd (chk (.ref shSel) x20)
 (callp O 184 [(.agg [(zs s1 5),(zt s1 6),(zt s1 7)]),(zt s1 0),(.agg [(zn (rf x20) 0),(zt (rf x20) 1),(zt (rf x20) 2),(zs (rf x20) 3),(zs (rf x20) 4),(zt (rf x20) 5),(zs (rf x20) 6)])] fun x22 => cnd (chk .str x22)
 (bnd (ix 7 (zs s1 1) (zn s1 4)) fun x24 => cnd (chk (.ref shSel) x24)
 (callp O 115 [(.agg [(zs s1 5),(zt s1 6),(zt s1 7)]),(.str (strV x22)),(zs (rf x24) 6),(.slice (esV x18) [] true)] fun x26 => cnd (chk st' x26)
 (some (.nrm,(pu (pu (rb r3_spots_l1F s1) 2 (.slice (esV x26) [] true)) 4 (i6 (w6 ((iv s1 4) + 1)))),[])) none) none) none) none) none) none)
 (some (.brk 0,(rb r3_spots_l1F s1),[]))) none) none
def r3_spots_T1 (O : Orc) (LP : LBs) (s : GSchema) (typ : Str) (l0 : List GSel) (out0 : List GSeineref13Spot) : Option (PV × UP) :=
 bnd (LP (r3_spots_l1 O LP) [(.str typ),(zq encSel l0),(zp encSeineref13Spot out0),(.ptr 0 4 0),(i6 0),(zq encDef s.defs),(.str s.query),(.str s.mutation)] []) fun y30 =>
 exIs y30.1 (some 0) (cnd (chkL r3_spots_l1F y30.2.1) (cnd (chkU [] y30.2.2)
 (some ((zo y30.2.1 2),[])) none) none)
 (none)
noncomputable def r3_spots_l1T (s : GSchema) (typ : Str) (l0 : List GSel) : ((List GSeineref13Spot) × Int) → Option (((List GSeineref13Spot) × Int) ⊕ ((List GSeineref13Spot)))
 | (out_14,i_15) =>
 cnd (decide (i_15 < (List.length l0 : Int)))
  (bnd (nthI l0 i_15) fun y17 =>
  bnd (tapp out_14 [(GSeineref13Spot.mk typ y17)]) fun y19 =>
  bnd (nthI l0 i_15) fun y21 =>
  bnd (r3_Within s typ y21) fun y23 =>
  bnd (nthI l0 i_15) fun y25 =>
  bnd (r3_spots s y23 y25.sels y19) fun y27 =>
  some (.inl (y27,(IntKind.wrap .i64 (i_15 + 1)))))
  (some (.inr out_14))
abbrev r3_spots_l1R (s : GSchema) (typ : Str) (l0 : List GSel) (st : (List GSeineref13Spot) × Int) (l : List PV) (u : UP) : Prop := l = [(.str typ),(zq encSel l0),(zp encSeineref13Spot st.1),(.ptr 0 4 0),(i6 st.2),(zq encDef s.defs),(.str s.query),(.str s.mutation)] ∧ u = []
abbrev r3_spots_l1X (s : GSchema) (typ : Str) (l0 : List GSel) (p : (List GSeineref13Spot)) (r : EU) : Prop := (fun (p : (List GSeineref13Spot)) => ∃ (i_29 : Int),r = (Ex.brk 0,[(.str typ),(zq encSel l0),(zp encSeineref13Spot p),(.ptr 0 4 0),(i6 i_29),(zq encDef s.defs),(.str s.query),(.str s.mutation)],[])) p
noncomputable def r3_spots_B (s : GSchema) (typ : Str) (l0 : List GSel) (out0 : List GSeineref13Spot) : Option (List GSeineref13Spot) :=
 bnd (tloop (r3_spots_l1T s typ l0) (out0,0)) fun out_28 =>
 some out_28
def r3_spots_ds : Decs := { decs := [(20,(.ref shSel)),(24,st'),(30,(.ref shSel)),(32,.str),(35,(.ref shSel)),(39,st')],loops := [(2,[(4,3)],⟨r3_spots_l1F,[],[(some 0,r3_spots_l1F,[])]⟩)] }
theorem r3_spots_t1 (O : Orc) (LP : LBs) (s : GSchema) (typ : Str) (l0 : List GSel) (out0 : List GSeineref13Spot) : eW 115 r3_spots_ds Tryz.f115 O LP [(eS s),(.str typ),(zq encSel l0),(zp encSeineref13Spot out0)] [] = r3_spots_T1 O LP s typ l0 out0 := by kernel_rfl
theorem r3_spots_l1_ok (s : GSchema) (typ : Str) (l0 : List GSel) : Lok (r3_spots_l1R s typ l0) (r3_spots_l1T s typ l0) (r3_spots_l1 O loopLim) (r3_spots_l1X s typ l0) := by
 rintro ⟨out_14,i_15⟩ l u ⟨rfl,rfl⟩
 simp only [r3_spots_l1T,r3_spots_l1,zd,zr]
 refine zG ?_
 try simp only [evs,tys]
 apply Imp.cnd
 ·refine zX encSel chk_GSel fun y17 _ => ?_
  try simp only [evs,tys]
  refine Imp.op (f := fun a => .slice (List.map encSeineref13Spot a) [] true) (fun a h => op_apd (enc := encSeineref13Spot) zI zI (fun a => by first | rfl | simp only [evs,tys,evc]) h) (fun a => rfl) fun y19 hy19 => ?_
  try simp only [evs,tys]
  refine zX encSel chk_GSel fun y21 _ => ?_
  try simp only [evs,tys]
  refine zC rfl fun y23 _ => ?_
  try simp only [zes,evs,tys]
  refine zX encSel chk_GSel fun y25 _ => ?_
  try simp only [evs,tys]
  refine zC rfl fun y27 _ => ?_
  try simp only [zes,evs,tys]
  exact zN
 ·exact zB ⟨i_15,zE⟩
theorem r3_spots_imp (s : GSchema) (typ : Str) (l0 : List GSel) (out0 : List GSeineref13Spot) : Imp (r3_spots_B s typ l0 out0) (r3_spots_T1 O loopLim s typ l0 out0) (Ri r3_spotsE) := by
 simp only [r3_spots_B,r3_spots_T1,zd,zr]
 try simp only [evs,tys]
 refine zL (r3_spots_l1_ok s typ l0) ?_
 rintro out_28 _ ⟨i_29,rfl⟩
 refine zH ?_
 try simp only [evs,tys]
 exact zR
theorem r3_spots_run {s : GSchema} {typ : Str} {l0 : List GSel} {out0 : List GSeineref13Spot} {r : List GSeineref13Spot} (h : r3_spots_B s typ l0 out0 = some r) : r3_spots s typ l0 out0 = some r := zV r3_spotsEj (r3_spots_imp s typ l0 out0) Tryz.func115 (r3_spots_t1 _ _ s typ l0 out0) h
abbrev r9_Field_l1F : List Sh := [.str,(.ptr 0 6 0),.bool,(.ptr 0 8 0),n6,n6,.str,sf,sf,sf,sf,.str,st',.str,n6,n6,st',sf,.str,.str]
def r9_Field_l1 (O : Orc) (LP : LBs) : LBody := fun s5 s5u => cnd (chkL r9_Field_l1F s5) (cnd (chkU [] s5u)
 (cnd (decide ((iv s5 4) < (List.length (ev s5 8) : Int)))
 (bnd (ix 6 (zs s5 8) (zn s5 4)) fun x11 => cnd (chk (.ref shFieldDef) x11)
 (cnd ((sv (rf x11) 0) == (sv s5 0))
 (bnd (ix 6 (zs s5 8) (zn s5 4)) fun x13 => cnd (chk (.ref shFieldDef) x13)
 (some (.ret,(pu (pu (pu (pu (pu (pu (pu (rb r9_Field_l1F s5) 2 (.bool true)) 11 (zt (rf x13) 0)) 12 (zs (rf x13) 1)) 13 (zt (rf x13) 2)) 14 (zn (rf x13) 3)) 15 (zn (rf x13) 4)) 16 (zs (rf x13) 5)),[])) none)
 (some (.nrm,(pu (rb r9_Field_l1F s5) 4 (i6 (w6 ((iv s5 4) + 1)))),[]))) none)
 (some (.brk 0,(rb r9_Field_l1F s5),[]))) none) none
def r9_Field_T1 (O : Orc) (LP : LBs) (s : GSchema) (typ : Str) (name : Str) : Option (PV × UP) :=
 cnd (name == ([95,95,116,121,112,101,110,97,109,101] : Str))
 (callp O 112 [(eS s),(.str typ)] fun x1 => cnd (chk .bool x1)
 (cnd (boolV x1)
 (some ((.tuple [(.agg [(.str name),(.slice [] [] false),(.str [83,116,114,105,110,103]),(i6 0),(i6 1),(.slice [] [] false)]),(.bool true)]),[]))
 (callp O 164 [(eS s),(.str typ)] fun x3 => cnd (chk (.tup [shDef,.bool]) x3)
 (cnd ((iv (tg x3 0) 0) != 1)
 (cnd ((iv (tg x3 0) 0) != 2)
 (some ((.tuple [(.agg [(.str []),(.slice [] [] false),(.str []),(i6 0),(i6 0),(.slice [] [] false)]),(.bool false)]),[]))
 (bnd (LP (r9_Field_l1 O LP) [(.str name),(.ptr 0 6 0),(.bool false),(.ptr 0 8 0),(i6 0),(zn (tg x3 0) 0),(zt (tg x3 0) 1),(zs (tg x3 0) 2),(zs (tg x3 0) 3),(zs (tg x3 0) 4),(zs (tg x3 0) 5),(.str []),(.slice [] [] true),(.str []),(i6 0),(i6 0),(.slice [] [] true),(zq encDef s.defs),(.str s.query),(.str s.mutation)] []) fun y23 =>
 exIs y23.1 (some 0) (cnd (chkL r9_Field_l1F y23.2.1) (cnd (chkU [] y23.2.2)
 (some ((.tuple [(.agg [(.str []),(.slice [] [] false),(.str []),(i6 0),(i6 0),(.slice [] [] false)]),(.bool false)]),[])) none) none)
 (exIs y23.1 none (cnd (chkL [.str,(.ptr 0 6 0),.bool,(.ptr 0 8 0),n6,n6,.str,sf,sf,sf,sf,.str,sf,.str,n6,n6,sf,sf,.str,.str] y23.2.1) (cnd (chkU [] y23.2.2)
 (some ((.tuple [(.agg [(zt y23.2.1 11),(zs y23.2.1 12),(zt y23.2.1 13),(zn y23.2.1 14),(zn y23.2.1 15),(zs y23.2.1 16)]),(zb y23.2.1 2)]),[])) none) none)
 (none))))
 (bnd (LP (r9_Field_l1 O LP) [(.str name),(.ptr 0 6 0),(.bool false),(.ptr 0 8 0),(i6 0),(zn (tg x3 0) 0),(zt (tg x3 0) 1),(zs (tg x3 0) 2),(zs (tg x3 0) 3),(zs (tg x3 0) 4),(zs (tg x3 0) 5),(.str []),(.slice [] [] true),(.str []),(i6 0),(i6 0),(.slice [] [] true),(zq encDef s.defs),(.str s.query),(.str s.mutation)] []) fun y42 =>
 exIs y42.1 (some 0) (cnd (chkL r9_Field_l1F y42.2.1) (cnd (chkU [] y42.2.2)
 (some ((.tuple [(.agg [(.str []),(.slice [] [] false),(.str []),(i6 0),(i6 0),(.slice [] [] false)]),(.bool false)]),[])) none) none)
 (exIs y42.1 none (cnd (chkL [.str,(.ptr 0 6 0),.bool,(.ptr 0 8 0),n6,n6,.str,sf,sf,sf,sf,.str,sf,.str,n6,n6,sf,sf,.str,.str] y42.2.1) (cnd (chkU [] y42.2.2)
 (some ((.tuple [(.agg [(zt y42.2.1 11),(zs y42.2.1 12),(zt y42.2.1 13),(zn y42.2.1 14),(zn y42.2.1 15),(zs y42.2.1 16)]),(zb y42.2.1 2)]),[])) none) none)
 (none)))) none)) none)
 (callp O 164 [(eS s),(.str typ)] fun x43 => cnd (chk (.tup [shDef,.bool]) x43)
 (cnd ((iv (tg x43 0) 0) != 1)
 (cnd ((iv (tg x43 0) 0) != 2)
 (some ((.tuple [(.agg [(.str []),(.slice [] [] false),(.str []),(i6 0),(i6 0),(.slice [] [] false)]),(.bool false)]),[]))
 (bnd (LP (r9_Field_l1 O LP) [(.str name),(.ptr 0 6 0),(.bool false),(.ptr 0 8 0),(i6 0),(zn (tg x43 0) 0),(zt (tg x43 0) 1),(zs (tg x43 0) 2),(zs (tg x43 0) 3),(zs (tg x43 0) 4),(zs (tg x43 0) 5),(.str []),(.slice [] [] true),(.str []),(i6 0),(i6 0),(.slice [] [] true),(zq encDef s.defs),(.str s.query),(.str s.mutation)] []) fun y63 =>
 exIs y63.1 (some 0) (cnd (chkL r9_Field_l1F y63.2.1) (cnd (chkU [] y63.2.2)
 (some ((.tuple [(.agg [(.str []),(.slice [] [] false),(.str []),(i6 0),(i6 0),(.slice [] [] false)]),(.bool false)]),[])) none) none)
 (exIs y63.1 none (cnd (chkL [.str,(.ptr 0 6 0),.bool,(.ptr 0 8 0),n6,n6,.str,sf,sf,sf,sf,.str,sf,.str,n6,n6,sf,sf,.str,.str] y63.2.1) (cnd (chkU [] y63.2.2)
 (some ((.tuple [(.agg [(zt y63.2.1 11),(zs y63.2.1 12),(zt y63.2.1 13),(zn y63.2.1 14),(zn y63.2.1 15),(zs y63.2.1 16)]),(zb y63.2.1 2)]),[])) none) none)
 (none))))
 (bnd (LP (r9_Field_l1 O LP) [(.str name),(.ptr 0 6 0),(.bool false),(.ptr 0 8 0),(i6 0),(zn (tg x43 0) 0),(zt (tg x43 0) 1),(zs (tg x43 0) 2),(zs (tg x43 0) 3),(zs (tg x43 0) 4),(zs (tg x43 0) 5),(.str []),(.slice [] [] true),(.str []),(i6 0),(i6 0),(.slice [] [] true),(zq encDef s.defs),(.str s.query),(.str s.mutation)] []) fun y82 =>
 exIs y82.1 (some 0) (cnd (chkL r9_Field_l1F y82.2.1) (cnd (chkU [] y82.2.2)
 (some ((.tuple [(.agg [(.str []),(.slice [] [] false),(.str []),(i6 0),(i6 0),(.slice [] [] false)]),(.bool false)]),[])) none) none)
 (exIs y82.1 none (cnd (chkL [.str,(.ptr 0 6 0),.bool,(.ptr 0 8 0),n6,n6,.str,sf,sf,sf,sf,.str,sf,.str,n6,n6,sf,sf,.str,.str] y82.2.1) (cnd (chkU [] y82.2.2)
 (some ((.tuple [(.agg [(zt y82.2.1 11),(zs y82.2.1 12),(zt y82.2.1 13),(zn y82.2.1 14),(zn y82.2.1 15),(zs y82.2.1 16)]),(zb y82.2.1 2)]),[])) none) none)
 (none)))) none)
noncomputable def r9_Field_l1T (name : Str) (y4 : GDef × Bool) : Int → Option (Int ⊕ (Unit ⊕ (Str × (List GParam) × Str × Int × Int × (List GDir))))
 | i_10 =>
 cnd (decide (i_10 < (List.length y4.1.fields : Int)))
  (bnd (nthI y4.1.fields i_10) fun y12 =>
  cnd (y12.name == name)
  (bnd (nthI y4.1.fields i_10) fun y14 =>
  some (.inr (.inr (y14.name,y14.params,y14.t.name,y14.t.lists,y14.t.musts,y14.dirs))))
  (some (.inl (IntKind.wrap .i64 (i_10 + 1)))))
  (some (.inr (.inl ())))
abbrev r9_Field_l1P (s : GSchema) (name : Str) (y4 : GDef × Bool) (a0 a1 a2 a3 a4 a5 a6 a7 : PV) : List PV := [(.str name),(.ptr 0 6 0),a0,(.ptr 0 8 0),a1,(i6 y4.1.kind),(.str y4.1.name),(zq PV.str y4.1.faces),(zq encFieldDef y4.1.fields),(zq PV.str y4.1.parts),(zq encParam y4.1.params),a2,a3,a4,a5,a6,a7,(zq encDef s.defs),(.str s.query),(.str s.mutation)]
abbrev r9_Field_l1R (s : GSchema) (name : Str) (y4 : GDef × Bool) (st : Int) (l : List PV) (u : UP) : Prop := l = (r9_Field_l1P s name y4 (.bool false) (i6 st) (.str []) (.slice [] [] true) (.str []) (i6 0) (i6 0) (.slice [] [] true)) ∧ u = []
abbrev r9_Field_l1X (s : GSchema) (name : Str) (y4 : GDef × Bool) (p : Unit ⊕ (Str × (List GParam) × Str × Int × Int × (List GDir))) (r : EU) : Prop := elim p (fun (p : Unit) => ∃ (i_15 : Int),r = (Ex.brk 0,(r9_Field_l1P s name y4 (.bool false) (i6 i_15) (.str []) (.slice [] [] true) (.str []) (i6 0) (i6 0) (.slice [] [] true)),[])) (fun (p : Str × (List GParam) × Str × Int × Int × (List GDir)) => ∃ (i_16 : Int),r = (Ex.ret,(r9_Field_l1P s name y4 (.bool true) (i6 i_16) (.str p.1) (zq encParam p.2.1) (.str p.2.2.1) (i6 p.2.2.2.1) (i6 p.2.2.2.2.1) (zq encDir p.2.2.2.2.2)),[]))
noncomputable def r9_Field_B (s : GSchema) (typ : Str) (name : Str) : Option (GFieldDef × Bool) :=
 cnd (name == ([95,95,116,121,112,101,110,97,109,101] : Str))
 (bnd (r9_Composite s typ) fun y2 =>
 cnd y2
 (some ((GFieldDef.mk name ([] : List GParam) (GType.mk [83,116,114,105,110,103] 0 1) ([] : List GDir)),true))
 (bnd (r9_Find s typ) fun y4 =>
 cnd (y4.1.kind != 1)
 (cnd (y4.1.kind != 2)
 (some ((GFieldDef.mk [] ([] : List GParam) (GType.mk [] 0 0) ([] : List GDir)),false))
 (bnd (tloop (r9_Field_l1T name y4) 0) fun e23_2 => elim e23_2
 (fun p23 =>
 some ((GFieldDef.mk [] ([] : List GParam) (GType.mk [] 0 0) ([] : List GDir)),false))
 (fun p23 =>
 some ((GFieldDef.mk p23.1 p23.2.1 (GType.mk p23.2.2.1 p23.2.2.2.1 p23.2.2.2.2.1) p23.2.2.2.2.2),true))))
 (bnd (tloop (r9_Field_l1T name y4) 0) fun e42_2 => elim e42_2
 (fun p42 =>
 some ((GFieldDef.mk [] ([] : List GParam) (GType.mk [] 0 0) ([] : List GDir)),false))
 (fun p42 =>
 some ((GFieldDef.mk p42.1 p42.2.1 (GType.mk p42.2.2.1 p42.2.2.2.1 p42.2.2.2.2.1) p42.2.2.2.2.2),true)))))
 (bnd (r9_Find s typ) fun y44 =>
 cnd (y44.1.kind != 1)
 (cnd (y44.1.kind != 2)
 (some ((GFieldDef.mk [] ([] : List GParam) (GType.mk [] 0 0) ([] : List GDir)),false))
 (bnd (tloop (r9_Field_l1T name y44) 0) fun e63_2 => elim e63_2
 (fun p63 =>
 some ((GFieldDef.mk [] ([] : List GParam) (GType.mk [] 0 0) ([] : List GDir)),false))
 (fun p63 =>
 some ((GFieldDef.mk p63.1 p63.2.1 (GType.mk p63.2.2.1 p63.2.2.2.1 p63.2.2.2.2.1) p63.2.2.2.2.2),true))))
 (bnd (tloop (r9_Field_l1T name y44) 0) fun e82_2 => elim e82_2
 (fun p82 =>
 some ((GFieldDef.mk [] ([] : List GParam) (GType.mk [] 0 0) ([] : List GDir)),false))
 (fun p82 =>
 some ((GFieldDef.mk p82.1 p82.2.1 (GType.mk p82.2.2.1 p82.2.2.2.1 p82.2.2.2.2.1) p82.2.2.2.2.2),true))))
def r9_Field_ds : Decs := { decs := [(16,.bool),(24,(.tup [shDef,.bool])),(46,(.ref shFieldDef)),(54,(.ref shFieldDef))],loops := [(7,[(8,6),(6,6),(3,3)],⟨r9_Field_l1F,[],[(some 0,r9_Field_l1F,[]),(none,[.str,(.ptr 0 6 0),.bool,(.ptr 0 8 0),n6,n6,.str,sf,sf,sf,sf,.str,sf,.str,n6,n6,sf,sf,.str,.str],[])]⟩)] }
theorem r9_Field_t1 (O : Orc) (LP : LBs) (s : GSchema) (typ : Str) (name : Str) : eW 117 r9_Field_ds Tryz.f117 O LP [(eS s),(.str typ),(.str name)] [] = r9_Field_T1 O LP s typ name := by kernel_rfl
theorem r9_Field_l1_ok (s : GSchema) (name : Str) (y4 : GDef × Bool) : ∀ st l u,r9_Field_l1R s name y4 st l u → Imp (r9_Field_l1T name y4 st) (r9_Field_l1 O loopLim l u) (StepR (r9_Field_l1R s name y4) (r9_Field_l1X s name y4)) := by
 rintro i_10 l u ⟨rfl,rfl⟩
 simp only [r9_Field_l1T,r9_Field_l1,zd,zr]
 refine zG ?_
 try simp only [evs,tys]
 apply Imp.cnd
 ·refine zX encFieldDef chk_GFieldDef fun y12 _ => ?_
  try simp only [evs,tys]
  apply Imp.cnd
  ·refine zX encFieldDef chk_GFieldDef fun y14 _ => ?_
   try simp only [evs,tys]
   exact zT ⟨i_10,zE⟩
  ·exact zN
 ·exact zB ⟨i_10,zE⟩
theorem r9_Field_imp (s : GSchema) (typ : Str) (name : Str) : Imp (r9_Field_B s typ name) (r9_Field_T1 O loopLim s typ name) (Ri de_FieldE) := by
 simp only [r9_Field_B,r9_Field_T1,zd,zr]
 try simp only [evs,tys]
 apply Imp.cnd
 ·refine zC rfl fun y2 _ => ?_
  try simp only [zes,evs,tys]
  apply Imp.cnd
  ·exact zR
  ·refine zC rfl fun y4 _ => ?_
   try simp only [zes,evs,tys]
   apply Imp.cnd
   ·apply Imp.cnd
    ·exact zR
    ·refine zL (r9_Field_l1_ok s name y4) ?_
     rintro (p | ⟨b_17,b_18,b_19,b_20,b_21,b_22⟩) vy23 hy23
     ·try simp only [elim_inl,elim_inr]
      obtain ⟨i_15,rfl⟩ := hy23
      refine zH ?_
      try simp only [evs,tys]
      exact zR
     ·try simp only [elim_inl,elim_inr]
      obtain ⟨i_16,rfl⟩ := hy23
      refine Imp.exMiss rfl ?_
      refine zH ?_
      try simp only [evs,tys]
      exact zR
   ·refine zL (r9_Field_l1_ok s name y4) ?_
    rintro (p | ⟨b_36,b_37,b_38,b_39,b_40,b_41⟩) vy42 hy42
    ·try simp only [elim_inl,elim_inr]
     obtain ⟨i_34,rfl⟩ := hy42
     refine zH ?_
     try simp only [evs,tys]
     exact zR
    ·try simp only [elim_inl,elim_inr]
     obtain ⟨i_35,rfl⟩ := hy42
     refine Imp.exMiss rfl ?_
     refine zH ?_
     try simp only [evs,tys]
     exact zR
 ·refine zC rfl fun y44 _ => ?_
  try simp only [zes,evs,tys]
  apply Imp.cnd
  ·apply Imp.cnd
   ·exact zR
   ·refine zL (r9_Field_l1_ok s name y44) ?_
    rintro (p | ⟨b_57,b_58,b_59,b_60,b_61,b_62⟩) vy63 hy63
    ·try simp only [elim_inl,elim_inr]
     obtain ⟨i_55,rfl⟩ := hy63
     refine zH ?_
     try simp only [evs,tys]
     exact zR
    ·try simp only [elim_inl,elim_inr]
     obtain ⟨i_56,rfl⟩ := hy63
     refine Imp.exMiss rfl ?_
     refine zH ?_
     try simp only [evs,tys]
     exact zR
  ·refine zL (r9_Field_l1_ok s name y44) ?_
   rintro (p | ⟨b_76,b_77,b_78,b_79,b_80,b_81⟩) vy82 hy82
   ·try simp only [elim_inl,elim_inr]
    obtain ⟨i_74,rfl⟩ := hy82
    refine zH ?_
    try simp only [evs,tys]
    exact zR
   ·try simp only [elim_inl,elim_inr]
    obtain ⟨i_75,rfl⟩ := hy82
    refine Imp.exMiss rfl ?_
    refine zH ?_
    try simp only [evs,tys]
    exact zR
theorem r9_Field_run {s : GSchema} {typ : Str} {name : Str} {r : GFieldDef × Bool} (h : r9_Field_B s typ name = some r) : r9_Field s typ name = some r := zV de_FieldEj (r9_Field_imp s typ name) Tryz.func117 (r9_Field_t1 _ _ s typ name) h
abbrev r3_Known_l1F : List Sh := [sf,sf,.bool,n6]
def r3_Known_l1 (O : Orc) (LP : LBs) : LBody := fun s1 s1u => cnd (chkL r3_Known_l1F s1) (cnd (chkU [] s1u)
 (cnd (decide ((iv s1 3) < (List.length (ev s1 1) : Int)))
 (bnd (ix 6 (zs s1 1) (zn s1 3)) fun x7 => cnd (chk (.ref shMember) x7)
 (callp O 193 [(zs s1 0),(zt (rf x7) 0)] fun x9 => cnd (chk (.tup [shParam,.bool]) x9)
 (cnd (!(boolV (tv x9 1)))
 (some (.ret,[(zs s1 0),(zs s1 1),(.bool false),(zn s1 3)],[]))
 (some (.nrm,[(zs s1 0),(zs s1 1),(zb s1 2),(i6 (w6 ((iv s1 3) + 1)))],[]))) none) none)
 (some (.brk 0,(rb r3_Known_l1F s1),[]))) none) none
def r3_Known_T1 (O : Orc) (LP : LBs) (l0 : List GParam) (m : List GMember) : Option (PV × UP) :=
 bnd (LP (r3_Known_l1 O LP) [(zq encParam l0),(zq encMember m),(.bool false),(i6 0)] []) fun y13 =>
 exIs y13.1 (some 0) (cnd (chkL r3_Known_l1F y13.2.1) (cnd (chkU [] y13.2.2)
 (some ((.bool true),[])) none) none)
 (exIs y13.1 none (cnd (chkL r3_Known_l1F y13.2.1) (cnd (chkU [] y13.2.2)
 (some ((zb y13.2.1 2),[])) none) none)
 (none))
noncomputable def r3_Known_l1T (l0 : List GParam) (m : List GMember) : Int → Option (Int ⊕ (Unit ⊕ Unit))
 | i_6 =>
 cnd (decide (i_6 < (List.length m : Int)))
  (bnd (nthI m i_6) fun y8 =>
  bnd (r9_Param l0 y8.name) fun y10 =>
  cnd (!y10.2)
  (some (.inr (.inr ())))
  (some (.inl (IntKind.wrap .i64 (i_6 + 1)))))
  (some (.inr (.inl ())))
abbrev r3_Known_l1R (l0 : List GParam) (m : List GMember) (st : Int) (l : List PV) (u : UP) : Prop := l = [(zq encParam l0),(zq encMember m),(.bool false),(i6 st)] ∧ u = []
abbrev r3_Known_l1X (l0 : List GParam) (m : List GMember) (p : Unit ⊕ Unit) (r : EU) : Prop := elim p (fun (p : Unit) => ∃ (i_11 : Int),r = (Ex.brk 0,[(zq encParam l0),(zq encMember m),(.bool false),(i6 i_11)],[])) (fun q2 => (fun (p : Unit) => ∃ (i_12 : Int),r = (Ex.ret,[(zq encParam l0),(zq encMember m),(.bool false),(i6 i_12)],[])) q2)
noncomputable def r3_Known_B (l0 : List GParam) (m : List GMember) : Option Bool :=
 bnd (tloop (r3_Known_l1T l0 m) 0) fun e13_2 => elim e13_2
 (fun p13 =>
 some true)
 (fun p13 =>
 some false)
def r3_Known_ds : Decs := { decs := [(18,(.ref shMember)),(21,(.tup [shParam,.bool]))],loops := [(2,[],⟨r3_Known_l1F,[],[(some 0,r3_Known_l1F,[]),(none,r3_Known_l1F,[])]⟩)] }
theorem r3_Known_t1 (O : Orc) (LP : LBs) (l0 : List GParam) (m : List GMember) : eW 186 r3_Known_ds Tryz.f186 O LP [(zq encParam l0),(zq encMember m)] [] = r3_Known_T1 O LP l0 m := by kernel_rfl
theorem r3_Known_l1_ok (l0 : List GParam) (m : List GMember) : Lok (r3_Known_l1R l0 m) (r3_Known_l1T l0 m) (r3_Known_l1 O loopLim) (r3_Known_l1X l0 m) := by
 rintro i_6 l u ⟨rfl,rfl⟩
 simp only [r3_Known_l1T,r3_Known_l1,zd,zr]
 refine zG ?_
 try simp only [evs,tys]
 apply Imp.cnd
 ·refine zX encMember chk_GMember fun y8 _ => ?_
  try simp only [evs,tys]
  refine zC rfl fun y10 _ => ?_
  try simp only [zes,evs,tys]
  apply Imp.cnd
  ·exact zT ⟨i_6,zE⟩
  ·exact zN
 ·exact zB ⟨i_6,zE⟩
theorem r3_Known_imp (l0 : List GParam) (m : List GMember) : Imp (r3_Known_B l0 m) (r3_Known_T1 O loopLim l0 m) (Ri s6_ArgsRulesE) := by
 simp only [r3_Known_B,r3_Known_T1,zd,zr]
 try simp only [evs,tys]
 refine zL (r3_Known_l1_ok l0 m) ?_
 rintro (p | p) vy13 hy13
 ·try simp only [elim_inl,elim_inr]
  obtain ⟨i_11,rfl⟩ := hy13
  refine zH ?_
  try simp only [evs,tys]
  exact zR
 ·try simp only [elim_inl,elim_inr]
  obtain ⟨i_12,rfl⟩ := hy13
  refine Imp.exMiss rfl ?_
  refine zH ?_
  try simp only [evs,tys]
  exact zR
theorem r3_Known_run {l0 : List GParam} {m : List GMember} {r : Bool} (h : r3_Known_B l0 m = some r) : r3_Known l0 m = some r := zV s6_ArgsRulesEj (r3_Known_imp l0 m) Tryz.func186 (r3_Known_t1 _ _ l0 m) h
abbrev r3_Once_l1F : List Sh := [sf,.bool,n6,n6]
def r3_Once_l1 (O : Orc) (LP : LBs) : LBody := fun s16 s16u => cnd (chkL r3_Once_l1F s16) (cnd (chkU [] s16u)
 (cnd (decide ((iv s16 3) < (iv s16 2)))
 (bnd (ix 6 (zs s16 0) (zn s16 2)) fun x22 => cnd (chk (.ref shMember) x22)
 (bnd (ix 6 (zs s16 0) (zn s16 3)) fun x24 => cnd (chk (.ref shMember) x24)
 (cnd ((sv (rf x22) 0) == (sv (rf x24) 0))
 (some (.ret,(pu (rb r3_Once_l1F s16) 1 (.bool false)),[]))
 (some (.nrm,(pu (rb r3_Once_l1F s16) 3 (i6 (w6 ((iv s16 3) + 1)))),[]))) none) none)
 (some (.brk 2,(rb r3_Once_l1F s16),[]))) none) none
def r3_Once_l2 (O : Orc) (LP : LBs) : LBody := fun s1 s1u => cnd (chkL [sf,.bool,n6] s1) (cnd (chkU [] s1u)
 (cnd (decide ((iv s1 2) < (List.length (ev s1 0) : Int)))
 (bnd (LP (r3_Once_l1 O LP) [(zs s1 0),(zb s1 1),(zn s1 2),(i6 0)] []) fun y28 =>
 exIs y28.1 (some 2) (cnd (chkL [sf,.bool,n6,n6] y28.2.1) (cnd (chkU [] y28.2.2)
 (some (.nrm,[(zs y28.2.1 0),(zb y28.2.1 1),(i6 (w6 ((iv y28.2.1 2) + 1)))],[])) none) none)
 (exIs y28.1 none (cnd (chkL [sf,.bool,n6,n6] y28.2.1) (cnd (chkU [] y28.2.2)
 (some (.ret,[(zs y28.2.1 0),(zb y28.2.1 1),(zn y28.2.1 2)],[])) none) none)
 (none)))
 (some (.brk 0,[(zs s1 0),(zb s1 1),(zn s1 2)],[]))) none) none
def r3_Once_T1 (O : Orc) (LP : LBs) (m : List GMember) : Option (PV × UP) :=
 bnd (LP (r3_Once_l2 O LP) [(zq encMember m),(.bool false),(i6 0)] []) fun y31 =>
 exIs y31.1 (some 0) (cnd (chkL [sf,.bool,n6] y31.2.1) (cnd (chkU [] y31.2.2)
 (some ((.bool true),[])) none) none)
 (exIs y31.1 none (cnd (chkL [sf,.bool,n6] y31.2.1) (cnd (chkU [] y31.2.2)
 (some ((zb y31.2.1 1),[])) none) none)
 (none))
noncomputable def r3_Once_l1T (m : List GMember) (i_15 : Int) : Int → Option (Int ⊕ (Unit ⊕ Unit))
 | k_21 =>
 cnd (decide (k_21 < i_15))
  (bnd (nthI m i_15) fun y23 =>
  bnd (nthI m k_21) fun y25 =>
  cnd (y23.name == y25.name)
  (some (.inr (.inr ())))
  (some (.inl (IntKind.wrap .i64 (k_21 + 1)))))
  (some (.inr (.inl ())))
abbrev r3_Once_l1R (m : List GMember) (i_15 : Int) (st : Int) (l : List PV) (u : UP) : Prop := l = [(zq encMember m),(.bool false),(i6 i_15),(i6 st)] ∧ u = []
abbrev r3_Once_l1X (m : List GMember) (i_15 : Int) (p : Unit ⊕ Unit) (r : EU) : Prop := elim p (fun (p : Unit) => ∃ (k_26 : Int),r = (Ex.brk 2,[(zq encMember m),(.bool false),(i6 i_15),(i6 k_26)],[])) (fun q2 => (fun (p : Unit) => ∃ (k_27 : Int),r = (Ex.ret,[(zq encMember m),(.bool false),(i6 i_15),(i6 k_27)],[])) q2)
noncomputable def r3_Once_l2T (m : List GMember) : Int → Option (Int ⊕ (Unit ⊕ Unit))
 | i_15 =>
 cnd (decide (i_15 < (List.length m : Int)))
  (bnd (tloop (r3_Once_l1T m i_15) 0) fun e28_2 => elim e28_2
  (fun p28 =>
  some (.inl (IntKind.wrap .i64 (i_15 + 1))))
  (fun p28 =>
  some (.inr (.inr ()))))
  (some (.inr (.inl ())))
abbrev r3_Once_l2R (m : List GMember) (st : Int) (l : List PV) (u : UP) : Prop := l = [(zq encMember m),(.bool false),(i6 st)] ∧ u = []
abbrev r3_Once_l2X (m : List GMember) (p : Unit ⊕ Unit) (r : EU) : Prop := elim p (fun (p : Unit) => ∃ (i_29 : Int),r = (Ex.brk 0,[(zq encMember m),(.bool false),(i6 i_29)],[])) (fun q2 => (fun (p : Unit) => ∃ (i_30 : Int),r = (Ex.ret,[(zq encMember m),(.bool false),(i6 i_30)],[])) q2)
noncomputable def r3_Once_B (m : List GMember) : Option Bool :=
 bnd (tloop (r3_Once_l2T m) 0) fun e31_2 => elim e31_2
 (fun p31 =>
 some true)
 (fun p31 =>
 some false)
def r3_Once_ds : Decs := { decs := [(18,(.ref shMember)),(23,(.ref shMember))],loops := [(2,[],⟨[sf,.bool,n6],[],[(some 0,[sf,.bool,n6],[]),(none,[sf,.bool,n6],[])]⟩),(5,[],⟨r3_Once_l1F,[],[(some 2,r3_Once_l1F,[]),(none,r3_Once_l1F,[])]⟩)] }
theorem r3_Once_t1 (O : Orc) (LP : LBs) (m : List GMember) : eW 187 r3_Once_ds Tryz.f187 O LP [(zq encMember m)] [] = r3_Once_T1 O LP m := by kernel_rfl
theorem r3_Once_l1_ok (m : List GMember) (i_15 : Int) : Lok (r3_Once_l1R m i_15) (r3_Once_l1T m i_15) (r3_Once_l1 O loopLim) (r3_Once_l1X m i_15) := by
 rintro k_21 l u ⟨rfl,rfl⟩
 simp only [r3_Once_l1T,r3_Once_l1,zd,zr]
 refine zG ?_
 try simp only [evs,tys]
 apply Imp.cnd
 ·refine zX encMember chk_GMember fun y23 _ => ?_
  try simp only [evs,tys]
  refine zX encMember chk_GMember fun y25 _ => ?_
  try simp only [evs,tys]
  apply Imp.cnd
  ·exact zT ⟨k_21,zE⟩
  ·exact zN
 ·exact zB ⟨k_21,zE⟩
theorem r3_Once_l2_ok (m : List GMember) : Lok (r3_Once_l2R m) (r3_Once_l2T m) (r3_Once_l2 O loopLim) (r3_Once_l2X m) := by
 rintro i_15 l u ⟨rfl,rfl⟩
 simp only [r3_Once_l2T,r3_Once_l2,zd,zr]
 refine zG ?_
 try simp only [evs,tys]
 apply Imp.cnd
 ·refine zL (r3_Once_l1_ok m i_15) ?_
  rintro (p | p) vy28 hy28
  ·try simp only [elim_inl,elim_inr]
   obtain ⟨k_26,rfl⟩ := hy28
   refine zH ?_
   try simp only [evs,tys]
   exact zN
  ·try simp only [elim_inl,elim_inr]
   obtain ⟨k_27,rfl⟩ := hy28
   refine Imp.exMiss rfl ?_
   refine zH ?_
   try simp only [evs,tys]
   exact zT ⟨i_15,zE⟩
 ·exact zB ⟨i_15,zE⟩
theorem r3_Once_imp (m : List GMember) : Imp (r3_Once_B m) (r3_Once_T1 O loopLim m) (Ri s6_ArgsRulesE) := by
 simp only [r3_Once_B,r3_Once_T1,zd,zr]
 try simp only [evs,tys]
 refine zL (r3_Once_l2_ok m) ?_
 rintro (p | p) vy31 hy31
 ·try simp only [elim_inl,elim_inr]
  obtain ⟨i_29,rfl⟩ := hy31
  refine zH ?_
  try simp only [evs,tys]
  exact zR
 ·try simp only [elim_inl,elim_inr]
  obtain ⟨i_30,rfl⟩ := hy31
  refine Imp.exMiss rfl ?_
  refine zH ?_
  try simp only [evs,tys]
  exact zR
theorem r3_Once_run {m : List GMember} {r : Bool} (h : r3_Once_B m = some r) : r3_Once m = some r := zV s6_ArgsRulesEj (r3_Once_imp m) Tryz.func187 (r3_Once_t1 _ _ m) h
abbrev r3_Needed_l1F : List Sh := [sf,sf,.bool,n6]
def r3_Needed_l1 (O : Orc) (LP : LBs) : LBody := fun s1 s1u => cnd (chkL r3_Needed_l1F s1) (cnd (chkU [] s1u)
 (cnd (decide ((iv s1 3) < (List.length (ev s1 0) : Int)))
 (bnd (ix 10 (zs s1 0) (zn s1 3)) fun x13 => cnd (chk (.ref shParam) x13)
 (callp O 219 [(zt (rf x13) 0),(zs s1 1)] fun x15 => cnd (chk (.tup [shValue,.bool]) x15)
 (cnd (!(boolV (tv x15 1)))
 (bnd (ix 10 (zs s1 0) (zn s1 3)) fun x17 => cnd (chk (.ref shParam) x17)
 (callp O 195 [(.agg [(zt (rf x17) 1),(zn (rf x17) 2),(zn (rf x17) 3)])] fun x19 => cnd (chk .bool x19)
 (cnd (boolV x19)
 (bnd (ix 10 (zs s1 0) (zn s1 3)) fun x21 => cnd (chk (.ref shParam) x21)
 (cnd (!(bv (rf x21) 4))
 (some (.ret,[(zs s1 0),(zs s1 1),(.bool false),(zn s1 3)],[]))
 (some (.nrm,[(zs s1 0),(zs s1 1),(zb s1 2),(i6 (w6 ((iv s1 3) + 1)))],[]))) none)
 (some (.nrm,[(zs s1 0),(zs s1 1),(zb s1 2),(i6 (w6 ((iv s1 3) + 1)))],[]))) none) none)
 (some (.nrm,[(zs s1 0),(zs s1 1),(zb s1 2),(i6 (w6 ((iv s1 3) + 1)))],[]))) none) none)
 (some (.brk 0,(rb r3_Needed_l1F s1),[]))) none) none
def r3_Needed_T1 (O : Orc) (LP : LBs) (l0 : List GParam) (m : List GMember) : Option (PV × UP) :=
 bnd (LP (r3_Needed_l1 O LP) [(zq encParam l0),(zq encMember m),(.bool false),(i6 0)] []) fun y25 =>
 exIs y25.1 (some 0) (cnd (chkL r3_Needed_l1F y25.2.1) (cnd (chkU [] y25.2.2)
 (some ((.bool true),[])) none) none)
 (exIs y25.1 none (cnd (chkL r3_Needed_l1F y25.2.1) (cnd (chkU [] y25.2.2)
 (some ((zb y25.2.1 2),[])) none) none)
 (none))
noncomputable def r3_Needed_l1T (l0 : List GParam) (m : List GMember) : Int → Option (Int ⊕ (Unit ⊕ Unit))
 | i_12 =>
 cnd (decide (i_12 < (List.length l0 : Int)))
  (bnd (nthI l0 i_12) fun y14 =>
  bnd (r1_Get y14.name m) fun y16 =>
  cnd (!y16.2)
  (bnd (nthI l0 i_12) fun y18 =>
  bnd (r1_Is y18.t) fun y20 =>
  cnd y20
   (bnd (nthI l0 i_12) fun y22 =>
   cnd (!y22.has)
   (some (.inr (.inr ())))
   (some (.inl (IntKind.wrap .i64 (i_12 + 1)))))
   (some (.inl (IntKind.wrap .i64 (i_12 + 1)))))
  (some (.inl (IntKind.wrap .i64 (i_12 + 1)))))
  (some (.inr (.inl ())))
abbrev r3_Needed_l1R (l0 : List GParam) (m : List GMember) (st : Int) (l : List PV) (u : UP) : Prop := l = [(zq encParam l0),(zq encMember m),(.bool false),(i6 st)] ∧ u = []
abbrev r3_Needed_l1X (l0 : List GParam) (m : List GMember) (p : Unit ⊕ Unit) (r : EU) : Prop := elim p (fun (p : Unit) => ∃ (i_23 : Int),r = (Ex.brk 0,[(zq encParam l0),(zq encMember m),(.bool false),(i6 i_23)],[])) (fun q2 => (fun (p : Unit) => ∃ (i_24 : Int),r = (Ex.ret,[(zq encParam l0),(zq encMember m),(.bool false),(i6 i_24)],[])) q2)
noncomputable def r3_Needed_B (l0 : List GParam) (m : List GMember) : Option Bool :=
 bnd (tloop (r3_Needed_l1T l0 m) 0) fun e25_2 => elim e25_2
 (fun p25 =>
 some true)
 (fun p25 =>
 some false)
def r3_Needed_ds : Decs := { decs := [(17,(.ref shParam)),(21,(.tup [shValue,.bool])),(29,(.ref shParam)),(32,.bool),(37,(.ref shParam))],loops := [(2,[],⟨r3_Needed_l1F,[],[(some 0,r3_Needed_l1F,[]),(none,r3_Needed_l1F,[])]⟩)] }
theorem r3_Needed_t1 (O : Orc) (LP : LBs) (l0 : List GParam) (m : List GMember) : eW 188 r3_Needed_ds Tryz.f188 O LP [(zq encParam l0),(zq encMember m)] [] = r3_Needed_T1 O LP l0 m := by kernel_rfl
theorem r3_Needed_l1_ok (l0 : List GParam) (m : List GMember) : Lok (r3_Needed_l1R l0 m) (r3_Needed_l1T l0 m) (r3_Needed_l1 O loopLim) (r3_Needed_l1X l0 m) := by
 rintro i_12 l u ⟨rfl,rfl⟩
 simp only [r3_Needed_l1T,r3_Needed_l1,zd,zr]
 refine zG ?_
 try simp only [evs,tys]
 apply Imp.cnd
 ·refine zX encParam chk_GParam fun y14 _ => ?_
  try simp only [evs,tys]
  refine zC rfl fun y16 _ => ?_
  try simp only [zes,evs,tys]
  apply Imp.cnd
  ·refine zX encParam chk_GParam fun y18 _ => ?_
   try simp only [evs,tys]
   refine zC rfl fun y20 _ => ?_
   try simp only [zes,evs,tys]
   apply Imp.cnd
   ·refine zX encParam chk_GParam fun y22 _ => ?_
    try simp only [evs,tys]
    apply Imp.cnd
    ·exact zT ⟨i_12,zE⟩
    ·exact zN
   ·exact zN
  ·exact zN
 ·exact zB ⟨i_12,zE⟩
theorem r3_Needed_imp (l0 : List GParam) (m : List GMember) : Imp (r3_Needed_B l0 m) (r3_Needed_T1 O loopLim l0 m) (Ri s6_ArgsRulesE) := by
 simp only [r3_Needed_B,r3_Needed_T1,zd,zr]
 try simp only [evs,tys]
 refine zL (r3_Needed_l1_ok l0 m) ?_
 rintro (p | p) vy25 hy25
 ·try simp only [elim_inl,elim_inr]
  obtain ⟨i_23,rfl⟩ := hy25
  refine zH ?_
  try simp only [evs,tys]
  exact zR
 ·try simp only [elim_inl,elim_inr]
  obtain ⟨i_24,rfl⟩ := hy25
  refine Imp.exMiss rfl ?_
  refine zH ?_
  try simp only [evs,tys]
  exact zR
theorem r3_Needed_run {l0 : List GParam} {m : List GMember} {r : Bool} (h : r3_Needed_B l0 m = some r) : r3_Needed l0 m = some r := zV s6_ArgsRulesEj (r3_Needed_imp l0 m) Tryz.func188 (r3_Needed_t1 _ _ l0 m) h
def r3_DirParam_T1 (O : Orc) (LP : LBs) (name : Str) : Option (PV × UP) :=
 cnd (name == ([115,107,105,112] : Str))
 (some ((.tuple [(.agg [(.str [105,102]),(.str [66,111,111,108,101,97,110]),(i6 0),(i6 1),(.bool false),(i6 0),(i6 0),(.str []),(.slice [] [] false),(.slice [] [] false)]),(.bool true)]),[]))
 (cnd (name == ([105,110,99,108,117,100,101] : Str))
 (some ((.tuple [(.agg [(.str [105,102]),(.str [66,111,111,108,101,97,110]),(i6 0),(i6 1),(.bool false),(i6 0),(i6 0),(.str []),(.slice [] [] false),(.slice [] [] false)]),(.bool true)]),[]))
 (some ((.tuple [(.agg [(.str []),(.str []),(i6 0),(i6 0),(.bool false),(i6 0),(i6 0),(.str []),(.slice [] [] false),(.slice [] [] false)]),(.bool false)]),[])))
noncomputable def r3_DirParam_B (name : Str) : Option (GParam × Bool) :=
 cnd (name == ([115,107,105,112] : Str))
 (some ((GParam.mk [105,102] (GType.mk [66,111,111,108,101,97,110] 0 1) false (GValue.mk 0 0 [] ([] : List GValue) ([] : List GMember))),true))
 (cnd (name == ([105,110,99,108,117,100,101] : Str))
 (some ((GParam.mk [105,102] (GType.mk [66,111,111,108,101,97,110] 0 1) false (GValue.mk 0 0 [] ([] : List GValue) ([] : List GMember))),true))
 (some ((GParam.mk [] (GType.mk [] 0 0) false (GValue.mk 0 0 [] ([] : List GValue) ([] : List GMember))),false)))
def r3_DirParam_ds : Decs := { }
theorem r3_DirParam_t1 (O : Orc) (LP : LBs) (name : Str) : eW 121 r3_DirParam_ds Tryz.f121 O LP [(.str name)] [] = r3_DirParam_T1 O LP name := by kernel_rfl
theorem r3_DirParam_imp (name : Str) : Imp (r3_DirParam_B name) (r3_DirParam_T1 O loopLim name) (Ri li_ParamE) := by
 simp only [r3_DirParam_B,r3_DirParam_T1,zd,zr]
 try simp only [evs,tys]
 apply Imp.cnd
 ·exact zR
 ·apply Imp.cnd
  ·exact zR
  ·exact zR
theorem r3_DirParam_run {name : Str} {r : GParam × Bool} (h : r3_DirParam_B name = some r) : r3_DirParam name = some r := zV li_ParamEj (r3_DirParam_imp name) Tryz.func121 (r3_DirParam_t1 _ _ name) h
def r9_is_T1 (O : Orc) (LP : LBs) (s : GSchema) (name : Str) (a : Int) (b : Int) (c : Int) : Option (PV × UP) :=
 callp O 164 [(eS s),(.str name)] fun x1 => cnd (chk (.tup [shDef,.bool]) x1)
 (cnd (boolV (tv x1 1))
 (cnd ((iv (tg x1 0) 0) == a)
 (some ((.bool true),[]))
 (cnd ((iv (tg x1 0) 0) == b)
 (some ((.bool true),[]))
 (some ((.bool ((iv (tg x1 0) 0) == c)),[]))))
 (some ((.bool false),[]))) none
noncomputable def r9_is_B (s : GSchema) (name : Str) (a : Int) (b : Int) (c : Int) : Option Bool :=
 bnd (r9_Find s name) fun y2 =>
 cnd y2.2
 (cnd (y2.1.kind == a)
 (some true)
 (cnd (y2.1.kind == b)
 (some true)
 (some (y2.1.kind == c))))
 (some false)
def r9_is_ds : Decs := { decs := [(16,(.tup [shDef,.bool]))] }
theorem r9_is_t1 (O : Orc) (LP : LBs) (s : GSchema) (name : Str) (a : Int) (b : Int) (c : Int) : eW 159 r9_is_ds Tryz.f159 O LP [(eS s),(.str name),(i6 a),(i6 b),(i6 c)] [] = r9_is_T1 O LP s name a b c := by kernel_rfl
theorem r9_is_imp (s : GSchema) (name : Str) (a : Int) (b : Int) (c : Int) : Imp (r9_is_B s name a b c) (r9_is_T1 O loopLim s name a b c) (Ri s6_ArgsRulesE) := by
 simp only [r9_is_B,r9_is_T1,zd,zr]
 try simp only [evs,tys]
 refine zC rfl fun y2 _ => ?_
 try simp only [zes,evs,tys]
 apply Imp.cnd
 ·apply Imp.cnd
  ·exact zR
  ·apply Imp.cnd
   ·exact zR
   ·exact zR
 ·exact zR
theorem r9_is_run {s : GSchema} {name : Str} {a : Int} {b : Int} {c : Int} {r : Bool} (h : r9_is_B s name a b c = some r) : r9_is s name a b c = some r := zV s6_ArgsRulesEj (r9_is_imp s name a b c) Tryz.func159 (r9_is_t1 _ _ s name a b c) h
def r1_Name_l1 (O : Orc) (LP : LBs) : LBody := fun s5 s5u => cnd (chkL [.str,.bool,n6] s5) (cnd (chkU [] s5u)
 (cnd (decide ((iv s5 2) < (List.length (sv s5 0) : Int)))
 (bnd (ixStr (zt s5 0) (zn s5 2)) fun x15 => cnd (chk (.int .u8) x15)
 (callp O 169 [(.int .u8 (intV x15))] fun x17 => cnd (chk .bool x17)
 (cnd (!(boolV x17))
 (bnd (ixStr (zt s5 0) (zn s5 2)) fun x19 => cnd (chk (.int .u8) x19)
 (callp O 170 [(.int .u8 (intV x19))] fun x21 => cnd (chk .bool x21)
 (cnd (!(boolV x21))
 (some (.ret,[(zt s5 0),(.bool false),(zn s5 2)],[]))
 (some (.nrm,[(zt s5 0),(zb s5 1),(i6 (w6 ((iv s5 2) + 1)))],[]))) none) none)
 (some (.nrm,[(zt s5 0),(zb s5 1),(i6 (w6 ((iv s5 2) + 1)))],[]))) none) none)
 (some (.brk 0,[(zt s5 0),(zb s5 1),(zn s5 2)],[]))) none) none
def r1_Name_T1 (O : Orc) (LP : LBs) (s : Str) : Option (PV × UP) :=
 cnd (s == ([] : Str))
 (some ((.bool false),[]))
 (bnd (ixStr (.str s) (i6 0)) fun x1 => cnd (chk (.int .u8) x1)
 (callp O 169 [(.int .u8 (intV x1))] fun x3 => cnd (chk .bool x3)
 (cnd (!(boolV x3))
 (some ((.bool false),[]))
 (bnd (LP (r1_Name_l1 O LP) [(.str s),(.bool false),(i6 1)] []) fun y25 =>
 exIs y25.1 (some 0) (cnd (chkL [.str,.bool,n6] y25.2.1) (cnd (chkU [] y25.2.2)
 (some ((.bool true),[])) none) none)
 (exIs y25.1 none (cnd (chkL [.str,.bool,n6] y25.2.1) (cnd (chkU [] y25.2.2)
 (some ((zb y25.2.1 1),[])) none) none)
 (none)))) none) none)
noncomputable def r1_Name_l1T (s : Str) : Int → Option (Int ⊕ (Unit ⊕ Unit))
 | i_14 =>
 cnd (decide (i_14 < (List.length s : Int)))
  (bnd (nthI s i_14) fun y16 =>
  bnd (r1_start (y16.toNat : Int)) fun y18 =>
  cnd (!y18)
  (bnd (nthI s i_14) fun y20 =>
  bnd (r1_digit (y20.toNat : Int)) fun y22 =>
  cnd (!y22)
   (some (.inr (.inr ())))
   (some (.inl (IntKind.wrap .i64 (i_14 + 1)))))
  (some (.inl (IntKind.wrap .i64 (i_14 + 1)))))
  (some (.inr (.inl ())))
abbrev r1_Name_l1R (s : Str) (st : Int) (l : List PV) (u : UP) : Prop := l = [(.str s),(.bool false),(i6 st)] ∧ u = []
abbrev r1_Name_l1X (s : Str) (p : Unit ⊕ Unit) (r : EU) : Prop := elim p (fun (p : Unit) => ∃ (i_23 : Int),r = (Ex.brk 0,[(.str s),(.bool false),(i6 i_23)],[])) (fun q2 => (fun (p : Unit) => ∃ (i_24 : Int),r = (Ex.ret,[(.str s),(.bool false),(i6 i_24)],[])) q2)
noncomputable def r1_Name_B (s : Str) : Option Bool :=
 cnd (s == ([] : Str))
 (some false)
 (bnd (nthI s 0) fun y2 =>
 bnd (r1_start (y2.toNat : Int)) fun y4 =>
 cnd (!y4)
 (some false)
 (bnd (tloop (r1_Name_l1T s) 1) fun e25_2 => elim e25_2
 (fun p25 =>
 some true)
 (fun p25 =>
 some false)))
def r1_Name_ds : Decs := { decs := [(8,(.int .u8)),(9,.bool),(20,(.int .u8)),(21,.bool),(26,(.int .u8)),(27,.bool)],loops := [(4,[],⟨[.str,.bool,n6],[],[(some 0,[.str,.bool,n6],[]),(none,[.str,.bool,n6],[])]⟩)] }
theorem r1_Name_t1 (O : Orc) (LP : LBs) (s : Str) : eW 98 r1_Name_ds Tryz.f98 O LP [(.str s)] [] = r1_Name_T1 O LP s := by kernel_rfl
theorem r1_Name_l1_ok (s : Str) : Lok (r1_Name_l1R s) (r1_Name_l1T s) (r1_Name_l1 O loopLim) (r1_Name_l1X s) := by
 rintro i_14 l u ⟨rfl,rfl⟩
 simp only [r1_Name_l1T,r1_Name_l1,zd,zr]
 refine zG ?_
 try simp only [evs,tys]
 apply Imp.cnd
 ·refine Imp.op (f := fun a => .int .u8 (a.toNat : Int)) (fun a h => op_ixStr h) (fun a => rfl) fun y16 hy16 => ?_
  try simp only [evs,tys]
  refine zC rfl fun y18 _ => ?_
  try simp only [zes,evs,tys]
  apply Imp.cnd
  ·refine Imp.op (f := fun a => .int .u8 (a.toNat : Int)) (fun a h => op_ixStr h) (fun a => rfl) fun y20 hy20 => ?_
   try simp only [evs,tys]
   refine zC rfl fun y22 _ => ?_
   try simp only [zes,evs,tys]
   apply Imp.cnd
   ·exact zT ⟨i_14,zE⟩
   ·exact zN
  ·exact zN
 ·exact zB ⟨i_14,zE⟩
theorem r1_Name_imp (s : Str) : Imp (r1_Name_B s) (r1_Name_T1 O loopLim s) (Ri s6_ArgsRulesE) := by
 simp only [r1_Name_B,r1_Name_T1,zd,zr]
 try simp only [evs,tys]
 apply Imp.cnd
 ·exact zR
 ·refine Imp.op (f := fun a => .int .u8 (a.toNat : Int)) (fun a h => op_ixStr h) (fun a => rfl) fun y2 hy2 => ?_
  try simp only [evs,tys]
  refine zC rfl fun y4 _ => ?_
  try simp only [zes,evs,tys]
  apply Imp.cnd
  ·exact zR
  ·refine zL (r1_Name_l1_ok s) ?_
   rintro (p | p) vy25 hy25
   ·try simp only [elim_inl,elim_inr]
    obtain ⟨i_23,rfl⟩ := hy25
    refine zH ?_
    try simp only [evs,tys]
    exact zR
   ·try simp only [elim_inl,elim_inr]
    obtain ⟨i_24,rfl⟩ := hy25
    refine Imp.exMiss rfl ?_
    refine zH ?_
    try simp only [evs,tys]
    exact zR
theorem r1_Name_run {s : Str} {r : Bool} (h : r1_Name_B s = some r) : r1_Name s = some r := zV s6_ArgsRulesEj (r1_Name_imp s) Tryz.func98 (r1_Name_t1 _ _ s) h
def r9_scalar_T1 (O : Orc) (LP : LBs) (name : Str) : Option (PV × UP) :=
 cnd (name == ([73,110,116] : Str))
 (some ((.bool true),[]))
 (cnd (name == ([83,116,114,105,110,103] : Str))
 (some ((.bool true),[]))
 (cnd (name == ([66,111,111,108,101,97,110] : Str))
 (some ((.bool true),[]))
 (some ((.bool (name == ([73,68] : Str))),[]))))
noncomputable def r9_scalar_B (name : Str) : Option Bool :=
 cnd (name == ([73,110,116] : Str))
 (some true)
 (cnd (name == ([83,116,114,105,110,103] : Str))
 (some true)
 (cnd (name == ([66,111,111,108,101,97,110] : Str))
 (some true)
 (some (name == ([73,68] : Str)))))
def r9_scalar_ds : Decs := { }
theorem r9_scalar_t1 (O : Orc) (LP : LBs) (name : Str) : eW 156 r9_scalar_ds Tryz.f156 O LP [(.str name)] [] = r9_scalar_T1 O LP name := by kernel_rfl
theorem r9_scalar_imp (name : Str) : Imp (r9_scalar_B name) (r9_scalar_T1 O loopLim name) (Ri s6_ArgsRulesE) := by
 simp only [r9_scalar_B,r9_scalar_T1,zd,zr]
 try simp only [evs,tys]
 apply Imp.cnd
 ·exact zR
 ·apply Imp.cnd
  ·exact zR
  ·apply Imp.cnd
   ·exact zR
   ·exact zR
theorem r9_scalar_run {name : Str} {r : Bool} (h : r9_scalar_B name = some r) : r9_scalar name = some r := zV s6_ArgsRulesEj (r9_scalar_imp name) Tryz.func156 (r9_scalar_t1 _ _ name) h
abbrev r9_Param_l1F : List Sh := [sf,.str,(.ptr 0 4 0),.bool,n6,.str,.str,n6,n6,.bool,n6,n6,.str,st',st']
def r9_Param_l1 (O : Orc) (LP : LBs) : LBody := fun s1 s1u => cnd (chkL r9_Param_l1F s1) (cnd (chkU [] s1u)
 (cnd (decide ((iv s1 4) < (List.length (ev s1 0) : Int)))
 (bnd (ix 10 (zs s1 0) (zn s1 4)) fun x7 => cnd (chk (.ref shParam) x7)
 (cnd ((sv (rf x7) 0) == (sv s1 1))
 (bnd (ix 10 (zs s1 0) (zn s1 4)) fun x9 => cnd (chk (.ref shParam) x9)
 (some (.ret,[(zs s1 0),(zt s1 1),(.ptr 0 4 0),(.bool true),(zn s1 4),(zt (rf x9) 0),(zt (rf x9) 1),(zn (rf x9) 2),(zn (rf x9) 3),(zb (rf x9) 4),(zn (rf x9) 5),(zn (rf x9) 6),(zt (rf x9) 7),(zs (rf x9) 8),(zs (rf x9) 9)],[])) none)
 (some (.nrm,(pu (rb r9_Param_l1F s1) 4 (i6 (w6 ((iv s1 4) + 1)))),[]))) none)
 (some (.brk 0,(rb r9_Param_l1F s1),[]))) none) none
def r9_Param_T1 (O : Orc) (LP : LBs) (l0 : List GParam) (name : Str) : Option (PV × UP) :=
 bnd (LP (r9_Param_l1 O LP) [(zq encParam l0),(.str name),(.ptr 0 4 0),(.bool false),(i6 0),(.str []),(.str []),(i6 0),(i6 0),(.bool false),(i6 0),(i6 0),(.str []),(.slice [] [] true),(.slice [] [] true)] []) fun y23 =>
 exIs y23.1 (some 0) (cnd (chkL r9_Param_l1F y23.2.1) (cnd (chkU [] y23.2.2)
 (some ((.tuple [(.agg [(.str []),(.str []),(i6 0),(i6 0),(.bool false),(i6 0),(i6 0),(.str []),(.slice [] [] false),(.slice [] [] false)]),(.bool false)]),[])) none) none)
 (exIs y23.1 none (cnd (chkL [sf,.str,(.ptr 0 4 0),.bool,n6,.str,.str,n6,n6,.bool,n6,n6,.str,sf,sf] y23.2.1) (cnd (chkU [] y23.2.2)
 (some ((.tuple [(.agg [(zt y23.2.1 5),(zt y23.2.1 6),(zn y23.2.1 7),(zn y23.2.1 8),(zb y23.2.1 9),(zn y23.2.1 10),(zn y23.2.1 11),(zt y23.2.1 12),(zs y23.2.1 13),(zs y23.2.1 14)]),(zb y23.2.1 3)]),[])) none) none)
 (none))
noncomputable def r9_Param_l1T (l0 : List GParam) (name : Str) : Int → Option (Int ⊕ (Unit ⊕ (Str × Str × Int × Int × Bool × Int × Int × Str × (List GValue) × (List GMember))))
 | i_6 =>
 cnd (decide (i_6 < (List.length l0 : Int)))
  (bnd (nthI l0 i_6) fun y8 =>
  cnd (y8.name == name)
  (bnd (nthI l0 i_6) fun y10 =>
  some (.inr (.inr (y10.name,y10.t.name,y10.t.lists,y10.t.musts,y10.has,y10.default.kind,y10.default.n,y10.default.s,y10.default.l,y10.default.m))))
  (some (.inl (IntKind.wrap .i64 (i_6 + 1)))))
  (some (.inr (.inl ())))
abbrev r9_Param_l1R (l0 : List GParam) (name : Str) (st : Int) (l : List PV) (u : UP) : Prop := l = [(zq encParam l0),(.str name),(.ptr 0 4 0),(.bool false),(i6 st),(.str []),(.str []),(i6 0),(i6 0),(.bool false),(i6 0),(i6 0),(.str []),(.slice [] [] true),(.slice [] [] true)] ∧ u = []
abbrev r9_Param_l1X (l0 : List GParam) (name : Str) (p : Unit ⊕ (Str × Str × Int × Int × Bool × Int × Int × Str × (List GValue) × (List GMember))) (r : EU) : Prop := elim p (fun (p : Unit) => ∃ (i_11 : Int),r = (Ex.brk 0,[(zq encParam l0),(.str name),(.ptr 0 4 0),(.bool false),(i6 i_11),(.str []),(.str []),(i6 0),(i6 0),(.bool false),(i6 0),(i6 0),(.str []),(.slice [] [] true),(.slice [] [] true)],[])) (fun q2 => (fun (p : Str × Str × Int × Int × Bool × Int × Int × Str × (List GValue) × (List GMember)) => ∃ (i_12 : Int),r = (Ex.ret,[(zq encParam l0),(.str name),(.ptr 0 4 0),(.bool true),(i6 i_12),(.str p.1),(.str p.2.1),(i6 p.2.2.1),(i6 p.2.2.2.1),(.bool p.2.2.2.2.1),(i6 p.2.2.2.2.2.1),(i6 p.2.2.2.2.2.2.1),(.str p.2.2.2.2.2.2.2.1),(zq encValue p.2.2.2.2.2.2.2.2.1),(zq encMember p.2.2.2.2.2.2.2.2.2)],[])) q2)
noncomputable def r9_Param_B (l0 : List GParam) (name : Str) : Option (GParam × Bool) :=
 bnd (tloop (r9_Param_l1T l0 name) 0) fun e23_2 => elim e23_2
 (fun p23 =>
 some ((GParam.mk [] (GType.mk [] 0 0) false (GValue.mk 0 0 [] ([] : List GValue) ([] : List GMember))),false))
 (fun p23 =>
 some ((GParam.mk p23.1 (GType.mk p23.2.1 p23.2.2.1 p23.2.2.2.1) p23.2.2.2.2.1 (GValue.mk p23.2.2.2.2.2.1 p23.2.2.2.2.2.2.1 p23.2.2.2.2.2.2.2.1 p23.2.2.2.2.2.2.2.2.1 p23.2.2.2.2.2.2.2.2.2)),true))
def r9_Param_ds : Decs := { decs := [(15,(.ref shParam)),(22,(.ref shParam))],loops := [(2,[(4,10)],⟨r9_Param_l1F,[],[(some 0,r9_Param_l1F,[]),(none,[sf,.str,(.ptr 0 4 0),.bool,n6,.str,.str,n6,n6,.bool,n6,n6,.str,sf,sf],[])]⟩)] }
theorem r9_Param_t1 (O : Orc) (LP : LBs) (l0 : List GParam) (name : Str) : eW 193 r9_Param_ds Tryz.f193 O LP [(zq encParam l0),(.str name)] [] = r9_Param_T1 O LP l0 name := by kernel_rfl
theorem r9_Param_l1_ok (l0 : List GParam) (name : Str) : Lok (r9_Param_l1R l0 name) (r9_Param_l1T l0 name) (r9_Param_l1 O loopLim) (r9_Param_l1X l0 name) := by
 rintro i_6 l u ⟨rfl,rfl⟩
 simp only [r9_Param_l1T,r9_Param_l1,zd,zr]
 refine zG ?_
 try simp only [evs,tys]
 apply Imp.cnd
 ·refine zX encParam chk_GParam fun y8 _ => ?_
  try simp only [evs,tys]
  apply Imp.cnd
  ·refine zX encParam chk_GParam fun y10 _ => ?_
   try simp only [evs,tys]
   exact zT ⟨i_6,zE⟩
  ·exact zN
 ·exact zB ⟨i_6,zE⟩
theorem r9_Param_imp (l0 : List GParam) (name : Str) : Imp (r9_Param_B l0 name) (r9_Param_T1 O loopLim l0 name) (Ri li_ParamE) := by
 simp only [r9_Param_B,r9_Param_T1,zd,zr]
 try simp only [evs,tys]
 refine zL (r9_Param_l1_ok l0 name) ?_
 rintro (p | ⟨b_13,b_14,b_15,b_16,b_17,b_18,b_19,b_20,b_21,b_22⟩) vy23 hy23
 ·try simp only [elim_inl,elim_inr]
  obtain ⟨i_11,rfl⟩ := hy23
  refine zH ?_
  try simp only [evs,tys]
  exact zR
 ·try simp only [elim_inl,elim_inr]
  obtain ⟨i_12,rfl⟩ := hy23
  refine Imp.exMiss rfl ?_
  refine zH ?_
  try simp only [evs,tys]
  exact zR
theorem r9_Param_run {l0 : List GParam} {name : Str} {r : GParam × Bool} (h : r9_Param_B l0 name = some r) : r9_Param l0 name = some r := zV li_ParamEj (r9_Param_imp l0 name) Tryz.func193 (r9_Param_t1 _ _ l0 name) h
abbrev r1_Get_l1F : List Sh := [.str,sf,(.ptr 0 4 0),.bool,n6,n6,n6,.str,st',st']
def r1_Get_l1 (O : Orc) (LP : LBs) : LBody := fun s1 s1u => cnd (chkL r1_Get_l1F s1) (cnd (chkU [] s1u)
 (cnd (decide ((iv s1 4) < (List.length (ev s1 1) : Int)))
 (bnd (ix 6 (zs s1 1) (zn s1 4)) fun x7 => cnd (chk (.ref shMember) x7)
 (cnd ((sv (rf x7) 0) == (sv s1 0))
 (bnd (ix 6 (zs s1 1) (zn s1 4)) fun x9 => cnd (chk (.ref shMember) x9)
 (some (.ret,[(zt s1 0),(zs s1 1),(.ptr 0 4 0),(.bool true),(zn s1 4),(zn (rf x9) 1),(zn (rf x9) 2),(zt (rf x9) 3),(zs (rf x9) 4),(zs (rf x9) 5)],[])) none)
 (some (.nrm,(pu (rb r1_Get_l1F s1) 4 (i6 (w6 ((iv s1 4) + 1)))),[]))) none)
 (some (.brk 0,(rb r1_Get_l1F s1),[]))) none) none
def r1_Get_T1 (O : Orc) (LP : LBs) (name : Str) (l0 : List GMember) : Option (PV × UP) :=
 bnd (LP (r1_Get_l1 O LP) [(.str name),(zq encMember l0),(.ptr 0 4 0),(.bool false),(i6 0),(i6 0),(i6 0),(.str []),(.slice [] [] true),(.slice [] [] true)] []) fun y18 =>
 exIs y18.1 (some 0) (cnd (chkL r1_Get_l1F y18.2.1) (cnd (chkU [] y18.2.2)
 (some ((.tuple [(.agg [(i6 0),(i6 0),(.str []),(.slice [] [] false),(.slice [] [] false)]),(.bool false)]),[])) none) none)
 (exIs y18.1 none (cnd (chkL [.str,sf,(.ptr 0 4 0),.bool,n6,n6,n6,.str,sf,sf] y18.2.1) (cnd (chkU [] y18.2.2)
 (some ((.tuple [(.agg [(zn y18.2.1 5),(zn y18.2.1 6),(zt y18.2.1 7),(zs y18.2.1 8),(zs y18.2.1 9)]),(zb y18.2.1 3)]),[])) none) none)
 (none))
noncomputable def r1_Get_l1T (name : Str) (l0 : List GMember) : Int → Option (Int ⊕ (Unit ⊕ (Int × Int × Str × (List GValue) × (List GMember))))
 | i_6 =>
 cnd (decide (i_6 < (List.length l0 : Int)))
  (bnd (nthI l0 i_6) fun y8 =>
  cnd (y8.name == name)
  (bnd (nthI l0 i_6) fun y10 =>
  some (.inr (.inr (y10.v.kind,y10.v.n,y10.v.s,y10.v.l,y10.v.m))))
  (some (.inl (IntKind.wrap .i64 (i_6 + 1)))))
  (some (.inr (.inl ())))
abbrev r1_Get_l1R (name : Str) (l0 : List GMember) (st : Int) (l : List PV) (u : UP) : Prop := l = [(.str name),(zq encMember l0),(.ptr 0 4 0),(.bool false),(i6 st),(i6 0),(i6 0),(.str []),(.slice [] [] true),(.slice [] [] true)] ∧ u = []
abbrev r1_Get_l1X (name : Str) (l0 : List GMember) (p : Unit ⊕ (Int × Int × Str × (List GValue) × (List GMember))) (r : EU) : Prop := elim p (fun (p : Unit) => ∃ (i_11 : Int),r = (Ex.brk 0,[(.str name),(zq encMember l0),(.ptr 0 4 0),(.bool false),(i6 i_11),(i6 0),(i6 0),(.str []),(.slice [] [] true),(.slice [] [] true)],[])) (fun q2 => (fun (p : Int × Int × Str × (List GValue) × (List GMember)) => ∃ (i_12 : Int),r = (Ex.ret,[(.str name),(zq encMember l0),(.ptr 0 4 0),(.bool true),(i6 i_12),(i6 p.1),(i6 p.2.1),(.str p.2.2.1),(zq encValue p.2.2.2.1),(zq encMember p.2.2.2.2)],[])) q2)
noncomputable def r1_Get_B (name : Str) (l0 : List GMember) : Option (GValue × Bool) :=
 bnd (tloop (r1_Get_l1T name l0) 0) fun e18_2 => elim e18_2
 (fun p18 =>
 some ((GValue.mk 0 0 [] ([] : List GValue) ([] : List GMember)),false))
 (fun p18 =>
 some ((GValue.mk p18.1 p18.2.1 p18.2.2.1 p18.2.2.2.1 p18.2.2.2.2),true))
def r1_Get_ds : Decs := { decs := [(15,(.ref shMember)),(22,(.ref shMember))],loops := [(2,[(4,5)],⟨r1_Get_l1F,[],[(some 0,r1_Get_l1F,[]),(none,[.str,sf,(.ptr 0 4 0),.bool,n6,n6,n6,.str,sf,sf],[])]⟩)] }
theorem r1_Get_t1 (O : Orc) (LP : LBs) (name : Str) (l0 : List GMember) : eW 219 r1_Get_ds Tryz.f219 O LP [(.str name),(zq encMember l0)] [] = r1_Get_T1 O LP name l0 := by kernel_rfl
theorem r1_Get_l1_ok (name : Str) (l0 : List GMember) : Lok (r1_Get_l1R name l0) (r1_Get_l1T name l0) (r1_Get_l1 O loopLim) (r1_Get_l1X name l0) := by
 rintro i_6 l u ⟨rfl,rfl⟩
 simp only [r1_Get_l1T,r1_Get_l1,zd,zr]
 refine zG ?_
 try simp only [evs,tys]
 apply Imp.cnd
 ·refine zX encMember chk_GMember fun y8 _ => ?_
  try simp only [evs,tys]
  apply Imp.cnd
  ·refine zX encMember chk_GMember fun y10 _ => ?_
   try simp only [evs,tys]
   exact zT ⟨i_6,zE⟩
  ·exact zN
 ·exact zB ⟨i_6,zE⟩
theorem r1_Get_imp (name : Str) (l0 : List GMember) : Imp (r1_Get_B name l0) (r1_Get_T1 O loopLim name l0) (Ri value_GetE) := by
 simp only [r1_Get_B,r1_Get_T1,zd,zr]
 try simp only [evs,tys]
 refine zL (r1_Get_l1_ok name l0) ?_
 rintro (p | ⟨b_13,b_14,b_15,b_16,b_17⟩) vy18 hy18
 ·try simp only [elim_inl,elim_inr]
  obtain ⟨i_11,rfl⟩ := hy18
  refine zH ?_
  try simp only [evs,tys]
  exact zR
 ·try simp only [elim_inl,elim_inr]
  obtain ⟨i_12,rfl⟩ := hy18
  refine Imp.exMiss rfl ?_
  refine zH ?_
  try simp only [evs,tys]
  exact zR
theorem r1_Get_run {name : Str} {l0 : List GMember} {r : GValue × Bool} (h : r1_Get_B name l0 = some r) : r1_Get name l0 = some r := zV value_GetEj (r1_Get_imp name l0) Tryz.func219 (r1_Get_t1 _ _ name l0) h
def r1_Is_T1 (O : Orc) (LP : LBs) (t : GType) : Option (PV × UP) :=
 callp O 101 [(eT t)] fun x1 => cnd (chk .bool x1)
 (cnd (boolV x1)
 (some ((.bool ((bits .and .i64 t.musts 1) == 1)),[]))
 (some ((.bool false),[]))) none
noncomputable def r1_Is_B (t : GType) : Option Bool :=
 bnd (r1_RightType t) fun y2 =>
 cnd y2
 (some ((bits .and .i64 t.musts 1) == 1))
 (some false)
def r1_Is_ds : Decs := { decs := [(4,.bool)] }
theorem r1_Is_t1 (O : Orc) (LP : LBs) (t : GType) : eW 195 r1_Is_ds Tryz.f195 O LP [(eT t)] [] = r1_Is_T1 O LP t := by kernel_rfl
theorem r1_Is_imp (t : GType) : Imp (r1_Is_B t) (r1_Is_T1 O loopLim t) (Ri s6_ArgsRulesE) := by
 simp only [r1_Is_B,r1_Is_T1,zd,zr]
 try simp only [evs,tys]
 refine zC rfl fun y2 _ => ?_
 try simp only [zes,evs,tys]
 apply Imp.cnd
 ·exact zR
 ·exact zR
theorem r1_Is_run {t : GType} {r : Bool} (h : r1_Is_B t = some r) : r1_Is t = some r := zV s6_ArgsRulesEj (r1_Is_imp t) Tryz.func195 (r1_Is_t1 _ _ t) h
def r1_digit_T1 (O : Orc) (LP : LBs) (c : Int) : Option (PV × UP) :=
 cnd (decide (c ≥ 48))
 (some ((.bool (decide (c ≤ 57))),[]))
 (some ((.bool false),[]))
noncomputable def r1_digit_B (c : Int) : Option Bool :=
 cnd (decide (c ≥ 48))
 (some (decide (c ≤ 57)))
 (some false)
def r1_digit_ds : Decs := { }
theorem r1_digit_t1 (O : Orc) (LP : LBs) (c : Int) : eW 170 r1_digit_ds Tryz.f170 O LP [(.int .u8 c)] [] = r1_digit_T1 O LP c := by kernel_rfl
theorem r1_digit_imp (c : Int) : Imp (r1_digit_B c) (r1_digit_T1 O loopLim c) (Ri s6_ArgsRulesE) := by
 simp only [r1_digit_B,r1_digit_T1,zd,zr]
 try simp only [evs,tys]
 apply Imp.cnd
 ·exact zR
 ·exact zR
theorem r1_digit_run {c : Int} {r : Bool} (h : r1_digit_B c = some r) : r1_digit c = some r := zV s6_ArgsRulesEj (r1_digit_imp c) Tryz.func170 (r1_digit_t1 _ _ c) h
def de_Composite_T1 (O : Orc) (LP : LBs) (s : GSchema) (name : Str) : Option (PV × UP) :=
 callp O 201 [(eS s),(.str name),(.slice [(i6 1),(i6 2),(i6 3)] [] false)] fun x1 => cnd (chk .bool x1)
 (some ((.bool (boolV x1)),[])) none
noncomputable def de_Composite_B (s : GSchema) (name : Str) : Option Bool :=
 bnd (de_Kind s name [1,2,3]) fun y2 =>
 some y2
def de_Composite_ds : Decs := { decs := [(8,.bool)] }
theorem de_Composite_t1 (O : Orc) (LP : LBs) (s : GSchema) (name : Str) : eW 140 de_Composite_ds Tryz.f140 O LP [(eS s),(.str name)] [] = de_Composite_T1 O LP s name := by kernel_rfl
theorem de_Composite_imp (s : GSchema) (name : Str) : Imp (de_Composite_B s name) (de_Composite_T1 O loopLim s name) (Ri s6_ArgsRulesE) := by
 simp only [de_Composite_B,de_Composite_T1,zd,zr]
 try simp only [evs,tys]
 refine zC rfl fun y2 _ => ?_
 try simp only [zes,evs,tys]
 exact zR
theorem de_Composite_run {s : GSchema} {name : Str} {r : Bool} (h : de_Composite_B s name = some r) : de_Composite s name = some r := zV s6_ArgsRulesEj (de_Composite_imp s name) Tryz.func140 (de_Composite_t1 _ _ s name) h
abbrev de_Find_l1F : List Sh := [.str,(.ptr 0 4 0),.bool,sf,n6,n6,n6,.str,st',st',st',st',sf,.str,.str]
def de_Find_l1 (O : Orc) (LP : LBs) : LBody := fun s3 s3u => cnd (chkL de_Find_l1F s3) (cnd (chkU [] s3u)
 (cnd (decide ((iv s3 5) < (iv s3 4)))
 (bnd (ix 6 (zs s3 3) (zn s3 5)) fun x7 => cnd (chk (.ref shDef) x7)
 (cnd ((sv (rf x7) 1) == (sv s3 0))
 (some (.ret,(pu (pu (pu (pu (pu (pu (pu (rb de_Find_l1F s3) 2 (.bool true)) 6 (zn (rf x7) 0)) 7 (zt (rf x7) 1)) 8 (zs (rf x7) 2)) 9 (zs (rf x7) 3)) 10 (zs (rf x7) 4)) 11 (zs (rf x7) 5)),[]))
 (some (.nrm,(pu (rb de_Find_l1F s3) 5 (i6 (w6 ((iv s3 5) + 1)))),[]))) none)
 (some (.brk 0,(rb de_Find_l1F s3),[]))) none) none
def de_Find_T1 (O : Orc) (LP : LBs) (s : GSchema) (name : Str) : Option (PV × UP) :=
 callp O 216 [(.str name)] fun x1 => cnd (chk .bool x1)
 (cnd (boolV x1)
 (some ((.tuple [(.agg [(i6 0),(.str name),(.slice [] [] false),(.slice [] [] false),(.slice [] [] false),(.slice [] [] false)]),(.bool true)]),[]))
 (bnd (LP (de_Find_l1 O LP) [(.str name),(.ptr 0 4 0),(.bool false),(zq encDef s.defs),(i6 (List.length (List.map encDef s.defs) : Int)),(i6 0),(i6 0),(.str []),(.slice [] [] true),(.slice [] [] true),(.slice [] [] true),(.slice [] [] true),(zq encDef s.defs),(.str s.query),(.str s.mutation)] []) fun y17 =>
 exIs y17.1 (some 0) (cnd (chkL de_Find_l1F y17.2.1) (cnd (chkU [] y17.2.2)
 (some ((.tuple [(.agg [(i6 0),(.str []),(.slice [] [] false),(.slice [] [] false),(.slice [] [] false),(.slice [] [] false)]),(.bool false)]),[])) none) none)
 (exIs y17.1 none (cnd (chkL [.str,(.ptr 0 4 0),.bool,sf,n6,n6,n6,.str,sf,sf,sf,sf,sf,.str,.str] y17.2.1) (cnd (chkU [] y17.2.2)
 (some ((.tuple [(.agg [(zn y17.2.1 6),(zt y17.2.1 7),(zs y17.2.1 8),(zs y17.2.1 9),(zs y17.2.1 10),(zs y17.2.1 11)]),(zb y17.2.1 2)]),[])) none) none)
 (none)))) none
noncomputable def de_Find_l1T (s : GSchema) (name : Str) : Int → Option (Int ⊕ (Unit ⊕ (Int × Str × (List Str) × (List GFieldDef) × (List Str) × (List GParam))))
 | t_6 =>
 cnd (decide (t_6 < (List.length s.defs : Int)))
  (bnd (nthI s.defs t_6) fun y8 =>
  cnd (y8.name == name)
  (some (.inr (.inr (y8.kind,y8.name,y8.faces,y8.fields,y8.parts,y8.params))))
  (some (.inl (IntKind.wrap .i64 (t_6 + 1)))))
  (some (.inr (.inl ())))
abbrev de_Find_l1P (s : GSchema) (name : Str) (a0 a1 a2 a3 a4 a5 a6 a7 : PV) : List PV := [(.str name),(.ptr 0 4 0),a0,(zq encDef s.defs),(i6 (List.length s.defs : Int)),a1,a2,a3,a4,a5,a6,a7,(zq encDef s.defs),(.str s.query),(.str s.mutation)]
abbrev de_Find_l1R (s : GSchema) (name : Str) (st : Int) (l : List PV) (u : UP) : Prop := l = (de_Find_l1P s name (.bool false) (i6 st) (i6 0) (.str []) (.slice [] [] true) (.slice [] [] true) (.slice [] [] true) (.slice [] [] true)) ∧ u = []
abbrev de_Find_l1X (s : GSchema) (name : Str) (p : Unit ⊕ (Int × Str × (List Str) × (List GFieldDef) × (List Str) × (List GParam))) (r : EU) : Prop := elim p (fun (p : Unit) => ∃ (t_9 : Int),r = (Ex.brk 0,(de_Find_l1P s name (.bool false) (i6 t_9) (i6 0) (.str []) (.slice [] [] true) (.slice [] [] true) (.slice [] [] true) (.slice [] [] true)),[])) (fun (p : Int × Str × (List Str) × (List GFieldDef) × (List Str) × (List GParam)) => ∃ (t_10 : Int),r = (Ex.ret,(de_Find_l1P s name (.bool true) (i6 t_10) (i6 p.1) (.str p.2.1) (zq PV.str p.2.2.1) (zq encFieldDef p.2.2.2.1) (zq PV.str p.2.2.2.2.1) (zq encParam p.2.2.2.2.2)),[]))
noncomputable def de_Find_B (s : GSchema) (name : Str) : Option (GDef × Bool) :=
 bnd (de_scalar name) fun y2 =>
 cnd y2
 (some ((GDef.mk 0 name ([] : List Str) ([] : List GFieldDef) ([] : List Str) ([] : List GParam)),true))
 (bnd (tloop (de_Find_l1T s name) 0) fun e17_2 => elim e17_2
 (fun p17 =>
 some ((GDef.mk 0 [] ([] : List Str) ([] : List GFieldDef) ([] : List Str) ([] : List GParam)),false))
 (fun p17 =>
 some ((GDef.mk p17.1 p17.2.1 p17.2.2.1 p17.2.2.2.1 p17.2.2.2.2.1 p17.2.2.2.2.2),true)))
def de_Find_ds : Decs := { decs := [(9,.bool),(17,(.ref shDef))],loops := [(4,[(4,6),(2,3)],⟨de_Find_l1F,[],[(some 0,de_Find_l1F,[]),(none,[.str,(.ptr 0 4 0),.bool,sf,n6,n6,n6,.str,sf,sf,sf,sf,sf,.str,.str],[])]⟩)] }
theorem de_Find_t1 (O : Orc) (LP : LBs) (s : GSchema) (name : Str) : eW 178 de_Find_ds Tryz.f178 O LP [(eS s),(.str name)] [] = de_Find_T1 O LP s name := by kernel_rfl
theorem de_Find_l1_ok (s : GSchema) (name : Str) : Lok (de_Find_l1R s name) (de_Find_l1T s name) (de_Find_l1 O loopLim) (de_Find_l1X s name) := by
 rintro t_6 l u ⟨rfl,rfl⟩
 simp only [de_Find_l1T,de_Find_l1,zd,zr]
 refine zG ?_
 try simp only [evs,tys]
 apply Imp.cnd
 ·refine zX encDef chk_GDef fun y8 _ => ?_
  try simp only [evs,tys]
  apply Imp.cnd
  ·exact zT ⟨t_6,zE⟩
  ·exact zN
 ·exact zB ⟨t_6,zE⟩
theorem de_Find_imp (s : GSchema) (name : Str) : Imp (de_Find_B s name) (de_Find_T1 O loopLim s name) (Ri r9_FindE) := by
 simp only [de_Find_B,de_Find_T1,zd,zr]
 try simp only [evs,tys]
 refine zC rfl fun y2 _ => ?_
 try simp only [zes,evs,tys]
 apply Imp.cnd
 ·exact zR
 ·refine zL (de_Find_l1_ok s name) ?_
  rintro (p | ⟨b_11,b_12,b_13,b_14,b_15,b_16⟩) vy17 hy17
  ·try simp only [elim_inl,elim_inr]
   obtain ⟨t_9,rfl⟩ := hy17
   refine zH ?_
   try simp only [evs,tys]
   exact zR
  ·try simp only [elim_inl,elim_inr]
   obtain ⟨t_10,rfl⟩ := hy17
   refine Imp.exMiss rfl ?_
   refine zH ?_
   try simp only [evs,tys]
   exact zR
theorem de_Find_run {s : GSchema} {name : Str} {r : GDef × Bool} (h : de_Find_B s name = some r) : de_Find s name = some r := zV r9_FindEj (de_Find_imp s name) Tryz.func178 (de_Find_t1 _ _ s name) h
def dirs_Param_T1 (O : Orc) (LP : LBs) (name : Str) : Option (PV × UP) :=
 cnd (!(name == ([115,107,105,112] : Str)))
 (cnd (!(name == ([105,110,99,108,117,100,101] : Str)))
 (some ((.tuple [(.agg [(.str []),(.str []),(i6 0),(i6 0),(.bool false),(i6 0),(i6 0),(.str []),(.slice [] [] false),(.slice [] [] false)]),(.bool false)]),[]))
 (some ((.tuple [(.agg [(.str [105,102]),(.str [66,111,111,108,101,97,110]),(i6 0),(i6 1),(.bool false),(i6 0),(i6 0),(.str []),(.slice [] [] false),(.slice [] [] false)]),(.bool true)]),[])))
 (some ((.tuple [(.agg [(.str [105,102]),(.str [66,111,111,108,101,97,110]),(i6 0),(i6 1),(.bool false),(i6 0),(i6 0),(.str []),(.slice [] [] false),(.slice [] [] false)]),(.bool true)]),[]))
noncomputable def dirs_Param_B (name : Str) : Option (GParam × Bool) :=
 cnd (!(name == ([115,107,105,112] : Str)))
 (cnd (!(name == ([105,110,99,108,117,100,101] : Str)))
 (some ((GParam.mk [] (GType.mk [] 0 0) false (GValue.mk 0 0 [] ([] : List GValue) ([] : List GMember))),false))
 (some ((GParam.mk [105,102] (GType.mk [66,111,111,108,101,97,110] 0 1) false (GValue.mk 0 0 [] ([] : List GValue) ([] : List GMember))),true)))
 (some ((GParam.mk [105,102] (GType.mk [66,111,111,108,101,97,110] 0 1) false (GValue.mk 0 0 [] ([] : List GValue) ([] : List GMember))),true))
def dirs_Param_ds : Decs := { }
theorem dirs_Param_t1 (O : Orc) (LP : LBs) (name : Str) : eW 34 dirs_Param_ds Tryz.f34 O LP [(.str name)] [] = dirs_Param_T1 O LP name := by kernel_rfl
theorem dirs_Param_imp (name : Str) : Imp (dirs_Param_B name) (dirs_Param_T1 O loopLim name) (Ri li_ParamE) := by
 simp only [dirs_Param_B,dirs_Param_T1,zd,zr]
 try simp only [evs,tys]
 apply Imp.cnd
 ·apply Imp.cnd
  ·exact zR
  ·exact zR
 ·exact zR
theorem dirs_Param_run {name : Str} {r : GParam × Bool} (h : dirs_Param_B name = some r) : dirs_Param name = some r := zV li_ParamEj (dirs_Param_imp name) Tryz.func34 (dirs_Param_t1 _ _ name) h
abbrev ar_Once_i1_l1F : List Sh := [sf,.bool,sf,n6,n6]
def ar_Once_i1_l1 (O : Orc) (LP : LBs) : LBody := fun s1 s1u => cnd (chkL ar_Once_i1_l1F s1) (cnd (chkU [] s1u)
 (cnd (decide ((iv s1 4) < (iv s1 3)))
 (bnd (ix 6 (zs s1 2) (zn s1 4)) fun x9 => cnd (chk (.ref shMember) x9)
 (bnd (slcHi 6 (zs s1 0) (zn s1 4)) fun x11 => cnd (chk (.slb false) x11)
 (callp O 106 [(zt (rf x9) 0),(.slice (esV x11) [] false)] fun x13 => cnd (chk (.tup [shValue,.bool]) x13)
 (cnd (boolV (tv x13 1))
 (some (.ret,(pu (rb ar_Once_i1_l1F s1) 1 (.bool false)),[]))
 (some (.nrm,(pu (rb ar_Once_i1_l1F s1) 4 (i6 (w6 ((iv s1 4) + 1)))),[]))) none) none) none)
 (some (.brk 0,(rb ar_Once_i1_l1F s1),[]))) none) none
def ar_Once_i1_T1 (O : Orc) (LP : LBs) (l0 : List GMember) : Option (PV × UP) :=
 bnd (LP (ar_Once_i1_l1 O LP) [(zq encMember l0),(.bool false),(zq encMember l0),(i6 (List.length (List.map encMember l0) : Int)),(i6 0)] []) fun y17 =>
 exIs y17.1 (some 0) (cnd (chkL ar_Once_i1_l1F y17.2.1) (cnd (chkU [] y17.2.2)
 (some ((.bool true),[])) none) none)
 (exIs y17.1 none (cnd (chkL ar_Once_i1_l1F y17.2.1) (cnd (chkU [] y17.2.2)
 (some ((zb y17.2.1 1),[])) none) none)
 (none))
noncomputable def ar_Once_i1_l1T (l0 : List GMember) : Int → Option (Int ⊕ (Unit ⊕ Unit))
 | t_8 =>
 cnd (decide (t_8 < (List.length l0 : Int)))
  (bnd (nthI l0 t_8) fun y10 =>
  bnd (tslc (l0 : List GMember) 0 t_8) fun y12 =>
  bnd (value_Get y10.name y12) fun y14 =>
  cnd y14.2
  (some (.inr (.inr ())))
  (some (.inl (IntKind.wrap .i64 (t_8 + 1)))))
  (some (.inr (.inl ())))
abbrev ar_Once_i1_l1P (l0 : List GMember) (a0 : PV) : List PV := [(zq encMember l0),(.bool false),(zq encMember l0),(i6 (List.length l0 : Int)),a0]
abbrev ar_Once_i1_l1R (l0 : List GMember) (st : Int) (l : List PV) (u : UP) : Prop := l = (ar_Once_i1_l1P l0 (i6 st)) ∧ u = []
abbrev ar_Once_i1_l1X (l0 : List GMember) (p : Unit ⊕ Unit) (r : EU) : Prop := elim p (fun (p : Unit) => ∃ (t_15 : Int),r = (Ex.brk 0,(ar_Once_i1_l1P l0 (i6 t_15)),[])) (fun (p : Unit) => ∃ (t_16 : Int),r = (Ex.ret,(ar_Once_i1_l1P l0 (i6 t_16)),[]))
noncomputable def ar_Once_i1_B (l0 : List GMember) : Option Bool :=
 bnd (tloop (ar_Once_i1_l1T l0) 0) fun e17_2 => elim e17_2
 (fun p17 =>
 some true)
 (fun p17 =>
 some false)
def ar_Once_i1_ds : Decs := { decs := [(12,(.ref shMember)),(19,(.slb false)),(20,(.tup [shValue,.bool]))],loops := [(2,[],⟨ar_Once_i1_l1F,[],[(some 0,ar_Once_i1_l1F,[]),(none,ar_Once_i1_l1F,[])]⟩)] }
theorem ar_Once_i1_t1 (O : Orc) (LP : LBs) (l0 : List GMember) : eW 45 ar_Once_i1_ds Tryz.f45 O LP [(zq encMember l0)] [] = ar_Once_i1_T1 O LP l0 := by kernel_rfl
theorem ar_Once_i1_l1_ok (l0 : List GMember) : Lok (ar_Once_i1_l1R l0) (ar_Once_i1_l1T l0) (ar_Once_i1_l1 O loopLim) (ar_Once_i1_l1X l0) := by
 rintro t_8 l u ⟨rfl,rfl⟩
 simp only [ar_Once_i1_l1T,ar_Once_i1_l1,zd,zr]
 refine zG ?_
 try simp only [evs,tys]
 apply Imp.cnd
 ·refine zX encMember chk_GMember fun y10 _ => ?_
  try simp only [evs,tys]
  refine Imp.op2 (f := fun a b => .slice (List.map encMember a) (List.map encMember b) false) (fun a h => op_slcHi (enc := encMember) (b := _) zI (by first | rfl | exact List.map_nil.symm | simp only [evs,tys,evl]) (fun a => by first | rfl | simp only [evs,tys,evc]) h) (fun a b => rfl) fun y12 jby12 hy12 => ?_
  try simp only [evs,tys]
  refine zC rfl fun y14 _ => ?_
  try simp only [zes,evs,tys]
  apply Imp.cnd
  ·exact zT ⟨t_8,zE⟩
  ·exact zN
 ·exact zB ⟨t_8,zE⟩
theorem ar_Once_i1_imp (l0 : List GMember) : Imp (ar_Once_i1_B l0) (ar_Once_i1_T1 O loopLim l0) (Ri s6_ArgsRulesE) := by
 simp only [ar_Once_i1_B,ar_Once_i1_T1,zd,zr]
 try simp only [evs,tys]
 refine zL (ar_Once_i1_l1_ok l0) ?_
 rintro (p | p) vy17 hy17
 ·try simp only [elim_inl,elim_inr]
  obtain ⟨t_15,rfl⟩ := hy17
  refine zH ?_
  try simp only [evs,tys]
  exact zR
 ·try simp only [elim_inl,elim_inr]
  obtain ⟨t_16,rfl⟩ := hy17
  refine Imp.exMiss rfl ?_
  refine zH ?_
  try simp only [evs,tys]
  exact zR
theorem ar_Once_i1_run {l0 : List GMember} {r : Bool} (h : ar_Once_i1_B l0 = some r) : ar_Once_i1 l0 = some r := zV s6_ArgsRulesEj (ar_Once_i1_imp l0) Tryz.func45 (ar_Once_i1_t1 _ _ l0) h
def li_Required_T1 (O : Orc) (LP : LBs) (p0 : GParam) : Option (PV × UP) :=
 callp O 181 [(eT p0.t)] fun x1 => cnd (chk .bool x1)
 (cnd (boolV x1)
 (some ((.bool (!p0.has)),[]))
 (some ((.bool false),[]))) none
noncomputable def li_Required_B (p0 : GParam) : Option Bool :=
 bnd (wrap_Is p0.t) fun y2 =>
 cnd y2
 (some (!p0.has))
 (some false)
def li_Required_ds : Decs := { decs := [(5,.bool)] }
theorem li_Required_t1 (O : Orc) (LP : LBs) (p0 : GParam) : eW 111 li_Required_ds Tryz.f111 O LP [(.agg [(.str p0.name),(.str p0.t.name),(i6 p0.t.lists),(i6 p0.t.musts),(.bool p0.has),(i6 p0.default.kind),(i6 p0.default.n),(.str p0.default.s),(zq encValue p0.default.l),(zq encMember p0.default.m)])] [] = li_Required_T1 O LP p0 := by kernel_rfl
theorem li_Required_imp (p0 : GParam) : Imp (li_Required_B p0) (li_Required_T1 O loopLim p0) (Ri s6_ArgsRulesE) := by
 simp only [li_Required_B,li_Required_T1,zd,zr]
 try simp only [evs,tys]
 refine zC rfl fun y2 _ => ?_
 try simp only [zes,evs,tys]
 apply Imp.cnd
 ·exact zR
 ·exact zR
theorem li_Required_run {p0 : GParam} {r : Bool} (h : li_Required_B p0 = some r) : li_Required p0 = some r := zV s6_ArgsRulesEj (li_Required_imp p0) Tryz.func111 (li_Required_t1 _ _ p0) h
def r9_Composite_T1 (O : Orc) (LP : LBs) (s : GSchema) (name : Str) : Option (PV × UP) :=
 callp O 159 [(eS s),(.str name),(i6 1),(i6 2),(i6 3)] fun x1 => cnd (chk .bool x1)
 (some ((.bool (boolV x1)),[])) none
noncomputable def r9_Composite_B (s : GSchema) (name : Str) : Option Bool :=
 bnd (r9_is s name 1 2 3) fun y2 =>
 some y2
def r9_Composite_ds : Decs := { decs := [(7,.bool)] }
theorem r9_Composite_t1 (O : Orc) (LP : LBs) (s : GSchema) (name : Str) : eW 112 r9_Composite_ds Tryz.f112 O LP [(eS s),(.str name)] [] = r9_Composite_T1 O LP s name := by kernel_rfl
theorem r9_Composite_imp (s : GSchema) (name : Str) : Imp (r9_Composite_B s name) (r9_Composite_T1 O loopLim s name) (Ri s6_ArgsRulesE) := by
 simp only [r9_Composite_B,r9_Composite_T1,zd,zr]
 try simp only [evs,tys]
 refine zC rfl fun y2 _ => ?_
 try simp only [zes,evs,tys]
 exact zR
theorem r9_Composite_run {s : GSchema} {name : Str} {r : Bool} (h : r9_Composite_B s name = some r) : r9_Composite s name = some r := zV s6_ArgsRulesEj (r9_Composite_imp s name) Tryz.func112 (r9_Composite_t1 _ _ s name) h
def r3_Within_T1 (O : Orc) (LP : LBs) (s : GSchema) (typ : Str) (x : GSel) : Option (PV × UP) :=
 cnd (x.kind == 0)
 (callp O 117 [(eS s),(.str typ),(.str x.name)] fun x1 => cnd (chk (.tup [shFieldDef,.bool]) x1)
 (some ((zt (tg x1 0) 2),[])) none)
 (cnd (x.kind == 2)
 (cnd (x.on_ == ([] : Str))
 (some ((.str typ),[]))
 (some ((.str x.on_),[])))
 (some ((.str []),[])))
noncomputable def r3_Within_B (s : GSchema) (typ : Str) (x : GSel) : Option Str :=
 cnd (x.kind == 0)
 (bnd (r9_Field s typ x.name) fun y2 =>
 some y2.1.t.name)
 (cnd (x.kind == 2)
 (cnd (x.on_ == ([] : Str))
 (some typ)
 (some x.on_))
 (some []))
def r3_Within_ds : Decs := { decs := [(18,(.tup [shFieldDef,.bool]))] }
theorem r3_Within_t1 (O : Orc) (LP : LBs) (s : GSchema) (typ : Str) (x : GSel) : eW 184 r3_Within_ds Tryz.f184 O LP [(eS s),(.str typ),(eL x)] [] = r3_Within_T1 O LP s typ x := by kernel_rfl
theorem r3_Within_imp (s : GSchema) (typ : Str) (x : GSel) : Imp (r3_Within_B s typ x) (r3_Within_T1 O loopLim s typ x) (Ri fi_RootE) := by
 simp only [r3_Within_B,r3_Within_T1,zd,zr]
 try simp only [evs,tys]
 apply Imp.cnd
 ·refine zC rfl fun y2 _ => ?_
  try simp only [zes,evs,tys]
  exact zR
 ·apply Imp.cnd
  ·apply Imp.cnd
   ·exact zR
   ·exact zR
  ·exact zR
theorem r3_Within_run {s : GSchema} {typ : Str} {x : GSel} {r : Str} (h : r3_Within_B s typ x = some r) : r3_Within s typ x = some r := zV fi_RootEj (r3_Within_imp s typ x) Tryz.func184 (r3_Within_t1 _ _ s typ x) h
def r1_start_T1 (O : Orc) (LP : LBs) (c : Int) : Option (PV × UP) :=
 cnd (decide (c ≥ 97))
 (cnd (decide (c ≤ 122))
 (some ((.bool true),[]))
 (cnd (decide (c ≥ 65))
 (cnd (decide (c ≤ 90))
 (some ((.bool true),[]))
 (some ((.bool (c == 95)),[])))
 (some ((.bool (c == 95)),[]))))
 (cnd (decide (c ≥ 65))
 (cnd (decide (c ≤ 90))
 (some ((.bool true),[]))
 (some ((.bool (c == 95)),[])))
 (some ((.bool (c == 95)),[])))
noncomputable def r1_start_B (c : Int) : Option Bool :=
 cnd (decide (c ≥ 97))
 (cnd (decide (c ≤ 122))
 (some true)
 (cnd (decide (c ≥ 65))
 (cnd (decide (c ≤ 90))
 (some true)
 (some (c == 95)))
 (some (c == 95))))
 (cnd (decide (c ≥ 65))
 (cnd (decide (c ≤ 90))
 (some true)
 (some (c == 95)))
 (some (c == 95)))
def r1_start_ds : Decs := { }
theorem r1_start_t1 (O : Orc) (LP : LBs) (c : Int) : eW 169 r1_start_ds Tryz.f169 O LP [(.int .u8 c)] [] = r1_start_T1 O LP c := by kernel_rfl
theorem r1_start_imp (c : Int) : Imp (r1_start_B c) (r1_start_T1 O loopLim c) (Ri s6_ArgsRulesE) := by
 simp only [r1_start_B,r1_start_T1,zd,zr]
 try simp only [evs,tys]
 apply Imp.cnd
 ·apply Imp.cnd
  ·exact zR
  ·apply Imp.cnd
   ·apply Imp.cnd
    ·exact zR
    ·exact zR
   ·exact zR
 ·apply Imp.cnd
  ·apply Imp.cnd
   ·exact zR
   ·exact zR
  ·exact zR
theorem r1_start_run {c : Int} {r : Bool} (h : r1_start_B c = some r) : r1_start c = some r := zV s6_ArgsRulesEj (r1_start_imp c) Tryz.func169 (r1_start_t1 _ _ c) h
def de_Kind_T1 (O : Orc) (LP : LBs) (s : GSchema) (name : Str) (kinds : List Int) : Option (PV × UP) :=
 callp O 178 [(eS s),(.str name)] fun x1 => cnd (chk (.tup [shDef,.bool]) x1)
 (cnd (boolV (tv x1 1))
 (callp O 228 [(.slice (List.map (PV.int .i64) kinds) [] false),(zn (tg x1 0) 0)] fun x3 => cnd (chk .bool x3)
 (some ((.bool (boolV x3)),[])) none)
 (some ((.bool false),[]))) none
noncomputable def de_Kind_B (s : GSchema) (name : Str) (kinds : List Int) : Option Bool :=
 bnd (de_Find s name) fun y2 =>
 cnd y2.2
 (bnd (slices_Contains_int_int kinds y2.1.kind) fun y4 =>
 some y4)
 (some false)
def de_Kind_ds : Decs := { decs := [(12,(.tup [shDef,.bool])),(20,.bool)] }
theorem de_Kind_t1 (O : Orc) (LP : LBs) (s : GSchema) (name : Str) (kinds : List Int) : eW 201 de_Kind_ds Tryz.f201 O LP [(eS s),(.str name),(.slice (List.map (PV.int .i64) kinds) [] false)] [] = de_Kind_T1 O LP s name kinds := by kernel_rfl
theorem de_Kind_imp (s : GSchema) (name : Str) (kinds : List Int) : Imp (de_Kind_B s name kinds) (de_Kind_T1 O loopLim s name kinds) (Ri s6_ArgsRulesE) := by
 simp only [de_Kind_B,de_Kind_T1,zd,zr]
 try simp only [evs,tys]
 refine zC rfl fun y2 _ => ?_
 try simp only [zes,evs,tys]
 apply Imp.cnd
 ·refine zC rfl fun y4 _ => ?_
  try simp only [zes,evs,tys]
  exact zR
 ·exact zR
theorem de_Kind_run {s : GSchema} {name : Str} {kinds : List Int} {r : Bool} (h : de_Kind_B s name kinds = some r) : de_Kind s name kinds = some r := zV s6_ArgsRulesEj (de_Kind_imp s name kinds) Tryz.func201 (de_Kind_t1 _ _ s name kinds) h
def de_scalar_T1 (O : Orc) (LP : LBs) (name : Str) : Option (PV × UP) :=
 cnd (name == ([73,110,116] : Str))
 (some ((.bool true),[]))
 (cnd (name == ([83,116,114,105,110,103] : Str))
 (some ((.bool true),[]))
 (cnd (name == ([66,111,111,108,101,97,110] : Str))
 (some ((.bool true),[]))
 (some ((.bool (name == ([73,68] : Str))),[]))))
noncomputable def de_scalar_B (name : Str) : Option Bool :=
 cnd (name == ([73,110,116] : Str))
 (some true)
 (cnd (name == ([83,116,114,105,110,103] : Str))
 (some true)
 (cnd (name == ([66,111,111,108,101,97,110] : Str))
 (some true)
 (some (name == ([73,68] : Str)))))
def de_scalar_ds : Decs := { }
theorem de_scalar_t1 (O : Orc) (LP : LBs) (name : Str) : eW 216 de_scalar_ds Tryz.f216 O LP [(.str name)] [] = de_scalar_T1 O LP name := by kernel_rfl
theorem de_scalar_imp (name : Str) : Imp (de_scalar_B name) (de_scalar_T1 O loopLim name) (Ri s6_ArgsRulesE) := by
 simp only [de_scalar_B,de_scalar_T1,zd,zr]
 try simp only [evs,tys]
 apply Imp.cnd
 ·exact zR
 ·apply Imp.cnd
  ·exact zR
  ·apply Imp.cnd
   ·exact zR
   ·exact zR
theorem de_scalar_run {name : Str} {r : Bool} (h : de_scalar_B name = some r) : de_scalar name = some r := zV s6_ArgsRulesEj (de_scalar_imp name) Tryz.func216 (de_scalar_t1 _ _ name) h
def wrap_Is_T1 (O : Orc) (LP : LBs) (t : GType) : Option (PV × UP) :=
 callp O 217 [(eT t)] fun x1 => cnd (chk .bool x1)
 (cnd (boolV x1)
 (callp O 218 [(eT t),(i6 0)] fun x3 => cnd (chk .bool x3)
 (some ((.bool (boolV x3)),[])) none)
 (some ((.bool false),[]))) none
noncomputable def wrap_Is_B (t : GType) : Option Bool :=
 bnd (wrap_Right t) fun y2 =>
 cnd y2
 (bnd (wrap_bit t 0) fun y4 =>
 some y4)
 (some false)
def wrap_Is_ds : Decs := { decs := [(4,.bool),(7,.bool)] }
theorem wrap_Is_t1 (O : Orc) (LP : LBs) (t : GType) : eW 181 wrap_Is_ds Tryz.f181 O LP [(eT t)] [] = wrap_Is_T1 O LP t := by kernel_rfl
theorem wrap_Is_imp (t : GType) : Imp (wrap_Is_B t) (wrap_Is_T1 O loopLim t) (Ri s6_ArgsRulesE) := by
 simp only [wrap_Is_B,wrap_Is_T1,zd,zr]
 try simp only [evs,tys]
 refine zC rfl fun y2 _ => ?_
 try simp only [zes,evs,tys]
 apply Imp.cnd
 ·refine zC rfl fun y4 _ => ?_
  try simp only [zes,evs,tys]
  exact zR
 ·exact zR
theorem wrap_Is_run {t : GType} {r : Bool} (h : wrap_Is_B t = some r) : wrap_Is t = some r := zV s6_ArgsRulesEj (wrap_Is_imp t) Tryz.func181 (wrap_Is_t1 _ _ t) h
def slices_Contains_int_int_T1 (O : Orc) (LP : LBs) (s : List Int) (v0 : Int) : Option (PV × UP) :=
 callp O 245 [(.slice (List.map (PV.int .i64) s) [] false),(i6 v0)] fun x1 => cnd (chk n6 x1)
 (some ((.bool (decide ((intV x1) ≥ 0))),[])) none
noncomputable def slices_Contains_int_int_B (s : List Int) (v0 : Int) : Option Bool :=
 bnd (slices_Index_int_int s v0) fun y2 =>
 some (decide (y2 ≥ 0))
def slices_Contains_int_int_ds : Decs := { decs := [(7,n6)] }
theorem slices_Contains_int_int_t1 (O : Orc) (LP : LBs) (s : List Int) (v0 : Int) : eW 228 slices_Contains_int_int_ds Tryz.f228 O LP [(.slice (List.map (PV.int .i64) s) [] false),(i6 v0)] [] = slices_Contains_int_int_T1 O LP s v0 := by kernel_rfl
theorem slices_Contains_int_int_imp (s : List Int) (v0 : Int) : Imp (slices_Contains_int_int_B s v0) (slices_Contains_int_int_T1 O loopLim s v0) (Ri s6_ArgsRulesE) := by
 simp only [slices_Contains_int_int_B,slices_Contains_int_int_T1,zd,zr]
 try simp only [evs,tys]
 refine zC rfl fun y2 _ => ?_
 try simp only [zes,evs,tys]
 exact zR
theorem slices_Contains_int_int_run {s : List Int} {v0 : Int} {r : Bool} (h : slices_Contains_int_int_B s v0 = some r) : slices_Contains_int_int s v0 = some r := zV s6_ArgsRulesEj (slices_Contains_int_int_imp s v0) Tryz.func228 (slices_Contains_int_int_t1 _ _ s v0) h
def wrap_Right_T1 (O : Orc) (LP : LBs) (t : GType) : Option (PV × UP) :=
 callp O 237 [(.str t.name)] fun x1 => cnd (chk .bool x1)
 (cnd (boolV x1)
 (cnd (decide (t.lists ≥ 0))
 (cnd (decide (t.lists ≤ 4))
 (cnd (decide (t.musts ≥ 0))
 (bnd (bin .shr (i6 t.musts) (i6 (w6 (t.lists + 1)))) fun x3 => cnd (chk n6 x3)
 (some ((.bool ((intV x3) == 0)),[])) none)
 (some ((.bool false),[])))
 (some ((.bool false),[])))
 (some ((.bool false),[])))
 (some ((.bool false),[]))) none
noncomputable def wrap_Right_B (t : GType) : Option Bool :=
 bnd (ls_Name t.name) fun y2 =>
 cnd y2
 (cnd (decide (t.lists ≥ 0))
 (cnd (decide (t.lists ≤ 4))
 (cnd (decide (t.musts ≥ 0))
 (bnd (tshr .i64 t.musts (IntKind.wrap .i64 (t.lists + 1))) fun y4 =>
 some (y4 == 0))
 (some false))
 (some false))
 (some false))
 (some false)
def wrap_Right_ds : Decs := { decs := [(5,.bool),(27,n6)] }
theorem wrap_Right_t1 (O : Orc) (LP : LBs) (t : GType) : eW 217 wrap_Right_ds Tryz.f217 O LP [(eT t)] [] = wrap_Right_T1 O LP t := by kernel_rfl
theorem wrap_Right_imp (t : GType) : Imp (wrap_Right_B t) (wrap_Right_T1 O loopLim t) (Ri s6_ArgsRulesE) := by
 simp only [wrap_Right_B,wrap_Right_T1,zd,zr]
 try simp only [evs,tys]
 refine zC rfl fun y2 _ => ?_
 try simp only [zes,evs,tys]
 apply Imp.cnd
 ·apply Imp.cnd
  ·apply Imp.cnd
   ·apply Imp.cnd
    ·refine Imp.op (f := fun a => .int _ a) (fun a h => op_shr h) (fun a => rfl) fun y4 hy4 => ?_
     try simp only [evs,tys]
     exact zR
    ·exact zR
   ·exact zR
  ·exact zR
 ·exact zR
theorem wrap_Right_run {t : GType} {r : Bool} (h : wrap_Right_B t = some r) : wrap_Right t = some r := zV s6_ArgsRulesEj (wrap_Right_imp t) Tryz.func217 (wrap_Right_t1 _ _ t) h
def wrap_bit_T1 (O : Orc) (LP : LBs) (t : GType) (i : Int) : Option (PV × UP) :=
 bnd (bin .shr (i6 t.musts) (i6 i)) fun x1 => cnd (chk n6 x1)
 (some ((.bool ((bits .and .i64 (intV x1) 1) == 1)),[])) none
noncomputable def wrap_bit_B (t : GType) (i : Int) : Option Bool :=
 bnd (tshr .i64 t.musts i) fun y2 =>
 some ((bits .and .i64 y2 1) == 1)
def wrap_bit_ds : Decs := { decs := [(8,n6)] }
theorem wrap_bit_t1 (O : Orc) (LP : LBs) (t : GType) (i : Int) : eW 218 wrap_bit_ds Tryz.f218 O LP [(eT t),(i6 i)] [] = wrap_bit_T1 O LP t i := by kernel_rfl
theorem wrap_bit_imp (t : GType) (i : Int) : Imp (wrap_bit_B t i) (wrap_bit_T1 O loopLim t i) (Ri s6_ArgsRulesE) := by
 simp only [wrap_bit_B,wrap_bit_T1,zd,zr]
 try simp only [evs,tys]
 refine Imp.op (f := fun a => .int _ a) (fun a h => op_shr h) (fun a => rfl) fun y2 hy2 => ?_
 try simp only [evs,tys]
 exact zR
theorem wrap_bit_run {t : GType} {i : Int} {r : Bool} (h : wrap_bit_B t i = some r) : wrap_bit t i = some r := zV s6_ArgsRulesEj (wrap_bit_imp t i) Tryz.func218 (wrap_bit_t1 _ _ t i) h
abbrev slices_Index_int_int_l1F : List Sh := [sf,n6,n6,n6,n6]
def slices_Index_int_int_l1 (O : Orc) (LP : LBs) : LBody := fun s1 s1u => cnd (chkL slices_Index_int_int_l1F s1) (cnd (chkU [] s1u)
 (cnd (decide ((iv s1 4) < (iv s1 3)))
 (bnd (ix 1 (zs s1 0) (zn s1 4)) fun x5 => cnd (chk (.ref n6) x5)
 (cnd ((iv s1 1) == (intV (refV x5)))
 (some (.ret,(pu (rb slices_Index_int_int_l1F s1) 2 (zn s1 4)),[]))
 (some (.nrm,(pu (rb slices_Index_int_int_l1F s1) 4 (i6 (w6 ((iv s1 4) + 1)))),[]))) none)
 (some (.brk 0,(rb slices_Index_int_int_l1F s1),[]))) none) none
def slices_Index_int_int_T1 (O : Orc) (LP : LBs) (s : List Int) (v0 : Int) : Option (PV × UP) :=
 bnd (LP (slices_Index_int_int_l1 O LP) [(.slice (List.map (PV.int .i64) s) [] false),(i6 v0),(i6 0),(i6 (List.length (List.map (PV.int .i64) s) : Int)),(i6 0)] []) fun y10 =>
 exIs y10.1 (some 0) (cnd (chkL slices_Index_int_int_l1F y10.2.1) (cnd (chkU [] y10.2.2)
 (some ((i6 (-1)),[])) none) none)
 (exIs y10.1 none (cnd (chkL slices_Index_int_int_l1F y10.2.1) (cnd (chkU [] y10.2.2)
 (some ((zn y10.2.1 2),[])) none) none)
 (none))
noncomputable def slices_Index_int_int_l1T (s : List Int) (v0 : Int) : Int → Option (Int ⊕ (Unit ⊕ Int))
 | t_4 =>
 cnd (decide (t_4 < (List.length s : Int)))
  (bnd (nthI s t_4) fun y6 =>
  cnd (v0 == y6)
  (some (.inr (.inr t_4)))
  (some (.inl (IntKind.wrap .i64 (t_4 + 1)))))
  (some (.inr (.inl ())))
abbrev slices_Index_int_int_l1P (s : List Int) (v0 : Int) (a0 a1 : PV) : List PV := [(.slice (List.map (PV.int .i64) s) [] false),(i6 v0),a0,(i6 (List.length s : Int)),a1]
abbrev slices_Index_int_int_l1R (s : List Int) (v0 : Int) (st : Int) (l : List PV) (u : UP) : Prop := l = (slices_Index_int_int_l1P s v0 (i6 0) (i6 st)) ∧ u = []
abbrev slices_Index_int_int_l1X (s : List Int) (v0 : Int) (p : Unit ⊕ Int) (r : EU) : Prop := elim p (fun (p : Unit) => ∃ (t_7 : Int),r = (Ex.brk 0,(slices_Index_int_int_l1P s v0 (i6 0) (i6 t_7)),[])) (fun (p : Int) => ∃ (t_9 : Int),r = (Ex.ret,(slices_Index_int_int_l1P s v0 (i6 p) (i6 t_9)),[]))
noncomputable def slices_Index_int_int_B (s : List Int) (v0 : Int) : Option Int :=
 bnd (tloop (slices_Index_int_int_l1T s v0) 0) fun e10_2 => elim e10_2
 (fun p10 =>
 some (-1))
 (fun t_8 =>
 some t_8)
def slices_Index_int_int_ds : Decs := { decs := [(14,(.ref n6))],loops := [(2,[],⟨slices_Index_int_int_l1F,[],[(some 0,slices_Index_int_int_l1F,[]),(none,slices_Index_int_int_l1F,[])]⟩)] }
theorem slices_Index_int_int_t1 (O : Orc) (LP : LBs) (s : List Int) (v0 : Int) : eW 245 slices_Index_int_int_ds Tryz.f245 O LP [(.slice (List.map (PV.int .i64) s) [] false),(i6 v0)] [] = slices_Index_int_int_T1 O LP s v0 := by kernel_rfl
theorem slices_Index_int_int_l1_ok (s : List Int) (v0 : Int) : Lok (slices_Index_int_int_l1R s v0) (slices_Index_int_int_l1T s v0) (slices_Index_int_int_l1 O loopLim) (slices_Index_int_int_l1X s v0) := by
 rintro t_4 l u ⟨rfl,rfl⟩
 simp only [slices_Index_int_int_l1T,slices_Index_int_int_l1,zd,zr]
 refine zG ?_
 try simp only [evs,tys]
 apply Imp.cnd
 ·refine Imp.op (f := fun a => .ref ((PV.int .i64) a)) (fun a h => op_ix (enc := (PV.int .i64)) zI ⟨zA,by decide⟩ h) (fun a => rfl) fun y6 hy6 => ?_
  try simp only [evs,tys]
  apply Imp.cnd
  ·exact zT ⟨t_4,zE⟩
  ·exact zN
 ·exact zB ⟨t_4,zE⟩
theorem slices_Index_int_int_imp (s : List Int) (v0 : Int) : Imp (slices_Index_int_int_B s v0) (slices_Index_int_int_T1 O loopLim s v0) (Ri r9_CheckE) := by
 simp only [slices_Index_int_int_B,slices_Index_int_int_T1,zd,zr]
 try simp only [evs,tys]
 refine zL (slices_Index_int_int_l1_ok s v0) ?_
 rintro (p | t_8) vy10 hy10
 ·try simp only [elim_inl,elim_inr]
  obtain ⟨t_7,rfl⟩ := hy10
  refine zH ?_
  try simp only [evs,tys]
  exact zR
 ·try simp only [elim_inl,elim_inr]
  obtain ⟨t_9,rfl⟩ := hy10
  refine Imp.exMiss rfl ?_
  refine zH ?_
  try simp only [evs,tys]
  exact zR
theorem slices_Index_int_int_run {s : List Int} {v0 : Int} {r : Int} (h : slices_Index_int_int_B s v0 = some r) : slices_Index_int_int s v0 = some r := zV r9_CheckEj (slices_Index_int_int_imp s v0) Tryz.func245 (slices_Index_int_int_t1 _ _ s v0) h
abbrev ls_Name_l1F : List Sh := [.str,.bool,n6,n6]
def ls_Name_l1 (O : Orc) (LP : LBs) : LBody := fun s1 s1u => cnd (chkL ls_Name_l1F s1) (cnd (chkU [] s1u)
 (cnd (decide ((iv s1 3) < (iv s1 2)))
 (bnd (ixStr (zt s1 0) (zn s1 3)) fun x11 => cnd (chk (.int .u8) x11)
 (callp O 248 [(.int .u8 (intV x11))] fun x13 => cnd (chk .bool x13)
 (cnd (!(boolV x13))
 (cnd ((iv s1 3) == 0)
 (some (.ret,(pu (rb ls_Name_l1F s1) 1 (.bool false)),[]))
 (bnd (ixStr (zt s1 0) (zn s1 3)) fun x15 => cnd (chk (.int .u8) x15)
 (callp O 249 [(.int .u8 (intV x15))] fun x17 => cnd (chk .bool x17)
 (cnd (!(boolV x17))
 (some (.ret,(pu (rb ls_Name_l1F s1) 1 (.bool false)),[]))
 (some (.nrm,(pu (rb ls_Name_l1F s1) 3 (i6 (w6 ((iv s1 3) + 1)))),[]))) none) none))
 (some (.nrm,(pu (rb ls_Name_l1F s1) 3 (i6 (w6 ((iv s1 3) + 1)))),[]))) none) none)
 (some (.brk 0,(rb ls_Name_l1F s1),[]))) none) none
def ls_Name_T1 (O : Orc) (LP : LBs) (s : Str) : Option (PV × UP) :=
 bnd (LP (ls_Name_l1 O LP) [(.str s),(.bool false),(i6 (List.length s : Int)),(i6 0)] []) fun y21 =>
 exIs y21.1 (some 0) (cnd (chkL ls_Name_l1F y21.2.1) (cnd (chkU [] y21.2.2)
 (some ((.bool (!((sv y21.2.1 0) == ([] : Str)))),[])) none) none)
 (exIs y21.1 none (cnd (chkL ls_Name_l1F y21.2.1) (cnd (chkU [] y21.2.2)
 (some ((zb y21.2.1 1),[])) none) none)
 (none))
noncomputable def ls_Name_l1T (s : Str) : Int → Option (Int ⊕ (Unit ⊕ Unit))
 | t_10 =>
 cnd (decide (t_10 < (List.length s : Int)))
  (bnd (nthI s t_10) fun y12 =>
  bnd (ls_Letter (y12.toNat : Int)) fun y14 =>
  cnd (!y14)
  (cnd (t_10 == 0)
   (some (.inr (.inr ())))
   (bnd (nthI s t_10) fun y16 =>
   bnd (ls_Digit (y16.toNat : Int)) fun y18 =>
   cnd (!y18)
   (some (.inr (.inr ())))
   (some (.inl (IntKind.wrap .i64 (t_10 + 1))))))
  (some (.inl (IntKind.wrap .i64 (t_10 + 1)))))
  (some (.inr (.inl ())))
abbrev ls_Name_l1P (s : Str) (a0 : PV) : List PV := [(.str s),(.bool false),(i6 (List.length s : Int)),a0]
abbrev ls_Name_l1R (s : Str) (st : Int) (l : List PV) (u : UP) : Prop := l = (ls_Name_l1P s (i6 st)) ∧ u = []
abbrev ls_Name_l1X (s : Str) (p : Unit ⊕ Unit) (r : EU) : Prop := elim p (fun (p : Unit) => ∃ (t_19 : Int),r = (Ex.brk 0,(ls_Name_l1P s (i6 t_19)),[])) (fun (p : Unit) => ∃ (t_20 : Int),r = (Ex.ret,(ls_Name_l1P s (i6 t_20)),[]))
noncomputable def ls_Name_B (s : Str) : Option Bool :=
 bnd (tloop (ls_Name_l1T s) 0) fun e21_2 => elim e21_2
 (fun p21 =>
 some (!(s == ([] : Str))))
 (fun p21 =>
 some false)
def ls_Name_ds : Decs := { decs := [(11,(.int .u8)),(12,.bool),(20,(.int .u8)),(21,.bool)],loops := [(2,[],⟨ls_Name_l1F,[],[(some 0,ls_Name_l1F,[]),(none,ls_Name_l1F,[])]⟩)] }
theorem ls_Name_t1 (O : Orc) (LP : LBs) (s : Str) : eW 237 ls_Name_ds Tryz.f237 O LP [(.str s)] [] = ls_Name_T1 O LP s := by kernel_rfl
theorem ls_Name_l1_ok (s : Str) : Lok (ls_Name_l1R s) (ls_Name_l1T s) (ls_Name_l1 O loopLim) (ls_Name_l1X s) := by
 rintro t_10 l u ⟨rfl,rfl⟩
 simp only [ls_Name_l1T,ls_Name_l1,zd,zr]
 refine zG ?_
 try simp only [evs,tys]
 apply Imp.cnd
 ·refine Imp.op (f := fun a => .int .u8 (a.toNat : Int)) (fun a h => op_ixStr h) (fun a => rfl) fun y12 hy12 => ?_
  try simp only [evs,tys]
  refine zC rfl fun y14 _ => ?_
  try simp only [zes,evs,tys]
  apply Imp.cnd
  ·apply Imp.cnd
   ·exact zT ⟨t_10,zE⟩
   ·refine Imp.op (f := fun a => .int .u8 (a.toNat : Int)) (fun a h => op_ixStr h) (fun a => rfl) fun y16 hy16 => ?_
    try simp only [evs,tys]
    refine zC rfl fun y18 _ => ?_
    try simp only [zes,evs,tys]
    apply Imp.cnd
    ·exact zT ⟨t_10,zE⟩
    ·exact zN
  ·exact zN
 ·exact zB ⟨t_10,zE⟩
theorem ls_Name_imp (s : Str) : Imp (ls_Name_B s) (ls_Name_T1 O loopLim s) (Ri s6_ArgsRulesE) := by
 simp only [ls_Name_B,ls_Name_T1,zd,zr]
 try simp only [evs,tys]
 refine zL (ls_Name_l1_ok s) ?_
 rintro (p | p) vy21 hy21
 ·try simp only [elim_inl,elim_inr]
  obtain ⟨t_19,rfl⟩ := hy21
  refine zH ?_
  try simp only [evs,tys]
  exact zR
 ·try simp only [elim_inl,elim_inr]
  obtain ⟨t_20,rfl⟩ := hy21
  refine Imp.exMiss rfl ?_
  refine zH ?_
  try simp only [evs,tys]
  exact zR
theorem ls_Name_run {s : Str} {r : Bool} (h : ls_Name_B s = some r) : ls_Name s = some r := zV s6_ArgsRulesEj (ls_Name_imp s) Tryz.func237 (ls_Name_t1 _ _ s) h
def ls_Letter_T1 (O : Orc) (LP : LBs) (c : Int) : Option (PV × UP) :=
 cnd (decide (c ≥ 97))
 (cnd (decide (c ≤ 122))
 (some ((.bool true),[]))
 (cnd (decide (c ≥ 65))
 (cnd (decide (c ≤ 90))
 (some ((.bool true),[]))
 (some ((.bool (c == 95)),[])))
 (some ((.bool (c == 95)),[]))))
 (cnd (decide (c ≥ 65))
 (cnd (decide (c ≤ 90))
 (some ((.bool true),[]))
 (some ((.bool (c == 95)),[])))
 (some ((.bool (c == 95)),[])))
noncomputable def ls_Letter_B (c : Int) : Option Bool :=
 cnd (decide (c ≥ 97))
 (cnd (decide (c ≤ 122))
 (some true)
 (cnd (decide (c ≥ 65))
 (cnd (decide (c ≤ 90))
 (some true)
 (some (c == 95)))
 (some (c == 95))))
 (cnd (decide (c ≥ 65))
 (cnd (decide (c ≤ 90))
 (some true)
 (some (c == 95)))
 (some (c == 95)))
def ls_Letter_ds : Decs := { }
theorem ls_Letter_t1 (O : Orc) (LP : LBs) (c : Int) : eW 248 ls_Letter_ds Tryz.f248 O LP [(.int .u8 c)] [] = ls_Letter_T1 O LP c := by kernel_rfl
theorem ls_Letter_imp (c : Int) : Imp (ls_Letter_B c) (ls_Letter_T1 O loopLim c) (Ri s6_ArgsRulesE) := by
 simp only [ls_Letter_B,ls_Letter_T1,zd,zr]
 try simp only [evs,tys]
 apply Imp.cnd
 ·apply Imp.cnd
  ·exact zR
  ·apply Imp.cnd
   ·apply Imp.cnd
    ·exact zR
    ·exact zR
   ·exact zR
 ·apply Imp.cnd
  ·apply Imp.cnd
   ·exact zR
   ·exact zR
  ·exact zR
theorem ls_Letter_run {c : Int} {r : Bool} (h : ls_Letter_B c = some r) : ls_Letter c = some r := zV s6_ArgsRulesEj (ls_Letter_imp c) Tryz.func248 (ls_Letter_t1 _ _ c) h
def ls_Digit_T1 (O : Orc) (LP : LBs) (c : Int) : Option (PV × UP) :=
 cnd (decide (c ≥ 48))
 (some ((.bool (decide (c ≤ 57))),[]))
 (some ((.bool false),[]))
noncomputable def ls_Digit_B (c : Int) : Option Bool :=
 cnd (decide (c ≥ 48))
 (some (decide (c ≤ 57)))
 (some false)
def ls_Digit_ds : Decs := { }
theorem ls_Digit_t1 (O : Orc) (LP : LBs) (c : Int) : eW 249 ls_Digit_ds Tryz.f249 O LP [(.int .u8 c)] [] = ls_Digit_T1 O LP c := by kernel_rfl
theorem ls_Digit_imp (c : Int) : Imp (ls_Digit_B c) (ls_Digit_T1 O loopLim c) (Ri s6_ArgsRulesE) := by
 simp only [ls_Digit_B,ls_Digit_T1,zd,zr]
 try simp only [evs,tys]
 apply Imp.cnd
 ·exact zR
 ·exact zR
theorem ls_Digit_run {c : Int} {r : Bool} (h : ls_Digit_B c = some r) : ls_Digit c = some r := zV s6_ArgsRulesEj (ls_Digit_imp c) Tryz.func249 (ls_Digit_t1 _ _ c) h
end Go.Proofs.YtphmfillajagdaaGreat

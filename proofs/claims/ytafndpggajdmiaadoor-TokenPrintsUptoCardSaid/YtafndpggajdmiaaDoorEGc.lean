import Derived.Test.YtafndpggajdmiaaDoorEGa
import Derived.Lib.TrimUEq
import Derived.Lib.ValidU
import Derived.Shelf.Strings.OnBuilder
import Derived.Shelf.Strings.Search2
import Derived.Shelf.Strings.Search3
import Derived.Shelf.Unicode.DecodeAny
import Derived.Shelf.Unicode.ValidAny
import Derived.Test.YtafndpggajdmiaaDoorEEd
import Derived.WalkKit
import Derived.KernelRfl
import Derived.Test.YtafndpggajdmiaaDoorEGb
set_option linter.unusedVariables false
set_option linter.unusedSimpArgs false
set_option linter.unusedSimpArgs false
open Go Go.Ev Go.Ev.PV
namespace Go.Proofs.YtafndpggajdmiaaDoor
def r1_Code_l1 (O : Orc) (LP : LBody → LBody) : LBody := fun s3 s3u => cnd (chkL [.str, (.int .i64), (.int .i64), (.int .i64), (.int .i64), (.int .i64), (.int .i64), (.int .i64)] s3) (cnd (chkU [] s3u)
 (cnd (decide ((intV (gt s3 7)) < (intV (gt s3 5))))
 (bnd (ixStr (.str (strV (gt s3 0))) (.int .i64 (IntKind.wrap .i64 ((intV (gt s3 1)) + (intV (gt s3 7)))))) fun x8 => cnd (chk (.int .u8) x8)
 (cnd (decide ((IntKind.wrap .i64 (intV x8)) < 128))
 (some (.ret, [(.str (strV (gt s3 0))), (.int .i64 (intV (gt s3 1))), (.int .i64 0), (.int .i64 0), (.int .i64 (intV (gt s3 4))), (.int .i64 (intV (gt s3 5))), (.int .i64 (intV (gt s3 6))), (.int .i64 (intV (gt s3 7)))], []))
 (cnd (decide ((IntKind.wrap .i64 (intV x8)) > 191))
 (some (.ret, [(.str (strV (gt s3 0))), (.int .i64 (intV (gt s3 1))), (.int .i64 0), (.int .i64 0), (.int .i64 (intV (gt s3 4))), (.int .i64 (intV (gt s3 5))), (.int .i64 (intV (gt s3 6))), (.int .i64 (intV (gt s3 7)))], []))
 (some (.nrm, [(.str (strV (gt s3 0))), (.int .i64 (intV (gt s3 1))), (.int .i64 (intV (gt s3 2))), (.int .i64 (intV (gt s3 3))), (.int .i64 (bits .or .i64 (IntKind.wrap .i64 ((intV (gt s3 4)) * 2 ^ min (Int.toNat 6) 64)) (bits .and .i64 (IntKind.wrap .i64 (intV x8)) 63))), (.int .i64 (intV (gt s3 5))), (.int .i64 (intV (gt s3 6))), (.int .i64 (IntKind.wrap .i64 ((intV (gt s3 7)) + 1)))], [])))) none)
 (some (.brk 1, [(.str (strV (gt s3 0))), (.int .i64 (intV (gt s3 1))), (.int .i64 (intV (gt s3 2))), (.int .i64 (intV (gt s3 3))), (.int .i64 (intV (gt s3 4))), (.int .i64 (intV (gt s3 5))), (.int .i64 (intV (gt s3 6))), (.int .i64 (intV (gt s3 7)))], []))) none) none
def r1_Code_l2 (O : Orc) (LP : LBody → LBody) : LBody := fun s15 s15u => cnd (chkL [.str, (.int .i64), (.int .i64), (.int .i64), (.int .i64), (.int .i64), (.int .i64), (.int .i64)] s15) (cnd (chkU [] s15u)
 (cnd (decide ((intV (gt s15 7)) < (intV (gt s15 5))))
 (bnd (ixStr (.str (strV (gt s15 0))) (.int .i64 (IntKind.wrap .i64 ((intV (gt s15 1)) + (intV (gt s15 7)))))) fun x20 => cnd (chk (.int .u8) x20)
 (cnd (decide ((IntKind.wrap .i64 (intV x20)) < 128))
 (some (.ret, [(.str (strV (gt s15 0))), (.int .i64 (intV (gt s15 1))), (.int .i64 0), (.int .i64 0), (.int .i64 (intV (gt s15 4))), (.int .i64 (intV (gt s15 5))), (.int .i64 (intV (gt s15 6))), (.int .i64 (intV (gt s15 7)))], []))
 (cnd (decide ((IntKind.wrap .i64 (intV x20)) > 191))
 (some (.ret, [(.str (strV (gt s15 0))), (.int .i64 (intV (gt s15 1))), (.int .i64 0), (.int .i64 0), (.int .i64 (intV (gt s15 4))), (.int .i64 (intV (gt s15 5))), (.int .i64 (intV (gt s15 6))), (.int .i64 (intV (gt s15 7)))], []))
 (some (.nrm, [(.str (strV (gt s15 0))), (.int .i64 (intV (gt s15 1))), (.int .i64 (intV (gt s15 2))), (.int .i64 (intV (gt s15 3))), (.int .i64 (bits .or .i64 (IntKind.wrap .i64 ((intV (gt s15 4)) * 2 ^ min (Int.toNat 6) 64)) (bits .and .i64 (IntKind.wrap .i64 (intV x20)) 63))), (.int .i64 (intV (gt s15 5))), (.int .i64 (intV (gt s15 6))), (.int .i64 (IntKind.wrap .i64 ((intV (gt s15 7)) + 1)))], [])))) none)
 (some (.brk 1, [(.str (strV (gt s15 0))), (.int .i64 (intV (gt s15 1))), (.int .i64 (intV (gt s15 2))), (.int .i64 (intV (gt s15 3))), (.int .i64 (intV (gt s15 4))), (.int .i64 (intV (gt s15 5))), (.int .i64 (intV (gt s15 6))), (.int .i64 (intV (gt s15 7)))], []))) none) none
def r1_Code_l3 (O : Orc) (LP : LBody → LBody) : LBody := fun s27 s27u => cnd (chkL [.str, (.int .i64), (.int .i64), (.int .i64), (.int .i64), (.int .i64), (.int .i64), (.int .i64)] s27) (cnd (chkU [] s27u)
 (cnd (decide ((intV (gt s27 7)) < (intV (gt s27 5))))
 (bnd (ixStr (.str (strV (gt s27 0))) (.int .i64 (IntKind.wrap .i64 ((intV (gt s27 1)) + (intV (gt s27 7)))))) fun x32 => cnd (chk (.int .u8) x32)
 (cnd (decide ((IntKind.wrap .i64 (intV x32)) < 128))
 (some (.ret, [(.str (strV (gt s27 0))), (.int .i64 (intV (gt s27 1))), (.int .i64 0), (.int .i64 0), (.int .i64 (intV (gt s27 4))), (.int .i64 (intV (gt s27 5))), (.int .i64 (intV (gt s27 6))), (.int .i64 (intV (gt s27 7)))], []))
 (cnd (decide ((IntKind.wrap .i64 (intV x32)) > 191))
 (some (.ret, [(.str (strV (gt s27 0))), (.int .i64 (intV (gt s27 1))), (.int .i64 0), (.int .i64 0), (.int .i64 (intV (gt s27 4))), (.int .i64 (intV (gt s27 5))), (.int .i64 (intV (gt s27 6))), (.int .i64 (intV (gt s27 7)))], []))
 (some (.nrm, [(.str (strV (gt s27 0))), (.int .i64 (intV (gt s27 1))), (.int .i64 (intV (gt s27 2))), (.int .i64 (intV (gt s27 3))), (.int .i64 (bits .or .i64 (IntKind.wrap .i64 ((intV (gt s27 4)) * 2 ^ min (Int.toNat 6) 64)) (bits .and .i64 (IntKind.wrap .i64 (intV x32)) 63))), (.int .i64 (intV (gt s27 5))), (.int .i64 (intV (gt s27 6))), (.int .i64 (IntKind.wrap .i64 ((intV (gt s27 7)) + 1)))], [])))) none)
 (some (.brk 1, [(.str (strV (gt s27 0))), (.int .i64 (intV (gt s27 1))), (.int .i64 (intV (gt s27 2))), (.int .i64 (intV (gt s27 3))), (.int .i64 (intV (gt s27 4))), (.int .i64 (intV (gt s27 5))), (.int .i64 (intV (gt s27 6))), (.int .i64 (intV (gt s27 7)))], []))) none) none
def r1_Code_l4 (O : Orc) (LP : LBody → LBody) : LBody := fun s39 s39u => cnd (chkL [.str, (.int .i64), (.int .i64), (.int .i64), (.int .i64), (.int .i64), (.int .i64), (.int .i64)] s39) (cnd (chkU [] s39u)
 (cnd (decide ((intV (gt s39 7)) < (intV (gt s39 5))))
 (bnd (ixStr (.str (strV (gt s39 0))) (.int .i64 (IntKind.wrap .i64 ((intV (gt s39 1)) + (intV (gt s39 7)))))) fun x44 => cnd (chk (.int .u8) x44)
 (cnd (decide ((IntKind.wrap .i64 (intV x44)) < 128))
 (some (.ret, [(.str (strV (gt s39 0))), (.int .i64 (intV (gt s39 1))), (.int .i64 0), (.int .i64 0), (.int .i64 (intV (gt s39 4))), (.int .i64 (intV (gt s39 5))), (.int .i64 (intV (gt s39 6))), (.int .i64 (intV (gt s39 7)))], []))
 (cnd (decide ((IntKind.wrap .i64 (intV x44)) > 191))
 (some (.ret, [(.str (strV (gt s39 0))), (.int .i64 (intV (gt s39 1))), (.int .i64 0), (.int .i64 0), (.int .i64 (intV (gt s39 4))), (.int .i64 (intV (gt s39 5))), (.int .i64 (intV (gt s39 6))), (.int .i64 (intV (gt s39 7)))], []))
 (some (.nrm, [(.str (strV (gt s39 0))), (.int .i64 (intV (gt s39 1))), (.int .i64 (intV (gt s39 2))), (.int .i64 (intV (gt s39 3))), (.int .i64 (bits .or .i64 (IntKind.wrap .i64 ((intV (gt s39 4)) * 2 ^ min (Int.toNat 6) 64)) (bits .and .i64 (IntKind.wrap .i64 (intV x44)) 63))), (.int .i64 (intV (gt s39 5))), (.int .i64 (intV (gt s39 6))), (.int .i64 (IntKind.wrap .i64 ((intV (gt s39 7)) + 1)))], [])))) none)
 (some (.brk 1, [(.str (strV (gt s39 0))), (.int .i64 (intV (gt s39 1))), (.int .i64 (intV (gt s39 2))), (.int .i64 (intV (gt s39 3))), (.int .i64 (intV (gt s39 4))), (.int .i64 (intV (gt s39 5))), (.int .i64 (intV (gt s39 6))), (.int .i64 (intV (gt s39 7)))], []))) none) none
def r1_Code_l5 (O : Orc) (LP : LBody → LBody) : LBody := fun s51 s51u => cnd (chkL [.str, (.int .i64), (.int .i64), (.int .i64), (.int .i64), (.int .i64), (.int .i64), (.int .i64)] s51) (cnd (chkU [] s51u)
 (cnd (decide ((intV (gt s51 7)) < (intV (gt s51 5))))
 (bnd (ixStr (.str (strV (gt s51 0))) (.int .i64 (IntKind.wrap .i64 ((intV (gt s51 1)) + (intV (gt s51 7)))))) fun x56 => cnd (chk (.int .u8) x56)
 (cnd (decide ((IntKind.wrap .i64 (intV x56)) < 128))
 (some (.ret, [(.str (strV (gt s51 0))), (.int .i64 (intV (gt s51 1))), (.int .i64 0), (.int .i64 0), (.int .i64 (intV (gt s51 4))), (.int .i64 (intV (gt s51 5))), (.int .i64 (intV (gt s51 6))), (.int .i64 (intV (gt s51 7)))], []))
 (cnd (decide ((IntKind.wrap .i64 (intV x56)) > 191))
 (some (.ret, [(.str (strV (gt s51 0))), (.int .i64 (intV (gt s51 1))), (.int .i64 0), (.int .i64 0), (.int .i64 (intV (gt s51 4))), (.int .i64 (intV (gt s51 5))), (.int .i64 (intV (gt s51 6))), (.int .i64 (intV (gt s51 7)))], []))
 (some (.nrm, [(.str (strV (gt s51 0))), (.int .i64 (intV (gt s51 1))), (.int .i64 (intV (gt s51 2))), (.int .i64 (intV (gt s51 3))), (.int .i64 (bits .or .i64 (IntKind.wrap .i64 ((intV (gt s51 4)) * 2 ^ min (Int.toNat 6) 64)) (bits .and .i64 (IntKind.wrap .i64 (intV x56)) 63))), (.int .i64 (intV (gt s51 5))), (.int .i64 (intV (gt s51 6))), (.int .i64 (IntKind.wrap .i64 ((intV (gt s51 7)) + 1)))], [])))) none)
 (some (.brk 1, [(.str (strV (gt s51 0))), (.int .i64 (intV (gt s51 1))), (.int .i64 (intV (gt s51 2))), (.int .i64 (intV (gt s51 3))), (.int .i64 (intV (gt s51 4))), (.int .i64 (intV (gt s51 5))), (.int .i64 (intV (gt s51 6))), (.int .i64 (intV (gt s51 7)))], []))) none) none
def r1_Code_l6 (O : Orc) (LP : LBody → LBody) : LBody := fun s63 s63u => cnd (chkL [.str, (.int .i64), (.int .i64), (.int .i64), (.int .i64), (.int .i64), (.int .i64), (.int .i64)] s63) (cnd (chkU [] s63u)
 (cnd (decide ((intV (gt s63 7)) < (intV (gt s63 5))))
 (bnd (ixStr (.str (strV (gt s63 0))) (.int .i64 (IntKind.wrap .i64 ((intV (gt s63 1)) + (intV (gt s63 7)))))) fun x68 => cnd (chk (.int .u8) x68)
 (cnd (decide ((IntKind.wrap .i64 (intV x68)) < 128))
 (some (.ret, [(.str (strV (gt s63 0))), (.int .i64 (intV (gt s63 1))), (.int .i64 0), (.int .i64 0), (.int .i64 (intV (gt s63 4))), (.int .i64 (intV (gt s63 5))), (.int .i64 (intV (gt s63 6))), (.int .i64 (intV (gt s63 7)))], []))
 (cnd (decide ((IntKind.wrap .i64 (intV x68)) > 191))
 (some (.ret, [(.str (strV (gt s63 0))), (.int .i64 (intV (gt s63 1))), (.int .i64 0), (.int .i64 0), (.int .i64 (intV (gt s63 4))), (.int .i64 (intV (gt s63 5))), (.int .i64 (intV (gt s63 6))), (.int .i64 (intV (gt s63 7)))], []))
 (some (.nrm, [(.str (strV (gt s63 0))), (.int .i64 (intV (gt s63 1))), (.int .i64 (intV (gt s63 2))), (.int .i64 (intV (gt s63 3))), (.int .i64 (bits .or .i64 (IntKind.wrap .i64 ((intV (gt s63 4)) * 2 ^ min (Int.toNat 6) 64)) (bits .and .i64 (IntKind.wrap .i64 (intV x68)) 63))), (.int .i64 (intV (gt s63 5))), (.int .i64 (intV (gt s63 6))), (.int .i64 (IntKind.wrap .i64 ((intV (gt s63 7)) + 1)))], [])))) none)
 (some (.brk 1, [(.str (strV (gt s63 0))), (.int .i64 (intV (gt s63 1))), (.int .i64 (intV (gt s63 2))), (.int .i64 (intV (gt s63 3))), (.int .i64 (intV (gt s63 4))), (.int .i64 (intV (gt s63 5))), (.int .i64 (intV (gt s63 6))), (.int .i64 (intV (gt s63 7)))], []))) none) none
def r1_Code_l7 (O : Orc) (LP : LBody → LBody) : LBody := fun s75 s75u => cnd (chkL [.str, (.int .i64), (.int .i64), (.int .i64), (.int .i64), (.int .i64), (.int .i64), (.int .i64)] s75) (cnd (chkU [] s75u)
 (cnd (decide ((intV (gt s75 7)) < (intV (gt s75 5))))
 (bnd (ixStr (.str (strV (gt s75 0))) (.int .i64 (IntKind.wrap .i64 ((intV (gt s75 1)) + (intV (gt s75 7)))))) fun x80 => cnd (chk (.int .u8) x80)
 (cnd (decide ((IntKind.wrap .i64 (intV x80)) < 128))
 (some (.ret, [(.str (strV (gt s75 0))), (.int .i64 (intV (gt s75 1))), (.int .i64 0), (.int .i64 0), (.int .i64 (intV (gt s75 4))), (.int .i64 (intV (gt s75 5))), (.int .i64 (intV (gt s75 6))), (.int .i64 (intV (gt s75 7)))], []))
 (cnd (decide ((IntKind.wrap .i64 (intV x80)) > 191))
 (some (.ret, [(.str (strV (gt s75 0))), (.int .i64 (intV (gt s75 1))), (.int .i64 0), (.int .i64 0), (.int .i64 (intV (gt s75 4))), (.int .i64 (intV (gt s75 5))), (.int .i64 (intV (gt s75 6))), (.int .i64 (intV (gt s75 7)))], []))
 (some (.nrm, [(.str (strV (gt s75 0))), (.int .i64 (intV (gt s75 1))), (.int .i64 (intV (gt s75 2))), (.int .i64 (intV (gt s75 3))), (.int .i64 (bits .or .i64 (IntKind.wrap .i64 ((intV (gt s75 4)) * 2 ^ min (Int.toNat 6) 64)) (bits .and .i64 (IntKind.wrap .i64 (intV x80)) 63))), (.int .i64 (intV (gt s75 5))), (.int .i64 (intV (gt s75 6))), (.int .i64 (IntKind.wrap .i64 ((intV (gt s75 7)) + 1)))], [])))) none)
 (some (.brk 1, [(.str (strV (gt s75 0))), (.int .i64 (intV (gt s75 1))), (.int .i64 (intV (gt s75 2))), (.int .i64 (intV (gt s75 3))), (.int .i64 (intV (gt s75 4))), (.int .i64 (intV (gt s75 5))), (.int .i64 (intV (gt s75 6))), (.int .i64 (intV (gt s75 7)))], []))) none) none
def r1_Code_T1 (O : Orc) (LP : LBody → LBody) (s : Str) (i : Int) : Option (PV × UP) :=
 cnd (decide (i < 0))
 (some ((.tuple [(.int .i64 0), (.int .i64 0)]), []))
 (cnd (decide (i ≥ (List.length s : Int)))
 (some ((.tuple [(.int .i64 0), (.int .i64 0)]), []))
 (bnd (ixStr (.str s) (.int .i64 i)) fun x1 => cnd (chk (.int .u8) x1)
 (cnd (decide ((IntKind.wrap .i64 (intV x1)) < 128))
 (some ((.tuple [(.int .i64 (IntKind.wrap .i64 (intV x1))), (.int .i64 1)]), []))
 (cnd (decide ((IntKind.wrap .i64 (intV x1)) ≥ 194))
 (cnd (decide ((IntKind.wrap .i64 (intV x1)) < 224))
 (cnd (decide ((2 : Int) > (IntKind.wrap .i64 ((List.length s : Int) - i))))
 (some ((.tuple [(.int .i64 0), (.int .i64 0)]), []))
 (bnd (LP (r1_Code_l1 O LP) [(.str s), (.int .i64 i), (.int .i64 0), (.int .i64 0), (.int .i64 (bits .and .i64 (IntKind.wrap .i64 (intV x1)) 31)), (.int .i64 2), (.int .i64 128), (.int .i64 1)] []) fun y14 =>
 exIs y14.1 (some 1) (cnd (chkL [.str, (.int .i64), (.int .i64), (.int .i64), (.int .i64), (.int .i64), (.int .i64), (.int .i64)] y14.2.1) (cnd (chkU [] y14.2.2)
 (cnd (decide ((intV (gt y14.2.1 4)) < (intV (gt y14.2.1 6))))
 (some ((.tuple [(.int .i64 0), (.int .i64 0)]), []))
 (cnd (decide ((intV (gt y14.2.1 4)) > 1114111))
 (some ((.tuple [(.int .i64 0), (.int .i64 0)]), []))
 (cnd (decide ((intV (gt y14.2.1 4)) ≥ 55296))
 (cnd (decide ((intV (gt y14.2.1 4)) < 57344))
 (some ((.tuple [(.int .i64 0), (.int .i64 0)]), []))
 (some ((.tuple [(.int .i64 (intV (gt y14.2.1 4))), (.int .i64 (intV (gt y14.2.1 5)))]), [])))
 (some ((.tuple [(.int .i64 (intV (gt y14.2.1 4))), (.int .i64 (intV (gt y14.2.1 5)))]), []))))) none) none)
 (exIs y14.1 none (cnd (chkL [.str, (.int .i64), (.int .i64), (.int .i64), (.int .i64), (.int .i64), (.int .i64), (.int .i64)] y14.2.1) (cnd (chkU [] y14.2.2)
 (some ((.tuple [(.int .i64 (intV (gt y14.2.1 2))), (.int .i64 (intV (gt y14.2.1 3)))]), [])) none) none)
 (none))))
 (cnd (decide ((IntKind.wrap .i64 (intV x1)) ≥ 224))
 (cnd (decide ((IntKind.wrap .i64 (intV x1)) < 240))
 (cnd (decide ((3 : Int) > (IntKind.wrap .i64 ((List.length s : Int) - i))))
 (some ((.tuple [(.int .i64 0), (.int .i64 0)]), []))
 (bnd (LP (r1_Code_l2 O LP) [(.str s), (.int .i64 i), (.int .i64 0), (.int .i64 0), (.int .i64 (bits .and .i64 (IntKind.wrap .i64 (intV x1)) 15)), (.int .i64 3), (.int .i64 2048), (.int .i64 1)] []) fun y26 =>
 exIs y26.1 (some 1) (cnd (chkL [.str, (.int .i64), (.int .i64), (.int .i64), (.int .i64), (.int .i64), (.int .i64), (.int .i64)] y26.2.1) (cnd (chkU [] y26.2.2)
 (cnd (decide ((intV (gt y26.2.1 4)) < (intV (gt y26.2.1 6))))
 (some ((.tuple [(.int .i64 0), (.int .i64 0)]), []))
 (cnd (decide ((intV (gt y26.2.1 4)) > 1114111))
 (some ((.tuple [(.int .i64 0), (.int .i64 0)]), []))
 (cnd (decide ((intV (gt y26.2.1 4)) ≥ 55296))
 (cnd (decide ((intV (gt y26.2.1 4)) < 57344))
 (some ((.tuple [(.int .i64 0), (.int .i64 0)]), []))
 (some ((.tuple [(.int .i64 (intV (gt y26.2.1 4))), (.int .i64 (intV (gt y26.2.1 5)))]), [])))
 (some ((.tuple [(.int .i64 (intV (gt y26.2.1 4))), (.int .i64 (intV (gt y26.2.1 5)))]), []))))) none) none)
 (exIs y26.1 none (cnd (chkL [.str, (.int .i64), (.int .i64), (.int .i64), (.int .i64), (.int .i64), (.int .i64), (.int .i64)] y26.2.1) (cnd (chkU [] y26.2.2)
 (some ((.tuple [(.int .i64 (intV (gt y26.2.1 2))), (.int .i64 (intV (gt y26.2.1 3)))]), [])) none) none)
 (none))))
 (cnd (decide ((IntKind.wrap .i64 (intV x1)) ≥ 240))
 (cnd (decide ((IntKind.wrap .i64 (intV x1)) < 245))
 (cnd (decide ((4 : Int) > (IntKind.wrap .i64 ((List.length s : Int) - i))))
 (some ((.tuple [(.int .i64 0), (.int .i64 0)]), []))
 (bnd (LP (r1_Code_l3 O LP) [(.str s), (.int .i64 i), (.int .i64 0), (.int .i64 0), (.int .i64 (bits .and .i64 (IntKind.wrap .i64 (intV x1)) 7)), (.int .i64 4), (.int .i64 65536), (.int .i64 1)] []) fun y38 =>
 exIs y38.1 (some 1) (cnd (chkL [.str, (.int .i64), (.int .i64), (.int .i64), (.int .i64), (.int .i64), (.int .i64), (.int .i64)] y38.2.1) (cnd (chkU [] y38.2.2)
 (cnd (decide ((intV (gt y38.2.1 4)) < (intV (gt y38.2.1 6))))
 (some ((.tuple [(.int .i64 0), (.int .i64 0)]), []))
 (cnd (decide ((intV (gt y38.2.1 4)) > 1114111))
 (some ((.tuple [(.int .i64 0), (.int .i64 0)]), []))
 (cnd (decide ((intV (gt y38.2.1 4)) ≥ 55296))
 (cnd (decide ((intV (gt y38.2.1 4)) < 57344))
 (some ((.tuple [(.int .i64 0), (.int .i64 0)]), []))
 (some ((.tuple [(.int .i64 (intV (gt y38.2.1 4))), (.int .i64 (intV (gt y38.2.1 5)))]), [])))
 (some ((.tuple [(.int .i64 (intV (gt y38.2.1 4))), (.int .i64 (intV (gt y38.2.1 5)))]), []))))) none) none)
 (exIs y38.1 none (cnd (chkL [.str, (.int .i64), (.int .i64), (.int .i64), (.int .i64), (.int .i64), (.int .i64), (.int .i64)] y38.2.1) (cnd (chkU [] y38.2.2)
 (some ((.tuple [(.int .i64 (intV (gt y38.2.1 2))), (.int .i64 (intV (gt y38.2.1 3)))]), [])) none) none)
 (none))))
 (some ((.tuple [(.int .i64 0), (.int .i64 0)]), [])))
 (some ((.tuple [(.int .i64 0), (.int .i64 0)]), []))))
 (cnd (decide ((IntKind.wrap .i64 (intV x1)) ≥ 240))
 (cnd (decide ((IntKind.wrap .i64 (intV x1)) < 245))
 (cnd (decide ((4 : Int) > (IntKind.wrap .i64 ((List.length s : Int) - i))))
 (some ((.tuple [(.int .i64 0), (.int .i64 0)]), []))
 (bnd (LP (r1_Code_l4 O LP) [(.str s), (.int .i64 i), (.int .i64 0), (.int .i64 0), (.int .i64 (bits .and .i64 (IntKind.wrap .i64 (intV x1)) 7)), (.int .i64 4), (.int .i64 65536), (.int .i64 1)] []) fun y50 =>
 exIs y50.1 (some 1) (cnd (chkL [.str, (.int .i64), (.int .i64), (.int .i64), (.int .i64), (.int .i64), (.int .i64), (.int .i64)] y50.2.1) (cnd (chkU [] y50.2.2)
 (cnd (decide ((intV (gt y50.2.1 4)) < (intV (gt y50.2.1 6))))
 (some ((.tuple [(.int .i64 0), (.int .i64 0)]), []))
 (cnd (decide ((intV (gt y50.2.1 4)) > 1114111))
 (some ((.tuple [(.int .i64 0), (.int .i64 0)]), []))
 (cnd (decide ((intV (gt y50.2.1 4)) ≥ 55296))
 (cnd (decide ((intV (gt y50.2.1 4)) < 57344))
 (some ((.tuple [(.int .i64 0), (.int .i64 0)]), []))
 (some ((.tuple [(.int .i64 (intV (gt y50.2.1 4))), (.int .i64 (intV (gt y50.2.1 5)))]), [])))
 (some ((.tuple [(.int .i64 (intV (gt y50.2.1 4))), (.int .i64 (intV (gt y50.2.1 5)))]), []))))) none) none)
 (exIs y50.1 none (cnd (chkL [.str, (.int .i64), (.int .i64), (.int .i64), (.int .i64), (.int .i64), (.int .i64), (.int .i64)] y50.2.1) (cnd (chkU [] y50.2.2)
 (some ((.tuple [(.int .i64 (intV (gt y50.2.1 2))), (.int .i64 (intV (gt y50.2.1 3)))]), [])) none) none)
 (none))))
 (some ((.tuple [(.int .i64 0), (.int .i64 0)]), [])))
 (some ((.tuple [(.int .i64 0), (.int .i64 0)]), [])))))
 (cnd (decide ((IntKind.wrap .i64 (intV x1)) ≥ 224))
 (cnd (decide ((IntKind.wrap .i64 (intV x1)) < 240))
 (cnd (decide ((3 : Int) > (IntKind.wrap .i64 ((List.length s : Int) - i))))
 (some ((.tuple [(.int .i64 0), (.int .i64 0)]), []))
 (bnd (LP (r1_Code_l5 O LP) [(.str s), (.int .i64 i), (.int .i64 0), (.int .i64 0), (.int .i64 (bits .and .i64 (IntKind.wrap .i64 (intV x1)) 15)), (.int .i64 3), (.int .i64 2048), (.int .i64 1)] []) fun y62 =>
 exIs y62.1 (some 1) (cnd (chkL [.str, (.int .i64), (.int .i64), (.int .i64), (.int .i64), (.int .i64), (.int .i64), (.int .i64)] y62.2.1) (cnd (chkU [] y62.2.2)
 (cnd (decide ((intV (gt y62.2.1 4)) < (intV (gt y62.2.1 6))))
 (some ((.tuple [(.int .i64 0), (.int .i64 0)]), []))
 (cnd (decide ((intV (gt y62.2.1 4)) > 1114111))
 (some ((.tuple [(.int .i64 0), (.int .i64 0)]), []))
 (cnd (decide ((intV (gt y62.2.1 4)) ≥ 55296))
 (cnd (decide ((intV (gt y62.2.1 4)) < 57344))
 (some ((.tuple [(.int .i64 0), (.int .i64 0)]), []))
 (some ((.tuple [(.int .i64 (intV (gt y62.2.1 4))), (.int .i64 (intV (gt y62.2.1 5)))]), [])))
 (some ((.tuple [(.int .i64 (intV (gt y62.2.1 4))), (.int .i64 (intV (gt y62.2.1 5)))]), []))))) none) none)
 (exIs y62.1 none (cnd (chkL [.str, (.int .i64), (.int .i64), (.int .i64), (.int .i64), (.int .i64), (.int .i64), (.int .i64)] y62.2.1) (cnd (chkU [] y62.2.2)
 (some ((.tuple [(.int .i64 (intV (gt y62.2.1 2))), (.int .i64 (intV (gt y62.2.1 3)))]), [])) none) none)
 (none))))
 (cnd (decide ((IntKind.wrap .i64 (intV x1)) ≥ 240))
 (cnd (decide ((IntKind.wrap .i64 (intV x1)) < 245))
 (cnd (decide ((4 : Int) > (IntKind.wrap .i64 ((List.length s : Int) - i))))
 (some ((.tuple [(.int .i64 0), (.int .i64 0)]), []))
 (bnd (LP (r1_Code_l6 O LP) [(.str s), (.int .i64 i), (.int .i64 0), (.int .i64 0), (.int .i64 (bits .and .i64 (IntKind.wrap .i64 (intV x1)) 7)), (.int .i64 4), (.int .i64 65536), (.int .i64 1)] []) fun y74 =>
 exIs y74.1 (some 1) (cnd (chkL [.str, (.int .i64), (.int .i64), (.int .i64), (.int .i64), (.int .i64), (.int .i64), (.int .i64)] y74.2.1) (cnd (chkU [] y74.2.2)
 (cnd (decide ((intV (gt y74.2.1 4)) < (intV (gt y74.2.1 6))))
 (some ((.tuple [(.int .i64 0), (.int .i64 0)]), []))
 (cnd (decide ((intV (gt y74.2.1 4)) > 1114111))
 (some ((.tuple [(.int .i64 0), (.int .i64 0)]), []))
 (cnd (decide ((intV (gt y74.2.1 4)) ≥ 55296))
 (cnd (decide ((intV (gt y74.2.1 4)) < 57344))
 (some ((.tuple [(.int .i64 0), (.int .i64 0)]), []))
 (some ((.tuple [(.int .i64 (intV (gt y74.2.1 4))), (.int .i64 (intV (gt y74.2.1 5)))]), [])))
 (some ((.tuple [(.int .i64 (intV (gt y74.2.1 4))), (.int .i64 (intV (gt y74.2.1 5)))]), []))))) none) none)
 (exIs y74.1 none (cnd (chkL [.str, (.int .i64), (.int .i64), (.int .i64), (.int .i64), (.int .i64), (.int .i64), (.int .i64)] y74.2.1) (cnd (chkU [] y74.2.2)
 (some ((.tuple [(.int .i64 (intV (gt y74.2.1 2))), (.int .i64 (intV (gt y74.2.1 3)))]), [])) none) none)
 (none))))
 (some ((.tuple [(.int .i64 0), (.int .i64 0)]), [])))
 (some ((.tuple [(.int .i64 0), (.int .i64 0)]), []))))
 (cnd (decide ((IntKind.wrap .i64 (intV x1)) ≥ 240))
 (cnd (decide ((IntKind.wrap .i64 (intV x1)) < 245))
 (cnd (decide ((4 : Int) > (IntKind.wrap .i64 ((List.length s : Int) - i))))
 (some ((.tuple [(.int .i64 0), (.int .i64 0)]), []))
 (bnd (LP (r1_Code_l7 O LP) [(.str s), (.int .i64 i), (.int .i64 0), (.int .i64 0), (.int .i64 (bits .and .i64 (IntKind.wrap .i64 (intV x1)) 7)), (.int .i64 4), (.int .i64 65536), (.int .i64 1)] []) fun y86 =>
 exIs y86.1 (some 1) (cnd (chkL [.str, (.int .i64), (.int .i64), (.int .i64), (.int .i64), (.int .i64), (.int .i64), (.int .i64)] y86.2.1) (cnd (chkU [] y86.2.2)
 (cnd (decide ((intV (gt y86.2.1 4)) < (intV (gt y86.2.1 6))))
 (some ((.tuple [(.int .i64 0), (.int .i64 0)]), []))
 (cnd (decide ((intV (gt y86.2.1 4)) > 1114111))
 (some ((.tuple [(.int .i64 0), (.int .i64 0)]), []))
 (cnd (decide ((intV (gt y86.2.1 4)) ≥ 55296))
 (cnd (decide ((intV (gt y86.2.1 4)) < 57344))
 (some ((.tuple [(.int .i64 0), (.int .i64 0)]), []))
 (some ((.tuple [(.int .i64 (intV (gt y86.2.1 4))), (.int .i64 (intV (gt y86.2.1 5)))]), [])))
 (some ((.tuple [(.int .i64 (intV (gt y86.2.1 4))), (.int .i64 (intV (gt y86.2.1 5)))]), []))))) none) none)
 (exIs y86.1 none (cnd (chkL [.str, (.int .i64), (.int .i64), (.int .i64), (.int .i64), (.int .i64), (.int .i64), (.int .i64)] y86.2.1) (cnd (chkU [] y86.2.2)
 (some ((.tuple [(.int .i64 (intV (gt y86.2.1 2))), (.int .i64 (intV (gt y86.2.1 3)))]), [])) none) none)
 (none))))
 (some ((.tuple [(.int .i64 0), (.int .i64 0)]), [])))
 (some ((.tuple [(.int .i64 0), (.int .i64 0)]), [])))))) none))
noncomputable def r1_Code_l1T (s : Str) (i : Int) : (Int × Int) → Option ((Int × Int) ⊕ (Int ⊕ Unit))
 | (c_6, k_7) =>
 cnd (decide (k_7 < 2))
  (bnd (nthI s (IntKind.wrap .i64 (i + k_7))) fun y9 =>
  cnd (decide ((IntKind.wrap .i64 (y9.toNat : Int)) < 128))
  (some (.inr (.inr ())))
  (cnd (decide ((IntKind.wrap .i64 (y9.toNat : Int)) > 191))
   (some (.inr (.inr ())))
   (some (.inl ((bits .or .i64 (IntKind.wrap .i64 (c_6 * 2 ^ min (Int.toNat 6) 64)) (bits .and .i64 (IntKind.wrap .i64 (y9.toNat : Int)) 63)), (IntKind.wrap .i64 (k_7 + 1)))))))
  (some (.inr (.inl c_6)))
abbrev r1_Code_l1R (s : Str) (i : Int) (st : Int × Int) (l : List PV) (u : UP) : Prop := l = [(.str s), (.int .i64 i), (.int .i64 0), (.int .i64 0), (.int .i64 st.1), (.int .i64 2), (.int .i64 128), (.int .i64 st.2)] ∧ u = []
abbrev r1_Code_l1X (s : Str) (i : Int) (p : Int ⊕ Unit) (r : Ex × List PV × UP) : Prop := elim p (fun (p : Int) => ∃ (k_11 : Int), r = (Ex.brk 1, [(.str s), (.int .i64 i), (.int .i64 0), (.int .i64 0), (.int .i64 p), (.int .i64 2), (.int .i64 128), (.int .i64 k_11)], [])) (fun q2 => (fun (p : Unit) => ∃ (c_12 : Int), ∃ (k_13 : Int), r = (Ex.ret, [(.str s), (.int .i64 i), (.int .i64 0), (.int .i64 0), (.int .i64 c_12), (.int .i64 2), (.int .i64 128), (.int .i64 k_13)], [])) q2)
noncomputable def r1_Code_l2T (s : Str) (i : Int) : (Int × Int) → Option ((Int × Int) ⊕ (Int ⊕ Unit))
 | (c_18, k_19) =>
 cnd (decide (k_19 < 3))
  (bnd (nthI s (IntKind.wrap .i64 (i + k_19))) fun y21 =>
  cnd (decide ((IntKind.wrap .i64 (y21.toNat : Int)) < 128))
  (some (.inr (.inr ())))
  (cnd (decide ((IntKind.wrap .i64 (y21.toNat : Int)) > 191))
   (some (.inr (.inr ())))
   (some (.inl ((bits .or .i64 (IntKind.wrap .i64 (c_18 * 2 ^ min (Int.toNat 6) 64)) (bits .and .i64 (IntKind.wrap .i64 (y21.toNat : Int)) 63)), (IntKind.wrap .i64 (k_19 + 1)))))))
  (some (.inr (.inl c_18)))
abbrev r1_Code_l2R (s : Str) (i : Int) (st : Int × Int) (l : List PV) (u : UP) : Prop := l = [(.str s), (.int .i64 i), (.int .i64 0), (.int .i64 0), (.int .i64 st.1), (.int .i64 3), (.int .i64 2048), (.int .i64 st.2)] ∧ u = []
abbrev r1_Code_l2X (s : Str) (i : Int) (p : Int ⊕ Unit) (r : Ex × List PV × UP) : Prop := elim p (fun (p : Int) => ∃ (k_23 : Int), r = (Ex.brk 1, [(.str s), (.int .i64 i), (.int .i64 0), (.int .i64 0), (.int .i64 p), (.int .i64 3), (.int .i64 2048), (.int .i64 k_23)], [])) (fun q2 => (fun (p : Unit) => ∃ (c_24 : Int), ∃ (k_25 : Int), r = (Ex.ret, [(.str s), (.int .i64 i), (.int .i64 0), (.int .i64 0), (.int .i64 c_24), (.int .i64 3), (.int .i64 2048), (.int .i64 k_25)], [])) q2)
noncomputable def r1_Code_l3T (s : Str) (i : Int) : (Int × Int) → Option ((Int × Int) ⊕ (Int ⊕ Unit))
 | (c_30, k_31) =>
 cnd (decide (k_31 < 4))
  (bnd (nthI s (IntKind.wrap .i64 (i + k_31))) fun y33 =>
  cnd (decide ((IntKind.wrap .i64 (y33.toNat : Int)) < 128))
  (some (.inr (.inr ())))
  (cnd (decide ((IntKind.wrap .i64 (y33.toNat : Int)) > 191))
   (some (.inr (.inr ())))
   (some (.inl ((bits .or .i64 (IntKind.wrap .i64 (c_30 * 2 ^ min (Int.toNat 6) 64)) (bits .and .i64 (IntKind.wrap .i64 (y33.toNat : Int)) 63)), (IntKind.wrap .i64 (k_31 + 1)))))))
  (some (.inr (.inl c_30)))
abbrev r1_Code_l3R (s : Str) (i : Int) (st : Int × Int) (l : List PV) (u : UP) : Prop := l = [(.str s), (.int .i64 i), (.int .i64 0), (.int .i64 0), (.int .i64 st.1), (.int .i64 4), (.int .i64 65536), (.int .i64 st.2)] ∧ u = []
abbrev r1_Code_l3X (s : Str) (i : Int) (p : Int ⊕ Unit) (r : Ex × List PV × UP) : Prop := elim p (fun (p : Int) => ∃ (k_35 : Int), r = (Ex.brk 1, [(.str s), (.int .i64 i), (.int .i64 0), (.int .i64 0), (.int .i64 p), (.int .i64 4), (.int .i64 65536), (.int .i64 k_35)], [])) (fun q2 => (fun (p : Unit) => ∃ (c_36 : Int), ∃ (k_37 : Int), r = (Ex.ret, [(.str s), (.int .i64 i), (.int .i64 0), (.int .i64 0), (.int .i64 c_36), (.int .i64 4), (.int .i64 65536), (.int .i64 k_37)], [])) q2)
noncomputable def r1_Code_l4T (s : Str) (i : Int) : (Int × Int) → Option ((Int × Int) ⊕ (Int ⊕ Unit))
 | (c_42, k_43) =>
 cnd (decide (k_43 < 4))
  (bnd (nthI s (IntKind.wrap .i64 (i + k_43))) fun y45 =>
  cnd (decide ((IntKind.wrap .i64 (y45.toNat : Int)) < 128))
  (some (.inr (.inr ())))
  (cnd (decide ((IntKind.wrap .i64 (y45.toNat : Int)) > 191))
   (some (.inr (.inr ())))
   (some (.inl ((bits .or .i64 (IntKind.wrap .i64 (c_42 * 2 ^ min (Int.toNat 6) 64)) (bits .and .i64 (IntKind.wrap .i64 (y45.toNat : Int)) 63)), (IntKind.wrap .i64 (k_43 + 1)))))))
  (some (.inr (.inl c_42)))
abbrev r1_Code_l4R (s : Str) (i : Int) (st : Int × Int) (l : List PV) (u : UP) : Prop := l = [(.str s), (.int .i64 i), (.int .i64 0), (.int .i64 0), (.int .i64 st.1), (.int .i64 4), (.int .i64 65536), (.int .i64 st.2)] ∧ u = []
abbrev r1_Code_l4X (s : Str) (i : Int) (p : Int ⊕ Unit) (r : Ex × List PV × UP) : Prop := elim p (fun (p : Int) => ∃ (k_47 : Int), r = (Ex.brk 1, [(.str s), (.int .i64 i), (.int .i64 0), (.int .i64 0), (.int .i64 p), (.int .i64 4), (.int .i64 65536), (.int .i64 k_47)], [])) (fun q2 => (fun (p : Unit) => ∃ (c_48 : Int), ∃ (k_49 : Int), r = (Ex.ret, [(.str s), (.int .i64 i), (.int .i64 0), (.int .i64 0), (.int .i64 c_48), (.int .i64 4), (.int .i64 65536), (.int .i64 k_49)], [])) q2)
noncomputable def r1_Code_l5T (s : Str) (i : Int) : (Int × Int) → Option ((Int × Int) ⊕ (Int ⊕ Unit))
 | (c_54, k_55) =>
 cnd (decide (k_55 < 3))
  (bnd (nthI s (IntKind.wrap .i64 (i + k_55))) fun y57 =>
  cnd (decide ((IntKind.wrap .i64 (y57.toNat : Int)) < 128))
  (some (.inr (.inr ())))
  (cnd (decide ((IntKind.wrap .i64 (y57.toNat : Int)) > 191))
   (some (.inr (.inr ())))
   (some (.inl ((bits .or .i64 (IntKind.wrap .i64 (c_54 * 2 ^ min (Int.toNat 6) 64)) (bits .and .i64 (IntKind.wrap .i64 (y57.toNat : Int)) 63)), (IntKind.wrap .i64 (k_55 + 1)))))))
  (some (.inr (.inl c_54)))
abbrev r1_Code_l5R (s : Str) (i : Int) (st : Int × Int) (l : List PV) (u : UP) : Prop := l = [(.str s), (.int .i64 i), (.int .i64 0), (.int .i64 0), (.int .i64 st.1), (.int .i64 3), (.int .i64 2048), (.int .i64 st.2)] ∧ u = []
abbrev r1_Code_l5X (s : Str) (i : Int) (p : Int ⊕ Unit) (r : Ex × List PV × UP) : Prop := elim p (fun (p : Int) => ∃ (k_59 : Int), r = (Ex.brk 1, [(.str s), (.int .i64 i), (.int .i64 0), (.int .i64 0), (.int .i64 p), (.int .i64 3), (.int .i64 2048), (.int .i64 k_59)], [])) (fun q2 => (fun (p : Unit) => ∃ (c_60 : Int), ∃ (k_61 : Int), r = (Ex.ret, [(.str s), (.int .i64 i), (.int .i64 0), (.int .i64 0), (.int .i64 c_60), (.int .i64 3), (.int .i64 2048), (.int .i64 k_61)], [])) q2)
noncomputable def r1_Code_l6T (s : Str) (i : Int) : (Int × Int) → Option ((Int × Int) ⊕ (Int ⊕ Unit))
 | (c_66, k_67) =>
 cnd (decide (k_67 < 4))
  (bnd (nthI s (IntKind.wrap .i64 (i + k_67))) fun y69 =>
  cnd (decide ((IntKind.wrap .i64 (y69.toNat : Int)) < 128))
  (some (.inr (.inr ())))
  (cnd (decide ((IntKind.wrap .i64 (y69.toNat : Int)) > 191))
   (some (.inr (.inr ())))
   (some (.inl ((bits .or .i64 (IntKind.wrap .i64 (c_66 * 2 ^ min (Int.toNat 6) 64)) (bits .and .i64 (IntKind.wrap .i64 (y69.toNat : Int)) 63)), (IntKind.wrap .i64 (k_67 + 1)))))))
  (some (.inr (.inl c_66)))
abbrev r1_Code_l6R (s : Str) (i : Int) (st : Int × Int) (l : List PV) (u : UP) : Prop := l = [(.str s), (.int .i64 i), (.int .i64 0), (.int .i64 0), (.int .i64 st.1), (.int .i64 4), (.int .i64 65536), (.int .i64 st.2)] ∧ u = []
abbrev r1_Code_l6X (s : Str) (i : Int) (p : Int ⊕ Unit) (r : Ex × List PV × UP) : Prop := elim p (fun (p : Int) => ∃ (k_71 : Int), r = (Ex.brk 1, [(.str s), (.int .i64 i), (.int .i64 0), (.int .i64 0), (.int .i64 p), (.int .i64 4), (.int .i64 65536), (.int .i64 k_71)], [])) (fun q2 => (fun (p : Unit) => ∃ (c_72 : Int), ∃ (k_73 : Int), r = (Ex.ret, [(.str s), (.int .i64 i), (.int .i64 0), (.int .i64 0), (.int .i64 c_72), (.int .i64 4), (.int .i64 65536), (.int .i64 k_73)], [])) q2)
noncomputable def r1_Code_l7T (s : Str) (i : Int) : (Int × Int) → Option ((Int × Int) ⊕ (Int ⊕ Unit))
 | (c_78, k_79) =>
 cnd (decide (k_79 < 4))
  (bnd (nthI s (IntKind.wrap .i64 (i + k_79))) fun y81 =>
  cnd (decide ((IntKind.wrap .i64 (y81.toNat : Int)) < 128))
  (some (.inr (.inr ())))
  (cnd (decide ((IntKind.wrap .i64 (y81.toNat : Int)) > 191))
   (some (.inr (.inr ())))
   (some (.inl ((bits .or .i64 (IntKind.wrap .i64 (c_78 * 2 ^ min (Int.toNat 6) 64)) (bits .and .i64 (IntKind.wrap .i64 (y81.toNat : Int)) 63)), (IntKind.wrap .i64 (k_79 + 1)))))))
  (some (.inr (.inl c_78)))
abbrev r1_Code_l7R (s : Str) (i : Int) (st : Int × Int) (l : List PV) (u : UP) : Prop := l = [(.str s), (.int .i64 i), (.int .i64 0), (.int .i64 0), (.int .i64 st.1), (.int .i64 4), (.int .i64 65536), (.int .i64 st.2)] ∧ u = []
abbrev r1_Code_l7X (s : Str) (i : Int) (p : Int ⊕ Unit) (r : Ex × List PV × UP) : Prop := elim p (fun (p : Int) => ∃ (k_83 : Int), r = (Ex.brk 1, [(.str s), (.int .i64 i), (.int .i64 0), (.int .i64 0), (.int .i64 p), (.int .i64 4), (.int .i64 65536), (.int .i64 k_83)], [])) (fun q2 => (fun (p : Unit) => ∃ (c_84 : Int), ∃ (k_85 : Int), r = (Ex.ret, [(.str s), (.int .i64 i), (.int .i64 0), (.int .i64 0), (.int .i64 c_84), (.int .i64 4), (.int .i64 65536), (.int .i64 k_85)], [])) q2)
noncomputable def r1_Code_B (s : Str) (i : Int) : Option (Int × Int) :=
 cnd (decide (i < 0))
 (some (0, 0))
 (cnd (decide (i ≥ (List.length s : Int)))
 (some (0, 0))
 (bnd (nthI s i) fun y2 =>
 cnd (decide ((IntKind.wrap .i64 (y2.toNat : Int)) < 128))
 (some ((IntKind.wrap .i64 (y2.toNat : Int)), 1))
 (cnd (decide ((IntKind.wrap .i64 (y2.toNat : Int)) ≥ 194))
 (cnd (decide ((IntKind.wrap .i64 (y2.toNat : Int)) < 224))
 (cnd (decide ((2 : Int) > (IntKind.wrap .i64 ((List.length s : Int) - i))))
 (some (0, 0))
 (bnd (tloop (r1_Code_l1T s i) ((bits .and .i64 (IntKind.wrap .i64 (y2.toNat : Int)) 31), 1)) fun e14_2 => elim e14_2
 (fun c_10 =>
 cnd (decide (c_10 < 128))
 (some (0, 0))
 (cnd (decide (c_10 > 1114111))
 (some (0, 0))
 (cnd (decide (c_10 ≥ 55296))
 (cnd (decide (c_10 < 57344))
 (some (0, 0))
 (some (c_10, 2)))
 (some (c_10, 2)))))
 (fun p14 =>
 some (0, 0))))
 (cnd (decide ((IntKind.wrap .i64 (y2.toNat : Int)) ≥ 224))
 (cnd (decide ((IntKind.wrap .i64 (y2.toNat : Int)) < 240))
 (cnd (decide ((3 : Int) > (IntKind.wrap .i64 ((List.length s : Int) - i))))
 (some (0, 0))
 (bnd (tloop (r1_Code_l2T s i) ((bits .and .i64 (IntKind.wrap .i64 (y2.toNat : Int)) 15), 1)) fun e26_2 => elim e26_2
 (fun c_22 =>
 cnd (decide (c_22 < 2048))
 (some (0, 0))
 (cnd (decide (c_22 > 1114111))
 (some (0, 0))
 (cnd (decide (c_22 ≥ 55296))
 (cnd (decide (c_22 < 57344))
 (some (0, 0))
 (some (c_22, 3)))
 (some (c_22, 3)))))
 (fun p26 =>
 some (0, 0))))
 (cnd (decide ((IntKind.wrap .i64 (y2.toNat : Int)) ≥ 240))
 (cnd (decide ((IntKind.wrap .i64 (y2.toNat : Int)) < 245))
 (cnd (decide ((4 : Int) > (IntKind.wrap .i64 ((List.length s : Int) - i))))
 (some (0, 0))
 (bnd (tloop (r1_Code_l3T s i) ((bits .and .i64 (IntKind.wrap .i64 (y2.toNat : Int)) 7), 1)) fun e38_2 => elim e38_2
 (fun c_34 =>
 cnd (decide (c_34 < 65536))
 (some (0, 0))
 (cnd (decide (c_34 > 1114111))
 (some (0, 0))
 (cnd (decide (c_34 ≥ 55296))
 (cnd (decide (c_34 < 57344))
 (some (0, 0))
 (some (c_34, 4)))
 (some (c_34, 4)))))
 (fun p38 =>
 some (0, 0))))
 (some (0, 0)))
 (some (0, 0))))
 (cnd (decide ((IntKind.wrap .i64 (y2.toNat : Int)) ≥ 240))
 (cnd (decide ((IntKind.wrap .i64 (y2.toNat : Int)) < 245))
 (cnd (decide ((4 : Int) > (IntKind.wrap .i64 ((List.length s : Int) - i))))
 (some (0, 0))
 (bnd (tloop (r1_Code_l4T s i) ((bits .and .i64 (IntKind.wrap .i64 (y2.toNat : Int)) 7), 1)) fun e50_2 => elim e50_2
 (fun c_46 =>
 cnd (decide (c_46 < 65536))
 (some (0, 0))
 (cnd (decide (c_46 > 1114111))
 (some (0, 0))
 (cnd (decide (c_46 ≥ 55296))
 (cnd (decide (c_46 < 57344))
 (some (0, 0))
 (some (c_46, 4)))
 (some (c_46, 4)))))
 (fun p50 =>
 some (0, 0))))
 (some (0, 0)))
 (some (0, 0)))))
 (cnd (decide ((IntKind.wrap .i64 (y2.toNat : Int)) ≥ 224))
 (cnd (decide ((IntKind.wrap .i64 (y2.toNat : Int)) < 240))
 (cnd (decide ((3 : Int) > (IntKind.wrap .i64 ((List.length s : Int) - i))))
 (some (0, 0))
 (bnd (tloop (r1_Code_l5T s i) ((bits .and .i64 (IntKind.wrap .i64 (y2.toNat : Int)) 15), 1)) fun e62_2 => elim e62_2
 (fun c_58 =>
 cnd (decide (c_58 < 2048))
 (some (0, 0))
 (cnd (decide (c_58 > 1114111))
 (some (0, 0))
 (cnd (decide (c_58 ≥ 55296))
 (cnd (decide (c_58 < 57344))
 (some (0, 0))
 (some (c_58, 3)))
 (some (c_58, 3)))))
 (fun p62 =>
 some (0, 0))))
 (cnd (decide ((IntKind.wrap .i64 (y2.toNat : Int)) ≥ 240))
 (cnd (decide ((IntKind.wrap .i64 (y2.toNat : Int)) < 245))
 (cnd (decide ((4 : Int) > (IntKind.wrap .i64 ((List.length s : Int) - i))))
 (some (0, 0))
 (bnd (tloop (r1_Code_l6T s i) ((bits .and .i64 (IntKind.wrap .i64 (y2.toNat : Int)) 7), 1)) fun e74_2 => elim e74_2
 (fun c_70 =>
 cnd (decide (c_70 < 65536))
 (some (0, 0))
 (cnd (decide (c_70 > 1114111))
 (some (0, 0))
 (cnd (decide (c_70 ≥ 55296))
 (cnd (decide (c_70 < 57344))
 (some (0, 0))
 (some (c_70, 4)))
 (some (c_70, 4)))))
 (fun p74 =>
 some (0, 0))))
 (some (0, 0)))
 (some (0, 0))))
 (cnd (decide ((IntKind.wrap .i64 (y2.toNat : Int)) ≥ 240))
 (cnd (decide ((IntKind.wrap .i64 (y2.toNat : Int)) < 245))
 (cnd (decide ((4 : Int) > (IntKind.wrap .i64 ((List.length s : Int) - i))))
 (some (0, 0))
 (bnd (tloop (r1_Code_l7T s i) ((bits .and .i64 (IntKind.wrap .i64 (y2.toNat : Int)) 7), 1)) fun e86_2 => elim e86_2
 (fun c_82 =>
 cnd (decide (c_82 < 65536))
 (some (0, 0))
 (cnd (decide (c_82 > 1114111))
 (some (0, 0))
 (cnd (decide (c_82 ≥ 55296))
 (cnd (decide (c_82 < 57344))
 (some (0, 0))
 (some (c_82, 4)))
 (some (c_82, 4)))))
 (fun p86 =>
 some (0, 0))))
 (some (0, 0)))
 (some (0, 0)))))))
def r1_Code_ds : Decs := { decs := [(21, (.int .u8)), (68, (.int .u8))], ups := [], loops := [(17, [], ⟨[.str, (.int .i64), (.int .i64), (.int .i64), (.int .i64), (.int .i64), (.int .i64), (.int .i64)], [], [(some 1, [.str, (.int .i64), (.int .i64), (.int .i64), (.int .i64), (.int .i64), (.int .i64), (.int .i64)], []), (none, [.str, (.int .i64), (.int .i64), (.int .i64), (.int .i64), (.int .i64), (.int .i64), (.int .i64)], [])]⟩)] }
set_option maxRecDepth 100000 in
theorem r1_Code_t1 (O : Orc) (LP : LBody → LBody) (s : Str) (i : Int) : evalBodyD Tryd.prog (MT 88) r1_Code_ds Tryd.f88.ntmps O LP Tryd.f88 [(.str s), (.int .i64 i)] [] = r1_Code_T1 O LP s i := by kernel_rfl
theorem r1_Code_l1_ok (s : Str) (i : Int) : ∀ st l u, r1_Code_l1R s i st l u → Imp (r1_Code_l1T s i st) (r1_Code_l1 O loopLim l u) (StepR (r1_Code_l1R s i) (r1_Code_l1X s i)) := by
 rintro ⟨c_6, k_7⟩ l u ⟨rfl, rfl⟩
 simp only [r1_Code_l1T, r1_Code_l1]
 refine Imp.chk rfl (Imp.chk rfl ?_)
 try simp only [evs, tys]
 refine Imp.cnd ?_ ?_
 ·refine Imp.op (f := fun a => .int .u8 (a.toNat : Int)) (fun a h => op_ixStr h) (fun a => rfl) fun y9 hy9 => ?_
  try simp only [evs, tys]
  refine Imp.cnd ?_ ?_
  ·exact Imp.some (StepR.ret ⟨c_6, k_7, by first | rfl | simp only [evs, tys, evl, elim_inl, elim_inr]⟩)
  ·refine Imp.cnd ?_ ?_
   ·exact Imp.some (StepR.ret ⟨c_6, k_7, by first | rfl | simp only [evs, tys, evl, elim_inl, elim_inr]⟩)
   ·exact Imp.some (StepR.next ⟨by first | rfl | simp only [evs, tys, evl], rfl⟩)
 ·exact Imp.some (StepR.brk ⟨k_7, by first | rfl | simp only [evs, tys, evl, elim_inl, elim_inr]⟩)
theorem r1_Code_l2_ok (s : Str) (i : Int) : ∀ st l u, r1_Code_l2R s i st l u → Imp (r1_Code_l2T s i st) (r1_Code_l2 O loopLim l u) (StepR (r1_Code_l2R s i) (r1_Code_l2X s i)) := by
 rintro ⟨c_18, k_19⟩ l u ⟨rfl, rfl⟩
 simp only [r1_Code_l2T, r1_Code_l2]
 refine Imp.chk rfl (Imp.chk rfl ?_)
 try simp only [evs, tys]
 refine Imp.cnd ?_ ?_
 ·refine Imp.op (f := fun a => .int .u8 (a.toNat : Int)) (fun a h => op_ixStr h) (fun a => rfl) fun y21 hy21 => ?_
  try simp only [evs, tys]
  refine Imp.cnd ?_ ?_
  ·exact Imp.some (StepR.ret ⟨c_18, k_19, by first | rfl | simp only [evs, tys, evl, elim_inl, elim_inr]⟩)
  ·refine Imp.cnd ?_ ?_
   ·exact Imp.some (StepR.ret ⟨c_18, k_19, by first | rfl | simp only [evs, tys, evl, elim_inl, elim_inr]⟩)
   ·exact Imp.some (StepR.next ⟨by first | rfl | simp only [evs, tys, evl], rfl⟩)
 ·exact Imp.some (StepR.brk ⟨k_19, by first | rfl | simp only [evs, tys, evl, elim_inl, elim_inr]⟩)
theorem r1_Code_l3_ok (s : Str) (i : Int) : ∀ st l u, r1_Code_l3R s i st l u → Imp (r1_Code_l3T s i st) (r1_Code_l3 O loopLim l u) (StepR (r1_Code_l3R s i) (r1_Code_l3X s i)) := by
 rintro ⟨c_30, k_31⟩ l u ⟨rfl, rfl⟩
 simp only [r1_Code_l3T, r1_Code_l3]
 refine Imp.chk rfl (Imp.chk rfl ?_)
 try simp only [evs, tys]
 refine Imp.cnd ?_ ?_
 ·refine Imp.op (f := fun a => .int .u8 (a.toNat : Int)) (fun a h => op_ixStr h) (fun a => rfl) fun y33 hy33 => ?_
  try simp only [evs, tys]
  refine Imp.cnd ?_ ?_
  ·exact Imp.some (StepR.ret ⟨c_30, k_31, by first | rfl | simp only [evs, tys, evl, elim_inl, elim_inr]⟩)
  ·refine Imp.cnd ?_ ?_
   ·exact Imp.some (StepR.ret ⟨c_30, k_31, by first | rfl | simp only [evs, tys, evl, elim_inl, elim_inr]⟩)
   ·exact Imp.some (StepR.next ⟨by first | rfl | simp only [evs, tys, evl], rfl⟩)
 ·exact Imp.some (StepR.brk ⟨k_31, by first | rfl | simp only [evs, tys, evl, elim_inl, elim_inr]⟩)
theorem r1_Code_l4_ok (s : Str) (i : Int) : ∀ st l u, r1_Code_l4R s i st l u → Imp (r1_Code_l4T s i st) (r1_Code_l4 O loopLim l u) (StepR (r1_Code_l4R s i) (r1_Code_l4X s i)) := by
 rintro ⟨c_42, k_43⟩ l u ⟨rfl, rfl⟩
 simp only [r1_Code_l4T, r1_Code_l4]
 refine Imp.chk rfl (Imp.chk rfl ?_)
 try simp only [evs, tys]
 refine Imp.cnd ?_ ?_
 ·refine Imp.op (f := fun a => .int .u8 (a.toNat : Int)) (fun a h => op_ixStr h) (fun a => rfl) fun y45 hy45 => ?_
  try simp only [evs, tys]
  refine Imp.cnd ?_ ?_
  ·exact Imp.some (StepR.ret ⟨c_42, k_43, by first | rfl | simp only [evs, tys, evl, elim_inl, elim_inr]⟩)
  ·refine Imp.cnd ?_ ?_
   ·exact Imp.some (StepR.ret ⟨c_42, k_43, by first | rfl | simp only [evs, tys, evl, elim_inl, elim_inr]⟩)
   ·exact Imp.some (StepR.next ⟨by first | rfl | simp only [evs, tys, evl], rfl⟩)
 ·exact Imp.some (StepR.brk ⟨k_43, by first | rfl | simp only [evs, tys, evl, elim_inl, elim_inr]⟩)
theorem r1_Code_l5_ok (s : Str) (i : Int) : ∀ st l u, r1_Code_l5R s i st l u → Imp (r1_Code_l5T s i st) (r1_Code_l5 O loopLim l u) (StepR (r1_Code_l5R s i) (r1_Code_l5X s i)) := by
 rintro ⟨c_54, k_55⟩ l u ⟨rfl, rfl⟩
 simp only [r1_Code_l5T, r1_Code_l5]
 refine Imp.chk rfl (Imp.chk rfl ?_)
 try simp only [evs, tys]
 refine Imp.cnd ?_ ?_
 ·refine Imp.op (f := fun a => .int .u8 (a.toNat : Int)) (fun a h => op_ixStr h) (fun a => rfl) fun y57 hy57 => ?_
  try simp only [evs, tys]
  refine Imp.cnd ?_ ?_
  ·exact Imp.some (StepR.ret ⟨c_54, k_55, by first | rfl | simp only [evs, tys, evl, elim_inl, elim_inr]⟩)
  ·refine Imp.cnd ?_ ?_
   ·exact Imp.some (StepR.ret ⟨c_54, k_55, by first | rfl | simp only [evs, tys, evl, elim_inl, elim_inr]⟩)
   ·exact Imp.some (StepR.next ⟨by first | rfl | simp only [evs, tys, evl], rfl⟩)
 ·exact Imp.some (StepR.brk ⟨k_55, by first | rfl | simp only [evs, tys, evl, elim_inl, elim_inr]⟩)
theorem r1_Code_l6_ok (s : Str) (i : Int) : ∀ st l u, r1_Code_l6R s i st l u → Imp (r1_Code_l6T s i st) (r1_Code_l6 O loopLim l u) (StepR (r1_Code_l6R s i) (r1_Code_l6X s i)) := by
 rintro ⟨c_66, k_67⟩ l u ⟨rfl, rfl⟩
 simp only [r1_Code_l6T, r1_Code_l6]
 refine Imp.chk rfl (Imp.chk rfl ?_)
 try simp only [evs, tys]
 refine Imp.cnd ?_ ?_
 ·refine Imp.op (f := fun a => .int .u8 (a.toNat : Int)) (fun a h => op_ixStr h) (fun a => rfl) fun y69 hy69 => ?_
  try simp only [evs, tys]
  refine Imp.cnd ?_ ?_
  ·exact Imp.some (StepR.ret ⟨c_66, k_67, by first | rfl | simp only [evs, tys, evl, elim_inl, elim_inr]⟩)
  ·refine Imp.cnd ?_ ?_
   ·exact Imp.some (StepR.ret ⟨c_66, k_67, by first | rfl | simp only [evs, tys, evl, elim_inl, elim_inr]⟩)
   ·exact Imp.some (StepR.next ⟨by first | rfl | simp only [evs, tys, evl], rfl⟩)
 ·exact Imp.some (StepR.brk ⟨k_67, by first | rfl | simp only [evs, tys, evl, elim_inl, elim_inr]⟩)
theorem r1_Code_l7_ok (s : Str) (i : Int) : ∀ st l u, r1_Code_l7R s i st l u → Imp (r1_Code_l7T s i st) (r1_Code_l7 O loopLim l u) (StepR (r1_Code_l7R s i) (r1_Code_l7X s i)) := by
 rintro ⟨c_78, k_79⟩ l u ⟨rfl, rfl⟩
 simp only [r1_Code_l7T, r1_Code_l7]
 refine Imp.chk rfl (Imp.chk rfl ?_)
 try simp only [evs, tys]
 refine Imp.cnd ?_ ?_
 ·refine Imp.op (f := fun a => .int .u8 (a.toNat : Int)) (fun a h => op_ixStr h) (fun a => rfl) fun y81 hy81 => ?_
  try simp only [evs, tys]
  refine Imp.cnd ?_ ?_
  ·exact Imp.some (StepR.ret ⟨c_78, k_79, by first | rfl | simp only [evs, tys, evl, elim_inl, elim_inr]⟩)
  ·refine Imp.cnd ?_ ?_
   ·exact Imp.some (StepR.ret ⟨c_78, k_79, by first | rfl | simp only [evs, tys, evl, elim_inl, elim_inr]⟩)
   ·exact Imp.some (StepR.next ⟨by first | rfl | simp only [evs, tys, evl], rfl⟩)
 ·exact Imp.some (StepR.brk ⟨k_79, by first | rfl | simp only [evs, tys, evl, elim_inl, elim_inr]⟩)
theorem r1_Code_imp (s : Str) (i : Int) : Imp (r1_Code_B s i) (r1_Code_T1 O loopLim s i) (fun r v => v = (r1_CodeE r, [])) := by
 simp only [r1_Code_B, r1_Code_T1]
 try simp only [evs, tys]
 refine Imp.cnd ?_ ?_
 ·exact Imp.some (by first | rfl | simp only [r1_CodeE, evs, tys, evl])
 ·refine Imp.cnd ?_ ?_
  ·exact Imp.some (by first | rfl | simp only [r1_CodeE, evs, tys, evl])
  ·refine Imp.op (f := fun a => .int .u8 (a.toNat : Int)) (fun a h => op_ixStr h) (fun a => rfl) fun y2 hy2 => ?_
   try simp only [evs, tys]
   refine Imp.cnd ?_ ?_
   ·exact Imp.some (by first | rfl | simp only [r1_CodeE, evs, tys, evl])
   ·refine Imp.cnd ?_ ?_
    ·refine Imp.cnd ?_ ?_
     ·refine Imp.cnd ?_ ?_
      ·exact Imp.some (by first | rfl | simp only [r1_CodeE, evs, tys, evl])
      ·refine Imp.bnd (Imp.loop (r1_Code_l1_ok s i) ⟨by first | rfl | simp only [evs, tys, evl], rfl⟩) ?_
       rintro (c_10 | p) vy14 hy14
       ·try simp only [elim_inl, elim_inr]
        obtain ⟨k_11, rfl⟩ := hy14
        refine Imp.exHit rfl (Imp.chk rfl (Imp.chk rfl ?_))
        try simp only [evs, tys]
        refine Imp.cnd ?_ ?_
        ·exact Imp.some (by first | rfl | simp only [r1_CodeE, evs, tys, evl])
        ·refine Imp.cnd ?_ ?_
         ·exact Imp.some (by first | rfl | simp only [r1_CodeE, evs, tys, evl])
         ·refine Imp.cnd ?_ ?_
          ·refine Imp.cnd ?_ ?_
           ·exact Imp.some (by first | rfl | simp only [r1_CodeE, evs, tys, evl])
           ·exact Imp.some (by first | rfl | simp only [r1_CodeE, evs, tys, evl])
          ·exact Imp.some (by first | rfl | simp only [r1_CodeE, evs, tys, evl])
       ·try simp only [elim_inl, elim_inr]
        obtain ⟨c_12, k_13, rfl⟩ := hy14
        refine Imp.exMiss rfl ?_
        refine Imp.exHit rfl (Imp.chk rfl (Imp.chk rfl ?_))
        try simp only [evs, tys]
        exact Imp.some (by first | rfl | simp only [r1_CodeE, evs, tys, evl])
     ·refine Imp.cnd ?_ ?_
      ·refine Imp.cnd ?_ ?_
       ·refine Imp.cnd ?_ ?_
        ·exact Imp.some (by first | rfl | simp only [r1_CodeE, evs, tys, evl])
        ·refine Imp.bnd (Imp.loop (r1_Code_l2_ok s i) ⟨by first | rfl | simp only [evs, tys, evl], rfl⟩) ?_
         rintro (c_22 | p) vy26 hy26
         ·try simp only [elim_inl, elim_inr]
          obtain ⟨k_23, rfl⟩ := hy26
          refine Imp.exHit rfl (Imp.chk rfl (Imp.chk rfl ?_))
          try simp only [evs, tys]
          refine Imp.cnd ?_ ?_
          ·exact Imp.some (by first | rfl | simp only [r1_CodeE, evs, tys, evl])
          ·refine Imp.cnd ?_ ?_
           ·exact Imp.some (by first | rfl | simp only [r1_CodeE, evs, tys, evl])
           ·refine Imp.cnd ?_ ?_
            ·refine Imp.cnd ?_ ?_
             ·exact Imp.some (by first | rfl | simp only [r1_CodeE, evs, tys, evl])
             ·exact Imp.some (by first | rfl | simp only [r1_CodeE, evs, tys, evl])
            ·exact Imp.some (by first | rfl | simp only [r1_CodeE, evs, tys, evl])
         ·try simp only [elim_inl, elim_inr]
          obtain ⟨c_24, k_25, rfl⟩ := hy26
          refine Imp.exMiss rfl ?_
          refine Imp.exHit rfl (Imp.chk rfl (Imp.chk rfl ?_))
          try simp only [evs, tys]
          exact Imp.some (by first | rfl | simp only [r1_CodeE, evs, tys, evl])
       ·refine Imp.cnd ?_ ?_
        ·refine Imp.cnd ?_ ?_
         ·refine Imp.cnd ?_ ?_
          ·exact Imp.some (by first | rfl | simp only [r1_CodeE, evs, tys, evl])
          ·refine Imp.bnd (Imp.loop (r1_Code_l3_ok s i) ⟨by first | rfl | simp only [evs, tys, evl], rfl⟩) ?_
           rintro (c_34 | p) vy38 hy38
           ·try simp only [elim_inl, elim_inr]
            obtain ⟨k_35, rfl⟩ := hy38
            refine Imp.exHit rfl (Imp.chk rfl (Imp.chk rfl ?_))
            try simp only [evs, tys]
            refine Imp.cnd ?_ ?_
            ·exact Imp.some (by first | rfl | simp only [r1_CodeE, evs, tys, evl])
            ·refine Imp.cnd ?_ ?_
             ·exact Imp.some (by first | rfl | simp only [r1_CodeE, evs, tys, evl])
             ·refine Imp.cnd ?_ ?_
              ·refine Imp.cnd ?_ ?_
               ·exact Imp.some (by first | rfl | simp only [r1_CodeE, evs, tys, evl])
               ·exact Imp.some (by first | rfl | simp only [r1_CodeE, evs, tys, evl])
              ·exact Imp.some (by first | rfl | simp only [r1_CodeE, evs, tys, evl])
           ·try simp only [elim_inl, elim_inr]
            obtain ⟨c_36, k_37, rfl⟩ := hy38
            refine Imp.exMiss rfl ?_
            refine Imp.exHit rfl (Imp.chk rfl (Imp.chk rfl ?_))
            try simp only [evs, tys]
            exact Imp.some (by first | rfl | simp only [r1_CodeE, evs, tys, evl])
         ·exact Imp.some (by first | rfl | simp only [r1_CodeE, evs, tys, evl])
        ·exact Imp.some (by first | rfl | simp only [r1_CodeE, evs, tys, evl])
      ·refine Imp.cnd ?_ ?_
       ·refine Imp.cnd ?_ ?_
        ·refine Imp.cnd ?_ ?_
         ·exact Imp.some (by first | rfl | simp only [r1_CodeE, evs, tys, evl])
         ·refine Imp.bnd (Imp.loop (r1_Code_l4_ok s i) ⟨by first | rfl | simp only [evs, tys, evl], rfl⟩) ?_
          rintro (c_46 | p) vy50 hy50
          ·try simp only [elim_inl, elim_inr]
           obtain ⟨k_47, rfl⟩ := hy50
           refine Imp.exHit rfl (Imp.chk rfl (Imp.chk rfl ?_))
           try simp only [evs, tys]
           refine Imp.cnd ?_ ?_
           ·exact Imp.some (by first | rfl | simp only [r1_CodeE, evs, tys, evl])
           ·refine Imp.cnd ?_ ?_
            ·exact Imp.some (by first | rfl | simp only [r1_CodeE, evs, tys, evl])
            ·refine Imp.cnd ?_ ?_
             ·refine Imp.cnd ?_ ?_
              ·exact Imp.some (by first | rfl | simp only [r1_CodeE, evs, tys, evl])
              ·exact Imp.some (by first | rfl | simp only [r1_CodeE, evs, tys, evl])
             ·exact Imp.some (by first | rfl | simp only [r1_CodeE, evs, tys, evl])
          ·try simp only [elim_inl, elim_inr]
           obtain ⟨c_48, k_49, rfl⟩ := hy50
           refine Imp.exMiss rfl ?_
           refine Imp.exHit rfl (Imp.chk rfl (Imp.chk rfl ?_))
           try simp only [evs, tys]
           exact Imp.some (by first | rfl | simp only [r1_CodeE, evs, tys, evl])
        ·exact Imp.some (by first | rfl | simp only [r1_CodeE, evs, tys, evl])
       ·exact Imp.some (by first | rfl | simp only [r1_CodeE, evs, tys, evl])
    ·refine Imp.cnd ?_ ?_
     ·refine Imp.cnd ?_ ?_
      ·refine Imp.cnd ?_ ?_
       ·exact Imp.some (by first | rfl | simp only [r1_CodeE, evs, tys, evl])
       ·refine Imp.bnd (Imp.loop (r1_Code_l5_ok s i) ⟨by first | rfl | simp only [evs, tys, evl], rfl⟩) ?_
        rintro (c_58 | p) vy62 hy62
        ·try simp only [elim_inl, elim_inr]
         obtain ⟨k_59, rfl⟩ := hy62
         refine Imp.exHit rfl (Imp.chk rfl (Imp.chk rfl ?_))
         try simp only [evs, tys]
         refine Imp.cnd ?_ ?_
         ·exact Imp.some (by first | rfl | simp only [r1_CodeE, evs, tys, evl])
         ·refine Imp.cnd ?_ ?_
          ·exact Imp.some (by first | rfl | simp only [r1_CodeE, evs, tys, evl])
          ·refine Imp.cnd ?_ ?_
           ·refine Imp.cnd ?_ ?_
            ·exact Imp.some (by first | rfl | simp only [r1_CodeE, evs, tys, evl])
            ·exact Imp.some (by first | rfl | simp only [r1_CodeE, evs, tys, evl])
           ·exact Imp.some (by first | rfl | simp only [r1_CodeE, evs, tys, evl])
        ·try simp only [elim_inl, elim_inr]
         obtain ⟨c_60, k_61, rfl⟩ := hy62
         refine Imp.exMiss rfl ?_
         refine Imp.exHit rfl (Imp.chk rfl (Imp.chk rfl ?_))
         try simp only [evs, tys]
         exact Imp.some (by first | rfl | simp only [r1_CodeE, evs, tys, evl])
      ·refine Imp.cnd ?_ ?_
       ·refine Imp.cnd ?_ ?_
        ·refine Imp.cnd ?_ ?_
         ·exact Imp.some (by first | rfl | simp only [r1_CodeE, evs, tys, evl])
         ·refine Imp.bnd (Imp.loop (r1_Code_l6_ok s i) ⟨by first | rfl | simp only [evs, tys, evl], rfl⟩) ?_
          rintro (c_70 | p) vy74 hy74
          ·try simp only [elim_inl, elim_inr]
           obtain ⟨k_71, rfl⟩ := hy74
           refine Imp.exHit rfl (Imp.chk rfl (Imp.chk rfl ?_))
           try simp only [evs, tys]
           refine Imp.cnd ?_ ?_
           ·exact Imp.some (by first | rfl | simp only [r1_CodeE, evs, tys, evl])
           ·refine Imp.cnd ?_ ?_
            ·exact Imp.some (by first | rfl | simp only [r1_CodeE, evs, tys, evl])
            ·refine Imp.cnd ?_ ?_
             ·refine Imp.cnd ?_ ?_
              ·exact Imp.some (by first | rfl | simp only [r1_CodeE, evs, tys, evl])
              ·exact Imp.some (by first | rfl | simp only [r1_CodeE, evs, tys, evl])
             ·exact Imp.some (by first | rfl | simp only [r1_CodeE, evs, tys, evl])
          ·try simp only [elim_inl, elim_inr]
           obtain ⟨c_72, k_73, rfl⟩ := hy74
           refine Imp.exMiss rfl ?_
           refine Imp.exHit rfl (Imp.chk rfl (Imp.chk rfl ?_))
           try simp only [evs, tys]
           exact Imp.some (by first | rfl | simp only [r1_CodeE, evs, tys, evl])
        ·exact Imp.some (by first | rfl | simp only [r1_CodeE, evs, tys, evl])
       ·exact Imp.some (by first | rfl | simp only [r1_CodeE, evs, tys, evl])
     ·refine Imp.cnd ?_ ?_
      ·refine Imp.cnd ?_ ?_
       ·refine Imp.cnd ?_ ?_
        ·exact Imp.some (by first | rfl | simp only [r1_CodeE, evs, tys, evl])
        ·refine Imp.bnd (Imp.loop (r1_Code_l7_ok s i) ⟨by first | rfl | simp only [evs, tys, evl], rfl⟩) ?_
         rintro (c_82 | p) vy86 hy86
         ·try simp only [elim_inl, elim_inr]
          obtain ⟨k_83, rfl⟩ := hy86
          refine Imp.exHit rfl (Imp.chk rfl (Imp.chk rfl ?_))
          try simp only [evs, tys]
          refine Imp.cnd ?_ ?_
          ·exact Imp.some (by first | rfl | simp only [r1_CodeE, evs, tys, evl])
          ·refine Imp.cnd ?_ ?_
           ·exact Imp.some (by first | rfl | simp only [r1_CodeE, evs, tys, evl])
           ·refine Imp.cnd ?_ ?_
            ·refine Imp.cnd ?_ ?_
             ·exact Imp.some (by first | rfl | simp only [r1_CodeE, evs, tys, evl])
             ·exact Imp.some (by first | rfl | simp only [r1_CodeE, evs, tys, evl])
            ·exact Imp.some (by first | rfl | simp only [r1_CodeE, evs, tys, evl])
         ·try simp only [elim_inl, elim_inr]
          obtain ⟨c_84, k_85, rfl⟩ := hy86
          refine Imp.exMiss rfl ?_
          refine Imp.exHit rfl (Imp.chk rfl (Imp.chk rfl ?_))
          try simp only [evs, tys]
          exact Imp.some (by first | rfl | simp only [r1_CodeE, evs, tys, evl])
       ·exact Imp.some (by first | rfl | simp only [r1_CodeE, evs, tys, evl])
      ·exact Imp.some (by first | rfl | simp only [r1_CodeE, evs, tys, evl])
theorem r1_Code_run {s : Str} {i : Int} {r : Int × Int} (h : r1_Code_B s i = some r) : r1_Code s i = some r := by
 obtain ⟨v, hv, rfl⟩ := r1_Code_imp s i r h
 exact tO_of (pair_inj r1_CodeEj) (OL_runD r1_Code_ds rfl rfl Tryd.func88 ((r1_Code_t1 _ _ s i).trans hv))
open Go Go.Ev Go.Ev.PV
def r1_run_l1 (O : Orc) (LP : LBody → LBody) : LBody := fun s1 s1u => cnd (chkL [.str, (.int .i64), (.int .i64)] s1) (cnd (chkU [] s1u)
 (cnd (decide ((IntKind.wrap .i64 ((intV (gt s1 1)) + (intV (gt s1 2)))) < (List.length (strV (gt s1 0)) : Int)))
 (bnd (ixStr (.str (strV (gt s1 0))) (.int .i64 (IntKind.wrap .i64 ((intV (gt s1 1)) + (intV (gt s1 2)))))) fun x7 => cnd (chk (.int .u8) x7)
 (callp O 63 [(.int .u8 (intV x7))] fun x9 => cnd (chk .bool x9)
 (cnd (boolV x9)
 (some (.nrm, [(.str (strV (gt s1 0))), (.int .i64 (intV (gt s1 1))), (.int .i64 (IntKind.wrap .i64 ((intV (gt s1 2)) + 1)))], []))
 (some (.brk 0, [(.str (strV (gt s1 0))), (.int .i64 (intV (gt s1 1))), (.int .i64 (intV (gt s1 2)))], []))) none) none)
 (some (.brk 0, [(.str (strV (gt s1 0))), (.int .i64 (intV (gt s1 1))), (.int .i64 (intV (gt s1 2)))], []))) none) none
def r1_run_T1 (O : Orc) (LP : LBody → LBody) (s : Str) (i : Int) : Option (PV × UP) :=
 bnd (LP (r1_run_l1 O LP) [(.str s), (.int .i64 i), (.int .i64 0)] []) fun y12 =>
 exIs y12.1 (some 0) (cnd (chkL [.str, (.int .i64), (.int .i64)] y12.2.1) (cnd (chkU [] y12.2.2)
 (some ((.int .i64 (intV (gt y12.2.1 2))), [])) none) none)
 (none)
noncomputable def r1_run_l1T (s : Str) (i : Int) : Int → Option (Int ⊕ Int)
 | n_6 =>
 cnd (decide ((IntKind.wrap .i64 (i + n_6)) < (List.length s : Int)))
  (bnd (nthI s (IntKind.wrap .i64 (i + n_6))) fun y8 =>
  bnd (r1_digit (y8.toNat : Int)) fun y10 =>
  cnd y10
  (some (.inl (IntKind.wrap .i64 (n_6 + 1))))
  (some (.inr n_6)))
  (some (.inr n_6))
abbrev r1_run_l1R (s : Str) (i : Int) (st : Int) (l : List PV) (u : UP) : Prop := l = [(.str s), (.int .i64 i), (.int .i64 st)] ∧ u = []
abbrev r1_run_l1X (s : Str) (i : Int) (p : Int) (r : Ex × List PV × UP) : Prop := (fun (p : Int) => r = (Ex.brk 0, [(.str s), (.int .i64 i), (.int .i64 p)], [])) p
noncomputable def r1_run_B (s : Str) (i : Int) : Option Int :=
 bnd (tloop (r1_run_l1T s i) 0) fun n_11 =>
 some n_11
def r1_run_ds : Decs := { decs := [(17, (.int .u8)), (18, .bool)], ups := [], loops := [(2, [], ⟨[.str, (.int .i64), (.int .i64)], [], [(some 0, [.str, (.int .i64), (.int .i64)], [])]⟩)] }
set_option maxRecDepth 100000 in
theorem r1_run_t1 (O : Orc) (LP : LBody → LBody) (s : Str) (i : Int) : evalBodyD Tryd.prog (MT 67) r1_run_ds Tryd.f67.ntmps O LP Tryd.f67 [(.str s), (.int .i64 i)] [] = r1_run_T1 O LP s i := by kernel_rfl
theorem r1_run_l1_ok (s : Str) (i : Int) : ∀ st l u, r1_run_l1R s i st l u → Imp (r1_run_l1T s i st) (r1_run_l1 O loopLim l u) (StepR (r1_run_l1R s i) (r1_run_l1X s i)) := by
 rintro n_6 l u ⟨rfl, rfl⟩
 simp only [r1_run_l1T, r1_run_l1]
 refine Imp.chk rfl (Imp.chk rfl ?_)
 try simp only [evs, tys]
 refine Imp.cnd ?_ ?_
 ·refine Imp.op (f := fun a => .int .u8 (a.toNat : Int)) (fun a h => op_ixStr h) (fun a => rfl) fun y8 hy8 => ?_
  try simp only [evs, tys]
  refine Imp.call (f := r1_digitE) rfl (fun a h => by first | exact r1_digit_spec h | simpa only [evs, tys, evl] using r1_digit_spec h) (fun a => by first | rfl | simp only [r1_digitE, evk, chks]) fun y10 hy10 => ?_
  try simp only [r1_digitE, evs, tys]
  refine Imp.cnd ?_ ?_
  ·exact Imp.some (StepR.next ⟨by first | rfl | simp only [evs, tys, evl], rfl⟩)
  ·exact Imp.some (StepR.brk (by first | rfl | simp only [evs, tys, evl, elim_inl, elim_inr]))
 ·exact Imp.some (StepR.brk (by first | rfl | simp only [evs, tys, evl, elim_inl, elim_inr]))
theorem r1_run_imp (s : Str) (i : Int) : Imp (r1_run_B s i) (r1_run_T1 O loopLim s i) (fun r v => v = (r1_runE r, [])) := by
 simp only [r1_run_B, r1_run_T1]
 try simp only [evs, tys]
 refine Imp.bnd (Imp.loop (r1_run_l1_ok s i) ⟨by first | rfl | simp only [evs, tys, evl], rfl⟩) ?_
 rintro n_11 vy12 hy12
 cases hy12
 refine Imp.exHit rfl (Imp.chk rfl (Imp.chk rfl ?_))
 try simp only [evs, tys]
 exact Imp.some (by first | rfl | simp only [r1_runE, evs, tys, evl])
theorem r1_run_run {s : Str} {i : Int} {r : Int} (h : r1_run_B s i = some r) : r1_run s i = some r := by
 obtain ⟨v, hv, rfl⟩ := r1_run_imp s i r h
 exact tO_of (pair_inj r1_runEj) (OL_runD r1_run_ds rfl rfl Tryd.func67 ((r1_run_t1 _ _ s i).trans hv))
def stringslite_HasPrefix_T1 (O : Orc) (LP : LBody → LBody) (s : Str) (prefix0 : Str) : Option (PV × UP) :=
 cnd (decide ((List.length s : Int) ≥ (List.length prefix0 : Int)))
 (bnd (slcHi 0 (.str s) (.int .i64 (List.length prefix0 : Int))) fun x1 => cnd (chk .str x1)
 (some ((.bool ((strV x1) == prefix0)), [])) none)
 (some ((.bool false), []))
noncomputable def stringslite_HasPrefix_B (s : Str) (prefix0 : Str) : Option Bool :=
 cnd (decide ((List.length s : Int) ≥ (List.length prefix0 : Int)))
 (bnd (tslc s 0 (List.length prefix0 : Int)) fun y2 =>
 some (y2 == prefix0))
 (some false)
def stringslite_HasPrefix_ds : Decs := { decs := [(14, .str)], ups := [], loops := [] }
set_option maxRecDepth 100000 in
theorem stringslite_HasPrefix_t1 (O : Orc) (LP : LBody → LBody) (s : Str) (prefix0 : Str) : evalBodyD Tryd.prog (MT 80) stringslite_HasPrefix_ds Tryd.f80.ntmps O LP Tryd.f80 [(.str s), (.str prefix0)] [] = stringslite_HasPrefix_T1 O LP s prefix0 := by kernel_rfl
theorem stringslite_HasPrefix_imp (s : Str) (prefix0 : Str) : Imp (stringslite_HasPrefix_B s prefix0) (stringslite_HasPrefix_T1 O loopLim s prefix0) (fun r v => v = (stringslite_HasPrefixE r, [])) := by
 simp only [stringslite_HasPrefix_B, stringslite_HasPrefix_T1]
 try simp only [evs, tys]
 refine Imp.cnd ?_ ?_
 ·refine Imp.op (f := fun a => .str a) (fun a h => op_sslcHi h) (fun a => rfl) fun y2 hy2 => ?_
  try simp only [evs, tys]
  exact Imp.some (by first | rfl | simp only [stringslite_HasPrefixE, evs, tys, evl])
 ·exact Imp.some (by first | rfl | simp only [stringslite_HasPrefixE, evs, tys, evl])
theorem stringslite_HasPrefix_run {s : Str} {prefix0 : Str} {r : Bool} (h : stringslite_HasPrefix_B s prefix0 = some r) : stringslite_HasPrefix s prefix0 = some r := by
 obtain ⟨v, hv, rfl⟩ := stringslite_HasPrefix_imp s prefix0 r h
 exact tO_of (pair_inj stringslite_HasPrefixEj) (OL_runD stringslite_HasPrefix_ds rfl rfl Tryd.func80 ((stringslite_HasPrefix_t1 _ _ s prefix0).trans hv))
open Go.Shelf Go.RowKit
def GM : Mem := fun b i =>
 if b = 0 then (if i < 256 then some (.int .u8 (Go.Lib.firstT i)) else none)
 else if b = 1 then (if i < 32 then some (.int .u8 (if i % 2 = 0 then Go.Lib.accLo (i / 2) else Go.Lib.accHi (i / 2))) else none)
 else none
theorem tabs_of : ∀ (n : Nat) (M : Mem) (B : BM) (args : List PV) (up : UP) (vals : Array Value) (w : World), CallPre ⟨n, GM⟩ M B args up vals w → Go.Lib.Utf8Tabs 0 1 w := by
 intro n M B args up vals w hp
 refine ⟨fun c hc => hp.globW (by show GM 0 c = _; unfold GM; rw [if_pos rfl, if_pos hc]), fun i hi => ⟨hp.globW ?_, hp.globW ?_⟩⟩
 ·show GM 1 (2 * i) = _
  unfold GM; rw [if_neg (by decide), if_pos rfl, if_pos (by omega), if_pos (by omega)]
  rw [show 2 * i / 2 = i by omega]
 ·show GM 1 (2 * i + 1) = _
  unfold GM; rw [if_neg (by decide), if_pos rfl, if_pos (by omega), if_neg (by omega)]
  rw [show (2 * i + 1) / 2 = i by omega]
theorem decS_decodeGo (s : Str) : Go.Lib.decodeGo ⟨s.toArray⟩ = decS s := by
 have hsz : (⟨s.toArray⟩ : ByteArray).size = s.length := by show s.toArray.size = _; simp
 unfold Go.Lib.decodeGo decS
 by_cases h : s = []
 ·subst h; rfl
 ·have hl : s.length ≠ 0 := fun e => h (List.length_eq_zero_iff.1 e)
  rw [if_neg (by rw [hsz]; exact hl), if_neg h]
  have := Go.Lib.decodeL_N s
  unfold Go.Lib.decodeL at this
  exact this
def Tryd.lays156_ren : Go.Shelf.Ren := ⟨fun | 156 => 40 | 165 => 71 | 166 => 72 | 169 => 73 | 240 => 93 | 241 => 94 | 276 => 105 | 277 => 106 | n => n, fun | 31 => 45 | 9 => 9 | 3 => 3 | 4 => 4 | 0 => 0 | 20 => 20 | 72 => 78 | 76 => 82 | 70 => 76 | 37 => 32 | 75 => 81 | 127 => 96 | 164 => 106 | 5 => 5 | 80 => 84 | n => n, fun | n => n⟩
theorem Tryd.lays156 : Go.Proofs.Lays.n156 Tryd.prog Tryd.lays156_ren := {
 mixed := by kernel_rfl
 f156 := Tryd.func40.trans (congrArg some (by kernel_rfl))
 f165 := Tryd.func71.trans (congrArg some (by kernel_rfl))
 f166 := Tryd.func72.trans (congrArg some (by kernel_rfl))
 f169 := Tryd.func73.trans (congrArg some (by kernel_rfl))
 f240 := Tryd.func93.trans (congrArg some (by kernel_rfl))
 f241 := Tryd.func94.trans (congrArg some (by kernel_rfl))
 f276 := Tryd.func105.trans (congrArg some (by kernel_rfl))
 f277 := Tryd.func106.trans (congrArg some (by kernel_rfl))
 t0 := Tryd.underlying0
 a0 := Tryd.isAgg0
 z0 := Tryd.sizeOf0
 v0 := Tryd.zeroValue0
 t3 := Tryd.underlying3
 a3 := Tryd.isAgg3
 z3 := Tryd.sizeOf3
 v3 := Tryd.zeroValue3
 t4 := Tryd.underlying4
 a4 := Tryd.isAgg4
 z4 := Tryd.sizeOf4
 v4 := Tryd.zeroValue4
 t9 := Tryd.underlying9
 a9 := Tryd.isAgg9
 z9 := Tryd.sizeOf9
 v9 := Tryd.zeroValue9
 t20 := Tryd.underlying20
 a20 := Tryd.isAgg20
 z20 := Tryd.sizeOf20
 v20 := Tryd.zeroValue20
 t31 := Tryd.underlying45
 a31 := Tryd.isAgg45
 z31 := Tryd.sizeOf45
 v31 := Tryd.zeroValue45
 t37 := Tryd.underlying32
 a37 := Tryd.isAgg32
 z37 := Tryd.sizeOf32
 v37 := Tryd.zeroValue32
 t70 := Tryd.underlying76
 a70 := Tryd.isAgg76
 z70 := Tryd.sizeOf76
 v70 := Tryd.zeroValue76
 t72 := Tryd.underlying78
 a72 := Tryd.isAgg78
 z72 := Tryd.sizeOf78
 v72 := Tryd.zeroValue78
 t75 := Tryd.underlying81
 a75 := Tryd.isAgg81
 z75 := Tryd.sizeOf81
 v75 := Tryd.zeroValue81
 t76 := Tryd.underlying82
 a76 := Tryd.isAgg82
 z76 := Tryd.sizeOf82
 v76 := Tryd.zeroValue82
 t127 := Tryd.underlying96
 a127 := Tryd.isAgg96
 z127 := Tryd.sizeOf96
 v127 := Tryd.zeroValue96
 t164 := Tryd.underlying106
 a164 := Tryd.isAgg106
 z164 := Tryd.sizeOf106
 v164 := Tryd.zeroValue106 }
theorem Tryd.Builder_Extra_156 : Builder.Extra Tryd.prog Tryd.lays156_ren := {
 sizeBuilder := by kernel_rfl
 liesBuilder := by kernel_rfl
 t5 := Tryd.underlying5
 a5 := Tryd.isAgg5
 z5 := Tryd.sizeOf5
 v5 := Tryd.zeroValue5
 infoByte := by kernel_rfl
 cellsByte := by kernel_rfl
 sizeByte := by kernel_rfl
 neB5 := by decide }
theorem Tryd.strings_Join_none (a : Option Addr) (c : Nat) (sep : ByteArray) (w : World) :
  Calls Tryd.prog 40 #[.slice a 0 c, .string sep] w fun e w' => e = .returned (.string ⟨#[]⟩) ∧ w' = w := Any.strings_Join_none Tryd.lays156 Tryd.Builder_Extra_156 a c sep w
theorem Tryd.strings_Join (bk o c : Nat) (xs : List ByteArray) (sep : ByteArray) (w : World) (hcells : ∀ (j : Nat) x, xs[j]? = some x → w.cell? ⟨bk, o + j, none⟩ = some (.string x)) (hbk : bk < w.heap.size) (hN : xs.length ≤ 140737488355328) (hcap : xs.length ≤ c) (hlen : (Lib.join (xs.map (·.data.toList)) sep.data.toList).length ≤ 140737488355328) :
  Calls Tryd.prog 40 #[.slice (some ⟨bk, o, none⟩) xs.length c, .string sep] w fun e w' => e = .returned (.string ⟨(Lib.join (xs.map (·.data.toList)) sep.data.toList).toArray⟩) ∧ Below w.heap.size w w' := Any.strings_Join Tryd.lays156 Tryd.Builder_Extra_156 bk o c xs sep w hcells hbk hN hcap hlen
theorem xok_join : ∀ args up r up', xJoin args up = some (r, up') → ∀ (n : Nat) w M B vals, CallPre ⟨n, GM⟩ M B args up vals w → Invokes Tryd.prog 40 vals w (CallPost ⟨n, GM⟩ M B args up vals w r up') :=
 xJoin_ok (fun _ _ => enters_of Tryd.func40 (by kernel_rfl) rfl _ _) (fun a c sep w => Tryd.strings_Join_none a c sep w) fun bk o c xs sep w h1 h2 h3 h4 h5 => Tryd.strings_Join bk o c xs sep w h1 h2 h3 h4 h5
def Tryd.lays144_ren : Go.Shelf.Ren := ⟨fun | 144 => 43 | 143 => 78 | 219 => 95 | 217 => 87 | 225 => 99 | 224 => 98 | 267 => 107 | 266 => 101 | 314 => 109 | n => n, fun | 9 => 9 | 4 => 4 | 3 => 3 | 5 => 5 | 46 => 35 | 146 => 110 | 51 => 71 | n => n, fun | 1 => 2 | n => n⟩
theorem Tryd.lays144 : Go.Proofs.Lays.n144 Tryd.prog Tryd.lays144_ren := {
 mixed := by kernel_rfl
 f143 := Tryd.func78.trans (congrArg some (by kernel_rfl))
 f144 := Tryd.func43.trans (congrArg some (by kernel_rfl))
 f217 := Tryd.func87.trans (congrArg some (by kernel_rfl))
 f219 := Tryd.func95.trans (congrArg some (by kernel_rfl))
 f224 := Tryd.func98.trans (congrArg some (by kernel_rfl))
 f225 := Tryd.func99.trans (congrArg some (by kernel_rfl))
 f266 := Tryd.func101.trans (congrArg some (by kernel_rfl))
 f267 := Tryd.func107.trans (congrArg some (by kernel_rfl))
 f314 := Tryd.func109.trans (congrArg some (by kernel_rfl))
 t3 := Tryd.underlying3
 a3 := Tryd.isAgg3
 z3 := Tryd.sizeOf3
 v3 := Tryd.zeroValue3
 t4 := Tryd.underlying4
 a4 := Tryd.isAgg4
 z4 := Tryd.sizeOf4
 v4 := Tryd.zeroValue4
 t5 := Tryd.underlying5
 a5 := Tryd.isAgg5
 z5 := Tryd.sizeOf5
 v5 := Tryd.zeroValue5
 t9 := Tryd.underlying9
 a9 := Tryd.isAgg9
 z9 := Tryd.sizeOf9
 v9 := Tryd.zeroValue9
 t46 := Tryd.underlying35
 a46 := Tryd.isAgg35
 z46 := Tryd.sizeOf35
 v46 := Tryd.zeroValue35
 t51 := Tryd.underlying71
 a51 := Tryd.isAgg71
 z51 := Tryd.sizeOf71
 v51 := Tryd.zeroValue71
 t146 := Tryd.underlying110
 a146 := Tryd.isAgg110
 z146 := Tryd.sizeOf110
 v146 := Tryd.zeroValue110
 g1 := by kernel_rfl }
theorem xok_contains : ∀ args up r up', xContains args up = some (r, up') → ∀ (n : Nat) w M B vals, CallPre ⟨n, GM⟩ M B args up vals w → Invokes Tryd.prog 43 vals w (CallPost ⟨n, GM⟩ M B args up vals w r up') :=
 xContains_ok (fun _ _ => enters_of Tryd.func43 (by kernel_rfl) rfl _ _) fun s c w => Any.strings_Contains_one Tryd.lays144 s c w
def Tryd.lays153_ren : Go.Shelf.Ren := ⟨fun | 153 => 50 | 152 => 81 | 226 => 82 | 227 => 83 | 228 => 84 | 137 => 54 | 119 => 97 | 224 => 98 | 225 => 99 | 217 => 87 | 266 => 101 | n => n, fun | 9 => 9 | 3 => 3 | 4 => 4 | 5 => 5 | 21 => 21 | 117 => 90 | 116 => 89 | 0 => 0 | 46 => 35 | 124 => 104 | n => n, fun | n => n⟩
theorem Tryd.lays153 : Go.Proofs.Lays.n153 Tryd.prog Tryd.lays153_ren := {
 mixed := by kernel_rfl
 f119 := Tryd.func97.trans (congrArg some (by kernel_rfl))
 f137 := Tryd.func54.trans (congrArg some (by kernel_rfl))
 f152 := Tryd.func81.trans (congrArg some (by kernel_rfl))
 f153 := Tryd.func50.trans (congrArg some (by kernel_rfl))
 f217 := Tryd.func87.trans (congrArg some (by kernel_rfl))
 f224 := Tryd.func98.trans (congrArg some (by kernel_rfl))
 f225 := Tryd.func99.trans (congrArg some (by kernel_rfl))
 f226 := Tryd.func82.trans (congrArg some (by kernel_rfl))
 f227 := Tryd.func83.trans (congrArg some (by kernel_rfl))
 f228 := Tryd.func84.trans (congrArg some (by kernel_rfl))
 f266 := Tryd.func101.trans (congrArg some (by kernel_rfl))
 t0 := Tryd.underlying0
 a0 := Tryd.isAgg0
 z0 := Tryd.sizeOf0
 v0 := Tryd.zeroValue0
 t3 := Tryd.underlying3
 a3 := Tryd.isAgg3
 z3 := Tryd.sizeOf3
 v3 := Tryd.zeroValue3
 t4 := Tryd.underlying4
 a4 := Tryd.isAgg4
 z4 := Tryd.sizeOf4
 v4 := Tryd.zeroValue4
 t5 := Tryd.underlying5
 a5 := Tryd.isAgg5
 z5 := Tryd.sizeOf5
 v5 := Tryd.zeroValue5
 t9 := Tryd.underlying9
 a9 := Tryd.isAgg9
 z9 := Tryd.sizeOf9
 v9 := Tryd.zeroValue9
 t21 := Tryd.underlying21
 a21 := Tryd.isAgg21
 z21 := Tryd.sizeOf21
 v21 := Tryd.zeroValue21
 t46 := Tryd.underlying35
 a46 := Tryd.isAgg35
 z46 := Tryd.sizeOf35
 v46 := Tryd.zeroValue35
 t116 := Tryd.underlying89
 a116 := Tryd.isAgg89
 z116 := Tryd.sizeOf89
 t117 := Tryd.underlying90
 a117 := Tryd.isAgg90
 z117 := Tryd.sizeOf90
 v117 := Tryd.zeroValue90
 t124 := Tryd.underlying104
 a124 := Tryd.isAgg104
 z124 := Tryd.sizeOf104
 v124 := Tryd.zeroValue104 }
theorem xok_indexAny : ∀ args up r up', xIndexAny args up = some (r, up') → ∀ (n : Nat) w M B vals, CallPre ⟨n, GM⟩ M B args up vals w → Invokes Tryd.prog 50 vals w (CallPost ⟨n, GM⟩ M B args up vals w r up') :=
 xIndexAny_ok (fun _ _ => enters_of Tryd.func50 (by kernel_rfl) rfl _ _) fun s w hs => Ixa.IndexAny_all Tryd.lays153 (by kernel_rfl) s w (Nat.lt_succ_of_le hs)
def Tryd.lays137_ren : Go.Shelf.Ren := ⟨fun | 137 => 54 | 217 => 87 | 266 => 101 | n => n, fun | 9 => 9 | 5 => 5 | 3 => 3 | n => n, fun | n => n⟩
theorem Tryd.lays137 : Go.Proofs.Lays.n137 Tryd.prog Tryd.lays137_ren := {
 mixed := by kernel_rfl
 f137 := Tryd.func54.trans (congrArg some (by kernel_rfl))
 f217 := Tryd.func87.trans (congrArg some (by kernel_rfl))
 f266 := Tryd.func101.trans (congrArg some (by kernel_rfl))
 t3 := Tryd.underlying3
 a3 := Tryd.isAgg3
 z3 := Tryd.sizeOf3
 v3 := Tryd.zeroValue3
 t5 := Tryd.underlying5
 a5 := Tryd.isAgg5
 z5 := Tryd.sizeOf5
 v5 := Tryd.zeroValue5
 t9 := Tryd.underlying9
 a9 := Tryd.isAgg9
 z9 := Tryd.sizeOf9
 v9 := Tryd.zeroValue9 }
theorem xok_indexByte : ∀ args up r up', xIndexByte args up = some (r, up') → ∀ (n : Nat) w M B vals, CallPre ⟨n, GM⟩ M B args up vals w → Invokes Tryd.prog 54 vals w (CallPost ⟨n, GM⟩ M B args up vals w r up') :=
 xIndexByte_ok (fun _ _ => enters_of Tryd.func54 (by kernel_rfl) rfl _ _) fun s c w => Any.strings_IndexByte Tryd.lays137 s c w
def Tryd.lays197_ren : Go.Shelf.Ren := ⟨fun | 197 => 69 | 260 => 92 | n => n, fun | 9 => 9 | 21 => 21 | 3 => 3 | 4 => 4 | 5 => 5 | 105 => 72 | 119 => 98 | 0 => 0 | 46 => 35 | 139 => 101 | 138 => 100 | n => n, fun | 3 => 0 | 4 => 1 | n => n⟩
theorem Tryd.lays197 : Go.Proofs.Lays.n197 Tryd.prog Tryd.lays197_ren := {
 mixed := by kernel_rfl
 f197 := Tryd.func69.trans (congrArg some (by kernel_rfl))
 f260 := Tryd.func92.trans (congrArg some (by kernel_rfl))
 t0 := Tryd.underlying0
 a0 := Tryd.isAgg0
 z0 := Tryd.sizeOf0
 v0 := Tryd.zeroValue0
 t3 := Tryd.underlying3
 a3 := Tryd.isAgg3
 z3 := Tryd.sizeOf3
 v3 := Tryd.zeroValue3
 t4 := Tryd.underlying4
 a4 := Tryd.isAgg4
 z4 := Tryd.sizeOf4
 v4 := Tryd.zeroValue4
 t5 := Tryd.underlying5
 a5 := Tryd.isAgg5
 z5 := Tryd.sizeOf5
 v5 := Tryd.zeroValue5
 t9 := Tryd.underlying9
 a9 := Tryd.isAgg9
 z9 := Tryd.sizeOf9
 v9 := Tryd.zeroValue9
 t21 := Tryd.underlying21
 a21 := Tryd.isAgg21
 z21 := Tryd.sizeOf21
 v21 := Tryd.zeroValue21
 t46 := Tryd.underlying35
 a46 := Tryd.isAgg35
 z46 := Tryd.sizeOf35
 v46 := Tryd.zeroValue35
 t105 := Tryd.underlying72
 a105 := Tryd.isAgg72
 z105 := Tryd.sizeOf72
 v105 := Tryd.zeroValue72
 t119 := Tryd.underlying98
 a119 := Tryd.isAgg98
 z119 := Tryd.sizeOf98
 t138 := Tryd.underlying100
 a138 := Tryd.isAgg100
 z138 := Tryd.sizeOf100
 v138 := Tryd.zeroValue100
 t139 := Tryd.underlying101
 a139 := Tryd.isAgg101
 z139 := Tryd.sizeOf101
 v139 := Tryd.zeroValue101
 g3 := by kernel_rfl
 g4 := by kernel_rfl }
theorem xok_decode : ∀ args up r up', xDecode args up = some (r, up') → ∀ (n : Nat) w M B vals, CallPre ⟨n, GM⟩ M B args up vals w → Invokes Tryd.prog 69 vals w (CallPost ⟨n, GM⟩ M B args up vals w r up') :=
 xDecode_ok (T := Go.Lib.Utf8Tabs 0 1) tabs_of (fun _ _ => enters_of Tryd.func69 (by kernel_rfl) rfl _ _) fun s w hT => by
  have := Any.utf8_DecodeRuneInString Tryd.lays197 ⟨s.toArray⟩ w hT
  rw [decS_decodeGo] at this; exact this
def Tryd.lays196_ren : Go.Shelf.Ren := ⟨fun | 196 => 79 | 259 => 96 | n => n, fun | 9 => 9 | 4 => 4 | 3 => 3 | 5 => 5 | 12 => 12 | 119 => 98 | 0 => 0 | 46 => 35 | 139 => 101 | 138 => 100 | 53 => 109 | n => n, fun | 3 => 0 | 4 => 1 | n => n⟩
theorem Tryd.lays196 : Go.Proofs.Lays.n196 Tryd.prog Tryd.lays196_ren := {
 mixed := by kernel_rfl
 f196 := Tryd.func79.trans (congrArg some (by kernel_rfl))
 f259 := Tryd.func96.trans (congrArg some (by kernel_rfl))
 t0 := Tryd.underlying0
 a0 := Tryd.isAgg0
 z0 := Tryd.sizeOf0
 v0 := Tryd.zeroValue0
 t3 := Tryd.underlying3
 a3 := Tryd.isAgg3
 z3 := Tryd.sizeOf3
 v3 := Tryd.zeroValue3
 t4 := Tryd.underlying4
 a4 := Tryd.isAgg4
 z4 := Tryd.sizeOf4
 v4 := Tryd.zeroValue4
 t5 := Tryd.underlying5
 a5 := Tryd.isAgg5
 z5 := Tryd.sizeOf5
 v5 := Tryd.zeroValue5
 t9 := Tryd.underlying9
 a9 := Tryd.isAgg9
 z9 := Tryd.sizeOf9
 v9 := Tryd.zeroValue9
 t12 := Tryd.underlying12
 a12 := Tryd.isAgg12
 z12 := Tryd.sizeOf12
 v12 := Tryd.zeroValue12
 t46 := Tryd.underlying35
 a46 := Tryd.isAgg35
 z46 := Tryd.sizeOf35
 v46 := Tryd.zeroValue35
 t53 := Tryd.underlying109
 a53 := Tryd.isAgg109
 z53 := Tryd.sizeOf109
 v53 := Tryd.zeroValue109
 t119 := Tryd.underlying98
 a119 := Tryd.isAgg98
 z119 := Tryd.sizeOf98
 t138 := Tryd.underlying100
 a138 := Tryd.isAgg100
 z138 := Tryd.sizeOf100
 v138 := Tryd.zeroValue100
 t139 := Tryd.underlying101
 a139 := Tryd.isAgg101
 z139 := Tryd.sizeOf101
 v139 := Tryd.zeroValue101
 g3 := by kernel_rfl
 g4 := by kernel_rfl }
theorem validD_validN : ∀ (n : Nat) (s : Str), Go.Lib.validGoD n s = validN n s
 | 0, _ => rfl
 | n + 1, s => by
  unfold Go.Lib.validGoD validN
  by_cases h : s = []
  ·rw [if_pos h, if_pos h]
  ·have e : Go.Lib.decodeL s = decS s := by unfold decS; rw [if_neg h]; exact Go.Lib.decodeL_N s
   rw [if_neg h, if_neg h, e, validD_validN n]
theorem xok_valid : ∀ args up r up', xValid args up = some (r, up') → ∀ (n : Nat) w M B vals, CallPre ⟨n, GM⟩ M B args up vals w → Invokes Tryd.prog 79 vals w (CallPost ⟨n, GM⟩ M B args up vals w r up') :=
 xValid_ok (T := Go.Lib.Utf8Tabs 0 1) tabs_of (fun _ _ => enters_of Tryd.func79 (by kernel_rfl) rfl _ _) fun s w hl hT => by
  have hsz : (⟨s.toArray⟩ : ByteArray).size = s.length := by show s.toArray.size = _; simp
  have := Any.utf8_ValidString Tryd.lays196 ⟨s.toArray⟩ w (by rw [hsz]; exact hl) hT
  have e : Go.Lib.validD (⟨s.toArray⟩ : ByteArray).data.toList = validS s := by
   show Go.Lib.validGoD s.toArray.toList.length s.toArray.toList = _
   rw [show s.toArray.toList = s by simp, validD_validN]; rfl
  rw [e] at this; exact this
theorem xok : ExtOk Tryd.prog GM XT := by
 intro f g h
 unfold XT at h
 simp only [Go.Ev.look] at h
 split at h
 ·rename_i e; subst e; cases h; exact xok_join
 split at h
 ·rename_i e; subst e; cases h; exact xok_contains
 split at h
 ·rename_i e; subst e; cases h; exact xok_indexAny
 split at h
 ·rename_i e; subst e; cases h; exact xok_indexByte
 split at h
 ·rename_i e; subst e; cases h; exact xok_decode
 split at h
 ·rename_i e; subst e; cases h; exact xok_valid
 simp at h
end Go.Proofs.YtafndpggajdmiaaDoor

/-
  What is known of calls.
-/
import Derived.Test.YteaaijgkmcjcaaaGreatDoorWf
import Derived.Test.YteaaijgkmcjcaaaGreatDoorWg7
import Derived.Test.YteaaijgkmcjcaaaGreatDoorWg8
set_option linter.unusedVariables false
set_option maxRecDepth 1000000
namespace Go.Tw
open Go.Proofs (Tryz.prog)
noncomputable def F20 : Fact := ⟨415,[(p 12121 0),(.agg [(i 0),e,(s 4 0x72657375),(r 10850 1),z,e,(r 10865 1)])],[(12121,c 0 [(r 12090 2),(s 5 0x7972657551),e,(r 12092 1),z,z,(s 5 0x7972657551),z,(.map 12120)])],12125,(.tup []),[(12121,c 0 [(r 12090 2),(s 5 0x7972657551),e,(r 12092 1),z,z,(s 5 0x7972657551),(r 12129 1),(.map 12120)]),(12129,c 2 [(s 4 0x72657375),(r 12132 1)]),(12132,c 7 [(i 0),e,(s 4 0x72657375),(r 10850 1),z,e,(r 10865 1)])],12133⟩
theorem fact20 : FactOk Tryz.prog 0 F20 := fact_ok (evT_ok (fs := []) none_ok 60) (by kernel_rfl) (by kernel_rfl)
noncomputable def F21 : Fact := ⟨415,[(p 12453 0),(.agg [(i 0),e,(s 3 0x656761),z,z,e,z])],[(12453,c 0 [(r 12090 2),(s 5 0x7972657551),e,(r 12092 1),z,z,(s 4 0x72657355),z,(.map 12452)])],12457,(.tup []),[(12453,c 0 [(r 12090 2),(s 5 0x7972657551),e,(r 12092 1),z,z,(s 4 0x72657355),(r 12461 1),(.map 12452)]),(12461,c 2 [(s 3 0x656761),(r 12464 1)]),(12464,c 7 [(i 0),e,(s 3 0x656761),z,z,e,z])],12465⟩
theorem fact21 : FactOk Tryz.prog 0 F21 := fact_ok (evT_ok (fs := []) none_ok 60) (by kernel_rfl) (by kernel_rfl)
noncomputable def F22 : Fact := ⟨8,[],[],10082,b1,[],13301⟩
theorem fact22 : FactOk Tryz.prog 0 F22 := fact_ok (evT_ok (fs := [F21, F20, F19, F18]) (and_ok fact21 (and_ok fact20 (and_ok fact19 (and_ok fact18 none_ok)))) 60) (by kernel_rfl) (by kernel_rfl)
end Go.Tw

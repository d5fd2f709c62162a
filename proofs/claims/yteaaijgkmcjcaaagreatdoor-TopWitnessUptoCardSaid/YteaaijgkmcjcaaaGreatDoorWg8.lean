/-
  What is known of calls.
-/
import Derived.Test.YteaaijgkmcjcaaaGreatDoorWf
set_option linter.unusedVariables false
set_option maxRecDepth 1000000
namespace Go.Tw
open Go.Proofs (Tryz.prog)
noncomputable def F19 : Fact := ⟨15,[(p 10705 0),(s 33 0x7d227d7d6567617b29225c61225c3a646928726573757b223a227972657571227b)],[(10243,d 10 [(s 2 0x6469),(s 2 0x4449),(i 0),(i 0),b0,(i 0),(i 0),e,z,z]),(10275,d 6 [(s 5 0x656c626174),(i 4),(i 0),(s 1 0x75),z,z,(s 3 0x677261),(i 4),(i 0),(s 2 0x6469),z,z]),(10278,d 2 [(s 3 0x746567),(r 10275 2)]),(10281,d 6 [(s 4 0x72657375),(r 10243 1),(s 4 0x72657355),(i 0),(i 0),(r 10278 1)]),(10310,d 6 [(s 3 0x656761),z,(s 3 0x746e49),(i 0),(i 0),z]),(10313,d 6 [(i 1),(s 5 0x7972657551),z,(r 10281 1),z,z,(i 1),(s 4 0x72657355),z,(r 10310 1),z,z]),(10705,d 0 [(r 10313 2),(s 5 0x7972657551),e,(p 10704 0)])],10707,(.agg [(r 10870 1),z,(i 0),e,z,z,(r 10867 1),z,e]),[(10850,c 6 [(s 2 0x6469),(i 4),(i 0),(s 1 0x61),z,z]),(10865,c 7 [(i 0),e,(s 3 0x656761),z,z,e,z]),(10867,c 7 [(i 0),e,(s 4 0x72657375),(r 10850 1),z,e,(r 10865 1)]),(10870,c 5 [(i 0),e,z,z,(r 10867 1)])],12079⟩
theorem fact19 : FactOk Tryz.prog 0 F19 := fact_ok (evT_ok (fs := []) none_ok 60) (by kernel_rfl) (by kernel_rfl)
end Go.Tw

/-
  What is known of calls.
-/
import Derived.Test.YteaaijgkmcjcaaaGreatDoorWf
set_option linter.unusedVariables false
set_option maxRecDepth 1000000
namespace Go.Tw
open Go.Proofs (Tryz.prog)
noncomputable def F2 : Fact := ⟨39,[(.agg [(r 630 3),(s 5 0x7972657551),(s 8 0x6e6f69746174754d)]),(.agg [(r 1842 1),z])],[(415,d 10 [(s 3 0x736469),(s 2 0x4449),(i 1),(i 3),b0,(i 0),(i 0),e,z,z]),(450,d 6 [(s 5 0x656c626174),(i 4),(i 0),(s 1 0x75),z,z,(s 3 0x677261),(i 4),(i 0),(s 3 0x736469),z,z]),(453,d 2 [(s 3 0x746567),(r 450 2)]),(456,d 6 [(s 3 0x6c6c61),(r 415 1),(s 4 0x72657355),(i 1),(i 1),(r 453 1)]),(523,d 6 [(s 5 0x656c626174),(i 4),(i 0),(s 1 0x75),z,z,(s 3 0x6c6f63),(i 4),(i 0),(s 1 0x62),z,z]),(526,d 2 [(s 4 0x6b6e696c),(r 523 2)]),(529,d 6 [(s 3 0x656761),z,(s 3 0x746e49),(i 0),(i 1),z,(s 4 0x73736f62),z,(s 4 0x72657355),(i 0),(i 1),(r 526 1)]),(578,d 10 [(s 3 0x79656b),(s 2 0x4449),(i 0),(i 1),b0,(i 0),(i 0),e,z,z,(s 2 0x7962),(s 3 0x746e49),(i 0),(i 1),b0,(i 0),(i 0),e,z,z]),(621,d 6 [(s 3 0x646d63),(i 4),(i 0),(s 3 0x646461),z,z,(s 5 0x656c626174),(i 4),(i 0),(s 1 0x75),z,z,(s 3 0x6c6f63),(i 4),(i 0),(s 3 0x656761),z,z]),(624,d 2 [(s 2 0x6f64),(r 621 3)]),(627,d 6 [(s 5 0x7265646c6f),(r 578 2),(s 3 0x746e49),(i 0),(i 0),(r 624 1)]),(630,d 6 [(i 1),(s 5 0x7972657551),z,(r 456 1),z,z,(i 1),(s 4 0x72657355),z,(r 529 2),z,z,(i 1),(s 8 0x6e6f69746174754d),z,(r 627 1),z,z]),(1795,d 5 [(i 4),(i 0),(s 1 0x61),z,z,(i 4),(i 0),(s 1 0x62),z,z,(i 4),(i 0),(s 1 0x65),z,z]),(1797,d 6 [(s 3 0x736469),(i 6),(i 0),e,(r 1795 3),z]),(1834,d 7 [(i 0),e,(s 3 0x656761),z,z,e,z]),(1837,d 7 [(i 0),e,(s 3 0x656761),z,z,e,z,(i 0),e,(s 4 0x73736f62),z,z,e,(r 1834 1)]),(1839,d 7 [(i 0),e,(s 3 0x6c6c61),(r 1797 1),z,e,(r 1837 2)]),(1842,d 5 [(i 0),e,z,z,(r 1839 1)])],1845,(i 0),[],4105⟩
theorem fact2 : FactOk Tryz.prog 0 F2 := fact_ok (evT_ok (fs := []) none_ok 60) (by kernel_rfl) (by kernel_rfl)
end Go.Tw

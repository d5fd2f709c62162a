/-
  What is known of calls.
-/
import Derived.Test.YteaaijgkmcjcaaaGreatDoorWf
set_option linter.unusedVariables false
set_option maxRecDepth 1000000
namespace Go.Tw
open Go.Proofs (Tryz.prog)
noncomputable def F16 : Fact := ⟨415,[(p 8913 0),(.agg [(i 0),(s 1 0x61),(s 5 0x7265646c6f),(r 6996 2),z,e,z])],[(8913,c 0 [(r 8897 3),(s 5 0x7972657551),(s 8 0x6e6f69746174754d),(r 8899 1),z,z,(s 8 0x6e6f69746174754d),z,(.map 8912)])],8917,(.tup []),[(8913,c 0 [(r 8897 3),(s 5 0x7972657551),(s 8 0x6e6f69746174754d),(r 8899 1),z,z,(s 8 0x6e6f69746174754d),(r 8921 1),(.map 8912)]),(8921,c 2 [(s 1 0x61),(r 8924 1)]),(8924,c 7 [(i 0),(s 1 0x61),(s 5 0x7265646c6f),(r 6996 2),z,e,z])],8925⟩
theorem fact16 : FactOk Tryz.prog 0 F16 := fact_ok (evT_ok (fs := []) none_ok 60) (by kernel_rfl) (by kernel_rfl)
noncomputable def F17 : Fact := ⟨415,[(p 8913 0),(.agg [(i 0),(s 1 0x62),(s 5 0x7265646c6f),(r 7031 2),z,e,z])],[(8913,c 0 [(r 8897 3),(s 5 0x7972657551),(s 8 0x6e6f69746174754d),(r 8899 1),z,z,(s 8 0x6e6f69746174754d),(r 8921 1),(.map 8912)]),(8921,c 2 [(s 1 0x61),(r 8924 1)])],8928,(.tup []),[(8913,c 0 [(r 8897 3),(s 5 0x7972657551),(s 8 0x6e6f69746174754d),(r 8899 1),z,z,(s 8 0x6e6f69746174754d),(r 8933 2),(.map 8912)]),(8921,.no),(8933,c 2 [(s 1 0x61),(r 8924 1),(s 1 0x62),(r 8936 1)]),(8936,c 7 [(i 0),(s 1 0x62),(s 5 0x7265646c6f),(r 7031 2),z,e,z])],8937⟩
theorem fact17 : FactOk Tryz.prog 0 F17 := fact_ok (evT_ok (fs := []) none_ok 60) (by kernel_rfl) (by kernel_rfl)
noncomputable def F18 : Fact := ⟨5,[(s 84 0x7d20746e49203a656761207b20726573552065707974207d202922646922203a677261202c227522203a656c62617428746567402072657355203a294449203a64692872657375207b2079726575512065707974),(r 10084 1)],[(10082,d 6 [(s 3 0x656761),(i 2),(i 7),e,z,z]),(10083,d 4 [(s 1 0x61),(s 4 0x72657355),(r 10082 1),b0]),(10084,d 2 [(s 1 0x75),(r 10083 1)])],10085,(.tup [(p 10705 0),(i 0)]),[(10243,c 10 [(s 2 0x6469),(s 2 0x4449),(i 0),(i 0),b0,(i 0),(i 0),e,z,z]),(10275,c 6 [(s 5 0x656c626174),(i 4),(i 0),(s 1 0x75),z,z,(s 3 0x677261),(i 4),(i 0),(s 2 0x6469),z,z]),(10278,c 2 [(s 3 0x746567),(r 10275 2)]),(10281,c 6 [(s 4 0x72657375),(r 10243 1),(s 4 0x72657355),(i 0),(i 0),(r 10278 1)]),(10310,c 6 [(s 3 0x656761),z,(s 3 0x746e49),(i 0),(i 0),z]),(10313,c 6 [(i 1),(s 5 0x7972657551),z,(r 10281 1),z,z,(i 1),(s 4 0x72657355),z,(r 10310 1),z,z]),(10699,c 6 [(s 3 0x656761),(i 2),(i 7),e,z,z]),(10701,c 4 [(s 1 0x61),(s 4 0x72657355),(r 10699 1),b0]),(10703,c 2 [(s 1 0x75),(r 10701 1)]),(10704,c 0 [(r 10703 1),z]),(10705,c 0 [(r 10313 2),(s 5 0x7972657551),e,(p 10704 0)])],10706⟩
theorem fact18 : FactOk Tryz.prog 0 F18 := fact_ok (evT_ok (fs := []) none_ok 60) (by kernel_rfl) (by kernel_rfl)
end Go.Tw

import Derived.Test.YtfbaogfcpldlnaaGc
import Derived.LoopTactic
import Derived.WalkKit
import Derived.WalkMore
import Derived.Carry
import Derived.Maps.OwnOps
import Derived.StillTailTactics
import Derived.Deep.RegionWith
import Derived.WideKeyArr
import Derived.Maps.OwnSet
import Derived.BigRegion
set_option linter.unusedVariables false
set_option linter.unusedSimpArgs false
set_option linter.unusedSimpArgs false
open Go Go.Ev Go.RowKit
namespace Go.Proofs.Ytfbaogfcpldlnaa
set_option maxHeartbeats 4000000 in
set_option maxRecDepth 100000 in
theorem items_nil (ka : Nat) (t : ByteArray) (oa : Option Addr) (cap : Nat) (w : World) :
  Calls Try.prog 80 #[.pointer (some ⟨ka, 0, none⟩), .string t, .slice oa 0 cap] w fun e w' => e = .returned (.slice none 0 0) ∧ w' = w := by
 go_enter Try.func80, Try.ntmps80
 go_wp2
 refine wp_loop_rounds 1 ?_; rw [rounds_succ]; go_wp2
 go_ret
 exact ⟨rfl, rfl⟩
set_option maxHeartbeats 4000000 in
set_option maxRecDepth 100000 in
theorem flat_nil (ka : Nat) (oa : Option Addr) (cap : Nat) (mv : Value) (w : World) :
  Calls Try.prog 96 #[.pointer (some ⟨ka, 0, none⟩), .slice oa 0 cap, mv] w fun e w' => e = .returned (.slice none 0 0) ∧ w' = w := by
 go_enter Try.func96, Try.ntmps96
 go_wp2
 go_step3
 go_wp2
 go_step3
 go_wp2
 refine wp_loop_rounds 1 ?_; rw [rounds_succ]; go_wp2
 rw [Exit.noGoto_ret]
 go_ret
 exact ⟨rfl, rfl⟩
theorem c10 {w : World} {b T : Nat} {fz : Nat × Nat} {x0 x1 x2 x3 x4 x5 x6 x7 x8 x9 : Value} (h : w.heap[b]? = some (.cells #[x0, x1, x2, x3, x4, x5, x6, x7, x8, x9] T fz)) :
  w.cell? ⟨b, 0, none⟩ = some x0 ∧ w.cell? ⟨b, 1, none⟩ = some x1 ∧ w.cell? ⟨b, 2, none⟩ = some x2 ∧ w.cell? ⟨b, 3, none⟩ = some x3 ∧ w.cell? ⟨b, 4, none⟩ = some x4 ∧ w.cell? ⟨b, 5, none⟩ = some x5 ∧ w.cell? ⟨b, 6, none⟩ = some x6 ∧ w.cell? ⟨b, 7, none⟩ = some x7 ∧ w.cell? ⟨b, 8, none⟩ = some x8 ∧ w.cell? ⟨b, 9, none⟩ = some x9 := by
 refine ⟨?_, ?_, ?_, ?_, ?_, ?_, ?_, ?_, ?_, ?_⟩ <;> (rw [cell_of_row w b _ _ _ _ h]; rfl)
set_option maxHeartbeats 4000000 in
set_option maxRecDepth 100000 in
theorem below_nil (ka : Nat) (n k : Int) (al nm on0 t : ByteArray) (a3 : Option Addr) (l3 p3 : Nat) (a4 : Option Addr) (l4 p4 : Nat) (a6 : Option Addr) (l6 p6 : Nat) (oa : Option Addr) (cap : Nat) (w : World) :
  Calls Try.prog 105 #[.pointer (some ⟨ka, 0, none⟩), .agg #[.int .i64 n, .int .i64 k, .string al, .string nm, .slice a3 l3 p3, .slice a4 l4 p4, .string on0, .slice a6 l6 p6, .string t, .slice oa 0 cap]] w fun e w' => e = .returned (.slice none 0 0) ∧ Below w.heap.size w w' := by
 have hmm := @run_makeMap Try.prog
 go_enter Try.func105, Try.ntmps105
 go_wp2_with (go_at_call 96; refine (flat_nil ka oa cap _ _).mono ?_; rintro e' w1 ⟨rfl, rfl⟩)
 go_ret
 exact ⟨rfl, ((Below.refl _ _).alloc (Nat.le_refl _) _).alloc (by simp) _⟩
set_option maxHeartbeats 4000000 in
set_option maxRecDepth 100000 in
theorem list_nil (ka : Nat) (oa : Option Addr) (cap : Nat) (w : World) :
  Calls Try.prog 82 #[.pointer (some ⟨ka, 0, none⟩), .slice oa 0 cap] w fun e w' => e = .returned (.bool true) ∧ Below w.heap.size w w' := by
 have hmm := @run_makeMap Try.prog
 go_enter Try.func82, Try.ntmps82
 go_wp2_with (go_at_call 96; refine (flat_nil ka oa cap _ _).mono ?_; rintro e' w1 ⟨rfl, rfl⟩)
 refine wp_loop_rounds 1 ?_; rw [rounds_succ]; go_wp2
 refine wp_loop_rounds 1 ?_; rw [rounds_succ]; go_wp2
 go_ret
 exact ⟨rfl, (Below.refl _ _).alloc (Nat.le_refl _) _⟩
set_option maxHeartbeats 4000000 in
set_option maxRecDepth 100000 in
theorem across_nil (ka : Nat) (fv : Value) (n k : Int) (al nm on0 t : ByteArray) (a3 : Option Addr) (l3 p3 : Nat) (a4 : Option Addr) (l4 p4 : Nat) (a6 : Option Addr) (l6 p6 : Nat) (oa : Option Addr) (cap : Nat)
  (n' k' : Int) (al' nm' on' t' : ByteArray) (b3 : Option Addr) (m3 q3 : Nat) (b4 : Option Addr) (m4 q4 : Nat) (b6 : Option Addr) (m6 q6 : Nat) (oa' : Option Addr) (cap' : Nat) (w : World) :
  Calls Try.prog 102 #[.pointer (some ⟨ka, 0, none⟩), .agg #[.int .i64 n, .int .i64 k, .string al, .string nm, .slice a3 l3 p3, .slice a4 l4 p4, .string on0, .slice a6 l6 p6, .string t, .slice oa 0 cap], .agg #[.int .i64 n', .int .i64 k', .string al', .string nm', .slice b3 m3 q3, .slice b4 m4 q4, .string on', .slice b6 m6 q6, .string t', .slice oa' 0 cap'], fv] w fun e w' => e = .returned (.bool true) ∧ Below w.heap.size w w' := by
 go_enter Try.func102, Try.ntmps102
 go_wp2_with (first | (go_at_call_of 105 t'; refine (below_nil ka n' k' al' nm' on' t' b3 m3 q3 b4 m4 q4 b6 m6 q6 oa' cap' _).mono ?_; rintro e' w1 ⟨rfl, hb1⟩; have hA := (hb1.block w.heap.size (by simp; omega)).trans ((heap_alloc_old _ _ (by simp)).trans (heap_alloc_new w _)); obtain ⟨z0, z1, z2, z3, z4, z5, z6, z7, z8, z9⟩ := c10 hA) | (go_at_call_of 105 t; refine (below_nil ka n k al nm on0 t a3 l3 p3 a4 l4 p4 a6 l6 p6 oa cap _).mono ?_; rintro e' w2 ⟨rfl, hb2⟩))
 refine wp_loop_rounds 1 ?_; rw [rounds_succ]; go_wp2
 go_ret
 have hbw1 := (((Below.refl w.heap.size w).alloc (Nat.le_refl _) _).alloc (by simp) _).trans (hb1.mono (by simp; omega))
 exact ⟨rfl, hbw1.trans (hb2.mono hbw1.size)⟩
open Go Go.Ev Go.RowKit
theorem Try.u159 : Try.prog.underlying 159 = some (.array 2 3) := by kernel_rfl
theorem Try.u130 : Try.prog.underlying 130 = some (.map 159 4) := by kernel_rfl
theorem Try.u4m : Try.prog.underlying 4 = some .bool := by kernel_rfl
set_option maxRecDepth 100000 in
theorem Try.z4m (w : World) : (zeroValue 4).run Try.prog w = .ok (.bool false) w := by rfl
theorem key12 : ∃ kl, keyOf Try.prog 159 (.agg #[.int .i64 1, .int .i64 2]) = some kl := by
 have : (keyOf Try.prog 159 (.agg #[.int .i64 1, .int .i64 2])).isSome = true := by kernel_rfl
 exact Option.isSome_iff_exists.1 this
theorem K159 : Maps.Keyed Try.prog 159 := Maps.Keyed.of_law (WideMaps.ArrKey.law (e := 3) (n := 2) ⟨Try.u159, by kernel_rfl, by kernel_rfl, by kernel_rfl⟩)
def NoPairs (w : World) (b : Nat) : Prop := w.ownsMap (H := Unit) Try.prog 159 (plainElem Try.prog 4) b 0 (.map [])
theorem noPairs_made (w : World) : NoPairs (w.alloc (.map #[] 0)) w.heap.size := World.ownsMap_made w Try.prog 159 _
theorem NoPairs.congr {w w' : World} {b : Nat} (h : NoPairs w b) (hb : w'.heap[b]? = w.heap[b]?) : NoPairs w' b := by
 obtain ⟨es, clock, h1, h2⟩ := h
 exact ⟨es, clock, hb.trans h1, h2⟩
theorem NoPairs.lt {w : World} {b : Nat} (h : NoPairs w b) : b < w.heap.size := World.ownsMap.lt h
theorem NoPairs.look {w : World} {b : Nat} (h : NoPairs w b) : (Instr.lookup 130 (.map (some b)) (.agg #[.int .i64 1, .int .i64 2]) true).run Try.prog w = .ok (.tuple #[.bool false, .bool false]) w := by
 obtain ⟨kl, hk⟩ := key12
 obtain ⟨v, ps, hrun, hv⟩ := World.ownsMap.look_ok h K159 Try.u130 (Try.z4m w) (plainElem_bool Try.u4m false) hk
 have e1 : (DataW.map (H := Unit) []).atKey kl (.lit (.bool false)) = .lit (.bool false) := rfl
 have e2 : Maps.has (DataW.map (H := Unit) []) kl = false := rfl
 rw [e1] at hv
 rw [e2] at hrun
 unfold plainElem at hv
 rw [Try.u4m] at hv
 cases v <;> simp at hv
 rw [hrun, hv.1]
theorem NoPairs.update {w : World} {b : Nat} (h : NoPairs w b) (v : Bool) : ∃ w', (Instr.mapUpdate 130 (.map (some b)) (.agg #[.int .i64 1, .int .i64 2]) (.bool v)).run Try.prog w = .ok () w' ∧ w.grownBy w' (some b) := by
 obtain ⟨kl, hk⟩ := key12
 obtain ⟨w', h1, _, h2⟩ := World.ownsMap.update h K159 Try.u130 (by decide) hk (plainElem_bool (H := Unit) Try.u4m v)
 exact ⟨w', h1, h2⟩
inductive RvL (M : Mem) (B : BM) : List PV → List Value → Prop
 | nil : RvL M B [] []
 | cons {c : PV} {v : Value} {cs : List PV} {vs : List Value} (h : Rv M B c v) (t : RvL M B cs vs) : RvL M B (c :: cs) (v :: vs)
theorem rvl_of {M : Mem} {B : BM} : ∀ (cs : List PV) (vs : List Value), vs.length = cs.length → (∀ (i : Nat) (c : PV) (v : Value), cs[i]? = some c → vs[i]? = some v → Rv M B c v) → RvL M B cs vs
 | [], [], _, _ => .nil
 | [], _ :: _, h, _ => by simp at h
 | _ :: _, [], h, _ => by simp at h
 | c :: cs, v :: vs, h, hr => .cons (hr 0 c v rfl rfl) (rvl_of cs vs (by simpa using h) fun i c v h1 h2 => hr (i + 1) c v (by simpa using h1) (by simpa using h2))
theorem rv_agg {M : Mem} {B : BM} {cs : List PV} {v : Value} (h : Rv M B (.agg cs) v) : ∃ l : List Value, v = .agg l.toArray ∧ RvL M B cs l := by
 cases h with
 | agg cs vs f hl hf hr =>
  refine ⟨vs.toList, rfl, rvl_of _ _ (by simpa using hl) fun i c v h1 h2 => ?_⟩
  have hi : i < cs.length := (List.getElem?_eq_some_iff.1 h1).1
  have := hf i hi
  rw [Array.getElem?_toList, this] at h2
  cases h2
  exact hr i c h1
theorem rv_tuple {M : Mem} {B : BM} {cs : List PV} {v : Value} (h : Rv M B (.tuple cs) v) : ∃ l : List Value, v = .tuple l.toArray ∧ RvL M B cs l := by
 cases h with
 | tuple cs vs f hl hf hr =>
  refine ⟨vs.toList, rfl, rvl_of _ _ (by simpa using hl) fun i c v h1 h2 => ?_⟩
  have hi : i < cs.length := (List.getElem?_eq_some_iff.1 h1).1
  have := hf i hi
  rw [Array.getElem?_toList, this] at h2
  cases h2
  exact hr i c h1
theorem isSlice {M : Mem} {B : BM} {es : List PV} {v : Value} (h : Rv M B (.slice es [] false) v) : ∃ a l k, v = .slice a l k := by
 cases h with
 | nil o => exact ⟨_, _, _, rfl⟩
 | slice es bs o a cap s f ha hc ho hel hm hr => exact ⟨_, _, _, rfl⟩
theorem mWorld_ok : SOk mWorld := ⟨by decide⟩
theorem mField (nm : Str) (h : nm = [98] ∨ nm = [99]) : fieldD mWorld [81] nm = (⟨nm, [], ⟨[73, 110, 116], 0, 0⟩, []⟩, true) := by
 rcases h with rfl | rfl <;> rfl
set_option maxRecDepth 100000 in
theorem field_call (nm : Str) (hn : nm = [98] ∨ nm = [99]) {M : Mem} {w : World} (h0 h1 h2 : Value) (hc : Cons M w) (hr : Rv M noB (.agg [(.slice (List.map encDef mWorld.defs) [] false), (.str mWorld.query), (.str mWorld.mutation)]) (.agg #[h0, h1, h2])) :
  Calls Try.prog 100 #[.agg #[h0, h1, h2], .string ⟨#[81]⟩, .string ⟨nm.toArray⟩] w fun e w' => ∃ a2 l2 p2 a3 l3 p3 M', e = .returned (.tuple #[.agg #[.string ⟨nm.toArray⟩, .slice a2 l2 p2, .string ⟨#[73, 110, 116]⟩, .int .i64 0, .int .i64 0, .slice a3 l3 p3], .bool true]) ∧ Cons M' w' ∧ Quiet M w M' w' := by
 have key := quiet_call pokX xok (defs_Field_spec ((defs_Field_ok mWorld [81] nm mWorld_ok).trans (by rw [mField nm hn]))) (M := M) (w := w) (vals := #[.agg #[h0, h1, h2], .string ⟨#[81]⟩, .string ⟨nm.toArray⟩]) rfl hc ⟨rfl, fun i p hp => by
  match i, hp with
  | 0, hp => cases hp; exact ⟨hr, noOwn_of_plain rfl⟩
  | 1, hp => cases hp; exact ⟨.str [81], noOwn_of_plain rfl⟩
  | 2, hp => cases hp; exact ⟨.str nm, noOwn_of_plain rfl⟩
  | i + 3, hp => simp at hp⟩
 refine key.mono ?_
 rintro e w' ⟨v, M', rfl, hv, hc', hq⟩
 obtain ⟨l, rfl, hl⟩ := rv_tuple hv
 cases hl with | cons r0 hl =>
 cases hl with | cons r1 hl =>
 cases hl
 cases r1
 obtain ⟨l, rfl, hl⟩ := rv_agg r0
 cases hl with | cons q0 hl =>
 cases hl with | cons q1 hl =>
 cases hl with | cons q2 hl =>
 cases hl with | cons q3 hl =>
 cases hl with | cons q4 hl =>
 cases hl with | cons q5 hl =>
 cases hl
 cases q0
 cases q2
 cases q3
 cases q4
 obtain ⟨a2, l2, p2, rfl⟩ := isSlice q1
 obtain ⟨a3, l3, p3, rfl⟩ := isSlice q5
 exact ⟨_, _, _, _, _, _, M', rfl, hc', hq⟩
theorem mDefs_sm : Sm mWorld.defs := by decide
abbrev tInt : GType := ⟨[73, 110, 116], 0, 0⟩
theorem mShape_ok : merge_Shape mWorld tInt tInt = some true := by
 apply merge_Shape_run
 have h : kindD mWorld [73, 110, 116] [0, 4] = true := by rfl
 simp only [merge_Shape_B, defs_Leaf_ok mWorld [73, 110, 116] mDefs_sm, h, bnd_s, cnd_t, bne_self_eq_false, cnd_f]
 rfl
set_option maxRecDepth 100000 in
theorem shape_call {M : Mem} {w : World} (h0 h1 h2 : Value) (hc : Cons M w) (hr : Rv M noB (.agg [(.slice (List.map encDef mWorld.defs) [] false), (.str mWorld.query), (.str mWorld.mutation)]) (.agg #[h0, h1, h2])) :
  Calls Try.prog 34 #[.agg #[h0, h1, h2], .agg #[.string ⟨#[73, 110, 116]⟩, .int .i64 0, .int .i64 0], .agg #[.string ⟨#[73, 110, 116]⟩, .int .i64 0, .int .i64 0]] w fun e w' => ∃ M', e = .returned (.bool true) ∧ Cons M' w' ∧ Quiet M w M' w' := by
 have ht : Rv M noB (encType tInt) (.agg #[.string ⟨#[73, 110, 116]⟩, .int .i64 0, .int .i64 0]) := by
  refine .agg _ _ (fun i => (#[Value.string ⟨#[73, 110, 116]⟩, .int .i64 0, .int .i64 0] : Array Value).getD i undef) rfl ?_ ?_
  ·intro i hi
   match i, hi with
   | 0, _ => rfl
   | 1, _ => rfl
   | 2, _ => rfl
  ·intro i c hc
   match i, hc with
   | 0, hc => cases hc; exact .str [73, 110, 116]
   | 1, hc => cases hc; exact .int _ _
   | 2, hc => cases hc; exact .int _ _
   | i + 3, hc => simp at hc
 have key := quiet_call pokX xok (merge_Shape_spec mShape_ok) (M := M) (w := w) (vals := #[.agg #[h0, h1, h2], .agg #[.string ⟨#[73, 110, 116]⟩, .int .i64 0, .int .i64 0], .agg #[.string ⟨#[73, 110, 116]⟩, .int .i64 0, .int .i64 0]]) rfl hc ⟨rfl, fun i p hp => by
  match i, hp with
  | 0, hp => cases hp; exact ⟨hr, noOwn_of_plain rfl⟩
  | 1, hp => cases hp; exact ⟨ht, noOwn_of_plain rfl⟩
  | 2, hp => cases hp; exact ⟨ht, noOwn_of_plain rfl⟩
  | i + 3, hp => simp at hp⟩
 refine key.mono ?_
 rintro e w' ⟨v, M', rfl, hv, hc', hq⟩
 cases hv
 exact ⟨M', rfl, hc', hq⟩
theorem mWithin_ok (nm : Str) (h : nm = [98] ∨ nm = [99]) : fields_Within mWorld [81] ⟨0, [97], nm, [], [], [], []⟩ = some [73, 110, 116] := by
 apply fields_Within_run
 have e : ((0 : Int) == 0) = true := rfl
 simp only [fields_Within_B, e, cnd_t, defs_Field_ok mWorld [81] nm mWorld_ok, mField nm h, bnd_s]
theorem mRoot_ok (n : Str) : fields_Root mWorld ⟨0, [], [], [], [(GSel.mk 0 [97] [98] [] [] [] []), (GSel.mk 0 [97] n [] [] [] [])]⟩ = some [81] := by
 apply fields_Root_run
 have e : ((0 : Int) == 1) = false := rfl
 simp only [fields_Root_B, e, cnd_f]
 rfl
structure KAt (M : Mem) (w : World) (ka sb pb : Nat) (a0 : Option Addr) (l0 p0 : Nat) (no : Int) (fm : Value) : Prop where
 cons : Cons M w
 row : w.heap[ka]? = some (.cells #[.slice a0 l0 p0, .string ⟨mWorld.query.toArray⟩, .string ⟨mWorld.mutation.toArray⟩, .int .i64 no, fm, .map (some sb), .map (some pb)] 132 (0, 0))
 rs : Rv M noB (.agg [(.slice (List.map encDef mWorld.defs) [] false), (.str mWorld.query), (.str mWorld.mutation)]) (.agg #[.slice a0 l0 p0, .string ⟨mWorld.query.toArray⟩, .string ⟨mWorld.mutation.toArray⟩])
theorem c6 {w : World} {b T : Nat} {x0 x1 x2 x3 x4 x5 : Value} (h : w.heap[b]? = some (.cells #[x0, x1, x2, x3, x4, x5] T (0, 0))) :
  (w.cell? ⟨b, 0, none⟩ = some x0 ∧ w.cell? ⟨b, 1, none⟩ = some x1 ∧ w.cell? ⟨b, 2, none⟩ = some x2 ∧ w.cell? ⟨b, 3, none⟩ = some x3 ∧ w.cell? ⟨b, 4, none⟩ = some x4 ∧ w.cell? ⟨b, 5, none⟩ = some x5) ∧
  (w.frozen? ⟨b, 0, none⟩ = false ∧ w.frozen? ⟨b, 1, none⟩ = false ∧ w.frozen? ⟨b, 2, none⟩ = false ∧ w.frozen? ⟨b, 3, none⟩ = false ∧ w.frozen? ⟨b, 4, none⟩ = false ∧ w.frozen? ⟨b, 5, none⟩ = false) := by
 refine ⟨⟨?_, ?_, ?_, ?_, ?_, ?_⟩, ?_, ?_, ?_, ?_, ?_, ?_⟩
 iterate 6 (rw [cell_of_row w b _ _ _ _ h]; rfl)
 all_goals simp [World.frozen?, h]
theorem set6 {w : World} {b T : Nat} {fz : Nat × Nat} {x0 x1 x2 x3 x4 x5 v0 v1 v2 v3 v4 v5 : Value} (h : w.heap[b]? = some (.cells #[x0, x1, x2, x3, x4, x5] T fz)) :
  ((((((w.setCell ⟨b, 0, none⟩ v0).setCell ⟨b, 1, none⟩ v1).setCell ⟨b, 2, none⟩ v2).setCell ⟨b, 3, none⟩ v3).setCell ⟨b, 4, none⟩ v4).setCell ⟨b, 5, none⟩ v5).heap[b]? = some (.cells #[v0, v1, v2, v3, v4, v5] T fz) := by
 simp [World.setCell, Array.getElem?_modify, h]
structure ShSt (M : Mem) (w : World) (A B : Array Value) (M' : Mem) (w' : World) : Prop where
 cons : Cons M' w'
 mem : ∀ b i v, M b i = some v → M' b i = some v
 below : Below w.heap.size w w'
 a : w'.heap[w.heap.size]? = some (.cells A 152 (0, 0))
 b : w'.heap[w.heap.size + 1]? = some (.cells B 152 (0, 0))
 c : w'.heap[w.heap.size + 1 + 1]? = some (.cells #[.int .i64 1, .int .i64 2] 159 (0, 0))
theorem ShSt.quiet {M : Mem} {w : World} {A B : Array Value} {M' M'' : Mem} {w' w'' : World} (h : ShSt M w A B M' w') (q : Quiet M' w' M'' w'') (hc : Cons M'' w'') : ShSt M w A B M'' w'' :=
 ⟨hc, fun b i v hv => q.mem b i v (h.mem b i v hv), h.below.trans ⟨q.os, q.tape, q.output, q.size, fun k hk => (q.old k (Nat.lt_of_lt_of_le hk h.below.size)).1⟩, (q.old _ (Array.getElem?_eq_some_iff.1 h.a).1).1.trans h.a, (q.old _ (Array.getElem?_eq_some_iff.1 h.b).1).1.trans h.b, (q.old _ (Array.getElem?_eq_some_iff.1 h.c).1).1.trans h.c⟩
theorem quiet_below' {M : Mem} {w w' : World} (h : Below w.heap.size w w') : Quiet M w M w' := ⟨fun _ _ _ h => h, fun b hb => ⟨h.block b hb, fun _ => rfl⟩, h.size, h.os, h.tape, h.output⟩
theorem cons_below' {M : Mem} {w w' : World} (hc : Cons M w) (h : Below w.heap.size w w') : Cons M w' := by
 intro b i v hv
 obtain ⟨arr, T, fz, h1, h2⟩ := hc b i v hv
 exact ⟨arr, T, fz, (h.block b (Array.getElem?_eq_some_iff.1 h1).1).trans h1, h2⟩
theorem ShSt.bl {M : Mem} {w : World} {A B : Array Value} {M' : Mem} {w' w'' : World} (h : ShSt M w A B M' w') (q : Below w'.heap.size w' w'') : ShSt M w A B M' w'' := h.quiet (quiet_below' q) (cons_below' h.cons q)
noncomputable def dropSeq : Nat → Code → Code
 | 0, c => c
 | n + 1, .seq _ b => dropSeq n b
 | _ + 1, c => c
noncomputable def tl101 (n : Nat) : Code := match Try.f101.body with | some c => dropSeq n c | none => .skip
set_option maxHeartbeats 8000000 in
set_option maxRecDepth 100000 in
theorem sh8 {M : Mem} {w : World} {ka sb pb : Nat} {a0 : Option Addr} {l0 p0 : Nat} {no : Int} {fm : Value} (h : KAt M w ka sb pb a0 l0 p0 no fm) (hs : NoPairs w sb) {A B : Array Value} {M5 : Mem} {w5 : World} (hst : ShSt M w A B M5 w5) (Q : Ending → World → Prop)
  (hQ : ∀ w6, w5.grownBy w6 (some sb) → Q (.returned (.bool true)) w6) (v1 v2 v3 v6 v8 v9 v10 v11 v12 v13 v15 v16 v17 v18 v19 v20 v21 v22 v23 v24 v25 v26 v27 v28 v29 v30 v31 v32 v33 v34 v35 v36 v37 v38 v39 v40 v41 v42 v43 v44 v45 v46 v47 v48 v49 v50 v51 v52 v53 v54 v55 v56 v57 v58 v59 v60 v61 v62 v63 v64 v65 v66 v67 v68 v69 v70 v71 v72 v73 v74 v75 v76 v77 v78 v79 v80 : Value) :
  Code.wp Try.prog (tl101 6) (bodyPost Try.prog Try.f101 Q) ⟨#[.pointer (some ⟨ka, 0, none⟩), v1, v2, v3, .pointer (some ⟨w.heap.size, 0, none⟩), .pointer (some ⟨w.heap.size + 1, 0, none⟩), v6, .pointer (some ⟨w.heap.size + 1 + 1, 0, none⟩), v8, v9, v10, v11, v12, v13, .bool true, v15, v16, v17, v18, v19, v20, v21, v22, v23, v24, v25, v26, v27, v28, v29, v30, v31, v32, v33, v34, v35, v36, v37, v38, v39, v40, v41, v42, v43, v44, v45, v46, v47, v48, v49, v50, v51, v52, v53, v54, v55, v56, v57, v58, v59, v60, v61, v62, v63, v64, v65, v66, v67, v68, v69, v70, v71, v72, v73, v74, v75, v76, v77, v78, v79, v80], []⟩ w5 := by
 have hkl : ka < w.heap.size := (Array.getElem?_eq_some_iff.1 h.row).1
 have hrow5 := (hst.below.block ka hkl).trans h.row
 have hk5 : w5.cell? ⟨ka, 5, none⟩ = some (.map (some sb)) := by rw [cell_of_row w5 _ _ _ _ _ hrow5]; rfl
 have hc0 : w5.cell? ⟨w.heap.size + 1 + 1, 0, none⟩ = some (.int .i64 1) := by rw [cell_of_row w5 _ _ _ _ _ hst.c]; rfl
 have hc1 : w5.cell? ⟨w.heap.size + 1 + 1, 1, none⟩ = some (.int .i64 2) := by rw [cell_of_row w5 _ _ _ _ _ hst.c]; rfl
 have hs5 : NoPairs w5.drew sb := NoPairs.congr (w' := w5.drew) (hs.congr (hst.below.block sb hs.lt)) rfl
 obtain ⟨w6, hupd, hg6⟩ := hs5.update true
 have hg6' : w5.grownBy w6 (some sb) := ⟨hg6.os, hg6.tape, hg6.output, hg6.size, hg6.block⟩
 obtain ⟨fn, hfn⟩ : ∃ fn, fn = Try.f101 := ⟨_, rfl⟩
 have hres : ∀ (a : Act) (w : World), (results fn a.tmps).run Try.prog w = .ok (a.tmps.getD 6 undef) w := fun a w => results_tmp (by rw [hfn]; rfl) _ _ _
 rw [← hfn]
 clear hfn
 unfold tl101
 simp only [Try.f101, dropSeq]
 go_wp2
 go_region
 go_wp2
 exact bodyPost_end (hres _ _) rfl (hQ _ hg6')
set_option maxHeartbeats 16000000 in
set_option maxRecDepth 100000 in
theorem sh7 {M : Mem} {w : World} {ka sb pb : Nat} {a0 : Option Addr} {l0 p0 : Nat} {no : Int} {fm : Value} (h : KAt M w ka sb pb a0 l0 p0 no fm) (hs : NoPairs w sb) (al al' on0 on' nm nm' tt tt' : ByteArray) (a3 : Option Addr) (l3 p3 : Nat) (a4 : Option Addr) (l4 p4 : Nat) (a6 : Option Addr) (l6 p6 : Nat) (oa : Option Addr) (cap : Nat) (b3 : Option Addr) (m3 q3 : Nat) (b4 : Option Addr) (m4 q4 : Nat) (b6 : Option Addr) (m6 q6 : Nat) (oa' : Option Addr) (cap' : Nat)
  {M5 : Mem} {w5 : World} (hst : ShSt M w #[.int .i64 1, .int .i64 0, .string al, .string nm, .slice a3 l3 p3, .slice a4 l4 p4, .string on0, .slice a6 l6 p6, .string tt, .slice oa 0 cap] #[.int .i64 2, .int .i64 0, .string al', .string nm', .slice b3 m3 q3, .slice b4 m4 q4, .string on', .slice b6 m6 q6, .string tt', .slice oa' 0 cap'] M5 w5) (fb gb : Nat) (f0 f1 f5 g0 g1 g5 : Value)
  (hf : w5.heap[fb]? = some (.cells #[f0, f1, .string ⟨#[73, 110, 116]⟩, .int .i64 0, .int .i64 0, f5] 102 (0, 0))) (hg : w5.heap[gb]? = some (.cells #[g0, g1, .string ⟨#[73, 110, 116]⟩, .int .i64 0, .int .i64 0, g5] 102 (0, 0))) (Q : Ending → World → Prop)
  (hQ : ∀ M6 w6 w7, ShSt M w #[.int .i64 1, .int .i64 0, .string al, .string nm, .slice a3 l3 p3, .slice a4 l4 p4, .string on0, .slice a6 l6 p6, .string tt, .slice oa 0 cap] #[.int .i64 2, .int .i64 0, .string al', .string nm', .slice b3 m3 q3, .slice b4 m4 q4, .string on', .slice b6 m6 q6, .string tt', .slice oa' 0 cap'] M6 w6 → w6.grownBy w7 (some sb) → Q (.returned (.bool true)) w7) (v1 v2 v3 v6 v8 v9 v11 v13 v14 v15 v16 v17 v18 v19 v20 v21 v22 v23 v24 v25 v26 v27 v28 v29 v30 v31 v32 v33 v34 v35 v36 v37 v38 v39 v40 v41 v42 v43 v44 v45 v46 v47 v48 v49 v50 v51 v52 v53 v54 v55 v56 v57 v58 v59 v60 v61 v62 v63 v64 v65 v66 v67 v68 v69 v70 v71 v72 v73 v74 v75 v76 v77 v78 v79 v80 : Value) :
  Code.wp Try.prog (tl101 5) (bodyPost Try.prog Try.f101 Q) ⟨#[.pointer (some ⟨ka, 0, none⟩), v1, v2, v3, .pointer (some ⟨w.heap.size, 0, none⟩), .pointer (some ⟨w.heap.size + 1, 0, none⟩), v6, .pointer (some ⟨w.heap.size + 1 + 1, 0, none⟩), v8, v9, .pointer (some ⟨fb, 0, none⟩), v11, .pointer (some ⟨gb, 0, none⟩), v13, v14, v15, v16, v17, v18, v19, v20, v21, v22, v23, v24, v25, v26, v27, v28, v29, v30, v31, v32, v33, v34, v35, v36, v37, v38, v39, v40, v41, v42, v43, v44, v45, v46, v47, v48, v49, v50, v51, v52, v53, v54, v55, v56, v57, v58, v59, v60, v61, v62, v63, v64, v65, v66, v67, v68, v69, v70, v71, v72, v73, v74, v75, v76, v77, v78, v79, v80], []⟩ w5 := by
 have hkl : ka < w.heap.size := (Array.getElem?_eq_some_iff.1 h.row).1
 have hrow5 := (hst.below.block ka hkl).trans h.row
 have k0 : w5.cell? ⟨ka, 0, none⟩ = some (.slice a0 l0 p0) := by rw [cell_of_row w5 _ _ _ _ _ hrow5]; rfl
 have k1 : w5.cell? ⟨ka, 1, none⟩ = some (.string ⟨mWorld.query.toArray⟩) := by rw [cell_of_row w5 _ _ _ _ _ hrow5]; rfl
 have k2 : w5.cell? ⟨ka, 2, none⟩ = some (.string ⟨mWorld.mutation.toArray⟩) := by rw [cell_of_row w5 _ _ _ _ _ hrow5]; rfl
 obtain ⟨⟨_, _, x2, x3, x4, _⟩, _⟩ := c6 hf
 obtain ⟨⟨_, _, y2, y3, y4, _⟩, _⟩ := c6 hg
 have hfl : fb < w5.heap.size := (Array.getElem?_eq_some_iff.1 hf).1
 have hgl : gb < w5.heap.size := (Array.getElem?_eq_some_iff.1 hg).1
 have hst5d : ShSt M w #[.int .i64 1, .int .i64 0, .string al, .string nm, .slice a3 l3 p3, .slice a4 l4 p4, .string on0, .slice a6 l6 p6, .string tt, .slice oa 0 cap] #[.int .i64 2, .int .i64 0, .string al', .string nm', .slice b3 m3 q3, .slice b4 m4 q4, .string on', .slice b6 m6 q6, .string tt', .slice oa' 0 cap'] M5 w5.drew := hst.bl ((Below.refl w5.heap.size w5).drew)
 have hc := shape_call _ _ _ hst5d.cons (h.rs.mono hst5d.mem (fun _ _ _ h => h))
 have hAll : Hid (∀ (M6 : Mem) (w6 : World), Cons M6 w6 → Quiet M5 w5.drew M6 w6 → ShSt M w #[.int .i64 1, .int .i64 0, .string al, .string nm, .slice a3 l3 p3, .slice a4 l4 p4, .string on0, .slice a6 l6 p6, .string tt, .slice oa 0 cap] #[.int .i64 2, .int .i64 0, .string al', .string nm', .slice b3 m3 q3, .slice b4 m4 q4, .string on', .slice b6 m6 q6, .string tt', .slice oa' 0 cap'] M6 w6) := fun M6 w6 hc6 hq6 => hst5d.quiet hq6 hc6
 obtain ⟨fn, hfn⟩ : ∃ fn, fn = Try.f101 := ⟨_, rfl⟩
 rw [← hfn]
 replace hfn : Hid (fn = Try.f101) := hfn
 unfold tl101
 simp only [Try.f101, dropSeq]
 go_wp2
 rename_i K7 hK7
 replace hK7 := (id hK7 : Hid _)
 have after7 : Hid (∀ (M6 : Mem) (w6 w7 : World) (v1 v2 v3 v6 v8 v9 v10 v11 v12 v13 v15 v16 v17 v18 v19 v20 v21 v22 v23 v24 v25 v26 v27 v28 v29 v30 v31 v32 v33 v34 v35 v36 v37 v38 v39 v40 v41 v42 v43 v44 v45 v46 v47 v48 v49 v50 v51 v52 v53 v54 v55 v56 v57 v58 v59 v60 v61 v62 v63 v64 v65 v66 v67 v68 v69 v70 v71 v72 v73 v74 v75 v76 v77 v78 v79 v80 : Value), ShSt M w #[.int .i64 1, .int .i64 0, .string al, .string nm, .slice a3 l3 p3, .slice a4 l4 p4, .string on0, .slice a6 l6 p6, .string tt, .slice oa 0 cap] #[.int .i64 2, .int .i64 0, .string al', .string nm', .slice b3 m3 q3, .slice b4 m4 q4, .string on', .slice b6 m6 q6, .string tt', .slice oa' 0 cap'] M6 w6 → Below w6.heap.size w6 w7 → K7 ⟨#[.pointer (some ⟨ka, 0, none⟩), v1, v2, v3, .pointer (some ⟨w.heap.size, 0, none⟩), .pointer (some ⟨w.heap.size + 1, 0, none⟩), v6, .pointer (some ⟨w.heap.size + 1 + 1, 0, none⟩), v8, v9, v10, v11, v12, v13, .bool true, v15, v16, v17, v18, v19, v20, v21, v22, v23, v24, v25, v26, v27, v28, v29, v30, v31, v32, v33, v34, v35, v36, v37, v38, v39, v40, v41, v42, v43, v44, v45, v46, v47, v48, v49, v50, v51, v52, v53, v54, v55, v56, v57, v58, v59, v60, v61, v62, v63, v64, v65, v66, v67, v68, v69, v70, v71, v72, v73, v74, v75, v76, v77, v78, v79, v80], []⟩ w7) := by
  intro M6 w6 w7 v1 v2 v3 v6 v8 v9 v10 v11 v12 v13 v15 v16 v17 v18 v19 v20 v21 v22 v23 v24 v25 v26 v27 v28 v29 v30 v31 v32 v33 v34 v35 v36 v37 v38 v39 v40 v41 v42 v43 v44 v45 v46 v47 v48 v49 v50 v51 v52 v53 v54 v55 v56 v57 v58 v59 v60 v61 v62 v63 v64 v65 v66 v67 v68 v69 v70 v71 v72 v73 v74 v75 v76 v77 v78 v79 v80 h6 hb7
  have e := hfn.out
  subst e
  refine hK7.out _ _ ?_
  exact sh8 h hs (h6.bl hb7) Q (fun w8 hw8 => hQ M6 w7 w8 (h6.bl hb7) hw8) v1 v2 v3 v6 v8 v9 v10 v11 v12 v13 v15 v16 v17 v18 v19 v20 v21 v22 v23 v24 v25 v26 v27 v28 v29 v30 v31 v32 v33 v34 v35 v36 v37 v38 v39 v40 v41 v42 v43 v44 v45 v46 v47 v48 v49 v50 v51 v52 v53 v54 v55 v56 v57 v58 v59 v60 v61 v62 v63 v64 v65 v66 v67 v68 v69 v70 v71 v72 v73 v74 v75 v76 v77 v78 v79 v80
 clear hQ hfn
 go_region_with (first | (go_at_call 34; refine hc.mono ?_; rintro e' w6 ⟨M6, rfl, hc6, hq6⟩; have hst6 := hAll.out M6 w6 hc6 hq6; obtain ⟨z0, z1, z2, z3, z4, z5, z6, z7, z8, z9⟩ := c10 hst6.a; obtain ⟨u0, u1, u2, u3, u4, u5, u6, u7, u8, u9⟩ := c10 hst6.b) | (go_at_call 102; refine (across_nil ka _ 1 0 al nm on0 tt a3 l3 p3 a4 l4 p4 a6 l6 p6 oa cap 2 0 al' nm' on' tt' b3 m3 q3 b4 m4 q4 b6 m6 q6 oa' cap' _).mono ?_; rintro e' w7 ⟨rfl, hb7⟩))
 all_goals exact after7.out _ _ _ _ _ _ _ _ _ _ _ _ _ _ _ _ _ _ _ _ _ _ _ _ _ _ _ _ _ _ _ _ _ _ _ _ _ _ _ _ _ _ _ _ _ _ _ _ _ _ _ _ _ _ _ _ _ _ _ _ _ _ _ _ _ _ _ _ _ _ _ _ _ _ _ _ _ _ _ hst6 hb7
end Go.Proofs.Ytfbaogfcpldlnaa

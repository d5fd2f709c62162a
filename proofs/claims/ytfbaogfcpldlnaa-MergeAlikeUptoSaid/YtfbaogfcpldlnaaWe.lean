import Derived.Test.YtfbaogfcpldlnaaWd
import Derived.Test.YtfbaogfcpldlnaaEd
import Derived.Test.YtfbaogfcpldlnaaGc
import Derived.Test.YtfbaogfcpldlnaaGa
import Derived.Test.YtfbaogfcpldlnaaRows
import Derived.WalkKit
import Derived.ProofKit
import Derived.OpenShut
import Derived.JoinedCond
set_option linter.unusedVariables false
set_option linter.unusedSimpArgs false
set_option linter.unusedSimpArgs false
open Go Go.Ev Go.RowKit
namespace Go.Proofs.Ytfbaogfcpldlnaa
theorem KAt.setno {M : Mem} {w : World} {ka sb pb : Nat} {a0 : Option Addr} {l0 p0 : Nat} {no : Int} {fm : Value} (h : KAt M w ka sb pb a0 l0 p0 no fm) (hfk : ∀ i, M ka i = none) (no' : Int) : KAt M (w.setCell ⟨ka, 3, none⟩ (.int .i64 no')) ka sb pb a0 l0 p0 no' fm := by
 refine ⟨fun b i v hv => ?_, ?_, h.rs⟩
 ·obtain ⟨arr, T, fz, h1, h2⟩ := h.cons b i v hv
  have hb : b ≠ ka := by rintro rfl; rw [hfk] at hv; cases hv
  exact ⟨arr, T, fz, (Below.heap_setCell _ _ _ _ hb).trans h1, h2⟩
 ·simp [World.setCell, Array.getElem?_modify, h.row]
theorem KAt.alloc {M : Mem} {w : World} {ka sb pb : Nat} {a0 : Option Addr} {l0 p0 : Nat} {no : Int} {fm : Value} (h : KAt M w ka sb pb a0 l0 p0 no fm) (o : Obj) : KAt M (w.alloc o) ka sb pb a0 l0 p0 no fm :=
 h.but (But.below h.cons ((Below.refl _ _).alloc (Nat.le_refl _) o) []) (by simp)
theorem sel_cells {M : Mem} {w : World} (hc : Cons M w) {nm : Str} {c3 c4 c6 : Value} {blk off : Nat} (hcv : CV M (leafS nm) c3 c4 c6) (h : ∀ (j : Nat) (v : Value), (xCells (leafS nm) c3 c4 c6)[j]? = some v → M blk (off + j) = some v) :
  ∃ a3 p3 a4 p4 a6 p6, c3 = .slice a3 0 p3 ∧ c4 = .slice a4 0 p4 ∧ c6 = .slice a6 0 p6 ∧ ∀ (w' : World), (∀ b i v, M b i = some v → w'.cell? ⟨b, i, none⟩ = some v) → w'.cell? ⟨blk, off, none⟩ = some (.int .i64 0) ∧ w'.cell? ⟨blk, off + 1, none⟩ = some (.string ⟨#[97]⟩) ∧ w'.cell? ⟨blk, off + 2, none⟩ = some (.string ⟨nm.toArray⟩) ∧ w'.cell? ⟨blk, off + 3, none⟩ = some (.slice a3 0 p3) ∧ w'.cell? ⟨blk, off + 4, none⟩ = some (.slice a4 0 p4) ∧ w'.cell? ⟨blk, off + 5, none⟩ = some (.string ⟨#[]⟩) ∧ w'.cell? ⟨blk, off + 6, none⟩ = some (.slice a6 0 p6) := by
 obtain ⟨a3, p3, rfl⟩ := sl_nil hcv.r3
 obtain ⟨a4, p4, rfl⟩ := sl_nil hcv.r4
 obtain ⟨a6, p6, rfl⟩ := sl_nil hcv.r6
 exact ⟨a3, p3, a4, p4, a6, p6, rfl, rfl, rfl, fun w' hw => ⟨hw _ _ _ (h 0 _ rfl), hw _ _ _ (h 1 _ rfl), hw _ _ _ (h 2 _ rfl), hw _ _ _ (h 3 _ rfl), hw _ _ _ (h 4 _ rfl), hw _ _ _ (h 5 _ rfl), hw _ _ _ (h 6 _ rfl)⟩⟩
set_option maxHeartbeats 16000000 in
set_option maxRecDepth 100000 in
theorem items_two {M : Mem} {w : World} {ka sb pb : Nat} {a0 : Option Addr} {l0 p0 : Nat} {fm : Value} (h : KAt M w ka sb pb a0 l0 p0 0 fm) (hfk : ∀ i, M ka i = none) (n0 n1 : Str) (hn0 : n0 = [98] ∨ n0 = [99]) (hn1 : n1 = [98] ∨ n1 = [99]) (c : Value) (hc : Rv M noB (.slice (List.map encSel [leafS n0, leafS n1]) [] false) c) :
  Calls Try.prog 80 #[.pointer (some ⟨ka, 0, none⟩), .string ⟨#[81]⟩, c] w fun e w' => ∃ g cap M' a3 ap3 a4 ap4 a6 ap6 b3 bp3 b4 bp4 b6 bp6, e = .returned (.slice (some ⟨g, 0, none⟩) 2 cap) ∧ CellsAt w' g 0 [.int .i64 1, .int .i64 0, .string ⟨#[97]⟩, .string ⟨List.toArray n0⟩, .slice a3 0 ap3, .slice a4 0 ap4, .string ⟨#[]⟩, .slice a6 0 ap6, .string ⟨#[81]⟩, .slice none 0 0] ∧ CellsAt w' g 10 [.int .i64 2, .int .i64 0, .string ⟨#[97]⟩, .string ⟨List.toArray n1⟩, .slice b3 0 bp3, .slice b4 0 bp4, .string ⟨#[]⟩, .slice b6 0 bp6, .string ⟨#[81]⟩, .slice none 0 0] ∧ KAt M' w' ka sb pb a0 l0 p0 2 fm ∧ But M w [ka] M' w' := by
 obtain ⟨oa, cap, rfl, hcap, hne, hat⟩ := sel_slice h.cons hc
 obtain ⟨blk, off, rfl⟩ := hne (by simp)
 obtain ⟨c3, c4, c6, hcv, hm⟩ := hat blk off rfl 0 (leafS n0) rfl
 obtain ⟨d3, d4, d6, hdv, hm'⟩ := hat blk off rfl 1 (leafS n1) rfl
 obtain ⟨a3, ap3, a4, ap4, a6, ap6, rfl, rfl, rfl, hA⟩ := sel_cells (off := off) h.cons hcv (fun j v hv => by simpa using hm j v hv)
 obtain ⟨b3, bp3, b4, bp4, b6, bp6, rfl, rfl, rfl, hB⟩ := sel_cells (off := off + 7) h.cons hdv (fun j v hv => by simpa using hm' j v hv)
 have hkl : ka < w.heap.size := (Array.getElem?_eq_some_iff.1 h.row).1
 have hbk : blk ≠ ka := by
  have := hm 0 _ rfl
  rintro rfl; rw [hfk] at this; cases this
 have hbl : blk < w.heap.size := by
  obtain ⟨arr, T, fz, h1, _⟩ := h.cons _ _ _ (hm 0 _ rfl)
  exact (Array.getElem?_eq_some_iff.1 h1).1
 obtain ⟨x0, x1, x2, x3, x4, x5, x6⟩ := hA w (fun b i v hv => cell_of_mem h.cons hv)
 have k3 : w.cell? ⟨ka, 3, none⟩ = some (.int .i64 0) := by rw [cell_of_row w _ _ _ _ _ h.row]; rfl
 have kf : w.frozen? ⟨ka, 3, none⟩ = false := by simp [World.frozen?, h.row]
 go_enter Try.func80, Try.ntmps80
 go_wp2
 refine wp_loop_rounds 3 ?_; rw [rounds_succ]
 go_wp2
 have hW1s : (w.setCell ⟨ka, 3, none⟩ (.int .i64 1)).heap.size = w.heap.size := by simp [World.setCell]
 have hK1 := (h.setno hfk 1).alloc (.cells #[.int .i64 0, .string ⟨#[97]⟩, .string ⟨List.toArray n0⟩, .slice a3 0 ap3, .slice a4 0 ap4, .string ⟨#[]⟩, .slice a6 0 ap6] 41)
 have hX1 : ((w.setCell ⟨ka, 3, none⟩ (.int .i64 1)).alloc (.cells #[.int .i64 0, .string ⟨#[97]⟩, .string ⟨List.toArray n0⟩, .slice a3 0 ap3, .slice a4 0 ap4, .string ⟨#[]⟩, .slice a6 0 ap6] 41)).heap[w.heap.size]? = some (.cells #[.int .i64 0, .string ⟨#[97]⟩, .string ⟨List.toArray n0⟩, .slice a3 0 ap3, .slice a4 0 ap4, .string ⟨#[]⟩, .slice a6 0 ap6] 41 (0, 0)) := by
  have := heap_alloc_new (w.setCell ⟨ka, 3, none⟩ (.int .i64 1)) (.cells #[.int .i64 0, .string ⟨#[97]⟩, .string ⟨List.toArray n0⟩, .slice a3 0 ap3, .slice a4 0 ap4, .string ⟨#[]⟩, .slice a6 0 ap6] 41)
  rwa [hW1s] at this
 have hS1 : ((w.setCell ⟨ka, 3, none⟩ (.int .i64 1)).alloc (.cells #[.int .i64 0, .string ⟨#[97]⟩, .string ⟨List.toArray n0⟩, .slice a3 0 ap3, .slice a4 0 ap4, .string ⟨#[]⟩, .slice a6 0 ap6] 41)).heap.size = w.heap.size + 1 := by simp [World.setCell]
 have hO1 : ∀ b, b < w.heap.size → b ≠ ka → ((w.setCell ⟨ka, 3, none⟩ (.int .i64 1)).alloc (.cells #[.int .i64 0, .string ⟨#[97]⟩, .string ⟨List.toArray n0⟩, .slice a3 0 ap3, .slice a4 0 ap4, .string ⟨#[]⟩, .slice a6 0 ap6] 41)).heap[b]? = w.heap[b]? := fun b hb hne => (heap_alloc_old _ _ (by rw [hW1s]; exact hb)).trans (Below.heap_setCell _ _ _ _ hne)
 refine it7 hK1 n0 hn0 w.heap.size a3 ap3 a4 ap4 a6 ap6 hX1 hcv w.heap.size (by rw [hS1]; omega) none 0 0 (by omega) [] (World.ownsRow_nil _ _ _ _) (by simp [Value.ownBlock]) (by simp [Value.ownBlock]) _ _ _ ?_ _ _ _ _ _ _ _ _ _ _ _ _ _ _ _ _ _ _ _ _ _ _ _ _ _ _ _ _ _ _ _ _ _ _ _ _ _ _ _
 intro M5 w6 g cap2 v3 v4 v5 v6 v8 v9 v10 v14 v15 v16 v17 v18 v19 v20 v21 v22 v23 v24 v25 v26 v27 v28 v29 v30 v31 v32 v33 v34 v35 v36 v37 v38 v39 v40 v41 v42 v43 v44 v45 v46 v47 hP
 have hg : w.heap.size + 1 ≤ g := by
  rcases hP.at_ with h' | h'
  ·simp [Value.ownBlock] at h'
  ·rwa [hS1] at h'
 have hs6 : w.heap.size + 1 ≤ w6.heap.size := by have := hP.size; rwa [hS1] at this
 have hgl := hP.own.lt g rfl
 have hkl6 : ka < w6.heap.size := by omega
 have hbl6 : blk < w6.heap.size := by omega
 obtain ⟨y0, y1, y2, y3, y4, y5, y6⟩ := hB w6 (fun b i v hv => cell_of_mem hP.k.cons (hP.mem b i v hv))
 have k36 : w6.cell? ⟨ka, 3, none⟩ = some (.int .i64 1) := by rw [cell_of_row w6 _ _ _ _ _ hP.k.row]; rfl
 have kf6 : w6.frozen? ⟨ka, 3, none⟩ = false := by simp [World.frozen?, hP.k.row]
 have hO6 : ∀ b, b < w.heap.size → b ≠ ka → w6.heap[b]? = w.heap[b]? := fun b hb hne => (hP.old b (by rw [hS1]; omega) (by simp [Value.ownBlock])).trans (hO1 b hb hne)
 have hfk6 : ∀ i, M5 ka i = none := fun i => (hP.memo ka (by rw [hS1]; omega) i).trans (hfk i)
 clear x0 x1 x2 x3 x4 x5 x6 k3 kf
 go_wp2
 rw [rounds_succ]
 go_wp2
 have hW2s : (w6.setCell ⟨ka, 3, none⟩ (.int .i64 2)).heap.size = w6.heap.size := by simp [World.setCell]
 have hK2 := (hP.k.setno hfk6 2).alloc (.cells #[.int .i64 0, .string ⟨#[97]⟩, .string ⟨List.toArray n1⟩, .slice b3 0 bp3, .slice b4 0 bp4, .string ⟨#[]⟩, .slice b6 0 bp6] 41)
 have hX2 : ((w6.setCell ⟨ka, 3, none⟩ (.int .i64 2)).alloc (.cells #[.int .i64 0, .string ⟨#[97]⟩, .string ⟨List.toArray n1⟩, .slice b3 0 bp3, .slice b4 0 bp4, .string ⟨#[]⟩, .slice b6 0 bp6] 41)).heap[w6.heap.size]? = some (.cells #[.int .i64 0, .string ⟨#[97]⟩, .string ⟨List.toArray n1⟩, .slice b3 0 bp3, .slice b4 0 bp4, .string ⟨#[]⟩, .slice b6 0 bp6] 41 (0, 0)) := by
  have := heap_alloc_new (w6.setCell ⟨ka, 3, none⟩ (.int .i64 2)) (.cells #[.int .i64 0, .string ⟨#[97]⟩, .string ⟨List.toArray n1⟩, .slice b3 0 bp3, .slice b4 0 bp4, .string ⟨#[]⟩, .slice b6 0 bp6] 41)
  rwa [hW2s] at this
 have hS2 : ((w6.setCell ⟨ka, 3, none⟩ (.int .i64 2)).alloc (.cells #[.int .i64 0, .string ⟨#[97]⟩, .string ⟨List.toArray n1⟩, .slice b3 0 bp3, .slice b4 0 bp4, .string ⟨#[]⟩, .slice b6 0 bp6] 41)).heap.size = w6.heap.size + 1 := by simp [World.setCell]
 have hO2 : ∀ b, b < w6.heap.size → b ≠ ka → ((w6.setCell ⟨ka, 3, none⟩ (.int .i64 2)).alloc (.cells #[.int .i64 0, .string ⟨#[97]⟩, .string ⟨List.toArray n1⟩, .slice b3 0 bp3, .slice b4 0 bp4, .string ⟨#[]⟩, .slice b6 0 bp6] 41)).heap[b]? = w6.heap[b]? := fun b hb hne => (heap_alloc_old _ _ (by rw [hW2s]; exact hb)).trans (Below.heap_setCell _ _ _ _ hne)
 have hown2 := (ownsRow_setCell_other hP.own (a := ⟨ka, 3, none⟩) (by simp only [Value.ownBlock, ne_eq, Option.some.injEq]; omega) (.int .i64 2)).alloc (.cells #[.int .i64 0, .string ⟨#[97]⟩, .string ⟨List.toArray n1⟩, .slice b3 0 bp3, .slice b4 0 bp4, .string ⟨#[]⟩, .slice b6 0 bp6] 41)
 refine it7 hK2 n1 hn1 w6.heap.size b3 bp3 b4 bp4 b6 bp6 hX2 (hdv.mono hP.mem) w.heap.size (by rw [hS2]; omega) (some ⟨g, 0, none⟩) 1 cap2 (by omega) _ hown2 (by simp only [Value.ownBlock, ne_eq, Option.some.injEq]; omega) (by intro g' hg'; cases hg'; exact ⟨by rw [hS2]; have := hgl.2; show g < _; omega, hP.free⟩) _ _ _ ?_ _ _ _ _ _ _ _ _ _ _ _ _ _ _ _ _ _ _ _ _ _ _ _ _ _ _ _ _ _ _ _ _ _ _ _ _ _ _ _
 intro M7 w8 g2 cap3 v3 v4 v5 v6 v8 v9 v10 v14 v15 v16 v17 v18 v19 v20 v21 v22 v23 v24 v25 v26 v27 v28 v29 v30 v31 v32 v33 v34 v35 v36 v37 v38 v39 v40 v41 v42 v43 v44 v45 v46 v47 hR
 have hO8 : ∀ b, b < w.heap.size → b ≠ ka → w8.heap[b]? = w.heap[b]? := fun b hb hne => (hR.old b (by rw [hS2]; omega) (by simp only [Value.ownBlock, ne_eq, Option.some.injEq]; omega)).trans ((hO2 b (by omega) hne).trans (hO6 b hb hne))
 clear y0 y1 y2 y3 y4 y5 y6 k36 kf6
 go_wp2
 rw [rounds_succ]
 go_wp2
 go_ret
 refine ⟨g2, cap3, M7, a3, ap3, a4, ap4, a6, ap6, b3, bp3, b4, bp4, b6, bp6, rfl, cells_own hR.own ⟨[], rfl, rfl⟩, cells_own (r := []) hR.own ⟨_, by rw [List.append_nil, List.nil_append], rfl⟩, hR.k, ⟨hR.k.cons, fun b i v hv => hR.mem b i v (hP.mem b i v hv), fun b hb hn => hO8 b hb (by simpa using hn), ?_, ?_, ?_, ?_⟩⟩
 ·have := hR.size; rw [hS2] at this; omega
 ·exact hR.os.trans hP.os
 ·exact hR.tape.trans hP.tape
 ·exact hR.output.trans hP.output
open Go Go.Ev Go.RowKit
abbrev mOp (n : Str) : GOp := ⟨0, [], [], [], [leafS [98], leafS n]⟩
theorem op_slice {M : Mem} {n : Str} {c : Value} (h : Rv M noB (.slice (List.map encOp [mOp n]) [] false) c) :
  ∃ blk off cap c2 c3 c4, c = .slice (some ⟨blk, off, none⟩) 1 cap ∧ (∀ (j : Nat) (v : Value), ([.int .i64 0, .string ⟨#[]⟩, c2, c3, c4] : List Value)[j]? = some v → M blk (off + j) = some v) ∧ Rv M noB (.slice [] [] false) c2 ∧ Rv M noB (.slice [] [] false) c3 ∧ Rv M noB (.slice (List.map encSel [leafS [98], leafS n]) [] false) c4 := by
 generalize hes : List.map encOp [mOp n] = es at h
 cases h with
 | nil o => simp at hes
 | slice es' bs o a cap s f ha hcp ho hel hm hr =>
  have hl : es.length = 1 := by rw [← hes]; rfl
  have hx' : (es ++ [])[0]? = some (encOp (mOp n)) := by rw [List.append_nil, ← hes]; rfl
  have hs : s = 5 := by
   have := hel 0 _ hx'
   obtain ⟨_, _, h3, _⟩ := this
   rw [encOp_eq] at h3
   exact h3.symm
  subst hs
  have hsp : a.spot = none := ha (by simp at hcp; omega)
  have hc : ∀ (j : Nat) (q : PV), (encOp (mOp n)).cells[j]? = some q → Rv M noB q (f 0 j) := fun j q hq => hr 0 _ j q hx' hq
  rw [encOp_eq] at hc
  have r0 := hc 0 _ rfl
  have r1 := hc 1 _ rfl
  have r2 := hc 2 _ rfl
  have r3 := hc 3 _ rfl
  have r4 := hc 4 _ rfl
  have e0 : f 0 0 = .int .i64 0 := by generalize f 0 0 = v at r0; cases r0; rfl
  have e1 : f 0 1 = .string ⟨#[]⟩ := by generalize f 0 1 = v at r1; cases r1; rfl
  refine ⟨a.block, a.off, cap, f 0 2, f 0 3, f 0 4, ?_, fun j v hv => ?_, r2, r3, r4⟩
  ·obtain ⟨b, o, sp⟩ := a
   simp only at hsp
   rw [hsp, hl]
  ·have hj : j < 5 := by have := (List.getElem?_eq_some_iff.1 hv).1; simpa using this
   have := hm 0 _ j hx' hj
   rw [Nat.zero_mul, Nat.add_zero] at this
   match j, hj, hv with
   | 0, _, hv => cases hv; rw [this, e0]
   | 1, _, hv => cases hv; rw [this, e1]
   | 2, _, hv => cases hv; exact this
   | 3, _, hv => cases hv; exact this
   | 4, _, hv => cases hv; exact this
set_option maxRecDepth 100000 in
theorem loopsC : O 79 [(.agg [(.slice (List.map encOp [mOp [99]]) [] false), (.slice (List.map encFrag []) [] false)])] [] = some (.bool false, []) := evalK_OL 60 (by kernel_rfl)
set_option maxRecDepth 100000 in
theorem loopsB : O 79 [(.agg [(.slice (List.map encOp [mOp [98]]) [] false), (.slice (List.map encFrag []) [] false)])] [] = some (.bool false, []) := evalK_OL 60 (by kernel_rfl)
set_option maxRecDepth 100000 in
theorem loops_call (n : Str) (hn : n = [98] ∨ n = [99]) {M : Mem} {w : World} (d0 d1 : Value) (hc : Cons M w) (hr : Rv M noB (.agg [(.slice (List.map encOp [mOp n]) [] false), (.slice (List.map encFrag []) [] false)]) (.agg #[d0, d1])) :
  Calls Try.prog 79 #[.agg #[d0, d1]] w fun e w' => ∃ M', e = .returned (.bool false) ∧ Cons M' w' ∧ Quiet M w M' w' := by
 have hO : O 79 [(.agg [(.slice (List.map encOp [mOp n]) [] false), (.slice (List.map encFrag []) [] false)])] [] = some (.bool false, []) := by
  rcases hn with rfl | rfl
  ·exact loopsB
  ·exact loopsC
 have key := quiet_call pokX xok hO (M := M) (w := w) (vals := #[.agg #[d0, d1]]) rfl hc ⟨rfl, fun i p hp => by
  match i, hp with
  | 0, hp => cases hp; exact ⟨hr, noOwn_of_plain rfl⟩
  | i + 1, hp => simp at hp⟩
 refine key.mono ?_
 rintro e w' ⟨v, M', rfl, hv, hc', hq⟩
 cases hv
 exact ⟨M', rfl, hc', hq⟩
set_option maxRecDepth 100000 in
theorem root_call (n : Str) {M : Mem} {w : World} (h0 h1 h2 c2 c3 c4 : Value) (hc : Cons M w) (hr : Rv M noB (.agg [(.slice (List.map encDef mWorld.defs) [] false), (.str mWorld.query), (.str mWorld.mutation)]) (.agg #[h0, h1, h2]))
  (h2' : Rv M noB (.slice [] [] false) c2) (h3 : Rv M noB (.slice [] [] false) c3) (h4 : Rv M noB (.slice (List.map encSel [leafS [98], leafS n]) [] false) c4) :
  Calls Try.prog 81 #[.agg #[h0, h1, h2], .agg #[.int .i64 0, .string ⟨#[]⟩, c2, c3, c4]] w fun e w' => ∃ M', e = .returned (.string ⟨#[81]⟩) ∧ Cons M' w' ∧ Quiet M w M' w' := by
 have ht : Rv M noB (encOp (mOp n)) (.agg #[.int .i64 0, .string ⟨#[]⟩, c2, c3, c4]) := by
  rw [encOp_eq]
  refine .agg _ _ (fun i => (#[Value.int .i64 0, .string ⟨#[]⟩, c2, c3, c4] : Array Value).getD i undef) rfl ?_ ?_
  ·intro i hi
   match i, hi with
   | 0, _ => rfl
   | 1, _ => rfl
   | 2, _ => rfl
   | 3, _ => rfl
   | 4, _ => rfl
  ·intro i c hc
   match i, hc with
   | 0, hc => cases hc; exact .int _ _
   | 1, hc => cases hc; exact .str []
   | 2, hc => cases hc; exact h2'
   | 3, hc => cases hc; exact h3
   | 4, hc => cases hc; exact h4
   | i + 5, hc => simp at hc
 have key := quiet_call pokX xok (fields_Root_spec (mRoot_ok n)) (M := M) (w := w) (vals := #[.agg #[h0, h1, h2], .agg #[.int .i64 0, .string ⟨#[]⟩, c2, c3, c4]]) rfl hc ⟨rfl, fun i p hp => by
  match i, hp with
  | 0, hp => cases hp; exact ⟨hr, noOwn_of_plain rfl⟩
  | 1, hp => cases hp; exact ⟨ht, noOwn_of_plain rfl⟩
  | i + 2, hp => simp at hp⟩
 refine key.mono ?_
 rintro e w' ⟨v, M', rfl, hv, hc', hq⟩
 cases hv
 exact ⟨M', rfl, hc', hq⟩
noncomputable def tl55 (n : Nat) : Code := match Try.f55.body with | some c => dropSeq n c | none => .skip
noncomputable def hd55 (n : Nat) : Code := fstC (tl55 n)
theorem body55 : Try.f55.body = some (.seq (hd55 0) (.seq (hd55 1) (.seq (hd55 2) (.seq (hd55 3) (.seq (hd55 4) (.seq (hd55 5) (.seq (hd55 6) (tl55 7)))))))) := by kernel_rfl
structure RuSt (M : Mem) (w : World) (a0 : Option Addr) (l0 p0 : Nat) (oo : Option Addr) (ol oc : Nat) (fa : Option Addr) (fc : Nat) (ka sb pb : Nat) (no : Int) (fm : Value) (M2 : Mem) (w3 : World) : Prop where
 k : KAt M2 w3 ka sb pb a0 l0 p0 no fm
 s : NoPairs w3 sb
 p : NoPairs w3 pb
 ne : sb ≠ pb ∧ ka ≠ sb ∧ ka ≠ pb
 new : w.heap.size + 1 < ka ∧ w.heap.size + 1 < sb ∧ w.heap.size + 1 < pb
 but : But M w [] M2 w3
 sb3 : w3.heap[w.heap.size]? = some (.cells #[.slice a0 l0 p0, .string ⟨mWorld.query.toArray⟩, .string ⟨mWorld.mutation.toArray⟩] 24 (0, 0))
 db : w3.heap[w.heap.size + 1]? = some (.cells #[.slice oo ol oc, .slice fa 0 fc] 28 (0, 0))
 fk : no = 0 → ∀ i, M2 ka i = none
set_option maxHeartbeats 32000000 in
set_option maxRecDepth 100000 in
theorem ru0 {M : Mem} {w : World} (hc : Cons M w) (a0 : Option Addr) (l0 p0 : Nat) (oo : Option Addr) (ol oc : Nat) (fa : Option Addr) (fc : Nat) (n : Str) (hn : n = [98] ∨ n = [99])
  (hr : Rv M noB (.agg [(.slice (List.map encDef mWorld.defs) [] false), (.str mWorld.query), (.str mWorld.mutation)]) (.agg #[.slice a0 l0 p0, .string ⟨mWorld.query.toArray⟩, .string ⟨mWorld.mutation.toArray⟩]))
  (hd : Rv M noB (.agg [(.slice (List.map encOp [mOp n]) [] false), (.slice (List.map encFrag []) [] false)]) (.agg #[.slice oo ol oc, .slice fa 0 fc]))
  (C : Code) (Q : Exit → Act → World → Prop) (hC : ∀ (ka sb pb : Nat) (fm : Value) (M2 : Mem) (w3 : World) (v0 v1 v2 v5 v6 v9 v10 v11 v12 v13 v14 v15 v16 v17 v18 v19 v20 v21 v22 v23 v24 v25 v26 v27 v28 v29 v30 v31 v32 v33 v34 v35 v36 v37 v38 v39 v40 v41 v42 v43 v44 v45 v46 v47 v48 v49 v50 v51 v52 v53 v54 v55 v56 v57 v58 v59 v60 v61 v62 v63 v64 v65 v66 v67 v68 v69 v70 v71 v72 v73 v74 v75 v76 v77 v78 v79 v80 v81 v82 v83 v84 v85 v86 v87 v88 v89 v90 v91 v92 v93 v94 v95 v96 v97 v98 v99 : Value), RuSt M w a0 l0 p0 oo ol oc fa fc ka sb pb 0 fm M2 w3 → C.wp Try.prog Q ⟨#[v0, v1, v2, .pointer (some ⟨w.heap.size, 0, none⟩), .pointer (some ⟨w.heap.size + 1, 0, none⟩), v5, v6, .pointer (some ⟨ka, 0, none⟩), .slice none 0 0, v9, v10, v11, v12, v13, v14, v15, v16, v17, v18, v19, v20, v21, v22, v23, v24, v25, v26, v27, v28, v29, v30, v31, v32, v33, v34, v35, v36, v37, v38, v39, v40, v41, v42, v43, v44, v45, v46, v47, v48, v49, v50, v51, v52, v53, v54, v55, v56, v57, v58, v59, v60, v61, v62, v63, v64, v65, v66, v67, v68, v69, v70, v71, v72, v73, v74, v75, v76, v77, v78, v79, v80, v81, v82, v83, v84, v85, v86, v87, v88, v89, v90, v91, v92, v93, v94, v95, v96, v97, v98, v99], []⟩ w3) :
  Code.wp Try.prog (.seq (hd55 0) (.seq (hd55 1) (.seq (hd55 2) (.seq (hd55 3) C)))) Q ⟨#[.agg #[.slice a0 l0 p0, .string ⟨mWorld.query.toArray⟩, .string ⟨mWorld.mutation.toArray⟩], .agg #[.slice oo ol oc, .slice fa 0 fc], .int .i64 24, undef, undef, undef, undef, undef, undef, undef, undef, undef, undef, undef, undef, undef, undef, undef, undef, undef, undef, undef, undef, undef, undef, undef, undef, undef, undef, undef, undef, undef, undef, undef, undef, undef, undef, undef, undef, undef, undef, undef, undef, undef, undef, undef, undef, undef, undef, undef, undef, undef, undef, undef, undef, undef, undef, undef, undef, undef, undef, undef, undef, undef, undef, undef, undef, undef, undef, undef, undef, undef, undef, undef, undef, undef, undef, undef, undef, undef, undef, undef, undef, undef, undef, undef, undef, undef, undef, undef, undef, undef, undef, undef, undef, undef, undef, undef, undef, undef], []⟩ w := by
 have hmm := @run_makeMap Try.prog
 have hb1 : Below w.heap.size w ((w.alloc (.cells #[.slice a0 l0 p0, .string ⟨mWorld.query.toArray⟩, .string ⟨mWorld.mutation.toArray⟩] 24)).alloc (.cells #[.slice oo ol oc, .slice fa 0 fc] 28)) := ((Below.refl _ _).alloc (Nat.le_refl _) _).alloc (by simp) _
 have hc1 := cons_below' hc hb1
 have hloop := loops_call n hn _ _ hc1 hd
 have hSD : Hid (∀ (M2 : Mem) (w2 : World), Quiet M ((w.alloc (.cells #[.slice a0 l0 p0, .string ⟨mWorld.query.toArray⟩, .string ⟨mWorld.mutation.toArray⟩] 24)).alloc (.cells #[.slice oo ol oc, .slice fa 0 fc] 28)) M2 w2 → w2.heap[w.heap.size]? = some (.cells #[.slice a0 l0 p0, .string ⟨mWorld.query.toArray⟩, .string ⟨mWorld.mutation.toArray⟩] 24 (0, 0)) ∧ w2.heap[w.heap.size + 1]? = some (.cells #[.slice oo ol oc, .slice fa 0 fc] 28 (0, 0)) ∧ w.heap.size + 2 ≤ w2.heap.size) := by
  intro M2 w2 hq2
  refine ⟨?_, ?_, by have := hq2.size; simpa using this⟩
  ·exact (hq2.old _ (by simp; omega)).1.trans ((heap_alloc_old _ _ (by simp)).trans (heap_alloc_new w (.cells #[.slice a0 l0 p0, .string ⟨mWorld.query.toArray⟩, .string ⟨mWorld.mutation.toArray⟩] 24)))
  ·have h1 := heap_alloc_new (w.alloc (.cells #[.slice a0 l0 p0, .string ⟨mWorld.query.toArray⟩, .string ⟨mWorld.mutation.toArray⟩] 24)) (.cells #[.slice oo ol oc, .slice fa 0 fc] 28)
   have h2 : (w.alloc (.cells #[.slice a0 l0 p0, .string ⟨mWorld.query.toArray⟩, .string ⟨mWorld.mutation.toArray⟩] 24)).heap.size = w.heap.size + 1 := by simp
   rw [h2] at h1
   exact (hq2.old _ (by simp)).1.trans h1
 have hF : Hid (∀ (M2 : Mem) (w2 : World), Quiet M ((w.alloc (.cells #[.slice a0 l0 p0, .string ⟨mWorld.query.toArray⟩, .string ⟨mWorld.mutation.toArray⟩] 24)).alloc (.cells #[.slice oo ol oc, .slice fa 0 fc] 28)) M2 w2 → (w2.cell? ⟨w.heap.size, 0, none⟩ = some (.slice a0 l0 p0) ∧ w2.cell? ⟨w.heap.size, 1, none⟩ = some (.string ⟨mWorld.query.toArray⟩) ∧ w2.cell? ⟨w.heap.size, 2, none⟩ = some (.string ⟨mWorld.mutation.toArray⟩)) ∧ w.heap.size < w2.heap.size) := by
  intro M2 w2 hq2
  obtain ⟨hS, _, hs⟩ := hSD.out M2 w2 hq2
  refine ⟨⟨?_, ?_, ?_⟩, by omega⟩ <;> (rw [cell_of_row w2 _ _ _ _ _ hS]; rfl)
 have fin : Hid (∀ (M2 : Mem) (w2 : World) (v0 v1 v2 v5 v6 v9 v10 v11 v12 v13 v14 v15 v16 v17 v18 v19 v20 v21 v22 v23 v24 v25 v26 v27 v28 v29 v30 v31 v32 v33 v34 v35 v36 v37 v38 v39 v40 v41 v42 v43 v44 v45 v46 v47 v48 v49 v50 v51 v52 v53 v54 v55 v56 v57 v58 v59 v60 v61 v62 v63 v64 v65 v66 v67 v68 v69 v70 v71 v72 v73 v74 v75 v76 v77 v78 v79 v80 v81 v82 v83 v84 v85 v86 v87 v88 v89 v90 v91 v92 v93 v94 v95 v96 v97 v98 v99 : Value), Cons M2 w2 → Quiet M ((w.alloc (.cells #[.slice a0 l0 p0, .string ⟨mWorld.query.toArray⟩, .string ⟨mWorld.mutation.toArray⟩] 24)).alloc (.cells #[.slice oo ol oc, .slice fa 0 fc] 28)) M2 w2 → ∀ (ka : Nat), ka = w2.heap.size + 1 + 1 + 1 → C.wp Try.prog Q ⟨#[v0, v1, v2, .pointer (some ⟨w.heap.size, 0, none⟩), .pointer (some ⟨w.heap.size + 1, 0, none⟩), v5, v6, .pointer (some ⟨ka, 0, none⟩), .slice none 0 0, v9, v10, v11, v12, v13, v14, v15, v16, v17, v18, v19, v20, v21, v22, v23, v24, v25, v26, v27, v28, v29, v30, v31, v32, v33, v34, v35, v36, v37, v38, v39, v40, v41, v42, v43, v44, v45, v46, v47, v48, v49, v50, v51, v52, v53, v54, v55, v56, v57, v58, v59, v60, v61, v62, v63, v64, v65, v66, v67, v68, v69, v70, v71, v72, v73, v74, v75, v76, v77, v78, v79, v80, v81, v82, v83, v84, v85, v86, v87, v88, v89, v90, v91, v92, v93, v94, v95, v96, v97, v98, v99], []⟩ ((((w2.alloc (.map #[] 0)).alloc (.map #[] 0)).alloc (.map #[] 0)).alloc (.cells #[.slice a0 l0 p0, .string ⟨mWorld.query.toArray⟩, .string ⟨mWorld.mutation.toArray⟩, .int .i64 0, .map (some w2.heap.size), .map (some (w2.heap.size + 1)), .map (some (w2.heap.size + 1 + 1))] 132))) := by
  intro M2 w2 v0 v1 v2 v5 v6 v9 v10 v11 v12 v13 v14 v15 v16 v17 v18 v19 v20 v21 v22 v23 v24 v25 v26 v27 v28 v29 v30 v31 v32 v33 v34 v35 v36 v37 v38 v39 v40 v41 v42 v43 v44 v45 v46 v47 v48 v49 v50 v51 v52 v53 v54 v55 v56 v57 v58 v59 v60 v61 v62 v63 v64 v65 v66 v67 v68 v69 v70 v71 v72 v73 v74 v75 v76 v77 v78 v79 v80 v81 v82 v83 v84 v85 v86 v87 v88 v89 v90 v91 v92 v93 v94 v95 v96 v97 v98 v99 hc2 hq2 ka hka
  obtain ⟨hS, hD, hs⟩ := hSD.out M2 w2 hq2
  obtain ⟨w3, hw3⟩ : ∃ w3, w3 = (((w2.alloc (.map #[] 0)).alloc (.map #[] 0)).alloc (.map #[] 0)).alloc (.cells #[.slice a0 l0 p0, .string ⟨mWorld.query.toArray⟩, .string ⟨mWorld.mutation.toArray⟩, .int .i64 0, .map (some w2.heap.size), .map (some (w2.heap.size + 1)), .map (some (w2.heap.size + 1 + 1))] 132) := ⟨_, rfl⟩
  have hb23 : Below w2.heap.size w2 w3 := by rw [hw3]; exact ((((Below.refl _ _).alloc (Nat.le_refl _) _).alloc (by simp) _).alloc (by simp; omega) _).alloc (by simp; omega) _
  have hz : ∀ (x : World) (o : Obj), (x.alloc o).heap.size = x.heap.size + 1 := fun x o => by simp
  have hrow : w3.heap[ka]? = some (.cells #[.slice a0 l0 p0, .string ⟨mWorld.query.toArray⟩, .string ⟨mWorld.mutation.toArray⟩, .int .i64 0, .map (some w2.heap.size), .map (some (w2.heap.size + 1)), .map (some (w2.heap.size + 1 + 1))] 132 (0, 0)) := by
   have := heap_alloc_new (((w2.alloc (.map #[] 0)).alloc (.map #[] 0)).alloc (.map #[] 0)) (.cells #[.slice a0 l0 p0, .string ⟨mWorld.query.toArray⟩, .string ⟨mWorld.mutation.toArray⟩, .int .i64 0, .map (some w2.heap.size), .map (some (w2.heap.size + 1)), .map (some (w2.heap.size + 1 + 1))] 132)
   rw [hz, hz, hz] at this
   rw [hw3, hka]; exact this
  have hsb : NoPairs w3 (w2.heap.size + 1) := by
   have h1 := noPairs_made (w2.alloc (.map #[] 0))
   rw [hz] at h1
   rw [hw3]
   exact (h1.congr (heap_alloc_old _ _ (by rw [hz, hz]; omega))).congr (heap_alloc_old _ _ (by rw [hz, hz, hz]; omega))
  have hpb : NoPairs w3 (w2.heap.size + 1 + 1) := by
   have h1 := noPairs_made ((w2.alloc (.map #[] 0)).alloc (.map #[] 0))
   rw [hz, hz] at h1
   rw [hw3]
   exact h1.congr (heap_alloc_old _ _ (by rw [hz, hz, hz]; omega))
  have hc3 := cons_below' hc2 hb23
  rw [← hw3]
  refine hC ka (w2.heap.size + 1) (w2.heap.size + 1 + 1) (.map (some w2.heap.size)) M2 w3 v0 v1 v2 v5 v6 v9 v10 v11 v12 v13 v14 v15 v16 v17 v18 v19 v20 v21 v22 v23 v24 v25 v26 v27 v28 v29 v30 v31 v32 v33 v34 v35 v36 v37 v38 v39 v40 v41 v42 v43 v44 v45 v46 v47 v48 v49 v50 v51 v52 v53 v54 v55 v56 v57 v58 v59 v60 v61 v62 v63 v64 v65 v66 v67 v68 v69 v70 v71 v72 v73 v74 v75 v76 v77 v78 v79 v80 v81 v82 v83 v84 v85 v86 v87 v88 v89 v90 v91 v92 v93 v94 v95 v96 v97 v98 v99 ⟨⟨hc3, hrow, hr.mono hq2.mem (fun _ _ _ h => h)⟩, hsb, hpb, ⟨by omega, by omega, by omega⟩, ⟨by omega, by omega, by omega⟩, (((But.below hc hb1 []).trans (But.quiet hc2 hq2 [])).trans (But.below hc2 hb23 [])), (hb23.block _ (by omega)).trans hS, (hb23.block _ (by omega)).trans hD, fun _ i => cons_free hc2 (by omega) i⟩
 unfold hd55 tl55
 simp only [Try.f55, dropSeq, fstC]
 go_wp2_with (go_at_call 79; refine hloop.mono ?_; rintro e' w2 ⟨M2, rfl, hc2, hq2⟩; obtain ⟨⟨s0, s1, s2⟩, hl0⟩ := hF.out M2 w2 hq2)
 exact fin.out M2 w2 _ _ _ _ _ _ _ _ _ _ _ _ _ _ _ _ _ _ _ _ _ _ _ _ _ _ _ _ _ _ _ _ _ _ _ _ _ _ _ _ _ _ _ _ _ _ _ _ _ _ _ _ _ _ _ _ _ _ _ _ _ _ _ _ _ _ _ _ _ _ _ _ _ _ _ _ _ _ _ _ _ _ _ _ _ _ _ _ _ _ _ _ _ _ _ _ hc2 hq2 _ rfl
set_option maxHeartbeats 32000000 in
set_option maxRecDepth 100000 in
theorem ru4 {M : Mem} {w : World} {a0 : Option Addr} {l0 p0 : Nat} {oo : Option Addr} {ol oc : Nat} {fa : Option Addr} {fc : Nat} {ka sb pb : Nat} {no : Int} {fm : Value} {M2 : Mem} {w3 : World} (h : RuSt M w a0 l0 p0 oo ol oc fa fc ka sb pb no fm M2 w3) (C : Code) (Q : Exit → Act → World → Prop) (hC : ∀ (v0 v1 v2 v5 v6 v9 v10 v11 v12 v13 v14 v15 v16 v17 v18 v19 v20 v21 v22 v23 v24 v25 v26 v27 v28 v29 v30 v31 v32 v33 v34 v35 v36 v37 v38 v39 v40 v41 v42 v43 v44 v45 v46 v47 v48 v49 v50 v51 v52 v53 v54 v55 v56 v57 v58 v59 v60 v61 v62 v63 v64 v65 v66 v67 v68 v69 v70 v71 v72 v73 v74 v75 v76 v77 v78 v79 v80 v81 v82 v83 v84 v85 v86 v87 v88 v89 v90 v91 v92 v93 v94 v95 v96 v97 v98 v99 : Value), C.wp Try.prog Q ⟨#[v0, v1, v2, .pointer (some ⟨w.heap.size, 0, none⟩), .pointer (some ⟨w.heap.size + 1, 0, none⟩), v5, v6, .pointer (some ⟨ka, 0, none⟩), .slice none 0 0, v9, v10, v11, v12, v13, v14, v15, v16, v17, v18, v19, v20, v21, v22, v23, v24, v25, v26, v27, v28, v29, v30, v31, v32, v33, v34, v35, v36, v37, v38, v39, v40, v41, v42, v43, v44, v45, v46, v47, v48, v49, v50, v51, v52, v53, v54, v55, v56, v57, v58, v59, v60, v61, v62, v63, v64, v65, v66, v67, v68, v69, v70, v71, v72, v73, v74, v75, v76, v77, v78, v79, v80, v81, v82, v83, v84, v85, v86, v87, v88, v89, v90, v91, v92, v93, v94, v95, v96, v97, v98, v99], []⟩ w3) (v0 v1 v2 v5 v6 v9 v10 v11 v12 v13 v14 v15 v16 v17 v18 v19 v20 v21 v22 v23 v24 v25 v26 v27 v28 v29 v30 v31 v32 v33 v34 v35 v36 v37 v38 v39 v40 v41 v42 v43 v44 v45 v46 v47 v48 v49 v50 v51 v52 v53 v54 v55 v56 v57 v58 v59 v60 v61 v62 v63 v64 v65 v66 v67 v68 v69 v70 v71 v72 v73 v74 v75 v76 v77 v78 v79 v80 v81 v82 v83 v84 v85 v86 v87 v88 v89 v90 v91 v92 v93 v94 v95 v96 v97 v98 v99 : Value) :
  Code.wp Try.prog (.seq (hd55 4) C) Q ⟨#[v0, v1, v2, .pointer (some ⟨w.heap.size, 0, none⟩), .pointer (some ⟨w.heap.size + 1, 0, none⟩), v5, v6, .pointer (some ⟨ka, 0, none⟩), .slice none 0 0, v9, v10, v11, v12, v13, v14, v15, v16, v17, v18, v19, v20, v21, v22, v23, v24, v25, v26, v27, v28, v29, v30, v31, v32, v33, v34, v35, v36, v37, v38, v39, v40, v41, v42, v43, v44, v45, v46, v47, v48, v49, v50, v51, v52, v53, v54, v55, v56, v57, v58, v59, v60, v61, v62, v63, v64, v65, v66, v67, v68, v69, v70, v71, v72, v73, v74, v75, v76, v77, v78, v79, v80, v81, v82, v83, v84, v85, v86, v87, v88, v89, v90, v91, v92, v93, v94, v95, v96, v97, v98, v99], []⟩ w3 := by
 have d0 : w3.cell? ⟨w.heap.size + 1, 0, none⟩ = some (.slice oo ol oc) := by rw [cell_of_row w3 _ _ _ _ _ h.db]; rfl
 have d1 : w3.cell? ⟨w.heap.size + 1, 1, none⟩ = some (.slice fa 0 fc) := by rw [cell_of_row w3 _ _ _ _ _ h.db]; rfl
 unfold hd55 tl55
 simp only [Try.f55, dropSeq, fstC]
 go_wp2
 refine wp_loop_rounds 1 ?_; rw [rounds_succ]
 go_wp2
 exact hC _ _ _ _ _ _ _ _ _ _ _ _ _ _ _ _ _ _ _ _ _ _ _ _ _ _ _ _ _ _ _ _ _ _ _ _ _ _ _ _ _ _ _ _ _ _ _ _ _ _ _ _ _ _ _ _ _ _ _ _ _ _ _ _ _ _ _ _ _ _ _ _ _ _ _ _ _ _ _ _ _ _ _ _ _ _ _ _ _ _ _ _ _ _ _ _
theorem Try.info134 : (Try.prog.info? 134).map (fun i => (i.zero, i.size, i.bytes)) = some (some (.slice none 0 0), 1, 24) := by kernel_rfl
noncomputable def lp55 : Code := loopC (blkC (sndC (hd55 5)))
noncomputable def r55_16 : Code := sndC (blkC (fstC (sndC (sndC lp55))))
set_option maxHeartbeats 32000000 in
set_option maxRecDepth 100000 in
theorem ru16 {M : Mem} {w : World} {a0 : Option Addr} {l0 p0 : Nat} {oo : Option Addr} {ol oc : Nat} {fa : Option Addr} {fc : Nat} {ka sb pb : Nat} {no : Int} {fm : Value} {M2 : Mem} {w3 : World} (h : RuSt M w a0 l0 p0 oo ol oc fa fc ka sb pb 0 fm M2 w3) (n : Str) (hn : n = [98] ∨ n = [99]) (ob : Nat) (o2a : Option Addr) (o2p : Nat) (o3a : Option Addr) (o3p : Nat) (c4a : Option Addr) (c4l c4p : Nat) (hob : w.heap.size + 1 < ob)
  (hO : w3.heap[ob]? = some (.cells #[.int .i64 0, .string ⟨#[]⟩, .slice o2a 0 o2p, .slice o3a 0 o3p, .slice c4a c4l c4p] 106 (0, 0)))
  (r2 : Rv M2 noB (.slice [] [] false) (.slice o2a 0 o2p)) (r3 : Rv M2 noB (.slice [] [] false) (.slice o3a 0 o3p)) (r4 : Rv M2 noB (.slice (List.map encSel [leafS [98], leafS n]) [] false) (.slice c4a c4l c4p)) (x72 x73 x74 : Value)
  (Q : Exit → Act → World → Prop) (hQ : ∀ (M6 : Mem) (w6 : World) (lg lcap : Nat) (v0 v1 v2 v5 v6 v9 v10 v11 v12 v13 v14 v15 v16 v17 v18 v19 v20 v21 v22 v23 v24 v25 v26 v27 v28 v29 v30 v31 v32 v33 v34 v35 v36 v37 v38 v39 v40 v41 v42 v43 v44 v45 v46 v47 v48 v49 v50 v51 v52 v53 v54 v55 v56 v57 v58 v59 v60 v61 v62 v63 v64 v65 v66 v67 v68 v69 v70 v71 v75 v76 v77 v78 v79 v80 v81 v82 v83 v84 v85 v86 v87 v88 v89 v90 v91 v92 v93 v94 v95 v96 v97 v98 v99 : Value), RuSt M w a0 l0 p0 oo ol oc fa fc ka sb pb 2 fm M6 w6 → (∃ (g cap : Nat) (a3 : Option Addr) (ap3 : Nat) (a4 : Option Addr) (ap4 : Nat) (a6 : Option Addr) (ap6 : Nat) (b3 : Option Addr) (bp3 : Nat) (b4 : Option Addr) (bp4 : Nat) (b6 : Option Addr) (bp6 : Nat), w6.cell? ⟨lg, 0, none⟩ = some (.slice (some ⟨g, 0, none⟩) 2 cap) ∧ CellsAt w6 g 0 [.int .i64 1, .int .i64 0, .string ⟨#[97]⟩, .string ⟨List.toArray [98]⟩, .slice a3 0 ap3, .slice a4 0 ap4, .string ⟨#[]⟩, .slice a6 0 ap6, .string ⟨#[81]⟩, .slice none 0 0] ∧ CellsAt w6 g 10 [.int .i64 2, .int .i64 0, .string ⟨#[97]⟩, .string ⟨List.toArray n⟩, .slice b3 0 bp3, .slice b4 0 bp4, .string ⟨#[]⟩, .slice b6 0 bp6, .string ⟨#[81]⟩, .slice none 0 0]) → Q .normal ⟨#[v0, v1, v2, .pointer (some ⟨w.heap.size, 0, none⟩), .pointer (some ⟨w.heap.size + 1, 0, none⟩), v5, v6, .pointer (some ⟨ka, 0, none⟩), .slice (some ⟨lg, 0, none⟩) 1 lcap, v9, v10, v11, v12, v13, v14, v15, v16, v17, v18, v19, v20, v21, v22, v23, v24, v25, v26, v27, v28, v29, v30, v31, v32, v33, v34, v35, v36, v37, v38, v39, v40, v41, v42, v43, v44, v45, v46, v47, v48, v49, v50, v51, v52, v53, v54, v55, v56, v57, v58, v59, v60, v61, v62, v63, v64, v65, v66, v67, v68, v69, v70, v71, x72, x73, x74, v75, v76, v77, v78, v79, v80, v81, v82, v83, v84, v85, v86, v87, v88, v89, v90, v91, v92, v93, v94, v95, v96, v97, v98, v99], []⟩ w6) (v0 v1 v2 v5 v6 v9 v10 v11 v12 v13 v15 v16 v17 v18 v19 v20 v21 v22 v23 v24 v25 v26 v27 v28 v29 v30 v31 v32 v33 v34 v35 v36 v37 v38 v39 v40 v41 v42 v43 v44 v45 v46 v47 v48 v49 v50 v51 v52 v53 v54 v55 v56 v57 v58 v59 v60 v61 v62 v63 v64 v65 v66 v67 v68 v69 v70 v71 v75 v76 v77 v78 v79 v80 v81 v82 v83 v84 v85 v86 v87 v88 v89 v90 v91 v92 v93 v94 v95 v96 v97 v98 v99 : Value) :
  Code.wp Try.prog r55_16 Q ⟨#[v0, v1, v2, .pointer (some ⟨w.heap.size, 0, none⟩), .pointer (some ⟨w.heap.size + 1, 0, none⟩), v5, v6, .pointer (some ⟨ka, 0, none⟩), .slice none 0 0, v9, v10, v11, v12, v13, .pointer (some ⟨ob, 0, none⟩), v15, v16, v17, v18, v19, v20, v21, v22, v23, v24, v25, v26, v27, v28, v29, v30, v31, v32, v33, v34, v35, v36, v37, v38, v39, v40, v41, v42, v43, v44, v45, v46, v47, v48, v49, v50, v51, v52, v53, v54, v55, v56, v57, v58, v59, v60, v61, v62, v63, v64, v65, v66, v67, v68, v69, v70, v71, x72, x73, x74, v75, v76, v77, v78, v79, v80, v81, v82, v83, v84, v85, v86, v87, v88, v89, v90, v91, v92, v93, v94, v95, v96, v97, v98, v99], []⟩ w3 := by
 obtain ⟨i0, hi, hz0, hz1, hz2⟩ := info_parts Try.info134
 have hobl : ob < w3.heap.size := (Array.getElem?_eq_some_iff.1 hO).1
 have s0 : w3.cell? ⟨w.heap.size, 0, none⟩ = some (.slice a0 l0 p0) := by rw [cell_of_row w3 _ _ _ _ _ h.sb3]; rfl
 have s1 : w3.cell? ⟨w.heap.size, 1, none⟩ = some (.string ⟨mWorld.query.toArray⟩) := by rw [cell_of_row w3 _ _ _ _ _ h.sb3]; rfl
 have s2 : w3.cell? ⟨w.heap.size, 2, none⟩ = some (.string ⟨mWorld.mutation.toArray⟩) := by rw [cell_of_row w3 _ _ _ _ _ h.sb3]; rfl
 have o0 : w3.cell? ⟨ob, 0, none⟩ = some (.int .i64 0) := by rw [cell_of_row w3 _ _ _ _ _ hO]; rfl
 have o1 : w3.cell? ⟨ob, 1, none⟩ = some (.string ⟨#[]⟩) := by rw [cell_of_row w3 _ _ _ _ _ hO]; rfl
 have o2 : w3.cell? ⟨ob, 2, none⟩ = some (.slice o2a 0 o2p) := by rw [cell_of_row w3 _ _ _ _ _ hO]; rfl
 have o3 : w3.cell? ⟨ob, 3, none⟩ = some (.slice o3a 0 o3p) := by rw [cell_of_row w3 _ _ _ _ _ hO]; rfl
 have o4 : w3.cell? ⟨ob, 4, none⟩ = some (.slice c4a c4l c4p) := by rw [cell_of_row w3 _ _ _ _ _ hO]; rfl
 have hcd : Cons M2 w3.drew := cons_below' h.k.cons ((Below.refl w3.heap.size w3).drew)
 have hkd : KAt M2 w3.drew ka sb pb a0 l0 p0 0 fm := h.k.but (But.below h.k.cons ((Below.refl w3.heap.size w3).drew) []) (by simp)
 have hroot : Calls Try.prog 81 #[.agg #[.slice a0 l0 p0, .string ⟨mWorld.query.toArray⟩, .string ⟨mWorld.mutation.toArray⟩], .agg #[.int .i64 0, .string ⟨#[]⟩, .slice o2a 0 o2p, .slice o3a 0 o3p, .slice c4a c4l c4p]] w3.drew fun e w' => ∃ v, e = .returned v ∧ ∃ M', v = .string ⟨#[81]⟩ ∧ Cons M' w' ∧ Quiet M2 w3.drew M' w' :=
  (root_call n _ _ _ _ _ _ hcd h.k.rs r2 r3 r4).mono (by rintro e w' ⟨M', rfl, h1, h2⟩; exact ⟨_, rfl, M', rfl, h1, h2⟩)
 have hAll : Hid (∀ (M5 : Mem) (w5 : World), Cons M5 w5 → Quiet M2 w3.drew M5 w5 → w5.cell? ⟨ob, 4, none⟩ = some (.slice c4a c4l c4p) ∧ Calls Try.prog 80 #[.pointer (some ⟨ka, 0, none⟩), .string ⟨#[81]⟩, .slice c4a c4l c4p] w5 fun e w' => ∃ v, e = .returned v ∧ ∃ g cap M' a3 ap3 a4 ap4 a6 ap6 b3 bp3 b4 bp4 b6 bp6, v = .slice (some ⟨g, 0, none⟩) 2 cap ∧ CellsAt w' g 0 [.int .i64 1, .int .i64 0, .string ⟨#[97]⟩, .string ⟨List.toArray [98]⟩, .slice a3 0 ap3, .slice a4 0 ap4, .string ⟨#[]⟩, .slice a6 0 ap6, .string ⟨#[81]⟩, .slice none 0 0] ∧ CellsAt w' g 10 [.int .i64 2, .int .i64 0, .string ⟨#[97]⟩, .string ⟨List.toArray n⟩, .slice b3 0 bp3, .slice b4 0 bp4, .string ⟨#[]⟩, .slice b6 0 bp6, .string ⟨#[81]⟩, .slice none 0 0] ∧ KAt M' w' ka sb pb a0 l0 p0 2 fm ∧ But M5 w5 [ka] M' w') := by
  intro M5 w5 hc5 hq5
  refine ⟨by rw [cell_of_row w5 _ _ _ _ _ ((hq5.old ob hobl).1.trans hO)]; rfl, ?_⟩
  have hk5 := hkd.but (But.quiet hc5 hq5 []) (by simp)
  have hkl : ka < w3.heap.size := (Array.getElem?_eq_some_iff.1 h.k.row).1
  exact (items_two hk5 (fun i => ((hq5.old ka hkl).2 i).trans (h.fk rfl i)) [98] n (.inl rfl) hn _ (r4.mono hq5.mem (fun _ _ _ h => h))).mono (by
   rintro e w' ⟨g, cap, M', a3, ap3, a4, ap4, a6, ap6, b3, bp3, b4, bp4, b6, bp6, rfl, hh⟩
   exact ⟨_, rfl, g, cap, M', a3, ap3, a4, ap4, a6, ap6, b3, bp3, b4, bp4, b6, bp6, rfl, hh⟩)
 have hB8 : Hid (∀ (M5 : Mem) (w5 : World), Quiet M2 w3.drew M5 w5 → ∀ (M8 : Mem) (w8 : World), But M5 w5 [ka] M8 w8 → ∀ o : Obj, w.heap.size ≤ (w8.alloc o).heap.size) := by
  intro M5 w5 hq5 M8 w8 hb8 o
  have e : w3.drew.heap.size = w3.heap.size := rfl
  have h1 := h.but.size
  have h2 := hq5.size
  have h3 := hb8.size
  have h4 : (w8.alloc o).heap.size = w8.heap.size + 1 := by simp
  omega
 have hfin : Hid (∀ (M5 : Mem) (w5 : World) (M8 : Mem) (w8 w6 : World) (g cap lg lcap : Nat) (a3 : Option Addr) (ap3 : Nat) (a4 : Option Addr) (ap4 : Nat) (a6 : Option Addr) (ap6 : Nat) (b3 : Option Addr) (bp3 : Nat) (b4 : Option Addr) (bp4 : Nat) (b6 : Option Addr) (bp6 : Nat) (v0 v1 v2 v5 v6 v9 v10 v11 v12 v13 v14 v15 v16 v17 v18 v19 v20 v21 v22 v23 v24 v25 v26 v27 v28 v29 v30 v31 v32 v33 v34 v35 v36 v37 v38 v39 v40 v41 v42 v43 v44 v45 v46 v47 v48 v49 v50 v51 v52 v53 v54 v55 v56 v57 v58 v59 v60 v61 v62 v63 v64 v65 v66 v67 v68 v69 v70 v71 v75 v76 v77 v78 v79 v80 v81 v82 v83 v84 v85 v86 v87 v88 v89 v90 v91 v92 v93 v94 v95 v96 v97 v98 v99 : Value), Cons M5 w5 → Quiet M2 w3.drew M5 w5 → CellsAt w8 g 0 [.int .i64 1, .int .i64 0, .string ⟨#[97]⟩, .string ⟨List.toArray [98]⟩, .slice a3 0 ap3, .slice a4 0 ap4, .string ⟨#[]⟩, .slice a6 0 ap6, .string ⟨#[81]⟩, .slice none 0 0] → CellsAt w8 g 10 [.int .i64 2, .int .i64 0, .string ⟨#[97]⟩, .string ⟨List.toArray n⟩, .slice b3 0 bp3, .slice b4 0 bp4, .string ⟨#[]⟩, .slice b6 0 bp6, .string ⟨#[81]⟩, .slice none 0 0] → KAt M8 w8 ka sb pb a0 l0 p0 2 fm → But M5 w5 [ka] M8 w8 → w6.ownsRow w.heap.size 134 1 (.slice (some ⟨lg, 0, none⟩) 1 lcap) 1 ([] ++ [.slice (some ⟨g, 0, none⟩) 2 cap]) → (w8.alloc (.cells #[.slice (some ⟨g, 0, none⟩) 2 cap] 134)).grownBy w6 (Value.slice none 0 0).ownBlock → ((Value.slice none 0 0).ownBlock = some lg ∨ lg = (w8.alloc (.cells #[.slice (some ⟨g, 0, none⟩) 2 cap] 134)).heap.size) → Q .normal ⟨#[v0, v1, v2, .pointer (some ⟨w.heap.size, 0, none⟩), .pointer (some ⟨w.heap.size + 1, 0, none⟩), v5, v6, .pointer (some ⟨ka, 0, none⟩), .slice (some ⟨lg, 0, none⟩) 1 lcap, v9, v10, v11, v12, v13, v14, v15, v16, v17, v18, v19, v20, v21, v22, v23, v24, v25, v26, v27, v28, v29, v30, v31, v32, v33, v34, v35, v36, v37, v38, v39, v40, v41, v42, v43, v44, v45, v46, v47, v48, v49, v50, v51, v52, v53, v54, v55, v56, v57, v58, v59, v60, v61, v62, v63, v64, v65, v66, v67, v68, v69, v70, v71, x72, x73, x74, v75, v76, v77, v78, v79, v80, v81, v82, v83, v84, v85, v86, v87, v88, v89, v90, v91, v92, v93, v94, v95, v96, v97, v98, v99], []⟩ w6) := by
  intro M5 w5 M8 w8 w6 g cap lg lcap a3 ap3 a4 ap4 a6 ap6 b3 bp3 b4 bp4 b6 bp6 v0 v1 v2 v5 v6 v9 v10 v11 v12 v13 v14 v15 v16 v17 v18 v19 v20 v21 v22 v23 v24 v25 v26 v27 v28 v29 v30 v31 v32 v33 v34 v35 v36 v37 v38 v39 v40 v41 v42 v43 v44 v45 v46 v47 v48 v49 v50 v51 v52 v53 v54 v55 v56 v57 v58 v59 v60 v61 v62 v63 v64 v65 v66 v67 v68 v69 v70 v71 v75 v76 v77 v78 v79 v80 v81 v82 v83 v84 v85 v86 v87 v88 v89 v90 v91 v92 v93 v94 v95 v96 v97 v98 v99 hc5 hq5 hi0 hi1 hk8 hbut8 hown6 hgrow6 hat6
  have e : w3.drew.heap.size = w3.heap.size := rfl
  have hz : ∀ (x : World) (o : Obj), (x.alloc o).heap.size = x.heap.size + 1 := fun x o => by simp
  have hb86 : Below w8.heap.size w8 w6 := ⟨hgrow6.os, hgrow6.tape, hgrow6.output, by have := hgrow6.size; rw [hz] at this; omega, fun k hk => (hgrow6.block k (by rw [hz]; omega) (by simp [Value.ownBlock])).trans (heap_alloc_old w8 _ hk)⟩
  have B1 := But.below h.k.cons ((Below.refl w3.heap.size w3).drew) []
  have B2 := But.quiet hc5 hq5 []
  have B3 := (B1.trans B2).sub (S' := [ka]) (by simp)
  have B4 := (B3.trans hbut8).trans (But.below hk8.cons hb86 [ka])
  have hkl : ka < w3.heap.size := (Array.getElem?_eq_some_iff.1 h.k.row).1
  have hgl : g < w8.heap.size := World.block_lt_of_cell? w8 _ (hi0 0 _ rfl)
  have l0 := (Array.getElem?_eq_some_iff.1 h.sb3).1
  have l1 := (Array.getElem?_eq_some_iff.1 h.db).1
  have hfk : (2 : Int) = 0 → ∀ i, M8 ka i = none := fun h => by simp at h
  refine hQ M8 w6 lg lcap v0 v1 v2 v5 v6 v9 v10 v11 v12 v13 v14 v15 v16 v17 v18 v19 v20 v21 v22 v23 v24 v25 v26 v27 v28 v29 v30 v31 v32 v33 v34 v35 v36 v37 v38 v39 v40 v41 v42 v43 v44 v45 v46 v47 v48 v49 v50 v51 v52 v53 v54 v55 v56 v57 v58 v59 v60 v61 v62 v63 v64 v65 v66 v67 v68 v69 v70 v71 v75 v76 v77 v78 v79 v80 v81 v82 v83 v84 v85 v86 v87 v88 v89 v90 v91 v92 v93 v94 v95 v96 v97 v98 v99 ⟨hk8.but (But.below hk8.cons hb86 []) (by simp), h.s.but B4 (by simpa using h.ne.2.1.symm), h.p.but B4 (by simpa using h.ne.2.2.symm), h.ne, h.new, ?_, (B4.old _ l0 (by simp; have := h.new.1; omega)).trans h.sb3, (B4.old _ l1 (by simp; have := h.new.1; omega)).trans h.db, hfk⟩ ⟨g, cap, a3, ap3, a4, ap4, a6, ap6, b3, bp3, b4, bp4, b6, bp6, ?_, hi0.congr (hb86.block g hgl), hi1.congr (hb86.block g hgl)⟩
  ·refine ⟨B4.cons, fun b i v hv => B4.mem b i v (h.but.mem b i v hv), fun b hb _ => (B4.old b (Nat.lt_of_lt_of_le hb h.but.size) (by simp; have := h.new.1; omega)).trans (h.but.old b hb (by simp)), Nat.le_trans h.but.size B4.size, B4.os.trans h.but.os, B4.tape.trans h.but.tape, B4.output.trans h.but.output⟩
  ·have := hown6.cells (g := lg) rfl 0 _ rfl
   simpa [Addr.add] using this
 clear hQ
 unfold r55_16 lp55 hd55 tl55
 simp only [Try.f55, sndC, fstC, blkC, loopC, dropSeq]
 refine Code.wp_mono (Q := Exit.then (Q .normal) (fun _ _ _ => False)) (fun e a w h => by cases e <;> first | exact h | exact h.elim) ?_
 go_region_law (first | (show (if Region.wanted { dst := _, op := Op.call { callee := Callee.value (Operand.func 81), args := _, argTypes := _ }, type := _, pos := _, after := _, guard := _ } _ = true then _ else _); go_simp; go_at_call 81; refine hroot.mono ?_; rintro e' w5 ⟨v, rfl, M5, rfl, hc5, hq5⟩; obtain ⟨x4, hcall⟩ := hAll.out M5 w5 hc5 hq5) | (show (if Region.wanted { dst := _, op := Op.call { callee := Callee.value (Operand.func 80), args := _, argTypes := _ }, type := _, pos := _, after := _, guard := _ } _ = true then _ else _); go_simp; go_at_call 80; refine hcall.mono ?_; rintro e' w8 ⟨v, rfl, g, cap, M8, a3', ap3, a4', ap4, a6, ap6, b3, bp3, b4, bp4, b6, bp6, rfl, hi0, hi1, hk8, hbut8⟩; have hb8 := hB8.out M5 w5 hq5 M8 w8 hbut8) | (refine step_append_lies _ rfl (.tmp 78) (.tmp 86) 133 rfl w.heap.size 134 i0 _ 1 24 Try.underlying133 hi hz0 hz1 hz2 rfl (by decide) (.slice none 0 0) 0 [] rfl (World.ownsRow_nil _ _ _ _) ⟨w8.heap.size, 0, none⟩ 1 1 [.slice (some ⟨g, 0, none⟩) 2 cap] rfl rfl (World.news_of_block (cs := #[.slice (some ⟨g, 0, none⟩) 2 cap]) (heap_alloc_new w8 _)) (by intro u hu; simp only [List.mem_cons, List.not_mem_nil, or_false] at hu; subst hu; rfl) (by decide) (by decide) (by decide) (hb8 _) _ rfl ?_; intro lg lcap w6 hown6 hgrow6 hat6 hlt6))
 all_goals exact hfin.out M5 w5 M8 w8 w6 g cap lg lcap a3' ap3 a4' ap4 a6 ap6 b3 bp3 b4 bp4 b6 bp6 _ _ _ _ _ _ _ _ _ _ _ _ _ _ _ _ _ _ _ _ _ _ _ _ _ _ _ _ _ _ _ _ _ _ _ _ _ _ _ _ _ _ _ _ _ _ _ _ _ _ _ _ _ _ _ _ _ _ _ _ _ _ _ _ _ _ _ _ _ _ _ _ _ _ _ _ _ _ _ _ _ _ _ _ _ _ _ _ _ _ _ _ _ hc5 hq5 hi0 hi1 hk8 hbut8 hown6 hgrow6 hat6
theorem RuSt.below {M : Mem} {w : World} {a0 : Option Addr} {l0 p0 : Nat} {oo : Option Addr} {ol oc : Nat} {fa : Option Addr} {fc : Nat} {ka sb pb : Nat} {no : Int} {fm : Value} {M2 : Mem} {w3 : World} (h : RuSt M w a0 l0 p0 oo ol oc fa fc ka sb pb no fm M2 w3) {w4 : World} (hb : Below w3.heap.size w3 w4) : RuSt M w a0 l0 p0 oo ol oc fa fc ka sb pb no fm M2 w4 := by
 have B := But.below h.k.cons hb []
 exact ⟨h.k.but B (by simp), h.s.but B (by simp), h.p.but B (by simp), h.ne, h.new, h.but.trans B, (hb.block _ (Array.getElem?_eq_some_iff.1 h.sb3).1).trans h.sb3, (hb.block _ (Array.getElem?_eq_some_iff.1 h.db).1).trans h.db, h.fk⟩
set_option maxHeartbeats 32000000 in
set_option maxRecDepth 100000 in
theorem ru5 {M : Mem} {w : World} {a0 : Option Addr} {l0 p0 : Nat} {blk off oc : Nat} {fa : Option Addr} {fc : Nat} {ka sb pb : Nat} {no : Int} {fm : Value} {M2 : Mem} {w3 : World} (h : RuSt M w a0 l0 p0 (some ⟨blk, off, none⟩) 1 oc fa fc ka sb pb 0 fm M2 w3) (n : Str) (hn : n = [98] ∨ n = [99]) (o2a : Option Addr) (o2p : Nat) (o3a : Option Addr) (o3p : Nat) (c4a : Option Addr) (c4l c4p : Nat)
  (hm : ∀ (j : Nat) (v : Value), ([.int .i64 0, .string ⟨#[]⟩, .slice o2a 0 o2p, .slice o3a 0 o3p, .slice c4a c4l c4p] : List Value)[j]? = some v → M2 blk (off + j) = some v)
  (r2 : Rv M2 noB (.slice [] [] false) (.slice o2a 0 o2p)) (r3 : Rv M2 noB (.slice [] [] false) (.slice o3a 0 o3p)) (r4 : Rv M2 noB (.slice (List.map encSel [leafS [98], leafS n]) [] false) (.slice c4a c4l c4p))
  (C : Code) (Q : Exit → Act → World → Prop) (hC : ∀ (M6 : Mem) (w6 : World) (lg lcap : Nat) (v0 v1 v2 v5 v6 v9 v10 v11 v12 v13 v14 v15 v16 v17 v18 v19 v20 v21 v22 v23 v24 v25 v26 v27 v28 v29 v30 v31 v32 v33 v34 v35 v36 v37 v38 v39 v40 v41 v42 v43 v44 v45 v46 v47 v48 v49 v50 v51 v52 v53 v54 v55 v56 v57 v58 v59 v60 v61 v62 v63 v64 v65 v66 v67 v68 v69 v70 v71 v72 v73 v74 v75 v76 v77 v78 v79 v80 v81 v82 v83 v84 v85 v86 v87 v88 v89 v90 v91 v92 v93 v94 v95 v96 v97 v98 v99 : Value), RuSt M w a0 l0 p0 (some ⟨blk, off, none⟩) 1 oc fa fc ka sb pb 2 fm M6 w6 → (∃ (g cap : Nat) (a3 : Option Addr) (ap3 : Nat) (a4 : Option Addr) (ap4 : Nat) (a6 : Option Addr) (ap6 : Nat) (b3 : Option Addr) (bp3 : Nat) (b4 : Option Addr) (bp4 : Nat) (b6 : Option Addr) (bp6 : Nat), w6.cell? ⟨lg, 0, none⟩ = some (.slice (some ⟨g, 0, none⟩) 2 cap) ∧ CellsAt w6 g 0 [.int .i64 1, .int .i64 0, .string ⟨#[97]⟩, .string ⟨List.toArray [98]⟩, .slice a3 0 ap3, .slice a4 0 ap4, .string ⟨#[]⟩, .slice a6 0 ap6, .string ⟨#[81]⟩, .slice none 0 0] ∧ CellsAt w6 g 10 [.int .i64 2, .int .i64 0, .string ⟨#[97]⟩, .string ⟨List.toArray n⟩, .slice b3 0 bp3, .slice b4 0 bp4, .string ⟨#[]⟩, .slice b6 0 bp6, .string ⟨#[81]⟩, .slice none 0 0]) → C.wp Try.prog Q ⟨#[v0, v1, v2, .pointer (some ⟨w.heap.size, 0, none⟩), .pointer (some ⟨w.heap.size + 1, 0, none⟩), v5, v6, .pointer (some ⟨ka, 0, none⟩), .slice (some ⟨lg, 0, none⟩) 1 lcap, v9, v10, v11, v12, v13, v14, v15, v16, v17, v18, v19, v20, v21, v22, v23, v24, v25, v26, v27, v28, v29, v30, v31, v32, v33, v34, v35, v36, v37, v38, v39, v40, v41, v42, v43, v44, v45, v46, v47, v48, v49, v50, v51, v52, v53, v54, v55, v56, v57, v58, v59, v60, v61, v62, v63, v64, v65, v66, v67, v68, v69, v70, v71, v72, v73, v74, v75, v76, v77, v78, v79, v80, v81, v82, v83, v84, v85, v86, v87, v88, v89, v90, v91, v92, v93, v94, v95, v96, v97, v98, v99], []⟩ w6) (v0 v1 v2 v5 v6 v9 v10 v11 v12 v13 v14 v15 v16 v17 v18 v19 v20 v21 v22 v23 v24 v25 v26 v27 v28 v29 v30 v31 v32 v33 v34 v35 v36 v37 v38 v39 v40 v41 v42 v43 v44 v45 v46 v47 v48 v49 v50 v51 v52 v53 v54 v55 v56 v57 v58 v59 v60 v61 v62 v63 v64 v65 v66 v67 v68 v69 v70 v71 v72 v73 v74 v75 v76 v77 v78 v79 v80 v81 v82 v83 v84 v85 v86 v87 v88 v89 v90 v91 v92 v93 v94 v95 v96 v97 v98 v99 : Value) :
  Code.wp Try.prog (.seq (hd55 5) C) Q ⟨#[v0, v1, v2, .pointer (some ⟨w.heap.size, 0, none⟩), .pointer (some ⟨w.heap.size + 1, 0, none⟩), v5, v6, .pointer (some ⟨ka, 0, none⟩), .slice none 0 0, v9, v10, v11, v12, v13, v14, v15, v16, v17, v18, v19, v20, v21, v22, v23, v24, v25, v26, v27, v28, v29, v30, v31, v32, v33, v34, v35, v36, v37, v38, v39, v40, v41, v42, v43, v44, v45, v46, v47, v48, v49, v50, v51, v52, v53, v54, v55, v56, v57, v58, v59, v60, v61, v62, v63, v64, v65, v66, v67, v68, v69, v70, v71, v72, v73, v74, v75, v76, v77, v78, v79, v80, v81, v82, v83, v84, v85, v86, v87, v88, v89, v90, v91, v92, v93, v94, v95, v96, v97, v98, v99], []⟩ w3 := by
 have d0 : w3.cell? ⟨w.heap.size + 1, 0, none⟩ = some (.slice (some ⟨blk, off, none⟩) 1 oc) := by rw [cell_of_row w3 _ _ _ _ _ h.db]; rfl
 have o0 := cell_of_mem h.k.cons (hm 0 _ rfl)
 have o1 := cell_of_mem h.k.cons (hm 1 _ rfl)
 have o2 := cell_of_mem h.k.cons (hm 2 _ rfl)
 have o3 := cell_of_mem h.k.cons (hm 3 _ rfl)
 have o4 := cell_of_mem h.k.cons (hm 4 _ rfl)
 rw [Nat.add_zero] at o0
 have hlb : blk < w3.heap.size := World.block_lt_of_cell? w3 _ o0
 have hal : Below w3.heap.size w3 (w3.alloc (.cells #[.int .i64 0, .string ⟨#[]⟩, .slice o2a 0 o2p, .slice o3a 0 o3p, .slice c4a c4l c4p] 106)) := (Below.refl _ _).alloc (Nat.le_refl _) _
 have h4 := h.below hal
 have hO := heap_alloc_new w3 (.cells #[.int .i64 0, .string ⟨#[]⟩, .slice o2a 0 o2p, .slice o3a 0 o3p, .slice c4a c4l c4p] 106)
 unfold hd55 tl55
 simp only [Try.f55, dropSeq, fstC]
 go_wp2
 refine wp_loop_rounds 2 ?_; rw [rounds_succ]
 go_wp2
 refine ru16 (no := 0) h4 n hn w3.heap.size o2a o2p o3a o3p c4a c4l c4p (by have := h.but.size; have := (Array.getElem?_eq_some_iff.1 h.db).1; omega) hO r2 r3 r4 _ _ _ _ ?_ _ _ _ _ _ _ _ _ _ _ _ _ _ _ _ _ _ _ _ _ _ _ _ _ _ _ _ _ _ _ _ _ _ _ _ _ _ _ _ _ _ _ _ _ _ _ _ _ _ _ _ _ _ _ _ _ _ _ _ _ _ _ _ _ _ _ _ _ _ _ _ _ _ _ _ _ _ _ _ _ _ _ _ _ _ _ _ _ _ _ _ _
 intro M6 w6 lg lcap z0 z1 z2 z3 z4 z5 z6 z7 z8 z9 z10 z11 z12 z13 z14 z15 z16 z17 z18 z19 z20 z21 z22 z23 z24 z25 z26 z27 z28 z29 z30 z31 z32 z33 z34 z35 z36 z37 z38 z39 z40 z41 z42 z43 z44 z45 z46 z47 z48 z49 z50 z51 z52 z53 z54 z55 z56 z57 z58 z59 z60 z61 z62 z63 z64 z65 z66 z67 z68 z69 z70 z71 z72 z73 z74 z75 z76 z77 z78 z79 z80 z81 z82 z83 z84 z85 z86 z87 z88 z89 z90 z91 z92 h6 hres
 go_wp2
 rw [rounds_succ]
 go_wp2
 exact hC M6 w6 lg lcap _ _ _ _ _ _ _ _ _ _ _ _ _ _ _ _ _ _ _ _ _ _ _ _ _ _ _ _ _ _ _ _ _ _ _ _ _ _ _ _ _ _ _ _ _ _ _ _ _ _ _ _ _ _ _ _ _ _ _ _ _ _ _ _ _ _ _ _ _ _ _ _ _ _ _ _ _ _ _ _ _ _ _ _ _ _ _ _ _ _ _ _ _ _ _ _ h6 hres
set_option maxHeartbeats 32000000 in
set_option maxRecDepth 100000 in
theorem ru6e {M : Mem} {w : World} {a0 : Option Addr} {l0 p0 : Nat} {oo : Option Addr} {ol oc : Nat} {fa : Option Addr} {fc : Nat} {ka sb pb : Nat} {no : Int} {fm : Value} {M2 : Mem} {w3 : World} (h : RuSt M w a0 l0 p0 oo ol oc fa fc ka sb pb no fm M2 w3) (lg lcap : Nat) (hres : (∃ (g cap : Nat) (a3 : Option Addr) (ap3 : Nat) (a4 : Option Addr) (ap4 : Nat) (a6 : Option Addr) (ap6 : Nat) (b3 : Option Addr) (bp3 : Nat) (b4 : Option Addr) (bp4 : Nat) (b6 : Option Addr) (bp6 : Nat), w3.cell? ⟨lg, 0, none⟩ = some (.slice (some ⟨g, 0, none⟩) 2 cap) ∧ CellsAt w3 g 0 [.int .i64 1, .int .i64 0, .string ⟨#[97]⟩, .string ⟨List.toArray [98]⟩, .slice a3 0 ap3, .slice a4 0 ap4, .string ⟨#[]⟩, .slice a6 0 ap6, .string ⟨#[81]⟩, .slice none 0 0] ∧ CellsAt w3 g 10 [.int .i64 2, .int .i64 0, .string ⟨#[97]⟩, .string ⟨List.toArray [98]⟩, .slice b3 0 bp3, .slice b4 0 bp4, .string ⟨#[]⟩, .slice b6 0 bp6, .string ⟨#[81]⟩, .slice none 0 0])) (Q : Ending → World → Prop) (hQ : ∀ (M6 : Mem) (w6 : World), But M2 w3 [sb, pb] M6 w6 → Q (.returned (.bool true)) w6) (v0 v1 v2 v5 v6 v9 v10 v11 v12 v13 v14 v15 v16 v17 v18 v19 v20 v21 v22 v23 v24 v25 v26 v27 v28 v29 v30 v31 v32 v33 v34 v35 v36 v37 v38 v39 v40 v41 v42 v43 v44 v45 v46 v47 v48 v49 v50 v51 v52 v53 v54 v55 v56 v57 v58 v59 v60 v61 v62 v63 v64 v65 v66 v67 v68 v69 v70 v71 v72 v73 v74 v75 v76 v77 v78 v79 v80 v81 v82 v83 v84 v85 v86 v87 v88 v89 v90 v91 v92 v93 v94 v95 v96 v97 v98 v99 : Value) :
  Code.wp Try.prog (.seq (hd55 6) (tl55 7)) (bodyPost Try.prog Try.f55 Q) ⟨#[v0, v1, v2, .pointer (some ⟨w.heap.size, 0, none⟩), .pointer (some ⟨w.heap.size + 1, 0, none⟩), v5, v6, .pointer (some ⟨ka, 0, none⟩), .slice (some ⟨lg, 0, none⟩) 1 lcap, v9, v10, v11, v12, v13, v14, v15, v16, v17, v18, v19, v20, v21, v22, v23, v24, v25, v26, v27, v28, v29, v30, v31, v32, v33, v34, v35, v36, v37, v38, v39, v40, v41, v42, v43, v44, v45, v46, v47, v48, v49, v50, v51, v52, v53, v54, v55, v56, v57, v58, v59, v60, v61, v62, v63, v64, v65, v66, v67, v68, v69, v70, v71, v72, v73, v74, v75, v76, v77, v78, v79, v80, v81, v82, v83, v84, v85, v86, v87, v88, v89, v90, v91, v92, v93, v94, v95, v96, v97, v98, v99], []⟩ w3 := by
 obtain ⟨g, cap, a3, ap3, a4, ap4, a6, ap6, b3, bp3, b4, bp4, b6, bp6, l0c, hi0, hi1⟩ := hres
 have hcall := list_twoe h.k h.s h.p h.ne.1 h.ne.2.2 h.ne.2.1 g cap ⟨#[]⟩ ⟨#[]⟩ a3 ap3 a4 0 ap4 a6 0 ap6 none 0 b3 bp3 b4 0 bp4 b6 0 bp6 none 0 hi0 hi1
 obtain ⟨fn, hfn⟩ : ∃ fn, fn = Try.f55 := ⟨_, rfl⟩
 have hret : ∀ (a : Act) (w : World), (results fn a.tmps).run Try.prog w = .ok (a.tmps.getD 6 undef) w := fun a w => results_tmp (by rw [hfn]; rfl) _ _ _
 rw [← hfn]
 clear hfn
 unfold hd55 tl55
 simp only [Try.f55, dropSeq, fstC]
 go_wp2
 refine wp_loop_rounds 2 ?_; rw [rounds_succ]
 go_wp2_with (go_at_call 82; refine hcall.mono ?_; rintro e' w6 ⟨rfl, M6, hb6⟩)
 rw [rounds_succ]
 go_wp2
 exact bodyPost_end (hret _ _) rfl (hQ M6 _ hb6)
set_option maxHeartbeats 32000000 in
set_option maxRecDepth 100000 in
theorem ru6d {M : Mem} {w : World} {a0 : Option Addr} {l0 p0 : Nat} {oo : Option Addr} {ol oc : Nat} {fa : Option Addr} {fc : Nat} {ka sb pb : Nat} {no : Int} {fm : Value} {M2 : Mem} {w3 : World} (h : RuSt M w a0 l0 p0 oo ol oc fa fc ka sb pb no fm M2 w3) (lg lcap : Nat) (hres : (∃ (g cap : Nat) (a3 : Option Addr) (ap3 : Nat) (a4 : Option Addr) (ap4 : Nat) (a6 : Option Addr) (ap6 : Nat) (b3 : Option Addr) (bp3 : Nat) (b4 : Option Addr) (bp4 : Nat) (b6 : Option Addr) (bp6 : Nat), w3.cell? ⟨lg, 0, none⟩ = some (.slice (some ⟨g, 0, none⟩) 2 cap) ∧ CellsAt w3 g 0 [.int .i64 1, .int .i64 0, .string ⟨#[97]⟩, .string ⟨List.toArray [98]⟩, .slice a3 0 ap3, .slice a4 0 ap4, .string ⟨#[]⟩, .slice a6 0 ap6, .string ⟨#[81]⟩, .slice none 0 0] ∧ CellsAt w3 g 10 [.int .i64 2, .int .i64 0, .string ⟨#[97]⟩, .string ⟨List.toArray [99]⟩, .slice b3 0 bp3, .slice b4 0 bp4, .string ⟨#[]⟩, .slice b6 0 bp6, .string ⟨#[81]⟩, .slice none 0 0])) (Q : Ending → World → Prop) (hQ : ∀ (M6 : Mem) (w6 : World), But M2 w3 [sb, pb] M6 w6 → Q (.returned (.bool false)) w6) (v0 v1 v2 v5 v6 v9 v10 v11 v12 v13 v14 v15 v16 v17 v18 v19 v20 v21 v22 v23 v24 v25 v26 v27 v28 v29 v30 v31 v32 v33 v34 v35 v36 v37 v38 v39 v40 v41 v42 v43 v44 v45 v46 v47 v48 v49 v50 v51 v52 v53 v54 v55 v56 v57 v58 v59 v60 v61 v62 v63 v64 v65 v66 v67 v68 v69 v70 v71 v72 v73 v74 v75 v76 v77 v78 v79 v80 v81 v82 v83 v84 v85 v86 v87 v88 v89 v90 v91 v92 v93 v94 v95 v96 v97 v98 v99 : Value) :
  Code.wp Try.prog (.seq (hd55 6) (tl55 7)) (bodyPost Try.prog Try.f55 Q) ⟨#[v0, v1, v2, .pointer (some ⟨w.heap.size, 0, none⟩), .pointer (some ⟨w.heap.size + 1, 0, none⟩), v5, v6, .pointer (some ⟨ka, 0, none⟩), .slice (some ⟨lg, 0, none⟩) 1 lcap, v9, v10, v11, v12, v13, v14, v15, v16, v17, v18, v19, v20, v21, v22, v23, v24, v25, v26, v27, v28, v29, v30, v31, v32, v33, v34, v35, v36, v37, v38, v39, v40, v41, v42, v43, v44, v45, v46, v47, v48, v49, v50, v51, v52, v53, v54, v55, v56, v57, v58, v59, v60, v61, v62, v63, v64, v65, v66, v67, v68, v69, v70, v71, v72, v73, v74, v75, v76, v77, v78, v79, v80, v81, v82, v83, v84, v85, v86, v87, v88, v89, v90, v91, v92, v93, v94, v95, v96, v97, v98, v99], []⟩ w3 := by
 obtain ⟨g, cap, a3, ap3, a4, ap4, a6, ap6, b3, bp3, b4, bp4, b6, bp6, l0c, hi0, hi1⟩ := hres
 have hcall := list_twod h.k h.s h.p h.ne.1 h.ne.2.2 h.ne.2.1 g cap ⟨#[]⟩ ⟨#[]⟩ a3 ap3 a4 0 ap4 a6 0 ap6 none 0 b3 bp3 b4 0 bp4 b6 0 bp6 none 0 hi0 hi1
 obtain ⟨fn, hfn⟩ : ∃ fn, fn = Try.f55 := ⟨_, rfl⟩
 have hret : ∀ (a : Act) (w : World), (results fn a.tmps).run Try.prog w = .ok (a.tmps.getD 6 undef) w := fun a w => results_tmp (by rw [hfn]; rfl) _ _ _
 rw [← hfn]
 clear hfn
 unfold hd55 tl55
 simp only [Try.f55, dropSeq, fstC]
 go_wp2
 refine wp_loop_rounds 2 ?_; rw [rounds_succ]
 go_wp2_with (go_at_call 82; refine hcall.mono ?_; rintro e' w6 ⟨rfl, M6, hb6⟩)
 exact bodyPost_end (hret _ _) rfl (hQ M6 _ hb6)
theorem But.quietM {M M' : Mem} {w w' : World} (hc : Cons M w) (h : But M w [] M' w') : Cons M w' ∧ Quiet M w M w' := by
 refine ⟨fun b i v hv => ?_, fun _ _ _ h => h, fun b hb => ⟨h.old b hb (by simp), fun _ => rfl⟩, h.size, h.os, h.tape, h.output⟩
 obtain ⟨arr, T, fz, h1, h2⟩ := hc b i v hv
 exact ⟨arr, T, fz, (h.old b (Array.getElem?_eq_some_iff.1 h1).1 (by simp)).trans h1, h2⟩
set_option maxRecDepth 100000 in
theorem rule_walke {M : Mem} {w : World} (hc : Cons M w) (a0 : Option Addr) (l0 p0 : Nat) (oo : Option Addr) (ol oc : Nat) (fa : Option Addr) (fc : Nat)
  (hr : Rv M noB (.agg [(.slice (List.map encDef mWorld.defs) [] false), (.str mWorld.query), (.str mWorld.mutation)]) (.agg #[.slice a0 l0 p0, .string ⟨mWorld.query.toArray⟩, .string ⟨mWorld.mutation.toArray⟩]))
  (hd : Rv M noB (.agg [(.slice (List.map encOp [mOp [98]]) [] false), (.slice (List.map encFrag []) [] false)]) (.agg #[.slice oo ol oc, .slice fa 0 fc])) (ho : Rv M noB (.slice (List.map encOp [mOp [98]]) [] false) (.slice oo ol oc)) :
  Calls Try.prog 55 #[.agg #[.slice a0 l0 p0, .string ⟨mWorld.query.toArray⟩, .string ⟨mWorld.mutation.toArray⟩], .agg #[.slice oo ol oc, .slice fa 0 fc], .int .i64 24] w fun e w' => e = .returned (.bool true) ∧ Cons M w' ∧ Quiet M w M w' := by
 obtain ⟨blk, off, cap, c2, c3, c4, e1, hm, r2, r3, r4⟩ := op_slice ho
 cases e1
 obtain ⟨a2, p2, rfl⟩ := sl_nil r2
 obtain ⟨a3, p3, rfl⟩ := sl_nil r3
 obtain ⟨a4, l4, p4, rfl⟩ := isSlice r4
 refine calls_of_wp Try.func55 body55 ?_
 simp only [Try.ntmps55, List.size_toArray, List.length_cons, List.length_nil, Nat.reduceAdd, Nat.reduceSub, Array.replicate_succ,
   Array.replicate_zero, List.push_toArray, List.append_toArray, List.nil_append, List.cons_append]
 refine ru0 hc a0 l0 p0 (some ⟨blk, off, none⟩) 1 oc fa fc [98] (.inl rfl) hr hd _ _ (fun ka sb pb fm M2 w3 v0 v1 v2 v5 v6 v9 v10 v11 v12 v13 v14 v15 v16 v17 v18 v19 v20 v21 v22 v23 v24 v25 v26 v27 v28 v29 v30 v31 v32 v33 v34 v35 v36 v37 v38 v39 v40 v41 v42 v43 v44 v45 v46 v47 v48 v49 v50 v51 v52 v53 v54 v55 v56 v57 v58 v59 v60 v61 v62 v63 v64 v65 v66 v67 v68 v69 v70 v71 v72 v73 v74 v75 v76 v77 v78 v79 v80 v81 v82 v83 v84 v85 v86 v87 v88 v89 v90 v91 v92 v93 v94 v95 v96 v97 v98 v99 h => ?_)
 refine ru4 h _ _ (fun v0 v1 v2 v5 v6 v9 v10 v11 v12 v13 v14 v15 v16 v17 v18 v19 v20 v21 v22 v23 v24 v25 v26 v27 v28 v29 v30 v31 v32 v33 v34 v35 v36 v37 v38 v39 v40 v41 v42 v43 v44 v45 v46 v47 v48 v49 v50 v51 v52 v53 v54 v55 v56 v57 v58 v59 v60 v61 v62 v63 v64 v65 v66 v67 v68 v69 v70 v71 v72 v73 v74 v75 v76 v77 v78 v79 v80 v81 v82 v83 v84 v85 v86 v87 v88 v89 v90 v91 v92 v93 v94 v95 v96 v97 v98 v99 => ?_) v0 v1 v2 v5 v6 v9 v10 v11 v12 v13 v14 v15 v16 v17 v18 v19 v20 v21 v22 v23 v24 v25 v26 v27 v28 v29 v30 v31 v32 v33 v34 v35 v36 v37 v38 v39 v40 v41 v42 v43 v44 v45 v46 v47 v48 v49 v50 v51 v52 v53 v54 v55 v56 v57 v58 v59 v60 v61 v62 v63 v64 v65 v66 v67 v68 v69 v70 v71 v72 v73 v74 v75 v76 v77 v78 v79 v80 v81 v82 v83 v84 v85 v86 v87 v88 v89 v90 v91 v92 v93 v94 v95 v96 v97 v98 v99
 have hm2 := h.but.mem
 refine ru5 (no := 0) h [98] (.inl rfl) a2 p2 a3 p3 a4 l4 p4 (fun j v hv => hm2 _ _ _ (hm j v hv)) (r2.mono hm2 (fun _ _ _ h => h)) (r3.mono hm2 (fun _ _ _ h => h)) (r4.mono hm2 (fun _ _ _ h => h)) _ _ (fun M6 w6 lg lcap v0 v1 v2 v5 v6 v9 v10 v11 v12 v13 v14 v15 v16 v17 v18 v19 v20 v21 v22 v23 v24 v25 v26 v27 v28 v29 v30 v31 v32 v33 v34 v35 v36 v37 v38 v39 v40 v41 v42 v43 v44 v45 v46 v47 v48 v49 v50 v51 v52 v53 v54 v55 v56 v57 v58 v59 v60 v61 v62 v63 v64 v65 v66 v67 v68 v69 v70 v71 v72 v73 v74 v75 v76 v77 v78 v79 v80 v81 v82 v83 v84 v85 v86 v87 v88 v89 v90 v91 v92 v93 v94 v95 v96 v97 v98 v99 h6 hres => ?_) v0 v1 v2 v5 v6 v9 v10 v11 v12 v13 v14 v15 v16 v17 v18 v19 v20 v21 v22 v23 v24 v25 v26 v27 v28 v29 v30 v31 v32 v33 v34 v35 v36 v37 v38 v39 v40 v41 v42 v43 v44 v45 v46 v47 v48 v49 v50 v51 v52 v53 v54 v55 v56 v57 v58 v59 v60 v61 v62 v63 v64 v65 v66 v67 v68 v69 v70 v71 v72 v73 v74 v75 v76 v77 v78 v79 v80 v81 v82 v83 v84 v85 v86 v87 v88 v89 v90 v91 v92 v93 v94 v95 v96 v97 v98 v99
 refine ru6e h6 lg lcap hres _ (fun M7 w7 hb7 => ⟨rfl, ?_⟩) v0 v1 v2 v5 v6 v9 v10 v11 v12 v13 v14 v15 v16 v17 v18 v19 v20 v21 v22 v23 v24 v25 v26 v27 v28 v29 v30 v31 v32 v33 v34 v35 v36 v37 v38 v39 v40 v41 v42 v43 v44 v45 v46 v47 v48 v49 v50 v51 v52 v53 v54 v55 v56 v57 v58 v59 v60 v61 v62 v63 v64 v65 v66 v67 v68 v69 v70 v71 v72 v73 v74 v75 v76 v77 v78 v79 v80 v81 v82 v83 v84 v85 v86 v87 v88 v89 v90 v91 v92 v93 v94 v95 v96 v97 v98 v99
 have hB := ((h6.but.sub (S' := [sb, pb]) (by simp)).trans hb7).sub (S' := []) (fun x hx => .inr (by
  obtain ⟨q1, q2, q3⟩ := h6.new
  simp only [List.mem_cons, List.not_mem_nil, or_false] at hx
  rcases hx with rfl | rfl <;> omega))
 exact But.quietM hc hB
set_option maxRecDepth 100000 in
theorem rule_walkd {M : Mem} {w : World} (hc : Cons M w) (a0 : Option Addr) (l0 p0 : Nat) (oo : Option Addr) (ol oc : Nat) (fa : Option Addr) (fc : Nat)
  (hr : Rv M noB (.agg [(.slice (List.map encDef mWorld.defs) [] false), (.str mWorld.query), (.str mWorld.mutation)]) (.agg #[.slice a0 l0 p0, .string ⟨mWorld.query.toArray⟩, .string ⟨mWorld.mutation.toArray⟩]))
  (hd : Rv M noB (.agg [(.slice (List.map encOp [mOp [99]]) [] false), (.slice (List.map encFrag []) [] false)]) (.agg #[.slice oo ol oc, .slice fa 0 fc])) (ho : Rv M noB (.slice (List.map encOp [mOp [99]]) [] false) (.slice oo ol oc)) :
  Calls Try.prog 55 #[.agg #[.slice a0 l0 p0, .string ⟨mWorld.query.toArray⟩, .string ⟨mWorld.mutation.toArray⟩], .agg #[.slice oo ol oc, .slice fa 0 fc], .int .i64 24] w fun e w' => e = .returned (.bool false) ∧ Cons M w' ∧ Quiet M w M w' := by
 obtain ⟨blk, off, cap, c2, c3, c4, e1, hm, r2, r3, r4⟩ := op_slice ho
 cases e1
 obtain ⟨a2, p2, rfl⟩ := sl_nil r2
 obtain ⟨a3, p3, rfl⟩ := sl_nil r3
 obtain ⟨a4, l4, p4, rfl⟩ := isSlice r4
 refine calls_of_wp Try.func55 body55 ?_
 simp only [Try.ntmps55, List.size_toArray, List.length_cons, List.length_nil, Nat.reduceAdd, Nat.reduceSub, Array.replicate_succ,
   Array.replicate_zero, List.push_toArray, List.append_toArray, List.nil_append, List.cons_append]
 refine ru0 hc a0 l0 p0 (some ⟨blk, off, none⟩) 1 oc fa fc [99] (.inr rfl) hr hd _ _ (fun ka sb pb fm M2 w3 v0 v1 v2 v5 v6 v9 v10 v11 v12 v13 v14 v15 v16 v17 v18 v19 v20 v21 v22 v23 v24 v25 v26 v27 v28 v29 v30 v31 v32 v33 v34 v35 v36 v37 v38 v39 v40 v41 v42 v43 v44 v45 v46 v47 v48 v49 v50 v51 v52 v53 v54 v55 v56 v57 v58 v59 v60 v61 v62 v63 v64 v65 v66 v67 v68 v69 v70 v71 v72 v73 v74 v75 v76 v77 v78 v79 v80 v81 v82 v83 v84 v85 v86 v87 v88 v89 v90 v91 v92 v93 v94 v95 v96 v97 v98 v99 h => ?_)
 refine ru4 h _ _ (fun v0 v1 v2 v5 v6 v9 v10 v11 v12 v13 v14 v15 v16 v17 v18 v19 v20 v21 v22 v23 v24 v25 v26 v27 v28 v29 v30 v31 v32 v33 v34 v35 v36 v37 v38 v39 v40 v41 v42 v43 v44 v45 v46 v47 v48 v49 v50 v51 v52 v53 v54 v55 v56 v57 v58 v59 v60 v61 v62 v63 v64 v65 v66 v67 v68 v69 v70 v71 v72 v73 v74 v75 v76 v77 v78 v79 v80 v81 v82 v83 v84 v85 v86 v87 v88 v89 v90 v91 v92 v93 v94 v95 v96 v97 v98 v99 => ?_) v0 v1 v2 v5 v6 v9 v10 v11 v12 v13 v14 v15 v16 v17 v18 v19 v20 v21 v22 v23 v24 v25 v26 v27 v28 v29 v30 v31 v32 v33 v34 v35 v36 v37 v38 v39 v40 v41 v42 v43 v44 v45 v46 v47 v48 v49 v50 v51 v52 v53 v54 v55 v56 v57 v58 v59 v60 v61 v62 v63 v64 v65 v66 v67 v68 v69 v70 v71 v72 v73 v74 v75 v76 v77 v78 v79 v80 v81 v82 v83 v84 v85 v86 v87 v88 v89 v90 v91 v92 v93 v94 v95 v96 v97 v98 v99
 have hm2 := h.but.mem
 refine ru5 (no := 0) h [99] (.inr rfl) a2 p2 a3 p3 a4 l4 p4 (fun j v hv => hm2 _ _ _ (hm j v hv)) (r2.mono hm2 (fun _ _ _ h => h)) (r3.mono hm2 (fun _ _ _ h => h)) (r4.mono hm2 (fun _ _ _ h => h)) _ _ (fun M6 w6 lg lcap v0 v1 v2 v5 v6 v9 v10 v11 v12 v13 v14 v15 v16 v17 v18 v19 v20 v21 v22 v23 v24 v25 v26 v27 v28 v29 v30 v31 v32 v33 v34 v35 v36 v37 v38 v39 v40 v41 v42 v43 v44 v45 v46 v47 v48 v49 v50 v51 v52 v53 v54 v55 v56 v57 v58 v59 v60 v61 v62 v63 v64 v65 v66 v67 v68 v69 v70 v71 v72 v73 v74 v75 v76 v77 v78 v79 v80 v81 v82 v83 v84 v85 v86 v87 v88 v89 v90 v91 v92 v93 v94 v95 v96 v97 v98 v99 h6 hres => ?_) v0 v1 v2 v5 v6 v9 v10 v11 v12 v13 v14 v15 v16 v17 v18 v19 v20 v21 v22 v23 v24 v25 v26 v27 v28 v29 v30 v31 v32 v33 v34 v35 v36 v37 v38 v39 v40 v41 v42 v43 v44 v45 v46 v47 v48 v49 v50 v51 v52 v53 v54 v55 v56 v57 v58 v59 v60 v61 v62 v63 v64 v65 v66 v67 v68 v69 v70 v71 v72 v73 v74 v75 v76 v77 v78 v79 v80 v81 v82 v83 v84 v85 v86 v87 v88 v89 v90 v91 v92 v93 v94 v95 v96 v97 v98 v99
 refine ru6d h6 lg lcap hres _ (fun M7 w7 hb7 => ⟨rfl, ?_⟩) v0 v1 v2 v5 v6 v9 v10 v11 v12 v13 v14 v15 v16 v17 v18 v19 v20 v21 v22 v23 v24 v25 v26 v27 v28 v29 v30 v31 v32 v33 v34 v35 v36 v37 v38 v39 v40 v41 v42 v43 v44 v45 v46 v47 v48 v49 v50 v51 v52 v53 v54 v55 v56 v57 v58 v59 v60 v61 v62 v63 v64 v65 v66 v67 v68 v69 v70 v71 v72 v73 v74 v75 v76 v77 v78 v79 v80 v81 v82 v83 v84 v85 v86 v87 v88 v89 v90 v91 v92 v93 v94 v95 v96 v97 v98 v99
 have hB := ((h6.but.sub (S' := [sb, pb]) (by simp)).trans hb7).sub (S' := []) (fun x hx => .inr (by
  obtain ⟨q1, q2, q3⟩ := h6.new
  simp only [List.mem_cons, List.not_mem_nil, or_false] at hx
  rcases hx with rfl | rfl <;> omega))
 exact But.quietM hc hB
set_option maxRecDepth 100000 in
theorem rule_keeps (args : List PV) (x : MArg) (r : Bool) (ha : args.map PV.plain = rulA x) (hown : ∀ p ∈ args, ∀ v, NoOwn p v) (hsol : ∀ p ∈ args, p.solid = true) (h : rulF x = some r) : Keeps Try.prog (fun _ _ => none) 55 args (rulR r) := by
 refine keeps_of_calls hown hsol rfl rfl (fun vals w => rfl) ?_
 intro M w vals hc hsz hrel
 have hlen : args.length = 3 := by have := congrArg List.length ha; simpa [rulA] using this
 have hr : ∀ (i : Nat) (p : PV), (rulA x)[i]? = some p → Rv M noB p (vals.getD i undef) := by
  intro i p hp
  rw [← ha, List.getElem?_map] at hp
  cases h2 : args[i]? with
  | none => rw [h2] at hp; simp at hp
  | some p' =>
   rw [h2] at hp
   simp only [Option.map_some, Option.some.injEq] at hp
   rw [← hp]
   exact hrel i p' h2
 have hx : (x = (mWorld, mDoc [99], 24) ∧ r = false) ∨ (x = (mWorld, mDoc [98], 24) ∧ r = true) := by
  unfold rulF at h
  split at h
  ·cases h; exact .inl ⟨‹_›, rfl⟩
  ·split at h
   ·cases h; exact .inr ⟨‹_›, rfl⟩
   ·simp at h
 have key : ∀ (nm : Str), x = (mWorld, mDoc nm, 24) → (∀ (a0 : Option Addr) (l0 p0 : Nat) (oo : Option Addr) (ol oc : Nat) (fa : Option Addr) (fc : Nat),
   Rv M noB (.agg [(.slice (List.map encDef mWorld.defs) [] false), (.str mWorld.query), (.str mWorld.mutation)]) (.agg #[.slice a0 l0 p0, .string ⟨mWorld.query.toArray⟩, .string ⟨mWorld.mutation.toArray⟩]) →
   Rv M noB (.agg [(.slice (List.map encOp [mOp nm]) [] false), (.slice (List.map encFrag []) [] false)]) (.agg #[.slice oo ol oc, .slice fa 0 fc]) → Rv M noB (.slice (List.map encOp [mOp nm]) [] false) (.slice oo ol oc) →
   Calls Try.prog 55 #[.agg #[.slice a0 l0 p0, .string ⟨mWorld.query.toArray⟩, .string ⟨mWorld.mutation.toArray⟩], .agg #[.slice oo ol oc, .slice fa 0 fc], .int .i64 24] w fun e w' => e = .returned (.bool r) ∧ Cons M w' ∧ Quiet M w M w') →
   Calls Try.prog 55 vals w fun e w' => ∃ v M', e = .returned v ∧ Rv M' noB (rulR r) v ∧ Cons M' w' ∧ Quiet M w M' w' := by
  rintro nm rfl hall
  have e0 := hr 0 _ rfl
  have e1 := hr 1 _ rfl
  have e2 := hr 2 _ rfl
  obtain ⟨l0, k0, m0⟩ := rv_agg e0
  obtain ⟨l1, k1, m1⟩ := rv_agg e1
  cases m0 with | cons q0 m0 => cases m0 with | cons q1 m0 => cases m0 with | cons q2 m0 =>
  cases m0
  cases m1 with | cons t0 m1 => cases m1 with | cons t1 m1 =>
  cases m1
  obtain ⟨a0, z0, p0, rfl⟩ := isSlice q0
  cases q1
  cases q2
  obtain ⟨oo, ol, oc, rfl⟩ := isSlice t0
  obtain ⟨fa, fc, rfl⟩ := sl_nil t1
  have k2 : vals.getD 2 undef = .int .i64 24 := by generalize vals.getD 2 undef = v at e2; cases e2; rfl
  have hv : vals = #[.agg #[.slice a0 z0 p0, .string ⟨mWorld.query.toArray⟩, .string ⟨mWorld.mutation.toArray⟩], .agg #[.slice oo ol oc, .slice fa 0 fc], .int .i64 24] := by
   apply Array.ext
   ·simp [hsz, hlen]
   ·intro i h1 h2
    have hi : i < 3 := by simpa using h2
    have hg : vals[i] = vals.getD i undef := by simp [h1]
    rw [hg]
    match i, hi with
    | 0, _ => exact k0
    | 1, _ => exact k1
    | 2, _ => exact k2
  rw [k0] at e0
  rw [k1] at e1
  rw [hv]
  exact (hall a0 z0 p0 oo ol oc fa fc e0 e1 t0).mono (by rintro e w' ⟨rfl, h1, h2⟩; exact ⟨_, M, rfl, .bool _, h1, h2⟩)
 rcases hx with ⟨hx, rfl⟩ | ⟨hx, rfl⟩
 ·exact key [99] hx (fun a0 l0 p0 oo ol oc fa fc h1 h2 h3 => rule_walkd hc a0 l0 p0 oo ol oc fa fc h1 h2 h3)
 ·exact key [98] hx (fun a0 l0 p0 oo ol oc fa fc h1 h2 h3 => rule_walke hc a0 l0 p0 oo ol oc fa fc h1 h2 h3)
theorem merge_Rule_ok (d : GDoc) (r : Bool) (h : rulF (mWorld, d, 24) = some r) : merge_Rule mWorld d 24 = some r := by
 unfold merge_Rule
 refine tO_of (pair_inj merge_RuleEj) ?_
 refine OL_ext (g := xSelf Try.prog (fun _ _ => none) 55 rulA rulR rulF) rfl ?_
 refine xSelf_of rulA_inj (x := (mWorld, d, 24)) rfl h (rule_keeps _ (mWorld, d, 24) r rfl ?_ ?_ h)
 ·intro p hp v
  apply noOwn_of_plain
  simp only [List.mem_cons, List.not_mem_nil, or_false] at hp
  rcases hp with rfl | rfl | rfl <;> rfl
 ·intro p hp
  simp only [List.mem_cons, List.not_mem_nil, or_false] at hp
  rcases hp with rfl | rfl | rfl <;> rfl
theorem world_ok : seinelaw19_world = some mWorld := seinelaw19_world_run rfl
theorem key_ok : merge_Key (leafS [98]) = some [97] := merge_Key_run rfl
theorem awake_ok : seinelaw19_awake = some true := by
 apply seinelaw19_awake_run
 have hd := merge_Rule_ok (mDoc [99]) false rulF_c
 have he := merge_Rule_ok (mDoc [98]) true rulF_b
 have h1 : nthI [(GOp.mk 0 [] ([] : List GVarDef) ([] : List GDir) [(GSel.mk 0 [97] [98] ([] : List GMember) ([] : List GDir) [] ([] : List GSel)), (GSel.mk 0 [97] [99] ([] : List GMember) ([] : List GDir) [] ([] : List GSel))])] 0 = some (GOp.mk 0 [] [] [] [(GSel.mk 0 [97] [98] [] [] [] []), (GSel.mk 0 [97] [99] [] [] [] [])]) := rfl
 have h2 : nthI [(GSel.mk 0 [97] [98] ([] : List GMember) ([] : List GDir) [] ([] : List GSel)), (GSel.mk 0 [97] [99] ([] : List GMember) ([] : List GDir) [] ([] : List GSel))] 0 = some (GSel.mk 0 [97] [98] [] [] [] []) := rfl
 unfold mDoc at hd he
 simp only [seinelaw19_awake_B, world_ok, Ev.bnd, hd, he, Bool.not_false, cnd, h1, h2, key_ok]
 rfl
open Go Go.Ev
open Classical in
noncomputable def eqC {α : Type} (a b : α) : Bool := decide (a = b)
theorem eqC_iff {α : Type} {a b : α} : eqC a b = true ↔ a = b := by unfold eqC; simp
theorem eqC_self {α : Type} (a : α) : eqC a a = true := eqC_iff.2 rfl
theorem eqC_cons {α : Type} (x y : α) (l m : List α) : eqC (x :: l) (y :: m) = (eqC x y && eqC l m) := by
 rw [Bool.eq_iff_iff, eqC_iff, Bool.and_eq_true, eqC_iff, eqC_iff, List.cons.injEq]
theorem eqC_len {α : Type} {l m : List α} (h : l.length ≠ m.length) : eqC l m = false := by
 rw [Bool.eq_false_iff]; intro he; exact h (by rw [eqC_iff.1 he])
theorem zip_loop {α : Type} {b : Int → Option (Int ⊕ (Unit ⊕ Unit))} (l m : List α) (hl : Sm l) (hlen : l.length = m.length) (hnil : b (l.length : Int) = some (.inr (.inl ())))
  (hcons : ∀ (k : Nat) x y, x ∈ l → y ∈ m → decide ((k : Int) < (l.length : Int)) = true → nthI l (k : Int) = some x → nthI m (k : Int) = some y → IntKind.wrap .i64 ((k : Int) + 1) = ((k + 1 : Nat) : Int) → b k = some (bif eqC x y then .inl ((k + 1 : Nat) : Int) else .inr (.inr ()))) :
  tloop b 0 = some (bif eqC l m then .inl () else .inr ()) := by
 refine loop_list (b := b) l (fun k (_ : List α) => (k : Int)) (fun r a => bif eqC r a then (.inl () : Unit ⊕ Unit) else .inr ()) (fun k a => a = m.drop k) hl ?_ ?_ (s := 0) (a := m) rfl rfl
 ·intro a ha
  rw [hlen, List.drop_length] at ha
  subst ha
  rw [hnil, eqC_self]; rfl
 ·intro k x r a hx hk hd h1 h2 h3 ha
  have hk' : k < m.length := by omega
  have hm : m.drop k = m[k] :: m.drop (k + 1) := List.drop_eq_getElem_cons hk'
  rw [ha, hm, eqC_cons]
  have := hcons k x m[k] hx (List.getElem_mem hk') h1 h2 (by rw [nthI_nat]; exact List.getElem?_eq_getElem hk') h3
  rw [this]
  cases eqC x m[k]
  ·left; rfl
  ·right; exact ⟨_, rfl, rfl, by rw [Bool.true_and]⟩
theorem ne_len {a b : Nat} : ((a : Int) != (b : Int)) = !(decide (a = b)) := by
 by_cases h : a = b <;> simp [h, bne]
 ·omega
theorem eqFuncV (l m : List GValue) (hl : Sm l) (h : ∀ x ∈ l, ∀ y ∈ m, value_Same x y = some (eqC x y)) : slices_EqualFunc_Value l m = some (eqC l m) := by
 apply slices_EqualFunc_Value_run
 simp only [slices_EqualFunc_Value_B, ne_len]
 by_cases hlen : l.length = m.length
 ·have key := zip_loop (b := slices_EqualFunc_Value_l1T l m) l m hl hlen (by simp only [slices_EqualFunc_Value_l1T, end_lt, cnd_f])
   (fun k x y hx hy h1 h2 h3 h4 => by
    simp only [slices_EqualFunc_Value_l1T, h1, h2, h3, h4, bnd_s, cnd_t, h x hx y hy]
    cases eqC x y <;> rfl)
  simp only [hlen, decide_true, Bool.not_true, cnd_f, key, bnd_s]
  cases eqC l m <;> rfl
 ·simp only [hlen, decide_false, Bool.not_false, cnd_t, eqC_len hlen]
theorem eqFuncM (l m : List GMember) (hl : Sm l) (h : ∀ x ∈ l, ∀ y ∈ m, value_Same_1 x y = some (eqC x y)) : slices_EqualFunc_Member l m = some (eqC l m) := by
 apply slices_EqualFunc_Member_run
 simp only [slices_EqualFunc_Member_B, ne_len]
 by_cases hlen : l.length = m.length
 ·have key := zip_loop (b := slices_EqualFunc_Member_l1T l m) l m hl hlen (by simp only [slices_EqualFunc_Member_l1T, end_lt, cnd_f])
   (fun k x y hx hy h1 h2 h3 h4 => by
    simp only [slices_EqualFunc_Member_l1T, h1, h2, h3, h4, bnd_s, cnd_t, h x hx y hy]
    cases eqC x y <;> rfl)
  simp only [hlen, decide_true, Bool.not_true, cnd_f, key, bnd_s]
  cases eqC l m <;> rfl
 ·simp only [hlen, decide_false, Bool.not_false, cnd_t, eqC_len hlen]
theorem eqC_V (a b : GValue) : eqC a b = (a.kind == b.kind && (a.n == b.n && (a.s == b.s && (eqC a.l b.l && eqC a.m b.m)))) := by
 obtain ⟨a1, a2, a3, a4, a5⟩ := a
 obtain ⟨b1, b2, b3, b4, b5⟩ := b
 rw [Bool.eq_iff_iff]
 simp only [eqC_iff, Bool.and_eq_true, beq_iff_eq, GValue.mk.injEq]
theorem eqC_M (a b : GMember) : eqC a b = (a.name == b.name && eqC a.v b.v) := by
 obtain ⟨a1, a2⟩ := a
 obtain ⟨b1, b2⟩ := b
 rw [Bool.eq_iff_iff]
 simp only [eqC_iff, Bool.and_eq_true, beq_iff_eq, GMember.mk.injEq]
theorem sm_vs {v : GValue} {n : Nat} (hn : n < 1073741824) (h : szV v ≤ n) : Sm v.l ∧ Sm v.m := by
 have := szV_eq v
 have := szVs_len v.l
 have := szMs_len v.m
 unfold Sm
 constructor <;> omega
theorem value_Same_ok' : ∀ (n : Nat), n < 1073741824 → ∀ a b : GValue, szV a ≤ n → value_Same a b = some (eqC a b) := by
 intro n
 induction n with
 | zero => intro _ a b h; have := szV_eq a; omega
 | succ n ih =>
  intro hn a b h
  obtain ⟨h1, h2⟩ := sm_vs hn h
  have e1 := eqFuncV a.l b.l h1 (fun x hx y _ => ih (by omega) x y (by have := szVs_mem hx; have := szV_eq a; omega))
  have e2 := eqFuncM a.m b.m h2 (fun x hx y _ => by
   have := ih (by omega) x.v y.v (by have := szMs_mem hx; have := szM_eq x; have := szV_eq a; omega)
   apply value_Same_1_run
   simp only [value_Same_1_B, this, bnd_s, eqC_M]
   cases x.name == y.name <;> rfl)
  apply value_Same_run
  simp only [value_Same_B, e1, e2, bnd_s, eqC_V a b]
  cases a.kind == b.kind <;> cases a.n == b.n <;> cases a.s == b.s <;> cases eqC a.l b.l <;> rfl
theorem value_Same_ok (a b : GValue) (h : szV a < 1073741824) : value_Same a b = some (eqC a b) := value_Same_ok' _ h a b (Nat.le_refl _)
theorem szArgs (m : List GMember) (h : bkSl bkMember m < 1073741824) : szV ⟨0, 0, [], [], m⟩ < 4611686018427387904 := by
 have h4 := szMs_bk m
 rw [bkMembers_eq] at h4
 simp only [szV, szVs, List.length_nil]
 have h5 : bkSl bkMember m = sumL bkMember m + 1 := rfl
 omega
def hasM (name : Str) (l : List GMember) : Bool := l.any fun x => x.name == name
def onceA : List GMember → List GMember → Bool
 | _, [] => true
 | a, x :: r => !hasM x.name a && onceA (a ++ [x]) r
def onceD (m : List GMember) : Bool := onceA [] m
theorem take_next {α : Type} {l : List α} {k : Nat} {x : α} {r : List α} (h : l.drop k = x :: r) (hk : k < l.length) : l.take k ++ [x] = l.take (k + 1) := by
 rw [List.take_succ_eq_append_getElem hk]
 rw [List.drop_eq_getElem_cons hk] at h
 rw [(List.cons.inj h).1]
theorem beq_flip (a b : Str) : (a == b) = (b == a) := by rw [Bool.eq_iff_iff]; simp only [beq_iff_eq]; exact ⟨Eq.symm, Eq.symm⟩
theorem once_inner (m : List GMember) (hm : Sm m) (i : Nat) (x : GMember) (hi : i < m.length) (hx : nthI m (i : Int) = some x) :
  tloop (seineref13_Once_l1T m (i : Int)) 0 = some (bif hasM x.name (m.take i) then (.inr () : Unit ⊕ Unit) else .inl ()) := by
 have hlen : (m.take i).length = i := by simp; omega
 have h := loop_idx (b := seineref13_Once_l1T m (i : Int)) (m.take i) (fun r => bif hasM x.name r then (.inr () : Unit ⊕ Unit) else .inl ()) (by have := hm; unfold Sm at *; simp; omega)
  (by simp only [seineref13_Once_l1T, hlen, end_lt, cnd_f]; rfl)
  (fun k y r hy h1 h2 h3 => by
   rw [hlen] at h1
   have hk : k < i := by simpa using h1
   have h2' : nthI m (k : Int) = some y := by
    rw [nthI_nat] at h2 ⊢
    rw [List.getElem?_take, if_pos hk] at h2; exact h2
   simp only [seineref13_Once_l1T, h1, h2', h3, hx, bnd_s, cnd_t, hasM, List.any_cons, beq_flip x.name y.name]
   cases y.name == x.name
   ·right; exact ⟨rfl, rfl⟩
   ·left; rfl)
 exact h
theorem seineref13_Once_ok (m : List GMember) (hm : Sm m) : seineref13_Once m = some (onceD m) := by
 apply seineref13_Once_run
 have h := loop_list (b := seineref13_Once_l2T m) m (fun k (_ : List GMember) => (k : Int)) (fun r a => bif onceA a r then (.inl () : Unit ⊕ Unit) else .inr ()) (fun k a => a = m.take k) hm
  (fun a ha => by simp only [seineref13_Once_l2T, end_lt, cnd_f]; rfl)
  (fun k x r a hx hk hd h1 h2 h3 ha => by
   subst ha
   simp only [seineref13_Once_l2T, h1, h3, bnd_s, cnd_t, once_inner m hm k x hk h2, onceA, take_next hd hk]
   cases hasM x.name (m.take k)
   ·right; exact ⟨_, rfl, rfl, rfl⟩
   ·left; rfl) (s := 0) (a := []) rfl rfl
 simp only [seineref13_Once_B, h, bnd_s, onceD]
 cases onceA [] m <;> rfl
def getM (name : Str) (l : List GMember) : GValue × Bool :=
 match l.findSome? (fun x => bif x.name == name then some (Sum.inr (x.v.kind, x.v.n, x.v.s, x.v.l, x.v.m) : Unit ⊕ (Int × Int × Str × (List GValue) × (List GMember))) else none) with
 | some (.inr p) => (⟨p.1, p.2.1, p.2.2.1, p.2.2.2.1, p.2.2.2.2⟩, true)
 | _ => (⟨0, 0, [], [], []⟩, false)
theorem value_Get_ok (name : Str) (l : List GMember) (hl : Sm l) : value_Get name l = some (getM name l) := by
 have h := loop_find (b := value_Get_l1T name l) l (fun x => bif x.name == name then some (.inr (x.v.kind, x.v.n, x.v.s, x.v.l, x.v.m)) else none) (.inl ()) hl (by simp only [value_Get_l1T, end_lt, cnd_f])
  (fun k x hx h1 h2 h3 => by
   simp only [value_Get_l1T, h1, h2, h3, bnd_s, cnd_t]
   cases x.name == name <;> rfl)
 apply value_Get_run
 simp only [value_Get_B, h, bnd_s, getM]
 cases hf : l.findSome? (fun x => bif x.name == name then some (Sum.inr (x.v.kind, x.v.n, x.v.s, x.v.l, x.v.m) : Unit ⊕ (Int × Int × Str × (List GValue) × (List GMember))) else none) with
 | none => rfl
 | some q => cases q <;> rfl
noncomputable def alikeP (b : List GMember) (x : GMember) : Bool := (getM x.name b).2 && eqC x.v (getM x.name b).1
noncomputable def alikeD (a b : List GMember) : Bool := a.all (alikeP b) && decide (a.length = b.length)
theorem merge_Alike_ok (a b : List GMember) (ha : Sm a) (hb : Sm b) (hs : szMs a < 1073741824) : merge_Alike a b = some (alikeD a b) := by
 apply merge_Alike_run
 have h := loop_idx (b := merge_Alike_l1T a b) a (fun r => bif r.all (alikeP b) then (.inl () : Unit ⊕ Unit) else .inr ()) ha (by simp only [merge_Alike_l1T, end_lt, cnd_f]; rfl)
  (fun k x r hx h1 h2 h3 => by
   have hx' := szMs_mem hx
   have hx2 := szM_eq x
   simp only [merge_Alike_l1T, h1, h2, h3, bnd_s, cnd_t, value_Get_ok x.name b hb, value_Same_ok x.v (getM x.name b).1 (by omega), List.all_cons, alikeP]
   cases (getM x.name b).2
   ·left; rfl
   ·cases eqC x.v (getM x.name b).1
    ·left; rfl
    ·right; exact ⟨rfl, rfl⟩)
 simp only [merge_Alike_B, h, bnd_s, alikeD]
 have e : ((a.length : Int) == (b.length : Int)) = decide (a.length = b.length) := by by_cases he : a.length = b.length <;> simp [he]; omega
 cases a.all (alikeP b)
 ·rfl
 ·simp only [cond_true, elim_inl, e, Bool.true_and]
noncomputable def shapeD (s : GSchema) (a b : GType) : Bool :=
 bif a.lists != b.lists then false else bif a.musts != b.musts then false else bif kindD s a.name [0, 4] then a.name == b.name else bif kindD s b.name [0, 4] then a.name == b.name else kindD s a.name [1, 2, 3] && kindD s b.name [1, 2, 3]
def keyD (x : GSel) : Str := bif x.kind != 0 then [] else bif !(x.alias == []) then x.alias else x.name
theorem hasM_false {s : Str} {a : List GMember} : hasM s a = false ↔ ∀ y ∈ a, y.name ≠ s := by
 simp [hasM]
theorem onceA_iff : ∀ (r a : List GMember), onceA a r = true ↔ (r.map (·.name)).Nodup ∧ ∀ x ∈ r, hasM x.name a = false
 | [], a => by simp [onceA]
 | x :: r, a => by
  simp only [onceA, Bool.and_eq_true, Bool.not_eq_true', onceA_iff r, List.map_cons, List.nodup_cons, hasM_false, List.mem_append, List.mem_cons, List.not_mem_nil, or_false, List.mem_map]
  constructor
  ·rintro ⟨h1, h2, h3⟩
   refine ⟨⟨?_, h2⟩, ?_⟩
   ·rintro ⟨y, hy, e⟩
    exact h3 y hy x (.inr rfl) e.symm
   ·rintro y (rfl | hy)
    ·exact h1
    ·exact fun z hz => h3 y hy z (.inl hz)
  ·rintro ⟨⟨h1, h2⟩, h3⟩
   refine ⟨h3 x (.inl rfl), h2, ?_⟩
   rintro y hy z (hz | rfl)
   ·exact h3 y (.inr hy) z hz
   ·exact fun e => h1 ⟨y, hy, e.symm⟩
theorem onceD_iff (m : List GMember) : onceD m = true ↔ (m.map (·.name)).Nodup := by
 simp [onceD, onceA_iff, hasM]
theorem tslc_take {α : Type} (l : List α) (k : Nat) (h : k ≤ l.length) : tslc l 0 (k : Int) = some (l.take k) := by
 unfold tslc
 simp; omega
theorem tslc_drop {α : Type} (l : List α) (k : Nat) (h : k ≤ l.length) : tslc l (k : Int) (l.length : Int) = some (l.drop k) := by
 unfold tslc
 simp; omega
theorem wu64 (x : Int) : IntKind.wrap .u64 x = x % 18446744073709551616 := by simp [IntKind.wrap, IntKind.signed, IntKind.bits]
theorem wi64 {x : Int} (h : 0 ≤ x ∧ x < 4611686018427387904) : IntKind.wrap .i64 x = x := by
 simp [IntKind.wrap, IntKind.signed, IntKind.bits]; omega
theorem rem_len (n : Nat) (by0 : Int) (h : 0 < n) (h' : n < 1073741824) : ∃ k : Nat, k < n ∧ trem0 (IntKind.wrap .u64 by0) (IntKind.wrap .u64 (n : Int)) = some (k : Int) := by
 have e : IntKind.wrap .u64 (n : Int) = (n : Int) := by rw [wu64]; omega
 refine ⟨((by0 % 18446744073709551616) % (n : Int)).toNat, ?_, ?_⟩
 ·have := Int.emod_lt_of_pos (by0 % 18446744073709551616) (show (0 : Int) < n by omega)
  have := Int.emod_nonneg (by0 % 18446744073709551616) (show (n : Int) ≠ 0 by omega)
  omega
 ·rw [e, wu64]
  unfold trem0
  rw [if_neg (by omega)]
  have := Int.emod_nonneg (by0 % 18446744073709551616) (show (n : Int) ≠ 0 by omega)
  rw [Int.tmod_eq_emod_of_nonneg (by omega)]
  rw [Int.toNat_of_nonneg this]
theorem alike_i1_ok : merge_Alike_i1 = some true := by
 apply merge_Alike_i1_run
 simp only [merge_Alike_i1_B]
 rw [tloop_exit (r := .inl ()) (by simp [merge_Alike_i1_l1T, cnd])]
 rfl
theorem getM_nil (s : Str) : (getM s []).2 = false := rfl
theorem getM_cons (s : Str) (x : GMember) (l : List GMember) : getM s (x :: l) = bif x.name == s then (x.v, true) else getM s l := by
 unfold getM
 rw [List.findSome?_cons]
 cases x.name == s
 ·rfl
 ·obtain ⟨_, _, _, _, _, _⟩ := x; rfl
theorem alikeP_iff (x : GMember) : ∀ (l : List GMember), (l.map (·.name)).Nodup → (alikeP l x = true ↔ x ∈ l)
 | [], _ => by simp [alikeP, getM_nil]
 | y :: l, h => by
  rw [List.map_cons, List.nodup_cons] at h
  have ih := alikeP_iff x l h.2
  unfold alikeP at ih ⊢
  rw [getM_cons, List.mem_cons]
  cases hn : y.name == x.name
  ·rw [beq_eq_false_iff_ne] at hn
   simp only [cond_false]
   rw [ih]
   refine ⟨.inr, fun h => h.resolve_left ?_⟩
   rintro rfl; exact hn rfl
  ·rw [beq_iff_eq] at hn
   simp only [cond_true, Bool.true_and, eqC_iff]
   constructor
   ·intro e; left; cases x; cases y; simp only at hn e; rw [hn, e]
   ·rintro (rfl | h3)
    ·rfl
    ·exact absurd (List.mem_map.2 ⟨x, h3, hn.symm⟩) h.1
theorem alikeD_iff (a b : List GMember) (h : (b.map (·.name)).Nodup) : alikeD a b = true ↔ (∀ x ∈ a, x ∈ b) ∧ a.length = b.length := by
 simp only [alikeD, Bool.and_eq_true, List.all_eq_true, decide_eq_true_eq, alikeP_iff _ b h]
theorem nodup_of {a : List GMember} (h : (a.map (·.name)).Nodup) : a.Nodup := List.Pairwise.of_map (·.name) (fun x y h e => h (by rw [e])) h
theorem alikeD_self (a : List GMember) (h : (a.map (·.name)).Nodup) : alikeD a a = true := (alikeD_iff a a h).2 ⟨fun _ h => h, rfl⟩
theorem sub_perm : ∀ {a b : List GMember}, a.Nodup → (∀ x ∈ a, x ∈ b) → b.length ≤ a.length → ∀ x ∈ b, x ∈ a
 | [], b, _, _, h => by have : b = [] := List.length_eq_zero_iff.1 (by simpa using h); subst this; simp
 | y :: a, b, hn, hs, h => by
  rw [List.nodup_cons] at hn
  obtain ⟨b1, b2, rfl⟩ := List.append_of_mem (hs y (by simp))
  have ih := sub_perm (b := b1 ++ b2) hn.2 (fun x hx => by
   have := hs x (by simp [hx])
   simp only [List.mem_append, List.mem_cons] at this ⊢
   rcases this with h1 | rfl | h1
   ·exact .inl h1
   ·exact absurd hx hn.1
   ·exact .inr h1) (by simp only [List.length_append, List.length_cons] at h ⊢; omega)
  intro x hx
  simp only [List.mem_append, List.mem_cons] at hx ⊢
  rcases hx with h1 | rfl | h1
  ·exact .inr (ih x (by simp [h1]))
  ·exact .inl rfl
  ·exact .inr (ih x (by simp [h1]))
theorem alikeD_flip (a b : List GMember) (h : (a.map (·.name)).Nodup) (h' : (b.map (·.name)).Nodup) : alikeD a b = alikeD b a := by
 rw [Bool.eq_iff_iff, alikeD_iff _ _ h', alikeD_iff _ _ h]
 constructor
 ·rintro ⟨h1, h2⟩; exact ⟨sub_perm (nodup_of h) h1 (by omega), h2.symm⟩
 ·rintro ⟨h1, h2⟩; exact ⟨sub_perm (nodup_of h') h1 (by omega), h2.symm⟩
theorem alikeD_perm {a b : List GMember} (h : (a.map (·.name)).Nodup) (hp : b.Perm a) : alikeD a b = true :=
 (alikeD_iff a b ((hp.map _).nodup_iff.2 h)).2 ⟨fun x hx => hp.mem_iff.2 hx, hp.length_eq.symm⟩
theorem alikeD_len (a b : List GMember) (h : a.length ≠ b.length) : alikeD a b = false := by
 simp [alikeD, h]
theorem alikeD_nil (m : List GMember) : alikeD [] m = ((m.length : Int) == 0) := by
 cases m <;> simp [alikeD]
 omega
theorem wrapped_ne (v : GValue) : eqC v (GValue.mk 6 0 [] [v] ([] : List GMember)) = false := by
 rw [Bool.eq_false_iff]
 intro h
 have h := eqC_iff.1 h
 have := congrArg szV h
 simp only [szV, szVs, List.length_nil] at this
 omega
theorem alikeD_wrapped (a : List GMember) (x : GMember) (r : List GMember) (h : (a.map (·.name)).Nodup) (hp : (x :: r).Perm a) :
  alikeD a ({ x with v := GValue.mk 6 0 [] [x.v] ([] : List GMember) } :: r) = false := by
 have hn : (({ x with v := GValue.mk 6 0 [] [x.v] ([] : List GMember) } :: r).map (·.name)).Nodup := by
  have := (hp.map (·.name)).nodup_iff.2 h
  simpa using this
 rw [Bool.eq_false_iff, Ne, alikeD_iff _ _ hn]
 rintro ⟨h1, _⟩
 have h2 := h1 x (hp.mem_iff.1 (by simp))
 rw [List.mem_cons] at h2
 rcases h2 with h2 | h2
 ·have h3 := congrArg GMember.v h2
  have := wrapped_ne x.v
  rw [Bool.eq_false_iff] at this
  exact this (eqC_iff.2 h3)
 ·have := nodup_of ((hp.map (·.name)).nodup_iff.2 h)
  rw [List.nodup_cons] at this
  exact this.1 h2
theorem szMs_small {l : List GMember} (h : bkSl bkMember l ≤ 1048576) : Sm l ∧ szMs l < 1073741824 := by
 have h4 := szMs_bk l
 rw [bkMembers_eq] at h4
 have h5 : bkSl bkMember l = sumL bkMember l + 1 := rfl
 have h6 := szMs_len l
 unfold Sm
 constructor <;> omega
theorem seinelaw19_MergeAlike_ok (l m : List GMember) (by0 : Int) (hl : bkSl bkMember l ≤ 1048576) (hm : bkSl bkMember m ≤ 1048576) : seinelaw19_MergeAlike l m by0 = some true := by
 apply seinelaw19_MergeAlike_run
 obtain ⟨sl, zl⟩ := szMs_small hl
 obtain ⟨sm, zm⟩ := szMs_small hm
 simp only [seinelaw19_MergeAlike_B, seinekeep_Size_ok _ (szArgs l (by omega)), seinekeep_Size_ok _ (szArgs m (by omega)), bnd_s, awake_ok, seineref13_Once_ok l sl, seineref13_Once_ok m sm]
 generalize decide (_ > (2000 : Int)) = c
 cases c
 case true => rfl
 simp only [cnd_f]
 cases hol : onceD l
 ·rfl
 cases hom : onceD m
 ·rfl
 have nl := (onceD_iff l).1 hol
 have nm := (onceD_iff m).1 hom
 simp only [Bool.not_true, cnd_f, merge_Alike_ok l m sl sm zl, merge_Alike_ok m l sm sl zm, merge_Alike_ok l l sl sl zl, bnd_s, alikeD_flip m l nm nl, beq_self_eq_true, alikeD_self l nl, alike_i1_ok, cnd_t]
 by_cases h0 : l = []
 ·subst h0
  simp only [alikeD_nil, beq_self_eq_true, List.length_nil, cnd_t]
  simp [cnd]
 have hpos : 0 < l.length := List.length_pos_iff.2 h0
 have e0 : ((l.length : Int) == 0) = false := by simp; omega
 have ll : l.length < 1073741824 := by have := szMs_len l; omega
 obtain ⟨k, hk, hr⟩ := rem_len l.length by0 hpos ll
 have ew : IntKind.wrap .i64 (k : Int) = (k : Int) := wi64 (by omega)
 simp only [e0, cnd_f, hr, bnd_s, ew, tslc_drop l k (by omega), tslc_take l k (by omega)]
 have e1 : tapp ([] : List GMember) (l.drop k) = some (l.drop k) := by rw [tapp_ok (by simp [lim_val]; omega)]; rfl
 have e2 : tapp (l.drop k) (l.take k) = some (l.drop k ++ l.take k) := tapp_ok (by simp [lim_val]; omega)
 have hp : (l.drop k ++ l.take k).Perm l := (List.perm_append_comm).trans (by rw [List.take_append_drop])
 simp only [e1, e2, bnd_s]
 generalize l.drop k ++ l.take k = t at hp
 have lt : t.length = l.length := hp.length_eq
 have e3 : tapl t = some t := tapl_ok (by rw [lt, lim_val]; omega)
 obtain ⟨x, r, rfl⟩ : ∃ x r, t = x :: r := List.exists_cons_of_ne_nil (by intro h; subst h; simp at lt; omega)
 have e4 : tixR (x :: r).length 0 = some 0 := tixR_ok (by simp)
 have e5 : tget (x :: r) 0 (fun z : GMember => z.v) = some x.v := rfl
 have e6 : tput (x :: r) 0 (fun z : GMember => { z with v := (GValue.mk 6 0 [] [x.v] ([] : List GMember)) }) = some ({ x with v := (GValue.mk 6 0 [] [x.v] ([] : List GMember)) } :: r) := by
  rw [tput_ok (by simp)]; rfl
 have st : Sm (x :: r) := by unfold Sm; omega
 have e7 : tslc (x :: r) 1 ((x :: r).length : Int) = some r := by
  have := tslc_drop (x :: r) 1 (by simp)
  simpa using this
 have sr : Sm r := by unfold Sm at *; simp at st; omega
 have su : Sm ({ x with v := (GValue.mk 6 0 [] [x.v] ([] : List GMember)) } :: r) := by unfold Sm at *; simp at st ⊢; omega
 simp only [e3, e4, e5, e6, e7, bnd_s]
 have e8 : Nat.ble (x :: r).length ({ x with v := (GValue.mk 6 0 [] [x.v] ([] : List GMember)) } :: r).length = true := by simp
 have e9 : List.take (x :: r).length ({ x with v := (GValue.mk 6 0 [] [x.v] ([] : List GMember)) } :: r) = { x with v := (GValue.mk 6 0 [] [x.v] ([] : List GMember)) } :: r := by simp
 simp only [e8, e9, cnd_t, merge_Alike_ok l _ sl st zl, merge_Alike_ok l _ sl su zl, merge_Alike_ok l r sl sr zl, bnd_s, alikeD_perm nl hp, alikeD_wrapped l x r nl hp, alikeD_len l r (by rw [← lt]; simp), Bool.not_false, awake_ok]
open Go.ChangeShapes Go.WideShapes Go.ChangeAt Go.RowKit
theorem mixed : Try.prog.follows .mixedOrders = true := by kernel_rfl
theorem names : (Try.prog.funcs.toList.all fun fn => !fn.body.isSome || !(fn.name == "runtime.NumGoroutine")) = true := by kernel_rfl
theorem laid : laidOutB Try.prog = true := by kernel_rfl
theorem pok : POk Try.prog := by
 refine ⟨mixed, fun f fn hf hb => ?_⟩
 have hm : fn ∈ Try.prog.funcs.toList := by
  have := Array.mem_of_getElem? hf
  simpa using this
 have := List.all_eq_true.1 names fn hm
 rw [hb] at this
 simpa using this
theorem blOk {H : Type} : BlOk (H := H) Rows.uptoBulk Rows.uptoBulkAll := by
 refine ⟨fun l => ?_, fun s => ?_, ?_, fun es sp => ?_, fun ps => ?_, fun d r => ?_⟩
 ·cases l <;> simp [Rows.uptoBulk]
 ·simp [Rows.uptoBulk]
 ·simp [Rows.uptoBulk]
 ·simp only [Rows.uptoBulk]; omega
 ·simp only [Rows.uptoBulk]; omega
 ·simp [Rows.uptoBulkAll]
theorem own : ownKnob Try.prog.godebug = none := by kernel_rfl
end Go.Proofs.Ytfbaogfcpldlnaa

import Derived.Test.YtfbaogfcpldlnaaWa
set_option linter.unusedVariables false
set_option linter.unusedSimpArgs false
set_option linter.unusedSimpArgs false
open Go Go.Ev Go.RowKit
namespace Go.Proofs.Ytfbaogfcpldlnaa
def set6w (w : World) (b : Nat) (v0 v1 v2 v3 v4 v5 : Value) : World := (((((w.setCell ⟨b, 0, none⟩ v0).setCell ⟨b, 1, none⟩ v1).setCell ⟨b, 2, none⟩ v2).setCell ⟨b, 3, none⟩ v3).setCell ⟨b, 4, none⟩ v4).setCell ⟨b, 5, none⟩ v5
theorem set6_other {w : World} {b k : Nat} {v0 v1 v2 v3 v4 v5 : Value} (h : k ≠ b) : (set6w w b v0 v1 v2 v3 v4 v5).heap[k]? = w.heap[k]? := by
 unfold set6w
 rw [Below.heap_setCell _ _ _ _ h, Below.heap_setCell _ _ _ _ h, Below.heap_setCell _ _ _ _ h, Below.heap_setCell _ _ _ _ h, Below.heap_setCell _ _ _ _ h, Below.heap_setCell _ _ _ _ h]
theorem set6_size {w : World} {b : Nat} {v0 v1 v2 v3 v4 v5 : Value} : (set6w w b v0 v1 v2 v3 v4 v5).heap.size = w.heap.size := by simp [set6w, World.setCell]
theorem set6_at {w : World} {b T : Nat} {fz : Nat × Nat} {x0 x1 x2 x3 x4 x5 v0 v1 v2 v3 v4 v5 : Value} (h : w.heap[b]? = some (.cells #[x0, x1, x2, x3, x4, x5] T fz)) : (set6w w b v0 v1 v2 v3 v4 v5).heap[b]? = some (.cells #[v0, v1, v2, v3, v4, v5] T fz) := set6 h
theorem set6_below {n : Nat} {w w5 : World} {b : Nat} {v0 v1 v2 v3 v4 v5 : Value} (h : Below n w w5) (hb : n ≤ b) : Below n w (set6w w5 b v0 v1 v2 v3 v4 v5) :=
 ⟨by simp only [set6w, World.setCell]; exact h.os, by simp only [set6w, World.setCell]; exact h.tape, by simp only [set6w, World.setCell]; exact h.output, by rw [set6_size]; exact h.size, fun k hk => (set6_other (Nat.ne_of_lt (Nat.lt_of_lt_of_le hk hb))).trans (h.block k hk)⟩
theorem ShSt.six {M : Mem} {w : World} {A B : Array Value} {M5 : Mem} {w5 : World} (h : ShSt M w A B M5 w5) {gb : Nat} (hfree : ∀ i, M5 gb i = none) (hgb : w.heap.size + 1 + 1 < gb) (v0 v1 v2 v3 v4 v5 : Value) : ShSt M w A B M5 (set6w w5 gb v0 v1 v2 v3 v4 v5) := by
 have hc : Cons M5 (set6w w5 gb v0 v1 v2 v3 v4 v5) := by
  intro b i v hv
  obtain ⟨arr, T, fz, h1, h2⟩ := h.cons b i v hv
  refine ⟨arr, T, fz, (set6_other ?_).trans h1, h2⟩
  rintro rfl
  rw [hfree] at hv; cases hv
 have n0 : w.heap.size ≠ gb := by omega
 have n1 : w.heap.size + 1 ≠ gb := by omega
 have n2 : w.heap.size + 1 + 1 ≠ gb := by omega
 have n3 : w.heap.size ≤ gb := by omega
 exact ⟨hc, h.mem, set6_below h.below n3, (set6_other n0).trans h.a, (set6_other n1).trans h.b, (set6_other n2).trans h.c⟩
theorem cons_free {M : Mem} {w : World} (h : Cons M w) {b : Nat} (hb : w.heap.size ≤ b) (i : Nat) : M b i = none := by
 cases hm : M b i with
 | none => rfl
 | some v =>
  obtain ⟨arr, T, fz, h1, _⟩ := h b i v hm
  have := (Array.getElem?_eq_some_iff.1 h1).1
  omega
set_option maxHeartbeats 16000000 in
set_option maxRecDepth 100000 in
theorem sh6 {M : Mem} {w : World} {ka sb pb : Nat} {a0 : Option Addr} {l0 p0 : Nat} {no : Int} {fm : Value} (h : KAt M w ka sb pb a0 l0 p0 no fm) (hs : NoPairs w sb) (al al' on0 on' : ByteArray) (nm nm' : Str) (hnm : nm = [98] ∨ nm = [99]) (hnm' : nm' = [98] ∨ nm' = [99]) (a3 : Option Addr) (l3 p3 : Nat) (a4 : Option Addr) (l4 p4 : Nat) (a6 : Option Addr) (l6 p6 : Nat) (oa : Option Addr) (cap : Nat) (b3 : Option Addr) (m3 q3 : Nat) (b4 : Option Addr) (m4 q4 : Nat) (b6 : Option Addr) (m6 q6 : Nat) (oa' : Option Addr) (cap' : Nat)
  {M4 : Mem} {w4 : World} (hst4 : ShSt M w #[.int .i64 1, .int .i64 0, .string al, .string ⟨nm.toArray⟩, .slice a3 l3 p3, .slice a4 l4 p4, .string on0, .slice a6 l6 p6, .string ⟨#[81]⟩, .slice oa 0 cap] #[.int .i64 2, .int .i64 0, .string al', .string ⟨nm'.toArray⟩, .slice b3 m3 q3, .slice b4 m4 q4, .string on', .slice b6 m6 q6, .string ⟨#[81]⟩, .slice oa' 0 cap'] M4 w4) (fb : Nat) (f0 f1 f5 : Value) (hf : w4.heap[fb]? = some (.cells #[f0, f1, .string ⟨#[73, 110, 116]⟩, .int .i64 0, .int .i64 0, f5] 102 (0, 0))) (Q : Ending → World → Prop)
  (hQ : ∀ M6 w6 w7, ShSt M w #[.int .i64 1, .int .i64 0, .string al, .string ⟨nm.toArray⟩, .slice a3 l3 p3, .slice a4 l4 p4, .string on0, .slice a6 l6 p6, .string ⟨#[81]⟩, .slice oa 0 cap] #[.int .i64 2, .int .i64 0, .string al', .string ⟨nm'.toArray⟩, .slice b3 m3 q3, .slice b4 m4 q4, .string on', .slice b6 m6 q6, .string ⟨#[81]⟩, .slice oa' 0 cap'] M6 w6 → w6.grownBy w7 (some sb) → Q (.returned (.bool true)) w7) (v1 v2 v3 v6 v8 v9 v11 v12 v13 v14 v15 v16 v17 v18 v19 v20 v21 v22 v23 v24 v25 v26 v27 v28 v29 v30 v31 v32 v33 v34 v35 v36 v37 v38 v39 v40 v41 v42 v43 v44 v45 v46 v47 v48 v49 v50 v51 v52 v53 v54 v55 v56 v57 v58 v59 v60 v61 v62 v63 v64 v65 v66 v67 v68 v69 v70 v71 v72 v73 v74 v75 v76 v77 v78 v79 v80 : Value) :
  Code.wp Try.prog (tl101 4) (bodyPost Try.prog Try.f101 Q) ⟨#[.pointer (some ⟨ka, 0, none⟩), v1, v2, v3, .pointer (some ⟨w.heap.size, 0, none⟩), .pointer (some ⟨w.heap.size + 1, 0, none⟩), v6, .pointer (some ⟨w.heap.size + 1 + 1, 0, none⟩), v8, v9, .pointer (some ⟨fb, 0, none⟩), v11, v12, v13, v14, v15, v16, v17, v18, v19, v20, v21, v22, v23, v24, v25, v26, v27, v28, v29, v30, v31, v32, v33, v34, v35, v36, v37, v38, v39, v40, v41, v42, v43, v44, v45, v46, v47, v48, v49, v50, v51, v52, v53, v54, v55, v56, v57, v58, v59, v60, v61, v62, v63, v64, v65, v66, v67, v68, v69, v70, v71, v72, v73, v74, v75, v76, v77, v78, v79, v80], []⟩ w4 := by
 have hkl : ka < w.heap.size := (Array.getElem?_eq_some_iff.1 h.row).1
 have hd4 : Below w4.heap.size w4 w4.drew := (Below.refl w4.heap.size w4).drew
 have hst4d := hst4.bl hd4
 have hbZ : Below w4.heap.size w4 (w4.alloc (.cells #[.string ⟨#[]⟩, .slice none 0 0, .string ⟨#[]⟩, .int .i64 0, .int .i64 0, .slice none 0 0] 102)).drew := ((Below.refl _ _).alloc (Nat.le_refl _) _).drew
 have hst4z := hst4.bl hbZ
 have hltZ : w4.heap.size < (w4.alloc (.cells #[.string ⟨#[]⟩, .slice none 0 0, .string ⟨#[]⟩, .int .i64 0, .int .i64 0, .slice none 0 0] 102)).drew.heap.size := (Array.getElem?_eq_some_iff.1 (heap_alloc_new w4 (.cells #[.string ⟨#[]⟩, .slice none 0 0, .string ⟨#[]⟩, .int .i64 0, .int .i64 0, .slice none 0 0] 102))).1
 have hZ : Hid (∀ (w5 : World) (M5 : Mem), Quiet M4 (w4.alloc (.cells #[.string ⟨#[]⟩, .slice none 0 0, .string ⟨#[]⟩, .int .i64 0, .int .i64 0, .slice none 0 0] 102)).drew M5 w5 → w5.heap[w4.heap.size]? = some (.cells #[.string ⟨#[]⟩, .slice none 0 0, .string ⟨#[]⟩, .int .i64 0, .int .i64 0, .slice none 0 0] 102 (0, 0)) ∧ ∀ i, M5 w4.heap.size i = none) := fun w5 M5 hq => ⟨(hq.old w4.heap.size hltZ).1.trans (heap_alloc_new w4 _), fun i => ((hq.old w4.heap.size hltZ).2 i).trans (cons_free hst4.cons (Nat.le_refl _) i)⟩
 have hcA := field_call nm' hnm' _ _ _ hst4d.cons (h.rs.mono hst4d.mem (fun _ _ _ h => h))
 have hcB := field_call nm' hnm' _ _ _ hst4z.cons (h.rs.mono hst4z.mem (fun _ _ _ h => h))
 have hrow4 := (hst4.below.block ka hkl).trans h.row
 have k0 : w4.cell? ⟨ka, 0, none⟩ = some (.slice a0 l0 p0) := by rw [cell_of_row w4 _ _ _ _ _ hrow4]; rfl
 have k1 : w4.cell? ⟨ka, 1, none⟩ = some (.string ⟨mWorld.query.toArray⟩) := by rw [cell_of_row w4 _ _ _ _ _ hrow4]; rfl
 have k2 : w4.cell? ⟨ka, 2, none⟩ = some (.string ⟨mWorld.mutation.toArray⟩) := by rw [cell_of_row w4 _ _ _ _ _ hrow4]; rfl
 obtain ⟨_, _, _, e3, _, _, _, _, e8, _⟩ := c10 hst4.b
 have hl4 : ka < w4.heap.size := Nat.lt_of_lt_of_le hkl hst4.below.size
 have ha4 : w.heap.size < w4.heap.size := (Array.getElem?_eq_some_iff.1 hst4.a).1
 have hb4 : w.heap.size + 1 < w4.heap.size := (Array.getElem?_eq_some_iff.1 hst4.b).1
 have hc4 : w.heap.size + 1 + 1 < w4.heap.size := (Array.getElem?_eq_some_iff.1 hst4.c).1
 have hfl : fb < w4.heap.size := (Array.getElem?_eq_some_iff.1 hf).1
 -- behind it
 have hA : Hid (∀ (M5 : Mem) (w5 : World), Cons M5 w5 → Quiet M4 w4.drew M5 w5 → ∀ v0 v1 v2 v3 v4 v5 : Value, ShSt M w #[.int .i64 1, .int .i64 0, .string al, .string ⟨nm.toArray⟩, .slice a3 l3 p3, .slice a4 l4 p4, .string on0, .slice a6 l6 p6, .string ⟨#[81]⟩, .slice oa 0 cap] #[.int .i64 2, .int .i64 0, .string al', .string ⟨nm'.toArray⟩, .slice b3 m3 q3, .slice b4 m4 q4, .string on', .slice b6 m6 q6, .string ⟨#[81]⟩, .slice oa' 0 cap'] M5 (w5.alloc (.cells #[v0, v1, v2, v3, v4, v5] 102)) ∧ (w5.alloc (.cells #[v0, v1, v2, v3, v4, v5] 102)).heap[w5.heap.size]? = some (.cells #[v0, v1, v2, v3, v4, v5] 102 (0, 0)) ∧ (w5.alloc (.cells #[v0, v1, v2, v3, v4, v5] 102)).heap[fb]? = some (.cells #[f0, f1, .string ⟨#[73, 110, 116]⟩, .int .i64 0, .int .i64 0, f5] 102 (0, 0))) := by
  intro M5 w5 hc5 hq5 v0 v1 v2 v3 v4 v5
  have h5 := hst4d.quiet hq5 hc5
  have hl5 : w4.heap.size ≤ w5.heap.size := hq5.size
  exact ⟨h5.bl ((Below.refl w5.heap.size w5).alloc (Nat.le_refl _) _), heap_alloc_new w5 _, (heap_alloc_old w5 _ (by omega)).trans ((hq5.old fb (by exact hfl)).1.trans hf)⟩
 have hB : Hid (∀ (M5 : Mem) (w5 : World), Cons M5 w5 → Quiet M4 (w4.alloc (.cells #[.string ⟨#[]⟩, .slice none 0 0, .string ⟨#[]⟩, .int .i64 0, .int .i64 0, .slice none 0 0] 102)).drew M5 w5 → ∀ v0 v1 v2 v3 v4 v5 : Value, ShSt M w #[.int .i64 1, .int .i64 0, .string al, .string ⟨nm.toArray⟩, .slice a3 l3 p3, .slice a4 l4 p4, .string on0, .slice a6 l6 p6, .string ⟨#[81]⟩, .slice oa 0 cap] #[.int .i64 2, .int .i64 0, .string al', .string ⟨nm'.toArray⟩, .slice b3 m3 q3, .slice b4 m4 q4, .string on', .slice b6 m6 q6, .string ⟨#[81]⟩, .slice oa' 0 cap'] M5 (set6w w5 w4.heap.size v0 v1 v2 v3 v4 v5) ∧ (set6w w5 w4.heap.size v0 v1 v2 v3 v4 v5).heap[w4.heap.size]? = some (.cells #[v0, v1, v2, v3, v4, v5] 102 (0, 0)) ∧ (set6w w5 w4.heap.size v0 v1 v2 v3 v4 v5).heap[fb]? = some (.cells #[f0, f1, .string ⟨#[73, 110, 116]⟩, .int .i64 0, .int .i64 0, f5] 102 (0, 0))) := by
  intro M5 w5 hc5 hq5 v0 v1 v2 v3 v4 v5
  have h5 := hst4z.quiet hq5 hc5
  obtain ⟨z1, z2⟩ := hZ.out w5 M5 hq5
  refine ⟨h5.six z2 (by omega) v0 v1 v2 v3 v4 v5, set6_at z1, (set6_other (by omega)).trans ((hq5.old fb (Nat.lt_of_lt_of_le hfl hbZ.size)).1.trans ((heap_alloc_old w4 _ hfl).trans hf))⟩
 obtain ⟨fn, hfn⟩ : ∃ fn, fn = Try.f101 := ⟨_, rfl⟩
 rw [← hfn]
 replace hfn : Hid (fn = Try.f101) := hfn
 unfold tl101
 simp only [Try.f101, dropSeq]
 go_wp2
 rename_i K5 hK5
 replace hK5 := (id hK5 : Hid _)
 have after5 : Hid (∀ (M5 : Mem) (w5 : World) (gb : Nat) (n0 : ByteArray) (c1 c5 : Value) (v1 v2 v3 v6 v8 v9 v11 v13 v14 v15 v16 v17 v18 v19 v20 v21 v22 v23 v24 v25 v26 v27 v28 v29 v30 v31 v32 v33 v34 v35 v36 v37 v38 v39 v40 v41 v42 v43 v44 v45 v46 v47 v48 v49 v50 v51 v52 v53 v54 v55 v56 v57 v58 v59 v60 v61 v62 v63 v64 v65 v66 v67 v68 v69 v70 v71 v72 v73 v74 v75 v76 v77 v78 v79 v80 : Value), ShSt M w #[.int .i64 1, .int .i64 0, .string al, .string ⟨nm.toArray⟩, .slice a3 l3 p3, .slice a4 l4 p4, .string on0, .slice a6 l6 p6, .string ⟨#[81]⟩, .slice oa 0 cap] #[.int .i64 2, .int .i64 0, .string al', .string ⟨nm'.toArray⟩, .slice b3 m3 q3, .slice b4 m4 q4, .string on', .slice b6 m6 q6, .string ⟨#[81]⟩, .slice oa' 0 cap'] M5 w5 → w5.heap[gb]? = some (.cells #[.string n0, c1, .string ⟨#[73, 110, 116]⟩, .int .i64 0, .int .i64 0, c5] 102 (0, 0)) → w5.heap[fb]? = some (.cells #[f0, f1, .string ⟨#[73, 110, 116]⟩, .int .i64 0, .int .i64 0, f5] 102 (0, 0)) → K5 ⟨#[.pointer (some ⟨ka, 0, none⟩), v1, v2, v3, .pointer (some ⟨w.heap.size, 0, none⟩), .pointer (some ⟨w.heap.size + 1, 0, none⟩), v6, .pointer (some ⟨w.heap.size + 1 + 1, 0, none⟩), v8, v9, .pointer (some ⟨fb, 0, none⟩), v11, .pointer (some ⟨gb, 0, none⟩), v13, v14, v15, v16, v17, v18, v19, v20, v21, v22, v23, v24, v25, v26, v27, v28, v29, v30, v31, v32, v33, v34, v35, v36, v37, v38, v39, v40, v41, v42, v43, v44, v45, v46, v47, v48, v49, v50, v51, v52, v53, v54, v55, v56, v57, v58, v59, v60, v61, v62, v63, v64, v65, v66, v67, v68, v69, v70, v71, v72, v73, v74, v75, v76, v77, v78, v79, v80], []⟩ w5) := by
  intro M5 w5 gb n0 c1 c5 v1 v2 v3 v6 v8 v9 v11 v13 v14 v15 v16 v17 v18 v19 v20 v21 v22 v23 v24 v25 v26 v27 v28 v29 v30 v31 v32 v33 v34 v35 v36 v37 v38 v39 v40 v41 v42 v43 v44 v45 v46 v47 v48 v49 v50 v51 v52 v53 v54 v55 v56 v57 v58 v59 v60 v61 v62 v63 v64 v65 v66 v67 v68 v69 v70 v71 v72 v73 v74 v75 v76 v77 v78 v79 v80 h5 h6 h7
  have e := hfn.out
  subst e
  refine hK5.out _ _ ?_
  exact sh7 h hs al al' on0 on' ⟨nm.toArray⟩ ⟨nm'.toArray⟩ ⟨#[81]⟩ ⟨#[81]⟩ a3 l3 p3 a4 l4 p4 a6 l6 p6 oa cap b3 m3 q3 b4 m4 q4 b6 m6 q6 oa' cap' h5 fb gb f0 f1 f5 _ _ _ h7 h6 Q hQ v1 v2 v3 v6 v8 v9 v11 v13 v14 v15 v16 v17 v18 v19 v20 v21 v22 v23 v24 v25 v26 v27 v28 v29 v30 v31 v32 v33 v34 v35 v36 v37 v38 v39 v40 v41 v42 v43 v44 v45 v46 v47 v48 v49 v50 v51 v52 v53 v54 v55 v56 v57 v58 v59 v60 v61 v62 v63 v64 v65 v66 v67 v68 v69 v70 v71 v72 v73 v74 v75 v76 v77 v78 v79 v80
 clear hQ hfn
 go_region_with (go_at_call 100; first | (refine hcA.mono ?_; rintro e' w5 ⟨a7, l7, p7, a8, l8, p8, M5, rfl, hc5, hq5⟩; have hl5 : w4.heap.size ≤ w5.heap.size := hq5.size) | (refine hcB.mono ?_; rintro e' w5 ⟨a7, l7, p7, a8, l8, p8, M5, rfl, hc5, hq5⟩; have hl5 : w4.heap.size < w5.heap.size := Nat.lt_of_lt_of_le hltZ hq5.size; obtain ⟨⟨z0, z1, z2, z3, z4, z5⟩, y0, y1, y2, y3, y4, y5⟩ := c6 (hZ.out w5 M5 hq5).1))
 all_goals first
  | (have hh := hA.out M5 w5 hc5 hq5; exact after5.out M5 _ w5.heap.size _ _ _ _ _ _ _ _ _ _ _ _ _ _ _ _ _ _ _ _ _ _ _ _ _ _ _ _ _ _ _ _ _ _ _ _ _ _ _ _ _ _ _ _ _ _ _ _ _ _ _ _ _ _ _ _ _ _ _ _ _ _ _ _ _ _ _ _ _ _ _ _ _ _ _ _ _ _ (hh _ _ _ _ _ _).1 (hh _ _ _ _ _ _).2.1 (hh _ _ _ _ _ _).2.2)
  | (have hh := hB.out M5 w5 hc5 hq5; exact after5.out M5 _ w4.heap.size _ _ _ _ _ _ _ _ _ _ _ _ _ _ _ _ _ _ _ _ _ _ _ _ _ _ _ _ _ _ _ _ _ _ _ _ _ _ _ _ _ _ _ _ _ _ _ _ _ _ _ _ _ _ _ _ _ _ _ _ _ _ _ _ _ _ _ _ _ _ _ _ _ _ _ _ _ _ (hh _ _ _ _ _ _).1 (hh _ _ _ _ _ _).2.1 (hh _ _ _ _ _ _).2.2)
open Go Go.Ev Go.RowKit
set_option maxHeartbeats 16000000 in
set_option maxRecDepth 100000 in
theorem sh5 {M : Mem} {w : World} {ka sb pb : Nat} {a0 : Option Addr} {l0 p0 : Nat} {no : Int} {fm : Value} (h : KAt M w ka sb pb a0 l0 p0 no fm) (hs : NoPairs w sb) (al al' on0 on' : ByteArray) (nm nm' : Str) (hnm : nm = [98] ∨ nm = [99]) (hnm' : nm' = [98] ∨ nm' = [99]) (a3 : Option Addr) (l3 p3 : Nat) (a4 : Option Addr) (l4 p4 : Nat) (a6 : Option Addr) (l6 p6 : Nat) (oa : Option Addr) (cap : Nat) (b3 : Option Addr) (m3 q3 : Nat) (b4 : Option Addr) (m4 q4 : Nat) (b6 : Option Addr) (m6 q6 : Nat) (oa' : Option Addr) (cap' : Nat)
  {M4 : Mem} {w4 : World} (hst4 : ShSt M w #[.int .i64 1, .int .i64 0, .string al, .string ⟨nm.toArray⟩, .slice a3 l3 p3, .slice a4 l4 p4, .string on0, .slice a6 l6 p6, .string ⟨#[81]⟩, .slice oa 0 cap] #[.int .i64 2, .int .i64 0, .string al', .string ⟨nm'.toArray⟩, .slice b3 m3 q3, .slice b4 m4 q4, .string on', .slice b6 m6 q6, .string ⟨#[81]⟩, .slice oa' 0 cap'] M4 w4) (Q : Ending → World → Prop)
  (hQ : ∀ M6 w6 w7, ShSt M w #[.int .i64 1, .int .i64 0, .string al, .string ⟨nm.toArray⟩, .slice a3 l3 p3, .slice a4 l4 p4, .string on0, .slice a6 l6 p6, .string ⟨#[81]⟩, .slice oa 0 cap] #[.int .i64 2, .int .i64 0, .string al', .string ⟨nm'.toArray⟩, .slice b3 m3 q3, .slice b4 m4 q4, .string on', .slice b6 m6 q6, .string ⟨#[81]⟩, .slice oa' 0 cap'] M6 w6 → w6.grownBy w7 (some sb) → Q (.returned (.bool true)) w7) (v1 v2 v3 v6 v8 v9 v10 v11 v12 v13 v14 v15 v16 v17 v18 v19 v20 v21 v22 v23 v24 v25 v26 v27 v28 v29 v30 v31 v32 v33 v34 v35 v36 v37 v38 v39 v40 v41 v42 v43 v44 v45 v46 v47 v48 v49 v50 v51 v52 v53 v54 v55 v56 v57 v58 v59 v60 v61 v62 v63 v64 v65 v66 v67 v68 v69 v70 v71 v72 v73 v74 v75 v76 v77 v78 v79 v80 : Value) :
  Code.wp Try.prog (tl101 3) (bodyPost Try.prog Try.f101 Q) ⟨#[.pointer (some ⟨ka, 0, none⟩), v1, v2, v3, .pointer (some ⟨w.heap.size, 0, none⟩), .pointer (some ⟨w.heap.size + 1, 0, none⟩), v6, .pointer (some ⟨w.heap.size + 1 + 1, 0, none⟩), v8, v9, v10, v11, v12, v13, v14, v15, v16, v17, v18, v19, v20, v21, v22, v23, v24, v25, v26, v27, v28, v29, v30, v31, v32, v33, v34, v35, v36, v37, v38, v39, v40, v41, v42, v43, v44, v45, v46, v47, v48, v49, v50, v51, v52, v53, v54, v55, v56, v57, v58, v59, v60, v61, v62, v63, v64, v65, v66, v67, v68, v69, v70, v71, v72, v73, v74, v75, v76, v77, v78, v79, v80], []⟩ w4 := by
 have hkl : ka < w.heap.size := (Array.getElem?_eq_some_iff.1 h.row).1
 have hd4 : Below w4.heap.size w4 w4.drew := (Below.refl w4.heap.size w4).drew
 have hst4d := hst4.bl hd4
 have hbZ : Below w4.heap.size w4 (w4.alloc (.cells #[.string ⟨#[]⟩, .slice none 0 0, .string ⟨#[]⟩, .int .i64 0, .int .i64 0, .slice none 0 0] 102)).drew := ((Below.refl _ _).alloc (Nat.le_refl _) _).drew
 have hst4z := hst4.bl hbZ
 have hltZ : w4.heap.size < (w4.alloc (.cells #[.string ⟨#[]⟩, .slice none 0 0, .string ⟨#[]⟩, .int .i64 0, .int .i64 0, .slice none 0 0] 102)).drew.heap.size := (Array.getElem?_eq_some_iff.1 (heap_alloc_new w4 (.cells #[.string ⟨#[]⟩, .slice none 0 0, .string ⟨#[]⟩, .int .i64 0, .int .i64 0, .slice none 0 0] 102))).1
 have hZ : Hid (∀ (w5 : World) (M5 : Mem), Quiet M4 (w4.alloc (.cells #[.string ⟨#[]⟩, .slice none 0 0, .string ⟨#[]⟩, .int .i64 0, .int .i64 0, .slice none 0 0] 102)).drew M5 w5 → w5.heap[w4.heap.size]? = some (.cells #[.string ⟨#[]⟩, .slice none 0 0, .string ⟨#[]⟩, .int .i64 0, .int .i64 0, .slice none 0 0] 102 (0, 0)) ∧ ∀ i, M5 w4.heap.size i = none) := fun w5 M5 hq => ⟨(hq.old w4.heap.size hltZ).1.trans (heap_alloc_new w4 _), fun i => ((hq.old w4.heap.size hltZ).2 i).trans (cons_free hst4.cons (Nat.le_refl _) i)⟩
 have hcA := field_call nm hnm _ _ _ hst4d.cons (h.rs.mono hst4d.mem (fun _ _ _ h => h))
 have hcB := field_call nm hnm _ _ _ hst4z.cons (h.rs.mono hst4z.mem (fun _ _ _ h => h))
 have hrow4 := (hst4.below.block ka hkl).trans h.row
 have k0 : w4.cell? ⟨ka, 0, none⟩ = some (.slice a0 l0 p0) := by rw [cell_of_row w4 _ _ _ _ _ hrow4]; rfl
 have k1 : w4.cell? ⟨ka, 1, none⟩ = some (.string ⟨mWorld.query.toArray⟩) := by rw [cell_of_row w4 _ _ _ _ _ hrow4]; rfl
 have k2 : w4.cell? ⟨ka, 2, none⟩ = some (.string ⟨mWorld.mutation.toArray⟩) := by rw [cell_of_row w4 _ _ _ _ _ hrow4]; rfl
 obtain ⟨_, _, _, e3, _, _, _, _, e8, _⟩ := c10 hst4.a
 have hl4 : ka < w4.heap.size := Nat.lt_of_lt_of_le hkl hst4.below.size
 have ha4 : w.heap.size < w4.heap.size := (Array.getElem?_eq_some_iff.1 hst4.a).1
 have hb4 : w.heap.size + 1 < w4.heap.size := (Array.getElem?_eq_some_iff.1 hst4.b).1
 have hc4 : w.heap.size + 1 + 1 < w4.heap.size := (Array.getElem?_eq_some_iff.1 hst4.c).1
 -- behind it
 have hA : Hid (∀ (M5 : Mem) (w5 : World), Cons M5 w5 → Quiet M4 w4.drew M5 w5 → ∀ v0 v1 v2 v3 v4 v5 : Value, ShSt M w #[.int .i64 1, .int .i64 0, .string al, .string ⟨nm.toArray⟩, .slice a3 l3 p3, .slice a4 l4 p4, .string on0, .slice a6 l6 p6, .string ⟨#[81]⟩, .slice oa 0 cap] #[.int .i64 2, .int .i64 0, .string al', .string ⟨nm'.toArray⟩, .slice b3 m3 q3, .slice b4 m4 q4, .string on', .slice b6 m6 q6, .string ⟨#[81]⟩, .slice oa' 0 cap'] M5 (w5.alloc (.cells #[v0, v1, v2, v3, v4, v5] 102)) ∧ (w5.alloc (.cells #[v0, v1, v2, v3, v4, v5] 102)).heap[w5.heap.size]? = some (.cells #[v0, v1, v2, v3, v4, v5] 102 (0, 0))) := by
  intro M5 w5 hc5 hq5 v0 v1 v2 v3 v4 v5
  have h5 := hst4d.quiet hq5 hc5
  have hl5 : w4.heap.size ≤ w5.heap.size := hq5.size
  exact ⟨h5.bl ((Below.refl w5.heap.size w5).alloc (Nat.le_refl _) _), heap_alloc_new w5 _⟩
 have hB : Hid (∀ (M5 : Mem) (w5 : World), Cons M5 w5 → Quiet M4 (w4.alloc (.cells #[.string ⟨#[]⟩, .slice none 0 0, .string ⟨#[]⟩, .int .i64 0, .int .i64 0, .slice none 0 0] 102)).drew M5 w5 → ∀ v0 v1 v2 v3 v4 v5 : Value, ShSt M w #[.int .i64 1, .int .i64 0, .string al, .string ⟨nm.toArray⟩, .slice a3 l3 p3, .slice a4 l4 p4, .string on0, .slice a6 l6 p6, .string ⟨#[81]⟩, .slice oa 0 cap] #[.int .i64 2, .int .i64 0, .string al', .string ⟨nm'.toArray⟩, .slice b3 m3 q3, .slice b4 m4 q4, .string on', .slice b6 m6 q6, .string ⟨#[81]⟩, .slice oa' 0 cap'] M5 (set6w w5 w4.heap.size v0 v1 v2 v3 v4 v5) ∧ (set6w w5 w4.heap.size v0 v1 v2 v3 v4 v5).heap[w4.heap.size]? = some (.cells #[v0, v1, v2, v3, v4, v5] 102 (0, 0))) := by
  intro M5 w5 hc5 hq5 v0 v1 v2 v3 v4 v5
  have h5 := hst4z.quiet hq5 hc5
  obtain ⟨z1, z2⟩ := hZ.out w5 M5 hq5
  refine ⟨h5.six z2 (by omega) v0 v1 v2 v3 v4 v5, set6_at z1⟩
 obtain ⟨fn, hfn⟩ : ∃ fn, fn = Try.f101 := ⟨_, rfl⟩
 rw [← hfn]
 replace hfn : Hid (fn = Try.f101) := hfn
 unfold tl101
 simp only [Try.f101, dropSeq]
 go_wp2
 rename_i K5 hK5
 replace hK5 := (id hK5 : Hid _)
 have after5 : Hid (∀ (M5 : Mem) (w5 : World) (gb : Nat) (n0 : ByteArray) (c1 c5 : Value) (v1 v2 v3 v6 v8 v9 v11 v12 v13 v14 v15 v16 v17 v18 v19 v20 v21 v22 v23 v24 v25 v26 v27 v28 v29 v30 v31 v32 v33 v34 v35 v36 v37 v38 v39 v40 v41 v42 v43 v44 v45 v46 v47 v48 v49 v50 v51 v52 v53 v54 v55 v56 v57 v58 v59 v60 v61 v62 v63 v64 v65 v66 v67 v68 v69 v70 v71 v72 v73 v74 v75 v76 v77 v78 v79 v80 : Value), ShSt M w #[.int .i64 1, .int .i64 0, .string al, .string ⟨nm.toArray⟩, .slice a3 l3 p3, .slice a4 l4 p4, .string on0, .slice a6 l6 p6, .string ⟨#[81]⟩, .slice oa 0 cap] #[.int .i64 2, .int .i64 0, .string al', .string ⟨nm'.toArray⟩, .slice b3 m3 q3, .slice b4 m4 q4, .string on', .slice b6 m6 q6, .string ⟨#[81]⟩, .slice oa' 0 cap'] M5 w5 → w5.heap[gb]? = some (.cells #[.string n0, c1, .string ⟨#[73, 110, 116]⟩, .int .i64 0, .int .i64 0, c5] 102 (0, 0)) → K5 ⟨#[.pointer (some ⟨ka, 0, none⟩), v1, v2, v3, .pointer (some ⟨w.heap.size, 0, none⟩), .pointer (some ⟨w.heap.size + 1, 0, none⟩), v6, .pointer (some ⟨w.heap.size + 1 + 1, 0, none⟩), v8, v9, .pointer (some ⟨gb, 0, none⟩), v11, v12, v13, v14, v15, v16, v17, v18, v19, v20, v21, v22, v23, v24, v25, v26, v27, v28, v29, v30, v31, v32, v33, v34, v35, v36, v37, v38, v39, v40, v41, v42, v43, v44, v45, v46, v47, v48, v49, v50, v51, v52, v53, v54, v55, v56, v57, v58, v59, v60, v61, v62, v63, v64, v65, v66, v67, v68, v69, v70, v71, v72, v73, v74, v75, v76, v77, v78, v79, v80], []⟩ w5) := by
  intro M5 w5 gb n0 c1 c5 v1 v2 v3 v6 v8 v9 v11 v12 v13 v14 v15 v16 v17 v18 v19 v20 v21 v22 v23 v24 v25 v26 v27 v28 v29 v30 v31 v32 v33 v34 v35 v36 v37 v38 v39 v40 v41 v42 v43 v44 v45 v46 v47 v48 v49 v50 v51 v52 v53 v54 v55 v56 v57 v58 v59 v60 v61 v62 v63 v64 v65 v66 v67 v68 v69 v70 v71 v72 v73 v74 v75 v76 v77 v78 v79 v80 h5 h6
  have e := hfn.out
  subst e
  refine hK5.out _ _ ?_
  exact sh6 h hs al al' on0 on' nm nm' hnm hnm' a3 l3 p3 a4 l4 p4 a6 l6 p6 oa cap b3 m3 q3 b4 m4 q4 b6 m6 q6 oa' cap' h5 gb _ _ _ h6 Q hQ v1 v2 v3 v6 v8 v9 v11 v12 v13 v14 v15 v16 v17 v18 v19 v20 v21 v22 v23 v24 v25 v26 v27 v28 v29 v30 v31 v32 v33 v34 v35 v36 v37 v38 v39 v40 v41 v42 v43 v44 v45 v46 v47 v48 v49 v50 v51 v52 v53 v54 v55 v56 v57 v58 v59 v60 v61 v62 v63 v64 v65 v66 v67 v68 v69 v70 v71 v72 v73 v74 v75 v76 v77 v78 v79 v80
 clear hQ hfn
 go_region_with (go_at_call 100; first | (refine hcA.mono ?_; rintro e' w5 ⟨a7, l7, p7, a8, l8, p8, M5, rfl, hc5, hq5⟩; have hl5 : w4.heap.size ≤ w5.heap.size := hq5.size) | (refine hcB.mono ?_; rintro e' w5 ⟨a7, l7, p7, a8, l8, p8, M5, rfl, hc5, hq5⟩; have hl5 : w4.heap.size < w5.heap.size := Nat.lt_of_lt_of_le hltZ hq5.size; obtain ⟨⟨z0, z1, z2, z3, z4, z5⟩, y0, y1, y2, y3, y4, y5⟩ := c6 (hZ.out w5 M5 hq5).1))
 all_goals first
  | (have hh := hA.out M5 w5 hc5 hq5; exact after5.out M5 _ w5.heap.size _ _ _ _ _ _ _ _ _ _ _ _ _ _ _ _ _ _ _ _ _ _ _ _ _ _ _ _ _ _ _ _ _ _ _ _ _ _ _ _ _ _ _ _ _ _ _ _ _ _ _ _ _ _ _ _ _ _ _ _ _ _ _ _ _ _ _ _ _ _ _ _ _ _ _ _ _ _ _ (hh _ _ _ _ _ _).1 (hh _ _ _ _ _ _).2)
  | (have hh := hB.out M5 w5 hc5 hq5; exact after5.out M5 _ w4.heap.size _ _ _ _ _ _ _ _ _ _ _ _ _ _ _ _ _ _ _ _ _ _ _ _ _ _ _ _ _ _ _ _ _ _ _ _ _ _ _ _ _ _ _ _ _ _ _ _ _ _ _ _ _ _ _ _ _ _ _ _ _ _ _ _ _ _ _ _ _ _ _ _ _ _ _ _ _ _ _ (hh _ _ _ _ _ _).1 (hh _ _ _ _ _ _).2)
end Go.Proofs.Ytfbaogfcpldlnaa

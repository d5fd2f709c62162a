import Derived.Test.YtfbaogfcpldlnaaWc
import Derived.Deep.RegionLaw
set_option linter.unusedVariables false
set_option linter.unusedSimpArgs false
set_option linter.unusedSimpArgs false
open Go Go.Ev Go.RowKit
namespace Go.Proofs.Ytfbaogfcpldlnaa
abbrev xCells (x : GSel) (c3 c4 c6 : Value) : List Value := [.int .i64 x.kind, .string ⟨x.alias.toArray⟩, .string ⟨x.name.toArray⟩, c3, c4, .string ⟨x.on_.toArray⟩, c6]
structure CV (M : Mem) (x : GSel) (c3 c4 c6 : Value) : Prop where
 r3 : Rv M noB (.slice (List.map encMember x.args) [] false) c3
 r4 : Rv M noB (.slice (List.map encDir x.dirs) [] false) c4
 r6 : Rv M noB (.slice (List.map encSel x.sels) [] false) c6
theorem CV.mono {M M' : Mem} {x : GSel} {c3 c4 c6 : Value} (h : CV M x c3 c4 c6) (hM : ∀ b i v, M b i = some v → M' b i = some v) : CV M' x c3 c4 c6 :=
 ⟨h.r3.mono hM (fun _ _ _ h => h), h.r4.mono hM (fun _ _ _ h => h), h.r6.mono hM (fun _ _ _ h => h)⟩
theorem rv_selL {M : Mem} {x : GSel} {l : List Value} (h : RvL M noB (encSel x).cells l) : ∃ c3 c4 c6, l = xCells x c3 c4 c6 ∧ CV M x c3 c4 c6 := by
 rw [encSel_eq] at h
 cases h with | cons r0 h =>
 cases h with | cons r1 h =>
 cases h with | cons r2 h =>
 cases h with | cons r3 h =>
 cases h with | cons r4 h =>
 cases h with | cons r5 h =>
 cases h with | cons r6 h =>
 cases h
 cases r0
 cases r1
 cases r2
 cases r5
 exact ⟨_, _, _, rfl, r3, r4, r6⟩
theorem sel_slice {M : Mem} {w : World} {l : List GSel} {c : Value} (hc : Cons M w) (h : Rv M noB (.slice (List.map encSel l) [] false) c) :
  ∃ oa cap, c = .slice oa l.length cap ∧ l.length ≤ cap ∧ (l ≠ [] → ∃ blk off, oa = some ⟨blk, off, none⟩) ∧ ∀ (blk off : Nat), oa = some ⟨blk, off, none⟩ → ∀ (k : Nat) (x : GSel), l[k]? = some x → ∃ c3 c4 c6, CV M x c3 c4 c6 ∧ ∀ (j : Nat) (v : Value), (xCells x c3 c4 c6)[j]? = some v → M blk (off + k * 7 + j) = some v := by
 generalize hes : List.map encSel l = es at h
 cases h with
 | nil o =>
  have : l = [] := by simpa using hes
  subst this
  exact ⟨none, 0, rfl, Nat.le_refl _, fun h => absurd rfl h, fun _ _ h => by simp at h⟩
 | slice es' bs o a cap s f ha hcp ho hel hm hr =>
  have hl : es.length = l.length := by rw [← hes]; simp
  have hle : l.length ≤ cap := by simp at hcp; omega
  refine ⟨some a, cap, by rw [hl], hle, fun hne => ⟨a.block, a.off, by
   have := ha (by have := List.length_pos_iff.2 hne; omega)
   obtain ⟨b, o, s⟩ := a; simp only at this; rw [this]⟩, fun blk off hoa k x hx => ?_⟩
  cases hoa
  have hx' : (es ++ [])[k]? = some (encSel x) := by rw [List.append_nil, ← hes, List.getElem?_map, hx]; rfl
  have hs : s = 7 := by
   have := hel k _ hx'
   obtain ⟨_, _, h3, _⟩ := this
   rw [encSel_eq] at h3
   exact h3.symm
  subst hs
  have hk : k < l.length := (List.getElem?_eq_some_iff.1 hx).1
  have hR : RvL M noB (encSel x).cells [f k 0, f k 1, f k 2, f k 3, f k 4, f k 5, f k 6] := by
   refine rvl_of _ _ (by rw [encSel_eq]; rfl) fun i c v h1 h2 => ?_
   have hi : i < 7 := by have := (List.getElem?_eq_some_iff.1 h2).1; simpa using this
   have := hr k _ i c hx' h1
   match i, hi, h2 with
   | 0, _, h2 => cases h2; exact this
   | 1, _, h2 => cases h2; exact this
   | 2, _, h2 => cases h2; exact this
   | 3, _, h2 => cases h2; exact this
   | 4, _, h2 => cases h2; exact this
   | 5, _, h2 => cases h2; exact this
   | 6, _, h2 => cases h2; exact this
  obtain ⟨c3, c4, c6, e, hcv⟩ := rv_selL hR
  refine ⟨c3, c4, c6, hcv, fun j v hv => ?_⟩
  rw [← e] at hv
  have hj : j < 7 := by have := (List.getElem?_eq_some_iff.1 hv).1; simpa using this
  have := hm k _ j hx' hj
  match j, hj, hv with
  | 0, _, hv => cases hv; exact this
  | 1, _, hv => cases hv; exact this
  | 2, _, hv => cases hv; exact this
  | 3, _, hv => cases hv; exact this
  | 4, _, hv => cases hv; exact this
  | 5, _, hv => cases hv; exact this
  | 6, _, hv => cases hv; exact this
theorem cell_of_mem {M : Mem} {w : World} (hc : Cons M w) {b i : Nat} {v : Value} (h : M b i = some v) : w.cell? ⟨b, i, none⟩ = some v := by
 obtain ⟨arr, T, fz, h1, h2⟩ := hc b i v h
 rw [cell_of_row w b _ _ _ _ h1]; exact h2
theorem sl_nil {M : Mem} {B : BM} {v : Value} (h : Rv M B (.slice [] [] false) v) : ∃ a k, v = .slice a 0 k := by
 cases h with
 | nil o => exact ⟨_, _, rfl⟩
 | slice es bs o a cap s f ha hc ho hel hm hr => exact ⟨_, _, rfl⟩
abbrev leafS (nm : Str) : GSel := ⟨0, [97], nm, [], [], [], []⟩
set_option maxRecDepth 100000 in
theorem within_call (nm : Str) (hn : nm = [98] ∨ nm = [99]) {M : Mem} {w : World} (h0 h1 h2 c3 c4 c6 : Value) (hc : Cons M w) (hr : Rv M noB (.agg [(.slice (List.map encDef mWorld.defs) [] false), (.str mWorld.query), (.str mWorld.mutation)]) (.agg #[h0, h1, h2])) (hx : CV M (leafS nm) c3 c4 c6) :
  Calls Try.prog 95 #[.agg #[h0, h1, h2], .string ⟨#[81]⟩, .agg #[.int .i64 0, .string ⟨#[97]⟩, .string ⟨nm.toArray⟩, c3, c4, .string ⟨#[]⟩, c6]] w fun e w' => ∃ M', e = .returned (.string ⟨#[73, 110, 116]⟩) ∧ Cons M' w' ∧ Quiet M w M' w' := by
 have ht : Rv M noB (encSel (leafS nm)) (.agg #[.int .i64 0, .string ⟨#[97]⟩, .string ⟨nm.toArray⟩, c3, c4, .string ⟨#[]⟩, c6]) := by
  rw [encSel_eq]
  refine .agg _ _ (fun i => (#[Value.int .i64 0, .string ⟨#[97]⟩, .string ⟨nm.toArray⟩, c3, c4, .string ⟨#[]⟩, c6] : Array Value).getD i undef) rfl ?_ ?_
  ·intro i hi
   match i, hi with
   | 0, _ => rfl
   | 1, _ => rfl
   | 2, _ => rfl
   | 3, _ => rfl
   | 4, _ => rfl
   | 5, _ => rfl
   | 6, _ => rfl
  ·intro i c hc
   match i, hc with
   | 0, hc => cases hc; exact .int _ _
   | 1, hc => cases hc; exact .str [97]
   | 2, hc => cases hc; exact .str nm
   | 3, hc => cases hc; exact hx.r3
   | 4, hc => cases hc; exact hx.r4
   | 5, hc => cases hc; exact .str []
   | 6, hc => cases hc; exact hx.r6
   | i + 7, hc => simp at hc
 have key := quiet_call pokX xok (fields_Within_spec (mWithin_ok nm hn)) (M := M) (w := w) (vals := #[.agg #[h0, h1, h2], .string ⟨#[81]⟩, .agg #[.int .i64 0, .string ⟨#[97]⟩, .string ⟨nm.toArray⟩, c3, c4, .string ⟨#[]⟩, c6]]) rfl hc ⟨rfl, fun i p hp => by
  match i, hp with
  | 0, hp => cases hp; exact ⟨hr, noOwn_of_plain rfl⟩
  | 1, hp => cases hp; exact ⟨.str [81], noOwn_of_plain rfl⟩
  | 2, hp => cases hp; exact ⟨ht, noOwn_of_plain rfl⟩
  | i + 3, hp => simp at hp⟩
 refine key.mono ?_
 rintro e w' ⟨v, M', rfl, hv, hc', hq⟩
 cases hv
 exact ⟨M', rfl, hc', hq⟩
open Go Go.Ev Go.RowKit
noncomputable def sndC : Code → Code | .seq _ b => b | c => c
noncomputable def blkC : Code → Code | .block _ b => b | c => c
noncomputable def loopC : Code → Code | .loop b => b | c => c
noncomputable def lp80 : Code := match Try.f80.body with | some c => loopC (blkC (sndC (fstC (sndC (sndC c))))) | none => .skip
noncomputable def r80_7 : Code := sndC (sndC (sndC (blkC (fstC (sndC (sndC lp80))))))
theorem c7 {w : World} {b T : Nat} {fz : Nat × Nat} {x0 x1 x2 x3 x4 x5 x6 : Value} (h : w.heap[b]? = some (.cells #[x0, x1, x2, x3, x4, x5, x6] T fz)) :
  w.cell? ⟨b, 0, none⟩ = some x0 ∧ w.cell? ⟨b, 1, none⟩ = some x1 ∧ w.cell? ⟨b, 2, none⟩ = some x2 ∧ w.cell? ⟨b, 3, none⟩ = some x3 ∧ w.cell? ⟨b, 4, none⟩ = some x4 ∧ w.cell? ⟨b, 5, none⟩ = some x5 ∧ w.cell? ⟨b, 6, none⟩ = some x6 := by
 refine ⟨?_, ?_, ?_, ?_, ?_, ?_, ?_⟩ <;> (rw [cell_of_row w b _ _ _ _ h]; rfl)
structure ItPost (base ka sb pb : Nat) (a0 : Option Addr) (l0 p0 : Nat) (no : Int) (fm : Value) (v : Value) (n : Nat) (xs it : List Value) (M1 : Mem) (W : World) (g cap2 : Nat) (M5 : Mem) (w6 : World) : Prop where
 k : KAt M5 w6 ka sb pb a0 l0 p0 no fm
 mem : ∀ b i v, M1 b i = some v → M5 b i = some v
 memo : ∀ b, b < W.heap.size → ∀ i, M5 b i = M1 b i
 own : w6.ownsRow base 152 10 (.slice (some ⟨g, 0, none⟩) (n + 1) cap2) (n + 1) (xs ++ it)
 at_ : v.ownBlock = some g ∨ W.heap.size ≤ g
 old : ∀ b, b < W.heap.size → v.ownBlock ≠ some b → w6.heap[b]? = W.heap[b]?
 free : ∀ i, M5 g i = none
 size : W.heap.size ≤ w6.heap.size
 os : w6.os = W.os
 tape : w6.tape = W.tape
 output : w6.output = W.output
set_option maxHeartbeats 32000000 in
set_option maxRecDepth 100000 in
theorem it7 {M1 : Mem} {W : World} {ka sb pb : Nat} {a0 : Option Addr} {l0 p0 : Nat} {no : Int} {fm : Value} (h : KAt M1 W ka sb pb a0 l0 p0 no fm) (nm : Str) (hnm : nm = [98] ∨ nm = [99]) (X : Nat) (a3 : Option Addr) (p3 : Nat) (a4 : Option Addr) (p4 : Nat) (a6 : Option Addr) (p6 : Nat)
  (hX : W.heap[X]? = some (.cells #[.int .i64 0, .string ⟨#[97]⟩, .string ⟨nm.toArray⟩, .slice a3 0 p3, .slice a4 0 p4, .string ⟨#[]⟩, .slice a6 0 p6] 41 (0, 0))) (hx : CV M1 (leafS nm) (.slice a3 0 p3) (.slice a4 0 p4) (.slice a6 0 p6))
  (base : Nat) (hbase : base ≤ W.heap.size) (oa : Option Addr) (n cap : Nat) (hn : n ≤ 5) (xs : List Value) (hown : W.ownsRow base 152 10 (.slice oa n cap) n xs) (hvk : (Value.slice oa n cap).ownBlock ≠ some ka) (hfree : ∀ g, (Value.slice oa n cap).ownBlock = some g → g < W.heap.size ∧ ∀ i, M1 g i = none) (lv kv : Value)
  (Q : Exit → Act → World → Prop) (hQ : ∀ (M5 : Mem) (w6 : World) (g cap2 : Nat) (v3 v4 v5 v6 v8 v9 v10 v14 v15 v16 v17 v18 v19 v20 v21 v22 v23 v24 v25 v26 v27 v28 v29 v30 v31 v32 v33 v34 v35 v36 v37 v38 v39 v40 v41 v42 v43 v44 v45 v46 v47 : Value), ItPost base ka sb pb a0 l0 p0 no fm (.slice oa n cap) n xs [.int .i64 no, .int .i64 0, .string ⟨#[97]⟩, .string ⟨nm.toArray⟩, .slice a3 0 p3, .slice a4 0 p4, .string ⟨#[]⟩, .slice a6 0 p6, .string ⟨#[81]⟩, .slice none 0 0] M1 W g cap2 M5 w6 → Q .normal ⟨#[.pointer (some ⟨ka, 0, none⟩), .string ⟨#[81]⟩, lv, v3, v4, v5, v6, .slice (some ⟨g, 0, none⟩) (n + 1) cap2, v8, v9, v10, lv, .int .i64 2, kv, v14, v15, v16, v17, v18, v19, v20, v21, v22, v23, v24, v25, v26, v27, v28, v29, v30, v31, v32, v33, v34, v35, v36, v37, v38, v39, v40, v41, v42, v43, v44, v45, v46, v47], []⟩ w6) (v3 v4 v5 v6 v8 v14 v15 v16 v17 v18 v19 v20 v21 v22 v23 v24 v25 v26 v27 v28 v29 v30 v31 v32 v33 v34 v35 v36 v37 v38 v39 v40 v41 v42 v43 v44 v45 v46 v47 : Value) :
  Code.wp Try.prog r80_7 Q ⟨#[.pointer (some ⟨ka, 0, none⟩), .string ⟨#[81]⟩, lv, v3, v4, v5, v6, .slice oa n cap, v8, .pointer (some ⟨X, 0, none⟩), .int .i64 no, lv, .int .i64 2, kv, v14, v15, v16, v17, v18, v19, v20, v21, v22, v23, v24, v25, v26, v27, v28, v29, v30, v31, v32, v33, v34, v35, v36, v37, v38, v39, v40, v41, v42, v43, v44, v45, v46, v47], []⟩ W := by
 obtain ⟨i0, hi, hz0, hz1, hz2⟩ := info_parts Try.info152
 have hkl : ka < W.heap.size := (Array.getElem?_eq_some_iff.1 h.row).1
 have hXl : X < W.heap.size := (Array.getElem?_eq_some_iff.1 hX).1
 have k0 : W.cell? ⟨ka, 0, none⟩ = some (.slice a0 l0 p0) := by rw [cell_of_row W _ _ _ _ _ h.row]; rfl
 have k1 : W.cell? ⟨ka, 1, none⟩ = some (.string ⟨mWorld.query.toArray⟩) := by rw [cell_of_row W _ _ _ _ _ h.row]; rfl
 have k2 : W.cell? ⟨ka, 2, none⟩ = some (.string ⟨mWorld.mutation.toArray⟩) := by rw [cell_of_row W _ _ _ _ _ h.row]; rfl
 obtain ⟨y0, y1, y2, y3, y4, y5, y6⟩ := c7 hX
 have hcd : Cons M1 W.drew := cons_below' h.cons ((Below.refl W.heap.size W).drew)
 have hcall : Calls Try.prog 95 #[.agg #[.slice a0 l0 p0, .string ⟨mWorld.query.toArray⟩, .string ⟨mWorld.mutation.toArray⟩], .string ⟨#[81]⟩, .agg #[.int .i64 0, .string ⟨#[97]⟩, .string ⟨nm.toArray⟩, .slice a3 0 p3, .slice a4 0 p4, .string ⟨#[]⟩, .slice a6 0 p6]] W.drew fun e w' => ∃ v, e = .returned v ∧ ∃ M', v = .string ⟨#[73, 110, 116]⟩ ∧ Cons M' w' ∧ Quiet M1 W.drew M' w' :=
  (within_call nm hnm _ _ _ _ _ _ hcd h.rs hx).mono (by rintro e w' ⟨M', rfl, h1, h2⟩; exact ⟨_, rfl, M', rfl, h1, h2⟩)
 have hAll : Hid (∀ (M5 : Mem) (w5 : World), Quiet M1 W.drew M5 w5 → (w5.cell? ⟨X, 0, none⟩ = some (.int .i64 0) ∧ w5.cell? ⟨X, 1, none⟩ = some (.string ⟨#[97]⟩) ∧ w5.cell? ⟨X, 2, none⟩ = some (.string ⟨nm.toArray⟩) ∧ w5.cell? ⟨X, 3, none⟩ = some (.slice a3 0 p3) ∧ w5.cell? ⟨X, 4, none⟩ = some (.slice a4 0 p4) ∧ w5.cell? ⟨X, 5, none⟩ = some (.string ⟨#[]⟩) ∧ w5.cell? ⟨X, 6, none⟩ = some (.slice a6 0 p6)) ∧ w5.ownsRow base 152 10 (.slice oa n cap) n xs ∧ ∀ o, base ≤ (w5.alloc o).heap.size) := by
  intro M5 w5 hq
  refine ⟨c7 ((hq.old X hXl).1.trans hX), ?_, fun o => by have := hq.size; have e : W.drew.heap.size = W.heap.size := rfl; simp; omega⟩
  have hd : W.drew.ownsRow base 152 10 (.slice oa n cap) n xs := hown
  exact hd.kept (w' := w5) (row := none) ⟨hq.os, hq.tape, hq.output, hq.size, fun b hb _ => (hq.old b hb).1⟩ (by cases oa <;> simp [Value.ownBlock])
 have hfin : Hid (∀ (M5 : Mem) (w5 w6 : World) (g cap2 : Nat) (v3 v4 v5 v6 v8 v9 v10 v14 v15 v16 v17 v18 v19 v20 v21 v22 v23 v24 v25 v26 v27 v28 v29 v30 v31 v32 v33 v34 v35 v36 v37 v38 v39 v40 v41 v42 v43 v44 v45 v46 v47 : Value), Cons M5 w5 → Quiet M1 W.drew M5 w5 → w6.ownsRow base 152 10 (.slice (some ⟨g, 0, none⟩) (n + 1) cap2) (n + 1) (xs ++ [.int .i64 no, .int .i64 0, .string ⟨#[97]⟩, .string ⟨nm.toArray⟩, .slice a3 0 p3, .slice a4 0 p4, .string ⟨#[]⟩, .slice a6 0 p6, .string ⟨#[81]⟩, .slice none 0 0]) → (w5.alloc (.cells #[.int .i64 no, .int .i64 0, .string ⟨#[97]⟩, .string ⟨nm.toArray⟩, .slice a3 0 p3, .slice a4 0 p4, .string ⟨#[]⟩, .slice a6 0 p6, .string ⟨#[81]⟩, .slice none 0 0] 152)).grownBy w6 (Value.slice oa n cap).ownBlock → ((Value.slice oa n cap).ownBlock = some g ∨ g = (w5.alloc (.cells #[.int .i64 no, .int .i64 0, .string ⟨#[97]⟩, .string ⟨nm.toArray⟩, .slice a3 0 p3, .slice a4 0 p4, .string ⟨#[]⟩, .slice a6 0 p6, .string ⟨#[81]⟩, .slice none 0 0] 152)).heap.size) → Q .normal ⟨#[.pointer (some ⟨ka, 0, none⟩), .string ⟨#[81]⟩, lv, v3, v4, v5, v6, .slice (some ⟨g, 0, none⟩) (n + 1) cap2, v8, v9, v10, lv, .int .i64 2, kv, v14, v15, v16, v17, v18, v19, v20, v21, v22, v23, v24, v25, v26, v27, v28, v29, v30, v31, v32, v33, v34, v35, v36, v37, v38, v39, v40, v41, v42, v43, v44, v45, v46, v47], []⟩ w6) := by
  intro M5 w5 w6 g cap2 v3 v4 v5 v6 v8 v9 v10 v14 v15 v16 v17 v18 v19 v20 v21 v22 v23 v24 v25 v26 v27 v28 v29 v30 v31 v32 v33 v34 v35 v36 v37 v38 v39 v40 v41 v42 v43 v44 v45 v46 v47 hc5 hq5 hown6 hgrow6 hat6
  refine hQ M5 w6 g cap2 v3 v4 v5 v6 v8 v9 v10 v14 v15 v16 v17 v18 v19 v20 v21 v22 v23 v24 v25 v26 v27 v28 v29 v30 v31 v32 v33 v34 v35 v36 v37 v38 v39 v40 v41 v42 v43 v44 v45 v46 v47 ?_
  have e : W.drew.heap.size = W.heap.size := rfl
  have hs5 : W.heap.size ≤ w5.heap.size := hq5.size
  have hsA : ∀ o : Obj, (w5.alloc o).heap.size = w5.heap.size + 1 := fun o => by simp
  have stay : ∀ b, b < w5.heap.size → (Value.slice oa n cap).ownBlock ≠ some b → w6.heap[b]? = w5.heap[b]? := fun b hb hne => (hgrow6.block b (by rw [hsA]; omega) (fun e' => hne e'.symm)).trans (heap_alloc_old w5 _ hb)
  have old : ∀ b, b < W.heap.size → (Value.slice oa n cap).ownBlock ≠ some b → w6.heap[b]? = W.heap[b]? := fun b hb hne => (stay b (by omega) hne).trans (hq5.old b hb).1
  have hfr5 : ∀ g, (Value.slice oa n cap).ownBlock = some g → ∀ i, M5 g i = none := fun g hg i => ((hq5.old g (hfree g hg).1).2 i).trans ((hfree g hg).2 i)
  refine ⟨⟨?_, (old ka hkl hvk).trans h.row, h.rs.mono hq5.mem (fun _ _ _ h => h)⟩, hq5.mem, fun b hb i => (hq5.old b hb).2 i, hown6, ?_, old, ?_, ?_, ?_, ?_, ?_⟩
  ·intro b i v hv
   obtain ⟨arr, T, fz, h1, h2⟩ := hc5 b i v hv
   refine ⟨arr, T, fz, (stay b (Array.getElem?_eq_some_iff.1 h1).1 ?_).trans h1, h2⟩
   intro e'
   rw [hfr5 b e'] at hv; cases hv
  ·rcases hat6 with h6 | h6
   ·exact .inl h6
   ·right; rw [h6, hsA]; omega
  ·intro i
   rcases hat6 with h6 | h6
   ·exact hfr5 g h6 i
   ·exact cons_free hc5 (by rw [h6, hsA]; omega) i
  ·have := hgrow6.size; rw [hsA] at this; omega
  ·exact hgrow6.os.trans hq5.os
  ·exact hgrow6.tape.trans hq5.tape
  ·exact hgrow6.output.trans hq5.output
 clear hQ
 unfold r80_7 lp80
 simp only [Try.f80, sndC, fstC, blkC, loopC]
 refine Code.wp_mono (Q := Exit.then (Q .normal) (fun _ _ _ => False)) (fun e a w h => by cases e <;> first | exact h | exact h.elim) ?_
 go_region_law (first | (show (if Region.wanted { dst := _, op := Op.call { callee := Callee.value (Operand.func 95), args := _, argTypes := _ }, type := _, pos := _, after := _, guard := _ } _ = true then _ else _); go_simp; go_at_call 95; refine hcall.mono ?_; rintro e' w5 ⟨v, rfl, M5, rfl, hc5, hq5⟩; obtain ⟨⟨x0, x1, x2, x3, x4, x5, x6⟩, hown5, hb5⟩ := hAll.out M5 w5 hq5) | (show (if Region.wanted { dst := _, op := Op.call { callee := Callee.value (Operand.func 80), args := _, argTypes := _ }, type := _, pos := _, after := _, guard := _ } _ = true then _ else _); go_simp; go_at_call 80; refine (items_nil ka ⟨#[73, 110, 116]⟩ a6 p6 _).mono ?_; rintro e' w' ⟨rfl, hw'⟩; replace hw' := hw'.symm; subst hw') | (refine step_append_lies _ rfl (.tmp 28) (.tmp 44) 134 rfl base 152 i0 _ 10 176 Try.underlying134 hi hz0 hz1 hz2 rfl (by decide) (.slice oa n cap) n xs rfl (hown5.alloc _) ⟨w5.heap.size, 0, none⟩ 1 1 [.int .i64 no, .int .i64 0, .string ⟨#[97]⟩, .string ⟨nm.toArray⟩, .slice a3 0 p3, .slice a4 0 p4, .string ⟨#[]⟩, .slice a6 0 p6, .string ⟨#[81]⟩, .slice none 0 0] rfl rfl (World.news_of_block (cs := #[.int .i64 no, .int .i64 0, .string ⟨#[97]⟩, .string ⟨nm.toArray⟩, .slice a3 0 p3, .slice a4 0 p4, .string ⟨#[]⟩, .slice a6 0 p6, .string ⟨#[81]⟩, .slice none 0 0]) (heap_alloc_new w5 _)) (by intro u hu; simp only [List.mem_cons, List.not_mem_nil, or_false] at hu; rcases hu with rfl | rfl | rfl | rfl | rfl | rfl | rfl | rfl | rfl | rfl <;> rfl) (by decide) (by unfold maxLen; omega) (by omega) (hb5 _) _ rfl ?_; intro g cap2 w6 hown6 hgrow6 hat6 hlt6))
 all_goals exact hfin.out M5 w5 w6 g cap2 _ _ _ _ _ _ _ _ _ _ _ _ _ _ _ _ _ _ _ _ _ _ _ _ _ _ _ _ _ _ _ _ _ _ _ _ _ _ _ _ _ hc5 hq5 hown6 hgrow6 hat6
end Go.Proofs.Ytfbaogfcpldlnaa

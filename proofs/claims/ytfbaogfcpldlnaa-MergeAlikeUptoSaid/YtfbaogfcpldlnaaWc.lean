import Derived.Test.YtfbaogfcpldlnaaWb
import Derived.BigRegion
import Derived.Deep.AppendLies
import Derived.OwnWalk
set_option linter.unusedVariables false
set_option linter.unusedSimpArgs false
set_option linter.unusedSimpArgs false
open Go Go.Ev Go.RowKit
namespace Go.Proofs.Ytfbaogfcpldlnaa
noncomputable def fstC : Code → Code | .seq a _ => a | c => c
noncomputable def hd101 (n : Nat) : Code := fstC (tl101 n)
theorem body101 : Try.f101.body = some (.seq (hd101 0) (.seq (hd101 1) (.seq (hd101 2) (tl101 3)))) := by kernel_rfl
set_option maxHeartbeats 8000000 in
set_option maxRecDepth 100000 in
theorem sh0 {M : Mem} {w : World} {ka sb pb : Nat} {a0 : Option Addr} {l0 p0 : Nat} {no : Int} {fm : Value} (h : KAt M w ka sb pb a0 l0 p0 no fm) (hs : NoPairs w sb) (al al' on0 on' : ByteArray) (nm nm' : Str) (hnm : nm = [98] ∨ nm = [99]) (hnm' : nm' = [98] ∨ nm' = [99]) (a3 : Option Addr) (l3 p3 : Nat) (a4 : Option Addr) (l4 p4 : Nat) (a6 : Option Addr) (l6 p6 : Nat) (oa : Option Addr) (cap : Nat) (b3 : Option Addr) (m3 q3 : Nat) (b4 : Option Addr) (m4 q4 : Nat) (b6 : Option Addr) (m6 q6 : Nat) (oa' : Option Addr) (cap' : Nat) (C : Code) (Q : Exit → Act → World → Prop) (hC : ∀ (w4 : World) (v1 v2 v3 v6 v8 v9 v10 v11 v12 v13 v14 v15 v16 v17 v18 v19 v20 v21 v22 v23 v24 v25 v26 v27 v28 v29 v30 v31 v32 v33 v34 v35 v36 v37 v38 v39 v40 v41 v42 v43 v44 v45 v46 v47 v48 v49 v50 v51 v52 v53 v54 v55 v56 v57 v58 v59 v60 v61 v62 v63 v64 v65 v66 v67 v68 v69 v70 v71 v72 v73 v74 v75 v76 v77 v78 v79 v80 : Value), ShSt M w #[.int .i64 1, .int .i64 0, .string al, .string ⟨nm.toArray⟩, .slice a3 l3 p3, .slice a4 l4 p4, .string on0, .slice a6 l6 p6, .string ⟨#[81]⟩, .slice oa 0 cap] #[.int .i64 2, .int .i64 0, .string al', .string ⟨nm'.toArray⟩, .slice b3 m3 q3, .slice b4 m4 q4, .string on', .slice b6 m6 q6, .string ⟨#[81]⟩, .slice oa' 0 cap'] M w4 → C.wp Try.prog Q ⟨#[.pointer (some ⟨ka, 0, none⟩), v1, v2, v3, .pointer (some ⟨w.heap.size, 0, none⟩), .pointer (some ⟨w.heap.size + 1, 0, none⟩), v6, .pointer (some ⟨w.heap.size + 1 + 1, 0, none⟩), v8, v9, v10, v11, v12, v13, v14, v15, v16, v17, v18, v19, v20, v21, v22, v23, v24, v25, v26, v27, v28, v29, v30, v31, v32, v33, v34, v35, v36, v37, v38, v39, v40, v41, v42, v43, v44, v45, v46, v47, v48, v49, v50, v51, v52, v53, v54, v55, v56, v57, v58, v59, v60, v61, v62, v63, v64, v65, v66, v67, v68, v69, v70, v71, v72, v73, v74, v75, v76, v77, v78, v79, v80], []⟩ w4) :
  Code.wp Try.prog (.seq (hd101 0) (.seq (hd101 1) (.seq (hd101 2) C))) Q ⟨#[.pointer (some ⟨ka, 0, none⟩), .agg #[.int .i64 1, .int .i64 0, .string al, .string ⟨nm.toArray⟩, .slice a3 l3 p3, .slice a4 l4 p4, .string on0, .slice a6 l6 p6, .string ⟨#[81]⟩, .slice oa 0 cap], .agg #[.int .i64 2, .int .i64 0, .string al', .string ⟨nm'.toArray⟩, .slice b3 m3 q3, .slice b4 m4 q4, .string on', .slice b6 m6 q6, .string ⟨#[81]⟩, .slice oa' 0 cap'], undef, undef, undef, undef, undef, undef, undef, undef, undef, undef, undef, undef, undef, undef, undef, undef, undef, undef, undef, undef, undef, undef, undef, undef, undef, undef, undef, undef, undef, undef, undef, undef, undef, undef, undef, undef, undef, undef, undef, undef, undef, undef, undef, undef, undef, undef, undef, undef, undef, undef, undef, undef, undef, undef, undef, undef, undef, undef, undef, undef, undef, undef, undef, undef, undef, undef, undef, undef, undef, undef, undef, undef, undef, undef, undef, undef, undef, undef], []⟩ w := by
 have hk5 : w.cell? ⟨ka, 5, none⟩ = some (.map (some sb)) := by rw [cell_of_row w _ _ _ _ _ h.row]; rfl
 have hkl : ka < w.heap.size := (Array.getElem?_eq_some_iff.1 h.row).1
 unfold hd101 tl101
 simp only [Try.f101, dropSeq, fstC]
 go_wp2
 obtain ⟨w3, hw3⟩ : ∃ w3, w3 = ((w.alloc (.cells #[.int .i64 1, .int .i64 0, .string al, .string ⟨nm.toArray⟩, .slice a3 l3 p3, .slice a4 l4 p4, .string on0, .slice a6 l6 p6, .string ⟨#[81]⟩, .slice oa 0 cap] 152)).alloc (.cells #[.int .i64 2, .int .i64 0, .string al', .string ⟨nm'.toArray⟩, .slice b3 m3 q3, .slice b4 m4 q4, .string on', .slice b6 m6 q6, .string ⟨#[81]⟩, .slice oa' 0 cap'] 152)).alloc (.cells #[.int .i64 1, .int .i64 2] 159) := ⟨_, rfl⟩
 rw [← hw3]
 have hb3 : Below w.heap.size w w3 := by rw [hw3]; exact (((Below.refl _ _).alloc (Nat.le_refl _) _).alloc (by simp) _).alloc (by simp; omega) _
 have hA : w3.heap[w.heap.size]? = some (.cells #[.int .i64 1, .int .i64 0, .string al, .string ⟨nm.toArray⟩, .slice a3 l3 p3, .slice a4 l4 p4, .string on0, .slice a6 l6 p6, .string ⟨#[81]⟩, .slice oa 0 cap] 152 (0, 0)) := by rw [hw3]; exact (heap_alloc_old _ _ (by simp; omega)).trans ((heap_alloc_old _ _ (by simp)).trans (heap_alloc_new w _))
 have hB : w3.heap[w.heap.size + 1]? = some (.cells #[.int .i64 2, .int .i64 0, .string al', .string ⟨nm'.toArray⟩, .slice b3 m3 q3, .slice b4 m4 q4, .string on', .slice b6 m6 q6, .string ⟨#[81]⟩, .slice oa' 0 cap'] 152 (0, 0)) := by
  have := heap_alloc_new (w.alloc (.cells #[.int .i64 1, .int .i64 0, .string al, .string ⟨nm.toArray⟩, .slice a3 l3 p3, .slice a4 l4 p4, .string on0, .slice a6 l6 p6, .string ⟨#[81]⟩, .slice oa 0 cap] 152)) (.cells #[.int .i64 2, .int .i64 0, .string al', .string ⟨nm'.toArray⟩, .slice b3 m3 q3, .slice b4 m4 q4, .string on', .slice b6 m6 q6, .string ⟨#[81]⟩, .slice oa' 0 cap'] 152)
  rw [hw3]
  exact (heap_alloc_old _ _ (by simp)).trans (by simpa using this)
 have hC3 : w3.heap[w.heap.size + 2]? = some (.cells #[.int .i64 1, .int .i64 2] 159 (0, 0)) := by
  have := heap_alloc_new ((w.alloc (.cells #[.int .i64 1, .int .i64 0, .string al, .string ⟨nm.toArray⟩, .slice a3 l3 p3, .slice a4 l4 p4, .string on0, .slice a6 l6 p6, .string ⟨#[81]⟩, .slice oa 0 cap] 152)).alloc (.cells #[.int .i64 2, .int .i64 0, .string al', .string ⟨nm'.toArray⟩, .slice b3 m3 q3, .slice b4 m4 q4, .string on', .slice b6 m6 q6, .string ⟨#[81]⟩, .slice oa' 0 cap'] 152)) (.cells #[.int .i64 1, .int .i64 2] 159)
  rw [hw3]
  simpa using this
 clear hw3
 have hlt := hs.lt
 have hs3 : NoPairs w3 sb := hs.congr (hb3.block sb hlt)
 have hrow3 := (hb3.block ka hkl).trans h.row
 have hk5 : w3.cell? ⟨ka, 5, none⟩ = some (.map (some sb)) := by rw [cell_of_row w3 _ _ _ _ _ hrow3]; rfl
 have hc0 : w3.cell? ⟨w.heap.size + 1 + 1, 0, none⟩ = some (.int .i64 1) := by rw [cell_of_row w3 _ _ _ _ _ hC3]; rfl
 have hc1 : w3.cell? ⟨w.heap.size + 1 + 1, 1, none⟩ = some (.int .i64 2) := by rw [cell_of_row w3 _ _ _ _ _ hC3]; rfl
 have hlook : (Instr.lookup 130 (.map (some sb)) (.agg #[.int .i64 1, .int .i64 2]) true).run Try.prog w3.drew = .ok (.tuple #[.bool false, .bool false]) w3.drew := (NoPairs.congr (w' := w3.drew) hs3 rfl).look
 have hst3 : ShSt M w #[.int .i64 1, .int .i64 0, .string al, .string ⟨nm.toArray⟩, .slice a3 l3 p3, .slice a4 l4 p4, .string on0, .slice a6 l6 p6, .string ⟨#[81]⟩, .slice oa 0 cap] #[.int .i64 2, .int .i64 0, .string al', .string ⟨nm'.toArray⟩, .slice b3 m3 q3, .slice b4 m4 q4, .string on', .slice b6 m6 q6, .string ⟨#[81]⟩, .slice oa' 0 cap'] M w3 := ⟨cons_below' h.cons hb3, fun _ _ _ h => h, hb3, hA, hB, hC3⟩
 have hst4 := hst3.bl ((Below.refl w3.heap.size w3).drew)
 go_region
 go_wp2
 exact hC _ _ _ _ _ _ _ _ _ _ _ _ _ _ _ _ _ _ _ _ _ _ _ _ _ _ _ _ _ _ _ _ _ _ _ _ _ _ _ _ _ _ _ _ _ _ _ _ _ _ _ _ _ _ _ _ _ _ _ _ _ _ _ _ _ _ _ _ _ _ _ _ _ _ _ _ _ _ hst4
def ShPost (M : Mem) (w : World) (sb : Nat) (w' : World) : Prop := ∃ M6 w6, Cons M6 w6 ∧ (∀ b i v, M b i = some v → M6 b i = some v) ∧ Below w.heap.size w w6 ∧ w6.grownBy w' (some sb)
set_option maxRecDepth 100000 in
theorem shaped_walk {M : Mem} {w : World} {ka sb pb : Nat} {a0 : Option Addr} {l0 p0 : Nat} {no : Int} {fm : Value} (h : KAt M w ka sb pb a0 l0 p0 no fm) (hs : NoPairs w sb) (al al' on0 on' : ByteArray) (nm nm' : Str) (hnm : nm = [98] ∨ nm = [99]) (hnm' : nm' = [98] ∨ nm' = [99]) (a3 : Option Addr) (l3 p3 : Nat) (a4 : Option Addr) (l4 p4 : Nat) (a6 : Option Addr) (l6 p6 : Nat) (oa : Option Addr) (cap : Nat) (b3 : Option Addr) (m3 q3 : Nat) (b4 : Option Addr) (m4 q4 : Nat) (b6 : Option Addr) (m6 q6 : Nat) (oa' : Option Addr) (cap' : Nat) :
  Calls Try.prog 101 #[.pointer (some ⟨ka, 0, none⟩), .agg #[.int .i64 1, .int .i64 0, .string al, .string ⟨nm.toArray⟩, .slice a3 l3 p3, .slice a4 l4 p4, .string on0, .slice a6 l6 p6, .string ⟨#[81]⟩, .slice oa 0 cap], .agg #[.int .i64 2, .int .i64 0, .string al', .string ⟨nm'.toArray⟩, .slice b3 m3 q3, .slice b4 m4 q4, .string on', .slice b6 m6 q6, .string ⟨#[81]⟩, .slice oa' 0 cap']] w fun e w' => e = .returned (.bool true) ∧ ShPost M w sb w' := by
 refine calls_of_wp Try.func101 body101 ?_
 simp only [Try.ntmps101, List.size_toArray, List.length_cons, List.length_nil, Nat.reduceAdd, Nat.reduceSub, Array.replicate_succ,
   Array.replicate_zero, List.push_toArray, List.append_toArray, List.nil_append, List.cons_append]
 refine sh0 h hs al al' on0 on' nm nm' hnm hnm' a3 l3 p3 a4 l4 p4 a6 l6 p6 oa cap b3 m3 q3 b4 m4 q4 b6 m6 q6 oa' cap' (tl101 3) _ fun w4 v1 v2 v3 v6 v8 v9 v10 v11 v12 v13 v14 v15 v16 v17 v18 v19 v20 v21 v22 v23 v24 v25 v26 v27 v28 v29 v30 v31 v32 v33 v34 v35 v36 v37 v38 v39 v40 v41 v42 v43 v44 v45 v46 v47 v48 v49 v50 v51 v52 v53 v54 v55 v56 v57 v58 v59 v60 v61 v62 v63 v64 v65 v66 v67 v68 v69 v70 v71 v72 v73 v74 v75 v76 v77 v78 v79 v80 hst => ?_
 exact sh5 h hs al al' on0 on' nm nm' hnm hnm' a3 l3 p3 a4 l4 p4 a6 l6 p6 oa cap b3 m3 q3 b4 m4 q4 b6 m6 q6 oa' cap' hst _ (fun M6 w6 w7 h6 h7 => ⟨rfl, M6, w6, h6.cons, h6.mem, h6.below, h7⟩) v1 v2 v3 v6 v8 v9 v10 v11 v12 v13 v14 v15 v16 v17 v18 v19 v20 v21 v22 v23 v24 v25 v26 v27 v28 v29 v30 v31 v32 v33 v34 v35 v36 v37 v38 v39 v40 v41 v42 v43 v44 v45 v46 v47 v48 v49 v50 v51 v52 v53 v54 v55 v56 v57 v58 v59 v60 v61 v62 v63 v64 v65 v66 v67 v68 v69 v70 v71 v72 v73 v74 v75 v76 v77 v78 v79 v80
open Go Go.Ev Go.RowKit
structure But (M : Mem) (w : World) (S : List Nat) (M' : Mem) (w' : World) : Prop where
 cons : Cons M' w'
 mem : ∀ b i v, M b i = some v → M' b i = some v
 old : ∀ b, b < w.heap.size → b ∉ S → w'.heap[b]? = w.heap[b]?
 size : w.heap.size ≤ w'.heap.size
 os : w'.os = w.os
 tape : w'.tape = w.tape
 output : w'.output = w.output
theorem But.refl {M : Mem} {w : World} (h : Cons M w) (S : List Nat) : But M w S M w := ⟨h, fun _ _ _ h => h, fun _ _ _ => rfl, Nat.le_refl _, rfl, rfl, rfl⟩
theorem But.trans {M M1 M2 : Mem} {w w1 w2 : World} {S : List Nat} (h : But M w S M1 w1) (k : But M1 w1 S M2 w2) : But M w S M2 w2 :=
 ⟨k.cons, fun b i v hv => k.mem b i v (h.mem b i v hv), fun b hb hs => (k.old b (Nat.lt_of_lt_of_le hb h.size) hs).trans (h.old b hb hs), Nat.le_trans h.size k.size, k.os.trans h.os, k.tape.trans h.tape, k.output.trans h.output⟩
theorem But.sub {M M1 : Mem} {w w1 : World} {S S' : List Nat} (h : But M w S M1 w1) (hs : ∀ x ∈ S, x ∈ S' ∨ w.heap.size ≤ x) : But M w S' M1 w1 :=
 ⟨h.cons, h.mem, fun b hb hn => h.old b hb fun hm => (hs b hm).elim hn (by omega), h.size, h.os, h.tape, h.output⟩
theorem But.below {M : Mem} {w w' : World} (hc : Cons M w) (h : Below w.heap.size w w') (S : List Nat) : But M w S M w' :=
 ⟨cons_below' hc h, fun _ _ _ h => h, fun b hb _ => h.block b hb, h.size, h.os, h.tape, h.output⟩
theorem But.quiet {M M' : Mem} {w w' : World} (hc : Cons M' w') (h : Quiet M w M' w') (S : List Nat) : But M w S M' w' :=
 ⟨hc, h.mem, fun b hb _ => (h.old b hb).1, h.size, h.os, h.tape, h.output⟩
theorem map_free {M : Mem} {w : World} (h : Cons M w) {b : Nat} (hb : NoPairs w b) (i : Nat) : M b i = none := by
 cases hm : M b i with
 | none => rfl
 | some v =>
  obtain ⟨arr, T, fz, h1, _⟩ := h b i v hm
  obtain ⟨es, cl, h2, _⟩ := hb
  rw [h1] at h2; cases h2
theorem But.grown {M : Mem} {w w' : World} {sb : Nat} (hc : Cons M w) (hs : NoPairs w sb) (h : w.grownBy w' (some sb)) : But M w [sb] M w' := by
 refine ⟨fun b i v hv => ?_, fun _ _ _ h => h, fun b hb hn => h.block b hb (fun e => hn (by cases e; simp)), h.size, h.os, h.tape, h.output⟩
 obtain ⟨arr, T, fz, h1, h2⟩ := hc b i v hv
 refine ⟨arr, T, fz, (h.block b (Array.getElem?_eq_some_iff.1 h1).1 ?_).trans h1, h2⟩
 intro e
 cases e
 rw [map_free hc hs] at hv; cases hv
theorem ShPost.but {M : Mem} {w w' : World} {sb : Nat} (hs : NoPairs w sb) (h : ShPost M w sb w') : ∃ M', But M w [sb] M' w' := by
 obtain ⟨M6, w6, hc, hm, hb, hg⟩ := h
 have h1 : But M w [sb] M6 w6 := ⟨hc, hm, fun b hb' _ => hb.block b hb', hb.size, hb.os, hb.tape, hb.output⟩
 exact ⟨M6, h1.trans (But.grown hc (hs.congr (hb.block sb hs.lt)) hg)⟩
theorem KAt.but {M M' : Mem} {w w' : World} {ka sb pb : Nat} {a0 : Option Addr} {l0 p0 : Nat} {no : Int} {fm : Value} (h : KAt M w ka sb pb a0 l0 p0 no fm) {S : List Nat} (hb : But M w S M' w') (hk : ka ∉ S) : KAt M' w' ka sb pb a0 l0 p0 no fm :=
 ⟨hb.cons, (hb.old ka (Array.getElem?_eq_some_iff.1 h.row).1 hk).trans h.row, h.rs.mono hb.mem (fun _ _ _ h => h)⟩
theorem NoPairs.but {M M' : Mem} {w w' : World} {b : Nat} (h : NoPairs w b) {S : List Nat} (hb : But M w S M' w') (hn : b ∉ S) : NoPairs w' b := h.congr (hb.old b h.lt hn)
set_option maxHeartbeats 4000000 in
set_option maxRecDepth 100000 in
theorem alike_nil (oa : Option Addr) (cap : Nat) (ob : Option Addr) (cap' : Nat) (w : World) :
  Calls Try.prog 32 #[.slice oa 0 cap, .slice ob 0 cap'] w fun e w' => e = .returned (.bool true) ∧ Below w.heap.size w w' := by
 go_enter Try.func32, Try.ntmps32
 go_wp2
 refine wp_loop_rounds 1 ?_; rw [rounds_succ]; go_wp2
 go_ret
 exact ⟨rfl, Below.refl _ _⟩
noncomputable def tl97 (n : Nat) : Code := match Try.f97.body with | some c => dropSeq n c | none => .skip
noncomputable def hd97 (n : Nat) : Code := fstC (tl97 n)
theorem body97 : Try.f97.body = some (.seq (hd97 0) (.seq (hd97 1) (.seq (hd97 2) (.seq (hd97 3) (.seq (hd97 4) (tl97 5)))))) := by kernel_rfl
structure TgSt (M : Mem) (w : World) (S : List Nat) (A B : Array Value) (M' : Mem) (w' : World) : Prop where
 but : But M w S M' w'
 a : w'.heap[w.heap.size]? = some (.cells A 152 (0, 0))
 b : w'.heap[w.heap.size + 1]? = some (.cells B 152 (0, 0))
 c : w'.heap[w.heap.size + 1 + 1]? = some (.cells #[.int .i64 1, .int .i64 2] 159 (0, 0))
theorem TgSt.step {M M' M'' : Mem} {w w' w'' : World} {S S' : List Nat} {A B : Array Value} (h : TgSt M w S A B M' w') (k : But M' w' S' M'' w'') (hs : ∀ x ∈ S', x < w.heap.size) : TgSt M w (S ++ S') A B M'' w'' := by
 have q : ∀ b, w.heap.size ≤ b → b ∉ S' := fun b hb hm => by have := hs b hm; omega
 exact ⟨(h.but.sub fun x hx => .inl (List.mem_append.2 (.inl hx))).trans (k.sub fun x hx => .inl (List.mem_append.2 (.inr hx))), (k.old _ (Array.getElem?_eq_some_iff.1 h.a).1 (q _ (Nat.le_refl _))).trans h.a, (k.old _ (Array.getElem?_eq_some_iff.1 h.b).1 (q _ (by omega))).trans h.b, (k.old _ (Array.getElem?_eq_some_iff.1 h.c).1 (q _ (by omega))).trans h.c⟩
set_option maxHeartbeats 16000000 in
set_option maxRecDepth 100000 in
theorem tg7 {M : Mem} {w : World} {ka sb pb : Nat} {a0 : Option Addr} {l0 p0 : Nat} {no : Int} {fm : Value} (h : KAt M w ka sb pb a0 l0 p0 no fm) (hs : NoPairs w sb) (hp : NoPairs w pb) (hne : sb ≠ pb) {S : List Nat} (hkS : ka ∉ S) (hpS : pb ∉ S) {A B : Array Value} {M5 : Mem} {w5 : World} (hst : TgSt M w S A B M5 w5) (r : Bool) (Q : Ending → World → Prop)
  (hQ : ∀ w6, w5.grownBy w6 (some pb) → Q (.returned (.bool r)) w6) (v1 v2 v3 v6 v8 v9 v10 v12 v13 v14 v15 v16 v17 v18 v19 v20 v21 v22 v23 v24 v25 v26 v27 v28 v29 v30 v31 v32 v33 v34 v35 v36 v37 v38 v39 v40 v41 v42 v43 v44 v45 v46 v47 v48 v49 v50 v51 v52 v53 v54 v55 v56 v57 v58 v59 v60 v61 v62 v63 v64 v65 v66 v67 v68 v69 v70 v71 v72 v73 v74 v75 v76 v77 v78 v79 v80 v81 v82 v83 v84 v85 v86 v87 v88 v89 v90 v91 v92 : Value) :
  Code.wp Try.prog (tl97 5) (bodyPost Try.prog Try.f97 Q) ⟨#[.pointer (some ⟨ka, 0, none⟩), v1, v2, v3, .pointer (some ⟨w.heap.size, 0, none⟩), .pointer (some ⟨w.heap.size + 1, 0, none⟩), v6, .pointer (some ⟨w.heap.size + 1 + 1, 0, none⟩), v8, v9, v10, .bool r, v12, v13, v14, v15, v16, v17, v18, v19, v20, v21, v22, v23, v24, v25, v26, v27, v28, v29, v30, v31, v32, v33, v34, v35, v36, v37, v38, v39, v40, v41, v42, v43, v44, v45, v46, v47, v48, v49, v50, v51, v52, v53, v54, v55, v56, v57, v58, v59, v60, v61, v62, v63, v64, v65, v66, v67, v68, v69, v70, v71, v72, v73, v74, v75, v76, v77, v78, v79, v80, v81, v82, v83, v84, v85, v86, v87, v88, v89, v90, v91, v92], []⟩ w5 := by
 have hk5 : w5.cell? ⟨ka, 6, none⟩ = some (.map (some pb)) := by rw [cell_of_row w5 _ _ _ _ _ (h.but hst.but hkS).row]; rfl
 have hc0 : w5.cell? ⟨w.heap.size + 1 + 1, 0, none⟩ = some (.int .i64 1) := by rw [cell_of_row w5 _ _ _ _ _ hst.c]; rfl
 have hc1 : w5.cell? ⟨w.heap.size + 1 + 1, 1, none⟩ = some (.int .i64 2) := by rw [cell_of_row w5 _ _ _ _ _ hst.c]; rfl
 have hs5 : NoPairs w5.drew pb := NoPairs.congr (w' := w5.drew) (hp.but hst.but hpS) rfl
 obtain ⟨w6, hupd, hg6⟩ := hs5.update r
 have hg6' : w5.grownBy w6 (some pb) := ⟨hg6.os, hg6.tape, hg6.output, hg6.size, hg6.block⟩
 obtain ⟨fn, hfn⟩ : ∃ fn, fn = Try.f97 := ⟨_, rfl⟩
 have hres : ∀ (a : Act) (w : World), (results fn a.tmps).run Try.prog w = .ok (a.tmps.getD 6 undef) w := fun a w => results_tmp (by rw [hfn]; rfl) _ _ _
 rw [← hfn]
 clear hfn
 unfold tl97
 simp only [Try.f97, dropSeq]
 go_wp2
 go_region
 go_wp2
 exact bodyPost_end (hres _ _) rfl (hQ _ hg6')
set_option maxHeartbeats 16000000 in
set_option maxRecDepth 100000 in
theorem tg6e {M : Mem} {w : World} {ka sb pb : Nat} {a0 : Option Addr} {l0 p0 : Nat} {no : Int} {fm : Value} (h : KAt M w ka sb pb a0 l0 p0 no fm) (hs : NoPairs w sb) (hp : NoPairs w pb) (hne : sb ≠ pb) (al al' on0 on' : ByteArray) (a3 : Option Addr) (p3 : Nat) (a4 : Option Addr) (l4 p4 : Nat) (a6 : Option Addr) (l6 p6 : Nat) (oa : Option Addr) (cap : Nat) (b3 : Option Addr) (q3 : Nat) (b4 : Option Addr) (m4 q4 : Nat) (b6 : Option Addr) (m6 q6 : Nat) (oa' : Option Addr) (cap' : Nat) (hkS : ka ≠ sb) (hkp : ka ≠ pb) {M5 : Mem} {w5 : World} (hst : TgSt M w [] #[.int .i64 1, .int .i64 0, .string al, .string ⟨#[98]⟩, .slice a3 0 p3, .slice a4 l4 p4, .string on0, .slice a6 l6 p6, .string ⟨#[81]⟩, .slice oa 0 cap] #[.int .i64 2, .int .i64 0, .string al', .string ⟨#[98]⟩, .slice b3 0 q3, .slice b4 m4 q4, .string on', .slice b6 m6 q6, .string ⟨#[81]⟩, .slice oa' 0 cap'] M5 w5) (C : Code) (Q : Exit → Act → World → Prop)
  (hC : ∀ (M6 : Mem) (w6 : World) (v1 v2 v3 v6 v8 v9 v10 v12 v13 v14 v15 v16 v17 v18 v19 v20 v21 v22 v23 v24 v25 v26 v27 v28 v29 v30 v31 v32 v33 v34 v35 v36 v37 v38 v39 v40 v41 v42 v43 v44 v45 v46 v47 v48 v49 v50 v51 v52 v53 v54 v55 v56 v57 v58 v59 v60 v61 v62 v63 v64 v65 v66 v67 v68 v69 v70 v71 v72 v73 v74 v75 v76 v77 v78 v79 v80 v81 v82 v83 v84 v85 v86 v87 v88 v89 v90 v91 v92 : Value), TgSt M w [sb] #[.int .i64 1, .int .i64 0, .string al, .string ⟨#[98]⟩, .slice a3 0 p3, .slice a4 l4 p4, .string on0, .slice a6 l6 p6, .string ⟨#[81]⟩, .slice oa 0 cap] #[.int .i64 2, .int .i64 0, .string al', .string ⟨#[98]⟩, .slice b3 0 q3, .slice b4 m4 q4, .string on', .slice b6 m6 q6, .string ⟨#[81]⟩, .slice oa' 0 cap'] M6 w6 → C.wp Try.prog Q ⟨#[.pointer (some ⟨ka, 0, none⟩), v1, v2, v3, .pointer (some ⟨w.heap.size, 0, none⟩), .pointer (some ⟨w.heap.size + 1, 0, none⟩), v6, .pointer (some ⟨w.heap.size + 1 + 1, 0, none⟩), v8, v9, v10, .bool true, v12, v13, v14, v15, v16, v17, v18, v19, v20, v21, v22, v23, v24, v25, v26, v27, v28, v29, v30, v31, v32, v33, v34, v35, v36, v37, v38, v39, v40, v41, v42, v43, v44, v45, v46, v47, v48, v49, v50, v51, v52, v53, v54, v55, v56, v57, v58, v59, v60, v61, v62, v63, v64, v65, v66, v67, v68, v69, v70, v71, v72, v73, v74, v75, v76, v77, v78, v79, v80, v81, v82, v83, v84, v85, v86, v87, v88, v89, v90, v91, v92], []⟩ w6) (v1 v2 v3 v6 v8 v9 v11 v12 v13 v14 v15 v16 v17 v18 v19 v20 v21 v22 v23 v24 v25 v26 v27 v28 v29 v30 v31 v32 v33 v34 v35 v36 v37 v38 v39 v40 v41 v42 v43 v44 v45 v46 v47 v48 v49 v50 v51 v52 v53 v54 v55 v56 v57 v58 v59 v60 v61 v62 v63 v64 v65 v66 v67 v68 v69 v70 v71 v72 v73 v74 v75 v76 v77 v78 v79 v80 v81 v82 v83 v84 v85 v86 v87 v88 v89 v90 v91 v92 : Value) :
  Code.wp Try.prog (.seq (hd97 4) C) Q ⟨#[.pointer (some ⟨ka, 0, none⟩), v1, v2, v3, .pointer (some ⟨w.heap.size, 0, none⟩), .pointer (some ⟨w.heap.size + 1, 0, none⟩), v6, .pointer (some ⟨w.heap.size + 1 + 1, 0, none⟩), v8, v9, .bool false, v11, v12, v13, v14, v15, v16, v17, v18, v19, v20, v21, v22, v23, v24, v25, v26, v27, v28, v29, v30, v31, v32, v33, v34, v35, v36, v37, v38, v39, v40, v41, v42, v43, v44, v45, v46, v47, v48, v49, v50, v51, v52, v53, v54, v55, v56, v57, v58, v59, v60, v61, v62, v63, v64, v65, v66, v67, v68, v69, v70, v71, v72, v73, v74, v75, v76, v77, v78, v79, v80, v81, v82, v83, v84, v85, v86, v87, v88, v89, v90, v91, v92], []⟩ w5 := by
 have h5 := h.but hst.but (by simp)
 have hs5 := hs.but hst.but (by simp)
 obtain ⟨d0, d1, d2, d3, d4, d5, d6, d7, d8, d9⟩ := c10 hst.a
 obtain ⟨g0, g1, g2, g3, g4, g5, g6, g7, g8, g9⟩ := c10 hst.b
 have hcall := shaped_walk h5 hs5 al al' on0 on' [98] [98] (.inl rfl) (.inl rfl) a3 0 p3 a4 l4 p4 a6 l6 p6 oa cap b3 0 q3 b4 m4 q4 b6 m6 q6 oa' cap'
 have hn6 : Hid (∀ w6, ShPost M5 w5 sb w6 → ∃ M6, TgSt M w [sb] #[.int .i64 1, .int .i64 0, .string al, .string ⟨#[98]⟩, .slice a3 0 p3, .slice a4 l4 p4, .string on0, .slice a6 l6 p6, .string ⟨#[81]⟩, .slice oa 0 cap] #[.int .i64 2, .int .i64 0, .string al', .string ⟨#[98]⟩, .slice b3 0 q3, .slice b4 m4 q4, .string on', .slice b6 m6 q6, .string ⟨#[81]⟩, .slice oa' 0 cap'] M6 w6) := fun w6 hp6 => by
  obtain ⟨M6, hb6⟩ := hp6.but hs5
  exact ⟨M6, hst.step hb6 (fun x hx => by simp at hx; subst hx; exact hs.lt)⟩
 unfold hd97 tl97
 simp only [Try.f97, dropSeq, fstC]
 go_wp2_with (first | (go_at_call 101; refine hcall.mono ?_; rintro e' w6 ⟨rfl, hp6⟩; obtain ⟨M6, hst6⟩ := hn6.out w6 hp6; obtain ⟨d0, d1, d2, d3, d4, d5, d6, d7, d8, d9⟩ := c10 hst6.a; obtain ⟨g0, g1, g2, g3, g4, g5, g6, g7, g8, g9⟩ := c10 hst6.b) | (go_at_call 32; refine (alike_nil a3 p3 b3 q3 _).mono ?_; rintro e' w7 ⟨rfl, hb7⟩; have hst7 := hst6.step (But.below hst6.but.cons hb7 []) (by simp); obtain ⟨d0, d1, d2, d3, d4, d5, d6, d7, d8, d9⟩ := c10 hst7.a; obtain ⟨g0, g1, g2, g3, g4, g5, g6, g7, g8, g9⟩ := c10 hst7.b) | (go_at_call 102; refine (across_nil ka _ 1 0 al ⟨#[98]⟩ on0 ⟨#[81]⟩ a3 0 p3 a4 l4 p4 a6 l6 p6 oa cap 2 0 al' ⟨#[98]⟩ on' ⟨#[81]⟩ b3 0 q3 b4 m4 q4 b6 m6 q6 oa' cap' _).mono ?_; rintro e' w8 ⟨rfl, hb8⟩; have hst8 := hst7.step (But.below hst7.but.cons hb8 []) (by simp)))
 all_goals exact hC _ _ _ _ _ _ _ _ _ _ _ _ _ _ _ _ _ _ _ _ _ _ _ _ _ _ _ _ _ _ _ _ _ _ _ _ _ _ _ _ _ _ _ _ _ _ _ _ _ _ _ _ _ _ _ _ _ _ _ _ _ _ _ _ _ _ _ _ _ _ _ _ _ _ _ _ _ _ _ _ _ _ _ _ _ _ _ _ _ _ hst8
set_option maxHeartbeats 16000000 in
set_option maxRecDepth 100000 in
theorem tg6d {M : Mem} {w : World} {ka sb pb : Nat} {a0 : Option Addr} {l0 p0 : Nat} {no : Int} {fm : Value} (h : KAt M w ka sb pb a0 l0 p0 no fm) (hs : NoPairs w sb) (hp : NoPairs w pb) (hne : sb ≠ pb) (al al' on0 on' : ByteArray) (a3 : Option Addr) (p3 : Nat) (a4 : Option Addr) (l4 p4 : Nat) (a6 : Option Addr) (l6 p6 : Nat) (oa : Option Addr) (cap : Nat) (b3 : Option Addr) (q3 : Nat) (b4 : Option Addr) (m4 q4 : Nat) (b6 : Option Addr) (m6 q6 : Nat) (oa' : Option Addr) (cap' : Nat) (hkS : ka ≠ sb) (hkp : ka ≠ pb) {M5 : Mem} {w5 : World} (hst : TgSt M w [] #[.int .i64 1, .int .i64 0, .string al, .string ⟨#[98]⟩, .slice a3 0 p3, .slice a4 l4 p4, .string on0, .slice a6 l6 p6, .string ⟨#[81]⟩, .slice oa 0 cap] #[.int .i64 2, .int .i64 0, .string al', .string ⟨#[99]⟩, .slice b3 0 q3, .slice b4 m4 q4, .string on', .slice b6 m6 q6, .string ⟨#[81]⟩, .slice oa' 0 cap'] M5 w5) (C : Code) (Q : Exit → Act → World → Prop)
  (hC : ∀ (M6 : Mem) (w6 : World) (v1 v2 v3 v6 v8 v9 v10 v12 v13 v14 v15 v16 v17 v18 v19 v20 v21 v22 v23 v24 v25 v26 v27 v28 v29 v30 v31 v32 v33 v34 v35 v36 v37 v38 v39 v40 v41 v42 v43 v44 v45 v46 v47 v48 v49 v50 v51 v52 v53 v54 v55 v56 v57 v58 v59 v60 v61 v62 v63 v64 v65 v66 v67 v68 v69 v70 v71 v72 v73 v74 v75 v76 v77 v78 v79 v80 v81 v82 v83 v84 v85 v86 v87 v88 v89 v90 v91 v92 : Value), TgSt M w [sb] #[.int .i64 1, .int .i64 0, .string al, .string ⟨#[98]⟩, .slice a3 0 p3, .slice a4 l4 p4, .string on0, .slice a6 l6 p6, .string ⟨#[81]⟩, .slice oa 0 cap] #[.int .i64 2, .int .i64 0, .string al', .string ⟨#[99]⟩, .slice b3 0 q3, .slice b4 m4 q4, .string on', .slice b6 m6 q6, .string ⟨#[81]⟩, .slice oa' 0 cap'] M6 w6 → C.wp Try.prog Q ⟨#[.pointer (some ⟨ka, 0, none⟩), v1, v2, v3, .pointer (some ⟨w.heap.size, 0, none⟩), .pointer (some ⟨w.heap.size + 1, 0, none⟩), v6, .pointer (some ⟨w.heap.size + 1 + 1, 0, none⟩), v8, v9, v10, .bool false, v12, v13, v14, v15, v16, v17, v18, v19, v20, v21, v22, v23, v24, v25, v26, v27, v28, v29, v30, v31, v32, v33, v34, v35, v36, v37, v38, v39, v40, v41, v42, v43, v44, v45, v46, v47, v48, v49, v50, v51, v52, v53, v54, v55, v56, v57, v58, v59, v60, v61, v62, v63, v64, v65, v66, v67, v68, v69, v70, v71, v72, v73, v74, v75, v76, v77, v78, v79, v80, v81, v82, v83, v84, v85, v86, v87, v88, v89, v90, v91, v92], []⟩ w6) (v1 v2 v3 v6 v8 v9 v11 v12 v13 v14 v15 v16 v17 v18 v19 v20 v21 v22 v23 v24 v25 v26 v27 v28 v29 v30 v31 v32 v33 v34 v35 v36 v37 v38 v39 v40 v41 v42 v43 v44 v45 v46 v47 v48 v49 v50 v51 v52 v53 v54 v55 v56 v57 v58 v59 v60 v61 v62 v63 v64 v65 v66 v67 v68 v69 v70 v71 v72 v73 v74 v75 v76 v77 v78 v79 v80 v81 v82 v83 v84 v85 v86 v87 v88 v89 v90 v91 v92 : Value) :
  Code.wp Try.prog (.seq (hd97 4) C) Q ⟨#[.pointer (some ⟨ka, 0, none⟩), v1, v2, v3, .pointer (some ⟨w.heap.size, 0, none⟩), .pointer (some ⟨w.heap.size + 1, 0, none⟩), v6, .pointer (some ⟨w.heap.size + 1 + 1, 0, none⟩), v8, v9, .bool false, v11, v12, v13, v14, v15, v16, v17, v18, v19, v20, v21, v22, v23, v24, v25, v26, v27, v28, v29, v30, v31, v32, v33, v34, v35, v36, v37, v38, v39, v40, v41, v42, v43, v44, v45, v46, v47, v48, v49, v50, v51, v52, v53, v54, v55, v56, v57, v58, v59, v60, v61, v62, v63, v64, v65, v66, v67, v68, v69, v70, v71, v72, v73, v74, v75, v76, v77, v78, v79, v80, v81, v82, v83, v84, v85, v86, v87, v88, v89, v90, v91, v92], []⟩ w5 := by
 have h5 := h.but hst.but (by simp)
 have hs5 := hs.but hst.but (by simp)
 obtain ⟨d0, d1, d2, d3, d4, d5, d6, d7, d8, d9⟩ := c10 hst.a
 obtain ⟨g0, g1, g2, g3, g4, g5, g6, g7, g8, g9⟩ := c10 hst.b
 have hcall := shaped_walk h5 hs5 al al' on0 on' [98] [99] (.inl rfl) (.inr rfl) a3 0 p3 a4 l4 p4 a6 l6 p6 oa cap b3 0 q3 b4 m4 q4 b6 m6 q6 oa' cap'
 have hn6 : Hid (∀ w6, ShPost M5 w5 sb w6 → ∃ M6, TgSt M w [sb] #[.int .i64 1, .int .i64 0, .string al, .string ⟨#[98]⟩, .slice a3 0 p3, .slice a4 l4 p4, .string on0, .slice a6 l6 p6, .string ⟨#[81]⟩, .slice oa 0 cap] #[.int .i64 2, .int .i64 0, .string al', .string ⟨#[99]⟩, .slice b3 0 q3, .slice b4 m4 q4, .string on', .slice b6 m6 q6, .string ⟨#[81]⟩, .slice oa' 0 cap'] M6 w6) := fun w6 hp6 => by
  obtain ⟨M6, hb6⟩ := hp6.but hs5
  exact ⟨M6, hst.step hb6 (fun x hx => by simp at hx; subst hx; exact hs.lt)⟩
 unfold hd97 tl97
 simp only [Try.f97, dropSeq, fstC]
 go_wp2_with (first | (go_at_call 101; refine hcall.mono ?_; rintro e' w6 ⟨rfl, hp6⟩; obtain ⟨M6, hst6⟩ := hn6.out w6 hp6; obtain ⟨d0, d1, d2, d3, d4, d5, d6, d7, d8, d9⟩ := c10 hst6.a; obtain ⟨g0, g1, g2, g3, g4, g5, g6, g7, g8, g9⟩ := c10 hst6.b) | (go_at_call 32; refine (alike_nil a3 p3 b3 q3 _).mono ?_; rintro e' w7 ⟨rfl, hb7⟩; have hst7 := hst6.step (But.below hst6.but.cons hb7 []) (by simp); obtain ⟨d0, d1, d2, d3, d4, d5, d6, d7, d8, d9⟩ := c10 hst7.a; obtain ⟨g0, g1, g2, g3, g4, g5, g6, g7, g8, g9⟩ := c10 hst7.b) | (go_at_call 102; refine (across_nil ka _ 1 0 al ⟨#[98]⟩ on0 ⟨#[81]⟩ a3 0 p3 a4 l4 p4 a6 l6 p6 oa cap 2 0 al' ⟨#[99]⟩ on' ⟨#[81]⟩ b3 0 q3 b4 m4 q4 b6 m6 q6 oa' cap' _).mono ?_; rintro e' w8 ⟨rfl, hb8⟩; have hst8 := hst7.step (But.below hst7.but.cons hb8 []) (by simp)))
 all_goals exact hC _ _ _ _ _ _ _ _ _ _ _ _ _ _ _ _ _ _ _ _ _ _ _ _ _ _ _ _ _ _ _ _ _ _ _ _ _ _ _ _ _ _ _ _ _ _ _ _ _ _ _ _ _ _ _ _ _ _ _ _ _ _ _ _ _ _ _ _ _ _ _ _ _ _ _ _ _ _ _ _ _ _ _ _ _ _ _ _ _ _ hst6
set_option maxHeartbeats 16000000 in
set_option maxRecDepth 100000 in
theorem tg5 {M : Mem} {w : World} {ka : Nat} (al al' on0 on' nm nm' : ByteArray) (a3 : Option Addr) (l3 p3 : Nat) (a4 : Option Addr) (l4 p4 : Nat) (a6 : Option Addr) (l6 p6 : Nat) (oa : Option Addr) (cap : Nat) (b3 : Option Addr) (m3 q3 : Nat) (b4 : Option Addr) (m4 q4 : Nat) (b6 : Option Addr) (m6 q6 : Nat) (oa' : Option Addr) (cap' : Nat) {M5 : Mem} {w5 : World} (hst : TgSt M w [] #[.int .i64 1, .int .i64 0, .string al, .string nm, .slice a3 l3 p3, .slice a4 l4 p4, .string on0, .slice a6 l6 p6, .string ⟨#[81]⟩, .slice oa 0 cap] #[.int .i64 2, .int .i64 0, .string al', .string nm', .slice b3 m3 q3, .slice b4 m4 q4, .string on', .slice b6 m6 q6, .string ⟨#[81]⟩, .slice oa' 0 cap'] M5 w5) (C : Code) (Q : Exit → Act → World → Prop)
  (hC : ∀ (w6 : World) (v1 v2 v3 v6 v8 v9 v11 v12 v13 v14 v15 v16 v17 v18 v19 v20 v21 v22 v23 v24 v25 v26 v27 v28 v29 v30 v31 v32 v33 v34 v35 v36 v37 v38 v39 v40 v41 v42 v43 v44 v45 v46 v47 v48 v49 v50 v51 v52 v53 v54 v55 v56 v57 v58 v59 v60 v61 v62 v63 v64 v65 v66 v67 v68 v69 v70 v71 v72 v73 v74 v75 v76 v77 v78 v79 v80 v81 v82 v83 v84 v85 v86 v87 v88 v89 v90 v91 v92 : Value), TgSt M w [] #[.int .i64 1, .int .i64 0, .string al, .string nm, .slice a3 l3 p3, .slice a4 l4 p4, .string on0, .slice a6 l6 p6, .string ⟨#[81]⟩, .slice oa 0 cap] #[.int .i64 2, .int .i64 0, .string al', .string nm', .slice b3 m3 q3, .slice b4 m4 q4, .string on', .slice b6 m6 q6, .string ⟨#[81]⟩, .slice oa' 0 cap'] M5 w6 → C.wp Try.prog Q ⟨#[.pointer (some ⟨ka, 0, none⟩), v1, v2, v3, .pointer (some ⟨w.heap.size, 0, none⟩), .pointer (some ⟨w.heap.size + 1, 0, none⟩), v6, .pointer (some ⟨w.heap.size + 1 + 1, 0, none⟩), v8, v9, .bool false, v11, v12, v13, v14, v15, v16, v17, v18, v19, v20, v21, v22, v23, v24, v25, v26, v27, v28, v29, v30, v31, v32, v33, v34, v35, v36, v37, v38, v39, v40, v41, v42, v43, v44, v45, v46, v47, v48, v49, v50, v51, v52, v53, v54, v55, v56, v57, v58, v59, v60, v61, v62, v63, v64, v65, v66, v67, v68, v69, v70, v71, v72, v73, v74, v75, v76, v77, v78, v79, v80, v81, v82, v83, v84, v85, v86, v87, v88, v89, v90, v91, v92], []⟩ w6) (v1 v2 v3 v6 v8 v9 v10 v11 v12 v13 v14 v15 v16 v17 v18 v19 v20 v21 v22 v23 v24 v25 v26 v27 v28 v29 v30 v31 v32 v33 v34 v35 v36 v37 v38 v39 v40 v41 v42 v43 v44 v45 v46 v47 v48 v49 v50 v51 v52 v53 v54 v55 v56 v57 v58 v59 v60 v61 v62 v63 v64 v65 v66 v67 v68 v69 v70 v71 v72 v73 v74 v75 v76 v77 v78 v79 v80 v81 v82 v83 v84 v85 v86 v87 v88 v89 v90 v91 v92 : Value) :
  Code.wp Try.prog (.seq (hd97 3) C) Q ⟨#[.pointer (some ⟨ka, 0, none⟩), v1, v2, v3, .pointer (some ⟨w.heap.size, 0, none⟩), .pointer (some ⟨w.heap.size + 1, 0, none⟩), v6, .pointer (some ⟨w.heap.size + 1 + 1, 0, none⟩), v8, v9, v10, v11, v12, v13, v14, v15, v16, v17, v18, v19, v20, v21, v22, v23, v24, v25, v26, v27, v28, v29, v30, v31, v32, v33, v34, v35, v36, v37, v38, v39, v40, v41, v42, v43, v44, v45, v46, v47, v48, v49, v50, v51, v52, v53, v54, v55, v56, v57, v58, v59, v60, v61, v62, v63, v64, v65, v66, v67, v68, v69, v70, v71, v72, v73, v74, v75, v76, v77, v78, v79, v80, v81, v82, v83, v84, v85, v86, v87, v88, v89, v90, v91, v92], []⟩ w5 := by
 obtain ⟨d0, d1, d2, d3, d4, d5, d6, d7, d8, d9⟩ := c10 hst.a
 obtain ⟨g0, g1, g2, g3, g4, g5, g6, g7, g8, g9⟩ := c10 hst.b
 have hst6 := hst.step (But.below hst.but.cons ((Below.refl w5.heap.size w5).drew) []) (by simp)
 unfold hd97 tl97
 simp only [Try.f97, dropSeq, fstC]
 go_wp2
 go_region
 all_goals go_wp2
 all_goals exact hC _ _ _ _ _ _ _ _ _ _ _ _ _ _ _ _ _ _ _ _ _ _ _ _ _ _ _ _ _ _ _ _ _ _ _ _ _ _ _ _ _ _ _ _ _ _ _ _ _ _ _ _ _ _ _ _ _ _ _ _ _ _ _ _ _ _ _ _ _ _ _ _ _ _ _ _ _ _ _ _ _ _ _ _ _ _ _ _ _ hst6
set_option maxHeartbeats 16000000 in
set_option maxRecDepth 100000 in
theorem tg0 {M : Mem} {w : World} {ka sb pb : Nat} {a0 : Option Addr} {l0 p0 : Nat} {no : Int} {fm : Value} (h : KAt M w ka sb pb a0 l0 p0 no fm) (hs : NoPairs w sb) (hp : NoPairs w pb) (hne : sb ≠ pb) (al al' on0 on' nm nm' : ByteArray) (a3 : Option Addr) (l3 p3 : Nat) (a4 : Option Addr) (l4 p4 : Nat) (a6 : Option Addr) (l6 p6 : Nat) (oa : Option Addr) (cap : Nat) (b3 : Option Addr) (m3 q3 : Nat) (b4 : Option Addr) (m4 q4 : Nat) (b6 : Option Addr) (m6 q6 : Nat) (oa' : Option Addr) (cap' : Nat) (C : Code) (Q : Exit → Act → World → Prop) (hC : ∀ (w4 : World) (v1 v2 v3 v6 v8 v9 v10 v11 v12 v13 v14 v15 v16 v17 v18 v19 v20 v21 v22 v23 v24 v25 v26 v27 v28 v29 v30 v31 v32 v33 v34 v35 v36 v37 v38 v39 v40 v41 v42 v43 v44 v45 v46 v47 v48 v49 v50 v51 v52 v53 v54 v55 v56 v57 v58 v59 v60 v61 v62 v63 v64 v65 v66 v67 v68 v69 v70 v71 v72 v73 v74 v75 v76 v77 v78 v79 v80 v81 v82 v83 v84 v85 v86 v87 v88 v89 v90 v91 v92 : Value), TgSt M w [] #[.int .i64 1, .int .i64 0, .string al, .string nm, .slice a3 l3 p3, .slice a4 l4 p4, .string on0, .slice a6 l6 p6, .string ⟨#[81]⟩, .slice oa 0 cap] #[.int .i64 2, .int .i64 0, .string al', .string nm', .slice b3 m3 q3, .slice b4 m4 q4, .string on', .slice b6 m6 q6, .string ⟨#[81]⟩, .slice oa' 0 cap'] M w4 → C.wp Try.prog Q ⟨#[.pointer (some ⟨ka, 0, none⟩), v1, v2, v3, .pointer (some ⟨w.heap.size, 0, none⟩), .pointer (some ⟨w.heap.size + 1, 0, none⟩), v6, .pointer (some ⟨w.heap.size + 1 + 1, 0, none⟩), v8, v9, v10, v11, v12, v13, v14, v15, v16, v17, v18, v19, v20, v21, v22, v23, v24, v25, v26, v27, v28, v29, v30, v31, v32, v33, v34, v35, v36, v37, v38, v39, v40, v41, v42, v43, v44, v45, v46, v47, v48, v49, v50, v51, v52, v53, v54, v55, v56, v57, v58, v59, v60, v61, v62, v63, v64, v65, v66, v67, v68, v69, v70, v71, v72, v73, v74, v75, v76, v77, v78, v79, v80, v81, v82, v83, v84, v85, v86, v87, v88, v89, v90, v91, v92], []⟩ w4) :
  Code.wp Try.prog (.seq (hd97 0) (.seq (hd97 1) (.seq (hd97 2) C))) Q ⟨#[.pointer (some ⟨ka, 0, none⟩), .agg #[.int .i64 1, .int .i64 0, .string al, .string nm, .slice a3 l3 p3, .slice a4 l4 p4, .string on0, .slice a6 l6 p6, .string ⟨#[81]⟩, .slice oa 0 cap], .agg #[.int .i64 2, .int .i64 0, .string al', .string nm', .slice b3 m3 q3, .slice b4 m4 q4, .string on', .slice b6 m6 q6, .string ⟨#[81]⟩, .slice oa' 0 cap'], undef, undef, undef, undef, undef, undef, undef, undef, undef, undef, undef, undef, undef, undef, undef, undef, undef, undef, undef, undef, undef, undef, undef, undef, undef, undef, undef, undef, undef, undef, undef, undef, undef, undef, undef, undef, undef, undef, undef, undef, undef, undef, undef, undef, undef, undef, undef, undef, undef, undef, undef, undef, undef, undef, undef, undef, undef, undef, undef, undef, undef, undef, undef, undef, undef, undef, undef, undef, undef, undef, undef, undef, undef, undef, undef, undef, undef, undef, undef, undef, undef, undef, undef, undef, undef, undef, undef, undef, undef, undef], []⟩ w := by
 have hkl : ka < w.heap.size := (Array.getElem?_eq_some_iff.1 h.row).1
 unfold hd97 tl97
 simp only [Try.f97, dropSeq, fstC]
 go_wp2
 obtain ⟨w3, hw3⟩ : ∃ w3, w3 = ((w.alloc (.cells #[.int .i64 1, .int .i64 0, .string al, .string nm, .slice a3 l3 p3, .slice a4 l4 p4, .string on0, .slice a6 l6 p6, .string ⟨#[81]⟩, .slice oa 0 cap] 152)).alloc (.cells #[.int .i64 2, .int .i64 0, .string al', .string nm', .slice b3 m3 q3, .slice b4 m4 q4, .string on', .slice b6 m6 q6, .string ⟨#[81]⟩, .slice oa' 0 cap'] 152)).alloc (.cells #[.int .i64 1, .int .i64 2] 159) := ⟨_, rfl⟩
 rw [← hw3]
 have hb3 : Below w.heap.size w w3 := by rw [hw3]; exact (((Below.refl _ _).alloc (Nat.le_refl _) _).alloc (by simp) _).alloc (by simp; omega) _
 have hA : w3.heap[w.heap.size]? = some (.cells #[.int .i64 1, .int .i64 0, .string al, .string nm, .slice a3 l3 p3, .slice a4 l4 p4, .string on0, .slice a6 l6 p6, .string ⟨#[81]⟩, .slice oa 0 cap] 152 (0, 0)) := by rw [hw3]; exact (heap_alloc_old _ _ (by simp; omega)).trans ((heap_alloc_old _ _ (by simp)).trans (heap_alloc_new w _))
 have hB : w3.heap[w.heap.size + 1]? = some (.cells #[.int .i64 2, .int .i64 0, .string al', .string nm', .slice b3 m3 q3, .slice b4 m4 q4, .string on', .slice b6 m6 q6, .string ⟨#[81]⟩, .slice oa' 0 cap'] 152 (0, 0)) := by
  have := heap_alloc_new (w.alloc (.cells #[.int .i64 1, .int .i64 0, .string al, .string nm, .slice a3 l3 p3, .slice a4 l4 p4, .string on0, .slice a6 l6 p6, .string ⟨#[81]⟩, .slice oa 0 cap] 152)) (.cells #[.int .i64 2, .int .i64 0, .string al', .string nm', .slice b3 m3 q3, .slice b4 m4 q4, .string on', .slice b6 m6 q6, .string ⟨#[81]⟩, .slice oa' 0 cap'] 152)
  rw [hw3]
  exact (heap_alloc_old _ _ (by simp)).trans (by simpa using this)
 have hC3 : w3.heap[w.heap.size + 2]? = some (.cells #[.int .i64 1, .int .i64 2] 159 (0, 0)) := by
  have := heap_alloc_new ((w.alloc (.cells #[.int .i64 1, .int .i64 0, .string al, .string nm, .slice a3 l3 p3, .slice a4 l4 p4, .string on0, .slice a6 l6 p6, .string ⟨#[81]⟩, .slice oa 0 cap] 152)).alloc (.cells #[.int .i64 2, .int .i64 0, .string al', .string nm', .slice b3 m3 q3, .slice b4 m4 q4, .string on', .slice b6 m6 q6, .string ⟨#[81]⟩, .slice oa' 0 cap'] 152)) (.cells #[.int .i64 1, .int .i64 2] 159)
  rw [hw3]
  simpa using this
 clear hw3
 have hlt := hp.lt
 have hs3 : NoPairs w3 pb := hp.congr (hb3.block pb hlt)
 have hrow3 := (hb3.block ka hkl).trans h.row
 have hk5 : w3.cell? ⟨ka, 6, none⟩ = some (.map (some pb)) := by rw [cell_of_row w3 _ _ _ _ _ hrow3]; rfl
 have hc0 : w3.cell? ⟨w.heap.size + 1 + 1, 0, none⟩ = some (.int .i64 1) := by rw [cell_of_row w3 _ _ _ _ _ hC3]; rfl
 have hc1 : w3.cell? ⟨w.heap.size + 1 + 1, 1, none⟩ = some (.int .i64 2) := by rw [cell_of_row w3 _ _ _ _ _ hC3]; rfl
 have hlook : (Instr.lookup 130 (.map (some pb)) (.agg #[.int .i64 1, .int .i64 2]) true).run Try.prog w3.drew = .ok (.tuple #[.bool false, .bool false]) w3.drew := (NoPairs.congr (w' := w3.drew) hs3 rfl).look
 have hst3 : TgSt M w [] #[.int .i64 1, .int .i64 0, .string al, .string nm, .slice a3 l3 p3, .slice a4 l4 p4, .string on0, .slice a6 l6 p6, .string ⟨#[81]⟩, .slice oa 0 cap] #[.int .i64 2, .int .i64 0, .string al', .string nm', .slice b3 m3 q3, .slice b4 m4 q4, .string on', .slice b6 m6 q6, .string ⟨#[81]⟩, .slice oa' 0 cap'] M w3 := ⟨But.below h.cons hb3 [], hA, hB, hC3⟩
 have hst4 := hst3.step (But.below hst3.but.cons ((Below.refl w3.heap.size w3).drew) []) (by simp)
 go_region
 go_wp2
 exact hC _ _ _ _ _ _ _ _ _ _ _ _ _ _ _ _ _ _ _ _ _ _ _ _ _ _ _ _ _ _ _ _ _ _ _ _ _ _ _ _ _ _ _ _ _ _ _ _ _ _ _ _ _ _ _ _ _ _ _ _ _ _ _ _ _ _ _ _ _ _ _ _ _ _ _ _ _ _ _ _ _ _ _ _ _ _ _ _ _ _ hst4
set_option maxRecDepth 100000 in
theorem together_walke {M : Mem} {w : World} {ka sb pb : Nat} {a0 : Option Addr} {l0 p0 : Nat} {no : Int} {fm : Value} (h : KAt M w ka sb pb a0 l0 p0 no fm) (hs : NoPairs w sb) (hp : NoPairs w pb) (hne : sb ≠ pb) (al al' on0 on' : ByteArray) (a3 : Option Addr) (p3 : Nat) (a4 : Option Addr) (l4 p4 : Nat) (a6 : Option Addr) (l6 p6 : Nat) (oa : Option Addr) (cap : Nat) (b3 : Option Addr) (q3 : Nat) (b4 : Option Addr) (m4 q4 : Nat) (b6 : Option Addr) (m6 q6 : Nat) (oa' : Option Addr) (cap' : Nat) (hkp : ka ≠ pb) (hks : ka ≠ sb) :
  Calls Try.prog 97 #[.pointer (some ⟨ka, 0, none⟩), .agg #[.int .i64 1, .int .i64 0, .string al, .string ⟨#[98]⟩, .slice a3 0 p3, .slice a4 l4 p4, .string on0, .slice a6 l6 p6, .string ⟨#[81]⟩, .slice oa 0 cap], .agg #[.int .i64 2, .int .i64 0, .string al', .string ⟨#[98]⟩, .slice b3 0 q3, .slice b4 m4 q4, .string on', .slice b6 m6 q6, .string ⟨#[81]⟩, .slice oa' 0 cap']] w fun e w' => e = .returned (.bool true) ∧ ∃ M', But M w [sb, pb] M' w' := by
 refine calls_of_wp Try.func97 body97 ?_
 simp only [Try.ntmps97, List.size_toArray, List.length_cons, List.length_nil, Nat.reduceAdd, Nat.reduceSub, Array.replicate_succ,
   Array.replicate_zero, List.push_toArray, List.append_toArray, List.nil_append, List.cons_append]
 refine tg0 h hs hp hne al al' on0 on' ⟨#[98]⟩ ⟨#[98]⟩ a3 0 p3 a4 l4 p4 a6 l6 p6 oa cap b3 0 q3 b4 m4 q4 b6 m6 q6 oa' cap' _ _ fun w4 v1 v2 v3 v6 v8 v9 v10 v11 v12 v13 v14 v15 v16 v17 v18 v19 v20 v21 v22 v23 v24 v25 v26 v27 v28 v29 v30 v31 v32 v33 v34 v35 v36 v37 v38 v39 v40 v41 v42 v43 v44 v45 v46 v47 v48 v49 v50 v51 v52 v53 v54 v55 v56 v57 v58 v59 v60 v61 v62 v63 v64 v65 v66 v67 v68 v69 v70 v71 v72 v73 v74 v75 v76 v77 v78 v79 v80 v81 v82 v83 v84 v85 v86 v87 v88 v89 v90 v91 v92 hst => ?_
 refine tg5 al al' on0 on' ⟨#[98]⟩ ⟨#[98]⟩ a3 0 p3 a4 l4 p4 a6 l6 p6 oa cap b3 0 q3 b4 m4 q4 b6 m6 q6 oa' cap' hst _ _ (fun w5 v1 v2 v3 v6 v8 v9 v11 v12 v13 v14 v15 v16 v17 v18 v19 v20 v21 v22 v23 v24 v25 v26 v27 v28 v29 v30 v31 v32 v33 v34 v35 v36 v37 v38 v39 v40 v41 v42 v43 v44 v45 v46 v47 v48 v49 v50 v51 v52 v53 v54 v55 v56 v57 v58 v59 v60 v61 v62 v63 v64 v65 v66 v67 v68 v69 v70 v71 v72 v73 v74 v75 v76 v77 v78 v79 v80 v81 v82 v83 v84 v85 v86 v87 v88 v89 v90 v91 v92 hst5 => ?_) v1 v2 v3 v6 v8 v9 v10 v11 v12 v13 v14 v15 v16 v17 v18 v19 v20 v21 v22 v23 v24 v25 v26 v27 v28 v29 v30 v31 v32 v33 v34 v35 v36 v37 v38 v39 v40 v41 v42 v43 v44 v45 v46 v47 v48 v49 v50 v51 v52 v53 v54 v55 v56 v57 v58 v59 v60 v61 v62 v63 v64 v65 v66 v67 v68 v69 v70 v71 v72 v73 v74 v75 v76 v77 v78 v79 v80 v81 v82 v83 v84 v85 v86 v87 v88 v89 v90 v91 v92
 refine tg6e h hs hp hne al al' on0 on' a3 p3 a4 l4 p4 a6 l6 p6 oa cap b3 q3 b4 m4 q4 b6 m6 q6 oa' cap' hks hkp hst5 _ _ (fun M6 w6 v1 v2 v3 v6 v8 v9 v10 v12 v13 v14 v15 v16 v17 v18 v19 v20 v21 v22 v23 v24 v25 v26 v27 v28 v29 v30 v31 v32 v33 v34 v35 v36 v37 v38 v39 v40 v41 v42 v43 v44 v45 v46 v47 v48 v49 v50 v51 v52 v53 v54 v55 v56 v57 v58 v59 v60 v61 v62 v63 v64 v65 v66 v67 v68 v69 v70 v71 v72 v73 v74 v75 v76 v77 v78 v79 v80 v81 v82 v83 v84 v85 v86 v87 v88 v89 v90 v91 v92 hst6 => ?_) v1 v2 v3 v6 v8 v9 v11 v12 v13 v14 v15 v16 v17 v18 v19 v20 v21 v22 v23 v24 v25 v26 v27 v28 v29 v30 v31 v32 v33 v34 v35 v36 v37 v38 v39 v40 v41 v42 v43 v44 v45 v46 v47 v48 v49 v50 v51 v52 v53 v54 v55 v56 v57 v58 v59 v60 v61 v62 v63 v64 v65 v66 v67 v68 v69 v70 v71 v72 v73 v74 v75 v76 v77 v78 v79 v80 v81 v82 v83 v84 v85 v86 v87 v88 v89 v90 v91 v92
 exact tg7 h hs hp hne (by simpa using hks) (by simpa using hne.symm) hst6 true _ (fun w7 h7 => ⟨rfl, M6, (hst6.but.sub (by simp)).trans ((But.grown hst6.but.cons (hp.but hst6.but (by simpa using hne.symm)) h7).sub (by simp))⟩) v1 v2 v3 v6 v8 v9 v10 v12 v13 v14 v15 v16 v17 v18 v19 v20 v21 v22 v23 v24 v25 v26 v27 v28 v29 v30 v31 v32 v33 v34 v35 v36 v37 v38 v39 v40 v41 v42 v43 v44 v45 v46 v47 v48 v49 v50 v51 v52 v53 v54 v55 v56 v57 v58 v59 v60 v61 v62 v63 v64 v65 v66 v67 v68 v69 v70 v71 v72 v73 v74 v75 v76 v77 v78 v79 v80 v81 v82 v83 v84 v85 v86 v87 v88 v89 v90 v91 v92
set_option maxRecDepth 100000 in
theorem together_walkd {M : Mem} {w : World} {ka sb pb : Nat} {a0 : Option Addr} {l0 p0 : Nat} {no : Int} {fm : Value} (h : KAt M w ka sb pb a0 l0 p0 no fm) (hs : NoPairs w sb) (hp : NoPairs w pb) (hne : sb ≠ pb) (al al' on0 on' : ByteArray) (a3 : Option Addr) (p3 : Nat) (a4 : Option Addr) (l4 p4 : Nat) (a6 : Option Addr) (l6 p6 : Nat) (oa : Option Addr) (cap : Nat) (b3 : Option Addr) (q3 : Nat) (b4 : Option Addr) (m4 q4 : Nat) (b6 : Option Addr) (m6 q6 : Nat) (oa' : Option Addr) (cap' : Nat) (hkp : ka ≠ pb) (hks : ka ≠ sb) :
  Calls Try.prog 97 #[.pointer (some ⟨ka, 0, none⟩), .agg #[.int .i64 1, .int .i64 0, .string al, .string ⟨#[98]⟩, .slice a3 0 p3, .slice a4 l4 p4, .string on0, .slice a6 l6 p6, .string ⟨#[81]⟩, .slice oa 0 cap], .agg #[.int .i64 2, .int .i64 0, .string al', .string ⟨#[99]⟩, .slice b3 0 q3, .slice b4 m4 q4, .string on', .slice b6 m6 q6, .string ⟨#[81]⟩, .slice oa' 0 cap']] w fun e w' => e = .returned (.bool false) ∧ ∃ M', But M w [sb, pb] M' w' := by
 refine calls_of_wp Try.func97 body97 ?_
 simp only [Try.ntmps97, List.size_toArray, List.length_cons, List.length_nil, Nat.reduceAdd, Nat.reduceSub, Array.replicate_succ,
   Array.replicate_zero, List.push_toArray, List.append_toArray, List.nil_append, List.cons_append]
 refine tg0 h hs hp hne al al' on0 on' ⟨#[98]⟩ ⟨#[99]⟩ a3 0 p3 a4 l4 p4 a6 l6 p6 oa cap b3 0 q3 b4 m4 q4 b6 m6 q6 oa' cap' _ _ fun w4 v1 v2 v3 v6 v8 v9 v10 v11 v12 v13 v14 v15 v16 v17 v18 v19 v20 v21 v22 v23 v24 v25 v26 v27 v28 v29 v30 v31 v32 v33 v34 v35 v36 v37 v38 v39 v40 v41 v42 v43 v44 v45 v46 v47 v48 v49 v50 v51 v52 v53 v54 v55 v56 v57 v58 v59 v60 v61 v62 v63 v64 v65 v66 v67 v68 v69 v70 v71 v72 v73 v74 v75 v76 v77 v78 v79 v80 v81 v82 v83 v84 v85 v86 v87 v88 v89 v90 v91 v92 hst => ?_
 refine tg5 al al' on0 on' ⟨#[98]⟩ ⟨#[99]⟩ a3 0 p3 a4 l4 p4 a6 l6 p6 oa cap b3 0 q3 b4 m4 q4 b6 m6 q6 oa' cap' hst _ _ (fun w5 v1 v2 v3 v6 v8 v9 v11 v12 v13 v14 v15 v16 v17 v18 v19 v20 v21 v22 v23 v24 v25 v26 v27 v28 v29 v30 v31 v32 v33 v34 v35 v36 v37 v38 v39 v40 v41 v42 v43 v44 v45 v46 v47 v48 v49 v50 v51 v52 v53 v54 v55 v56 v57 v58 v59 v60 v61 v62 v63 v64 v65 v66 v67 v68 v69 v70 v71 v72 v73 v74 v75 v76 v77 v78 v79 v80 v81 v82 v83 v84 v85 v86 v87 v88 v89 v90 v91 v92 hst5 => ?_) v1 v2 v3 v6 v8 v9 v10 v11 v12 v13 v14 v15 v16 v17 v18 v19 v20 v21 v22 v23 v24 v25 v26 v27 v28 v29 v30 v31 v32 v33 v34 v35 v36 v37 v38 v39 v40 v41 v42 v43 v44 v45 v46 v47 v48 v49 v50 v51 v52 v53 v54 v55 v56 v57 v58 v59 v60 v61 v62 v63 v64 v65 v66 v67 v68 v69 v70 v71 v72 v73 v74 v75 v76 v77 v78 v79 v80 v81 v82 v83 v84 v85 v86 v87 v88 v89 v90 v91 v92
 refine tg6d h hs hp hne al al' on0 on' a3 p3 a4 l4 p4 a6 l6 p6 oa cap b3 q3 b4 m4 q4 b6 m6 q6 oa' cap' hks hkp hst5 _ _ (fun M6 w6 v1 v2 v3 v6 v8 v9 v10 v12 v13 v14 v15 v16 v17 v18 v19 v20 v21 v22 v23 v24 v25 v26 v27 v28 v29 v30 v31 v32 v33 v34 v35 v36 v37 v38 v39 v40 v41 v42 v43 v44 v45 v46 v47 v48 v49 v50 v51 v52 v53 v54 v55 v56 v57 v58 v59 v60 v61 v62 v63 v64 v65 v66 v67 v68 v69 v70 v71 v72 v73 v74 v75 v76 v77 v78 v79 v80 v81 v82 v83 v84 v85 v86 v87 v88 v89 v90 v91 v92 hst6 => ?_) v1 v2 v3 v6 v8 v9 v11 v12 v13 v14 v15 v16 v17 v18 v19 v20 v21 v22 v23 v24 v25 v26 v27 v28 v29 v30 v31 v32 v33 v34 v35 v36 v37 v38 v39 v40 v41 v42 v43 v44 v45 v46 v47 v48 v49 v50 v51 v52 v53 v54 v55 v56 v57 v58 v59 v60 v61 v62 v63 v64 v65 v66 v67 v68 v69 v70 v71 v72 v73 v74 v75 v76 v77 v78 v79 v80 v81 v82 v83 v84 v85 v86 v87 v88 v89 v90 v91 v92
 exact tg7 h hs hp hne (by simpa using hks) (by simpa using hne.symm) hst6 false _ (fun w7 h7 => ⟨rfl, M6, (hst6.but.sub (by simp)).trans ((But.grown hst6.but.cons (hp.but hst6.but (by simpa using hne.symm)) h7).sub (by simp))⟩) v1 v2 v3 v6 v8 v9 v10 v12 v13 v14 v15 v16 v17 v18 v19 v20 v21 v22 v23 v24 v25 v26 v27 v28 v29 v30 v31 v32 v33 v34 v35 v36 v37 v38 v39 v40 v41 v42 v43 v44 v45 v46 v47 v48 v49 v50 v51 v52 v53 v54 v55 v56 v57 v58 v59 v60 v61 v62 v63 v64 v65 v66 v67 v68 v69 v70 v71 v72 v73 v74 v75 v76 v77 v78 v79 v80 v81 v82 v83 v84 v85 v86 v87 v88 v89 v90 v91 v92
theorem Try.info152 : (Try.prog.info? 152).map (fun i => (i.zero, i.size, i.bytes)) = some (some (.agg #[.int .i64 0, .int .i64 0, .string ByteArray.empty, .string ByteArray.empty, .slice none 0 0, .slice none 0 0, .string ByteArray.empty, .slice none 0 0, .string ByteArray.empty, .slice none 0 0]), 10, 176) := by kernel_rfl
theorem info_parts {o : Option TypeInfo} {z : Option Value} {s b : Nat} (h : o.map (fun i => (i.zero, i.size, i.bytes)) = some (z, s, b)) : ∃ i, o = some i ∧ i.zero = z ∧ i.size = s ∧ i.bytes = b := by
 cases o with
 | none => simp at h
 | some i => simp at h; exact ⟨i, rfl, h.1, h.2.1, h.2.2⟩
def CellsAt (w : World) (g off : Nat) (l : List Value) : Prop := ∀ j v, l[j]? = some v → w.cell? ⟨g, off + j, none⟩ = some v
theorem CellsAt.ten {w : World} {g off : Nat} {v0 v1 v2 v3 v4 v5 v6 v7 v8 v9 : Value} (h : CellsAt w g off [v0, v1, v2, v3, v4, v5, v6, v7, v8, v9]) :
  w.cell? ⟨g, off, none⟩ = some v0 ∧ w.cell? ⟨g, off + 1, none⟩ = some v1 ∧ w.cell? ⟨g, off + 2, none⟩ = some v2 ∧ w.cell? ⟨g, off + 3, none⟩ = some v3 ∧ w.cell? ⟨g, off + 4, none⟩ = some v4 ∧ w.cell? ⟨g, off + 5, none⟩ = some v5 ∧ w.cell? ⟨g, off + 6, none⟩ = some v6 ∧ w.cell? ⟨g, off + 7, none⟩ = some v7 ∧ w.cell? ⟨g, off + 8, none⟩ = some v8 ∧ w.cell? ⟨g, off + 9, none⟩ = some v9 :=
 ⟨h 0 _ rfl, h 1 _ rfl, h 2 _ rfl, h 3 _ rfl, h 4 _ rfl, h 5 _ rfl, h 6 _ rfl, h 7 _ rfl, h 8 _ rfl, h 9 _ rfl⟩
theorem CellsAt.congr {w w' : World} {g off : Nat} {l : List Value} (h : CellsAt w g off l) (hb : w'.heap[g]? = w.heap[g]?) : CellsAt w' g off l := fun j v hv => (World.cell?_of_block hb).trans (h j v hv)
set_option maxHeartbeats 16000000 in
set_option maxRecDepth 100000 in
theorem flat_two (ka : Nat) (g cap : Nat) (mv : Value) (w : World) (n0 n1 : Int) (al al' nm nm' on0 on' tt tt' : ByteArray) (a3 : Option Addr) (l3 p3 : Nat) (a4 : Option Addr) (l4 p4 : Nat) (a6 : Option Addr) (l6 p6 : Nat) (oa : Option Addr) (cap0 : Nat) (b3 : Option Addr) (m3 q3 : Nat) (b4 : Option Addr) (m4 q4 : Nat) (b6 : Option Addr) (m6 q6 : Nat) (oa' : Option Addr) (cap' : Nat) (h0 : CellsAt w g 0 [.int .i64 n0, .int .i64 0, .string al, .string nm, .slice a3 l3 p3, .slice a4 l4 p4, .string on0, .slice a6 l6 p6, .string tt, .slice oa 0 cap0]) (h1 : CellsAt w g 10 [.int .i64 n1, .int .i64 0, .string al', .string nm', .slice b3 m3 q3, .slice b4 m4 q4, .string on', .slice b6 m6 q6, .string tt', .slice oa' 0 cap']) :
  Calls Try.prog 96 #[.pointer (some ⟨ka, 0, none⟩), .slice (some ⟨g, 0, none⟩) 2 cap, mv] w fun e w' => ∃ g2 cap2, e = .returned (.slice (some ⟨g2, 0, none⟩) 2 cap2) ∧ w'.ownsRow w.heap.size 152 10 (.slice (some ⟨g2, 0, none⟩) 2 cap2) 2 ([.int .i64 n0, .int .i64 0, .string al, .string nm, .slice a3 l3 p3, .slice a4 l4 p4, .string on0, .slice a6 l6 p6, .string tt, .slice oa 0 cap0] ++ [.int .i64 n1, .int .i64 0, .string al', .string nm', .slice b3 m3 q3, .slice b4 m4 q4, .string on', .slice b6 m6 q6, .string tt', .slice oa' 0 cap']) ∧ Below w.heap.size w w' := by
 obtain ⟨i0, hi, hz0, hz1, hz2⟩ := info_parts Try.info152
 have hgl : g < w.heap.size := World.block_lt_of_cell? w _ (h0 0 _ rfl)
 obtain ⟨c0, c1, c2, c3, c4, c5, c6, c7, c8, c9⟩ := h0.ten
 simp only [Nat.zero_add] at c1 c2 c3 c4 c5 c6 c7 c8 c9
 have hb0 : Below w.heap.size w ((w.alloc (.cells #[.int .i64 n0, .int .i64 0, .string al, .string nm, .slice a3 l3 p3, .slice a4 l4 p4, .string on0, .slice a6 l6 p6, .string tt, .slice oa 0 cap0] 152)).alloc (.cells #[.int .i64 n0, .int .i64 0, .string al, .string nm, .slice a3 l3 p3, .slice a4 l4 p4, .string on0, .slice a6 l6 p6, .string tt, .slice oa 0 cap0] 152)) := ((Below.refl _ _).alloc (Nat.le_refl _) _).alloc (by simp) _
 have hn0 := World.news_of_block (cs := #[.int .i64 n0, .int .i64 0, .string al, .string nm, .slice a3 l3 p3, .slice a4 l4 p4, .string on0, .slice a6 l6 p6, .string tt, .slice oa 0 cap0]) (heap_alloc_new (w.alloc (.cells #[.int .i64 n0, .int .i64 0, .string al, .string nm, .slice a3 l3 p3, .slice a4 l4 p4, .string on0, .slice a6 l6 p6, .string tt, .slice oa 0 cap0] 152)) (.cells #[.int .i64 n0, .int .i64 0, .string al, .string nm, .slice a3 l3 p3, .slice a4 l4 p4, .string on0, .slice a6 l6 p6, .string tt, .slice oa 0 cap0] 152))
 have hsz0 : w.heap.size ≤ ((w.alloc (.cells #[.int .i64 n0, .int .i64 0, .string al, .string nm, .slice a3 l3 p3, .slice a4 l4 p4, .string on0, .slice a6 l6 p6, .string tt, .slice oa 0 cap0] 152)).alloc (.cells #[.int .i64 n0, .int .i64 0, .string al, .string nm, .slice a3 l3 p3, .slice a4 l4 p4, .string on0, .slice a6 l6 p6, .string tt, .slice oa 0 cap0] 152)).heap.size := hb0.size
 go_enter Try.func96, Try.ntmps96
 go_wp2
 go_step3
 go_wp2
 go_step3
 go_wp2
 refine wp_loop_rounds 3 ?_; rw [rounds_succ]
 go_wp2_with (at_builtin; refine wpList_append_lies _ rfl (.tmp 21) (.tmp 23) 134 rfl w.heap.size 152 i0 _ 10 176 Try.underlying134 hi hz0 hz1 hz2 rfl (by decide) (.slice none 0 0) 0 [] rfl (World.ownsRow_nil _ _ _ _) ⟨(w.alloc (.cells #[.int .i64 n0, .int .i64 0, .string al, .string nm, .slice a3 l3 p3, .slice a4 l4 p4, .string on0, .slice a6 l6 p6, .string tt, .slice oa 0 cap0] 152)).heap.size, 0, none⟩ 1 1 [.int .i64 n0, .int .i64 0, .string al, .string nm, .slice a3 l3 p3, .slice a4 l4 p4, .string on0, .slice a6 l6 p6, .string tt, .slice oa 0 cap0] (by simp; rfl) rfl hn0 (by intro u hu; simp only [List.mem_cons, List.not_mem_nil, or_false] at hu; rcases hu with rfl | rfl | rfl | rfl | rfl | rfl | rfl | rfl | rfl | rfl <;> rfl) (by decide) (by decide) (by decide) hsz0 _ rfl ?_; intro g1 cap1 w1 hown1 hgrow1 hat1 hlt1)
 have hb1 : Below w.heap.size w w1 := ⟨hgrow1.os.trans hb0.os, hgrow1.tape.trans hb0.tape, hgrow1.output.trans hb0.output, Nat.le_trans hb0.size hgrow1.size, fun k hk => (hgrow1.block k (Nat.lt_of_lt_of_le hk hb0.size) (by simp [Value.ownBlock])).trans (hb0.block k hk)⟩
 have hgl1 : g < w1.heap.size := Nat.lt_of_lt_of_le hgl hb1.size
 obtain ⟨d0, d1, d2, d3, d4, d5, d6, d7, d8, d9⟩ := (h1.congr (hb1.block g hgl)).ten
 simp only [Nat.reduceAdd] at d0 d1 d2 d3 d4 d5 d6 d7 d8 d9
 replace hown1 : w1.ownsRow w.heap.size 152 10 (.slice (some ⟨g1, 0, none⟩) 1 cap1) 1 [.int .i64 n0, .int .i64 0, .string al, .string nm, .slice a3 l3 p3, .slice a4 l4 p4, .string on0, .slice a6 l6 p6, .string tt, .slice oa 0 cap0] := hown1
 have hown2 := (hown1.alloc (.cells #[.int .i64 n1, .int .i64 0, .string al', .string nm', .slice b3 m3 q3, .slice b4 m4 q4, .string on', .slice b6 m6 q6, .string tt', .slice oa' 0 cap'] 152)).alloc (.cells #[.int .i64 n1, .int .i64 0, .string al', .string nm', .slice b3 m3 q3, .slice b4 m4 q4, .string on', .slice b6 m6 q6, .string tt', .slice oa' 0 cap'] 152)
 have hb2 : Below w.heap.size w ((w1.alloc (.cells #[.int .i64 n1, .int .i64 0, .string al', .string nm', .slice b3 m3 q3, .slice b4 m4 q4, .string on', .slice b6 m6 q6, .string tt', .slice oa' 0 cap'] 152)).alloc (.cells #[.int .i64 n1, .int .i64 0, .string al', .string nm', .slice b3 m3 q3, .slice b4 m4 q4, .string on', .slice b6 m6 q6, .string tt', .slice oa' 0 cap'] 152)) := (hb1.alloc hb1.size _).alloc (by have := hb1.size; simp; omega) _
 have hn1 := World.news_of_block (cs := #[.int .i64 n1, .int .i64 0, .string al', .string nm', .slice b3 m3 q3, .slice b4 m4 q4, .string on', .slice b6 m6 q6, .string tt', .slice oa' 0 cap']) (heap_alloc_new (w1.alloc (.cells #[.int .i64 n1, .int .i64 0, .string al', .string nm', .slice b3 m3 q3, .slice b4 m4 q4, .string on', .slice b6 m6 q6, .string tt', .slice oa' 0 cap'] 152)) (.cells #[.int .i64 n1, .int .i64 0, .string al', .string nm', .slice b3 m3 q3, .slice b4 m4 q4, .string on', .slice b6 m6 q6, .string tt', .slice oa' 0 cap'] 152))
 have hg1 := hown1.lt g1 rfl
 clear hn0 hsz0 hgrow1 hat1 hb0 hlt1
 rw [rounds_succ]
 go_wp2_with (at_builtin; refine wpList_append_lies _ rfl (.tmp 21) (.tmp 23) 134 rfl w.heap.size 152 i0 _ 10 176 Try.underlying134 hi hz0 hz1 hz2 rfl (by decide) (.slice (some ⟨g1, 0, none⟩) 1 cap1) 1 [.int .i64 n0, .int .i64 0, .string al, .string nm, .slice a3 l3 p3, .slice a4 l4 p4, .string on0, .slice a6 l6 p6, .string tt, .slice oa 0 cap0] rfl hown2 ⟨(w1.alloc (.cells #[.int .i64 n1, .int .i64 0, .string al', .string nm', .slice b3 m3 q3, .slice b4 m4 q4, .string on', .slice b6 m6 q6, .string tt', .slice oa' 0 cap'] 152)).heap.size, 0, none⟩ 1 1 [.int .i64 n1, .int .i64 0, .string al', .string nm', .slice b3 m3 q3, .slice b4 m4 q4, .string on', .slice b6 m6 q6, .string tt', .slice oa' 0 cap'] (by simp; rfl) rfl hn1 (by intro u hu; simp only [List.mem_cons, List.not_mem_nil, or_false] at hu; rcases hu with rfl | rfl | rfl | rfl | rfl | rfl | rfl | rfl | rfl | rfl <;> rfl) (by decide) (by decide) (by decide) hb2.size _ rfl ?_; intro g2 cap2 w2 hown3 hgrow2 hat2 hlt2)
 have hb3 : Below w.heap.size w w2 := ⟨hgrow2.os.trans hb2.os, hgrow2.tape.trans hb2.tape, hgrow2.output.trans hb2.output, Nat.le_trans hb2.size hgrow2.size, fun k hk => (hgrow2.block k (Nat.lt_of_lt_of_le hk hb2.size) (by simp only [Value.ownBlock, ne_eq, Option.some.injEq]; omega)).trans (hb2.block k hk)⟩
 rw [rounds_succ]
 go_wp2
 rw [Exit.noGoto_ret]
 go_ret
 exact ⟨g2, cap2, rfl, hown3, hb3⟩
set_option maxHeartbeats 4000000 in
set_option maxRecDepth 100000 in
theorem key_a (nm on0 : ByteArray) (c3 c4 c6 : Value) (w : World) :
  Calls Try.prog 21 #[.agg #[.int .i64 0, .string ⟨#[97]⟩, .string nm, c3, c4, .string on0, c6]] w fun e w' => Below w.heap.size w w' ∧ e = .returned (.string ⟨#[97]⟩) := by
 go_enter Try.func21, Try.ntmps21
 go_wp2
 go_ret
 exact ⟨(Below.refl _ _).alloc (Nat.le_refl _) _, rfl⟩
theorem cells_own {w : World} {B e g n cap : Nat} {xs l r : List Value} {off : Nat} (h : w.ownsRow B e 10 (.slice (some ⟨g, 0, none⟩) n cap) n xs) (hx : ∃ pre, xs = pre ++ l ++ r ∧ pre.length = off) : CellsAt w g off l := by
 obtain ⟨pre, rfl, rfl⟩ := hx
 intro j v hv
 have := h.cells (g := g) rfl (pre.length + j) v (by
  have hj := (List.getElem?_eq_some_iff.1 hv).1
  rw [List.append_assoc, List.getElem?_append_right (by omega), Nat.add_sub_cancel_left, List.getElem?_append_left hj]; exact hv)
 rwa [show (⟨g, 0, none⟩ : Addr).add (pre.length + j) = ⟨g, pre.length + j, none⟩ by unfold Addr.add; split <;> simp_all] at this
set_option maxHeartbeats 16000000 in
set_option maxRecDepth 100000 in
theorem list_twoe {M : Mem} {w : World} {ka sb pb : Nat} {a0 : Option Addr} {l0 p0 : Nat} {no : Int} {fm : Value} (h : KAt M w ka sb pb a0 l0 p0 no fm) (hs : NoPairs w sb) (hp : NoPairs w pb) (hne : sb ≠ pb) (hkp : ka ≠ pb) (hks : ka ≠ sb) (g cap : Nat) (on0 on' : ByteArray) (a3 : Option Addr) (p3 : Nat) (a4 : Option Addr) (l4 p4 : Nat) (a6 : Option Addr) (l6 p6 : Nat) (oa : Option Addr) (cap0 : Nat) (b3 : Option Addr) (q3 : Nat) (b4 : Option Addr) (m4 q4 : Nat) (b6 : Option Addr) (m6 q6 : Nat) (oa' : Option Addr) (cap' : Nat) (h0 : CellsAt w g 0 [.int .i64 1, .int .i64 0, .string ⟨#[97]⟩, .string ⟨#[98]⟩, .slice a3 0 p3, .slice a4 l4 p4, .string on0, .slice a6 l6 p6, .string ⟨#[81]⟩, .slice oa 0 cap0]) (h1 : CellsAt w g 10 [.int .i64 2, .int .i64 0, .string ⟨#[97]⟩, .string ⟨#[98]⟩, .slice b3 0 q3, .slice b4 m4 q4, .string on', .slice b6 m6 q6, .string ⟨#[81]⟩, .slice oa' 0 cap']) :
  Calls Try.prog 82 #[.pointer (some ⟨ka, 0, none⟩), .slice (some ⟨g, 0, none⟩) 2 cap] w fun e w' => e = .returned (.bool true) ∧ ∃ M', But M w [sb, pb] M' w' := by
 have hmm := @run_makeMap Try.prog
 have hgl : g < w.heap.size := World.block_lt_of_cell? w _ (h0 0 _ rfl)
 go_enter Try.func82, Try.ntmps82
 go_wp2_with (go_at_call 96; refine (flat_two ka g cap _ _ 1 2 ⟨#[97]⟩ ⟨#[97]⟩ ⟨#[98]⟩ ⟨#[98]⟩ on0 on' ⟨#[81]⟩ ⟨#[81]⟩ a3 0 p3 a4 l4 p4 a6 l6 p6 oa cap0 b3 0 q3 b4 m4 q4 b6 m6 q6 oa' cap' (h0.congr (heap_alloc_old w _ hgl)) (h1.congr (heap_alloc_old w _ hgl))).mono ?_; rintro e' w1 ⟨g2, cap2, rfl, hown, hb⟩)
 have hbw : Below w.heap.size w w1 := ((Below.refl _ _).alloc (Nat.le_refl _) _).trans (hb.mono (by simp))
 have hg2 := hown.lt g2 rfl
 have e0 : CellsAt w1 g2 0 [.int .i64 1, .int .i64 0, .string ⟨#[97]⟩, .string ⟨#[98]⟩, .slice a3 0 p3, .slice a4 l4 p4, .string on0, .slice a6 l6 p6, .string ⟨#[81]⟩, .slice oa 0 cap0] := cells_own hown ⟨[], rfl, rfl⟩
 have e1 : CellsAt w1 g2 10 [.int .i64 2, .int .i64 0, .string ⟨#[97]⟩, .string ⟨#[98]⟩, .slice b3 0 q3, .slice b4 m4 q4, .string on', .slice b6 m6 q6, .string ⟨#[81]⟩, .slice oa' 0 cap'] := cells_own hown ⟨[.int .i64 1, .int .i64 0, .string ⟨#[97]⟩, .string ⟨#[98]⟩, .slice a3 0 p3, .slice a4 l4 p4, .string on0, .slice a6 l6 p6, .string ⟨#[81]⟩, .slice oa 0 cap0], by rfl, rfl⟩
 obtain ⟨c0, c1, c2, c3, c4, c5, c6, c7, c8, c9⟩ := e0.ten
 obtain ⟨d0, d1, d2, d3, d4, d5, d6, d7, d8, d9⟩ := e1.ten
 simp only [Nat.reduceAdd, Nat.zero_add] at c1 c2 c3 c4 c5 c6 c7 c8 c9 d0 d1 d2 d3 d4 d5 d6 d7 d8 d9
 have hg2l : g2 < w1.heap.size := hg2.2
 refine wp_loop_rounds 3 ?_; rw [rounds_succ]
 have hcap2 : 2 ≤ cap2 := by
  rcases hown.2 with ⟨hv, _⟩ | ⟨g', cap', cur, hv, _, _, hc, _⟩
  ·simp at hv
  ·cases hv; exact hc
 go_wp2
 go_step3
 go_wp2
 go_step3
 go_wp2
 refine wp_loop_rounds 1 ?_; rw [rounds_succ]
 go_wp2
 rw [Exit.noGoto_normal]
 go_wp2
 rw [rounds_succ]
 go_wp2
 go_step3
 go_wp2
 go_step3
 go_wp2
 refine wp_loop_rounds 2 ?_; rw [rounds_succ]
 go_wp2
 obtain ⟨w3, hw3⟩ : ∃ w3, w3 = ((w1.alloc (.cells #[.int .i64 1, .int .i64 0, .string ⟨#[97]⟩, .string ⟨#[98]⟩, .slice a3 0 p3, .slice a4 l4 p4, .string on0, .slice a6 l6 p6, .string ⟨#[81]⟩, .slice oa 0 cap0] 152)).alloc (.cells #[.int .i64 2, .int .i64 0, .string ⟨#[97]⟩, .string ⟨#[98]⟩, .slice b3 0 q3, .slice b4 m4 q4, .string on', .slice b6 m6 q6, .string ⟨#[81]⟩, .slice oa' 0 cap'] 152)).alloc (.cells #[.int .i64 1, .int .i64 0, .string ⟨#[97]⟩, .string ⟨#[98]⟩, .slice a3 0 p3, .slice a4 l4 p4, .string on0, .slice a6 l6 p6, .string ⟨#[81]⟩, .slice oa 0 cap0] 152) := ⟨_, rfl⟩
 rw [← hw3]
 have hb3 : Below w1.heap.size w1 w3 := by rw [hw3]; exact (((Below.refl _ _).alloc (Nat.le_refl _) _).alloc (by simp) _).alloc (by simp; omega) _
 have hX : w3.heap[w1.heap.size + 1]? = some (.cells #[.int .i64 2, .int .i64 0, .string ⟨#[97]⟩, .string ⟨#[98]⟩, .slice b3 0 q3, .slice b4 m4 q4, .string on', .slice b6 m6 q6, .string ⟨#[81]⟩, .slice oa' 0 cap'] 152 (0, 0)) := by
  have := heap_alloc_new (w1.alloc (.cells #[.int .i64 1, .int .i64 0, .string ⟨#[97]⟩, .string ⟨#[98]⟩, .slice a3 0 p3, .slice a4 l4 p4, .string on0, .slice a6 l6 p6, .string ⟨#[81]⟩, .slice oa 0 cap0] 152)) (.cells #[.int .i64 2, .int .i64 0, .string ⟨#[97]⟩, .string ⟨#[98]⟩, .slice b3 0 q3, .slice b4 m4 q4, .string on', .slice b6 m6 q6, .string ⟨#[81]⟩, .slice oa' 0 cap'] 152)
  rw [hw3]
  exact (heap_alloc_old _ _ (by simp)).trans (by simpa using this)
 have hY : w3.heap[w1.heap.size + 1 + 1]? = some (.cells #[.int .i64 1, .int .i64 0, .string ⟨#[97]⟩, .string ⟨#[98]⟩, .slice a3 0 p3, .slice a4 l4 p4, .string on0, .slice a6 l6 p6, .string ⟨#[81]⟩, .slice oa 0 cap0] 152 (0, 0)) := by
  have := heap_alloc_new ((w1.alloc (.cells #[.int .i64 1, .int .i64 0, .string ⟨#[97]⟩, .string ⟨#[98]⟩, .slice a3 0 p3, .slice a4 l4 p4, .string on0, .slice a6 l6 p6, .string ⟨#[81]⟩, .slice oa 0 cap0] 152)).alloc (.cells #[.int .i64 2, .int .i64 0, .string ⟨#[97]⟩, .string ⟨#[98]⟩, .slice b3 0 q3, .slice b4 m4 q4, .string on', .slice b6 m6 q6, .string ⟨#[81]⟩, .slice oa' 0 cap'] 152)) (.cells #[.int .i64 1, .int .i64 0, .string ⟨#[97]⟩, .string ⟨#[98]⟩, .slice a3 0 p3, .slice a4 l4 p4, .string on0, .slice a6 l6 p6, .string ⟨#[81]⟩, .slice oa 0 cap0] 152)
  rw [hw3]
  simpa using this
 clear hw3
 have hXY : Hid (∀ w5, Below w3.heap.size w3 w5 → w5.heap[w1.heap.size + 1]? = some (.cells #[.int .i64 2, .int .i64 0, .string ⟨#[97]⟩, .string ⟨#[98]⟩, .slice b3 0 q3, .slice b4 m4 q4, .string on', .slice b6 m6 q6, .string ⟨#[81]⟩, .slice oa' 0 cap'] 152 (0, 0)) ∧ w5.heap[w1.heap.size + 1 + 1]? = some (.cells #[.int .i64 1, .int .i64 0, .string ⟨#[97]⟩, .string ⟨#[98]⟩, .slice a3 0 p3, .slice a4 l4 p4, .string on0, .slice a6 l6 p6, .string ⟨#[81]⟩, .slice oa 0 cap0] 152 (0, 0))) := fun w5 h5 => ⟨(h5.block _ (Array.getElem?_eq_some_iff.1 hX).1).trans hX, (h5.block _ (Array.getElem?_eq_some_iff.1 hY).1).trans hY⟩
 have hlX := (Array.getElem?_eq_some_iff.1 hX).1
 have hlY := (Array.getElem?_eq_some_iff.1 hY).1
 have hb13 := hbw.trans (hb3.mono hbw.size)
 obtain ⟨x0, x1, x2, x3, x4, x5, x6, x7, x8, x9⟩ := c10 hX
 obtain ⟨y0, y1, y2, y3, y4, y5, y6, y7, y8, y9⟩ := c10 hY
 go_region_with (go_at_call 21; refine (key_a _ _ _ _ _ _).mono ?_; rintro e' wq ⟨hq, rfl⟩; first | (have k6 := k5.trans (hq.mono k5.size); obtain ⟨hX6, hY6⟩ := hXY.out _ k6; obtain ⟨v0, v1, v2, v3, v4, v5, v6, v7, v8, v9⟩ := c10 hX6; obtain ⟨r0, r1, r2, r3, r4, r5, r6, r7, r8, r9⟩ := c10 hY6) | (have k5 := (Below.refl w3.heap.size w3).drew.trans (hq.mono (Nat.le_refl _)); obtain ⟨hX5, hY5⟩ := hXY.out _ k5; obtain ⟨v0, v1, v2, v3, v4, v5, v6, v7, v8, v9⟩ := c10 hX5; obtain ⟨r0, r1, r2, r3, r4, r5, r6, r7, r8, r9⟩ := c10 hY5))
 all_goals
  have hbq : Below w.heap.size w wq := hb13.trans (k6.mono hb13.size)
  have hB0 : But M w [sb, pb] M wq := But.below h.cons hbq _
  have hcall := together_walke (h.but hB0 (by simp [hks, hkp])) (hs.congr (hbq.block sb hs.lt)) (hp.congr (hbq.block pb hp.lt)) hne ⟨#[97]⟩ ⟨#[97]⟩ on0 on' a3 p3 a4 l4 p4 a6 l6 p6 oa cap0 b3 q3 b4 m4 q4 b6 m6 q6 oa' cap' hkp hks
  go_wp2_with (go_at_call 97; refine hcall.mono ?_; rintro e' w7 ⟨rfl, M7, hbut⟩)
  have hB7 : But M w [sb, pb] M7 w7 := hB0.trans hbut
  have hgS : g ∉ [sb, pb] := by
   have hc := h0 0 _ rfl
   intro hm
   simp only [List.mem_cons, List.not_mem_nil, or_false] at hm
   rcases hm with rfl | rfl
   ·obtain ⟨es, cl, h2, _⟩ := hs
    simp [World.cell?, h2] at hc
   ·obtain ⟨es, cl, h2, _⟩ := hp
    simp [World.cell?, h2] at hc
  have hg7 := hB7.old g hgl hgS
  have hgl7 : g < w7.heap.size := Nat.lt_of_lt_of_le hgl hB7.size
  obtain ⟨m0, m1, m2, m3', m4', m5, m6', m7, m8, m9⟩ := (h0.congr hg7).ten
  obtain ⟨f0, f1, f2, f3, f4, f5, f6, f7, f8, f9⟩ := (h1.congr hg7).ten
  simp only [Nat.reduceAdd, Nat.zero_add] at m1 m2 m3' m4' m5 m6' m7 m8 m9 f0 f1 f2 f3 f4 f5 f6 f7 f8 f9
  rw [rounds_succ]
  go_wp2
  rw [Exit.noGoto_normal]
  go_wp2
  rw [rounds_succ]
  go_wp2
  refine wp_loop_rounds 3 ?_; rw [rounds_succ]
  go_wp2_with (go_at_call 82; refine (list_nil ka oa cap0 _).mono ?_; rintro e' w8 ⟨rfl, h8⟩)
  have h78 : Below w7.heap.size w7 w8 := ((Below.refl _ _).alloc (Nat.le_refl _) _).trans (h8.mono (by simp))
  have hgl8 : g < w8.heap.size := Nat.lt_of_lt_of_le hgl7 h78.size
  obtain ⟨s0, s1, s2, s3, s4, s5, s6, s7, s8, s9⟩ := (h1.congr ((h78.block g hgl7).trans hg7)).ten
  simp only [Nat.reduceAdd, Nat.zero_add] at s0 s1 s2 s3 s4 s5 s6 s7 s8 s9
  rw [rounds_succ]
  go_wp2_with (go_at_call 82; refine (list_nil ka oa' cap' _).mono ?_; rintro e' w9 ⟨rfl, h9⟩)
  have h79 : Below w7.heap.size w7 w9 := h78.trans ((((Below.refl _ _).alloc (Nat.le_refl _) _).trans (h9.mono (by simp))).mono h78.size)
  rw [rounds_succ]
  go_wp2
  go_ret
  exact ⟨rfl, M7, hB7.trans (But.below hB7.cons h79 _)⟩
set_option maxHeartbeats 16000000 in
set_option maxRecDepth 100000 in
theorem list_twod {M : Mem} {w : World} {ka sb pb : Nat} {a0 : Option Addr} {l0 p0 : Nat} {no : Int} {fm : Value} (h : KAt M w ka sb pb a0 l0 p0 no fm) (hs : NoPairs w sb) (hp : NoPairs w pb) (hne : sb ≠ pb) (hkp : ka ≠ pb) (hks : ka ≠ sb) (g cap : Nat) (on0 on' : ByteArray) (a3 : Option Addr) (p3 : Nat) (a4 : Option Addr) (l4 p4 : Nat) (a6 : Option Addr) (l6 p6 : Nat) (oa : Option Addr) (cap0 : Nat) (b3 : Option Addr) (q3 : Nat) (b4 : Option Addr) (m4 q4 : Nat) (b6 : Option Addr) (m6 q6 : Nat) (oa' : Option Addr) (cap' : Nat) (h0 : CellsAt w g 0 [.int .i64 1, .int .i64 0, .string ⟨#[97]⟩, .string ⟨#[98]⟩, .slice a3 0 p3, .slice a4 l4 p4, .string on0, .slice a6 l6 p6, .string ⟨#[81]⟩, .slice oa 0 cap0]) (h1 : CellsAt w g 10 [.int .i64 2, .int .i64 0, .string ⟨#[97]⟩, .string ⟨#[99]⟩, .slice b3 0 q3, .slice b4 m4 q4, .string on', .slice b6 m6 q6, .string ⟨#[81]⟩, .slice oa' 0 cap']) :
  Calls Try.prog 82 #[.pointer (some ⟨ka, 0, none⟩), .slice (some ⟨g, 0, none⟩) 2 cap] w fun e w' => e = .returned (.bool false) ∧ ∃ M', But M w [sb, pb] M' w' := by
 have hmm := @run_makeMap Try.prog
 have hgl : g < w.heap.size := World.block_lt_of_cell? w _ (h0 0 _ rfl)
 go_enter Try.func82, Try.ntmps82
 go_wp2_with (go_at_call 96; refine (flat_two ka g cap _ _ 1 2 ⟨#[97]⟩ ⟨#[97]⟩ ⟨#[98]⟩ ⟨#[99]⟩ on0 on' ⟨#[81]⟩ ⟨#[81]⟩ a3 0 p3 a4 l4 p4 a6 l6 p6 oa cap0 b3 0 q3 b4 m4 q4 b6 m6 q6 oa' cap' (h0.congr (heap_alloc_old w _ hgl)) (h1.congr (heap_alloc_old w _ hgl))).mono ?_; rintro e' w1 ⟨g2, cap2, rfl, hown, hb⟩)
 have hbw : Below w.heap.size w w1 := ((Below.refl _ _).alloc (Nat.le_refl _) _).trans (hb.mono (by simp))
 have hg2 := hown.lt g2 rfl
 have e0 : CellsAt w1 g2 0 [.int .i64 1, .int .i64 0, .string ⟨#[97]⟩, .string ⟨#[98]⟩, .slice a3 0 p3, .slice a4 l4 p4, .string on0, .slice a6 l6 p6, .string ⟨#[81]⟩, .slice oa 0 cap0] := cells_own hown ⟨[], rfl, rfl⟩
 have e1 : CellsAt w1 g2 10 [.int .i64 2, .int .i64 0, .string ⟨#[97]⟩, .string ⟨#[99]⟩, .slice b3 0 q3, .slice b4 m4 q4, .string on', .slice b6 m6 q6, .string ⟨#[81]⟩, .slice oa' 0 cap'] := cells_own hown ⟨[.int .i64 1, .int .i64 0, .string ⟨#[97]⟩, .string ⟨#[98]⟩, .slice a3 0 p3, .slice a4 l4 p4, .string on0, .slice a6 l6 p6, .string ⟨#[81]⟩, .slice oa 0 cap0], by rfl, rfl⟩
 obtain ⟨c0, c1, c2, c3, c4, c5, c6, c7, c8, c9⟩ := e0.ten
 obtain ⟨d0, d1, d2, d3, d4, d5, d6, d7, d8, d9⟩ := e1.ten
 simp only [Nat.reduceAdd, Nat.zero_add] at c1 c2 c3 c4 c5 c6 c7 c8 c9 d0 d1 d2 d3 d4 d5 d6 d7 d8 d9
 have hg2l : g2 < w1.heap.size := hg2.2
 refine wp_loop_rounds 3 ?_; rw [rounds_succ]
 have hcap2 : 2 ≤ cap2 := by
  rcases hown.2 with ⟨hv, _⟩ | ⟨g', cap', cur, hv, _, _, hc, _⟩
  ·simp at hv
  ·cases hv; exact hc
 go_wp2
 go_step3
 go_wp2
 go_step3
 go_wp2
 refine wp_loop_rounds 1 ?_; rw [rounds_succ]
 go_wp2
 rw [Exit.noGoto_normal]
 go_wp2
 rw [rounds_succ]
 go_wp2
 go_step3
 go_wp2
 go_step3
 go_wp2
 refine wp_loop_rounds 2 ?_; rw [rounds_succ]
 go_wp2
 obtain ⟨w3, hw3⟩ : ∃ w3, w3 = ((w1.alloc (.cells #[.int .i64 1, .int .i64 0, .string ⟨#[97]⟩, .string ⟨#[98]⟩, .slice a3 0 p3, .slice a4 l4 p4, .string on0, .slice a6 l6 p6, .string ⟨#[81]⟩, .slice oa 0 cap0] 152)).alloc (.cells #[.int .i64 2, .int .i64 0, .string ⟨#[97]⟩, .string ⟨#[99]⟩, .slice b3 0 q3, .slice b4 m4 q4, .string on', .slice b6 m6 q6, .string ⟨#[81]⟩, .slice oa' 0 cap'] 152)).alloc (.cells #[.int .i64 1, .int .i64 0, .string ⟨#[97]⟩, .string ⟨#[98]⟩, .slice a3 0 p3, .slice a4 l4 p4, .string on0, .slice a6 l6 p6, .string ⟨#[81]⟩, .slice oa 0 cap0] 152) := ⟨_, rfl⟩
 rw [← hw3]
 have hb3 : Below w1.heap.size w1 w3 := by rw [hw3]; exact (((Below.refl _ _).alloc (Nat.le_refl _) _).alloc (by simp) _).alloc (by simp; omega) _
 have hX : w3.heap[w1.heap.size + 1]? = some (.cells #[.int .i64 2, .int .i64 0, .string ⟨#[97]⟩, .string ⟨#[99]⟩, .slice b3 0 q3, .slice b4 m4 q4, .string on', .slice b6 m6 q6, .string ⟨#[81]⟩, .slice oa' 0 cap'] 152 (0, 0)) := by
  have := heap_alloc_new (w1.alloc (.cells #[.int .i64 1, .int .i64 0, .string ⟨#[97]⟩, .string ⟨#[98]⟩, .slice a3 0 p3, .slice a4 l4 p4, .string on0, .slice a6 l6 p6, .string ⟨#[81]⟩, .slice oa 0 cap0] 152)) (.cells #[.int .i64 2, .int .i64 0, .string ⟨#[97]⟩, .string ⟨#[99]⟩, .slice b3 0 q3, .slice b4 m4 q4, .string on', .slice b6 m6 q6, .string ⟨#[81]⟩, .slice oa' 0 cap'] 152)
  rw [hw3]
  exact (heap_alloc_old _ _ (by simp)).trans (by simpa using this)
 have hY : w3.heap[w1.heap.size + 1 + 1]? = some (.cells #[.int .i64 1, .int .i64 0, .string ⟨#[97]⟩, .string ⟨#[98]⟩, .slice a3 0 p3, .slice a4 l4 p4, .string on0, .slice a6 l6 p6, .string ⟨#[81]⟩, .slice oa 0 cap0] 152 (0, 0)) := by
  have := heap_alloc_new ((w1.alloc (.cells #[.int .i64 1, .int .i64 0, .string ⟨#[97]⟩, .string ⟨#[98]⟩, .slice a3 0 p3, .slice a4 l4 p4, .string on0, .slice a6 l6 p6, .string ⟨#[81]⟩, .slice oa 0 cap0] 152)).alloc (.cells #[.int .i64 2, .int .i64 0, .string ⟨#[97]⟩, .string ⟨#[99]⟩, .slice b3 0 q3, .slice b4 m4 q4, .string on', .slice b6 m6 q6, .string ⟨#[81]⟩, .slice oa' 0 cap'] 152)) (.cells #[.int .i64 1, .int .i64 0, .string ⟨#[97]⟩, .string ⟨#[98]⟩, .slice a3 0 p3, .slice a4 l4 p4, .string on0, .slice a6 l6 p6, .string ⟨#[81]⟩, .slice oa 0 cap0] 152)
  rw [hw3]
  simpa using this
 clear hw3
 have hXY : Hid (∀ w5, Below w3.heap.size w3 w5 → w5.heap[w1.heap.size + 1]? = some (.cells #[.int .i64 2, .int .i64 0, .string ⟨#[97]⟩, .string ⟨#[99]⟩, .slice b3 0 q3, .slice b4 m4 q4, .string on', .slice b6 m6 q6, .string ⟨#[81]⟩, .slice oa' 0 cap'] 152 (0, 0)) ∧ w5.heap[w1.heap.size + 1 + 1]? = some (.cells #[.int .i64 1, .int .i64 0, .string ⟨#[97]⟩, .string ⟨#[98]⟩, .slice a3 0 p3, .slice a4 l4 p4, .string on0, .slice a6 l6 p6, .string ⟨#[81]⟩, .slice oa 0 cap0] 152 (0, 0))) := fun w5 h5 => ⟨(h5.block _ (Array.getElem?_eq_some_iff.1 hX).1).trans hX, (h5.block _ (Array.getElem?_eq_some_iff.1 hY).1).trans hY⟩
 have hlX := (Array.getElem?_eq_some_iff.1 hX).1
 have hlY := (Array.getElem?_eq_some_iff.1 hY).1
 have hb13 := hbw.trans (hb3.mono hbw.size)
 obtain ⟨x0, x1, x2, x3, x4, x5, x6, x7, x8, x9⟩ := c10 hX
 obtain ⟨y0, y1, y2, y3, y4, y5, y6, y7, y8, y9⟩ := c10 hY
 go_region_with (go_at_call 21; refine (key_a _ _ _ _ _ _).mono ?_; rintro e' wq ⟨hq, rfl⟩; first | (have k6 := k5.trans (hq.mono k5.size); obtain ⟨hX6, hY6⟩ := hXY.out _ k6; obtain ⟨v0, v1, v2, v3, v4, v5, v6, v7, v8, v9⟩ := c10 hX6; obtain ⟨r0, r1, r2, r3, r4, r5, r6, r7, r8, r9⟩ := c10 hY6) | (have k5 := (Below.refl w3.heap.size w3).drew.trans (hq.mono (Nat.le_refl _)); obtain ⟨hX5, hY5⟩ := hXY.out _ k5; obtain ⟨v0, v1, v2, v3, v4, v5, v6, v7, v8, v9⟩ := c10 hX5; obtain ⟨r0, r1, r2, r3, r4, r5, r6, r7, r8, r9⟩ := c10 hY5))
 all_goals
  have hbq : Below w.heap.size w wq := hb13.trans (k6.mono hb13.size)
  have hB0 : But M w [sb, pb] M wq := But.below h.cons hbq _
  have hcall := together_walkd (h.but hB0 (by simp [hks, hkp])) (hs.congr (hbq.block sb hs.lt)) (hp.congr (hbq.block pb hp.lt)) hne ⟨#[97]⟩ ⟨#[97]⟩ on0 on' a3 p3 a4 l4 p4 a6 l6 p6 oa cap0 b3 q3 b4 m4 q4 b6 m6 q6 oa' cap' hkp hks
  go_wp2_with (go_at_call 97; refine hcall.mono ?_; rintro e' w7 ⟨rfl, M7, hbut⟩)
  rw [Exit.noGoto_ret]
  go_ret
  exact ⟨rfl, M7, hB0.trans hbut⟩
end Go.Proofs.Ytfbaogfcpldlnaa

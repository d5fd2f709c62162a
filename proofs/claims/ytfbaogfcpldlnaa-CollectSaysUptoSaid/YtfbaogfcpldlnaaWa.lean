import Derived.Test.YtfbaogfcpldlnaaGc
import Derived.LoopTactic
import Derived.WalkKit
import Derived.Deep.AppendLies
import Derived.Maps.OwnOps
import Derived.StillTailTactics
import Derived.Deep.QuietTactic
import Derived.BigQuiet
import Derived.Deep.RegionLaw
import Derived.OwnWalk
import Derived.BigRegion
import Derived.Maps.Views
import Derived.Maps.OwnSet
set_option linter.unusedVariables false
set_option linter.unusedSimpArgs false
set_option linter.unusedSimpArgs false
open Go Go.Ev Go.RowKit
namespace Go.Proofs.Ytfbaogfcpldlnaa
set_option maxHeartbeats 4000000 in
set_option maxRecDepth 100000 in
theorem f88_walk (k nm : ByteArray) (sv : Value) (kb : Nat) (w : World) (hk : w.cell? ⟨kb, 0, none⟩ = some (.string nm)) :
  Calls Try.prog 88 #[.agg #[.string k, sv], .pointer (some ⟨kb, 0, none⟩)] w fun e w' => e = .returned (.bool (k.toList == nm.toList)) ∧ w' = w.alloc (.cells #[.string k, sv] 50) := by
 have hk' : (w.alloc (.cells #[.string k, sv] 50)).cell? ⟨kb, 0, none⟩ = some (.string nm) := by
  have hlt : kb < w.heap.size := World.block_lt_of_cell? w ⟨kb, 0, none⟩ hk
  rw [World.cell?_of_block (heap_alloc_old w _ hlt)]; exact hk
 go_enter Try.func88, Try.ntmps88
 go_wp2
 go_ret
 exact ⟨rfl, rfl⟩
def idxOf : List (ByteArray × Value) → ByteArray → Int
 | [], _ => -1
 | g :: l, nm => if (g.1.toList == nm.toList) = true then 0 else if idxOf l nm = -1 then -1 else idxOf l nm + 1
theorem idxOf_found (nm : ByteArray) : ∀ (gs : List (ByteArray × Value)) (k : Nat) (g : ByteArray × Value), (∀ (j : Nat) (g : ByteArray × Value), j < k → gs[j]? = some g → (g.1.toList == nm.toList) = false) → gs[k]? = some g → (g.1.toList == nm.toList) = true → idxOf gs nm = k
 | [], k, g, _, h, _ => by simp at h
 | x :: l, 0, g, _, h, hb => by simp at h; subst h; simp [idxOf, hb]
 | x :: l, k + 1, g, hno, h, hb => by
  have h0 := hno 0 x (by omega) rfl
  have ih := idxOf_found nm l k g (fun j g hj hg => hno (j + 1) g (by omega) (by simpa using hg)) (by simpa using h) hb
  simp only [idxOf, h0, Bool.false_eq_true, if_false, ih]
  rw [if_neg (by omega)]; omega
theorem idxOf_none (nm : ByteArray) : ∀ (gs : List (ByteArray × Value)), (∀ (j : Nat) (g : ByteArray × Value), j < gs.length → gs[j]? = some g → (g.1.toList == nm.toList) = false) → idxOf gs nm = -1
 | [], _ => rfl
 | x :: l, hno => by
  have h0 := hno 0 x (by simp) rfl
  have ih := idxOf_none nm l (fun j g hj hg => hno (j + 1) g (by simpa using hj) (by simpa using hg))
  simp only [idxOf, h0, Bool.false_eq_true, if_false, ih, if_true]
set_option maxHeartbeats 4000000 in
set_option maxRecDepth 100000 in
theorem idx_walk (ob cap : Nat) (gs : List (ByteArray × Value)) (nm : ByteArray) (kb : Nat) (w : World) (hn : gs.length ≤ 1073741824) (hcap : gs.length ≤ cap)
  (hc : ∀ i k v, gs[i]? = some (k, v) → w.cell? ⟨ob, 2 * i, none⟩ = some (.string k) ∧ w.cell? ⟨ob, 2 * i + 1, none⟩ = some v) (hk : w.cell? ⟨kb, 0, none⟩ = some (.string nm)) :
  Calls Try.prog 87 #[.slice (some ⟨ob, 0, none⟩) gs.length cap, .func (.func 88) #[] #[.pointer (some ⟨kb, 0, none⟩)]] w fun e w' => Below w.heap.size w w' ∧ e = .returned (.int .i64 (idxOf gs nm)) := by
 obtain ⟨n, hln⟩ : ∃ n, gs.length = n := ⟨_, rfl⟩
 rw [hln] at hn hcap ⊢
 have hcells : ∀ (k : Nat) (wr : World), Below w.heap.size w wr → ∃ kk vv, k < n → gs[k]? = some (kk, vv) ∧ wr.cell? ⟨ob, k * 2, none⟩ = some (.string kk) ∧ wr.cell? ⟨ob, k * 2 + 1, none⟩ = some vv := by
  intro k wr hbel
  by_cases h : k < n
  ·have hg : gs[k]? = some (gs[k]'(by omega)) := List.getElem?_eq_getElem (by omega)
   obtain ⟨h1, h2⟩ := hc k _ _ hg
   rw [Nat.mul_comm] at h1 h2
   exact ⟨_, _, fun _ => ⟨hg, (hbel.cell (World.block_lt_of_cell? w _ h1)).trans h1, (hbel.cell (World.block_lt_of_cell? w _ h2)).trans h2⟩⟩
  ·exact ⟨ByteArray.empty, undef, fun h' => absurd h' h⟩
 have hcalls : ∀ (wr : World) kk vv, Below w.heap.size w wr → Calls Try.prog 88 #[.agg #[.string kk, vv], .pointer (some ⟨kb, 0, none⟩)] wr fun e w' => e = .returned (.bool (kk.toList == nm.toList)) ∧ w' = wr.alloc (.cells #[.string kk, vv] 50) :=
  fun wr kk vv hbel => f88_walk kk nm vv kb wr ((hbel.cell (World.block_lt_of_cell? w _ hk)).trans hk)
 clear hc hk
 go_enter Try.func87, Try.ntmps87
 go_wp2
 go_loopw [5, 8] (fun i5 t8 wr => ∃ k : Nat, k ≤ n ∧ t8 = .int .i64 k ∧ (∀ (j : Nat) (g : ByteArray × Value), j < k → gs[j]? = some g → (g.1.toList == nm.toList) = false) ∧ Below w.heap.size w wr) (fun _ t8 _ => n - (intOf t8).toNat)
 case atStart => exact ⟨0, Nat.zero_le _, rfl, fun j g hj => absurd hj (Nat.not_lt_zero _), Below.refl _ _⟩
 case round =>
  obtain ⟨k, hkn, rfl, hno, hbel⟩ := hrel
  obtain ⟨kk, vv, hkv⟩ := hcells k wr hbel
  have hc1 : k < n → wr.cell? ⟨ob, k * 2, none⟩ = some (.string kk) := fun h => (hkv h).2.1
  have hc2 : k < n → wr.cell? ⟨ob, k * 2 + 1, none⟩ = some vv := fun h => (hkv h).2.2
  have hcall := hcalls wr kk vv hbel
  clear hcells hcalls
  go_wp2_with (go_at_call 88; refine hcall.mono ?_; rintro e w2 ⟨rfl, rfl⟩)
  ·have hlt : k < n := by assumption
   have hb : (kk.toList == nm.toList) = true := by assumption
   go_ret
   exact ⟨hbel.alloc hbel.size _, by rw [idxOf_found nm gs k (kk, vv) hno (hkv hlt).1 hb]; rfl⟩
  ·have hlt : k < n := by assumption
   have hb : (kk.toList == nm.toList) = false := by assumption
   go_roundw
   case rel =>
    refine ⟨k + 1, by omega, by go_num, fun j g hj hg => ?_, hbel.alloc hbel.size _⟩
    rcases Nat.lt_or_ge j k with h | h
    ·exact hno j g h hg
    ·obtain rfl : j = k := by omega
     rw [(hkv hlt).1] at hg
     cases hg
     exact hb
   case measure => simp [intOf]; omega
  ·have hge : ¬ k < n := by assumption
   go_ret
   exact ⟨hbel, by rw [idxOf_none nm gs fun j g hj hg => hno j g (by omega) hg]; rfl⟩
set_option maxHeartbeats 4000000 in
set_option maxRecDepth 100000 in
theorem idx_walk0 (oa : Option Addr) (cap : Nat) (kb : Nat) (w : World) :
  Calls Try.prog 87 #[.slice oa 0 cap, .func (.func 88) #[] #[.pointer (some ⟨kb, 0, none⟩)]] w fun e w' => Below w.heap.size w w' ∧ e = .returned (.int .i64 (-1)) := by
 go_enter Try.func87, Try.ntmps87
 go_wp2
 refine wp_loop_rounds 1 ?_; rw [rounds_succ]; go_wp2
 go_ret
 exact ⟨Below.refl _ _, rfl⟩
set_option maxHeartbeats 4000000 in
set_option maxRecDepth 100000 in
theorem key_walk (x : GSel) (c3 c4 c6 : Value) (w : World) :
  Calls Try.prog 21 #[.agg #[.int .i64 x.kind, .string ⟨x.alias.toArray⟩, .string ⟨x.name.toArray⟩, c3, c4, .string ⟨x.on_.toArray⟩, c6]] w fun e w' => Below w.heap.size w w' ∧ e = .returned (.string ⟨(gKey x).toArray⟩) := by
 go_enter Try.func21, Try.ntmps21
 go_wp2
 ·have h1 : (x.kind != 0) = true := by assumption
  go_ret
  exact ⟨(Below.refl _ _).alloc (Nat.le_refl _) _, by unfold gKey; rw [h1]; rfl⟩
 ·have h1 : (x.kind != 0) = false := by assumption
  have h2 : (!List.isEmpty x.alias) = true := by assumption
  go_ret
  refine ⟨(Below.refl _ _).alloc (Nat.le_refl _) _, ?_⟩
  have h3 : (!(x.alias == [])) = true := by cases hx : x.alias <;> simp_all
  unfold gKey; rw [h1, h3]; rfl
 ·have h1 : (x.kind != 0) = false := by assumption
  have h2 : (!List.isEmpty x.alias) = false := by assumption
  go_ret
  refine ⟨(Below.refl _ _).alloc (Nat.le_refl _) _, ?_⟩
  have h3 : (!(x.alias == [])) = false := by cases hx : x.alias <;> simp_all
  unfold gKey; rw [h1, h3]; rfl
open Go Go.Ev Go.RowKit
theorem Try.info50 : (Try.prog.info? 50).map (fun i => (i.zero, i.size, i.bytes)) = some (some (.agg #[.string ByteArray.empty, .slice none 0 0]), 2, 40) := by kernel_rfl
theorem Try.info41 : (Try.prog.info? 41).map (fun i => (i.zero, i.size, i.bytes)) = some (some (.agg #[.int .i64 0, .string ByteArray.empty, .string ByteArray.empty, .slice none 0 0, .slice none 0 0, .string ByteArray.empty, .slice none 0 0]), 7, 128) := by kernel_rfl
abbrev xCells (x : GSel) (c3 c4 c6 : Value) : List Value := [.int .i64 x.kind, .string ⟨x.alias.toArray⟩, .string ⟨x.name.toArray⟩, c3, c4, .string ⟨x.on_.toArray⟩, c6]
def XAt (w : World) (b : Nat) (x : GSel) (c3 c4 c6 : Value) : Prop :=
 w.heap[b]? = some (.cells #[.int .i64 x.kind, .string ⟨x.alias.toArray⟩, .string ⟨x.name.toArray⟩, c3, c4, .string ⟨x.on_.toArray⟩, c6] 41 (0, 0))
theorem XAt.cells {w : World} {b : Nat} {x : GSel} {c3 c4 c6 : Value} (h : XAt w b x c3 c4 c6) :
  w.cell? ⟨b, 0, none⟩ = some (.int .i64 x.kind) ∧ w.cell? ⟨b, 1, none⟩ = some (.string ⟨x.alias.toArray⟩) ∧ w.cell? ⟨b, 2, none⟩ = some (.string ⟨x.name.toArray⟩) ∧ w.cell? ⟨b, 3, none⟩ = some c3 ∧ w.cell? ⟨b, 4, none⟩ = some c4 ∧ w.cell? ⟨b, 5, none⟩ = some (.string ⟨x.on_.toArray⟩) ∧ w.cell? ⟨b, 6, none⟩ = some c6 := by
 unfold XAt at h
 refine ⟨?_, ?_, ?_, ?_, ?_, ?_, ?_⟩ <;> (rw [cell_of_row w b _ _ _ _ h]; rfl)
theorem cell_al {w : World} {a : Addr} {v : Value} (o : Obj) (h : w.cell? a = some v) : (w.alloc o).cell? a = some v := by
 rw [World.cell?_of_block (heap_alloc_old w o (World.block_lt_of_cell? w a h))]; exact h
theorem frz_al {w : World} {a : Addr} (o : Obj) (hlt : a.block < w.heap.size) (h : w.frozen? a = false) : (w.alloc o).frozen? a = false := by
 rw [World.frozen?_of_block (heap_alloc_old w o hlt)]; exact h
theorem heap_al {w : World} {b : Nat} {p : Obj} (o : Obj) (h : w.heap[b]? = some p) : (w.alloc o).heap[b]? = some p := by
 rw [heap_alloc_old w o (lt_of_block h)]; exact h
def flatG : List (ByteArray × Value) → List Value
 | [] => []
 | g :: l => .string g.1 :: g.2 :: flatG l
theorem flatG_len : ∀ gs : List (ByteArray × Value), (flatG gs).length = gs.length * 2
 | [] => rfl
 | g :: l => by simp only [flatG, List.length_cons, flatG_len l]; omega
theorem flatG_at : ∀ (gs : List (ByteArray × Value)) (i : Nat) (k : ByteArray) (v : Value), gs[i]? = some (k, v) → (flatG gs)[2 * i]? = some (.string k) ∧ (flatG gs)[2 * i + 1]? = some v
 | [], i, k, v, h => by simp at h
 | g :: l, 0, k, v, h => by simp at h; subst h; exact ⟨rfl, rfl⟩
 | g :: l, i + 1, k, v, h => by
  have := flatG_at l i k v (by simpa using h)
  simp only [flatG, show 2 * (i + 1) = 2 * i + 1 + 1 by omega, show 2 * i + 1 + 1 + 1 = (2 * i + 1) + 1 + 1 by omega, List.getElem?_cons_succ]
  exact this
theorem flatG_app (gs : List (ByteArray × Value)) (k : ByteArray) (v : Value) : flatG (gs ++ [(k, v)]) = flatG gs ++ [.string k, v] := by
 induction gs with
 | nil => rfl
 | cons g l ih => simp only [List.cons_append, flatG, ih]
theorem own_cell {w : World} {B e size n cap : Nat} {oa : Option Addr} {xs : List Value} (h : w.ownsRow B e size (.slice oa n cap) n xs) {j : Nat} {u : Value} (hj : xs[j]? = some u) : ∃ g, oa = some ⟨g, 0, none⟩ ∧ B ≤ g ∧ w.cell? ⟨g, j, none⟩ = some u ∧ w.frozen? ⟨g, j, none⟩ = false := by
 rcases h.2 with ⟨hv, hn⟩ | ⟨g, cap', cur, hv, hB, hg, _, _, _, ht⟩
 ·have h1 := h.1
  have h2 := (List.getElem?_eq_some_iff.1 hj).1
  rw [hn, Nat.zero_mul] at h1
  omega
 ·cases hv
  refine ⟨g, rfl, hB, ?_, by simp [World.frozen?, hg]⟩
  have := h.cells (g := g) rfl j u hj
  rwa [show (⟨g, 0, none⟩ : Addr).add j = ⟨g, j, none⟩ by unfold Addr.add; split <;> simp_all] at this
theorem idx_any (B n cap : Nat) (oa : Option Addr) (gs : List (ByteArray × Value)) (nm : ByteArray) (kb : Nat) (w : World) (hn : n ≤ 1073741824) (hown : w.ownsRow B 50 2 (.slice oa n cap) n (flatG gs)) (hk : w.cell? ⟨kb, 0, none⟩ = some (.string nm)) :
  Calls Try.prog 87 #[.slice oa n cap, .func (.func 88) #[] #[.pointer (some ⟨kb, 0, none⟩)]] w fun e w' => Below w.heap.size w w' ∧ e = .returned (.int .i64 (idxOf gs nm)) := by
 have hl : gs.length = n := by have := hown.1; rw [flatG_len] at this; omega
 cases gs with
 | nil => simp at hl; subst hl; exact idx_walk0 oa cap kb w
 | cons g0 gs0 =>
  obtain ⟨g, e1, _, _, _⟩ := own_cell hown (j := 0) (u := .string g0.1) rfl
  subst e1
  have hcap : n ≤ cap := by
   rcases hown.2 with ⟨hv, _⟩ | ⟨g, cap', cur, hv, _, _, hc, _⟩
   ·simp at hv
   ·cases hv; exact hc
  subst hl
  exact idx_walk g cap (g0 :: gs0) nm kb w hn hcap (fun i k v hi => by
   obtain ⟨h1, h2⟩ := flatG_at _ i k v hi
   obtain ⟨g', e', _, h3, _⟩ := own_cell hown h1
   obtain ⟨g'', e'', _, h4, _⟩ := own_cell hown h2
   cases e'; cases e''
   exact ⟨h3, h4⟩) hk
structure FTail (B : Nat) (w4 : World) (g idx : Nat) (sv : Value) (m : Nat) (ys : List Value) (x : GSel) (c3 c4 c6 : Value) (w' : World) (g2 cap2 : Nat) : Prop where
 own : w'.ownsRow B 41 7 (.slice (some ⟨g2, 0, none⟩) (m + 1) cap2) (m + 1) (ys ++ xCells x c3 c4 c6)
 new : sv.ownBlock = some g2 ∨ w4.heap.size ≤ g2
 row : w'.heap[g]? = (w4.setCell ⟨g, idx * 2 + 1, none⟩ (.slice (some ⟨g2, 0, none⟩) (m + 1) cap2)).heap[g]?
 old : ∀ k, k < w4.heap.size → k ≠ g → some k ≠ sv.ownBlock → w'.heap[k]? = w4.heap[k]?
 size : w4.heap.size ≤ w'.heap.size
 os : w'.os = w4.os
 tape : w'.tape = w4.tape
 output : w'.output = w4.output
theorem ftail_plain {B : Nat} {w4 wb w5 : World} {g idx m g2 cap2 : Nat} {sv : Value} {ys : List Value} {x : GSel} {c3 c4 c6 : Value} (hwb : Below w4.heap.size w4 wb) (hB : B ≤ w4.heap.size)
  (hown : w5.ownsRow B 41 7 (.slice (some ⟨g2, 0, none⟩) (m + 1) cap2) (m + 1) (ys ++ xCells x c3 c4 c6)) (hgrow : wb.grownBy w5 sv.ownBlock) (hat : sv.ownBlock = some g2 ∨ g2 = wb.heap.size) (hg : g < w4.heap.size) (hsv : ∀ k, sv.ownBlock = some k → k ≠ g) :
  FTail B w4 g idx sv m ys x c3 c4 c6 (w5.setCell ⟨g, idx * 2 + 1, none⟩ (.slice (some ⟨g2, 0, none⟩) (m + 1) cap2)) g2 cap2 := by
 have hne : g2 ≠ g := by
  rcases hat with h | h
  ·exact hsv _ h
  ·have := hwb.size; omega
 have hg5 : w5.heap[g]? = w4.heap[g]? := (hgrow.block g (Nat.lt_of_lt_of_le hg hwb.size) (fun e => hsv g e.symm rfl)).trans (hwb.block g hg)
 refine ⟨ownsRow_setCell_other hown (by simpa [Value.ownBlock] using hne) _, ?_, ?_, ?_, ?_, hgrow.os.trans hwb.os, hgrow.tape.trans hwb.tape, hgrow.output.trans hwb.output⟩
 ·rcases hat with h | h
  ·exact .inl h
  ·exact .inr (by have := hwb.size; omega)
 ·simp only [World.setCell, Array.getElem?_modify, hg5]
 ·intro k hk hkg hks
  rw [Below.heap_setCell _ _ _ _ hkg, hgrow.block k (Nat.lt_of_lt_of_le hk hwb.size) hks, hwb.block k hk]
 ·have := hwb.size
  have := hgrow.size
  simp [World.setCell]; omega
theorem own_setCell {w : World} {B e size g n cap : Nat} {xs : List Value} (h : w.ownsRow B e size (.slice (some ⟨g, 0, none⟩) n cap) n xs) (j : Nat) (v : Value) (hj : j < xs.length) :
  (w.setCell ⟨g, j, none⟩ v).ownsRow B e size (.slice (some ⟨g, 0, none⟩) n cap) n (xs.set j v) := by
 refine ⟨by rw [List.length_set]; exact h.1, ?_⟩
 rcases h.2 with ⟨hv, _⟩ | ⟨g', cap', cur, hv, hb, hg, hnc, hcm, hcs, ht⟩
 ·simp at hv
 ·cases hv
  refine .inr ⟨g, cap, cur.setIfInBounds j v, rfl, hb, ?_, hnc, hcm, by rw [Array.size_setIfInBounds]; exact hcs, ?_⟩
  ·simp [World.setCell, Array.getElem?_modify, hg]
  ·rw [Array.toList_setIfInBounds, List.take_set, ht]
theorem set7 {ys : List Value} {m : Nat} (hy : ys.length = m * 7) (l : List Value) (j : Nat) (v : Value) : (ys ++ l).set (m * 7 + j) v = ys ++ l.set j v := by
 rw [List.set_append_right _ _ (by omega), hy, show m * 7 + j - m * 7 = j by omega]
theorem ftail_zero {B : Nat} {w4 wb w5 : World} {g idx m g2 cap2 : Nat} {sv : Value} {ys : List Value} {x : GSel} {c3 c4 c6 : Value} {z0 z1 z2 z3 z4 z5 z6 : Value} (hwb : Below w4.heap.size w4 wb) (hB : B ≤ w4.heap.size) (hy : ys.length = m * 7)
  (hown : w5.ownsRow B 41 7 (.slice (some ⟨g2, 0, none⟩) (m + 1) cap2) (m + 1) (ys ++ [z0, z1, z2, z3, z4, z5, z6])) (hgrow : wb.grownBy w5 sv.ownBlock) (hat : sv.ownBlock = some g2 ∨ g2 = wb.heap.size) (hg : g < w4.heap.size) (hsv : ∀ k, sv.ownBlock = some k → k ≠ g) {w6 : World}
  (hw6 : w6 = w5.setCell ⟨g, idx * 2 + 1, none⟩ (.slice (some ⟨g2, 0, none⟩) (m + 1) cap2)) :
  FTail B w4 g idx sv m ys x c3 c4 c6 (((((((w6.setCell ⟨g2, m * 7, none⟩ (.int .i64 x.kind)).setCell ⟨g2, m * 7 + 1, none⟩ (.string ⟨x.alias.toArray⟩)).setCell ⟨g2, m * 7 + 2, none⟩ (.string ⟨x.name.toArray⟩)).setCell ⟨g2, m * 7 + 3, none⟩ c3).setCell ⟨g2, m * 7 + 4, none⟩ c4).setCell ⟨g2, m * 7 + 5, none⟩ (.string ⟨x.on_.toArray⟩)).setCell ⟨g2, m * 7 + 6, none⟩ c6) g2 cap2 := by
 subst hw6
 have hne : g2 ≠ g := by
  rcases hat with h | h
  ·exact hsv _ h
  ·have := hwb.size; omega
 have hg5 : w5.heap[g]? = w4.heap[g]? := (hgrow.block g (Nat.lt_of_lt_of_le hg hwb.size) (fun e => hsv g e.symm rfl)).trans (hwb.block g hg)
 have own6 := ownsRow_setCell_other hown (a := ⟨g, idx * 2 + 1, none⟩) (by simpa [Value.ownBlock] using hne) (.slice (some ⟨g2, 0, none⟩) (m + 1) cap2)
 have hs : ∀ (w : World) (j : Nat) (v : Value) k, k ≠ g2 → (w.setCell ⟨g2, j, none⟩ v).heap[k]? = w.heap[k]? := fun w j v k hk => Below.heap_setCell _ _ _ _ hk
 have hz : ∀ (w : World) (a : Addr) (v : Value), (w.setCell a v).heap.size = w.heap.size := fun w a v => by simp [World.setCell]
 have a0 := own_setCell own6 (m * 7 + 0) (.int .i64 x.kind) (by simp; omega)
 simp only [set7 hy, List.set_cons_zero, List.set_cons_succ] at a0
 have a1 := own_setCell a0 (m * 7 + 1) (.string ⟨x.alias.toArray⟩) (by simp; omega)
 simp only [set7 hy, List.set_cons_zero, List.set_cons_succ] at a1
 have a2 := own_setCell a1 (m * 7 + 2) (.string ⟨x.name.toArray⟩) (by simp; omega)
 simp only [set7 hy, List.set_cons_zero, List.set_cons_succ] at a2
 have a3 := own_setCell a2 (m * 7 + 3) c3 (by simp; omega)
 simp only [set7 hy, List.set_cons_zero, List.set_cons_succ] at a3
 have a4 := own_setCell a3 (m * 7 + 4) c4 (by simp; omega)
 simp only [set7 hy, List.set_cons_zero, List.set_cons_succ] at a4
 have a5 := own_setCell a4 (m * 7 + 5) (.string ⟨x.on_.toArray⟩) (by simp; omega)
 simp only [set7 hy, List.set_cons_zero, List.set_cons_succ] at a5
 have a6 := own_setCell a5 (m * 7 + 6) c6 (by simp; omega)
 simp only [set7 hy, List.set_cons_zero, List.set_cons_succ] at a6
 have ho : ∀ (w : World) (a : Addr) (v : Value), (w.setCell a v).os = w.os ∧ (w.setCell a v).tape = w.tape ∧ (w.setCell a v).output = w.output := fun _ _ _ => ⟨rfl, rfl, rfl⟩
 refine ⟨by simpa only [Nat.add_zero] using a6, ?_, ?_, ?_, ?_, by simp only [(ho _ _ _).1]; exact hgrow.os.trans hwb.os, by simp only [(ho _ _ _).2.1]; exact hgrow.tape.trans hwb.tape, by simp only [(ho _ _ _).2.2]; exact hgrow.output.trans hwb.output⟩
 ·rcases hat with h | h
  ·exact .inl h
  ·exact .inr (by have := hwb.size; omega)
 ·rw [hs _ _ _ _ hne.symm, hs _ _ _ _ hne.symm, hs _ _ _ _ hne.symm, hs _ _ _ _ hne.symm, hs _ _ _ _ hne.symm, hs _ _ _ _ hne.symm, hs _ _ _ _ hne.symm]
  simp only [World.setCell, Array.getElem?_modify, hg5]
 ·intro k hk hkg hks
  have hk2 : k ≠ g2 := by
   rintro rfl
   rcases hat with h | h
   ·exact hks h.symm
   ·have := hwb.size; omega
  rw [hs _ _ _ _ hk2, hs _ _ _ _ hk2, hs _ _ _ _ hk2, hs _ _ _ _ hk2, hs _ _ _ _ hk2, hs _ _ _ _ hk2, hs _ _ _ _ hk2, Below.heap_setCell _ _ _ _ hkg, hgrow.block k (Nat.lt_of_lt_of_le hk hwb.size) hks, hwb.block k hk]
 ·have := hwb.size
  have := hgrow.size
  simp only [hz]; omega
def dropSeq : Nat → Code → Code
 | 0, c => c
 | n + 1, .seq _ b => dropSeq n b
 | _ + 1, c => c
noncomputable def tail69 : Code := match Try.f69.body with | some c => dropSeq 4 c | none => .skip
noncomputable def fstC : Code → Code | .seq a _ => a | c => c
noncomputable def sndC : Code → Code | .seq _ b => b | c => c
noncomputable def reg69 : Code := fstC tail69
noncomputable def cond69 : Code := sndC tail69
set_option maxHeartbeats 8000000 in
set_option maxRecDepth 100000 in
theorem reg_walk (Q : Ending → World → Prop) (B n cap idx m : Nat) (oa2 : Option Addr) (cap1 : Nat) (ys : List Value) (x : GSel) (c3 c4 c6 : Value) (ga g xb : Nat) (w4 : World) (hB4 : B ≤ w4.heap.size) (hm : m ≤ 1073741824) (hin : (idx : Int) < (n : Int))
  (hs3 : ∃ a l k, c3 = .slice a l k) (hs4 : ∃ a l k, c4 = .slice a l k) (hs6 : ∃ a l k, c6 = .slice a l k)
  (h4o : w4.cell? ⟨ga, 7, none⟩ = some (.slice (some ⟨g, 0, none⟩) n cap)) (h41 : w4.cell? ⟨g, idx * 2 + 1, none⟩ = some (.slice oa2 m cap1)) (h4f : w4.frozen? ⟨g, idx * 2 + 1, none⟩ = false)
  (hx4 : XAt w4 xb x c3 c4 c6) (hsv : w4.ownsRow B 41 7 (.slice oa2 m cap1) m ys) (hsvg : ∀ k, (Value.slice oa2 m cap1).ownBlock = some k → k ≠ g ∧ k ≠ ga ∧ k ≠ xb)
  (hQ : ∀ w' g2 cap2, FTail B w4 g idx (.slice oa2 m cap1) m ys x c3 c4 c6 w' g2 cap2 → Q (.returned (.tuple #[])) w')
  (u1 u2 u4 u6 u7 u8 u9 u10 u11 u12 u13 u14 u15 u16 u17 u18 u19 u20 u21 u22 u23 u24 u25 u26 u27 u28 u29 u30 u31 u32 u33 u34 u35 u36 u37 u38 u39 u40 u41 u42 u43 u44 u45 u46 u47 u48 u49 u50 u51 u52 u53 u54 u55 u56 u57 u58 u59 u60 u61 u62 u63 u64 u65 u66 : Value) (K : Act → World → Prop) (hK : ∀ a w, Code.wp Try.prog cond69 (bodyPost Try.prog Try.f69 Q) a w → K a w) :
  Code.wp Try.prog reg69 (Exit.then K (bodyPost Try.prog Try.f69 Q)) ⟨#[.pointer (some ⟨ga, 0, none⟩), u1, u2, .pointer (some ⟨xb, 0, none⟩), u4, .int .i64 idx, u6, u7, u8, u9, u10, u11, u12, u13, u14, u15, u16, u17, u18, u19, u20, u21, u22, u23, u24, u25, u26, u27, u28, u29, u30, u31, u32, u33, u34, u35, u36, u37, u38, u39, u40, u41, u42, u43, u44, u45, u46, u47, u48, u49, u50, u51, u52, u53, u54, u55, u56, u57, u58, u59, u60, u61, u62, u63, u64, u65, u66], []⟩ w4 := by
 obtain ⟨a3, l3, p3, rfl⟩ := hs3
 obtain ⟨a4, l4, p4, rfl⟩ := hs4
 obtain ⟨a6, l6, p6, rfl⟩ := hs6
 have h1c : ∀ u ∈ xCells x (.slice a3 l3 p3) (.slice a4 l4 p4) (.slice a6 l6 p6), u.oneCell' = true := by
  intro u hu
  simp only [List.mem_cons, List.not_mem_nil, or_false] at hu
  rcases hu with rfl | rfl | rfl | rfl | rfl | rfl | rfl <;> rfl
 obtain ⟨i1, gi, gz0, gz1, gz2⟩ := info_parts Try.info41
 have hg4 : g < w4.heap.size := World.block_lt_of_cell? w4 _ h41
 have hga4 : ga < w4.heap.size := World.block_lt_of_cell? w4 _ h4o
 have hx4l : xb < w4.heap.size := lt_of_block hx4
 obtain ⟨q0, q1, q2, q3, q4, q5, q6⟩ := hx4.cells
 have hnew4 : ∀ (b : Value) (zs : Array Value), ∀ j u, zs.toList[j]? = some u → ((w4.alloc (.cells #[b] 4)).alloc (.cells zs 41)).cell? ((⟨w4.heap.size + 1, 0, none⟩ : Addr).add j) = some u := by
  intro b zs
  have := World.news_of_block (cs := zs) (heap_alloc_new (w4.alloc (.cells #[b] 4)) (.cells zs 41))
  have e : (w4.alloc (.cells #[b] 4)).heap.size = w4.heap.size + 1 := by simp
  rw [e] at this; exact this
 have hB6 : ∀ o p : Obj, B ≤ ((w4.alloc o).alloc p).heap.size := fun o p => by simp; omega
 have hbelow : ∀ o p : Obj, Below w4.heap.size w4 (((w4.alloc o).alloc p).drew.drew) := fun o p => (((Below.refl _ _).alloc (Nat.le_refl _) o).alloc (by simp) p).drew.drew
 have hz1c : ∀ u ∈ ([.int .i64 0, .string ByteArray.empty, .string ByteArray.empty, .slice none 0 0, .slice none 0 0, .string ByteArray.empty, .slice none 0 0] : List Value), u.oneCell' = true := by
  intro u hu
  simp only [List.mem_cons, List.not_mem_nil, or_false] at hu
  rcases hu with rfl | rfl | rfl | rfl | rfl | rfl | rfl <;> rfl
 have hown6 : ∀ o p : Obj, ((w4.alloc o).alloc p).ownsRow B 41 7 (.slice oa2 m cap1) m ys := fun o p => (hsv.alloc o).alloc p
 -- what stays behind the append
 have keep5 : ∀ (o p : Obj) (w5 : World), ((w4.alloc o).alloc p).drew.drew.grownBy w5 (Value.slice oa2 m cap1).ownBlock →
   w5.cell? ⟨ga, 7, none⟩ = some (.slice (some ⟨g, 0, none⟩) n cap) ∧ w5.cell? ⟨g, idx * 2 + 1, none⟩ = some (.slice oa2 m cap1) ∧ w5.frozen? ⟨g, idx * 2 + 1, none⟩ = false := by
  intro o p w5 hg5
  have s1 : ∀ k, k < w4.heap.size → k < ((w4.alloc o).alloc p).heap.size := fun k hk => by simp; omega
  have e1 := hg5.block ga (s1 ga hga4) (fun e => (hsvg ga e.symm).2.1 rfl)
  have e2 := hg5.block g (s1 g hg4) (fun e => (hsvg g e.symm).1 rfl)
  exact ⟨(World.cell?_of_block e1).trans (cell_al _ (cell_al _ h4o)), (World.cell?_of_block e2).trans (cell_al _ (cell_al _ h41)), (World.frozen?_of_block e2).trans (frz_al _ (by simp; omega) (frz_al _ hg4 h4f))⟩
 obtain ⟨fn, hfn⟩ : ∃ fn, fn = Try.f69 := ⟨_, rfl⟩
 have hres : ∀ (a : Act) (w : World), (results fn a.tmps).run Try.prog w = .ok (.tuple #[]) w := by exact fun a w => results_none (by rw [hfn]; rfl) _ _ _
 rw [← hfn] at hK ⊢
 clear hfn
 unfold cond69 tail69 at hK
 unfold reg69 tail69
 simp only [Try.f69, dropSeq, fstC, sndC] at hK ⊢
 go_region
 ·go_wp2
  go_region_law (refine step_append_lies _ rfl (.tmp 61) (.tmp 63) 30 rfl B 41 i1 _ 7 128 Try.underlying30 gi gz0 gz1 gz2 rfl (by decide) (.slice oa2 m cap1) m ys rfl (hown6 _ _) ⟨w4.heap.size + 1, 0, none⟩ 1 1 (xCells x (.slice a3 l3 p3) (.slice a4 l4 p4) (.slice a6 l6 p6)) rfl rfl (hnew4 _ #[.int .i64 x.kind, .string ⟨x.alias.toArray⟩, .string ⟨x.name.toArray⟩, .slice a3 l3 p3, .slice a4 l4 p4, .string ⟨x.on_.toArray⟩, .slice a6 l6 p6]) h1c (by decide) (by unfold maxLen; omega) (by omega) (hB6 _ _) _ rfl ?_; intro g2 cap2 w5 hown5 hgrow5 hat5 hlt5; obtain ⟨k1, k2, k3⟩ := keep5 _ _ w5 hgrow5)
  all_goals exact bodyPost_end (hres _ _) rfl (hQ _ _ _ (ftail_plain (hbelow _ _) hB4 hown5 hgrow5 hat5 hg4 (fun k hk => (hsvg k hk).1)))
 ·have hmm : (m : Int) < (m : Int) + 1 := by omega
  have hyl : ys.length = m * 7 := hsv.1
  go_wp2
  go_region_law (refine step_append_lies _ rfl (.tmp 41) (.tmp 44) 30 rfl B 41 i1 _ 7 128 Try.underlying30 gi gz0 gz1 gz2 rfl (by decide) (.slice oa2 m cap1) m ys rfl (hown6 _ _) ⟨w4.heap.size + 1, 0, none⟩ 1 1 [.int .i64 0, .string ByteArray.empty, .string ByteArray.empty, .slice none 0 0, .slice none 0 0, .string ByteArray.empty, .slice none 0 0] rfl rfl (hnew4 _ #[.int .i64 0, .string ByteArray.empty, .string ByteArray.empty, .slice none 0 0, .slice none 0 0, .string ByteArray.empty, .slice none 0 0]) hz1c (by decide) (by unfold maxLen; omega) (by omega) (hB6 _ _) _ rfl ?_; intro g2 cap2 w5 hown5 hgrow5 hat5 hlt5; obtain ⟨k1, k2, k3⟩ := keep5 _ _ w5 hgrow5)
  all_goals
   have hne2 : g2 ≠ g := by
    rcases hat5 with h | h
    ·exact (hsvg _ h).1
    ·have h' : g2 = ((w4.alloc (.cells #[.bool true] 4)).alloc (.cells #[.int .i64 0, .string ByteArray.empty, .string ByteArray.empty, .slice none 0 0, .slice none 0 0, .string ByteArray.empty, .slice none 0 0] 41)).heap.size := h
     simp at h'; omega
   have own6 := ownsRow_setCell_other hown5 (a := ⟨g, idx * 2 + 1, none⟩) (by simpa [Value.ownBlock] using hne2) (.slice (some ⟨g2, 0, none⟩) (m + 1) cap2)
   obtain ⟨w6, hw6⟩ : ∃ w6, w6 = w5.setCell ⟨g, idx * 2 + 1, none⟩ (.slice (some ⟨g2, 0, none⟩) (m + 1) cap2) := ⟨_, rfl⟩
   rw [← hw6] at own6 ⊢
   replace hw6 : Hid (w6 = w5.setCell ⟨g, idx * 2 + 1, none⟩ (.slice (some ⟨g2, 0, none⟩) (m + 1) cap2)) := hw6
   have zc : ∀ (j : Nat) (v : Value), ([.int .i64 0, .string ByteArray.empty, .string ByteArray.empty, .slice none 0 0, .slice none 0 0, .string ByteArray.empty, .slice none 0 0] : List Value)[j]? = some v → w6.cell? ⟨g2, m * 7 + j, none⟩ = some v ∧ w6.frozen? ⟨g2, m * 7 + j, none⟩ = false := by
    intro j v hj
    obtain ⟨g', e, _, h1, h2⟩ := own_cell own6 (j := m * 7 + j) (u := v) (by rw [List.getElem?_append_right (by omega), hyl, show m * 7 + j - m * 7 = j by omega]; exact hj)
    cases e
    exact ⟨h1, h2⟩
   obtain ⟨z0, f0⟩ := zc 0 _ rfl
   obtain ⟨z1, f1⟩ := zc 1 _ rfl
   obtain ⟨z2, f2⟩ := zc 2 _ rfl
   obtain ⟨z3, f3⟩ := zc 3 _ rfl
   obtain ⟨z4, f4⟩ := zc 4 _ rfl
   obtain ⟨z5, f5⟩ := zc 5 _ rfl
   obtain ⟨z6, f6⟩ := zc 6 _ rfl
   simp only [Nat.add_zero] at z0 f0
   clear zc k1 k2 k3
   go_wp2
   exact bodyPost_end (hres _ _) rfl (hQ _ _ _ (ftail_zero (hbelow _ _) hB4 hyl hown5 hgrow5 hat5 hg4 (fun k hk => (hsvg k hk).1) hw6.out))
theorem tail69_eq : tail69 = .seq reg69 cond69 := by kernel_rfl
theorem tail_walk (Q : Ending → World → Prop) (B n cap idx m : Nat) (oa2 : Option Addr) (cap1 : Nat) (ys : List Value) (x : GSel) (c3 c4 c6 : Value) (ga g xb : Nat) (w4 : World) (hB4 : B ≤ w4.heap.size) (hm : m ≤ 1073741824) (hin : (idx : Int) < (n : Int))
  (hs3 : ∃ a l k, c3 = .slice a l k) (hs4 : ∃ a l k, c4 = .slice a l k) (hs6 : ∃ a l k, c6 = .slice a l k)
  (h4o : w4.cell? ⟨ga, 7, none⟩ = some (.slice (some ⟨g, 0, none⟩) n cap)) (h41 : w4.cell? ⟨g, idx * 2 + 1, none⟩ = some (.slice oa2 m cap1)) (h4f : w4.frozen? ⟨g, idx * 2 + 1, none⟩ = false)
  (hx4 : XAt w4 xb x c3 c4 c6) (hsv : w4.ownsRow B 41 7 (.slice oa2 m cap1) m ys) (hsvg : ∀ k, (Value.slice oa2 m cap1).ownBlock = some k → k ≠ g ∧ k ≠ ga ∧ k ≠ xb)
  (hQ : ∀ w' g2 cap2, FTail B w4 g idx (.slice oa2 m cap1) m ys x c3 c4 c6 w' g2 cap2 → Q (.returned (.tuple #[])) w')
  (u1 u2 u4 u6 u7 u8 u9 u10 u11 u12 u13 u14 u15 u16 u17 u18 u19 u20 u21 u22 u23 u24 u25 u26 u27 u28 u29 u30 u31 u32 u33 u34 u35 u36 u37 u38 u39 u40 u41 u42 u43 u44 u45 u46 u47 u48 u49 u50 u51 u52 u53 u54 u55 u56 u57 u58 u59 u60 u61 u62 u63 u64 u65 u66 : Value) :
  Code.wp Try.prog tail69 (bodyPost Try.prog Try.f69 Q) ⟨#[.pointer (some ⟨ga, 0, none⟩), u1, u2, .pointer (some ⟨xb, 0, none⟩), u4, .int .i64 idx, u6, u7, u8, u9, u10, u11, u12, u13, u14, u15, u16, u17, u18, u19, u20, u21, u22, u23, u24, u25, u26, u27, u28, u29, u30, u31, u32, u33, u34, u35, u36, u37, u38, u39, u40, u41, u42, u43, u44, u45, u46, u47, u48, u49, u50, u51, u52, u53, u54, u55, u56, u57, u58, u59, u60, u61, u62, u63, u64, u65, u66], []⟩ w4 := by
 rw [tail69_eq]
 exact wp_seq_k fun K hK => reg_walk Q B n cap idx m oa2 cap1 ys x c3 c4 c6 ga g xb w4 hB4 hm hin hs3 hs4 hs6 h4o h41 h4f hx4 hsv hsvg hQ u1 u2 u4 u6 u7 u8 u9 u10 u11 u12 u13 u14 u15 u16 u17 u18 u19 u20 u21 u22 u23 u24 u25 u26 u27 u28 u29 u30 u31 u32 u33 u34 u35 u36 u37 u38 u39 u40 u41 u42 u43 u44 u45 u46 u47 u48 u49 u50 u51 u52 u53 u54 u55 u56 u57 u58 u59 u60 u61 u62 u63 u64 u65 u66 K hK
def FNew (B n cap : Nat) (oa : Option Addr) (gs : List (ByteArray × Value)) (x : GSel) (c3 c4 c6 : Value) (ga : Nat) (w w' : World) : Prop :=
 ∃ (w3 : World) (g cap3 g2 cap2 : Nat), w3.ownsRow B 50 2 (.slice (some ⟨g, 0, none⟩) (n + 1) cap3) (n + 1) (flatG gs ++ [.string ⟨(gKey x).toArray⟩, .slice none 0 0]) ∧ ((Value.slice oa n cap).ownBlock = some g ∨ w.heap.size ≤ g) ∧ g < w3.heap.size ∧
 w.heap.size ≤ w3.heap.size ∧ w3.os = w.os ∧ w3.tape = w.tape ∧ w3.output = w.output ∧ (∀ k, k < w.heap.size → some k ≠ (Value.slice oa n cap).ownBlock → w3.heap[k]? = w.heap[k]?) ∧
 FTail B (w3.setCell ⟨ga, 7, none⟩ (.slice (some ⟨g, 0, none⟩) (n + 1) cap3)) g n (.slice none 0 0) 0 [] x c3 c4 c6 w' g2 cap2
set_option maxHeartbeats 8000000 in
set_option maxRecDepth 100000 in
theorem field_new (B n cap : Nat) (oa : Option Addr) (gs : List (ByteArray × Value)) (x : GSel) (c3 c4 c6 : Value) (ga : Nat) (h0 h1 h2 h3 h4 h5 h6 h8 : Value) (w : World) (hB : B ≤ w.heap.size) (hn : n ≤ 1073741824)
  (hs3 : ∃ a l k, c3 = .slice a l k) (hs4 : ∃ a l k, c4 = .slice a l k) (hs6 : ∃ a l k, c6 = .slice a l k)
  (hout : w.ownsRow B 50 2 (.slice oa n cap) n (flatG gs)) (hoga : ∀ k, (Value.slice oa n cap).ownBlock = some k → k ≠ ga) (hidx : idxOf gs ⟨(gKey x).toArray⟩ = -1)
  (hga : w.heap[ga]? = some (.cells #[h0, h1, h2, h3, h4, h5, h6, .slice oa n cap, h8] 84 (0, 0))) :
  Calls Try.prog 69 #[.pointer (some ⟨ga, 0, none⟩), .agg #[.int .i64 x.kind, .string ⟨x.alias.toArray⟩, .string ⟨x.name.toArray⟩, c3, c4, .string ⟨x.on_.toArray⟩, c6]] w fun e w' =>
   e = .returned (.tuple #[]) ∧ FNew B n cap oa gs x c3 c4 c6 ga w w' := by
 have hlt : ga < w.heap.size := (Array.getElem?_eq_some_iff.1 hga).1
 have hcg : ∀ w1 : World, w1.heap[ga]? = w.heap[ga]? → w1.cell? ⟨ga, 7, none⟩ = some (.slice oa n cap) ∧ w1.frozen? ⟨ga, 7, none⟩ = false := by
  intro w1 hb
  have hb2 := hb.trans hga
  refine ⟨by rw [cell_of_row w1 ga 7 _ _ _ hb2]; rfl, by simp [World.frozen?, hb2]⟩
 have hkey : ∀ w1 w2 : World, Below (w1.alloc (.cells #[.string ⟨(gKey x).toArray⟩] 9)).heap.size (w1.alloc (.cells #[.string ⟨(gKey x).toArray⟩] 9)) w2 → w2.cell? ⟨w1.heap.size, 0, none⟩ = some (.string ⟨(gKey x).toArray⟩) := by
  intro w1 w2 hb
  exact cell_of_one ((hb.block w1.heap.size (by simp)).trans (heap_alloc_new w1 _))
 have hkept : ∀ w1, Below w.heap.size w w1 → w1.ownsRow B 50 2 (.slice oa n cap) n (flatG gs) := by
  intro w1 hb
  exact hout.kept (w' := w1) (row := none) ⟨hb.os, hb.tape, hb.output, hb.size, fun k hk _ => hb.block k hk⟩ (by cases oa <;> simp [Value.ownBlock])
 have hidxw : ∀ w1 : World, Below w.heap.size w w1 → Calls Try.prog 87 #[.slice oa n cap, .func (.func 88) #[] #[.pointer (some ⟨w1.heap.size, 0, none⟩)]] (w1.alloc (.cells #[.string ⟨(gKey x).toArray⟩] 9)) fun e w' => Below (w1.alloc (.cells #[.string ⟨(gKey x).toArray⟩] 9)).heap.size (w1.alloc (.cells #[.string ⟨(gKey x).toArray⟩] 9)) w' ∧ e = .returned (.int .i64 (-1)) := by
  intro w1 hb
  have := idx_any B n cap oa gs ⟨(gKey x).toArray⟩ w1.heap.size (w1.alloc (.cells #[.string ⟨(gKey x).toArray⟩] 9)) hn ((hkept w1 hb).alloc _) (hkey w1 _ (Below.refl _ _))
  rw [hidx] at this; exact this
 obtain ⟨i0, hi, hz0, hz1, hz2⟩ := info_parts Try.info50
 obtain ⟨i1, gi, gz0, gz1, gz2⟩ := info_parts Try.info41
 clear hidx
 go_enter Try.func69, Try.ntmps69
 go_wp2_with (first
  | (go_at_call 21; refine (key_walk x c3 c4 c6 _).mono ?_; rintro e w1 ⟨hb1, rfl⟩; have hbw1 := ((Below.refl w.heap.size w).alloc (Nat.le_refl _) _).trans (hb1.mono (by simp)); have hg7 := (hcg w1 (hbw1.block ga hlt)).1; have hlt1 : ga < w1.heap.size := Nat.lt_of_lt_of_le hlt hbw1.size; have hltx : w.heap.size < w1.heap.size := Nat.lt_of_lt_of_le (by simp) hb1.size; have hx1 : XAt w1 w.heap.size x c3 c4 c6 := (hb1.block w.heap.size (by simp)).trans (heap_alloc_new w _))
  | (go_at_call 87; refine (hidxw w1 hbw1).mono ?_; rintro e w2 ⟨hb2, rfl⟩; have hbw2 := (hbw1.alloc hbw1.size _).trans (hb2.mono (Nat.le_trans hbw1.size (by simp))); have hg72 := (hcg w2 (hbw2.block ga hlt)).1; have hg72f := (hcg w2 (hbw2.block ga hlt)).2; have hk2 := hkey w1 w2 hb2; have hlt2 : ga < w2.heap.size := Nat.lt_of_lt_of_le hlt hbw2.size; have hltk2 : w1.heap.size < w2.heap.size := Nat.lt_of_lt_of_le (by simp) hb2.size; have hx2 : XAt w2 w.heap.size x c3 c4 c6 := (hb2.block w.heap.size (by simp; omega)).trans ((Below.heap_alloc w1 _ _ hltx).trans hx1)))
 have hsz2 := hbw2.size
 have hne0 : some ga ≠ (Value.slice oa n cap).ownBlock := fun e => hoga ga e.symm rfl
 have hown2 := (hkept w2 hbw2).alloc (.cells #[.string ⟨(gKey x).toArray⟩, .slice none 0 0] 50)
 have hga2 : (w2.alloc (.cells #[.string ⟨(gKey x).toArray⟩, .slice none 0 0] 50)).heap[ga]? = w.heap[ga]? := (heap_alloc_old w2 _ hlt2).trans (hbw2.block ga hlt)
 have hnews := World.news_of_block (cs := #[.string ⟨(gKey x).toArray⟩, .slice none 0 0]) (heap_alloc_new w2 (.cells #[.string ⟨(gKey x).toArray⟩, .slice none 0 0] 50))
 go_region_law (refine step_append_lies _ rfl (.tmp 25) (.tmp 28) 44 rfl B 50 i0 _ 2 40 Try.underlying44 hi hz0 hz1 hz2 rfl (by decide) (.slice oa n cap) n (flatG gs) rfl hown2 ⟨w2.heap.size, 0, none⟩ 1 1 [.string ⟨(gKey x).toArray⟩, .slice none 0 0] rfl rfl hnews (by intro u hu; simp at hu; rcases hu with rfl | rfl <;> rfl) (by decide) (by unfold maxLen; omega) (by omega) (by show B ≤ (w2.alloc (.cells #[.string ⟨(gKey x).toArray⟩, .slice none 0 0] 50)).heap.size; simp; omega) _ rfl ?_; intro g cap3 w3 hown3 hgrow3 hat3 hlt3; have hga3 : w3.heap[ga]? = w.heap[ga]? := (hgrow3.block ga (by show ga < (w2.alloc (.cells #[.string ⟨(gKey x).toArray⟩, .slice none 0 0] 50)).heap.size; simp; omega) hne0).trans hga2; have hg73 := (hcg w3 hga3).1; have hg73f := (hcg w3 hga3).2)
 all_goals
  have hfl : (flatG gs).length = 2 * n := by have := hout.1; omega
  have hne : g ≠ ga := by
   rcases hat3 with h | h
   ·exact hoga g h
   ·have h' : g = (w2.alloc (.cells #[.string ⟨(gKey x).toArray⟩, .slice none 0 0] 50)).heap.size := h
    simp at h'; omega
  have hP : Hid (w3.ownsRow B 50 2 (.slice (some ⟨g, 0, none⟩) (n + 1) cap3) (n + 1) (flatG gs ++ [.string ⟨(gKey x).toArray⟩, .slice none 0 0]) ∧ ((Value.slice oa n cap).ownBlock = some g ∨ w.heap.size ≤ g) ∧ g < w3.heap.size ∧
    w.heap.size ≤ w3.heap.size ∧ w3.os = w.os ∧ w3.tape = w.tape ∧ w3.output = w.output ∧ (∀ k, k < w.heap.size → some k ≠ (Value.slice oa n cap).ownBlock → w3.heap[k]? = w.heap[k]?)) := by
   have hbb : Below w.heap.size w (w2.alloc (.cells #[.string ⟨(gKey x).toArray⟩, .slice none 0 0] 50)) := hbw2.alloc hsz2 _
   refine ⟨hown3, ?_, hlt3, Nat.le_trans hbb.size hgrow3.size, hgrow3.os.trans hbb.os, hgrow3.tape.trans hbb.tape, hgrow3.output.trans hbb.output, fun k hk hks => (hgrow3.block k (Nat.lt_of_lt_of_le hk hbb.size) hks).trans (hbb.block k hk)⟩
   rcases hat3 with h | h
   ·exact .inl h
   ·right
    have h' : g = (w2.alloc (.cells #[.string ⟨(gKey x).toArray⟩, .slice none 0 0] 50)).heap.size := h
    rw [h']; exact hbb.size
  have hx3 : XAt w3 w.heap.size x c3 c4 c6 := by
   refine (hgrow3.block w.heap.size (Nat.lt_of_lt_of_le hltx (Nat.le_trans (Nat.le_of_lt hltk2) (by show _ ≤ (w2.alloc (.cells #[.string ⟨(gKey x).toArray⟩, .slice none 0 0] 50)).heap.size; simp))) ?_).trans (heap_al _ hx2)
   intro e
   have := (hout.lt w.heap.size e.symm).2
   omega
  obtain ⟨c31, f31⟩ : w3.cell? ⟨g, n * 2 + 1, none⟩ = some (.slice none 0 0) ∧ w3.frozen? ⟨g, n * 2 + 1, none⟩ = false := by
   obtain ⟨g', e, _, h1, h2⟩ := own_cell hown3 (j := n * 2 + 1) (u := .slice none 0 0) (by rw [List.getElem?_append_right (by omega), hfl, show n * 2 + 1 - 2 * n = 1 by omega]; rfl)
   cases e
   exact ⟨h1, h2⟩
  have hlt3a : ga < w3.heap.size := Nat.lt_of_lt_of_le hlt hP.out.2.2.2.1
  obtain ⟨w4, hw4⟩ : ∃ w4, w4 = w3.setCell ⟨ga, 7, none⟩ (.slice (some ⟨g, 0, none⟩) (n + 1) cap3) := ⟨_, rfl⟩
  have h4o : w4.cell? ⟨ga, 7, none⟩ = some (.slice (some ⟨g, 0, none⟩) (n + 1) cap3) := by
   rw [hw4]; simp [World.cell?, World.setCell, Array.getElem?_modify, hga3, hga]
  have h4b : ∀ k, k ≠ ga → w4.heap[k]? = w3.heap[k]? := fun k hk => by rw [hw4]; exact Below.heap_setCell _ _ _ _ hk
  have h41 : w4.cell? ⟨g, n * 2 + 1, none⟩ = some (.slice none 0 0) := (World.cell?_of_block (h4b g hne)).trans c31
  have h4f : w4.frozen? ⟨g, n * 2 + 1, none⟩ = false := (World.frozen?_of_block (h4b g hne)).trans f31
  have hx4 : XAt w4 w.heap.size x c3 c4 c6 := (h4b w.heap.size (by omega)).trans hx3
  have h4s : w4.heap.size = w3.heap.size := by rw [hw4]; simp [World.setCell]
  have hP4 := hP.out
  have hnn : (n : Int) < ((n + 1 : Nat) : Int) := by omega
  have hfin : ∀ w' g2 cap2, FTail B w4 g n (.slice none 0 0) 0 [] x c3 c4 c6 w' g2 cap2 → Ending.returned (.tuple #[]) = Ending.returned (.tuple #[]) ∧ FNew B n cap oa gs x c3 c4 c6 ga w w' := by
   intro w' g2 cap2 hF
   rw [hw4] at hF
   exact ⟨rfl, w3, g, cap3, g2, cap2, hP4.1, hP4.2.1, hP4.2.2.1, hP4.2.2.2.1, hP4.2.2.2.2.1, hP4.2.2.2.2.2.1, hP4.2.2.2.2.2.2.1, hP4.2.2.2.2.2.2.2, hF⟩
  rw [← hw4]
  have hB4 : B ≤ w4.heap.size := by rw [h4s]; exact Nat.le_trans hB hP4.2.2.2.1
  refine ‹∀ (a : Act) (w : World), Code.wp Try.prog _ _ a w → _› _ _ ?_
  exact tail_walk (fun e w' => e = .returned (.tuple #[]) ∧ FNew B n cap oa gs x c3 c4 c6 ga w w') B (n + 1) cap3 n 0 none 0 [] x c3 c4 c6 ga g w.heap.size w4 hB4 (by omega) hnn hs3 hs4 hs6 h4o h41 h4f hx4 (World.ownsRow_nil _ _ _ _) (fun k hk => by simp [Value.ownBlock] at hk) (fun w' g2 cap2 hF => ⟨rfl, (hfin w' g2 cap2 hF).2⟩) _ _ _ _ _ _ _ _ _ _ _ _ _ _ _ _ _ _ _ _ _ _ _ _ _ _ _ _ _ _ _ _ _ _ _ _ _ _ _ _ _ _ _ _ _ _ _ _ _ _ _ _ _ _ _ _ _ _ _ _ _ _ _ _
def FOld (B m idx g : Nat) (sv : Value) (ys : List Value) (x : GSel) (c3 c4 c6 : Value) (w w' : World) : Prop :=
 ∃ (w2 : World) (g2 cap2 : Nat), Below w.heap.size w w2 ∧ FTail B w2 g idx sv m ys x c3 c4 c6 w' g2 cap2
set_option maxHeartbeats 8000000 in
set_option maxRecDepth 100000 in
theorem field_old (B n cap g idx m cap1 : Nat) (oa2 : Option Addr) (ys : List Value) (gs : List (ByteArray × Value)) (x : GSel) (c3 c4 c6 : Value) (ga : Nat) (h0 h1 h2 h3 h4 h5 h6 h8 : Value) (w : World) (hB : B ≤ w.heap.size) (hn : n ≤ 1073741824) (hm : m ≤ 1073741824)
  (hs3 : ∃ a l k, c3 = .slice a l k) (hs4 : ∃ a l k, c4 = .slice a l k) (hs6 : ∃ a l k, c6 = .slice a l k)
  (hout : w.ownsRow B 50 2 (.slice (some ⟨g, 0, none⟩) n cap) n (flatG gs)) (hoga : g ≠ ga) (hidx : idxOf gs ⟨(gKey x).toArray⟩ = idx) (kk : ByteArray) (hat : gs[idx]? = some (kk, .slice oa2 m cap1))
  (hsv : w.ownsRow B 41 7 (.slice oa2 m cap1) m ys) (hsvg : ∀ k, (Value.slice oa2 m cap1).ownBlock = some k → k ≠ g ∧ k ≠ ga)
  (hga : w.heap[ga]? = some (.cells #[h0, h1, h2, h3, h4, h5, h6, .slice (some ⟨g, 0, none⟩) n cap, h8] 84 (0, 0))) :
  Calls Try.prog 69 #[.pointer (some ⟨ga, 0, none⟩), .agg #[.int .i64 x.kind, .string ⟨x.alias.toArray⟩, .string ⟨x.name.toArray⟩, c3, c4, .string ⟨x.on_.toArray⟩, c6]] w fun e w' =>
   e = .returned (.tuple #[]) ∧ FOld B m idx g (.slice oa2 m cap1) ys x c3 c4 c6 w w' := by
 have hlt : ga < w.heap.size := (Array.getElem?_eq_some_iff.1 hga).1
 have hcg : ∀ w1 : World, w1.heap[ga]? = w.heap[ga]? → w1.cell? ⟨ga, 7, none⟩ = some (.slice (some ⟨g, 0, none⟩) n cap) := by
  intro w1 hb
  rw [cell_of_row w1 ga 7 _ _ _ (hb.trans hga)]; rfl
 have hkey : ∀ w1 w2 : World, Below (w1.alloc (.cells #[.string ⟨(gKey x).toArray⟩] 9)).heap.size (w1.alloc (.cells #[.string ⟨(gKey x).toArray⟩] 9)) w2 → w2.cell? ⟨w1.heap.size, 0, none⟩ = some (.string ⟨(gKey x).toArray⟩) := by
  intro w1 w2 hb
  exact cell_of_one ((hb.block w1.heap.size (by simp)).trans (heap_alloc_new w1 _))
 have hkept : ∀ w1, Below w.heap.size w w1 → w1.ownsRow B 50 2 (.slice (some ⟨g, 0, none⟩) n cap) n (flatG gs) ∧ w1.ownsRow B 41 7 (.slice oa2 m cap1) m ys := by
  intro w1 hb
  have hg : w.grownBy w1 none := ⟨hb.os, hb.tape, hb.output, hb.size, fun k hk _ => hb.block k hk⟩
  exact ⟨hout.kept hg (by simp [Value.ownBlock]), hsv.kept hg (by cases oa2 <;> simp [Value.ownBlock])⟩
 have hidxw : ∀ w1 : World, Below w.heap.size w w1 → Calls Try.prog 87 #[.slice (some ⟨g, 0, none⟩) n cap, .func (.func 88) #[] #[.pointer (some ⟨w1.heap.size, 0, none⟩)]] (w1.alloc (.cells #[.string ⟨(gKey x).toArray⟩] 9)) fun e w' => Below (w1.alloc (.cells #[.string ⟨(gKey x).toArray⟩] 9)).heap.size (w1.alloc (.cells #[.string ⟨(gKey x).toArray⟩] 9)) w' ∧ e = .returned (.int .i64 idx) := by
  intro w1 hb
  have := idx_any B n cap (some ⟨g, 0, none⟩) gs ⟨(gKey x).toArray⟩ w1.heap.size (w1.alloc (.cells #[.string ⟨(gKey x).toArray⟩] 9)) hn ((hkept w1 hb).1.alloc _) (hkey w1 _ (Below.refl _ _))
  rw [hidx] at this; exact this
 have hgl : gs.length = n := by have := hout.1; rw [flatG_len] at this; omega
 have hil : idx < n := by rw [← hgl]; exact (List.getElem?_eq_some_iff.1 hat).1
 have hfl := (flatG_at gs idx kk _ hat).2
 have hxne : ∀ k, (Value.slice oa2 m cap1).ownBlock = some k → k ≠ w.heap.size := fun k hk => by have := (hsv.lt k hk).2; omega
 clear hidx
 have hnn : ¬ ((idx : Int) < 0) := by omega
 go_enter Try.func69, Try.ntmps69
 go_wp2_with (first
  | (go_at_call 21; refine (key_walk x c3 c4 c6 _).mono ?_; rintro e w1 ⟨hb1, rfl⟩; have hbw1 := ((Below.refl w.heap.size w).alloc (Nat.le_refl _) _).trans (hb1.mono (by simp)); have hg7 := hcg w1 (hbw1.block ga hlt); have hlt1 : ga < w1.heap.size := Nat.lt_of_lt_of_le hlt hbw1.size; have hltx : w.heap.size < w1.heap.size := Nat.lt_of_lt_of_le (by simp) hb1.size; have hx1 : XAt w1 w.heap.size x c3 c4 c6 := (hb1.block w.heap.size (by simp)).trans (heap_alloc_new w _))
  | (go_at_call 87; refine (hidxw w1 hbw1).mono ?_; rintro e w2 ⟨hb2, rfl⟩; have hbw2 := (hbw1.alloc hbw1.size _).trans (hb2.mono (Nat.le_trans hbw1.size (by simp))); have hg72 := hcg w2 (hbw2.block ga hlt); have hx2 : XAt w2 w.heap.size x c3 c4 c6 := (hb2.block w.heap.size (by simp; omega)).trans ((Below.heap_alloc w1 _ _ hltx).trans hx1)))
 have hK := ‹∀ (a : Act) (w : World), Code.wp Try.prog _ _ a w → _›
 obtain ⟨hk1, hk2⟩ := hkept w2 hbw2
 obtain ⟨g', e, _, h41, h4f⟩ := own_cell hk1 (j := idx * 2 + 1) (u := .slice oa2 m cap1) (by rw [Nat.mul_comm]; exact hfl)
 cases e
 exact reg_walk (fun e w' => e = .returned (.tuple #[]) ∧ FOld B m idx g (.slice oa2 m cap1) ys x c3 c4 c6 w w') B n cap idx m oa2 cap1 ys x c3 c4 c6 ga g w.heap.size w2 (Nat.le_trans hB hbw2.size) hm (by omega) hs3 hs4 hs6 hg72 h41 h4f hx2 hk2 (fun k hk => ⟨(hsvg k hk).1, (hsvg k hk).2, hxne k hk⟩) (fun w' g2 cap2 hF => ⟨rfl, w2, g2, cap2, hbw2, hF⟩) _ _ _ _ _ _ _ _ _ _ _ _ _ _ _ _ _ _ _ _ _ _ _ _ _ _ _ _ _ _ _ _ _ _ _ _ _ _ _ _ _ _ _ _ _ _ _ _ _ _ _ _ _ _ _ _ _ _ _ _ _ _ _ _ _ hK
def MetAt (w : World) (b : Nat) (met : List Str) : Prop :=
 ∃ (n : Nat) (D : DataW Unit), w.ownsMap Try.prog 9 (plainElem Try.prog 4) b n D ∧ n ≤ met.length ∧ ∀ s : Str, D.atKey (.string s) (.lit (.bool false)) = .lit (.bool (met.contains s))
theorem MetAt.congr {w w' : World} {b : Nat} {met : List Str} (h : MetAt w b met) (hb : w'.heap[b]? = w.heap[b]?) : MetAt w' b met := by
 obtain ⟨n, D, ⟨es, clock, h1, h2⟩, h3⟩ := h
 exact ⟨n, D, ⟨es, clock, hb.trans h1, h2⟩, h3⟩
theorem MetAt.lt {w : World} {b : Nat} {met : List Str} (h : MetAt w b met) : b < w.heap.size := by
 obtain ⟨n, D, h1, _⟩ := h
 exact h1.lt
theorem metAt_made (w : World) : MetAt (w.alloc (.map #[] 0)) w.heap.size [] :=
 ⟨0, _, World.ownsMap_made w Try.prog 9 _, Nat.le_refl _, fun s => rfl⟩
theorem Try.u9 : Try.prog.underlying 9 = some .string := by kernel_rfl
theorem Try.u4 : Try.prog.underlying 4 = some .bool := by kernel_rfl
theorem keyOf9 (s : Str) (hs : s.length ≤ maxLen) : keyOf Try.prog 9 (.string ⟨s.toArray⟩) = some (.string s) := by
 have := WideMaps.keyOf_string_mk Try.u9 (s := ⟨s.toArray⟩) (by show s.toArray.size ≤ _; simpa using hs)
 simpa using this
theorem MetAt.lookup {w : World} {b : Nat} {met : List Str} {t : TypeId} (h : MetAt w b met) (ht : Try.prog.underlying t = some (.map 9 4)) (hz : (zeroValue 4).run Try.prog w = .ok (.bool false) w) (s : Str) (hs : s.length ≤ maxLen) :
  (Instr.lookup t (.map (some b)) (.string ⟨s.toArray⟩) false).run Try.prog w = .ok (.bool (met.contains s)) w := by
 obtain ⟨n, D, h1, _, h2⟩ := h
 obtain ⟨v, ps, hrun, hv⟩ := h1.lookup (Maps.string_keyed Try.u9) ht hz (plainElem_bool Try.u4 false) (keyOf9 s hs)
 rw [h2 s] at hv
 unfold plainElem at hv
 rw [Try.u4] at hv
 cases v <;> simp at hv
 have hd : decide (s ∈ met) = met.contains s := by rw [Bool.eq_iff_iff, decide_eq_true_iff, List.contains_iff_mem]
 rw [hrun, hv.1, hd]
theorem MetAt.update {w : World} {b : Nat} {met : List Str} {t : TypeId} (h : MetAt w b met) (ht : Try.prog.underlying t = some (.map 9 4)) (hl : met.length < maxLen) (s : Str) (hs : s.length ≤ maxLen) :
  ∃ w', (Instr.mapUpdate t (.map (some b)) (.string ⟨s.toArray⟩) (.bool true)).run Try.prog w = .ok () w' ∧ MetAt w' b (met ++ [s]) ∧ w.grownBy w' (some b) := by
 obtain ⟨n, D, h1, hn, h2⟩ := h
 obtain ⟨w', k1, k2, k3⟩ := h1.update (Maps.string_keyed Try.u9) ht (Nat.lt_of_le_of_lt hn hl) (keyOf9 s hs) (plainElem_bool (H := Unit) Try.u4 true)
 refine ⟨w', k1, ⟨n + 1, _, k2, ?_, fun s' => ?_⟩, k3⟩
 ·rw [List.length_append]; exact Nat.add_le_add_right hn 1
 rw [contains_app]
 by_cases e : s' = s
 ·subst e
  rw [Maps.atKey_put_same h1.isMap (k := .string s') trivial]
  simp
 ·have hne : (Lit.string s') ≠ .string s := fun h => e (by cases h; rfl)
  rw [Maps.atKey_put_other hne, h2]
  have hb : (s' == s) = false := by simpa using e
  rw [hb, Bool.or_false]
structure CV (M : Mem) (x : GSel) (c3 c4 c6 : Value) : Prop where
 r3 : Rv M noB (.slice (List.map encMember x.args) [] false) c3
 r4 : Rv M noB (.slice (List.map encDir x.dirs) [] false) c4
 r6 : Rv M noB (.slice (List.map encSel x.sels) [] false) c6
theorem CV.mono {M M' : Mem} {x : GSel} {c3 c4 c6 : Value} (h : CV M x c3 c4 c6) (hM : ∀ b i v, M b i = some v → M' b i = some v) : CV M' x c3 c4 c6 :=
 ⟨h.r3.mono hM (fun _ _ _ h => h), h.r4.mono hM (fun _ _ _ h => h), h.r6.mono hM (fun _ _ _ h => h)⟩
theorem isSlice {M : Mem} {B : BM} {es : List PV} {v : Value} (h : Rv M B (.slice es [] false) v) : ∃ a l k, v = .slice a l k := by
 cases h with
 | nil o => exact ⟨_, _, _, rfl⟩
 | slice es bs o a cap s f ha hc ho hel hm hr => exact ⟨_, _, _, rfl⟩
inductive SelRow (M : Mem) : List GSel → List Value → Prop
 | nil : SelRow M [] []
 | snoc {l : List GSel} {ys : List Value} {x : GSel} {c3 c4 c6 : Value} (h : SelRow M l ys) (hc : CV M x c3 c4 c6) : SelRow M (l ++ [x]) (ys ++ xCells x c3 c4 c6)
theorem SelRow.mono {M M' : Mem} {l : List GSel} {ys : List Value} (h : SelRow M l ys) (hM : ∀ b i v, M b i = some v → M' b i = some v) : SelRow M' l ys := by
 induction h with
 | nil => exact .nil
 | snoc h hc ih => exact .snoc ih (hc.mono hM)
def GRow (M : Mem) (B : Nat) (w : World) (l : List GSel) (v : Value) : Prop :=
 ∃ oa cap ys, v = .slice oa l.length cap ∧ w.ownsRow B 41 7 v l.length ys ∧ SelRow M l ys
theorem own_congr {w w' : World} {B e size n : Nat} {v : Value} {xs : List Value} (h : w.ownsRow B e size v n xs) (hb : ∀ k, v.ownBlock = some k → w'.heap[k]? = w.heap[k]?) : w'.ownsRow B e size v n xs := by
 refine ⟨h.1, ?_⟩
 rcases h.2 with hn | ⟨g, cap, cur, rfl, hB, hgg, rest⟩
 ·exact .inl hn
 ·exact .inr ⟨g, cap, cur, rfl, hB, (hb g rfl).trans hgg, rest⟩
theorem GRow.congr {M M' : Mem} {B : Nat} {w w' : World} {l : List GSel} {v : Value} (h : GRow M B w l v) (hM : ∀ b i v, M b i = some v → M' b i = some v) (hb : ∀ k, v.ownBlock = some k → w'.heap[k]? = w.heap[k]?) : GRow M' B w' l v := by
 obtain ⟨oa, cap, ys, h1, h2, h3⟩ := h
 exact ⟨oa, cap, ys, h1, own_congr h2 hb, h3.mono hM⟩
theorem GRow.lt {M : Mem} {B : Nat} {w : World} {l : List GSel} {v : Value} (h : GRow M B w l v) : ∀ k, v.ownBlock = some k → B ≤ k ∧ k < w.heap.size := by
 obtain ⟨oa, cap, ys, h1, h2, h3⟩ := h
 exact h2.lt
def zipG : List GGroup → List Value → List (ByteArray × Value)
 | g :: l, v :: vs => (⟨g.key.toArray⟩, v) :: zipG l vs
 | _, _ => []
theorem zipG_len : ∀ (l : List GGroup) (vs : List Value), vs.length = l.length → (zipG l vs).length = l.length
 | [], [], _ => rfl
 | [], _ :: _, h => by simp at h
 | _ :: _, [], h => by simp at h
 | g :: l, v :: vs, h => by simp only [zipG, List.length_cons, zipG_len l vs (by simpa using h)]
theorem zipG_at : ∀ (l : List GGroup) (vs : List Value) (i : Nat) (g : GGroup) (v : Value), l[i]? = some g → vs[i]? = some v → (zipG l vs)[i]? = some (⟨g.key.toArray⟩, v)
 | [], _, i, g, v, h, _ => by simp at h
 | _ :: _, [], i, g, v, _, h => by simp at h
 | a :: l, b :: vs, 0, g, v, h1, h2 => by simp at h1 h2; subst h1 h2; rfl
 | a :: l, b :: vs, i + 1, g, v, h1, h2 => by simp only [zipG, List.getElem?_cons_succ]; exact zipG_at l vs i g v (by simpa using h1) (by simpa using h2)
theorem zipG_app : ∀ (l : List GGroup) (vs : List Value) (g : GGroup) (v : Value), vs.length = l.length → zipG (l ++ [g]) (vs ++ [v]) = zipG l vs ++ [(⟨g.key.toArray⟩, v)]
 | [], [], _, _, _ => rfl
 | [], _ :: _, _, _, h => by simp at h
 | _ :: _, [], _, _, h => by simp at h
 | a :: l, b :: vs, g, v, h => by simp only [List.cons_append, zipG, zipG_app l vs g v (by simpa using h)]
theorem flat_set : ∀ (l : List GGroup) (vs : List Value) (i : Nat) (G G' : GGroup) (u v : Value), vs.length = l.length → l[i]? = some G → G'.key = G.key → flatG (zipG (l.set i G') (vs.set i v)) = (flatG (zipG l vs)).set (i * 2 + 1) v
 | [], _, i, G, _, _, _, _, h, _ => by simp at h
 | _ :: _, [], _, _, _, _, _, h, _, _ => by simp at h
 | a :: l, b :: vs, 0, G, G', u, v, hl, h, hk => by simp at h; subst h; simp [zipG, flatG, hk]
 | a :: l, b :: vs, i + 1, G, G', u, v, hl, h, hk => by
  have := flat_set l vs i G G' u v (by simpa using hl) (by simpa using h) hk
  simp only [List.set_cons_succ, zipG, flatG, this, show (i + 1) * 2 + 1 = (i * 2 + 1) + 1 + 1 by omega]
theorem putG_idx (k : Str) (x : GSel) : ∀ (l : List GGroup) (vs : List Value), vs.length = l.length → 
  (idxOf (zipG l vs) ⟨k.toArray⟩ = -1 ∧ putG l k x = l ++ [⟨k, [x]⟩]) ∨ ∃ (i : Nat) (G : GGroup), idxOf (zipG l vs) ⟨k.toArray⟩ = i ∧ l[i]? = some G ∧ putG l k x = l.set i ⟨G.key, G.sels ++ [x]⟩
 | [], [], _ => .inl ⟨rfl, rfl⟩
 | [], _ :: _, h => by simp at h
 | _ :: _, [], h => by simp at h
 | g :: l, v :: vs, h => by
  by_cases e : g.key = k
  ·refine .inr ⟨0, g, ?_, rfl, ?_⟩
   ·simp [zipG, idxOf, e]
   ·simp [putG, e]
  ·have hne : ((⟨g.key.toArray⟩ : ByteArray).toList == (⟨k.toArray⟩ : ByteArray).toList) = false := by simpa using e
   rcases putG_idx k x l vs (by simpa using h) with ⟨h1, h2⟩ | ⟨i, G, h1, h2, h3⟩
   ·left
    refine ⟨?_, ?_⟩
    ·simp only [zipG, idxOf, hne, h1]; simp
    ·simp only [putG, if_neg e, h2, List.cons_append]
   ·right
    refine ⟨i + 1, G, ?_, by simpa using h2, ?_⟩
    ·simp only [zipG, idxOf, hne, h1]
     simp only [Bool.false_eq_true, if_false]
     rw [if_neg (by omega)]; omega
    ·simp only [putG, if_neg e, h3, List.set_cons_succ]
structure GS (e : GEnv) (B ga gm : Nat) (M : Mem) (w : World) (gs : List GGroup) (met : List Str) (h0 h1 h2 h3 h4 h5 h6 : Value) (oa : Option Addr) (cap : Nat) (vs : List Value) : Prop where
 le : B ≤ w.heap.size
 cons : Cons M w
 bga : B ≤ ga
 bgm : B ≤ gm
 ne : ga ≠ gm
 row : w.heap[ga]? = some (.cells #[h0, h1, h2, h3, h4, h5, h6, .slice oa gs.length cap, .map (some gm)] 84 (0, 0))
 rs : Rv M noB (.agg [(.slice (List.map encDef e.s.defs) [] false), (.str e.s.query), (.str e.s.mutation)]) (.agg #[h0, h1, h2])
 rd : Rv M noB (.agg [(.slice (List.map encOp e.d.ops) [] false), (.slice (List.map encFrag e.d.frags) [] false)]) (.agg #[h3, h4])
 re : Rv M noB (.slice (List.map encMember e.env) [] false) h5
 rt : Rv M noB (.str e.typ) h6
 len : vs.length = gs.length
 own : w.ownsRow B 50 2 (.slice oa gs.length cap) gs.length (flatG (zipG gs vs))
 sub : ∀ (i : Nat) (g : GGroup) (v : Value), gs[i]? = some g → vs[i]? = some v → GRow M B w g.sels v
 apart : ∀ (i j : Nat) (v v' : Value) (k : Nat), i ≠ j → vs[i]? = some v → vs[j]? = some v' → v.ownBlock = some k → v'.ownBlock ≠ some k
 off : ∀ (i : Nat) (v : Value) (k : Nat), vs[i]? = some v → v.ownBlock = some k → k ≠ ga ∧ k ≠ gm ∧ (Value.slice oa gs.length cap).ownBlock ≠ some k
 offo : ∀ k, (Value.slice oa gs.length cap).ownBlock = some k → k ≠ ga ∧ k ≠ gm
 met : MetAt w gm met
 fga : ∀ i, M ga i = none
 fgm : ∀ i, M gm i = none
 fo : ∀ k, (Value.slice oa gs.length cap).ownBlock = some k → ∀ i, M k i = none
 fv : ∀ (i : Nat) (v : Value) (k : Nat), vs[i]? = some v → v.ownBlock = some k → ∀ i, M k i = none
theorem cons_lt {M : Mem} {w : World} (h : Cons M w) {b : Nat} (hb : w.heap.size ≤ b) (i : Nat) : M b i = none := by
 cases hm : M b i with
 | none => rfl
 | some v =>
  obtain ⟨arr, T, fz, h1, _⟩ := h b i v hm
  have := (Array.getElem?_eq_some_iff.1 h1).1
  omega
theorem cons_kept {M : Mem} {w w' : World} (h : Cons M w) (hb : ∀ k, k < w.heap.size → (∃ i, M k i ≠ none) → w'.heap[k]? = w.heap[k]?) : Cons M w' := by
 intro b i v hv
 obtain ⟨arr, T, fz, h1, h2⟩ := h b i v hv
 exact ⟨arr, T, fz, (hb b (Array.getElem?_eq_some_iff.1 h1).1 ⟨i, by rw [hv]; simp⟩).trans h1, h2⟩
theorem GS.at {e : GEnv} {B ga gm : Nat} {M : Mem} {w : World} {gs : List GGroup} {met : List Str} {h0 h1 h2 h3 h4 h5 h6 : Value} {oa : Option Addr} {cap : Nat} {vs : List Value} (h : GS e B ga gm M w gs met h0 h1 h2 h3 h4 h5 h6 oa cap vs) {i : Nat} {v : Value} (hv : vs[i]? = some v) : ∃ g, gs[i]? = some g ∧ GRow M B w g.sels v := by
 have hi : i < gs.length := by rw [← h.len]; exact (List.getElem?_eq_some_iff.1 hv).1
 exact ⟨gs[i], List.getElem?_eq_getElem hi, h.sub i _ v (List.getElem?_eq_getElem hi) hv⟩
theorem GS.quiet {e : GEnv} {B ga gm : Nat} {M M' : Mem} {w w' : World} {gs : List GGroup} {met : List Str} {h0 h1 h2 h3 h4 h5 h6 : Value} {oa : Option Addr} {cap : Nat} {vs : List Value} (h : GS e B ga gm M w gs met h0 h1 h2 h3 h4 h5 h6 oa cap vs) (q : Quiet M w M' w') (hc : Cons M' w') : GS e B ga gm M' w' gs met h0 h1 h2 h3 h4 h5 h6 oa cap vs := by
 have lga : ga < w.heap.size := (Array.getElem?_eq_some_iff.1 h.row).1
 have lv : ∀ (i : Nat) (v : Value) (k : Nat), vs[i]? = some v → v.ownBlock = some k → k < w.heap.size := by
  intro i v k hv hk
  obtain ⟨g, h1, h2⟩ := h.at hv
  exact (h2.lt k hk).2
 exact ⟨Nat.le_trans h.le q.size, hc, h.bga, h.bgm, h.ne, (q.old ga lga).1.trans h.row, h.rs.mono q.mem (fun _ _ _ h => h), h.rd.mono q.mem (fun _ _ _ h => h), h.re.mono q.mem (fun _ _ _ h => h), h.rt.mono q.mem (fun _ _ _ h => h), h.len,
  own_congr h.own (fun k hk => (q.old k (h.own.lt k hk).2).1), fun i g v hg hv => (h.sub i g v hg hv).congr q.mem (fun k hk => (q.old k (lv i v k hv hk)).1), h.apart, h.off, h.offo, h.met.congr (q.old gm h.met.lt).1,
  fun i => ((q.old ga lga).2 i).trans (h.fga i), fun i => ((q.old gm h.met.lt).2 i).trans (h.fgm i), fun k hk i => ((q.old k (h.own.lt k hk).2).2 i).trans (h.fo k hk i), fun i v k hv hk j => ((q.old k (lv i v k hv hk)).2 j).trans (h.fv i v k hv hk j)⟩
theorem quiet_below {M : Mem} {w w' : World} (h : Below w.heap.size w w') : Quiet M w M w' := ⟨fun _ _ _ h => h, fun b hb => ⟨h.block b hb, fun _ => rfl⟩, h.size, h.os, h.tape, h.output⟩
theorem cons_below {M : Mem} {w w' : World} (hc : Cons M w) (h : Below w.heap.size w w') : Cons M w' := cons_kept hc fun k hk _ => h.block k hk
theorem GS.old {e : GEnv} {B ga gm : Nat} {M : Mem} {w w2 w' : World} {gs : List GGroup} {met : List Str} {h0 h1 h2 h3 h4 h5 h6 : Value} {g : Nat} {cap : Nat} {vs : List Value} {idx m g2 cap1 cap2 : Nat} {oa2 : Option Addr} {ys : List Value} {G : GGroup} {x : GSel} {c3 c4 c6 : Value}
  (h : GS e B ga gm M w gs met h0 h1 h2 h3 h4 h5 h6 (some ⟨g, 0, none⟩) cap vs) (hw2 : Below w.heap.size w w2) (hG : gs[idx]? = some G) (hv : vs[idx]? = some (.slice oa2 m cap1)) (hm : G.sels.length = m) (hys : SelRow M G.sels ys) (hx : CV M x c3 c4 c6)
  (hF : FTail B w2 g idx (.slice oa2 m cap1) m ys x c3 c4 c6 w' g2 cap2) :
  GS e B ga gm M w' (gs.set idx ⟨G.key, G.sels ++ [x]⟩) met h0 h1 h2 h3 h4 h5 h6 (some ⟨g, 0, none⟩) cap (vs.set idx (.slice (some ⟨g2, 0, none⟩) (m + 1) cap2)) ∧ Below B w w' := by
 have lga : ga < w.heap.size := (Array.getElem?_eq_some_iff.1 h.row).1
 have hgo : (Value.slice (some ⟨g, 0, none⟩) gs.length cap).ownBlock = some g := rfl
 have lg := h.own.lt g hgo
 obtain ⟨hoga, hogm⟩ := h.offo g hgo
 have hil : idx < gs.length := (List.getElem?_eq_some_iff.1 hG).1
 have hivl : idx < vs.length := by rw [h.len]; exact hil
 -- what is not written stays
 have stay : ∀ k, k < w.heap.size → k ≠ g → (Value.slice oa2 m cap1).ownBlock ≠ some k → w'.heap[k]? = w.heap[k]? := by
  intro k hk h1 h2
  exact (hF.old k (Nat.lt_of_lt_of_le hk hw2.size) h1 (fun e => h2 e.symm)).trans (hw2.block k hk)
 have hsz : w.heap.size ≤ w'.heap.size := Nat.le_trans hw2.size hF.size
 have hsvo : ∀ k, (Value.slice oa2 m cap1).ownBlock = some k → k ≠ ga ∧ k ≠ gm ∧ k ≠ g ∧ B ≤ k ∧ k < w.heap.size := by
  intro k hk
  obtain ⟨a1, a2, a3⟩ := h.off idx _ k hv hk
  obtain ⟨g', _, hr⟩ := h.at hv
  have := hr.lt k hk
  exact ⟨a1, a2, fun e => a3 (by rw [e]; rfl), this.1, this.2⟩
 have hg2 : (g2 ≠ ga ∧ g2 ≠ gm ∧ g2 ≠ g ∧ B ≤ g2) ∧ (∀ i, M g2 i = none) ∧ ∀ (j : Nat) (v : Value), j ≠ idx → vs[j]? = some v → v.ownBlock ≠ some g2 := by
  rcases hF.new with hn | hn
  ·obtain ⟨a1, a2, a3, a4, _⟩ := hsvo g2 hn
   exact ⟨⟨a1, a2, a3, a4⟩, h.fv idx _ g2 hv hn, fun j v hj hjv => h.apart idx j _ _ g2 (Ne.symm hj) hv hjv hn⟩
  ·have hlt : w.heap.size ≤ g2 := Nat.le_trans hw2.size hn
   have hmlt := h.met.lt
   have hle := h.le
   refine ⟨⟨by omega, by omega, by omega, by omega⟩, fun i => cons_lt h.cons hlt i, fun j v hj hjv hk => ?_⟩
   obtain ⟨g', _, hr⟩ := h.at hjv
   have := hr.lt g2 hk
   omega
 obtain ⟨⟨n1, n2, n3, n4⟩, hfree, hother⟩ := hg2
 have hset : ∀ (i : Nat) (v : Value), (vs.set idx (.slice (some ⟨g2, 0, none⟩) (m + 1) cap2))[i]? = some v → (i = idx ∧ v = .slice (some ⟨g2, 0, none⟩) (m + 1) cap2) ∨ (i ≠ idx ∧ vs[i]? = some v) := by
  intro i v hiv
  by_cases e : i = idx
  ·subst e
   rw [List.getElem?_set_self hivl] at hiv
   cases hiv
   exact .inl ⟨rfl, rfl⟩
  ·rw [List.getElem?_set_ne (Ne.symm e)] at hiv
   exact .inr ⟨e, hiv⟩
 have hown : w'.ownsRow B 50 2 (.slice (some ⟨g, 0, none⟩) gs.length cap) gs.length (flatG (zipG (gs.set idx ⟨G.key, G.sels ++ [x]⟩) (vs.set idx (.slice (some ⟨g2, 0, none⟩) (m + 1) cap2)))) := by
  have o2 : w2.ownsRow B 50 2 (.slice (some ⟨g, 0, none⟩) gs.length cap) gs.length (flatG (zipG gs vs)) := own_congr h.own (fun k hk => hw2.block k (h.own.lt k hk).2)
  have o3 := own_setCell o2 (idx * 2 + 1) (.slice (some ⟨g2, 0, none⟩) (m + 1) cap2) (by rw [flatG_len, zipG_len _ _ h.len]; omega)
  rw [flat_set gs vs idx G ⟨G.key, G.sels ++ [x]⟩ undef _ h.len hG rfl]
  exact own_congr o3 (fun k hk => by cases hk; exact hF.row)
 refine ⟨⟨Nat.le_trans h.le hsz, ?_, h.bga, h.bgm, h.ne, ?_, h.rs, h.rd, h.re, h.rt, by simp [h.len], by simpa only [List.length_set] using hown, ?_, ?_, ?_, ?_, ?_, h.fga, h.fgm, ?_, ?_⟩, ?_⟩
 ·refine cons_kept h.cons fun k hk ⟨i, hi⟩ => stay k hk ?_ ?_
  ·rintro rfl; exact hi (h.fo _ hgo i)
  ·intro hk2; exact hi (h.fv idx _ k hv hk2 i)
 ·rw [stay ga lga (Ne.symm hoga) (fun e => (hsvo ga e).1 rfl), List.length_set]; exact h.row
 ·intro i g' v hg' hiv
  rcases hset i v hiv with ⟨rfl, rfl⟩ | ⟨hne, hiv'⟩
  ·rw [List.getElem?_set_self hil] at hg'
   cases hg'
   refine ⟨some ⟨g2, 0, none⟩, cap2, ys ++ xCells x c3 c4 c6, by simp [hm], ?_, hys.snoc hx⟩
   have := hF.own
   simpa [hm] using this
  ·rw [List.getElem?_set_ne (Ne.symm hne)] at hg'
   have hr := h.sub i g' v hg' hiv'
   refine hr.congr (fun _ _ _ h => h) fun k hk => stay k (hr.lt k hk).2 ?_ ?_
   ·rintro rfl; exact (h.off i v _ hiv' hk).2.2 hgo
   ·exact h.apart i idx v _ k hne hiv' hv hk
 ·intro i j v v' k hij hiv hjv hk
  rcases hset i v hiv with ⟨rfl, rfl⟩ | ⟨hne, hiv'⟩
  ·rcases hset j v' hjv with ⟨rfl, rfl⟩ | ⟨hne', hjv'⟩
   ·exact absurd rfl hij
   ·simp only [Value.ownBlock, Option.some.injEq] at hk
    subst hk
    exact hother j v' hne' hjv'
  ·rcases hset j v' hjv with ⟨rfl, rfl⟩ | ⟨hne', hjv'⟩
   ·intro hk'
    simp only [Value.ownBlock, Option.some.injEq] at hk'
    subst hk'
    exact hother i v hne hiv' hk
   ·exact h.apart i j v v' k hij hiv' hjv' hk
 ·intro i v k hiv hk
  rw [List.length_set]
  rcases hset i v hiv with ⟨rfl, rfl⟩ | ⟨hne, hiv'⟩
  ·simp only [Value.ownBlock, Option.some.injEq] at hk ⊢
   subst hk
   exact ⟨n1, n2, fun e => n3 (Option.some.inj e).symm⟩
  ·exact h.off i v k hiv' hk
 ·rw [List.length_set]; exact h.offo
 ·exact h.met.congr (stay gm h.met.lt (Ne.symm hogm) (fun e => (hsvo gm e).2.1 rfl))
 ·rw [List.length_set]; exact h.fo
 ·intro i v k hiv hk
  rcases hset i v hiv with ⟨rfl, rfl⟩ | ⟨hne, hiv'⟩
  ·simp only [Value.ownBlock, Option.some.injEq] at hk
   subst hk
   exact hfree
  ·exact h.fv i v k hiv' hk
 ·refine ⟨hF.os.trans hw2.os, hF.tape.trans hw2.tape, hF.output.trans hw2.output, hsz, fun k hk => stay k (Nat.lt_of_lt_of_le hk h.le) ?_ ?_⟩
  ·have := lg.1; omega
  ·intro e; have := (hsvo k e).2.2.2.1; omega
theorem GS.mid {e : GEnv} {B ga gm : Nat} {M : Mem} {w w3 : World} {gs : List GGroup} {met : List Str} {h0 h1 h2 h3 h4 h5 h6 : Value} {oa : Option Addr} {cap g cap3 : Nat} {vs : List Value} {key : Str}
  (h : GS e B ga gm M w gs met h0 h1 h2 h3 h4 h5 h6 oa cap vs) (hown : w3.ownsRow B 50 2 (.slice (some ⟨g, 0, none⟩) (gs.length + 1) cap3) (gs.length + 1) (flatG (zipG gs vs) ++ [.string ⟨key.toArray⟩, .slice none 0 0]))
  (hat : (Value.slice oa gs.length cap).ownBlock = some g ∨ w.heap.size ≤ g) (hgl : g < w3.heap.size) (hsz : w.heap.size ≤ w3.heap.size) (hos : w3.os = w.os) (htp : w3.tape = w.tape) (hou : w3.output = w.output) (hkeep : ∀ k, k < w.heap.size → some k ≠ (Value.slice oa gs.length cap).ownBlock → w3.heap[k]? = w.heap[k]?) :
  GS e B ga gm M (w3.setCell ⟨ga, 7, none⟩ (.slice (some ⟨g, 0, none⟩) (gs.length + 1) cap3)) (gs ++ [⟨key, []⟩]) met h0 h1 h2 h3 h4 h5 h6 (some ⟨g, 0, none⟩) cap3 (vs ++ [.slice none 0 0]) ∧ Below B w (w3.setCell ⟨ga, 7, none⟩ (.slice (some ⟨g, 0, none⟩) (gs.length + 1) cap3)) := by
 have lga : ga < w.heap.size := (Array.getElem?_eq_some_iff.1 h.row).1
 obtain ⟨w', hw'⟩ : ∃ w', w' = w3.setCell ⟨ga, 7, none⟩ (.slice (some ⟨g, 0, none⟩) (gs.length + 1) cap3) := ⟨_, rfl⟩
 have hs : ∀ k, k ≠ ga → w'.heap[k]? = w3.heap[k]? := fun k hk => by rw [hw']; exact Below.heap_setCell _ _ _ _ hk
 have hz : w'.heap.size = w3.heap.size := by rw [hw']; simp [World.setCell]
 have stay : ∀ k, k < w.heap.size → k ≠ ga → (Value.slice oa gs.length cap).ownBlock ≠ some k → w'.heap[k]? = w.heap[k]? := fun k hk h1 h2 => (hs k h1).trans (hkeep k hk (fun e => h2 e.symm))
 have hga3 : w3.heap[ga]? = w.heap[ga]? := hkeep ga lga (fun e => (h.offo ga e.symm).1 rfl)
 have hgg : g ≠ ga ∧ g ≠ gm ∧ B ≤ g ∧ (∀ i, M g i = none) ∧ ∀ (i : Nat) (v : Value), vs[i]? = some v → v.ownBlock ≠ some g := by
  rcases hat with hn | hn
  ·have := h.offo g hn
   exact ⟨this.1, this.2, (h.own.lt g hn).1, h.fo g hn, fun i v hv hk => (h.off i v g hv hk).2.2 hn⟩
  ·have hmlt := h.met.lt
   have hle := h.le
   refine ⟨by omega, by omega, by omega, fun i => cons_lt h.cons hn i, fun i v hv hk => ?_⟩
   obtain ⟨g', _, hr⟩ := h.at hv
   have := hr.lt g hk
   omega
 obtain ⟨q1, q2, q3, q4, q5⟩ := hgg
 have hlen : (gs ++ [(⟨key, []⟩ : GGroup)]).length = gs.length + 1 := by simp
 have happ : ∀ (i : Nat) (v : Value), (vs ++ [Value.slice none 0 0])[i]? = some v → (i = gs.length ∧ v = .slice none 0 0) ∨ (i < gs.length ∧ vs[i]? = some v) := by
  intro i v hv
  rcases Nat.lt_or_ge i vs.length with hi | hi
  ·rw [List.getElem?_append_left hi] at hv
   exact .inr ⟨by rw [← h.len]; exact hi, hv⟩
  ·rw [List.getElem?_append_right hi] at hv
   have h0 : i - vs.length = 0 := by
    rcases Nat.eq_zero_or_pos (i - vs.length) with h0 | h0
    ·exact h0
    ·rw [List.getElem?_eq_none (by simp; omega)] at hv; cases hv
   rw [h0] at hv
   cases hv
   exact .inl ⟨by have := h.len; omega, rfl⟩
 rw [← hw']
 refine ⟨⟨by rw [hz]; exact Nat.le_trans h.le hsz, ?_, h.bga, h.bgm, h.ne, ?_, h.rs, h.rd, h.re, h.rt, by simp [h.len], ?_, ?_, ?_, ?_, ?_, ?_, h.fga, h.fgm, ?_, ?_⟩, ?_⟩
 ·refine cons_kept h.cons fun k hk ⟨i, hi⟩ => stay k hk ?_ ?_
  ·rintro rfl; exact hi (h.fga i)
  ·intro hk2; exact hi (h.fo k hk2 i)
 ·rw [hlen, hw']
  simp [World.setCell, Array.getElem?_modify, hga3, h.row]
 ·rw [hlen, zipG_app _ _ _ _ h.len, flatG_app]
  refine own_congr hown fun k hk => ?_
  cases hk
  exact hs g q1
 ·intro i g' v hg' hv
  rcases happ i v hv with ⟨rfl, rfl⟩ | ⟨hi, hv'⟩
  ·rw [List.getElem?_append_right (Nat.le_refl _), Nat.sub_self] at hg'
   cases hg'
   exact ⟨none, 0, [], rfl, World.ownsRow_nil _ _ _ _, .nil⟩
  ·rw [List.getElem?_append_left hi] at hg'
   have hr := h.sub i g' v hg' hv'
   exact hr.congr (fun _ _ _ h => h) fun k hk => stay k (hr.lt k hk).2 (h.off i v k hv' hk).1 (h.off i v k hv' hk).2.2
 ·intro i j v v' k hij hv hv' hk
  rcases happ i v hv with ⟨rfl, rfl⟩ | ⟨hi, hv1⟩
  ·simp [Value.ownBlock] at hk
  ·rcases happ j v' hv' with ⟨rfl, rfl⟩ | ⟨hj, hv2⟩
   ·simp [Value.ownBlock]
   ·exact h.apart i j v v' k hij hv1 hv2 hk
 ·intro i v k hv hk
  rcases happ i v hv with ⟨rfl, rfl⟩ | ⟨hi, hv1⟩
  ·simp [Value.ownBlock] at hk
  ·obtain ⟨a1, a2, a3⟩ := h.off i v k hv1 hk
   refine ⟨a1, a2, fun e' => ?_⟩
   simp only [Value.ownBlock, Option.some.injEq] at e'
   subst e'
   exact q5 i v hv1 hk
 ·intro k hk
  simp only [Value.ownBlock, Option.some.injEq] at hk
  subst hk
  exact ⟨q1, q2⟩
 ·exact h.met.congr (stay gm h.met.lt h.ne.symm (fun e' => (h.offo gm e').2 rfl))
 ·intro k hk
  simp only [Value.ownBlock, Option.some.injEq] at hk
  subst hk
  exact q4
 ·intro i v k hv hk
  rcases happ i v hv with ⟨rfl, rfl⟩ | ⟨hi, hv1⟩
  ·simp [Value.ownBlock] at hk
  ·exact h.fv i v k hv1 hk
 ·refine ⟨by rw [hw']; exact hos, by rw [hw']; exact htp, by rw [hw']; exact hou, by rw [hz]; exact hsz, fun k hk => stay k (Nat.lt_of_lt_of_le hk h.le) ?_ ?_⟩
  ·have := h.bga; omega
  ·intro e'
   have := (h.own.lt k e').1
   omega
theorem GS.meet {e : GEnv} {B ga gm : Nat} {M : Mem} {w w' : World} {gs : List GGroup} {met met' : List Str} {h0 h1 h2 h3 h4 h5 h6 : Value} {oa : Option Addr} {cap : Nat} {vs : List Value}
  (h : GS e B ga gm M w gs met h0 h1 h2 h3 h4 h5 h6 oa cap vs) (hm : MetAt w' gm met') (hg : w.grownBy w' (some gm)) : GS e B ga gm M w' gs met' h0 h1 h2 h3 h4 h5 h6 oa cap vs ∧ Below B w w' := by
 have lga : ga < w.heap.size := (Array.getElem?_eq_some_iff.1 h.row).1
 have stay : ∀ k, k < w.heap.size → k ≠ gm → w'.heap[k]? = w.heap[k]? := fun k hk hn => hg.block k hk (fun e => hn (by cases e; rfl))
 refine ⟨⟨Nat.le_trans h.le hg.size, cons_kept h.cons (fun k hk ⟨i, hi⟩ => stay k hk (by rintro rfl; exact hi (h.fgm i))), h.bga, h.bgm, h.ne, (stay ga lga h.ne).trans h.row, h.rs, h.rd, h.re, h.rt, h.len, own_congr h.own (fun k hk => stay k (h.own.lt k hk).2 (h.offo k hk).2), 
  fun i g v hg' hv => (h.sub i g v hg' hv).congr (fun _ _ _ h => h) (fun k hk => stay k ((h.sub i g v hg' hv).lt k hk).2 (h.off i v k hv hk).2.1), h.apart, h.off, h.offo, hm, h.fga, h.fgm, h.fo, h.fv⟩, ⟨hg.os, hg.tape, hg.output, hg.size, fun k hk => stay k (Nat.lt_of_lt_of_le hk h.le) (by have := h.bgm; omega)⟩⟩
inductive RvL (M : Mem) (B : BM) : List PV → List Value → Prop
 | nil : RvL M B [] []
 | cons {c : PV} {v : Value} {cs : List PV} {vs : List Value} (h : Rv M B c v) (t : RvL M B cs vs) : RvL M B (c :: cs) (v :: vs)
theorem rvl_of {M : Mem} {B : BM} : ∀ (cs : List PV) (vs : List Value), vs.length = cs.length → (∀ (i : Nat) (c : PV) (v : Value), cs[i]? = some c → vs[i]? = some v → Rv M B c v) → RvL M B cs vs
 | [], [], _, _ => .nil
 | [], _ :: _, h, _ => by simp at h
 | _ :: _, [], h, _ => by simp at h
 | c :: cs, v :: vs, h, hr => .cons (hr 0 c v rfl rfl) (rvl_of cs vs (by simpa using h) fun i c v h1 h2 => hr (i + 1) c v (by simpa using h1) (by simpa using h2))
theorem rv_agg {M : Mem} {B : BM} {cs : List PV} {v : Value} (h : Rv M B (.agg cs) v) : ∃ l : List Value, v = .agg l.toArray ∧ RvL M B cs l := by
 cases h with
 | agg cs vs f hl hf hr =>
  refine ⟨vs.toList, rfl, rvl_of _ _ (by simpa using hl) fun i c v h1 h2 => ?_⟩
  have hi : i < cs.length := (List.getElem?_eq_some_iff.1 h1).1
  have := hf i hi
  rw [Array.getElem?_toList, this] at h2
  cases h2
  exact hr i c h1
theorem rv_tuple {M : Mem} {B : BM} {cs : List PV} {v : Value} (h : Rv M B (.tuple cs) v) : ∃ l : List Value, v = .tuple l.toArray ∧ RvL M B cs l := by
 cases h with
 | tuple cs vs f hl hf hr =>
  refine ⟨vs.toList, rfl, rvl_of _ _ (by simpa using hl) fun i c v h1 h2 => ?_⟩
  have hi : i < cs.length := (List.getElem?_eq_some_iff.1 h1).1
  have := hf i hi
  rw [Array.getElem?_toList, this] at h2
  cases h2
  exact hr i c h1
theorem rv_selL {M : Mem} {x : GSel} {l : List Value} (h : RvL M noB (encSel x).cells l) : ∃ c3 c4 c6, l = xCells x c3 c4 c6 ∧ CV M x c3 c4 c6 := by
 rw [encSel_eq] at h
 cases h with | cons r0 h =>
 cases h with | cons r1 h =>
 cases h with | cons r2 h =>
 cases h with | cons r3 h =>
 cases h with | cons r4 h =>
 cases h with | cons r5 h =>
 cases h with | cons r6 h =>
 cases h
 cases r0
 cases r1
 cases r2
 cases r5
 exact ⟨_, _, _, rfl, r3, r4, r6⟩
def GSh (e : GEnv) (B ga gm : Nat) (M : Mem) (w : World) (st : GSt) : Prop :=
 (∀ g ∈ st.1, g.sels ≠ []) ∧ ∃ h0 h1 h2 h3 h4 h5 h6 oa cap vs, GS e B ga gm M w st.1 st.2 h0 h1 h2 h3 h4 h5 h6 oa cap vs
theorem GSh.quiet {e : GEnv} {B ga gm : Nat} {M M' : Mem} {w w' : World} {st : GSt} (h : GSh e B ga gm M w st) (q : Quiet M w M' w') (hc : Cons M' w') : GSh e B ga gm M' w' st := by
 obtain ⟨hn, h0, h1, h2, h3, h4, h5, h6, oa, cap, vs, h⟩ := h
 exact ⟨hn, _, _, _, _, _, _, _, _, _, _, h.quiet q hc⟩
structure From (B : Nat) (M : Mem) (w : World) (M' : Mem) (w' : World) : Prop where
 mem : ∀ b i v, M b i = some v → M' b i = some v
 old : ∀ b, b < B → ∀ i, M' b i = M b i
 below : Below B w w'
theorem From.refl (B : Nat) (M : Mem) (w : World) : From B M w M w := ⟨fun _ _ _ h => h, fun _ _ _ => rfl, Below.refl _ _⟩
theorem From.trans {B : Nat} {M M1 M2 : Mem} {w w1 w2 : World} (h : From B M w M1 w1) (k : From B M1 w1 M2 w2) : From B M w M2 w2 :=
 ⟨fun b i v hv => k.mem b i v (h.mem b i v hv), fun b hb i => (k.old b hb i).trans (h.old b hb i), h.below.trans k.below⟩
theorem From.of_quiet {B : Nat} {M M' : Mem} {w w' : World} (q : Quiet M w M' w') (hB : B ≤ w.heap.size) : From B M w M' w' :=
 ⟨q.mem, fun b hb i => (q.old b (Nat.lt_of_lt_of_le hb hB)).2 i, q.os, q.tape, q.output, q.size, fun k hk => (q.old k (Nat.lt_of_lt_of_le hk hB)).1⟩
theorem From.of_below {B : Nat} {M : Mem} {w w' : World} (h : Below B w w') : From B M w M w' := ⟨fun _ _ _ h => h, fun _ _ _ => rfl, h⟩
theorem tot_le : ∀ (l : List GGroup), (∀ g ∈ l, g.sels ≠ []) → l.length ≤ tot l
 | [], _ => Nat.le_refl _
 | g :: l, h => by
  have h1 := tot_le l (fun g hg => h g (by simp [hg]))
  have h2 : 0 < g.sels.length := List.length_pos_iff.2 (h g (by simp))
  simp only [tot, List.length_cons]; omega
theorem tot_mem : ∀ (l : List GGroup) (g : GGroup), g ∈ l → g.sels.length ≤ tot l
 | [], _, h => by simp at h
 | a :: l, g, h => by
  simp only [tot]
  rcases List.mem_cons.1 h with rfl | h
  ·omega
  ·have := tot_mem l g h; omega
theorem field_walk {e : GEnv} {B ga gm : Nat} {M : Mem} {w : World} {st : GSt} (h : GSh e B ga gm M w st) (x : GSel) (c3 c4 c6 : Value) (hx : CV M x c3 c4 c6) (hb : tot st.1 ≤ 1073741824) :
  Calls Try.prog 69 #[.pointer (some ⟨ga, 0, none⟩), .agg #[.int .i64 x.kind, .string ⟨x.alias.toArray⟩, .string ⟨x.name.toArray⟩, c3, c4, .string ⟨x.on_.toArray⟩, c6]] w fun er w' =>
   er = .returned (.tuple #[]) ∧ GSh e B ga gm M w' (putG st.1 (gKey x) x, st.2) ∧ From B M w M w' := by
 obtain ⟨hne, h0, h1, h2, h3, h4, h5, h6, oa, cap, vs, h⟩ := h
 obtain ⟨gs, met⟩ := st
 simp only at hne h hb ⊢
 have hn : gs.length ≤ 1073741824 := Nat.le_trans (tot_le gs hne) hb
 have hs3 := isSlice hx.r3
 have hs4 := isSlice hx.r4
 have hs6 := isSlice hx.r6
 have hput : ∀ g ∈ putG gs (gKey x) x, g.sels ≠ [] := by
  intro g hg
  have key : ∀ (l : List GGroup), (∀ g ∈ l, g.sels ≠ []) → ∀ g ∈ putG l (gKey x) x, g.sels ≠ [] := by
   intro l
   induction l with
   | nil => intro _ g hg; simp only [putG, List.mem_singleton] at hg; subst hg; simp
   | cons a l ih =>
    intro hl g hg
    simp only [putG] at hg
    split at hg
    ·rcases List.mem_cons.1 hg with rfl | hg
     ·simp
     ·exact hl g (by simp [hg])
    ·rcases List.mem_cons.1 hg with rfl | hg
     ·exact hl g (by simp)
     ·exact ih (fun g hg => hl g (by simp [hg])) g hg
  exact key gs hne g hg
 rcases putG_idx (gKey x) x gs vs h.len with ⟨hi, hp⟩ | ⟨idx, G, hi, hG, hp⟩
 ·refine (field_new B gs.length cap oa (zipG gs vs) x c3 c4 c6 ga h0 h1 h2 h3 h4 h5 h6 (.map (some gm)) w h.le hn hs3 hs4 hs6 h.own (fun k hk => (h.offo k hk).1) hi h.row).mono ?_
  rintro er w' ⟨rfl, w3, g, cap3, g2, cap2, k1, k2, k3, k4, k5, k6, k7, k8, hF⟩
  obtain ⟨hm, hbm⟩ := h.mid (key := gKey x) k1 k2 k3 k4 k5 k6 k7 k8
  have hG : (gs ++ [(⟨gKey x, []⟩ : GGroup)])[gs.length]? = some ⟨gKey x, []⟩ := by simp
  have hv : (vs ++ [Value.slice none 0 0])[gs.length]? = some (.slice none 0 0) := by rw [← h.len]; simp
  obtain ⟨ho, hbo⟩ := hm.old (Below.refl _ _) hG hv rfl .nil hx hF
  have hset : (gs ++ [(⟨gKey x, []⟩ : GGroup)]).set gs.length ⟨gKey x, [] ++ [x]⟩ = putG gs (gKey x) x := by rw [hp]; simp
  rw [hset] at ho
  exact ⟨rfl, ⟨hput, _, _, _, _, _, _, _, _, _, _, ho⟩, .of_below (hbm.trans hbo)⟩
 ·have hil : idx < vs.length := by rw [h.len]; exact (List.getElem?_eq_some_iff.1 hG).1
  have hv := List.getElem?_eq_getElem hil
  obtain ⟨oa2, cap1, ys, hve, hvo, hys⟩ := h.sub idx G _ hG hv
  rw [hve] at hv hvo
  have hat := zipG_at gs vs idx G _ hG hv
  obtain ⟨g, rfl, hgB, _, _⟩ := own_cell h.own (flatG_at _ idx _ _ hat).1
  have hm : G.sels.length ≤ 1073741824 := Nat.le_trans (tot_mem gs G (List.mem_of_getElem? hG)) hb
  refine (field_old B gs.length cap g idx G.sels.length cap1 oa2 ys (zipG gs vs) x c3 c4 c6 ga h0 h1 h2 h3 h4 h5 h6 (.map (some gm)) w h.le hn hm hs3 hs4 hs6 h.own (h.offo g rfl).1 hi _ hat hvo (fun k hk => ⟨fun e' => (h.off idx _ k hv hk).2.2 (by rw [e']; rfl), (h.off idx _ k hv hk).1⟩) h.row).mono ?_
  rintro er w' ⟨rfl, w2, g2, cap2, hw2, hF⟩
  obtain ⟨ho, hbo⟩ := h.old hw2 hG hv rfl hys hx hF
  rw [← hp] at ho
  exact ⟨rfl, ⟨hput, _, _, _, _, _, _, _, _, _, _, ho⟩, .of_below hbo⟩
theorem Try.u82 : Try.prog.underlying 82 = some (.map 9 4) := by kernel_rfl
set_option maxRecDepth 100000 in
theorem Try.z4 (w : World) : (zeroValue 4).run Try.prog w = .ok (.bool false) w := by rfl
theorem wpList_met {ops : Array Oper} {rest : List Oper} {o : Oper} {a : Act} {Q : Exit → Act → World → Prop} {w : World} (hg : o.guard = none) (m x v : Operand) (t : TypeId) (hop : o.op = Op.mapUpdate t m x v) (ht : Try.prog.underlying t = some (.map 9 4)) (b : Nat) (met : List Str)
  (hm : a.eval m = .map (some b)) (hmet : MetAt w b met) (hl : met.length < maxLen) (s : Str) (hs : s.length ≤ maxLen) (hx : a.eval x = .string ⟨s.toArray⟩) (hv : a.eval v = .bool true) (hd : a.put o.dst undef = a)
  (hK : ∀ w', MetAt w' b (met ++ [s]) → w.grownBy w' (some b) → wpList Try.prog ops Q rest a w') : wpList Try.prog ops Q (o :: rest) a w := by
 refine wpList_plain hg fun K' hK' => ?_
 obtain ⟨w', hrun, r1, r2⟩ := hmet.update ht hl s hs
 unfold Oper.wp
 simp [execOp, hop, hm, hx, hv, hrun, Result.andThen]
 exact hK' _ _ (by rw [hd]; exact hK w' r1 r2)
theorem rv_aggL {M : Mem} {B : BM} {cs : List PV} {vs : Array Value} (h : Rv M B (.agg cs) (.agg vs)) : RvL M B cs vs.toList := by
 obtain ⟨l, e, hl⟩ := rv_agg h
 cases e
 exact hl
theorem GS.heads {e : GEnv} {B ga gm : Nat} {M : Mem} {w : World} {gs : List GGroup} {met : List Str} {h0 h1 h2 h3 h4 h5 h6 : Value} {oa : Option Addr} {cap : Nat} {vs : List Value} (h : GS e B ga gm M w gs met h0 h1 h2 h3 h4 h5 h6 oa cap vs) :
  (∃ a l k, h0 = .slice a l k) ∧ h1 = .string ⟨e.s.query.toArray⟩ ∧ h2 = .string ⟨e.s.mutation.toArray⟩ ∧ (∃ a l k, h3 = .slice a l k) ∧ (∃ a l k, h4 = .slice a l k) ∧ (∃ a l k, h5 = .slice a l k) ∧ h6 = .string ⟨e.typ.toArray⟩ := by
 have h1 := rv_aggL h.rs
 have h2 := rv_aggL h.rd
 cases h1 with | cons q0 h1 =>
 cases h1 with | cons q1 h1 =>
 cases h1 with | cons q2 h1 =>
 cases h2 with | cons r0 h2 =>
 cases h2 with | cons r1 h2 =>
 have ht := h.rt
 refine ⟨isSlice q0, ?_, ?_, isSlice r0, isSlice r1, isSlice h.re, ?_⟩
 ·cases q1; rfl
 ·cases q2; rfl
 ·cases ht; rfl
theorem GS.cells {e : GEnv} {B ga gm : Nat} {M : Mem} {w : World} {gs : List GGroup} {met : List Str} {h0 h1 h2 h3 h4 h5 h6 : Value} {oa : Option Addr} {cap : Nat} {vs : List Value} (h : GS e B ga gm M w gs met h0 h1 h2 h3 h4 h5 h6 oa cap vs) :
  w.cell? ⟨ga, 0, none⟩ = some h0 ∧ w.cell? ⟨ga, 1, none⟩ = some h1 ∧ w.cell? ⟨ga, 2, none⟩ = some h2 ∧ w.cell? ⟨ga, 3, none⟩ = some h3 ∧ w.cell? ⟨ga, 4, none⟩ = some h4 ∧ w.cell? ⟨ga, 5, none⟩ = some h5 ∧ w.cell? ⟨ga, 6, none⟩ = some h6 ∧ w.cell? ⟨ga, 8, none⟩ = some (.map (some gm)) ∧ ga < w.heap.size := by
 have hr := h.row
 refine ⟨?_, ?_, ?_, ?_, ?_, ?_, ?_, ?_, (Array.getElem?_eq_some_iff.1 hr).1⟩ <;> (rw [cell_of_row w ga _ _ _ _ hr]; rfl)
set_option maxRecDepth 100000 in
theorem frag_call (d : GDoc) (n : Str) (hl : Sm d.frags) {M : Mem} {w : World} (h3 h4 : Value) (hc : Cons M w) (hd : Rv M noB (.agg [(.slice (List.map encOp d.ops) [] false), (.slice (List.map encFrag d.frags) [] false)]) (.agg #[h3, h4])) :
  Calls Try.prog 23 #[.agg #[h3, h4], .string ⟨n.toArray⟩] w fun e w' => ∃ a2 l2 p2 a3 l3 p3 M', e = .returned (.tuple #[.agg #[.string ⟨(gFrag d n).1.name.toArray⟩, .string ⟨(gFrag d n).1.on_.toArray⟩, .slice a2 l2 p2, .slice a3 l3 p3], .bool (gFrag d n).2]) ∧ Rv M' noB (.slice (List.map encSel (gFrag d n).1.sels) [] false) (.slice a3 l3 p3) ∧ Cons M' w' ∧ Quiet M w M' w' := by
 have key := quiet_call pokX xok (graph_Frag_spec (gFrag_ok d n hl)) (M := M) (w := w) (vals := #[.agg #[h3, h4], .string ⟨n.toArray⟩]) rfl hc ⟨rfl, fun i p hp => by
  match i, hp with
  | 0, hp => cases hp; exact ⟨hd, noOwn_of_plain rfl⟩
  | 1, hp => cases hp; exact ⟨.str n, noOwn_of_plain rfl⟩
  | i + 2, hp => simp at hp⟩
 refine key.mono ?_
 rintro e w' ⟨v, M', rfl, hv, hc', hq⟩
 obtain ⟨l, rfl, hl⟩ := rv_tuple hv
 cases hl with | cons r0 hl =>
 cases hl with | cons r1 hl =>
 cases hl
 cases r1
 obtain ⟨l, rfl, hl⟩ := rv_agg (cs := [.str (gFrag d n).1.name, .str (gFrag d n).1.on_, .slice (List.map encDir (gFrag d n).1.dirs) [] false, .slice (List.map encSel (gFrag d n).1.sels) [] false]) r0
 cases hl with | cons q0 hl =>
 cases hl with | cons q1 hl =>
 cases hl with | cons q2 hl =>
 cases hl with | cons q3 hl =>
 cases hl
 cases q0
 cases q1
 obtain ⟨a2, l2, p2, rfl⟩ := isSlice q2
 obtain ⟨a3, l3, p3, rfl⟩ := isSlice q3
 exact ⟨_, _, _, _, _, _, M', rfl, q3, hc', hq⟩
set_option maxRecDepth 100000 in
theorem applies_call (s : GSchema) (typ on0 : Str) (hs : SOk s) {M : Mem} {w : World} (h0 h1 h2 : Value) (hc : Cons M w) (hr : Rv M noB (.agg [(.slice (List.map encDef s.defs) [] false), (.str s.query), (.str s.mutation)]) (.agg #[h0, h1, h2])) :
  Calls Try.prog 22 #[.agg #[h0, h1, h2], .string ⟨typ.toArray⟩, .string ⟨on0.toArray⟩] w fun e w' => ∃ M', e = .returned (.bool (gApplies s typ on0)) ∧ Cons M' w' ∧ Quiet M w M' w' := by
 have key := quiet_call pokX xok (collect_Applies_spec (gApplies_ok s typ on0 hs)) (M := M) (w := w) (vals := #[.agg #[h0, h1, h2], .string ⟨typ.toArray⟩, .string ⟨on0.toArray⟩]) rfl hc ⟨rfl, fun i p hp => by
  match i, hp with
  | 0, hp => cases hp; exact ⟨hr, noOwn_of_plain rfl⟩
  | 1, hp => cases hp; exact ⟨.str typ, noOwn_of_plain rfl⟩
  | 2, hp => cases hp; exact ⟨.str on0, noOwn_of_plain rfl⟩
  | i + 3, hp => simp at hp⟩
 refine key.mono ?_
 rintro e w' ⟨v, M', rfl, hv, hc', hq⟩
 cases hv
 exact ⟨M', rfl, hc', hq⟩
set_option maxRecDepth 100000 in
theorem holds_call (env : List GMember) (l : List GDir) (he : Sm env) (hl : Sm l) (hd : ∀ d ∈ l, Sm d.args) {M : Mem} {w : World} (h5 c4 : Value) (hc : Cons M w) (h5r : Rv M noB (.slice (List.map encMember env) [] false) h5) (h4r : Rv M noB (.slice (List.map encDir l) [] false) c4) :
  Calls Try.prog 15 #[h5, c4] w fun e w' => ∃ M', e = .returned (.bool (gHolds env l)) ∧ Cons M' w' ∧ Quiet M w M' w' := by
 have key := quiet_call pokX xok (collect_Holds_spec (gHolds_ok env l he hl hd)) (M := M) (w := w) (vals := #[h5, c4]) rfl hc ⟨rfl, fun i p hp => by
  match i, hp with
  | 0, hp => cases hp; exact ⟨h5r, noOwn_of_plain rfl⟩
  | 1, hp => cases hp; exact ⟨h4r, noOwn_of_plain rfl⟩
  | i + 2, hp => simp at hp⟩
 refine key.mono ?_
 rintro e w' ⟨v, M', rfl, hv, hc', hq⟩
 cases hv
 exact ⟨M', rfl, hc', hq⟩
end Go.Proofs.Ytfbaogfcpldlnaa

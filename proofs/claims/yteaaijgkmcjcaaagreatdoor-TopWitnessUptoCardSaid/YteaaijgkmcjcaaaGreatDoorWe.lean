/-
  slices.Chunk's iterator: its rounds.
-/
import Derived.Test.YteaaijgkmcjcaaaGreatDoorWc
import Derived.Test.YteaaijgkmcjcaaaGreatDoorWd
import Derived.RangeFuncNested
import Derived.RangeFuncBound
import Derived.RangeFuncCalls
import Derived.Shelf.Abstract
import Derived.Shelf.RegionOpen
import Derived.WalkKit
import Derived.OwnWalkIn
import Derived.TacticsInMore
import Derived.LoopNIn
import Derived.LoopIn
import Derived.Test.YteaaijgkmcjcaaaGreatDoorProg
set_option linter.unusedVariables false
namespace Go.Proofs
open Go.RowKit Go.Shelf
open Go.Tw (ChJ ChunkOk)
attribute [local go_sem] Oper.semAt_some
set_option maxHeartbeats 4000000 in
set_option maxRecDepth 100000 in
theorem chunk_walk {n l Bs os Bn on : Nat} {J : Nat → World → Prop} (hJ : ChJ Tryz.prog (n - 1) l Bs os Bn on J) (W : World) (h0 : J 0 W) :
    CallsIn Fence.wide n Tryz.prog 472 #[.func (.yield l) #[] #[], .pointer (some ⟨Bs, os, none⟩), .pointer (some ⟨Bn, on, none⟩)] W fun e W' => (∃ v, e = .returned v) ∧ ∃ i m, J i W' ∧ m ≤ i ∧ ∃ b o cap, W'.cell? ⟨Bs, os, none⟩ = some (.slice (some ⟨b, o, none⟩) m cap) := by
  refine callsIn_of_wp Tryz.func472 rfl trivial ?_ rfl
  simp only [Tryz.ntmps472, List.size_toArray, List.length_cons, List.length_nil, Nat.reduceAdd, Nat.reduceSub, Array.replicate_succ, Array.replicate_zero, List.push_toArray, List.append_toArray, List.nil_append, List.cons_append]
  gi_wp2
  gi_loopw [4] (fun p wr => ∃ i : Nat, p = .int .i64 i ∧ J i wr) (fun p wr => 200000 - (intOf p).toNat)
  case atStart => exact ⟨0, rfl, h0⟩
  case round =>
    obtain ⟨i, rfl, hi⟩ := hrel
    obtain ⟨b, o, m, cap, c, r1, r2, r3, r4, r5, r6, r7⟩ := hJ.rd i _ hi
    have mixed : Tryz.prog.follows .mixedOrders = true := by kernel_rfl
    by_cases him : i < m
    · have hlt : (i : Int) < (m : Int) := by omega
      obtain ⟨b', o', m', cap', c', q1, q2, q3, q4, q5, q6, q7⟩ := hJ.rd i _ (hJ.drew i _ hi)
      replace q1 : wr.cell? ⟨Bs, os, none⟩ = some (.slice (some ⟨b', o', none⟩) m' cap') := q1
      replace q4 : wr.cell? ⟨Bn, on, none⟩ = some (.int .i64 c') := q4
      rw [r1] at q1
      rw [r4] at q4
      cases q1
      cases q4
      clear q2 q3 q5 q6 r7
      obtain ⟨fn, tmps, assign, body, hy, hR⟩ := q7 him
      have hw : IntKind.i64.wrap (i : Int) = i := by rw [IntKind.wrap_i64]; omega
      gi_wp2
      refine wpIn_wide.2 ?_
      refine Ev.wp_region_B (fun w' => w'.cell? ⟨Bs, os, none⟩ = some (.slice (some ⟨b, o, none⟩) m cap) ∧ w'.cell? ⟨Bn, on, none⟩ = some (.int .i64 c)) (fun _ => false) mixed ?_
      have hS0 : wr.drew.cell? ⟨Bs, os, none⟩ = some (.slice (some ⟨b, o, none⟩) m cap) ∧ wr.drew.cell? ⟨Bn, on, none⟩ = some (.int .i64 c) := ⟨r1, r4⟩
      refine Ev.tk 0 hS0 ?_
      refine Ev.tk 1 hS0 ?_
      refine Ev.tk 2 hS0 ?_
      refine Ev.tk 3 hS0 ?_ (hy := Or.inl ⟨by rfl, by intro w' hS'; obtain ⟨q1, q2⟩ := hS'; go_simp; rw [if_pos (show i ≤ m by omega), if_neg (show ¬ cap = i by omega)]⟩)
      refine Ev.tk 4 hS0 ?_
      refine Ev.tk 5 hS0 ?_
      refine Ev.tk 6 hS0 ?_
      refine Ev.wpB_done (by kernel_rfl) ?_ _
      show Exit.then _ _ _ _ _
      apply_assumption
      change Code.wpIn Fence.wide n Tryz.prog _ _ { tmps := #[_, _, _, _, _, _, _, _, _, _, _, _, _, _, _, _, _, _, _, _, _, _, _, _, _, _, _, _, _, _, _], defers := [] } wr.drew
      have hif : (if ((m - i : Nat) : Int) < c then ((m - i : Nat) : Int) else c) = ((min c.toNat (m - i) : Nat) : Int) := by split <;> omega
      rw [hif]
      generalize hE : min c.toNat (m - i) = E at hR hy
      have hE1 : 1 ≤ E ∧ E ≤ m - i := by omega
      have hE2 : IntKind.i64.wrap ((i : Int) + (E : Int)) = ((i + E : Nat) : Int) := by rw [IntKind.wrap_i64]; omega
      have s1 : wr.drew.cell? ⟨Bs, os, none⟩ = some (.slice (some ⟨b, o, none⟩) m cap) := r1
      have s2 : wr.drew.cell? ⟨Bn, on, none⟩ = some (.int .i64 c) := r4
      have hle1 : i ≤ i + E := by omega
      have hle2 : i + E ≤ cap := by omega
      gi_wp2
      refine ⟨fun h => by simp [Fence.wide] at h, hR.mono ?_⟩
      rintro e W' ⟨rfl, c2, k1, k2, k3, k4⟩
      have hE3 : IntKind.i64.wrap ((i : Int) + c2) = ((i + c2.toNat : Nat) : Int) := by rw [IntKind.wrap_i64]; omega
      gi_wp2
      refine ⟨⟨i + c2.toNat, by congr 1; omega, k4⟩, ?_⟩
      simp only [intOf]
      omega
    · have hlt : ¬ (i : Int) < (m : Int) := by omega
      gi_wp2
      go_end0
      exact ⟨⟨_, rfl⟩, i, hi, m, by omega, b, o, cap, r1⟩
theorem chunkOk : ChunkOk Tryz.prog 472 := ⟨enters_of Tryz.func472 (by kernel_rfl) rfl, fun n l Bs os Bn on J hJ W h0 => chunk_walk hJ W h0⟩
end Go.Proofs

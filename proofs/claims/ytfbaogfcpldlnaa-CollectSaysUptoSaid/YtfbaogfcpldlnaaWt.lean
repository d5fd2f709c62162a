import Derived.Test.YtfbaogfcpldlnaaWs
import Derived.Test.YtfbaogfcpldlnaaWb
set_option linter.unusedVariables false
set_option linter.unusedSimpArgs false
set_option linter.unusedSimpArgs false
open Go Go.Ev Go.RowKit
namespace Go.Proofs.Ytfbaogfcpldlnaa
set_option maxHeartbeats 16000000 in
set_option maxRecDepth 100000 in
theorem rspread12 {e : GEnv} {st1 s1 : GSt} {x : GSel} {M1 : Mem} {wr : World} {a0 b3 b4 b5 oa1 : Option Addr} {B ga C n blk off N cap k l0 p0 m3 n3 m4 n4 m5 n5 cap1 : Nat} {vs1 : List Value} {a3 a4 a6 : Option Addr} {l3 p3 l4 p4 l6 p6 : Nat} {F : GFrag} {d2 d3 : Option Addr} {fb e2 f2 e3 f3 : Nat} {om : Option Addr} {capm : Nat} {M5 : Mem} {ok : Bool} (fn : Func) (Q : Ending → World → Prop) (K2 Kl : Act → World → Prop)
  (ih : Hid (IhP e B ga C n))
  (hxc : Hid (XcP blk off k x M1 a3 l3 p3 a4 l4 p4 a6 l6 p6))
  (hsok : SOk e.s) (hFC : bkSels F.sels ≤ C) (hFP : st1.2.contains x.name = false → ok = true → pot e (st1.1, st1.2 ++ [x.name]) + bkSels F.sels ≤ C) (hlt : k < N) (hne1 : ∀ g ∈ st1.1, g.sels ≠ []) (hmetl : st1.2.length ≤ 536870912)
  (hs : (bif st1.2.contains x.name || !ok then some st1 else bif gApplies e.s e.typ F.on_ then thrR e n F.sels (st1.1, st1.2 ++ [x.name]) else some (st1.1, st1.2 ++ [x.name])) = some s1)
  (fin : Hid (FinP e B ga blk off N cap k M1 wr s1 K2))
  (w5 : World) {A2 A3 A4 A5 A6 A7 A8 A9 D0 D1 D2 D3 D4 D5 D6 D7 D8 D9 E0 E1 E2 E3 E4 E5 E6 E7 E8 E9 G0 G1 G2 G3 G4 G5 G6 G7 G8 G9 H0 H1 H2 H3 H4 H5 H6 H7 H8 H9 I0 I1 I2 I3 I4 I5 I6 I7 I8 I9 J0 J1 J2 J3 J4 J5 J6 J7 J8 J9 O0 O1 O2 O3 O4 O5 O6 O7 O8 O9 P0 P1 P2 P3 P4 P5 P6 P7 P8 P9 S0 S1 S2 S3 S4 S5 S6 S7 S8 S9 T0 T1 T2 T3 T4 T5 T6 T7 T8 T9 U0 U1 U2 : Value} (hG5 : GR e B ga (.slice om st1.2.length capm) M5 w5 st1.1 st1.2 (.slice a0 l0 p0) (.string ⟨e.s.query.toArray⟩) (.string ⟨e.s.mutation.toArray⟩) (.slice b3 m3 n3) (.slice b4 m4 n4) (.slice b5 m5 n5) (.string ⟨e.typ.toArray⟩) oa1 cap1 vs1) (hf5 : From B M1 wr M5 w5) (hfb : w5.heap[fb]? = some (.cells #[.string ⟨F.name.toArray⟩, .string ⟨F.on_.toArray⟩, .slice d2 e2 f2, .slice d3 e3 f3] 60 (0, 0))) (hoff : fb ≠ ga ∧ (Value.slice om st1.2.length capm).ownBlock ≠ some fb) (hv5 : Rv M5 noB (.slice (List.map encSel F.sels) [] false) (.slice d3 e3 f3)) :
  Code.wp Try.prog spr41b (Exit.inBlock 2 (Exit.inBlock 1 (Exit.then K2 (Exit.then Kl (Exit.inBlock 0 (bodyPost Try.prog fn Q)))))) ⟨#[.pointer (some ⟨ga, 0, none⟩), .slice (some ⟨blk, off, none⟩) N cap, undef, undef, .int .i64 k, .pointer (some ⟨fb, 0, none⟩), .bool ok, A2, A3, A4, A5, A6, A7, A8, A9, D0, D1, D2, D3, D4, D5, D6, D7, D8, D9, E0, E1, E2, E3, E4, E5, E6, E7, E8, E9, G0, G1, G2, G3, G4, G5, G6, G7, G8, G9, H0, H1, H2, H3, H4, H5, H6, H7, H8, H9, I0, I1, I2, I3, I4, I5, I6, I7, I8, I9, J0, J1, J2, J3, J4, J5, J6, J7, J8, J9, O0, O1, O2, O3, O4, O5, O6, O7, O8, O9, P0, P1, P2, P3, P4, P5, P6, P7, P8, P9, S0, S1, S2, S3, S4, S5, S6, S7, S8, S9, T0, T1, T2, T3, T4, T5, T6, T7, T8, T9, U0, U1, U2], []⟩ w5 := by
 replace hs := (id hs : Hid _)
 have hd5 : Below w5.heap.size w5 w5.drew := (Below.refl w5.heap.size w5).drew
 have hG5d := hG5.quiet (quiet_below hd5) (cons_below hG5.cons hd5)
 have hfb5 : fb < w5.heap.size := (Array.getElem?_eq_some_iff.1 hfb).1
 have hhas := rhas_call hG5d.met hG5d.cons (by show st1.2.length < _; omega) x.name
 obtain ⟨q0, q1, q2', q3, q4, q5, q6⟩ := hxc.out M5 w5 hG5.cons hf5.mem
 obtain ⟨g0, g1, g2, g3, g4, g5, g6, g7, g8, glt⟩ := hG5.cells
 clear g0 g1 g2 g3 g4 g5 g6 g8 q0 q1 q3 q4 q5 q6
 have h13 : Hid (∀ (w6 : World) {A1 A2 A3 A4 A5 A6 A7 A8 A9 D0 D1 D2 D3 D4 D5 D6 D7 D8 D9 E0 E1 E2 E3 E4 E5 E6 E7 E8 E9 G0 G1 G2 G3 G4 G5 G6 G7 G8 G9 H0 H1 H2 H3 H4 H5 H6 H7 H8 H9 I0 I1 I2 I3 I4 I5 I6 I7 I8 I9 J0 J1 J2 J3 J4 J5 J6 J7 J8 J9 O0 O1 O2 O3 O4 O5 O6 O7 O8 O9 P0 P1 P2 P3 P4 P5 P6 P7 P8 P9 S0 S1 S2 S3 S4 S5 S6 S7 S8 S9 T0 T1 T2 T3 T4 T5 T6 T7 T8 T9 U0 U1 U2 : Value}, Below w5.drew.heap.size w5.drew w6 → (st1.2.contains x.name || !ok) = false → Code.wp Try.prog spr41c (Exit.inBlock 2 (Exit.inBlock 1 (Exit.then K2 (Exit.then Kl (Exit.inBlock 0 (bodyPost Try.prog fn Q)))))) ⟨#[.pointer (some ⟨ga, 0, none⟩), .slice (some ⟨blk, off, none⟩) N cap, undef, undef, .int .i64 k, .pointer (some ⟨fb, 0, none⟩), A1, A2, A3, A4, A5, A6, A7, A8, A9, D0, D1, D2, D3, D4, D5, D6, D7, D8, D9, E0, E1, E2, E3, E4, E5, E6, E7, E8, E9, G0, G1, G2, G3, G4, G5, G6, G7, G8, G9, H0, H1, H2, H3, H4, H5, H6, H7, H8, H9, I0, I1, I2, I3, I4, I5, I6, I7, I8, I9, J0, J1, J2, J3, J4, J5, J6, J7, J8, J9, O0, O1, O2, O3, O4, O5, O6, O7, O8, O9, P0, P1, P2, P3, P4, P5, P6, P7, P8, P9, S0, S1, S2, S3, S4, S5, S6, S7, S8, S9, T0, T1, T2, T3, T4, T5, T6, T7, T8, T9, U0, U1, U2], []⟩ w6) := by
  intro w6; (iterate 112 intro _); intro hb6 hbq
  have hG6 := hG5d.quiet (quiet_below hb6) (cons_below hG5d.cons hb6)
  have hf6 : From B M1 wr M5 w6 := hf5.trans ((From.of_below (hd5.mono hG5.le)).trans (From.of_below (hb6.mono hG5d.le)))
  have hfb6 : w6.heap[fb]? = some (.cells #[.string ⟨F.name.toArray⟩, .string ⟨F.on_.toArray⟩, .slice d2 e2 f2, .slice d3 e3 f3] 60 (0, 0)) := (hb6.block fb hfb5).trans ((hd5.block fb hfb5).trans hfb)
  have hs4 := hs.out
  rw [hbq] at hs4
  simp only [cond_false] at hs4
  rw [Bool.or_eq_false_iff] at hbq
  exact rspread13 fn Q K2 Kl ih hxc hsok hFC (hFP hbq.1 (by simpa using hbq.2)) hlt hne1 hmetl hs4 fin w6 hG6 hf6 hfb6 hoff hv5
 unfold spr41c spr41b spr41 kind41 loop41 at h13
 unfold spr41b spr41 kind41 loop41
 simp only [Try.f41, loopC, elseC, thenC, blkC, fstC, sndC] at h13 ⊢
 go_wp2
 rename_i K13 hK13 K12 hK12
 replace hK13 := (id hK13 : Hid _)
 replace hK12 := (id hK12 : Hid _)
 have after4 : Hid (∀ (w6 : World) {A2 A3 A4 A5 A6 A7 A8 A9 D0 D1 D2 D3 D4 D5 D6 D7 D8 D9 E0 E1 E2 E3 E4 E5 E6 E7 E8 E9 G0 G1 G2 G3 G4 G5 G6 G7 G8 G9 H0 H1 H2 H3 H4 H5 H6 H7 H8 H9 I0 I1 I2 I3 I4 I5 I6 I7 I8 I9 J0 J1 J2 J3 J4 J5 J6 J7 J8 J9 O0 O1 O2 O3 O4 O5 O6 O7 O8 O9 P0 P1 P2 P4 P5 P6 P7 P8 P9 S0 S1 S2 S3 S4 S5 S6 S7 S8 S9 T0 T1 T2 T3 T4 T5 T6 T7 T8 T9 U0 U1 U2 : Value}, Below w5.drew.heap.size w5.drew w6 → K12 ⟨#[.pointer (some ⟨ga, 0, none⟩), .slice (some ⟨blk, off, none⟩) N cap, undef, undef, .int .i64 k, .pointer (some ⟨fb, 0, none⟩), .bool ok, A2, A3, A4, A5, A6, A7, A8, A9, D0, D1, D2, D3, D4, D5, D6, D7, D8, D9, E0, E1, E2, E3, E4, E5, E6, E7, E8, E9, G0, G1, G2, G3, G4, G5, G6, G7, G8, G9, H0, H1, H2, H3, H4, H5, H6, H7, H8, H9, I0, I1, I2, I3, I4, I5, I6, I7, I8, I9, J0, J1, J2, J3, J4, J5, J6, J7, J8, J9, O0, O1, O2, O3, O4, O5, O6, O7, O8, O9, P0, P1, P2, .bool (st1.2.contains x.name || !ok), P4, P5, P6, P7, P8, P9, S0, S1, S2, S3, S4, S5, S6, S7, S8, S9, T0, T1, T2, T3, T4, T5, T6, T7, T8, T9, U0, U1, U2], []⟩ w6) := by
  intro w6; (iterate 110 intro _); intro hb6
  refine hK12.out _ _ ?_
  have hG6 := hG5d.quiet (quiet_below hb6) (cons_below hG5d.cons hb6)
  have hf6 : From B M1 wr M5 w6 := hf5.trans ((From.of_below (hd5.mono hG5.le)).trans (From.of_below (hb6.mono hG5d.le)))
  generalize hbq : (st1.2.contains x.name || !ok) = bq
  cases bq
  ·go_wp2
   exact hK13.out _ _ (h13.out w6 hb6 hbq)
  ·have hs4 := hs.out
   rw [hbq] at hs4
   simp only [cond_true] at hs4
   cases hs4
   have hg6 : GRh e B ga M5 w6 st1 := ⟨hne1, _, _, _, _, _, _, _, _, _, _, _, hG6⟩
   clear hG6 hG5d hG5
   go_wp2
   apply fin.out M5 w6
   exact hg6
   exact hf6
 clear h13
 have hblt : blk < w5.heap.size := World.block_lt_of_cell? w5 _ q2'
 cases hcc : st1.2.contains x.name
 ·rw [hcc] at hhas
  cases hokk : ok
  ·subst hokk
   first | (go_region_with (go_at_call 48; refine hhas.mono ?_; rintro e' w6 ⟨rfl, hb6⟩)) | fail "region 12"
   all_goals
    have := after4.out
    rw [hcc] at this
    exact this _ hb6
  ·subst hokk
   first | (go_region_with (go_at_call 48; refine hhas.mono ?_; rintro e' w6 ⟨rfl, hb6⟩)) | fail "region 12"
   all_goals
    have := after4.out
    rw [hcc] at this
    exact this _ hb6
 ·rw [hcc] at hhas
  first | (go_region_with (go_at_call 48; refine hhas.mono ?_; rintro e' w6 ⟨rfl, hb6⟩)) | fail "region 12"
  all_goals
   have := after4.out
   rw [hcc] at this
   exact this _ hb6
open Go Go.Ev Go.RowKit
set_option maxHeartbeats 16000000 in
set_option maxRecDepth 100000 in
theorem rspread11 {e : GEnv} {st1 s1 : GSt} {x : GSel} {M1 : Mem} {wr : World} {a0 b3 b4 b5 oa1 : Option Addr} {B ga C n blk off N cap k l0 p0 m3 n3 m4 n4 m5 n5 cap1 : Nat} {vs1 : List Value} {a3 a4 a6 : Option Addr} {l3 p3 l4 p4 l6 p6 : Nat} {om : Option Addr} {capm : Nat} {M2 : Mem} (fn : Func) (Q : Ending → World → Prop) (K2 Kl : Act → World → Prop)
    (ih : Hid (IhP e B ga C n))
    (hxc : Hid (XcP blk off k x M1 a3 l3 p3 a4 l4 p4 a6 l6 p6))
    (hfr : Sm e.d.frags) (hsok : SOk e.s) (hdoc : Hid (∀ n, bkSels (gFrag e.d n).1.sels ≤ C)) (hpx0 : pot e st1 ≤ C) (hlt : k < N) (hne1 : ∀ g ∈ st1.1, g.sels ≠ []) (hmetl : st1.2.length ≤ 536870912)
    (hs : (bif st1.2.contains x.name || !(gFrag e.d x.name).2 then some st1 else bif gApplies e.s e.typ (gFrag e.d x.name).1.on_ then thrR e n (gFrag e.d x.name).1.sels (st1.1, st1.2 ++ [x.name]) else some (st1.1, st1.2 ++ [x.name])) = some s1)
    (fin : Hid (FinP e B ga blk off N cap k M1 wr s1 K2))
    (w2 : World) {A0 A1 A2 A3 A4 A5 A6 A7 A8 A9 D0 D1 D2 D3 D4 D5 D6 D7 D8 D9 E0 E1 E2 E3 E4 E5 E6 E7 E8 E9 G0 G1 G2 G3 G4 G5 G6 G7 G8 G9 H0 H1 H2 H3 H4 H5 H6 H7 H8 H9 I0 I1 I2 I3 I4 I5 I6 I7 I8 I9 J0 J1 J2 J3 J4 J5 J6 J7 J8 J9 O0 O1 O2 O3 O4 O5 O6 O7 O8 O9 P0 P1 P2 P3 P4 P5 P6 P7 P8 P9 S0 S1 S2 S3 S4 S5 S6 S7 S8 S9 T0 T1 T2 T3 T4 T5 T6 T7 T8 T9 U0 U1 U2 : Value} (hG2 : GR e B ga (.slice om st1.2.length capm) M2 w2 st1.1 st1.2 (.slice a0 l0 p0) (.string ⟨e.s.query.toArray⟩) (.string ⟨e.s.mutation.toArray⟩) (.slice b3 m3 n3) (.slice b4 m4 n4) (.slice b5 m5 n5) (.string ⟨e.typ.toArray⟩) oa1 cap1 vs1) (hf2 : From B M1 wr M2 w2) (K3 : Act → World → Prop) (hK3 : ∀ a w, Code.wp Try.prog spr41b (Exit.inBlock 2 (Exit.inBlock 1 (Exit.then K2 (Exit.then Kl (Exit.inBlock 0 (bodyPost Try.prog fn Q)))))) a w → K3 a w) :
    Code.wp Try.prog (fstC spr41) (Exit.then K3 (Exit.inBlock 2 (Exit.inBlock 1 (Exit.then K2 (Exit.then Kl (Exit.inBlock 0 (bodyPost Try.prog fn Q))))))) ⟨#[.pointer (some ⟨ga, 0, none⟩), .slice (some ⟨blk, off, none⟩) N cap, undef, undef, .int .i64 k, A0, A1, A2, A3, A4, A5, A6, A7, A8, A9, D0, D1, D2, D3, D4, D5, D6, D7, D8, D9, E0, E1, E2, E3, E4, E5, E6, E7, E8, E9, G0, G1, G2, G3, G4, G5, G6, G7, G8, G9, H0, H1, H2, H3, H4, H5, H6, H7, H8, H9, I0, I1, I2, I3, I4, I5, I6, I7, I8, I9, J0, J1, J2, J3, J4, J5, J6, J7, J8, J9, O0, O1, O2, O3, O4, O5, O6, O7, O8, O9, P0, P1, P2, P3, P4, P5, P6, P7, P8, P9, S0, S1, S2, S3, S4, S5, S6, S7, S8, S9, T0, T1, T2, T3, T4, T5, T6, T7, T8, T9, U0, U1, U2], []⟩ w2 := by
  have hc2 := hG2.cons
  obtain ⟨q0, q1, q2, q3, q4, q5, q6⟩ := hxc.out M2 w2 hc2 hf2.mem
  have hd2 : Below w2.heap.size w2 w2.drew := (Below.refl w2.heap.size w2).drew
  have hG2d := hG2.quiet (quiet_below hd2) (cons_below hG2.cons hd2)
  have hbZ : Below w2.heap.size w2 (w2.alloc (.cells #[.string ⟨#[]⟩, .string ⟨#[]⟩, .slice none 0 0, .slice none 0 0] 60)).drew := ((Below.refl _ _).alloc (Nat.le_refl _) _).drew
  have hG2z := hG2.quiet (quiet_below hbZ) (cons_below hG2.cons hbZ)
  have hltZ : w2.heap.size < (w2.alloc (.cells #[.string ⟨#[]⟩, .string ⟨#[]⟩, .slice none 0 0, .slice none 0 0] 60)).drew.heap.size := (Array.getElem?_eq_some_iff.1 (heap_alloc_new w2 (.cells #[.string ⟨#[]⟩, .string ⟨#[]⟩, .slice none 0 0, .slice none 0 0] 60))).1
  have hZc : ∀ (w3 : World) (M3 : Mem), Quiet M2 (w2.alloc (.cells #[.string ⟨#[]⟩, .string ⟨#[]⟩, .slice none 0 0, .slice none 0 0] 60)).drew M3 w3 → w3.cell? ⟨w2.heap.size, 0, none⟩ = some (.string ⟨#[]⟩) ∧ w3.cell? ⟨w2.heap.size, 1, none⟩ = some (.string ⟨#[]⟩) ∧ w3.cell? ⟨w2.heap.size, 2, none⟩ = some (.slice none 0 0) ∧ w3.cell? ⟨w2.heap.size, 3, none⟩ = some (.slice none 0 0) ∧ w3.frozen? ⟨w2.heap.size, 0, none⟩ = false ∧ w3.frozen? ⟨w2.heap.size, 1, none⟩ = false ∧ w3.frozen? ⟨w2.heap.size, 2, none⟩ = false ∧ w3.frozen? ⟨w2.heap.size, 3, none⟩ = false := by
    intro w3 M3 hq3
    have hz : w3.heap[w2.heap.size]? = some (.cells #[.string ⟨#[]⟩, .string ⟨#[]⟩, .slice none 0 0, .slice none 0 0] 60 (0, 0)) := (hq3.old w2.heap.size hltZ).1.trans (heap_alloc_new w2 _)
    refine ⟨?_, ?_, ?_, ?_, ?_, ?_, ?_, ?_⟩
    · rw [cell_of_row w3 _ _ _ _ _ hz]; rfl
    · rw [cell_of_row w3 _ _ _ _ _ hz]; rfl
    · rw [cell_of_row w3 _ _ _ _ _ hz]; rfl
    · rw [cell_of_row w3 _ _ _ _ _ hz]; rfl
    all_goals simp [World.frozen?, hz]
  replace hZc := (id hZc : Hid _)
  have hcA := rfrag_call e.d x.name hfr _ _ hG2d.cons hG2d.rd
  have hcB := rfrag_call e.d x.name hfr _ _ hG2z.cons hG2z.rd
  obtain ⟨F, ok, hFr⟩ : ∃ F ok, gFrag e.d x.name = (F, ok) := ⟨_, _, rfl⟩
  have hFC : bkSels F.sels ≤ C := by have := hdoc.out x.name; rw [hFr] at this; exact this
  have hFP : st1.2.contains x.name = false → ok = true → pot e (st1.1, st1.2 ++ [x.name]) + bkSels F.sels ≤ C := by
    intro h3 h4
    have := pot_met (e := e) (gs := st1.1) (n := x.name) h3 (by rw [hFr]; exact h4)
    rw [hFr] at this
    have e' : pot e (st1.1, st1.2) = pot e st1 := rfl
    simp only at this
    omega
  rw [hFr] at hcA hcB hs
  simp only at hcA hcB hs
  clear hFr
  replace hs := (id hs : Hid _)
  have hlt2 := (Array.getElem?_eq_some_iff.1 hG2.row).1
  have after3 : Hid (∀ (w5 : World) (M5 : Mem) (fb : Nat) (d2 : Option Addr) (e2 f2 : Nat) (d3 : Option Addr) (e3 f3 : Nat) (A2 A3 A4 A5 A6 A7 A8 A9 D0 D1 D2 D3 D4 D5 D6 D7 D8 D9 E0 E1 E2 E3 E4 E5 E6 E7 E8 E9 G0 G1 G2 G3 G4 G5 G6 G7 G8 G9 H0 H1 H2 H3 H4 H5 H6 H7 H8 H9 I0 I1 I2 I3 I4 I5 I6 I7 I8 I9 J0 J1 J2 J3 J4 J5 J6 J7 J8 J9 O0 O1 O2 O3 O4 O5 O6 O7 O8 O9 P0 P1 P2 P3 P4 P5 P6 P7 P8 P9 S0 S1 S2 S3 S4 S5 S6 S7 S8 S9 T0 T1 T2 T3 T4 T5 T6 T7 T8 T9 U0 U1 U2 : Value), GR e B ga (.slice om st1.2.length capm) M5 w5 st1.1 st1.2 (.slice a0 l0 p0) (.string ⟨e.s.query.toArray⟩) (.string ⟨e.s.mutation.toArray⟩) (.slice b3 m3 n3) (.slice b4 m4 n4) (.slice b5 m5 n5) (.string ⟨e.typ.toArray⟩) oa1 cap1 vs1 → From B M1 wr M5 w5 → w2.heap.size ≤ fb → w5.heap[fb]? = some (.cells #[.string ⟨F.name.toArray⟩, .string ⟨F.on_.toArray⟩, .slice d2 e2 f2, .slice d3 e3 f3] 60 (0, 0)) → Rv M5 noB (.slice (List.map encSel F.sels) [] false) (.slice d3 e3 f3) → K3 ⟨#[.pointer (some ⟨ga, 0, none⟩), .slice (some ⟨blk, off, none⟩) N cap, undef, undef, .int .i64 k, .pointer (some ⟨fb, 0, none⟩), .bool ok, A2, A3, A4, A5, A6, A7, A8, A9, D0, D1, D2, D3, D4, D5, D6, D7, D8, D9, E0, E1, E2, E3, E4, E5, E6, E7, E8, E9, G0, G1, G2, G3, G4, G5, G6, G7, G8, G9, H0, H1, H2, H3, H4, H5, H6, H7, H8, H9, I0, I1, I2, I3, I4, I5, I6, I7, I8, I9, J0, J1, J2, J3, J4, J5, J6, J7, J8, J9, O0, O1, O2, O3, O4, O5, O6, O7, O8, O9, P0, P1, P2, P3, P4, P5, P6, P7, P8, P9, S0, S1, S2, S3, S4, S5, S6, S7, S8, S9, T0, T1, T2, T3, T4, T5, T6, T7, T8, T9, U0, U1, U2], []⟩ w5) := by
    intro w5 M5 fb d2 e2 f2 d3 e3 f3; (iterate 111 intro _); intro hG5 hf5 hfbl hfb hv5
    exact hK3 _ _ (rspread12 fn Q K2 Kl ih hxc hsok hFC hFP hlt hne1 hmetl hs.out fin w5 hG5 hf5 hfb ⟨by omega, fun hk => by have := (hG2.met.lt hk).2; omega⟩ hv5)
  unfold spr41 kind41 loop41
  simp only [Try.f41, loopC, elseC, thenC, blkC, fstC, sndC]
  clear hK3
  obtain ⟨g0, g1, g2, g3, g4, g5, g6, g7, g8, glt⟩ := hG2.cells
  have hblt : blk < w2.heap.size := World.block_lt_of_cell? w2 _ q2
  clear g0 g1 g2 g5 g6 g7 g8 q0 q1 q3 q4 q5 q6
  go_region_with (go_at_call 72; first | (refine hcA.mono ?_; rintro e' w3 ⟨d2, e2, f2, d3, e3, f3, M3, rfl, hv3, hc3, hq3⟩) | (refine hcB.mono ?_; rintro e' w3 ⟨d2, e2, f2, d3, e3, f3, M3, rfl, hv3, hc3, hq3⟩; obtain ⟨z0, z1, z2, z3, y0, y1, y2, y3⟩ := hZc.out w3 M3 hq3))
  all_goals first
    | (have hG3 := hG2d.quiet hq3 hc3
       have hb5 : Below w3.heap.size w3 (w3.alloc (.cells #[.string ⟨F.name.toArray⟩, .string ⟨F.on_.toArray⟩, .slice d2 e2 f2, .slice d3 e3 f3] 60)) := (Below.refl _ _).alloc (Nat.le_refl _) _
       exact after3.out _ M3 w3.heap.size d2 e2 f2 d3 e3 f3 _ _ _ _ _ _ _ _ _ _ _ _ _ _ _ _ _ _ _ _ _ _ _ _ _ _ _ _ _ _ _ _ _ _ _ _ _ _ _ _ _ _ _ _ _ _ _ _ _ _ _ _ _ _ _ _ _ _ _ _ _ _ _ _ _ _ _ _ _ _ _ _ _ _ _ _ _ _ _ _ _ _ _ _ _ _ _ _ _ _ _ _ _ _ _ _ _ _ _ _ _ _ _ _ _ _ _ _ _ _ _ (hG3.quiet (quiet_below hb5) (cons_below hc3 hb5)) (hf2.trans ((From.of_below (hd2.mono hG2.le)).trans ((From.of_quiet hq3 hG2d.le).trans (From.of_below (hb5.mono hG3.le))))) hq3.size (heap_alloc_new w3 _) hv3)
    | (have hG3 := hG2z.quiet hq3 hc3
       have hz3 : w3.heap[w2.heap.size]? = some (.cells #[.string ⟨#[]⟩, .string ⟨#[]⟩, .slice none 0 0, .slice none 0 0] 60 (0, 0)) := (hq3.old w2.heap.size hltZ).1.trans (heap_alloc_new w2 _)
       have hM3 : ∀ i, M3 w2.heap.size i = none := fun i => ((hq3.old w2.heap.size hltZ).2 i).trans (cons_lt hc2 (Nat.le_refl _) i)
       exact after3.out _ M3 w2.heap.size d2 e2 f2 d3 e3 f3 _ _ _ _ _ _ _ _ _ _ _ _ _ _ _ _ _ _ _ _ _ _ _ _ _ _ _ _ _ _ _ _ _ _ _ _ _ _ _ _ _ _ _ _ _ _ _ _ _ _ _ _ _ _ _ _ _ _ _ _ _ _ _ _ _ _ _ _ _ _ _ _ _ _ _ _ _ _ _ _ _ _ _ _ _ _ _ _ _ _ _ _ _ _ _ _ _ _ _ _ _ _ _ _ _ _ _ _ _ _ _ (hG3.other w2.heap.size (by rw [set4_size]; exact Nat.le_refl _) (fun k hk => set4_other hk) hM3 (fun e' => by rw [e'] at glt; exact Nat.lt_irrefl _ glt) (fun hk => Nat.lt_irrefl _ (hG2.met.lt hk).2) (fun hk => Nat.lt_irrefl _ (hG2.own.lt _ hk).2) (fun i v hv hk => by obtain ⟨g', _, hr⟩ := hG2.at hv; exact Nat.lt_irrefl _ (hr.lt _ hk).2))
         (hf2.trans ((From.of_below (hbZ.mono hG2.le)).trans ((From.of_quiet hq3 hG2z.le).trans (From.of_below ⟨rfl, rfl, rfl, by rw [set4_size]; exact Nat.le_refl _, fun k hk => set4_other (by have := hG2.le; omega)⟩)))) (Nat.le_refl _) (set4 hz3) hv3)
set_option maxHeartbeats 16000000 in
set_option maxRecDepth 100000 in
theorem all_step {e : GEnv} {B ga C : Nat} (n : Nat) (ih : IhP e B ga C n)
  (hfr : Sm e.d.frags) (hsok : SOk e.s) (henv : Sm e.env) (hdoc : ∀ n, bkSels (gFrag e.d n).1.sels ≤ C)
  (l : List GSel) (st s' : GSt) (M : Mem) (w : World) (c : Value) (h : thrR e (n + 1) l st = some s') (hg : GRh e B ga M w st) (hc : Rv M noB (.slice (List.map encSel l) [] false) c) (hl : bkSels l ≤ C) (hp : pot e st + bkSels l ≤ C) (hC : C ≤ 536870912) :
  Calls Try.prog 41 #[.pointer (some ⟨ga, 0, none⟩), c] w fun er w' => er = .returned (.tuple #[]) ∧ ∃ M', GRh e B ga M' w' s' ∧ From B M w M' w' := by
 obtain ⟨oa, cap, rfl, hcap, hne, hat⟩ := sel_slice (by obtain ⟨_, _, _, _, _, _, _, _, _, _, _, _, hg⟩ := hg; exact hg.cons) hc
 obtain ⟨N, hN⟩ : ∃ N, l.length = N := ⟨_, rfl⟩
 rw [hN] at hcap ⊢
 by_cases h0 : l = []
 ·subst h0
  simp at hN
  subst hN
  simp only [thrR, Option.some.injEq] at h
  subst h
  clear hat hne hc ih
  go_enter Try.func41, Try.ntmps41
  go_wp2
  refine wp_loop_rounds 1 ?_; rw [rounds_succ]; go_wp2
  exact bodyPost_end (results_none (by rfl) _ _ _) rfl ⟨rfl, M, hg, From.refl _ _ _⟩
 obtain ⟨blk, off, rfl⟩ := hne h0
 have hat := hat blk off rfl
 have hNb : N ≤ 536870912 := by have := bkSels_len l; omega
 have hxat : ∀ (k : Nat), ∃ x a3 l3 p3 a4 l4 p4 a6 l6 p6, k < N → l[k]? = some x ∧ CV M x (.slice a3 l3 p3) (.slice a4 l4 p4) (.slice a6 l6 p6) ∧ ∀ (j : Nat) (v : Value), (xCells x (.slice a3 l3 p3) (.slice a4 l4 p4) (.slice a6 l6 p6))[j]? = some v → M blk (off + k * 7 + j) = some v := by
  intro k
  by_cases hk : k < N
  ·have hx := List.getElem?_eq_getElem (l := l) (i := k) (by omega)
   obtain ⟨c3, c4, c6, h1, h2⟩ := hat k _ hx
   obtain ⟨a3, l3, p3, rfl⟩ := isSlice h1.r3
   obtain ⟨a4, l4, p4, rfl⟩ := isSlice h1.r4
   obtain ⟨a6, l6, p6, rfl⟩ := isSlice h1.r6
   exact ⟨_, a3, l3, p3, a4, l4, p4, a6, l6, p6, fun _ => ⟨hx, h1, h2⟩⟩
  ·exact ⟨⟨0, [], [], [], [], [], []⟩, none, 0, 0, none, 0, 0, none, 0, 0, fun h => absurd h hk⟩
 clear hat hne
 replace ih := (id ih : Hid _)
 replace hdoc := (id hdoc : Hid _)
 go_enter Try.func41, Try.ntmps41
 go_wp2
 go_loopw [4] (fun t4 wr => ∃ (k m : Nat) (st1 : GSt) (M1 : Mem), k ≤ N ∧ t4 = .int .i64 k ∧ m ≤ n + 1 ∧ thrR e m (l.drop k) st1 = some s' ∧ GRh e B ga M1 wr st1 ∧ From B M w M1 wr ∧ pot e st1 + bkSels (l.drop k) ≤ C) (fun t4 _ => N - (intOf t4).toNat)
 case atStart => exact ⟨0, n + 1, st, M, Nat.zero_le _, rfl, Nat.le_refl _, h, hg, From.refl _ _ _, hp⟩
 case round =>
  obtain ⟨k, m, st1, M1, hkN, rfl, hmn, hthr, ⟨hne1, mv, h0, h1, h2, h3, h4, h5, h6, oa1, cap1, vs1, hG⟩, hfrom, hpt⟩ := hrel
  obtain ⟨x, a3, l3, p3, a4, l4, p4, a6, l6, p6, hx⟩ := hxat k
  obtain ⟨⟨a0, l0, p0, rfl⟩, rfl, rfl, ⟨b3, m3, n3, rfl⟩, ⟨b4, m4, n4, rfl⟩, ⟨b5, m5, n5, rfl⟩, rfl, om, capm, rfl⟩ := hG.heads
  replace hxat := (id hxat : Hid _)
  go_wp2
  ·rename_i hlt K2 hK2 K1 hK1 K0 hK0
   replace hK2 := (id hK2 : Hid _)
   replace hK1 := (id hK1 : Hid _)
   replace hK0 := (id hK0 : Hid _)
   obtain ⟨hx, hCV, hxm⟩ := hx hlt
   have hxc : XcP blk off k x M1 a3 l3 p3 a4 l4 p4 a6 l6 p6 := by
    intro M' w' hc hm
    have key : ∀ (j : Nat) (v : Value), (xCells x (.slice a3 l3 p3) (.slice a4 l4 p4) (.slice a6 l6 p6))[j]? = some v → w'.cell? ⟨blk, off + k * 7 + j, none⟩ = some v := fun j v hv => cell_of_mem hc (hm _ _ _ (hfrom.mem _ _ _ (hxm j v hv)))
    exact ⟨key 0 _ rfl, key 1 _ rfl, key 2 _ rfl, key 3 _ rfl, key 4 _ rfl, key 5 _ rfl, key 6 _ rfl⟩
   have hdrop : l.drop k = x :: l.drop (k + 1) := by
    rw [List.drop_eq_getElem_cons (by omega)]
    congr 1
    have := List.getElem?_eq_getElem (l := l) (i := k) (by omega)
    rw [hx] at this
    exact (Option.some.inj this).symm
   rw [hdrop] at hthr hpt
   rw [bkS_cons] at hpt
   obtain ⟨m', rfl⟩ : ∃ m', m = m' + 1 := by
    cases m with
    | zero => simp [thrR] at hthr
    | succ m' => exact ⟨m', rfl⟩
   simp only [thrR] at hthr
   obtain ⟨s1, hs1, hrest⟩ := Ev.bnd_some hthr
   have hstep : stepR e (thrR e n) x st1 = some s1 := stepR_mono (fun l st s h => thrR_le e (by omega) h) hs1
   have hpt1 := potR_step (thrR_pot e n) hstep
   have htot : tot st1.1 ≤ 1073741824 := by
    have : tot st1.1 ≤ pot e st1 := by unfold pot; omega
    omega
   have hmetl : st1.2.length ≤ 536870912 := by
    have : st1.2.length ≤ pot e st1 := by unfold pot; omega
    omega
   have hxl : bkSel x ≤ C := Nat.le_trans (bkSels_mem (List.mem_of_getElem? hx)) hl
   have hxsC : bkSels x.sels ≤ C := by have := bkS_sels x; omega
   have hpx : pot e st1 + bkSels x.sels ≤ C := by have := bkS_sels x; omega
   have hpx0 : pot e st1 ≤ C := by omega
   have hxb := hxl
   rw [bkSel_eq] at hxb
   have hdirs : Sm x.dirs := by
    have := sl_len (f := bkDir) (fun d => by rw [bkDir_eq]; omega) x.dirs
    show x.dirs.length < _; omega
   have hdargs : ∀ d ∈ x.dirs, Sm d.args := by
    intro d hd
    have h1 := sl_mem (f := bkDir) hd
    rw [bkDir_eq] at h1
    have h2 := sl_len (f := bkMember) (fun d => by rw [bkMember_eq, bkValue_eq]; omega) d.args
    show d.args.length < _; omega
   have fin : Hid (FinP e B ga blk off N cap k M1 wr s1 K2) := by
    intro M' w'; (iterate 113 intro _); intro hg' hf'
    refine hK2.out _ _ ?_
    go_wp2
    go_roundw
    case rel => exact ⟨k + 1, m', s1, M', by omega, by go_num, by omega, hrest, hg', hfrom.trans hf', by omega⟩
    case measure => simp [intOf]; omega
   clear hthr hs1 hrest hdrop
   replace hstep := (id hstep : Hid _)
   replace hxc := (id hxc : Hid _)
   have hd1 : Below wr.heap.size wr wr.drew := (Below.refl wr.heap.size wr).drew
   have hG1d := hG.quiet (quiet_below hd1) (cons_below hG.cons hd1)
   have hCV1 := hCV.mono hfrom.mem
   have after : Hid (∀ (w2 : World) (M2 : Mem) (A0 A1 A2 A3 A4 A5 A6 A7 A8 A9 D0 D1 D2 D3 D4 D5 D6 D7 D9 E0 E1 E2 E3 E4 E5 E6 E7 E8 E9 G0 G1 G2 G3 G4 G5 G6 G7 G8 G9 H0 H1 H2 H3 H4 H5 H6 H7 H8 H9 I0 I1 I2 I3 I4 I5 I6 I7 I8 I9 J0 J1 J2 J3 J4 J5 J6 J7 J8 J9 O0 O1 O2 O3 O4 O5 O6 O7 O8 O9 P0 P1 P2 P3 P4 P5 P6 P7 P8 P9 S0 S1 S2 S3 S4 S5 S6 S7 S8 S9 T0 T1 T2 T3 T4 T5 T6 T7 T8 T9 U0 U1 U2 : Value), Cons M2 w2 → Quiet M1 wr.drew M2 w2 → K0 ⟨#[.pointer (some ⟨ga, 0, none⟩), .slice (some ⟨blk, off, none⟩) N cap, undef, undef, .int .i64 k, A0, A1, A2, A3, A4, A5, A6, A7, A8, A9, D0, D1, D2, D3, D4, D5, D6, D7, .bool (!gHolds e.env x.dirs), D9, E0, E1, E2, E3, E4, E5, E6, E7, E8, E9, G0, G1, G2, G3, G4, G5, G6, G7, G8, G9, H0, H1, H2, H3, H4, H5, H6, H7, H8, H9, I0, I1, I2, I3, I4, I5, I6, I7, I8, I9, J0, J1, J2, J3, J4, J5, J6, J7, J8, J9, O0, O1, O2, O3, O4, O5, O6, O7, O8, O9, P0, P1, P2, P3, P4, P5, P6, P7, P8, P9, S0, S1, S2, S3, S4, S5, S6, S7, S8, S9, T0, T1, T2, T3, T4, T5, T6, T7, T8, T9, U0, U1, U2], []⟩ w2) := by
    intro w2 M2; (iterate 112 intro _); intro hc2 hq2
    refine hK0.out _ _ ?_
    have hG2 := hG1d.quiet hq2 hc2
    have hg2 : GRh e B ga M2 w2 st1 := ⟨hne1, _, _, _, _, _, _, _, _, _, _, _, hG2⟩
    have hf2 : From B M1 wr M2 w2 := (From.of_below (hd1.mono hG.le)).trans (From.of_quiet hq2 hG1d.le)
    have hCV2 := hCV1.mono hq2.mem
    obtain ⟨q0, q1, q2, q3, q4, q5, q6⟩ := hxc.out M2 w2 hc2 hq2.mem
    have hstep := hstep.out
    unfold stepR at hstep
    cases hh : gHolds e.env x.dirs
    ·rw [hh] at hstep
     cases hstep
     clear hG2 hG1d hG q0 q1 q2 q3 q4 q5 q6
     go_wp2
     apply fin.out M2 w2
     exact hg2
     exact hf2
    ·rw [hh] at hstep
     simp only [cond_true] at hstep
     replace hstep := (id hstep : Hid _)
     clear hG1d hG
     go_wp2
     refine hK1.out _ _ ?_
     go_wp2_with (go_at_call 71; refine (radd_walk hg2 x _ _ _ hCV2 htot).mono ?_; rintro e' w3 ⟨rfl, hg3, hf3⟩)
     ·have h0 : (x.kind == 0) = true := by assumption
      have hs := hstep.out
      rw [h0] at hs
      cases hs
      apply fin.out M2 w3
      exact hg3
      exact (hf2.trans hf3)
     ·rename_i h0 h2 K3 hK3
      have hs := hstep.out
      rw [h0, h2] at hs
      simp only [cond_false, cond_true] at hs
      exact rinline Try.f41 _ K2 _ ih hxc hsok hxsC hpx hlt hne1 hCV2 hs fin w2 hG2 hf2 K3 hK3
     ·rename_i h0 h2 h1 K3 hK3
      have hs := hstep.out
      rw [h0, h2, h1] at hs
      simp only [cond_false, cond_true] at hs
      exact rspread11 Try.f41 _ K2 _ ih hxc hfr hsok hdoc hpx0 hlt hne1 hmetl hs fin w2 hG2 hf2 K3 hK3
     ·have h0 : (x.kind == 0) = false := by assumption
      have h1 : (x.kind == 1) = false := by assumption
      have h2 : (x.kind == 2) = false := by assumption
      have hs := hstep.out
      rw [h0, h1, h2] at hs
      cases hs
      apply fin.out M2 w2
      exact hg2
      exact hf2
   obtain ⟨g0, g1, g2, g3, g4, g5, g6, g7, g8, glt⟩ := hG.cells
   obtain ⟨q0, q1, q2, q3, q4, q5, q6⟩ := hxc.out M1 wr hG.cons (fun _ _ _ h => h)
   have hcall := rholds_call e.env x.dirs henv hdirs hdargs _ _ hG1d.cons hG1d.re hCV1.r4
   clear g0 g1 g2 g3 g4 g6 g7 g8 q0 q1 q2 q3 q5 q6
   go_region_with (go_at_call 16; refine hcall.mono ?_; rintro e' w2 ⟨M2, rfl, hc2, hq2⟩)
   all_goals exact after.out _ M2 _ _ _ _ _ _ _ _ _ _ _ _ _ _ _ _ _ _ _ _ _ _ _ _ _ _ _ _ _ _ _ _ _ _ _ _ _ _ _ _ _ _ _ _ _ _ _ _ _ _ _ _ _ _ _ _ _ _ _ _ _ _ _ _ _ _ _ _ _ _ _ _ _ _ _ _ _ _ _ _ _ _ _ _ _ _ _ _ _ _ _ _ _ _ _ _ _ _ _ _ _ _ _ _ _ _ _ _ _ _ _ _ hc2 hq2
  ·have hge : ¬ k < N := by assumption
   rw [List.drop_eq_nil_of_le (by omega)] at hthr
   have hs : st1 = s' := by
    cases m with
    | zero => simp [thrR] at hthr
    | succ m' => simpa [thrR] using hthr
   subst hs
   exact bodyPost_end (results_none (by rfl) _ _ _) rfl ⟨rfl, M1, ⟨hne1, _, _, _, _, _, _, _, _, _, _, _, hG⟩, hfrom⟩
theorem all_walk {e : GEnv} {B ga C : Nat} (hfr : Sm e.d.frags) (hsok : SOk e.s) (henv : Sm e.env) (hdoc : ∀ n, bkSels (gFrag e.d n).1.sels ≤ C) (hC : C ≤ 536870912) : ∀ (n : Nat) (l : List GSel) (st s' : GSt) (M : Mem) (w : World) (c : Value), thrR e n l st = some s' → GRh e B ga M w st → Rv M noB (.slice (List.map encSel l) [] false) c → bkSels l ≤ C → pot e st + bkSels l ≤ C →
   Calls Try.prog 41 #[.pointer (some ⟨ga, 0, none⟩), c] w fun er w' => er = .returned (.tuple #[]) ∧ ∃ M', GRh e B ga M' w' s' ∧ From B M w M' w'
 | 0, l, st, s', M, w, c, h, _, _, _, _ => by simp [thrR] at h
 | n + 1, l, st, s', M, w, c, h, hg, hc, hl, hp => all_step n (all_walk hfr hsok henv hdoc hC n) hfr hsok henv hdoc l st s' M w c h hg hc hl hp hC
theorem gr_frz {e : GEnv} {B ga : Nat} {mv : Value} {M : Mem} {w : World} {gs : List GGroup} {met : List Str} {h0 h1 h2 h3 h4 h5 h6 : Value} {oa : Option Addr} {cap : Nat} {vs : List Value} (h : GR e B ga mv M w gs met h0 h1 h2 h3 h4 h5 h6 oa cap vs) (BB : BM) :
  Rv (frzM B M w) BB (.slice (List.map encGroup gs) [] false) (.slice oa gs.length cap) := by
 refine own_frz h.own (Nat.le_refl _) _ (by simp) ?_ ?_
 ·intro p hp
  obtain ⟨x, _, rfl⟩ := List.mem_map.1 hp
  exact ⟨rfl, rfl, rfl, by decide⟩
 ·intro i p j c hp hcc
  rw [List.getElem?_map] at hp
  cases hx : gs[i]? with
  | none => rw [hx] at hp; simp at hp
  | some x =>
   rw [hx] at hp
   simp only [Option.map_some, Option.some.injEq] at hp
   subst hp
   have hi : i < vs.length := by rw [h.len]; exact (List.getElem?_eq_some_iff.1 hx).1
   have hv := List.getElem?_eq_getElem hi
   obtain ⟨f1, f2⟩ := flatG_at _ i _ _ (zipG_at gs vs i x vs[i] hx hv)
   rw [encGroup_eq] at hcc
   have hj : j < 2 := (List.getElem?_eq_some_iff.1 hcc).1
   match j, hj, hcc with
   | 0, _, hcc => cases hcc; exact ⟨_, by rw [Nat.mul_comm]; exact f1, .str _⟩
   | 1, _, hcc => cases hcc; exact ⟨_, by rw [Nat.mul_comm]; exact f2, selRow_frz (h.sub i x _ hx hv) (Nat.le_refl _) h.cons⟩
theorem gr_made {e : GEnv} {M : Mem} {w : World} {h0 h1 h2 h3 h4 h5 h6 : Value} (hc : Cons M w) (o1 o2 : Obj)
  (hr : Rv M noB (.agg [(.slice (List.map encDef e.s.defs) [] false), (.str e.s.query), (.str e.s.mutation)]) (.agg #[h0, h1, h2])) (hd : Rv M noB (.agg [(.slice (List.map encOp e.d.ops) [] false), (.slice (List.map encFrag e.d.frags) [] false)]) (.agg #[h3, h4]))
  (he : Rv M noB (.slice (List.map encMember e.env) [] false) h5) (ht : Rv M noB (.str e.typ) h6) {wb : World}
  (hw : wb = ((w.alloc o1).alloc o2).alloc (.cells #[h0, h1, h2, h3, h4, h5, h6, .slice none 0 0, .slice none 0 0] 89)) :
  GRh e w.heap.size (w.heap.size + 1 + 1) M wb ([], []) ∧ Below w.heap.size w wb := by
 have hb : Below w.heap.size w (((w.alloc o1).alloc o2).alloc (.cells #[h0, h1, h2, h3, h4, h5, h6, .slice none 0 0, .slice none 0 0] 89)) :=
  (((Below.refl _ _).alloc (Nat.le_refl _) o1).alloc (by simp) o2).alloc (by simp; omega) _
 have hrow : wb.heap[w.heap.size + 1 + 1]? = some (.cells #[h0, h1, h2, h3, h4, h5, h6, .slice none 0 0, .slice none 0 0] 89 (0, 0)) := by
  have := heap_alloc_new ((w.alloc o1).alloc o2) (.cells #[h0, h1, h2, h3, h4, h5, h6, .slice none 0 0, .slice none 0 0] 89)
  rw [hw]
  simpa using this
 rw [← hw] at hb
 refine ⟨⟨by simp, .slice none 0 0, h0, h1, h2, h3, h4, h5, h6, none, 0, [], ?_⟩, hb⟩
 exact ⟨hb.size, cons_below hc hb, by omega, fun k hk => by simp [Value.ownBlock] at hk, hrow, hr, hd, he, ht, rfl, World.ownsRow_nil _ _ _ _, fun i g v hg => by simp at hg, fun i j v v' k _ hv => by simp at hv, fun i v k hv => by simp at hv, fun k hk => by simp [Value.ownBlock] at hk, ⟨none, 0, rfl, World.ownsRow_nil _ _ _ _⟩, fun i => cons_lt hc (by omega) i, fun k hk => by simp [Value.ownBlock] at hk, fun k hk => by simp [Value.ownBlock] at hk, fun i v k hv => by simp at hv⟩
set_option maxHeartbeats 8000000 in
set_option maxRecDepth 100000 in
theorem rgroups_walk (x : GArg) (C n : Nat) (gs : List GGroup) (met : List Str) (hC : C ≤ 536870912) (hfr : Sm x.2.1.frags) (hsok : SOk x.1) (henv : Sm x.2.2.1) (hdoc : ∀ n, bkSels (gFrag x.2.1 n).1.sels ≤ C) (hl : bkSels x.2.2.2.2 ≤ C) (hp : unmet x.2.1.frags [] + bkSels x.2.2.2.2 ≤ C)
  (h : thrR ⟨x.1, x.2.1, x.2.2.1, x.2.2.2.1⟩ n x.2.2.2.2 ([], []) = some (gs, met)) {M : Mem} {w : World} (h0 h1 h2 h3 h4 h5 h6 c : Value) (hc : Cons M w)
  (hr : Rv M noB (.agg [(.slice (List.map encDef x.1.defs) [] false), (.str x.1.query), (.str x.1.mutation)]) (.agg #[h0, h1, h2])) (hd : Rv M noB (.agg [(.slice (List.map encOp x.2.1.ops) [] false), (.slice (List.map encFrag x.2.1.frags) [] false)]) (.agg #[h3, h4]))
  (he : Rv M noB (.slice (List.map encMember x.2.2.1) [] false) h5) (ht : Rv M noB (.str x.2.2.2.1) h6) (hcl : Rv M noB (.slice (List.map encSel x.2.2.2.2) [] false) c) :
  Calls Try.prog 19 #[.agg #[h0, h1, h2], .agg #[h3, h4], h5, h6, c] w fun e w' => ∃ v M', e = .returned v ∧ Rv M' noB (grpR gs) v ∧ Cons M' w' ∧ Quiet M w M' w' := by
 have hq1 := rv_aggL hr
 have hq2 := rv_aggL hd
 cases hq1 with | cons q0 hq1 =>
 cases hq1 with | cons q1 hq1 =>
 cases hq1 with | cons q2 hq1 =>
 cases hq2 with | cons r0 hq2 =>
 cases hq2 with | cons r1 hq2 =>
 obtain ⟨a0, l0, p0, rfl⟩ := isSlice q0
 cases q1
 cases q2
 obtain ⟨a3, l3, p3, rfl⟩ := isSlice r0
 obtain ⟨a4, l4, p4, rfl⟩ := isSlice r1
 obtain ⟨a5, l5, p5, rfl⟩ := isSlice he
 cases ht
 obtain ⟨hg1, hb1⟩ := gr_made (e := ⟨x.1, x.2.1, x.2.2.1, x.2.2.2.1⟩) hc (.cells #[.slice a0 l0 p0, .string ⟨x.1.query.toArray⟩, .string ⟨x.1.mutation.toArray⟩] 24) (.cells #[.slice a3 l3 p3, .slice a4 l4 p4] 28) hr hd he (.str _) rfl
 have hcall := all_walk (e := ⟨x.1, x.2.1, x.2.2.1, x.2.2.2.1⟩) hfr hsok henv hdoc hC n x.2.2.2.2 _ _ M _ c h hg1 hcl hl (by simp only [pot, GGroup, List.length_nil]; have : tot ([] : List GGroup) = 0 := rfl; omega)
 replace hg1 := (id hg1 : Hid _)
 replace hb1 := (id hb1 : Hid _)
 clear h
 go_enter Try.func19, Try.ntmps19
 go_wp2_with (go_at_call 41; refine hcall.mono ?_; rintro e' w2 ⟨rfl, M2, ⟨hne, mv, g0, g1, g2, g3, g4, g5, g6, oa, cap, vs, hG⟩, hf⟩; clear hcall; have k8 : w2.cell? ⟨w.heap.size + 1 + 1, 8, none⟩ = some (.slice oa gs.length cap) := by (rw [cell_of_row w2 _ _ _ _ _ hG.row]; rfl))
 go_ret
 have hb := hb1.out
 refine ⟨_, frzM w.heap.size M2 w2, rfl, gr_frz hG noB, frzM_cons hG.cons, fun b i v hv => frzM_mono hG.cons b i v (hf.mem b i v hv), fun b hbl => ⟨(hf.below.block b hbl).trans (hb.block b hbl), fun i => (frzM_old hbl i).trans (hf.old b hbl i)⟩, Nat.le_trans hb.size hf.below.size, hf.below.os.trans hb.os, hf.below.tape.trans hb.tape, hf.below.output.trans hb.output⟩
set_option maxRecDepth 100000 in
theorem rgroups_keeps (args : List PV) (x : GArg) (gs : List GGroup) (ha : args.map PV.plain = grpA x) (hown : ∀ p ∈ args, ∀ v, NoOwn p v) (hsol : ∀ p ∈ args, p.solid = true) (h : grpF x = some gs) : Keeps Try.prog (fun _ _ => none) 19 args (grpR gs) := by
 unfold grpF at h
 split at h
 ·rename_i hb
  rw [Option.map_eq_some_iff] at h
  obtain ⟨⟨gs', met⟩, h1, rfl⟩ := h
  obtain ⟨metR, h1, _⟩ := thr_R _ _ _ _ [] [] (fun _ _ => rfl) _ _ h1
  have hd := bkDoc_eq x.2.1
  have hs := bkSchema_eq x.1
  have hf := sl_len (f := bkFrag) (fun f => by have := bkF_sels f; omega) x.2.1.frags
  have he := sl_len (f := bkMember) (fun d => by rw [bkMember_eq]; omega) x.2.2.1
  refine keeps_of_calls hown hsol rfl rfl (fun vals w => rfl) ?_
  intro M w vals hc hsz hrel
  have hlen : args.length = 5 := by have := congrArg List.length ha; simpa [grpA] using this
  have hr : ∀ (i : Nat) (p : PV), (grpA x)[i]? = some p → Rv M noB p (vals.getD i undef) := by
   intro i p hp
   rw [← ha, List.getElem?_map] at hp
   cases h2 : args[i]? with
   | none => rw [h2] at hp; simp at hp
   | some p' =>
    rw [h2] at hp
    simp only [Option.map_some, Option.some.injEq] at hp
    rw [← hp]
    exact hrel i p' h2
  have e0 := hr 0 _ rfl
  have e1 := hr 1 _ rfl
  have e2 := hr 2 _ rfl
  have e3 := hr 3 _ rfl
  have e4 := hr 4 _ rfl
  obtain ⟨l0, k0, m0⟩ := rv_agg e0
  obtain ⟨l1, k1, m1⟩ := rv_agg e1
  have hl0 : ∃ a b c, l0 = [a, b, c] := by
   cases m0 with | cons _ m0 => cases m0 with | cons _ m0 => cases m0 with | cons _ m0 => cases m0; exact ⟨_, _, _, rfl⟩
  have hl1 : ∃ a b, l1 = [a, b] := by
   cases m1 with | cons _ m1 => cases m1 with | cons _ m1 => cases m1; exact ⟨_, _, rfl⟩
  obtain ⟨a, b, c, rfl⟩ := hl0
  obtain ⟨a', b', rfl⟩ := hl1
  have hv : vals = #[.agg #[a, b, c], .agg #[a', b'], vals.getD 2 undef, vals.getD 3 undef, vals.getD 4 undef] := by
   apply Array.ext
   ·simp [hsz, hlen]
   ·intro i h1 h2
    have hi : i < 5 := by simpa using h2
    have hg : vals[i] = vals.getD i undef := by simp [h1]
    rw [hg]
    match i, hi with
    | 0, _ => exact k0
    | 1, _ => exact k1
    | 2, _ => rfl
    | 3, _ => rfl
    | 4, _ => rfl
  rw [k0] at e0
  rw [k1] at e1
  have := rgroups_walk x 268435456 _ gs' metR (by omega) (by show x.2.1.frags.length < _; omega) ⟨by omega⟩ (by show x.2.2.1.length < _; omega) (fun n => by have := gFrag_bk x.2.1 n; omega) (by omega) (by have := unmet_bk [] x.2.1.frags; have e : bkSl bkFrag x.2.1.frags = sumL bkFrag x.2.1.frags + 1 := rfl; omega) h1 a b c a' b' _ _ _ hc e0 e1 e2 e3 e4
  rw [← hv] at this
  exact this
 ·simp at h
theorem seineref23_Groups_ok (s : GSchema) (d : GDoc) (env : List GMember) (typ : Str) (l : List GSel) (gs : List GGroup) (h : grpF (s, d, env, typ, l) = some gs) : seineref23_Groups s d env typ l = some gs := by
 unfold seineref23_Groups
 refine tO_of (pair_inj seineref23_GroupsEj) ?_
 refine OL_ext (g := xSelf Try.prog (fun _ _ => none) 19 grpA grpR grpF) rfl ?_
 refine xSelf_of grpA_inj (x := (s, d, env, typ, l)) rfl h (rgroups_keeps _ (s, d, env, typ, l) gs rfl ?_ ?_ h)
 ·intro p hp v
  apply noOwn_of_plain
  simp only [List.mem_cons, List.not_mem_nil, or_false] at hp
  rcases hp with rfl | rfl | rfl | rfl | rfl <;> rfl
 ·intro p hp
  simp only [List.mem_cons, List.not_mem_nil, or_false] at hp
  rcases hp with rfl | rfl | rfl | rfl | rfl <;> rfl
end Go.Proofs.Ytfbaogfcpldlnaa

import Derived.Test.YtfbaogfcpldlnaaWr
import Derived.Test.YtfbaogfcpldlnaaWb
set_option linter.unusedVariables false
set_option linter.unusedSimpArgs false
set_option linter.unusedSimpArgs false
open Go Go.Ev Go.RowKit
namespace Go.Proofs.Ytfbaogfcpldlnaa
theorem Try.info9 : (Try.prog.info? 9).map (fun i => (i.zero, i.size, i.bytes)) = some (some (.string ByteArray.empty), 1, 16) := by kernel_rfl
theorem potR_step {e : GEnv} {r : List GSel → GSt → Option GSt} (hr : ∀ l st s, r l st = some s → pot e s ≤ pot e st + bkSels l) {x : GSel} {st s : GSt} (h : stepR e r x st = some s) : pot e s ≤ pot e st + bkSel x := by
 have hx := bkS_sels x
 unfold stepR at h
 cases h1 : gHolds e.env x.dirs <;> rw [h1] at h
 ·cases h; omega
 cases h2 : x.kind == 0 <;> rw [h2] at h
 ·cases h3 : x.kind == 2 <;> rw [h3] at h
  ·cases h4 : x.kind == 1 <;> rw [h4] at h
   ·cases h; omega
   ·cases h6 : st.2.contains x.name || !(gFrag e.d x.name).2 <;> rw [h6] at h
    ·rw [Bool.or_eq_false_iff] at h6
     have h7 := pot_met (e := e) (gs := st.1) h6.1 (by simpa using h6.2)
     have e' : pot e (st.1, st.2) = pot e st := rfl
     cases h5 : gApplies e.s e.typ (gFrag e.d x.name).1.on_ <;> rw [h5] at h
     ·cases h; omega
     ·have := hr _ _ _ h
      omega
    ·cases h; omega
  ·cases h5 : gApplies e.s e.typ x.on_ <;> rw [h5] at h
   ·cases h; omega
   ·have := hr _ _ _ h; omega
 ·cases h
  simp only [pot, tot_put]
  omega
theorem thrR_pot (e : GEnv) : ∀ (n : Nat) (l : List GSel) (st s : GSt), thrR e n l st = some s → pot e s ≤ pot e st + bkSels l
 | 0, _, _, _, h => by simp [thrR] at h
 | n + 1, [], st, s, h => by simp only [thrR, Option.some.injEq] at h; subst h; omega
 | n + 1, x :: l, st, s, h => by
  simp only [thrR] at h
  obtain ⟨s1, h1, h2⟩ := Ev.bnd_some h
  have := potR_step (thrR_pot e n) h1
  have := thrR_pot e n l s1 s h2
  rw [bkS_cons]; omega
theorem GR.other {e : GEnv} {B ga : Nat} {mv : Value} {M : Mem} {w w' : World} {gs : List GGroup} {met : List Str} {h0 h1 h2 h3 h4 h5 h6 : Value} {oa : Option Addr} {cap : Nat} {vs : List Value} (h : GR e B ga mv M w gs met h0 h1 h2 h3 h4 h5 h6 oa cap vs) (fb : Nat)
  (hsz : w.heap.size ≤ w'.heap.size) (hb : ∀ k, k ≠ fb → w'.heap[k]? = w.heap[k]?) (hM : ∀ i, M fb i = none) (hga : fb ≠ ga) (hmv : mv.ownBlock ≠ some fb) (ho : (Value.slice oa gs.length cap).ownBlock ≠ some fb) (hv : ∀ (i : Nat) (v : Value), vs[i]? = some v → v.ownBlock ≠ some fb) : GR e B ga mv M w' gs met h0 h1 h2 h3 h4 h5 h6 oa cap vs :=
 ⟨Nat.le_trans h.le hsz, cons_kept h.cons fun k hk ⟨i, hi⟩ => hb k (by rintro rfl; exact hi (hM i)), h.bga, h.ne, (hb ga hga.symm).trans h.row, h.rs, h.rd, h.re, h.rt, h.len, own_congr h.own fun k hk => hb k (by rintro rfl; exact ho hk), fun i g v hg hv' => (h.sub i g v hg hv').congr (fun _ _ _ h => h) fun k hk => hb k (by rintro rfl; exact hv i v hv' hk),
  h.apart, h.off, h.offo, h.met.congr fun k hk => hb k (by rintro rfl; exact hmv hk), h.fga, h.fgm, h.fo, h.fv⟩
theorem set4 {w : World} {b : Nat} {z0 z1 z2 z3 v0 v1 v2 v3 : Value} {T : Nat} {fz : Nat × Nat} (h : w.heap[b]? = some (.cells #[z0, z1, z2, z3] T fz)) :
  ((((w.setCell ⟨b, 0, none⟩ v0).setCell ⟨b, 1, none⟩ v1).setCell ⟨b, 2, none⟩ v2).setCell ⟨b, 3, none⟩ v3).heap[b]? = some (.cells #[v0, v1, v2, v3] T fz) := by
 simp [World.setCell, Array.getElem?_modify, h]
theorem set4_other {w : World} {b k : Nat} {v0 v1 v2 v3 : Value} (h : k ≠ b) : ((((w.setCell ⟨b, 0, none⟩ v0).setCell ⟨b, 1, none⟩ v1).setCell ⟨b, 2, none⟩ v2).setCell ⟨b, 3, none⟩ v3).heap[k]? = w.heap[k]? := by
 rw [Below.heap_setCell _ _ _ _ h, Below.heap_setCell _ _ _ _ h, Below.heap_setCell _ _ _ _ h, Below.heap_setCell _ _ _ _ h]
theorem set4_size {w : World} {b : Nat} {v0 v1 v2 v3 : Value} : ((((w.setCell ⟨b, 0, none⟩ v0).setCell ⟨b, 1, none⟩ v1).setCell ⟨b, 2, none⟩ v2).setCell ⟨b, 3, none⟩ v3).heap.size = w.heap.size := by
 simp [World.setCell]
def FinP (e : GEnv) (B ga blk off N cap k : Nat) (M1 : Mem) (wr : World) (s1 : GSt) (K2 : Act → World → Prop) : Prop := ∀ (M' : Mem) (w' : World) (A0 A1 A2 A3 A4 A5 A6 A7 A8 A9 D0 D1 D2 D3 D4 D5 D6 D7 D8 D9 E0 E1 E2 E3 E4 E5 E6 E7 E8 E9 G0 G1 G2 G3 G4 G5 G6 G7 G8 G9 H0 H1 H2 H3 H4 H5 H6 H7 H8 H9 I0 I1 I2 I3 I4 I5 I6 I7 I8 I9 J0 J1 J2 J3 J4 J5 J6 J7 J8 J9 O0 O1 O2 O3 O4 O5 O6 O7 O8 O9 P0 P1 P2 P3 P4 P5 P6 P7 P8 P9 S0 S1 S2 S3 S4 S5 S6 S7 S8 S9 T0 T1 T2 T3 T4 T5 T6 T7 T8 T9 U0 U1 U2 : Value), GRh e B ga M' w' s1 → From B M1 wr M' w' → K2 ⟨#[.pointer (some ⟨ga, 0, none⟩), .slice (some ⟨blk, off, none⟩) N cap, undef, undef, .int .i64 k, A0, A1, A2, A3, A4, A5, A6, A7, A8, A9, D0, D1, D2, D3, D4, D5, D6, D7, D8, D9, E0, E1, E2, E3, E4, E5, E6, E7, E8, E9, G0, G1, G2, G3, G4, G5, G6, G7, G8, G9, H0, H1, H2, H3, H4, H5, H6, H7, H8, H9, I0, I1, I2, I3, I4, I5, I6, I7, I8, I9, J0, J1, J2, J3, J4, J5, J6, J7, J8, J9, O0, O1, O2, O3, O4, O5, O6, O7, O8, O9, P0, P1, P2, P3, P4, P5, P6, P7, P8, P9, S0, S1, S2, S3, S4, S5, S6, S7, S8, S9, T0, T1, T2, T3, T4, T5, T6, T7, T8, T9, U0, U1, U2], []⟩ w'
def IhP (e : GEnv) (B ga C n : Nat) : Prop := ∀ (l : List GSel) (st s' : GSt) (M : Mem) (w : World) (c : Value), thrR e n l st = some s' → GRh e B ga M w st → Rv M noB (.slice (List.map encSel l) [] false) c → bkSels l ≤ C → pot e st + bkSels l ≤ C →
 Calls Try.prog 41 #[.pointer (some ⟨ga, 0, none⟩), c] w fun er w' => er = .returned (.tuple #[]) ∧ ∃ M', GRh e B ga M' w' s' ∧ From B M w M' w'
def XcP (blk off k : Nat) (x : GSel) (M1 : Mem) (a3 : Option Addr) (l3 p3 : Nat) (a4 : Option Addr) (l4 p4 : Nat) (a6 : Option Addr) (l6 p6 : Nat) : Prop := ∀ (M' : Mem) (w' : World), Cons M' w' → (∀ b i v, M1 b i = some v → M' b i = some v) → w'.cell? ⟨blk, off + k * 7, none⟩ = some (.int .i64 x.kind) ∧ w'.cell? ⟨blk, off + k * 7 + 1, none⟩ = some (.string ⟨x.alias.toArray⟩) ∧ w'.cell? ⟨blk, off + k * 7 + 2, none⟩ = some (.string ⟨x.name.toArray⟩) ∧ w'.cell? ⟨blk, off + k * 7 + 3, none⟩ = some (.slice a3 l3 p3) ∧ w'.cell? ⟨blk, off + k * 7 + 4, none⟩ = some (.slice a4 l4 p4) ∧ w'.cell? ⟨blk, off + k * 7 + 5, none⟩ = some (.string ⟨x.on_.toArray⟩) ∧ w'.cell? ⟨blk, off + k * 7 + 6, none⟩ = some (.slice a6 l6 p6)
noncomputable def loop41 : Code := match Try.f41.body with | some c => loopC (blkC (sndC c)) | none => .skip
noncomputable def elseC : Code → Code | .cond _ _ b => b | c => c
noncomputable def kind41 : Code := blkC (sndC (sndC (blkC (fstC (sndC loop41)))))
noncomputable def inl41 : Code := thenC (sndC (elseC (sndC kind41)))
noncomputable def spr41 : Code := thenC (sndC (elseC (sndC (elseC (sndC kind41)))))
noncomputable def spr41b : Code := sndC spr41
noncomputable def spr41c : Code := sndC spr41b
noncomputable def spr41d : Code := sndC spr41c
set_option maxHeartbeats 16000000 in
set_option maxRecDepth 100000 in
theorem rspread14 {e : GEnv} {st1 s1 : GSt} {x : GSel} {M1 : Mem} {wr : World} {a0 b3 b4 b5 oa1 : Option Addr} {B ga C n blk off N cap k l0 p0 m3 n3 m4 n4 m5 n5 cap1 : Nat} {vs1 : List Value} {F : GFrag} {d2 d3 : Option Addr} {fb e2 f2 e3 f3 : Nat} {gm capq : Nat} {M5 : Mem} (fn : Func) (Q : Ending → World → Prop) (K2 Kl : Act → World → Prop)
  (ih : Hid (IhP e B ga C n))
  (hsok : SOk e.s) (hFC : bkSels F.sels ≤ C) (hFP4 : pot e (st1.1, st1.2 ++ [x.name]) + bkSels F.sels ≤ C) (hne1 : ∀ g ∈ st1.1, g.sels ≠ []) (hs4 : (bif gApplies e.s e.typ F.on_ then thrR e n F.sels (st1.1, st1.2 ++ [x.name]) else some (st1.1, st1.2 ++ [x.name])) = some s1)
  (fin : Hid (FinP e B ga blk off N cap k M1 wr s1 K2))
  (w8 : World) {A1 A2 A3 A4 A5 A6 A7 A8 A9 D0 D1 D2 D3 D4 D5 D6 D7 D8 D9 E0 E1 E2 E3 E4 E5 E6 E7 E8 E9 G0 G1 G2 G3 G4 G5 G6 G7 G8 G9 H0 H1 H2 H3 H4 H5 H6 H7 H8 H9 I0 I1 I2 I3 I4 I5 I6 I7 I8 I9 J0 J1 J2 J3 J4 J5 J6 J7 J8 J9 O0 O1 O2 O3 O4 O5 O6 O7 O8 O9 P0 P1 P2 P3 P4 P5 P6 P7 P8 P9 S0 S1 S2 S3 S4 S5 S6 S7 S8 S9 T0 T1 T2 T3 T4 T5 T6 T7 T8 T9 U0 U1 U2 : Value} (hG8 : GR e B ga (.slice (some ⟨gm, 0, none⟩) (st1.2.length + 1) capq) M5 w8 st1.1 (st1.2 ++ [x.name]) (.slice a0 l0 p0) (.string ⟨e.s.query.toArray⟩) (.string ⟨e.s.mutation.toArray⟩) (.slice b3 m3 n3) (.slice b4 m4 n4) (.slice b5 m5 n5) (.string ⟨e.typ.toArray⟩) oa1 cap1 vs1) (hf8 : From B M1 wr M5 w8) (hfb8 : w8.heap[fb]? = some (.cells #[.string ⟨F.name.toArray⟩, .string ⟨F.on_.toArray⟩, .slice d2 e2 f2, .slice d3 e3 f3] 60 (0, 0))) (hv5 : Rv M5 noB (.slice (List.map encSel F.sels) [] false) (.slice d3 e3 f3)) :
  Code.wp Try.prog spr41d (Exit.inBlock 2 (Exit.inBlock 1 (Exit.then K2 (Exit.then Kl (Exit.inBlock 0 (bodyPost Try.prog fn Q)))))) ⟨#[.pointer (some ⟨ga, 0, none⟩), .slice (some ⟨blk, off, none⟩) N cap, undef, undef, .int .i64 k, .pointer (some ⟨fb, 0, none⟩), A1, A2, A3, A4, A5, A6, A7, A8, A9, D0, D1, D2, D3, D4, D5, D6, D7, D8, D9, E0, E1, E2, E3, E4, E5, E6, E7, E8, E9, G0, G1, G2, G3, G4, G5, G6, G7, G8, G9, H0, H1, H2, H3, H4, H5, H6, H7, H8, H9, I0, I1, I2, I3, I4, I5, I6, I7, I8, I9, J0, J1, J2, J3, J4, J5, J6, J7, J8, J9, O0, O1, O2, O3, O4, O5, O6, O7, O8, O9, P0, P1, P2, P3, P4, P5, P6, P7, P8, P9, S0, S1, S2, S3, S4, S5, S6, S7, S8, S9, T0, T1, T2, T3, T4, T5, T6, T7, T8, T9, U0, U1, U2], []⟩ w8 := by
 simp only [spr41d, spr41c, spr41b, spr41, kind41, loop41, Try.f41, loopC, elseC, thenC, blkC, fstC, sndC]
 have hg8 : GRh e B ga M5 w8 (st1.1, st1.2 ++ [x.name]) := ⟨hne1, _, _, _, _, _, _, _, _, _, _, _, hG8⟩
 have hd8 : Below w8.heap.size w8 w8.drew := (Below.refl w8.heap.size w8).drew
 have hG8d := hG8.quiet (quiet_below hd8) (cons_below hG8.cons hd8)
 have hfl8 : fb < w8.heap.size := (Array.getElem?_eq_some_iff.1 hfb8).1
 go_wp2
 rename_i K15 hK15
 replace hK15 := (id hK15 : Hid _)
 have after6 : Hid (∀ (w9 : World) (M9 : Mem) (A1 A2 A3 A4 A5 A6 A7 A8 A9 D0 D1 D2 D3 D4 D5 D6 D7 D8 D9 E0 E1 E2 E3 E4 E5 E6 E7 E8 E9 G0 G1 G2 G3 G4 G5 G6 G7 G8 G9 H0 H1 H2 H3 H4 H5 H6 H7 H8 H9 I0 I1 I2 I3 I4 I5 I6 I7 I8 I9 J0 J1 J2 J3 J4 J5 J6 J7 J8 J9 O0 O1 O2 O3 O4 O5 O6 O7 O8 O9 P0 P1 P2 P3 P4 P5 P6 P7 P8 P9 S0 S1 S2 S3 S4 S5 S6 S7 S8 S9 T0 T1 T2 T3 T4 T5 T6 T7 T9 U0 U1 U2 : Value), Cons M9 w9 → Quiet M5 w8.drew M9 w9 → K15 ⟨#[.pointer (some ⟨ga, 0, none⟩), .slice (some ⟨blk, off, none⟩) N cap, undef, undef, .int .i64 k, .pointer (some ⟨fb, 0, none⟩), A1, A2, A3, A4, A5, A6, A7, A8, A9, D0, D1, D2, D3, D4, D5, D6, D7, D8, D9, E0, E1, E2, E3, E4, E5, E6, E7, E8, E9, G0, G1, G2, G3, G4, G5, G6, G7, G8, G9, H0, H1, H2, H3, H4, H5, H6, H7, H8, H9, I0, I1, I2, I3, I4, I5, I6, I7, I8, I9, J0, J1, J2, J3, J4, J5, J6, J7, J8, J9, O0, O1, O2, O3, O4, O5, O6, O7, O8, O9, P0, P1, P2, P3, P4, P5, P6, P7, P8, P9, S0, S1, S2, S3, S4, S5, S6, S7, S8, S9, T0, T1, T2, T3, T4, T5, T6, T7, .bool (gApplies e.s e.typ F.on_), T9, U0, U1, U2], []⟩ w9) := by
  intro w9 M9; (iterate 111 intro _); intro hc9 hq9
  refine hK15.out _ _ ?_
  have hG9 := hG8d.quiet hq9 hc9
  have hg9 : GRh e B ga M9 w9 (st1.1, st1.2 ++ [x.name]) := ⟨hne1, _, _, _, _, _, _, _, _, _, _, _, hG9⟩
  have hf9 : From B M1 wr M9 w9 := hf8.trans ((From.of_below (hd8.mono hG8.le)).trans (From.of_quiet hq9 hG8d.le))
  have hfb9 : w9.heap[fb]? = some (.cells #[.string ⟨F.name.toArray⟩, .string ⟨F.on_.toArray⟩, .slice d2 e2 f2, .slice d3 e3 f3] 60 (0, 0)) := (hq9.old fb hfl8).1.trans ((hd8.block fb hfl8).trans hfb8)
  have c3 : w9.cell? ⟨fb, 3, none⟩ = some (.slice d3 e3 f3) := by rw [cell_of_row w9 _ _ _ _ _ hfb9]; rfl
  cases ha : gApplies e.s e.typ F.on_
  ·rw [ha] at hs4
   cases hs4
   go_wp2
   apply fin.out M9 w9
   exact hg9
   exact hf9
  ·rw [ha] at hs4
   simp only [cond_true] at hs4
   have hih := ih.out F.sels (st1.1, st1.2 ++ [x.name]) s1 M9 w9 _ hs4 hg9 (hv5.mono hq9.mem (fun _ _ _ h => h)) hFC hFP4
   go_wp2_with (go_at_call 41; refine hih.mono ?_; rintro e' w10 ⟨rfl, M10, hg10, hf10⟩)
   apply fin.out M10 w10
   exact hg10
   exact (hf9.trans hf10)
 obtain ⟨g0, g1, g2, g3, g4, g5, g6, g7, g8, glt⟩ := hG8.cells
 have f1 : w8.cell? ⟨fb, 1, none⟩ = some (.string ⟨F.on_.toArray⟩) := by rw [cell_of_row w8 _ _ _ _ _ hfb8]; rfl
 have hcall3 := rapplies_call e.s e.typ F.on_ hsok _ _ _ hG8d.cons hG8d.rs
 clear g3 g4 g5 g7 g8
 go_region_with (go_at_call 26; refine hcall3.mono ?_; rintro e' w9 ⟨M9, rfl, hc9, hq9⟩)
 all_goals exact after6.out _ M9 _ _ _ _ _ _ _ _ _ _ _ _ _ _ _ _ _ _ _ _ _ _ _ _ _ _ _ _ _ _ _ _ _ _ _ _ _ _ _ _ _ _ _ _ _ _ _ _ _ _ _ _ _ _ _ _ _ _ _ _ _ _ _ _ _ _ _ _ _ _ _ _ _ _ _ _ _ _ _ _ _ _ _ _ _ _ _ _ _ _ _ _ _ _ _ _ _ _ _ _ _ _ _ _ _ _ _ _ _ _ _ hc9 hq9
open Go Go.Ev Go.RowKit
set_option maxHeartbeats 16000000 in
set_option maxRecDepth 100000 in
theorem rspread13 {e : GEnv} {st1 s1 : GSt} {x : GSel} {M1 : Mem} {wr : World} {a0 b3 b4 b5 oa1 : Option Addr} {B ga C n blk off N cap k l0 p0 m3 n3 m4 n4 m5 n5 cap1 : Nat} {vs1 : List Value} {a3 a4 a6 : Option Addr} {l3 p3 l4 p4 l6 p6 : Nat} {F : GFrag} {d2 d3 : Option Addr} {fb e2 f2 e3 f3 : Nat} {om : Option Addr} {capm : Nat} {M5 : Mem} (fn : Func) (Q : Ending → World → Prop) (K2 Kl : Act → World → Prop)
  (ih : Hid (IhP e B ga C n))
  (hxc : Hid (XcP blk off k x M1 a3 l3 p3 a4 l4 p4 a6 l6 p6))
  (hsok : SOk e.s) (hFC : bkSels F.sels ≤ C) (hFP4 : pot e (st1.1, st1.2 ++ [x.name]) + bkSels F.sels ≤ C) (hlt : k < N) (hne1 : ∀ g ∈ st1.1, g.sels ≠ []) (hmetl : st1.2.length ≤ 536870912) (hs4 : (bif gApplies e.s e.typ F.on_ then thrR e n F.sels (st1.1, st1.2 ++ [x.name]) else some (st1.1, st1.2 ++ [x.name])) = some s1)
  (fin : Hid (FinP e B ga blk off N cap k M1 wr s1 K2))
  (w6 : World) {A1 A2 A3 A4 A5 A6 A7 A8 A9 D0 D1 D2 D3 D4 D5 D6 D7 D8 D9 E0 E1 E2 E3 E4 E5 E6 E7 E8 E9 G0 G1 G2 G3 G4 G5 G6 G7 G8 G9 H0 H1 H2 H3 H4 H5 H6 H7 H8 H9 I0 I1 I2 I3 I4 I5 I6 I7 I8 I9 J0 J1 J2 J3 J4 J5 J6 J7 J8 J9 O0 O1 O2 O3 O4 O5 O6 O7 O8 O9 P0 P1 P2 P3 P4 P5 P6 P7 P8 P9 S0 S1 S2 S3 S4 S5 S6 S7 S8 S9 T0 T1 T2 T3 T4 T5 T6 T7 T8 T9 U0 U1 U2 : Value} (hG6 : GR e B ga (.slice om st1.2.length capm) M5 w6 st1.1 st1.2 (.slice a0 l0 p0) (.string ⟨e.s.query.toArray⟩) (.string ⟨e.s.mutation.toArray⟩) (.slice b3 m3 n3) (.slice b4 m4 n4) (.slice b5 m5 n5) (.string ⟨e.typ.toArray⟩) oa1 cap1 vs1) (hf6 : From B M1 wr M5 w6) (hfb6 : w6.heap[fb]? = some (.cells #[.string ⟨F.name.toArray⟩, .string ⟨F.on_.toArray⟩, .slice d2 e2 f2, .slice d3 e3 f3] 60 (0, 0))) (hoff : fb ≠ ga ∧ (Value.slice om st1.2.length capm).ownBlock ≠ some fb) (hv5 : Rv M5 noB (.slice (List.map encSel F.sels) [] false) (.slice d3 e3 f3)) :
  Code.wp Try.prog spr41c (Exit.inBlock 2 (Exit.inBlock 1 (Exit.then K2 (Exit.then Kl (Exit.inBlock 0 (bodyPost Try.prog fn Q)))))) ⟨#[.pointer (some ⟨ga, 0, none⟩), .slice (some ⟨blk, off, none⟩) N cap, undef, undef, .int .i64 k, .pointer (some ⟨fb, 0, none⟩), A1, A2, A3, A4, A5, A6, A7, A8, A9, D0, D1, D2, D3, D4, D5, D6, D7, D8, D9, E0, E1, E2, E3, E4, E5, E6, E7, E8, E9, G0, G1, G2, G3, G4, G5, G6, G7, G8, G9, H0, H1, H2, H3, H4, H5, H6, H7, H8, H9, I0, I1, I2, I3, I4, I5, I6, I7, I8, I9, J0, J1, J2, J3, J4, J5, J6, J7, J8, J9, O0, O1, O2, O3, O4, O5, O6, O7, O8, O9, P0, P1, P2, P3, P4, P5, P6, P7, P8, P9, S0, S1, S2, S3, S4, S5, S6, S7, S8, S9, T0, T1, T2, T3, T4, T5, T6, T7, T8, T9, U0, U1, U2], []⟩ w6 := by
 obtain ⟨q0, q1, q2', q3, q4, q5, q6⟩ := hxc.out M5 w6 hG6.cons hf6.mem
 obtain ⟨g0, g1, g2, g3, g4, g5, g6, g7, g8, glt⟩ := hG6.cells
 clear g0 g1 g2 g3 g4 g5 g6 g8 q0 q1 q3 q4 q5 q6
 obtain ⟨i9, hi9, z90, z91, z92⟩ := info_parts Try.info9
 have hown6 : w6.ownsRow B 9 1 (.slice om st1.2.length capm) st1.2.length (st1.2.map strV) := by
  obtain ⟨om', capm', e', ho⟩ := hG6.met
  exact ho
 have hownA := hown6.alloc (.cells #[.string ⟨x.name.toArray⟩] 9)
 have hnews := World.news_of_block (cs := #[.string ⟨x.name.toArray⟩]) (heap_alloc_new w6 (.cells #[.string ⟨x.name.toArray⟩] 9))
 have hbA : Below w6.heap.size w6 (w6.alloc (.cells #[.string ⟨x.name.toArray⟩] 9)) := (Below.refl _ _).alloc (Nat.le_refl _) _
 have hsA : (w6.alloc (.cells #[.string ⟨x.name.toArray⟩] 9)).heap.size = w6.heap.size + 1 := by simp
 have hB6 := hG6.le
 have hga6 := hG6.row
 have hne6 : some ga ≠ (Value.slice om st1.2.length capm).ownBlock := fun e' => hG6.ne ga e'.symm rfl
 have hblt : blk < w6.heap.size := World.block_lt_of_cell? w6 _ q2'
 unfold spr41c spr41b spr41 kind41 loop41
 simp only [Try.f41, loopC, elseC, thenC, blkC, fstC, sndC]
 go_wp2
 rename_i K14 hK14
 replace hK14 := (id hK14 : Hid _)
 go_region_law (refine step_append_lies _ rfl (.tmp 93) (.tmp 99) 87 rfl B 9 i9 _ 1 16 Try.underlying87 hi9 z90 z91 z92 rfl (by decide) (.slice om st1.2.length capm) st1.2.length (st1.2.map strV) rfl hownA ⟨w6.heap.size, 0, none⟩ 1 1 [.string ⟨x.name.toArray⟩] rfl rfl hnews (by intro u hu; simp at hu; rw [hu]; rfl) (by decide) (by unfold maxLen; omega) (by omega) (by show B ≤ (w6.alloc (.cells #[.string ⟨x.name.toArray⟩] 9)).heap.size; omega) _ rfl ?_; intro gm capq w7 hown7 hgrow7 hat7 hlt7; have hga7 : w7.heap[ga]? = w6.heap[ga]? := (hgrow7.block ga (by show ga < (w6.alloc (.cells #[.string ⟨x.name.toArray⟩] 9)).heap.size; omega) hne6).trans (heap_alloc_old w6 _ glt); have hg77 : w7.cell? ⟨ga, 7, none⟩ = some (.slice om st1.2.length capm) := (cell_of_row w7 _ _ _ _ _ (hga7.trans hga6)).trans rfl; have hf77 : w7.frozen? ⟨ga, 7, none⟩ = false := by (simp [World.frozen?, hga7.trans hga6]))
 all_goals
  have hkeep : ∀ k, k < w6.heap.size → some k ≠ (Value.slice om st1.2.length capm).ownBlock → w7.heap[k]? = w6.heap[k]? := fun k hk hks => (hgrow7.block k (by show k < (w6.alloc (.cells #[.string ⟨x.name.toArray⟩] 9)).heap.size; omega) hks).trans (hbA.block k hk)
  have hsz7 : w6.heap.size ≤ w7.heap.size := Nat.le_trans (by show w6.heap.size ≤ (w6.alloc (.cells #[.string ⟨x.name.toArray⟩] 9)).heap.size; omega) hgrow7.size
  have hat8 : (Value.slice om st1.2.length capm).ownBlock = some gm ∨ w6.heap.size ≤ gm := by
   rcases hat7 with h | h
   ·exact .inl h
   ·right
    have h' : gm = (w6.alloc (.cells #[.string ⟨x.name.toArray⟩] 9)).heap.size := h
    omega
  obtain ⟨hG8, hb8⟩ := hG6.meet (s := x.name) hown7 hat8 hsz7 (hgrow7.os.trans hbA.os) (hgrow7.tape.trans hbA.tape) (hgrow7.output.trans hbA.output) hkeep
  have hfb8 : (w7.setCell ⟨ga, 7, none⟩ (.slice (some ⟨gm, 0, none⟩) (st1.2.length + 1) capq)).heap[fb]? = some (.cells #[.string ⟨F.name.toArray⟩, .string ⟨F.on_.toArray⟩, .slice d2 e2 f2, .slice d3 e3 f3] 60 (0, 0)) := by
   rw [Below.heap_setCell _ _ _ _ hoff.1, hkeep fb (Array.getElem?_eq_some_iff.1 hfb6).1 (fun e' => hoff.2 e'.symm)]
   exact hfb6
  exact hK14.out _ _ (rspread14 fn Q K2 Kl ih hsok hFC hFP4 hne1 hs4 fin _ hG8 (hf6.trans (From.of_below hb8)) hfb8 hv5)
set_option maxHeartbeats 16000000 in
set_option maxRecDepth 100000 in
theorem rinline {e : GEnv} {st1 s1 : GSt} {x : GSel} {M1 : Mem} {wr : World} {a0 b3 b4 b5 oa1 : Option Addr} {B ga C n blk off N cap k l0 p0 m3 n3 m4 n4 m5 n5 cap1 : Nat} {vs1 : List Value} {a3 a4 a6 : Option Addr} {l3 p3 l4 p4 l6 p6 : Nat} {om : Option Addr} {capm : Nat} {M2 : Mem} (fn : Func) (Q : Ending → World → Prop) (K2 Kl : Act → World → Prop)
  (ih : Hid (IhP e B ga C n))
  (hxc : Hid (XcP blk off k x M1 a3 l3 p3 a4 l4 p4 a6 l6 p6))
  (hsok : SOk e.s) (hxsC : bkSels x.sels ≤ C) (hpx : pot e st1 + bkSels x.sels ≤ C) (hlt : k < N) (hne1 : ∀ g ∈ st1.1, g.sels ≠ []) (hCV2 : CV M2 x (.slice a3 l3 p3) (.slice a4 l4 p4) (.slice a6 l6 p6))
  (hs : (bif gApplies e.s e.typ x.on_ then thrR e n x.sels st1 else some st1) = some s1)
  (fin : Hid (FinP e B ga blk off N cap k M1 wr s1 K2))
  (w2 : World) {A0 A1 A2 A3 A4 A5 A6 A7 A8 A9 D0 D1 D2 D3 D4 D5 D6 D7 D8 D9 E0 E1 E2 E3 E4 E5 E6 E7 E8 E9 G0 G1 G2 G3 G4 G5 G6 G7 G8 G9 H0 H1 H2 H3 H4 H5 H6 H7 H8 H9 I0 I1 I2 I3 I4 I5 I6 I7 I8 I9 J0 J1 J2 J3 J4 J5 J6 J7 J8 J9 O0 O1 O2 O3 O4 O5 O6 O7 O8 O9 P0 P1 P2 P3 P4 P5 P6 P7 P8 P9 S0 S1 S2 S3 S4 S5 S6 S7 S8 S9 T0 T1 T2 T3 T4 T5 T6 T7 T8 T9 U0 U1 U2 : Value} (hG2 : GR e B ga (.slice om st1.2.length capm) M2 w2 st1.1 st1.2 (.slice a0 l0 p0) (.string ⟨e.s.query.toArray⟩) (.string ⟨e.s.mutation.toArray⟩) (.slice b3 m3 n3) (.slice b4 m4 n4) (.slice b5 m5 n5) (.string ⟨e.typ.toArray⟩) oa1 cap1 vs1) (hf2 : From B M1 wr M2 w2) (K3 : Act → World → Prop) (hK3 : ∀ a w, Code.wp Try.prog (sndC inl41) (Exit.inBlock 2 (Exit.inBlock 1 (Exit.then K2 (Exit.then Kl (Exit.inBlock 0 (bodyPost Try.prog fn Q)))))) a w → K3 a w) :
  Code.wp Try.prog (fstC inl41) (Exit.then K3 (Exit.inBlock 2 (Exit.inBlock 1 (Exit.then K2 (Exit.then Kl (Exit.inBlock 0 (bodyPost Try.prog fn Q))))))) ⟨#[.pointer (some ⟨ga, 0, none⟩), .slice (some ⟨blk, off, none⟩) N cap, undef, undef, .int .i64 k, A0, A1, A2, A3, A4, A5, A6, A7, A8, A9, D0, D1, D2, D3, D4, D5, D6, D7, D8, D9, E0, E1, E2, E3, E4, E5, E6, E7, E8, E9, G0, G1, G2, G3, G4, G5, G6, G7, G8, G9, H0, H1, H2, H3, H4, H5, H6, H7, H8, H9, I0, I1, I2, I3, I4, I5, I6, I7, I8, I9, J0, J1, J2, J3, J4, J5, J6, J7, J8, J9, O0, O1, O2, O3, O4, O5, O6, O7, O8, O9, P0, P1, P2, P3, P4, P5, P6, P7, P8, P9, S0, S1, S2, S3, S4, S5, S6, S7, S8, S9, T0, T1, T2, T3, T4, T5, T6, T7, T8, T9, U0, U1, U2], []⟩ w2 := by
 replace hK3 := (id hK3 : Hid _)
 obtain ⟨q0, q1, q2, q3, q4, q5, q6⟩ := hxc.out M2 w2 hG2.cons hf2.mem
 have hd2 : Below w2.heap.size w2 w2.drew := (Below.refl w2.heap.size w2).drew
 have hG2d := hG2.quiet (quiet_below hd2) (cons_below hG2.cons hd2)
 have after2 : Hid (∀ (w3 : World) (M3 : Mem) (A0 A1 A2 A3 A4 A5 A6 A7 A8 A9 D0 D1 D2 D3 D4 D5 D6 D7 D8 D9 E0 E1 E2 E3 E4 E5 E6 E7 E8 E9 G0 G1 G2 G3 G4 G5 G6 G7 G8 G9 H0 H1 H2 H3 H4 H5 H6 H8 H9 I0 I1 I2 I3 I4 I5 I6 I7 I8 I9 J0 J1 J2 J3 J4 J5 J6 J7 J8 J9 O0 O1 O2 O3 O4 O5 O6 O7 O8 O9 P0 P1 P2 P3 P4 P5 P6 P7 P8 P9 S0 S1 S2 S3 S4 S5 S6 S7 S8 S9 T0 T1 T2 T3 T4 T5 T6 T7 T8 T9 U0 U1 U2 : Value), Cons M3 w3 → Quiet M2 w2.drew M3 w3 → K3 ⟨#[.pointer (some ⟨ga, 0, none⟩), .slice (some ⟨blk, off, none⟩) N cap, undef, undef, .int .i64 k, A0, A1, A2, A3, A4, A5, A6, A7, A8, A9, D0, D1, D2, D3, D4, D5, D6, D7, D8, D9, E0, E1, E2, E3, E4, E5, E6, E7, E8, E9, G0, G1, G2, G3, G4, G5, G6, G7, G8, G9, H0, H1, H2, H3, H4, H5, H6, .bool (gApplies e.s e.typ x.on_), H8, H9, I0, I1, I2, I3, I4, I5, I6, I7, I8, I9, J0, J1, J2, J3, J4, J5, J6, J7, J8, J9, O0, O1, O2, O3, O4, O5, O6, O7, O8, O9, P0, P1, P2, P3, P4, P5, P6, P7, P8, P9, S0, S1, S2, S3, S4, S5, S6, S7, S8, S9, T0, T1, T2, T3, T4, T5, T6, T7, T8, T9, U0, U1, U2], []⟩ w3) := by
  intro w3 M3; (iterate 112 intro _); intro hc3 hq3
  refine hK3.out _ _ ?_
  unfold inl41 kind41 loop41
  simp only [Try.f41, loopC, elseC, thenC, blkC, fstC, sndC]
  have hG3 := hG2d.quiet hq3 hc3
  have hg3 : GRh e B ga M3 w3 st1 := ⟨hne1, _, _, _, _, _, _, _, _, _, _, _, hG3⟩
  have hf3 : From B M1 wr M3 w3 := hf2.trans ((From.of_below (hd2.mono hG2.le)).trans (From.of_quiet hq3 hG2d.le))
  have hCV3 := hCV2.mono hq3.mem
  obtain ⟨r0, r1, r2, r3, r4, r5, r6⟩ := hxc.out M3 w3 hc3 (fun b i v hv => hq3.mem b i v (hf2.mem b i v hv))
  clear q0 q1 q2 q3 q4 q5 q6 r0 r1 r2 r3 r4 r5 hG2 hG2d
  cases ha : gApplies e.s e.typ x.on_
  ·rw [ha] at hs
   cases hs
   go_wp2
   apply fin.out M3 w3
   exact hg3
   exact hf3
  ·rw [ha] at hs
   simp only [cond_true] at hs
   have hih := ih.out x.sels st1 s1 M3 w3 _ hs hg3 hCV3.r6 hxsC hpx
   go_wp2_with (go_at_call 41; refine hih.mono ?_; rintro e' w4 ⟨rfl, M4, hg4, hf4⟩)
   apply fin.out M4 w4
   exact hg4
   exact (hf3.trans hf4)
 unfold inl41 kind41 loop41
 simp only [Try.f41, loopC, elseC, thenC, blkC, fstC, sndC]
 clear hK3
 obtain ⟨g0, g1, g2, g3, g4, g5, g6, g7, g8, glt⟩ := hG2.cells
 have hcall2 := rapplies_call e.s e.typ x.on_ hsok _ _ _ hG2d.cons hG2d.rs
 clear g3 g4 g5 g7 g8 q0 q1 q2 q3 q4 q6
 go_region_with (go_at_call 26; refine hcall2.mono ?_; rintro e' w3 ⟨M3, rfl, hc3, hq3⟩)
 all_goals exact after2.out _ M3 _ _ _ _ _ _ _ _ _ _ _ _ _ _ _ _ _ _ _ _ _ _ _ _ _ _ _ _ _ _ _ _ _ _ _ _ _ _ _ _ _ _ _ _ _ _ _ _ _ _ _ _ _ _ _ _ _ _ _ _ _ _ _ _ _ _ _ _ _ _ _ _ _ _ _ _ _ _ _ _ _ _ _ _ _ _ _ _ _ _ _ _ _ _ _ _ _ _ _ _ _ _ _ _ _ _ _ _ _ _ _ _ hc3 hq3
end Go.Proofs.Ytfbaogfcpldlnaa

import Derived.Test.YtphmfillajagdaaGreatWb
set_option maxRecDepth 100000
set_option linter.unusedVariables false
set_option linter.unusedSimpArgs false
set_option linter.unusedSimpArgs false
open Go Go.Ev Go.RowKit
namespace Go.Proofs.YtphmfillajagdaaGreat
noncomputable def r13C:Code:=fstC (sndC (inC (blB (bY Tryz.f13))))
noncomputable def r14C:Code:=sndC (sndC (inC (blB (bY Tryz.f13))))
set_option maxHeartbeats 4000000 in
theorem aZT {M:Mem} {w:World} (H:Nat) (x:GOp) (a2:Option Addr) (l2 p2:Nat) (a3:Option Addr) (l3 p3:Nat) (a4:Option Addr) (l4 p4:Nat) (hc:Cons M w) (hH:w.heap[H]?=some (.cells #[.int .i64 x.kind,.string ⟨x.name.toArray⟩,.slice a2 l2 p2,.slice a3 l3 p3,.slice a4 l4 p4] 38 (0,0))) (hf:∀ i,M H i=none) (hr3:Rv M noB (.slice (List.map aH x.dirs) [] false) (.slice a3 l3 p3)) (hr4:Rv M noB (.slice (List.map aG x.sels) [] false) (.slice a4 l4 p4)) (hl3:bkSl kN x.dirs<1073741824) (hl4:bJ x.sels<1073741824) (Q:Exit→Act→World→Prop) (v0 v1 v2 v3 v4 v6 v7 v8 v9 v10 v11 v12 v13 v14 v15 v16 v17 v18 v19 v20 v21 v22 v23 v24 v25 v26 v27 v28 v29 v30 v31 v32 v33 v34 v35 v36 v37 v38 v39 v40 v41 v42 v43 v44 v45 v46 v47 v48 v49 v50 v51 v52 v53 v54 v55 v56 v57 v58 v59 v60 v61 v62 v63 v64 v65:Value)
  (hC:∀ (w':World) (M':Mem) (b3:Option Addr) (m3 q3:Nat) (b4:Option Addr) (m4 q4:Nat) (z25 z26 z27 z28 z29 z30 z31 z32:Value),Stp H M w M' w'→w'.heap[H]?=some (.cells #[.int .i64 x.kind,.string ⟨x.name.toArray⟩,.slice a2 l2 p2,.slice b3 m3 q3,.slice b4 m4 q4] 38 (0,0))→Rv M' noB (.slice (List.map aH x.dirs) [] false) (.slice b3 m3 q3)→Rv M' noB (.slice (List.map aG x.sels) [] false) (.slice b4 m4 q4)→Q .normal ⟨#[v0,v1,v2,v3,v4,.pointer (some ⟨H,0,none⟩),v6,v7,v8,v9,v10,v11,v12,v13,v14,v15,v16,v17,v18,v19,v20,v21,v22,v23,v24,z25,z26,z27,z28,z29,z30,z31,z32,v33,v34,v35,v36,v37,v38,v39,v40,v41,v42,v43,v44,v45,v46,v47,v48,v49,v50,v51,v52,v53,v54,v55,v56,v57,v58,v59,v60,v61,v62,v63,v64,v65],[]⟩ w') :
  Code.wp Tryz.prog r7C Q ⟨#[v0,v1,v2,v3,v4,.pointer (some ⟨H,0,none⟩),v6,v7,v8,v9,v10,v11,v12,v13,v14,v15,v16,v17,v18,v19,v20,v21,v22,v23,v24,v25,v26,v27,v28,v29,v30,v31,v32,v33,v34,v35,v36,v37,v38,v39,v40,v41,v42,v43,v44,v45,v46,v47,v48,v49,v50,v51,v52,v53,v54,v55,v56,v57,v58,v59,v60,v61,v62,v63,v64,v65],[]⟩ w:=by
 have hHl:H<w.heap.size:=(Array.getElem?_eq_some_iff.1 hH).1
 have k3:w.cell? ⟨H,3,none⟩=some (.slice a3 l3 p3):=by rw [cell_of_row w H _ _ _ _ hH];rfl
 have k4:w.cell? ⟨H,4,none⟩=some (.slice a4 l4 p4):=by rw [cell_of_row w H _ _ _ _ hH];rfl
 have fin:Hid (∀ (w2 w3:World) (M2 M3:Mem) (b3:Option Addr) (m3 q3:Nat) (b4:Option Addr) (m4 q4:Nat) (z25 z26 z27 z28 z29 z30 z31 z32:Value),Cons M2 w2→Quiet M w.drew M2 w2→Cons M3 w3→Quiet M2 w2 M3 w3→Rv M2 noB (.slice (List.map aH x.dirs) [] false) (.slice b3 m3 q3)→Rv M3 noB (.slice (List.map aG x.sels) [] false) (.slice b4 m4 q4)→Q .normal ⟨#[v0,v1,v2,v3,v4,.pointer (some ⟨H,0,none⟩),v6,v7,v8,v9,v10,v11,v12,v13,v14,v15,v16,v17,v18,v19,v20,v21,v22,v23,v24,z25,z26,z27,z28,z29,z30,z31,z32,v33,v34,v35,v36,v37,v38,v39,v40,v41,v42,v43,v44,v45,v46,v47,v48,v49,v50,v51,v52,v53,v54,v55,v56,v57,v58,v59,v60,v61,v62,v63,v64,v65],[]⟩ ((w3.setCell ⟨H,3,none⟩ (.slice b3 m3 q3)).setCell ⟨H,4,none⟩ (.slice b4 m4 q4))):=by
  intro w2 w3 M2 M3 b3 m3 q3 b4 m4 q4 z25 z26 z27 z28 z29 z30 z31 z32 hc2 hq2 hc3 hq3 h3 h4
  have S0:=((Stp.drew (H:=H) hc).trans (Stp.quiet hq2 hc2)).trans (Stp.quiet hq3 hc3)
  have S1:=S0.trans (Stp.set S0.cons (S0.free hHl hf) 3 (.slice b3 m3 q3))
  have S2:=S1.trans (Stp.set S1.cons (S1.free hHl hf) 4 (.slice b4 m4 q4))
  have e2:w3.heap[H]?=w.heap[H]?:=(hq3.old H (Nat.lt_of_lt_of_le hHl hq2.size)).1.trans (hq2.old H hHl).1
  exact hC _ _ _ _ _ _ _ _ _ _ _ _ _ _ _ _ S2 (heap_setCell_same _ H 4 _ _ _ (heap_setCell_same _ H 3 _ _ _ (e2.trans hH))) (h3.mono hq3.mem (fun _ _ _ h=>h)) h4
 have h36:=aPr x.dirs hl3 (M:=M) (w:=w.drew) (.slice a3 l3 p3) (aEu hc) hr3
 have h37:=fun (M2:Mem) (w2:World) (hc2:Cons M2 w2) (hq2:Quiet M w.drew M2 w2)=>aPs x.sels hl4 (M:=M2) (w:=w2) (.slice a4 l4 p4) hc2 (hr4.mono hq2.mem (fun _ _ _ h=>h))
 have hcl:Hid (∀ (M2:Mem) (w2:World),Quiet M w.drew M2 w2→w2.cell? ⟨H,4,none⟩=some (.slice a4 l4 p4)):=fun M2 w2 hq2=>(World.cell?_of_block (a:=⟨H,4,none⟩) (hq2.old H hHl).1).trans k4
 have hst:Hid (∀ (M2:Mem) (w2:World) (M3:Mem) (w3:World),Quiet M w.drew M2 w2→Quiet M2 w2 M3 w3→w3.cell? ⟨H,3,none⟩=some (.slice a3 l3 p3)∧w3.frozen? ⟨H,3,none⟩=false∧w3.cell? ⟨H,4,none⟩=some (.slice a4 l4 p4)∧w3.frozen? ⟨H,4,none⟩=false):=by
  intro M2 w2 M3 w3 hq2 hq3
  have e2:w3.heap[H]?=w.heap[H]?:=(hq3.old H (Nat.lt_of_lt_of_le hHl hq2.size)).1.trans (hq2.old H hHl).1
  exact ⟨(World.cell?_of_block (a:=⟨H,3,none⟩) e2).trans k3,frozen_of_row _ _ _ _ _ (e2.trans hH),(World.cell?_of_block (a:=⟨H,4,none⟩) e2).trans k4,frozen_of_row _ _ _ _ _ (e2.trans hH)⟩
 replace h37:=(id h37:Hid _)
 clear hC hH
 refine Code.wp_mono (Q:=Exit.then (Q .normal) (fun _ _ _=>False)) (fun e a w h=>by cases e<;>first | exact h | exact h.elim) ?_
 unfold r7C
 simp only [Tryz.f13,bY,inC,blA,blB,blkC,lopC,fstC,sndC]
 go_wp2
 go_region_with (first | (go_at_call 36;refine h36.mono ?_;rintro e' w2 ⟨b3,m3,q3,M2,rfl,hv3,hc2,hq2⟩;have j4:=hcl.out M2 w2 hq2) | (go_at_call 37;have h37b:=h37.out M2 w2 hc2 hq2;refine h37b.mono ?_;rintro e' w3 ⟨b4,m4,q4,M3,rfl,hv4,hc3,hq3⟩;obtain ⟨i1,i2,i3,i4⟩:=hst.out M2 w2 M3 w3 hq2 hq3))
 all_goals exact fin.out w2 w3 M2 M3 b3 m3 q3 b4 m4 q4 _ _ _ _ _ _ _ _ hc2 hq2 hc3 hq3 hv3 hv4
set_option maxHeartbeats 4000000 in
theorem aZU {M:Mem} {w:World} (H:Nat) (x:GFrag) (a3:Option Addr) (l3 p3:Nat) (a4:Option Addr) (l4 p4:Nat) (hc:Cons M w) (hH:w.heap[H]?=some (.cells #[.string ⟨x.name.toArray⟩,.string ⟨x.on_.toArray⟩,.slice a3 l3 p3,.slice a4 l4 p4] 68 (0,0))) (hf:∀ i,M H i=none) (hr3:Rv M noB (.slice (List.map aH x.dirs) [] false) (.slice a3 l3 p3)) (hr4:Rv M noB (.slice (List.map aG x.sels) [] false) (.slice a4 l4 p4)) (hl3:bkSl kN x.dirs<1073741824) (hl4:bJ x.sels<1073741824) (Q:Exit→Act→World→Prop) (v0 v1 v2 v3 v4 v5 v6 v8 v9 v10 v11 v12 v13 v14 v15 v16 v17 v18 v19 v20 v21 v22 v23 v24 v25 v26 v27 v28 v29 v30 v31 v32 v33 v34 v35 v36 v37 v38 v39 v40 v41 v42 v43 v44 v45 v46 v47 v48 v49 v50 v51 v52 v53 v54 v55 v56 v57 v58 v59 v60 v61 v62 v63 v64 v65:Value)
  (hC:∀ (w':World) (M':Mem) (b3:Option Addr) (m3 q3:Nat) (b4:Option Addr) (m4 q4:Nat) (z51 z52 z53 z54 z55 z56 z57 z58:Value),Stp H M w M' w'→w'.heap[H]?=some (.cells #[.string ⟨x.name.toArray⟩,.string ⟨x.on_.toArray⟩,.slice b3 m3 q3,.slice b4 m4 q4] 68 (0,0))→Rv M' noB (.slice (List.map aH x.dirs) [] false) (.slice b3 m3 q3)→Rv M' noB (.slice (List.map aG x.sels) [] false) (.slice b4 m4 q4)→Q .normal ⟨#[v0,v1,v2,v3,v4,v5,v6,.pointer (some ⟨H,0,none⟩),v8,v9,v10,v11,v12,v13,v14,v15,v16,v17,v18,v19,v20,v21,v22,v23,v24,v25,v26,v27,v28,v29,v30,v31,v32,v33,v34,v35,v36,v37,v38,v39,v40,v41,v42,v43,v44,v45,v46,v47,v48,v49,v50,z51,z52,z53,z54,z55,z56,z57,z58,v59,v60,v61,v62,v63,v64,v65],[]⟩ w') :
  Code.wp Tryz.prog r13C Q ⟨#[v0,v1,v2,v3,v4,v5,v6,.pointer (some ⟨H,0,none⟩),v8,v9,v10,v11,v12,v13,v14,v15,v16,v17,v18,v19,v20,v21,v22,v23,v24,v25,v26,v27,v28,v29,v30,v31,v32,v33,v34,v35,v36,v37,v38,v39,v40,v41,v42,v43,v44,v45,v46,v47,v48,v49,v50,v51,v52,v53,v54,v55,v56,v57,v58,v59,v60,v61,v62,v63,v64,v65],[]⟩ w:=by
 have hHl:H<w.heap.size:=(Array.getElem?_eq_some_iff.1 hH).1
 have k3:w.cell? ⟨H,2,none⟩=some (.slice a3 l3 p3):=by rw [cell_of_row w H _ _ _ _ hH];rfl
 have k4:w.cell? ⟨H,3,none⟩=some (.slice a4 l4 p4):=by rw [cell_of_row w H _ _ _ _ hH];rfl
 have fin:Hid (∀ (w2 w3:World) (M2 M3:Mem) (b3:Option Addr) (m3 q3:Nat) (b4:Option Addr) (m4 q4:Nat) (z51 z52 z53 z54 z55 z56 z57 z58:Value),Cons M2 w2→Quiet M w.drew M2 w2→Cons M3 w3→Quiet M2 w2 M3 w3→Rv M2 noB (.slice (List.map aH x.dirs) [] false) (.slice b3 m3 q3)→Rv M3 noB (.slice (List.map aG x.sels) [] false) (.slice b4 m4 q4)→Q .normal ⟨#[v0,v1,v2,v3,v4,v5,v6,.pointer (some ⟨H,0,none⟩),v8,v9,v10,v11,v12,v13,v14,v15,v16,v17,v18,v19,v20,v21,v22,v23,v24,v25,v26,v27,v28,v29,v30,v31,v32,v33,v34,v35,v36,v37,v38,v39,v40,v41,v42,v43,v44,v45,v46,v47,v48,v49,v50,z51,z52,z53,z54,z55,z56,z57,z58,v59,v60,v61,v62,v63,v64,v65],[]⟩ ((w3.setCell ⟨H,2,none⟩ (.slice b3 m3 q3)).setCell ⟨H,3,none⟩ (.slice b4 m4 q4))):=by
  intro w2 w3 M2 M3 b3 m3 q3 b4 m4 q4 z51 z52 z53 z54 z55 z56 z57 z58 hc2 hq2 hc3 hq3 h3 h4
  have S0:=((Stp.drew (H:=H) hc).trans (Stp.quiet hq2 hc2)).trans (Stp.quiet hq3 hc3)
  have S1:=S0.trans (Stp.set S0.cons (S0.free hHl hf) 2 (.slice b3 m3 q3))
  have S2:=S1.trans (Stp.set S1.cons (S1.free hHl hf) 3 (.slice b4 m4 q4))
  have e2:w3.heap[H]?=w.heap[H]?:=(hq3.old H (Nat.lt_of_lt_of_le hHl hq2.size)).1.trans (hq2.old H hHl).1
  exact hC _ _ _ _ _ _ _ _ _ _ _ _ _ _ _ _ S2 (heap_setCell_same _ H 3 _ _ _ (heap_setCell_same _ H 2 _ _ _ (e2.trans hH))) (h3.mono hq3.mem (fun _ _ _ h=>h)) h4
 have h36:=aPr x.dirs hl3 (M:=M) (w:=w.drew) (.slice a3 l3 p3) (aEu hc) hr3
 have h37:=fun (M2:Mem) (w2:World) (hc2:Cons M2 w2) (hq2:Quiet M w.drew M2 w2)=>aPs x.sels hl4 (M:=M2) (w:=w2) (.slice a4 l4 p4) hc2 (hr4.mono hq2.mem (fun _ _ _ h=>h))
 have hcl:Hid (∀ (M2:Mem) (w2:World),Quiet M w.drew M2 w2→w2.cell? ⟨H,3,none⟩=some (.slice a4 l4 p4)):=fun M2 w2 hq2=>(World.cell?_of_block (a:=⟨H,3,none⟩) (hq2.old H hHl).1).trans k4
 have hst:Hid (∀ (M2:Mem) (w2:World) (M3:Mem) (w3:World),Quiet M w.drew M2 w2→Quiet M2 w2 M3 w3→w3.cell? ⟨H,2,none⟩=some (.slice a3 l3 p3)∧w3.frozen? ⟨H,2,none⟩=false∧w3.cell? ⟨H,3,none⟩=some (.slice a4 l4 p4)∧w3.frozen? ⟨H,3,none⟩=false):=by
  intro M2 w2 M3 w3 hq2 hq3
  have e2:w3.heap[H]?=w.heap[H]?:=(hq3.old H (Nat.lt_of_lt_of_le hHl hq2.size)).1.trans (hq2.old H hHl).1
  exact ⟨(World.cell?_of_block (a:=⟨H,2,none⟩) e2).trans k3,frozen_of_row _ _ _ _ _ (e2.trans hH),(World.cell?_of_block (a:=⟨H,3,none⟩) e2).trans k4,frozen_of_row _ _ _ _ _ (e2.trans hH)⟩
 replace h37:=(id h37:Hid _)
 clear hC hH
 refine Code.wp_mono (Q:=Exit.then (Q .normal) (fun _ _ _=>False)) (fun e a w h=>by cases e<;>first | exact h | exact h.elim) ?_
 unfold r13C
 simp only [Tryz.f13,bY,inC,blA,blB,blkC,lopC,fstC,sndC]
 go_wp2
 go_region_with (first | (go_at_call 36;refine h36.mono ?_;rintro e' w2 ⟨b3,m3,q3,M2,rfl,hv3,hc2,hq2⟩;have j4:=hcl.out M2 w2 hq2) | (go_at_call 37;have h37b:=h37.out M2 w2 hc2 hq2;refine h37b.mono ?_;rintro e' w3 ⟨b4,m4,q4,M3,rfl,hv4,hc3,hq3⟩;obtain ⟨i1,i2,i3,i4⟩:=hst.out M2 w2 M3 w3 hq2 hq3))
 all_goals exact fin.out w2 w3 M2 M3 b3 m3 q3 b4 m4 q4 _ _ _ _ _ _ _ _ hc2 hq2 hc3 hq3 hv3 hv4
open Go Go.Ev Go.RowKit
set_option maxHeartbeats 4000000 in
theorem bCl {w:World} (H Z B:Nat) (x:GOp) (a2:Option Addr) (l2 p2:Nat) (a3:Option Addr) (l3 p3:Nat) (a4:Option Addr) (l4 p4:Nat) (ga:Option Addr) (n cap:Nat) (ys:List Value) (vz:Value) (hH:w.heap[H]?=some (.cells #[.int .i64 x.kind,.string ⟨x.name.toArray⟩,.slice a2 l2 p2,.slice a3 l3 p3,.slice a4 l4 p4] 38 (0,0))) (hZ:w.heap[Z]?=some (.cells #[.slice ga n cap,vz] 28 (0,0))) (hown:w.ownsRow B 38 5 (.slice ga n cap) n ys) (hZB:Z<B) (hB:B≤w.heap.size) (hn:n≤1048576) (Q:Exit→Act→World→Prop) (v0 v1 v2 v4 v6 v7 v8 v9 v10 v11 v12 v13 v14 v15 v16 v17 v18 v19 v20 v21 v22 v23 v24 v25 v26 v27 v28 v29 v30 v31 v32 v33 v34 v35 v36 v37 v38 v39 v40 v41 v42 v43 v44 v45 v46 v47 v48 v49 v50 v51 v52 v53 v54 v55 v56 v57 v58 v59 v60 v61 v62 v63 v64 v65:Value)
  (hC:∀ (w':World) (g cap':Nat) (z33 z34 z35 z36 z37 z38:Value),w'.ownsRow B 38 5 (.slice (some ⟨g,0,none⟩) (n+1) cap') (n+1) (ys++[.int .i64 x.kind,.string ⟨x.name.toArray⟩,.slice a2 l2 p2,.slice a3 l3 p3,.slice a4 l4 p4])→w'.heap[Z]?=some (.cells #[.slice (some ⟨g,0,none⟩) (n+1) cap',vz] 28 (0,0))→(∀ b,b<w.heap.size→b≠Z→(Value.slice ga n cap).ownBlock≠some b→w'.heap[b]?=w.heap[b]?)→((Value.slice ga n cap).ownBlock=some g∨w.heap.size≤g)→w'.os=w.os→w'.tape=w.tape→w'.output=w.output→w.heap.size≤w'.heap.size→Q .normal ⟨#[v0,v1,v2,.pointer (some ⟨Z,0,none⟩),v4,.pointer (some ⟨H,0,none⟩),v6,v7,v8,v9,v10,v11,v12,v13,v14,v15,v16,v17,v18,v19,v20,v21,v22,v23,v24,v25,v26,v27,v28,v29,v30,v31,v32,z33,z34,z35,z36,z37,z38,v39,v40,v41,v42,v43,v44,v45,v46,v47,v48,v49,v50,v51,v52,v53,v54,v55,v56,v57,v58,v59,v60,v61,v62,v63,v64,v65],[]⟩ w') :
  Code.wp Tryz.prog r8C Q ⟨#[v0,v1,v2,.pointer (some ⟨Z,0,none⟩),v4,.pointer (some ⟨H,0,none⟩),v6,v7,v8,v9,v10,v11,v12,v13,v14,v15,v16,v17,v18,v19,v20,v21,v22,v23,v24,v25,v26,v27,v28,v29,v30,v31,v32,v33,v34,v35,v36,v37,v38,v39,v40,v41,v42,v43,v44,v45,v46,v47,v48,v49,v50,v51,v52,v53,v54,v55,v56,v57,v58,v59,v60,v61,v62,v63,v64,v65],[]⟩ w:=by
 have hHl:H<w.heap.size:=(Array.getElem?_eq_some_iff.1 hH).1
 have hZl:Z<w.heap.size:=(Array.getElem?_eq_some_iff.1 hZ).1
 obtain ⟨i0,z0,hi,hz0,hz1,hz2,hzc⟩:=aR8 Tryz.i38
 have k3:w.cell? ⟨Z,0,none⟩=some (.slice ga n cap):=by rw [cell_of_row w Z _ _ _ _ hZ];rfl
 have c0:w.cell? ⟨H,0,none⟩=_:=cell_of_row w H 0 _ _ _ hH
 have c1:w.cell? ⟨H,1,none⟩=_:=cell_of_row w H 1 _ _ _ hH
 have c2:w.cell? ⟨H,2,none⟩=_:=cell_of_row w H 2 _ _ _ hH
 have c3:w.cell? ⟨H,3,none⟩=_:=cell_of_row w H 3 _ _ _ hH
 have c4:w.cell? ⟨H,4,none⟩=_:=cell_of_row w H 4 _ _ _ hH
 simp only [List.getElem?_toArray,List.getElem?_cons_zero,List.getElem?_cons_succ] at c0 c1 c2 c3 c4
 have hn0:=World.news_of_block (cs := #[.int .i64 x.kind,.string ⟨x.name.toArray⟩,.slice a2 l2 p2,.slice a3 l3 p3,.slice a4 l4 p4]) (heap_alloc_new w (.cells #[.int .i64 x.kind,.string ⟨x.name.toArray⟩,.slice a2 l2 p2,.slice a3 l3 p3,.slice a4 l4 p4] 38))
 have hown2:=hown.alloc (.cells #[.int .i64 x.kind,.string ⟨x.name.toArray⟩,.slice a2 l2 p2,.slice a3 l3 p3,.slice a4 l4 p4] 38)
 have hsz:(w.alloc (.cells #[.int .i64 x.kind,.string ⟨x.name.toArray⟩,.slice a2 l2 p2,.slice a3 l3 p3,.slice a4 l4 p4] 38)).heap.size=w.heap.size+1:=by simp
 have hBs:B≤(w.alloc (.cells #[.int .i64 x.kind,.string ⟨x.name.toArray⟩,.slice a2 l2 p2,.slice a3 l3 p3,.slice a4 l4 p4] 38)).heap.size:=by omega
 replace hC:=(id hC:Hid _)
 have hZo:(Value.slice ga n cap).ownBlock≠some Z:=fun e=>by have:=(hown.lt Z e).1;omega
 have eZ0:(w.alloc (.cells #[.int .i64 x.kind,.string ⟨x.name.toArray⟩,.slice a2 l2 p2,.slice a3 l3 p3,.slice a4 l4 p4] 38)).heap[Z]?=w.heap[Z]?:=heap_alloc_old w _ hZl
 replace hZo:=(id hZo:Hid _)
 replace eZ0:=(id eZ0:Hid _)
 unfold r8C
 simp only [Tryz.f13,bY,inC,blA,blB,blkC,lopC,fstC,sndC]
 go_wp2_with (at_builtin;refine wpList_append_lies _ rfl (.tmp 34) (.tmp 36) 25 rfl B 38 i0 _ 5 96 Tryz.u25 hi hz0 hz1 hz2 hzc (by decide) (.slice ga n cap) n ys rfl hown2 ⟨w.heap.size,0,none⟩ 1 1 [.int .i64 x.kind,.string ⟨x.name.toArray⟩,.slice a2 l2 p2,.slice a3 l3 p3,.slice a4 l4 p4] rfl rfl hn0 (by intro u hu;simp only [List.mem_cons,List.not_mem_nil,or_false] at hu;rcases hu with rfl | rfl | rfl | rfl | rfl<;>rfl) (by decide) (by simp [maxLen];omega) (by omega) hBs _ rfl ?_;intro g cap' w1 hown3 hgrow hat hlt;have e1:=hgrow.block Z (by rw [hsz];omega) (fun e=>hZo.out e.symm);have k4:=(World.cell?_of_block (a:=⟨Z,0,none⟩) (e1.trans eZ0.out)).trans k3;have k5:=frozen_of_row w1 Z 0 _ _ ((e1.trans eZ0.out).trans hZ))
 refine hC.out _ g cap' _ _ _ _ _ _ (ownsRow_setCell_other hown3 (a:=⟨Z,0,none⟩) (by have:=(hown3.lt g rfl).1;simp only [Value.ownBlock,ne_eq,Option.some.injEq];omega) _) (heap_setCell_same w1 Z 0 _ _ _ (e1.trans (eZ0.out.trans hZ))) ?_ ?_ hgrow.os hgrow.tape hgrow.output ?_
 ·intro b hb hbz hbo
  rw [Below.heap_setCell _ _ _ _ hbz]
  exact (hgrow.block b (by rw [hsz];omega) (fun e=>hbo e.symm)).trans (heap_alloc_old w _ hb)
 ·rcases hat with h | h
  ·exact .inl h
  ·right;omega
 ·have:=hgrow.size
  simp only [World.setCell,Array.size_modify]
  omega
set_option maxHeartbeats 4000000 in
theorem bCm {w:World} (H Z B:Nat) (x:GFrag) (a3:Option Addr) (l3 p3:Nat) (a4:Option Addr) (l4 p4:Nat) (ga:Option Addr) (n cap:Nat) (ys:List Value) (vz:Value) (hH:w.heap[H]?=some (.cells #[.string ⟨x.name.toArray⟩,.string ⟨x.on_.toArray⟩,.slice a3 l3 p3,.slice a4 l4 p4] 68 (0,0))) (hZ:w.heap[Z]?=some (.cells #[vz,.slice ga n cap] 28 (0,0))) (hown:w.ownsRow B 68 4 (.slice ga n cap) n ys) (hZB:Z<B) (hB:B≤w.heap.size) (hn:n≤1048576) (Q:Exit→Act→World→Prop) (v0 v1 v2 v4 v5 v6 v8 v9 v10 v11 v12 v13 v14 v15 v16 v17 v18 v19 v20 v21 v22 v23 v24 v25 v26 v27 v28 v29 v30 v31 v32 v33 v34 v35 v36 v37 v38 v39 v40 v41 v42 v43 v44 v45 v46 v47 v48 v49 v50 v51 v52 v53 v54 v55 v56 v57 v58 v59 v60 v61 v62 v63 v64 v65:Value)
  (hC:∀ (w':World) (g cap':Nat) (z59 z60 z61 z62 z63 z64:Value),w'.ownsRow B 68 4 (.slice (some ⟨g,0,none⟩) (n+1) cap') (n+1) (ys++[.string ⟨x.name.toArray⟩,.string ⟨x.on_.toArray⟩,.slice a3 l3 p3,.slice a4 l4 p4])→w'.heap[Z]?=some (.cells #[vz,.slice (some ⟨g,0,none⟩) (n+1) cap'] 28 (0,0))→(∀ b,b<w.heap.size→b≠Z→(Value.slice ga n cap).ownBlock≠some b→w'.heap[b]?=w.heap[b]?)→((Value.slice ga n cap).ownBlock=some g∨w.heap.size≤g)→w'.os=w.os→w'.tape=w.tape→w'.output=w.output→w.heap.size≤w'.heap.size→Q .normal ⟨#[v0,v1,v2,.pointer (some ⟨Z,0,none⟩),v4,v5,v6,.pointer (some ⟨H,0,none⟩),v8,v9,v10,v11,v12,v13,v14,v15,v16,v17,v18,v19,v20,v21,v22,v23,v24,v25,v26,v27,v28,v29,v30,v31,v32,v33,v34,v35,v36,v37,v38,v39,v40,v41,v42,v43,v44,v45,v46,v47,v48,v49,v50,v51,v52,v53,v54,v55,v56,v57,v58,z59,z60,z61,z62,z63,z64,v65],[]⟩ w') :
  Code.wp Tryz.prog r14C Q ⟨#[v0,v1,v2,.pointer (some ⟨Z,0,none⟩),v4,v5,v6,.pointer (some ⟨H,0,none⟩),v8,v9,v10,v11,v12,v13,v14,v15,v16,v17,v18,v19,v20,v21,v22,v23,v24,v25,v26,v27,v28,v29,v30,v31,v32,v33,v34,v35,v36,v37,v38,v39,v40,v41,v42,v43,v44,v45,v46,v47,v48,v49,v50,v51,v52,v53,v54,v55,v56,v57,v58,v59,v60,v61,v62,v63,v64,v65],[]⟩ w:=by
 have hHl:H<w.heap.size:=(Array.getElem?_eq_some_iff.1 hH).1
 have hZl:Z<w.heap.size:=(Array.getElem?_eq_some_iff.1 hZ).1
 obtain ⟨i0,z0,hi,hz0,hz1,hz2,hzc⟩:=aR8 Tryz.i68
 have k3:w.cell? ⟨Z,1,none⟩=some (.slice ga n cap):=by rw [cell_of_row w Z _ _ _ _ hZ];rfl
 have c0:w.cell? ⟨H,0,none⟩=_:=cell_of_row w H 0 _ _ _ hH
 have c1:w.cell? ⟨H,1,none⟩=_:=cell_of_row w H 1 _ _ _ hH
 have c2:w.cell? ⟨H,2,none⟩=_:=cell_of_row w H 2 _ _ _ hH
 have c3:w.cell? ⟨H,3,none⟩=_:=cell_of_row w H 3 _ _ _ hH
 simp only [List.getElem?_toArray,List.getElem?_cons_zero,List.getElem?_cons_succ] at c0 c1 c2 c3
 have hn0:=World.news_of_block (cs := #[.string ⟨x.name.toArray⟩,.string ⟨x.on_.toArray⟩,.slice a3 l3 p3,.slice a4 l4 p4]) (heap_alloc_new w (.cells #[.string ⟨x.name.toArray⟩,.string ⟨x.on_.toArray⟩,.slice a3 l3 p3,.slice a4 l4 p4] 68))
 have hown2:=hown.alloc (.cells #[.string ⟨x.name.toArray⟩,.string ⟨x.on_.toArray⟩,.slice a3 l3 p3,.slice a4 l4 p4] 68)
 have hsz:(w.alloc (.cells #[.string ⟨x.name.toArray⟩,.string ⟨x.on_.toArray⟩,.slice a3 l3 p3,.slice a4 l4 p4] 68)).heap.size=w.heap.size+1:=by simp
 have hBs:B≤(w.alloc (.cells #[.string ⟨x.name.toArray⟩,.string ⟨x.on_.toArray⟩,.slice a3 l3 p3,.slice a4 l4 p4] 68)).heap.size:=by omega
 replace hC:=(id hC:Hid _)
 have hZo:(Value.slice ga n cap).ownBlock≠some Z:=fun e=>by have:=(hown.lt Z e).1;omega
 have eZ0:(w.alloc (.cells #[.string ⟨x.name.toArray⟩,.string ⟨x.on_.toArray⟩,.slice a3 l3 p3,.slice a4 l4 p4] 68)).heap[Z]?=w.heap[Z]?:=heap_alloc_old w _ hZl
 replace hZo:=(id hZo:Hid _)
 replace eZ0:=(id eZ0:Hid _)
 unfold r14C
 simp only [Tryz.f13,bY,inC,blA,blB,blkC,lopC,fstC,sndC]
 go_wp2_with (at_builtin;refine wpList_append_lies _ rfl (.tmp 60) (.tmp 62) 26 rfl B 68 i0 _ 4 80 Tryz.u26 hi hz0 hz1 hz2 hzc (by decide) (.slice ga n cap) n ys rfl hown2 ⟨w.heap.size,0,none⟩ 1 1 [.string ⟨x.name.toArray⟩,.string ⟨x.on_.toArray⟩,.slice a3 l3 p3,.slice a4 l4 p4] rfl rfl hn0 (by intro u hu;simp only [List.mem_cons,List.not_mem_nil,or_false] at hu;rcases hu with rfl | rfl | rfl | rfl<;>rfl) (by decide) (by simp [maxLen];omega) (by omega) hBs _ rfl ?_;intro g cap' w1 hown3 hgrow hat hlt;have e1:=hgrow.block Z (by rw [hsz];omega) (fun e=>hZo.out e.symm);have k4:=(World.cell?_of_block (a:=⟨Z,1,none⟩) (e1.trans eZ0.out)).trans k3;have k5:=frozen_of_row w1 Z 1 _ _ ((e1.trans eZ0.out).trans hZ))
 refine hC.out _ g cap' _ _ _ _ _ _ (ownsRow_setCell_other hown3 (a:=⟨Z,1,none⟩) (by have:=(hown3.lt g rfl).1;simp only [Value.ownBlock,ne_eq,Option.some.injEq];omega) _) (heap_setCell_same w1 Z 1 _ _ _ (e1.trans (eZ0.out.trans hZ))) ?_ ?_ hgrow.os hgrow.tape hgrow.output ?_
 ·intro b hb hbz hbo
  rw [Below.heap_setCell _ _ _ _ hbz]
  exact (hgrow.block b (by rw [hsz];omega) (fun e=>hbo e.symm)).trans (heap_alloc_old w _ hb)
 ·rcases hat with h | h
  ·exact .inl h
  ·right;omega
 ·have:=hgrow.size
  simp only [World.setCell,Array.size_modify]
  omega
noncomputable def cAC:Code:=fstC (lopC (blkC (blA (bY Tryz.f13))))
noncomputable def r5C:Code:=fstC (inC (blA (bY Tryz.f13)))
noncomputable def r4C:Code:=sndC (sndC (lopC (blkC (blA (bY Tryz.f13)))))
structure DI (M:Mem) (w:World) (M1:Mem) (wr:World) (k:Nat) (ops:List GOp) (a' b' vo:Value) (ys:List Value):Prop where
 box1:wr.heap[w.heap.size]?=some (.cells #[a',b'] 28 (0,0))
 box2:wr.heap[w.heap.size+1]?=some (.cells #[.slice none 0 0,.slice none 0 0] 28 (0,0))
 out:wr.heap[w.heap.size+2]?=some (.cells #[vo,.slice none 0 0] 28 (0,0))
 own:wr.ownsRow (w.heap.size+3) 38 5 vo k ys
 rows:OpRow M1 (ops.take k) ys
 cons:Cons M1 wr
 frm:From w.heap.size M w M1 wr
 f1:∀ i,M1 (w.heap.size+1) i=none
 f2:∀ i,M1 (w.heap.size+2) i=none
 fo:∀ g,vo.ownBlock=some g→∀ i,M1 g i=none
theorem aGT {w:World} {B e size n:Nat} {v:Value} {xs:List Value} (h:w.ownsRow B e size v n xs):∃ ga cap,v = .slice ga n cap:=by
 rcases h.2 with ⟨rfl,h0⟩ | ⟨g,cap,cur,rfl,_⟩
 ·exact ⟨none,0,by rw [h0]⟩
 ·exact ⟨_,_,rfl⟩
theorem Stp.alloc {H:Nat} {M:Mem} {w:World} (hc:Cons M w) (o:Obj):Stp H M w M (w.alloc o):=⟨fun _ _ _ h=>h,fun b hb _=>heap_alloc_old w o hb,fun _ _ _=>rfl,rfl,rfl,rfl,by simp,iB hc fun k hk _=>heap_alloc_old w o hk⟩
theorem DI.next {M M1 M3:Mem} {w wr w3 w4:World} {k:Nat} {ops:List GOp} {a' b' v2 v3 v4:Value} {ga:Option Addr} {gc g cap':Nat} {ys:List Value} {x:GOp} (hD:DI M w M1 wr k ops a' b' (.slice ga k gc) ys) (hx:ops[k]?=some x) (S:Stp wr.heap.size M1 wr M3 w3) (hc:OCV M3 x v2 v3 v4)
  (own':w4.ownsRow (w.heap.size+3) 38 5 (.slice (some ⟨g,0,none⟩) (k+1) cap') (k+1) (ys++aEs x v2 v3 v4)) (out':w4.heap[w.heap.size+2]?=some (.cells #[.slice (some ⟨g,0,none⟩) (k+1) cap',.slice none 0 0] 28 (0,0)))
  (blk:∀ b,b<w3.heap.size→b≠w.heap.size+2→(Value.slice ga k gc).ownBlock≠some b→w4.heap[b]?=w3.heap[b]?) (hg:(Value.slice ga k gc).ownBlock=some g∨w3.heap.size≤g) (hos:w4.os=w3.os) (hta:w4.tape=w3.tape) (hou:w4.output=w3.output) (hsz:w3.heap.size≤w4.heap.size) :
  DI M w M3 w4 (k+1) ops a' b' (.slice (some ⟨g,0,none⟩) (k+1) cap') (ys++aEs x v2 v3 v4):=by
 have hZ:w.heap.size+2<wr.heap.size:=(Array.getElem?_eq_some_iff.1 hD.out).1
 have hlow:∀ b,b<w.heap.size+2→w4.heap[b]?=wr.heap[b]?:=fun b hb =>
  (blk b (by have:=S.size;omega) (by omega) (fun e=>by have:=(hD.own.lt b e).1;omega)).trans (S.blk b (by omega) (by omega))
 refine ⟨(hlow _ (by omega)).trans hD.box1,(hlow _ (by omega)).trans hD.box2,out',own',?_,?_,?_,?_,?_,?_⟩
 ·have e:ops.take (k+1)=ops.take k++[x]:=by rw [List.take_add_one,hx];rfl
  rw [e]
  exact .snoc (hD.rows.mono S.mem) hc
 ·refine iB S.cons fun b hb ⟨i,hi⟩=>blk b hb (fun e=>hi ?_) (fun e=>hi ?_)
  ·rw [e,S.old _ hZ];exact hD.f2 i
  ·rw [S.old _ (hD.own.lt b e).2];exact hD.fo b e i
 ·exact hD.frm.trans ⟨S.mem,fun b hb i=>S.old b (by omega) i,hos.trans S.os,hta.trans S.tape,hou.trans S.output,Nat.le_trans S.size hsz,fun b hb=>hlow b (by omega)⟩
 ·intro i;rw [S.old _ (by omega)];exact hD.f1 i
 ·intro i;rw [S.old _ hZ];exact hD.f2 i
 ·intro b hb i
  have e:b=g:=by simpa [Value.ownBlock] using hb.symm
  subst e
  rcases hg with h | h
  ·rw [S.old _ (hD.own.lt b h).2];exact hD.fo b h i
  ·exact xQ S.cons h i
set_option maxHeartbeats 4000000 in
theorem aZV (ops:List GOp) (oa:Option Addr) (cap:Nat) (b':Value) (M:Mem) (w:World) (hN:ops.length≤1048576) (hcap:ops.length≤cap) (hsm:∀ x∈ops,x.vars.length≤1048576∧bkSl kN x.dirs<1073741824∧bJ x.sels<1073741824)
  (hat:ops≠[]→∃ blk off,oa=some ⟨blk,off,none⟩) (hcell:∀ (blk off:Nat),oa=some ⟨blk,off,none⟩→∀ (k:Nat) (x:GOp),ops[k]?=some x→∃ v2 v3 v4,OCV M x v2 v3 v4∧∀ j v,(aEs x v2 v3 v4)[j]?=some v→M blk (off+k*5+j)=some v)
  (M0:Mem) (w0:World) (h0:DI M w M0 w0 0 ops (.slice oa ops.length cap) b' (.slice none 0 0) []) (Q:Exit→Act→World→Prop) (v0 v2 v4 v5 v6 v7 v8 v9 v10 v11 v12 v13 v14 v15 v16 v17 v18 v19 v20 v21 v22 v23 v24 v25 v26 v27 v28 v29 v30 v31 v32 v33 v34 v35 v36 v37 v38 v39 v40 v41 v42 v43 v44 v45 v46 v47 v48 v49 v50 v51 v52 v53 v54 v55 v56 v57 v58 v59 v60 v61 v62 v63 v64 v65:Value)
  (hC:∀ (w':World) (M':Mem) (ga:Option Addr) (gc:Nat) (ys:List Value) (z4 z5 z9 z10 z11 z12 z13 z14 z15 z16 z17 z18 z19 z20 z21 z22 z23 z24 z25 z26 z27 z28 z29 z30 z31 z32 z33 z34 z35 z36 z37 z38:Value),DI M w M' w' ops.length ops (.slice oa ops.length cap) b' (.slice ga ops.length gc) ys→Q .normal ⟨#[v0,.pointer (some ⟨w.heap.size,0,none⟩),v2,.pointer (some ⟨w.heap.size+1+1,0,none⟩),z4,z5,v6,v7,v8,z9,z10,z11,z12,z13,z14,z15,z16,z17,z18,z19,z20,z21,z22,z23,z24,z25,z26,z27,z28,z29,z30,z31,z32,z33,z34,z35,z36,z37,z38,v39,v40,v41,v42,v43,v44,v45,v46,v47,v48,v49,v50,v51,v52,v53,v54,v55,v56,v57,v58,v59,v60,v61,v62,v63,v64,v65],[]⟩ w') :
  Code.wp Tryz.prog (fstC (sndC (sndC (bY Tryz.f13)))) Q ⟨#[v0,.pointer (some ⟨w.heap.size,0,none⟩),v2,.pointer (some ⟨w.heap.size+1+1,0,none⟩),v4,v5,v6,v7,v8,v9,v10,v11,v12,v13,v14,v15,v16,v17,v18,v19,v20,v21,v22,v23,v24,v25,v26,v27,v28,v29,v30,v31,v32,v33,v34,v35,v36,v37,v38,v39,v40,v41,v42,v43,v44,v45,v46,v47,v48,v49,v50,v51,v52,v53,v54,v55,v56,v57,v58,v59,v60,v61,v62,v63,v64,v65],[]⟩ w0:=by
 obtain ⟨N,hln⟩:∃ N,ops.length=N:=⟨_,rfl⟩
 rw [hln] at hN hcap
 simp only [hln] at hC h0
 replace hC:=(id hC:Hid _)
 have hb0:w0.cell? ⟨w.heap.size,0,none⟩=some (.slice oa N cap):=by rw [cell_of_row w0 _ 0 _ _ _ h0.box1];rfl
 simp only [Tryz.f13,bY,inC,blA,blB,blkC,lopC,fstC,sndC]
 go_wp2
 by_cases h0N:N=0
 ·subst h0N
  refine wp_loop_rounds 1 ?_;rw [rounds_succ];go_wp2
  exact hC.out _ _ _ _ _ _ _ _ _ _ _ _ _ _ _ _ _ _ _ _ _ _ _ _ _ _ _ _ _ _ _ _ _ _ _ _ _ h0
 obtain ⟨blk,off,rfl⟩:=hat (by intro e;rw [e] at hln;simp at hln;omega)
 go_loopw [4] (fun t4 wr=>∃ (k:Nat) (M1:Mem) (vo:Value) (ys:List Value),k≤N∧t4 = .int .i64 k∧DI M w M1 wr k ops (.slice (some ⟨blk,off,none⟩) N cap) b' vo ys) (fun t4 _=>N-(intOf t4).toNat)
 case atStart=>exact ⟨0,M0,_,[],Nat.zero_le _,rfl,h0⟩
 case round =>
  obtain ⟨k,M1,vo,ys,hk,rfl,hD⟩:=hrel
  have hb1:wr.cell? ⟨w.heap.size,0,none⟩=some (.slice (some ⟨blk,off,none⟩) N cap):=by rw [cell_of_row wr _ 0 _ _ _ hD.box1];rfl
  obtain ⟨x,a2,l2,p2,a3,l3,p3,a4,l4,p4,hx⟩:∃ x a2 l2 p2 a3 l3 p3 a4 l4 p4,k<N→ops[k]?=some x∧OCV M1 x (.slice a2 l2 p2) (.slice a3 l3 p3) (.slice a4 l4 p4)∧(∀ j v,(aEs x (.slice a2 l2 p2) (.slice a3 l3 p3) (.slice a4 l4 p4))[j]?=some v→wr.cell? ⟨blk,off+k*5+j,none⟩=some v):=by
   by_cases hkN:k<N
   ·have hg:=List.getElem?_eq_getElem (l:=ops) (i:=k) (by omega)
    obtain ⟨v2,v3,v4,h1,h2⟩:=hcell blk off rfl k _ hg
    obtain ⟨a2,l2,p2,rfl⟩:=nB h1.r2
    obtain ⟨a3,l3,p3,rfl⟩:=nB h1.r3
    obtain ⟨a4,l4,p4,rfl⟩:=nB h1.r4
    exact ⟨_,a2,l2,p2,a3,l3,p3,a4,l4,p4,fun _=>⟨hg,h1.mono hD.frm.mem,fun j v hv=>aDl hD.cons (hD.frm.mem _ _ _ (h2 j v hv))⟩⟩
   ·exact ⟨⟨0,[],[],[],[]⟩,none,0,0,none,0,0,none,0,0,fun h=>absurd h hkN⟩
  have x0:k<N→wr.cell? ⟨blk,off+k*5,none⟩=some (.int .i64 x.kind):=fun h=>(hx h).2.2 0 _ rfl
  have x1:k<N→wr.cell? ⟨blk,off+k*5+1,none⟩=some (.string ⟨x.name.toArray⟩):=fun h=>(hx h).2.2 1 _ rfl
  have x2:k<N→wr.cell? ⟨blk,off+k*5+2,none⟩=some (.slice a2 l2 p2):=fun h=>(hx h).2.2 2 _ rfl
  have x3:k<N→wr.cell? ⟨blk,off+k*5+3,none⟩=some (.slice a3 l3 p3):=fun h=>(hx h).2.2 3 _ rfl
  have x4:k<N→wr.cell? ⟨blk,off+k*5+4,none⟩=some (.slice a4 l4 p4):=fun h=>(hx h).2.2 4 _ rfl
  have hsz:w.heap.size+3≤wr.heap.size:=by have:=(Array.getElem?_eq_some_iff.1 hD.out).1;omega
  replace hx:=(id hx:Hid _)
  change Code.wp Tryz.prog (.seq cAC (.seq (.block 1 (.seq r5C (.seq r6C (.seq r7C r8C)))) r4C)) _ _ _
  unfold cAC r4C r5C
  simp only [Tryz.f13,bY,inC,blA,blB,blkC,lopC,fstC,sndC]
  go_wp2
  ·rename_i hkN K1 hK1 K0 hK0
   obtain ⟨hxk,hcv,_⟩:=hx.out hkN
   obtain ⟨s1,s2,s3⟩:=hsm x (List.mem_of_getElem? hxk)
   obtain ⟨ga,gc,rfl⟩:=aGT hD.own
   refine bBv (M:=M1) wr.heap.size x a2 l2 p2 a3 l3 p3 a4 l4 p4 (Stp.alloc (H:=0) hD.cons _).cons (heap_alloc_new wr _) (fun i=>xQ hD.cons (Nat.le_refl _) i) hcv.r2 s1 _ _ _ _ _ _ _ _ _ _ _ _ _ _ _ _ _ _ _ _ _ _ _ _ _ _ _ _ _ _ _ _ _ _ _ _ _ _ _ _ _ _ _ _ _ _ _ _ _ _ _ _ _ _ _ _ _ _ _ _ _ _ _ _ _ _ (fun w2 M2 b2 m2 q2 z21 z22 z23 z24 S2 hH2 hr2 => ?_)
   refine hK0 _ _ ?_
   refine wp_seq ?_
   refine aZT (M:=M2) wr.heap.size x b2 m2 q2 a3 l3 p3 a4 l4 p4 S2.cons hH2 (S2.free (by simp) (fun i=>xQ hD.cons (Nat.le_refl _) i)) (hcv.r3.mono S2.mem (fun _ _ _ h=>h)) (hcv.r4.mono S2.mem (fun _ _ _ h=>h)) s2 s3 _ _ _ _ _ _ _ _ _ _ _ _ _ _ _ _ _ _ _ _ _ _ _ _ _ _ _ _ _ _ _ _ _ _ _ _ _ _ _ _ _ _ _ _ _ _ _ _ _ _ _ _ _ _ _ _ _ _ _ _ _ _ _ _ _ _ (fun w3 M3 b3 m3 q3 b4 m4 q4 z25 z26 z27 z28 z29 z30 z31 z32 S3 hH3 hr3 hr4 => ?_)
   have S:=((Stp.alloc (H:=wr.heap.size) hD.cons _).trans S2).trans S3
   have hZ3:w3.heap[w.heap.size+1+1]?=some (.cells #[.slice ga k gc,.slice none 0 0] 28 (0,0)):=(S.blk _ (by omega) (by omega)).trans hD.out
   have hown3:w3.ownsRow (w.heap.size+3) 38 5 (.slice ga k gc) k ys:=gE hD.own fun g hg=>S.blk g (hD.own.lt g hg).2 (by have:=(hD.own.lt g hg).2;omega)
   refine bCl wr.heap.size (w.heap.size+1+1) (w.heap.size+3) x b2 m2 q2 b3 m3 q3 b4 m4 q4 ga k gc ys _ hH3 hZ3 hown3 (by omega) (by have:=S.size;omega) (by omega) _ _ _ _ _ _ _ _ _ _ _ _ _ _ _ _ _ _ _ _ _ _ _ _ _ _ _ _ _ _ _ _ _ _ _ _ _ _ _ _ _ _ _ _ _ _ _ _ _ _ _ _ _ _ _ _ _ _ _ _ _ _ _ _ _ (fun w4 g cap' z33 z34 z35 z36 z37 z38 own' out' hblk hg hos hta hou hsz4 => ?_)
   have hDn:=hD.next hxk S ⟨hr2.mono S3.mem (fun _ _ _ h=>h),hr3,hr4⟩ own' out' hblk hg hos hta hou hsz4
   replace hDn:=(id hDn:Hid _)
   refine hK1 _ _ ?_
   clear hblk own' out' hK0 hK1
   go_wp2
   go_roundw
   case rel=>exact ⟨k+1,M3,_,_,by omega,by go_num,hDn.out⟩
   case measure=>simp [intOf];omega
  ·rename_i K0 hK0 hkN
   have e:k=N:=by omega
   subst e
   obtain ⟨ga,gc,rfl⟩:=aGT hD.own
   exact hC.out _ _ _ _ _ _ _ _ _ _ _ _ _ _ _ _ _ _ _ _ _ _ _ _ _ _ _ _ _ _ _ _ _ _ _ _ _ hD
noncomputable def cBC:Code:=fstC (lopC (blkC (blB (bY Tryz.f13))))
noncomputable def r12C:Code:=fstC (inC (blB (bY Tryz.f13)))
noncomputable def r11C:Code:=sndC (sndC (lopC (blkC (blB (bY Tryz.f13)))))
structure DF (M:Mem) (w:World) (M1:Mem) (wr:World) (k:Nat) (ops:List GOp) (frags:List GFrag) (a' b' va:Value) (ys:List Value) (vf:Value) (zs:List Value):Prop where
 box1:wr.heap[w.heap.size]?=some (.cells #[a',b'] 28 (0,0))
 box2:wr.heap[w.heap.size+1]?=some (.cells #[.slice none 0 0,.slice none 0 0] 28 (0,0))
 out:wr.heap[w.heap.size+2]?=some (.cells #[va,vf] 28 (0,0))
 ownA:wr.ownsRow (w.heap.size+3) 38 5 va ops.length ys
 own:wr.ownsRow (w.heap.size+3) 68 4 vf k zs
 rowsA:OpRow M1 ops ys
 rows:FrRow M1 (frags.take k) zs
 cons:Cons M1 wr
 frm:From w.heap.size M w M1 wr
 f1:∀ i,M1 (w.heap.size+1) i=none
 f2:∀ i,M1 (w.heap.size+2) i=none
 foA:∀ g,va.ownBlock=some g→∀ i,M1 g i=none
 fo:∀ g,vf.ownBlock=some g→∀ i,M1 g i=none
 ne:∀ g,va.ownBlock=some g→vf.ownBlock≠some g
theorem DI.toF {M M1:Mem} {w wr:World} {ops:List GOp} {frags:List GFrag} {a' b' va:Value} {ys:List Value} (h:DI M w M1 wr ops.length ops a' b' va ys):DF M w M1 wr 0 ops frags a' b' va ys (.slice none 0 0) [] :=
 ⟨h.box1,h.box2,h.out,h.own,World.ownsRow_nil _ _ _ _,by have:=h.rows;rwa [List.take_length] at this,.nil,h.cons,h.frm,h.f1,h.f2,h.fo,fun g hg=>by simp [Value.ownBlock] at hg,fun g hg=>by simp [Value.ownBlock]⟩
theorem DF.next {M M1 M3:Mem} {w wr w3 w4:World} {k:Nat} {ops:List GOp} {frags:List GFrag} {a' b' va v3 v4:Value} {ga:Option Addr} {gc g cap':Nat} {ys zs:List Value} {x:GFrag} (hD:DF M w M1 wr k ops frags a' b' va ys (.slice ga k gc) zs) (hx:frags[k]?=some x) (S:Stp wr.heap.size M1 wr M3 w3) (hc:FCV M3 x v3 v4)
  (own':w4.ownsRow (w.heap.size+3) 68 4 (.slice (some ⟨g,0,none⟩) (k+1) cap') (k+1) (zs++aEt x v3 v4)) (out':w4.heap[w.heap.size+2]?=some (.cells #[va,.slice (some ⟨g,0,none⟩) (k+1) cap'] 28 (0,0)))
  (blk:∀ b,b<w3.heap.size→b≠w.heap.size+2→(Value.slice ga k gc).ownBlock≠some b→w4.heap[b]?=w3.heap[b]?) (hg:(Value.slice ga k gc).ownBlock=some g∨w3.heap.size≤g) (hos:w4.os=w3.os) (hta:w4.tape=w3.tape) (hou:w4.output=w3.output) (hsz:w3.heap.size≤w4.heap.size) :
  DF M w M3 w4 (k+1) ops frags a' b' va ys (.slice (some ⟨g,0,none⟩) (k+1) cap') (zs++aEt x v3 v4):=by
 have hZ:w.heap.size+2<wr.heap.size:=(Array.getElem?_eq_some_iff.1 hD.out).1
 have hlow:∀ b,b<w.heap.size+2→w4.heap[b]?=wr.heap[b]?:=fun b hb =>
  (blk b (by have:=S.size;omega) (by omega) (fun e=>by have:=(hD.own.lt b e).1;omega)).trans (S.blk b (by omega) (by omega))
 have hA:∀ b,va.ownBlock=some b→w4.heap[b]?=wr.heap[b]?:=fun b hb=>by
  obtain ⟨q1,q2⟩:=hD.ownA.lt b hb
  exact (blk b (by have:=S.size;omega) (by omega) (hD.ne b hb)).trans (S.blk b q2 (by omega))
 refine ⟨(hlow _ (by omega)).trans hD.box1,(hlow _ (by omega)).trans hD.box2,out',gE hD.ownA hA,own',hD.rowsA.mono S.mem,?_,?_,?_,?_,?_,?_,?_,?_⟩
 ·have e:frags.take (k+1)=frags.take k++[x]:=by rw [List.take_add_one,hx];rfl
  rw [e]
  exact .snoc (hD.rows.mono S.mem) hc
 ·refine iB S.cons fun b hb ⟨i,hi⟩=>blk b hb (fun e=>hi ?_) (fun e=>hi ?_)
  ·rw [e,S.old _ hZ];exact hD.f2 i
  ·rw [S.old _ (hD.own.lt b e).2];exact hD.fo b e i
 ·exact hD.frm.trans ⟨S.mem,fun b hb i=>S.old b (by omega) i,hos.trans S.os,hta.trans S.tape,hou.trans S.output,Nat.le_trans S.size hsz,fun b hb=>hlow b (by omega)⟩
 ·intro i;rw [S.old _ (by omega)];exact hD.f1 i
 ·intro i;rw [S.old _ hZ];exact hD.f2 i
 ·intro b hb i
  rw [S.old _ (hD.ownA.lt b hb).2];exact hD.foA b hb i
 ·intro b hb i
  have e:b=g:=by simpa [Value.ownBlock] using hb.symm
  subst e
  rcases hg with h | h
  ·rw [S.old _ (hD.own.lt b h).2];exact hD.fo b h i
  ·exact xQ S.cons h i
 ·intro b hb e
  have e:b=g:=by simpa [Value.ownBlock] using e.symm
  subst e
  rcases hg with h | h
  ·exact hD.ne b hb h
  ·have:=(hD.ownA.lt b hb).2
   have:=S.size
   omega
set_option maxHeartbeats 4000000 in
theorem aZW (ops:List GOp) (frags:List GFrag) (oa:Option Addr) (cap:Nat) (a':Value) (M:Mem) (w:World) (hN:frags.length≤1048576) (hcap:frags.length≤cap) (hsm:∀ x∈frags,bkSl kN x.dirs<1073741824∧bJ x.sels<1073741824)
  (hat:frags≠[]→∃ blk off,oa=some ⟨blk,off,none⟩) (hcell:∀ (blk off:Nat),oa=some ⟨blk,off,none⟩→∀ (k:Nat) (x:GFrag),frags[k]?=some x→∃ v2 v3,FCV M x v2 v3∧∀ j v,(aEt x v2 v3)[j]?=some v→M blk (off+k*4+j)=some v)
  (M0:Mem) (w0:World) (va:Value) (ys:List Value) (h0:DF M w M0 w0 0 ops frags a' (.slice oa frags.length cap) va ys (.slice none 0 0) []) (Q:Exit→Act→World→Prop) (v0 v2 v4 v5 v6 v7 v8 v9 v10 v11 v12 v13 v14 v15 v16 v17 v18 v19 v20 v21 v22 v23 v24 v25 v26 v27 v28 v29 v30 v31 v32 v33 v34 v35 v36 v37 v38 v39 v40 v41 v42 v43 v44 v45 v46 v47 v48 v49 v50 v51 v52 v53 v54 v55 v56 v57 v58 v59 v60 v61 v62 v63 v64 v65:Value)
  (hC:∀ (w':World) (M':Mem) (ga:Option Addr) (gc:Nat) (zs:List Value) (z6 z7 z39 z40 z41 z42 z43 z44 z45 z46 z47 z48 z49 z50 z51 z52 z53 z54 z55 z56 z57 z58 z59 z60 z61 z62 z63 z64:Value),DF M w M' w' frags.length ops frags a' (.slice oa frags.length cap) va ys (.slice ga frags.length gc) zs→Q .normal ⟨#[v0,.pointer (some ⟨w.heap.size,0,none⟩),v2,.pointer (some ⟨w.heap.size+1+1,0,none⟩),v4,v5,z6,z7,v8,v9,v10,v11,v12,v13,v14,v15,v16,v17,v18,v19,v20,v21,v22,v23,v24,v25,v26,v27,v28,v29,v30,v31,v32,v33,v34,v35,v36,v37,v38,z39,z40,z41,z42,z43,z44,z45,z46,z47,z48,z49,z50,z51,z52,z53,z54,z55,z56,z57,z58,z59,z60,z61,z62,z63,z64,v65],[]⟩ w') :
  Code.wp Tryz.prog (fstC (sndC (sndC (sndC (bY Tryz.f13))))) Q ⟨#[v0,.pointer (some ⟨w.heap.size,0,none⟩),v2,.pointer (some ⟨w.heap.size+1+1,0,none⟩),v4,v5,v6,v7,v8,v9,v10,v11,v12,v13,v14,v15,v16,v17,v18,v19,v20,v21,v22,v23,v24,v25,v26,v27,v28,v29,v30,v31,v32,v33,v34,v35,v36,v37,v38,v39,v40,v41,v42,v43,v44,v45,v46,v47,v48,v49,v50,v51,v52,v53,v54,v55,v56,v57,v58,v59,v60,v61,v62,v63,v64,v65],[]⟩ w0:=by
 obtain ⟨N,hln⟩:∃ N,frags.length=N:=⟨_,rfl⟩
 rw [hln] at hN hcap
 simp only [hln] at hC h0
 replace hC:=(id hC:Hid _)
 have hb0:w0.cell? ⟨w.heap.size,1,none⟩=some (.slice oa N cap):=by rw [cell_of_row w0 _ 1 _ _ _ h0.box1];rfl
 simp only [Tryz.f13,bY,inC,blA,blB,blkC,lopC,fstC,sndC]
 go_wp2
 by_cases h0N:N=0
 ·subst h0N
  refine wp_loop_rounds 1 ?_;rw [rounds_succ];go_wp2
  exact hC.out _ _ _ _ _ _ _ _ _ _ _ _ _ _ _ _ _ _ _ _ _ _ _ _ _ _ _ _ _ _ _ _ _ h0
 obtain ⟨blk,off,rfl⟩:=hat (by intro e;rw [e] at hln;simp at hln;omega)
 go_loopw [6] (fun t6 wr=>∃ (k:Nat) (M1:Mem) (vf:Value) (zs:List Value),k≤N∧t6 = .int .i64 k∧DF M w M1 wr k ops frags a' (.slice (some ⟨blk,off,none⟩) N cap) va ys vf zs) (fun t6 _=>N-(intOf t6).toNat)
 case atStart=>exact ⟨0,M0,_,[],Nat.zero_le _,rfl,h0⟩
 case round =>
  obtain ⟨k,M1,vf,zs,hk,rfl,hD⟩:=hrel
  have hb1:wr.cell? ⟨w.heap.size,1,none⟩=some (.slice (some ⟨blk,off,none⟩) N cap):=by rw [cell_of_row wr _ 1 _ _ _ hD.box1];rfl
  obtain ⟨x,a3,l3,p3,a4,l4,p4,hx⟩:∃ x a3 l3 p3 a4 l4 p4,k<N→frags[k]?=some x∧FCV M1 x (.slice a3 l3 p3) (.slice a4 l4 p4)∧(∀ j v,(aEt x (.slice a3 l3 p3) (.slice a4 l4 p4))[j]?=some v→wr.cell? ⟨blk,off+k*4+j,none⟩=some v):=by
   by_cases hkN:k<N
   ·have hg:=List.getElem?_eq_getElem (l:=frags) (i:=k) (by omega)
    obtain ⟨v3,v4,h1,h2⟩:=hcell blk off rfl k _ hg
    obtain ⟨a3,l3,p3,rfl⟩:=nB h1.r2
    obtain ⟨a4,l4,p4,rfl⟩:=nB h1.r3
    exact ⟨_,a3,l3,p3,a4,l4,p4,fun _=>⟨hg,h1.mono hD.frm.mem,fun j v hv=>aDl hD.cons (hD.frm.mem _ _ _ (h2 j v hv))⟩⟩
   ·exact ⟨⟨[],[],[],[]⟩,none,0,0,none,0,0,fun h=>absurd h hkN⟩
  have x0:k<N→wr.cell? ⟨blk,off+k*4,none⟩=some (.string ⟨x.name.toArray⟩):=fun h=>(hx h).2.2 0 _ rfl
  have x1:k<N→wr.cell? ⟨blk,off+k*4+1,none⟩=some (.string ⟨x.on_.toArray⟩):=fun h=>(hx h).2.2 1 _ rfl
  have x2:k<N→wr.cell? ⟨blk,off+k*4+2,none⟩=some (.slice a3 l3 p3):=fun h=>(hx h).2.2 2 _ rfl
  have x3:k<N→wr.cell? ⟨blk,off+k*4+3,none⟩=some (.slice a4 l4 p4):=fun h=>(hx h).2.2 3 _ rfl
  have hsz:w.heap.size+3≤wr.heap.size:=by have:=(Array.getElem?_eq_some_iff.1 hD.out).1;omega
  replace hx:=(id hx:Hid _)
  change Code.wp Tryz.prog (.seq cBC (.seq (.block 3 (.seq r12C (.seq r13C r14C))) r11C)) _ _ _
  unfold cBC r11C r12C
  simp only [Tryz.f13,bY,inC,blA,blB,blkC,lopC,fstC,sndC]
  go_wp2
  ·rename_i hkN K1 hK1 K0 hK0
   obtain ⟨hxk,hcv,_⟩:=hx.out hkN
   obtain ⟨s2,s3⟩:=hsm x (List.mem_of_getElem? hxk)
   obtain ⟨ga,gc,rfl⟩:=aGT hD.own
   refine aZU (M:=M1) wr.heap.size x a3 l3 p3 a4 l4 p4 (Stp.alloc (H:=0) hD.cons _).cons (heap_alloc_new wr _) (fun i=>xQ hD.cons (Nat.le_refl _) i) hcv.r2 hcv.r3 s2 s3 _ _ _ _ _ _ _ _ _ _ _ _ _ _ _ _ _ _ _ _ _ _ _ _ _ _ _ _ _ _ _ _ _ _ _ _ _ _ _ _ _ _ _ _ _ _ _ _ _ _ _ _ _ _ _ _ _ _ _ _ _ _ _ _ _ _ (fun w3 M3 b3 m3 q3 b4 m4 q4 z51 z52 z53 z54 z55 z56 z57 z58 S3 hH3 hr3 hr4 => ?_)
   have S:=(Stp.alloc (H:=wr.heap.size) hD.cons _).trans S3
   have hZ3:w3.heap[w.heap.size+1+1]?=some (.cells #[va,.slice ga k gc] 28 (0,0)):=(S.blk _ (by omega) (by omega)).trans hD.out
   have hown3:w3.ownsRow (w.heap.size+3) 68 4 (.slice ga k gc) k zs:=gE hD.own fun g hg=>S.blk g (hD.own.lt g hg).2 (by have:=(hD.own.lt g hg).2;omega)
   refine hK0 _ _ ?_
   refine bCm wr.heap.size (w.heap.size+1+1) (w.heap.size+3) x b3 m3 q3 b4 m4 q4 ga k gc zs _ hH3 hZ3 hown3 (by omega) (by have:=S.size;omega) (by omega) _ _ _ _ _ _ _ _ _ _ _ _ _ _ _ _ _ _ _ _ _ _ _ _ _ _ _ _ _ _ _ _ _ _ _ _ _ _ _ _ _ _ _ _ _ _ _ _ _ _ _ _ _ _ _ _ _ _ _ _ _ _ _ _ _ (fun w4 g cap' z59 z60 z61 z62 z63 z64 own' out' hblk hg hos hta hou hsz4 => ?_)
   have hDn:=hD.next hxk S ⟨hr3,hr4⟩ own' out' hblk hg hos hta hou hsz4
   replace hDn:=(id hDn:Hid _)
   refine hK1 _ _ ?_
   clear hblk own' out' hK0 hK1
   go_wp2
   go_roundw
   case rel=>exact ⟨k+1,M3,_,_,by omega,by go_num,hDn.out⟩
   case measure=>simp [intOf];omega
  ·rename_i K0 hK0 hkN
   have e:k=N:=by omega
   subst e
   obtain ⟨ga,gc,rfl⟩:=aGT hD.own
   exact hC.out _ _ _ _ _ _ _ _ _ _ _ _ _ _ _ _ _ _ _ _ _ _ _ _ _ _ _ _ _ _ _ _ _ hD
noncomputable def r0C:Code:=fstC (bY Tryz.f13)
noncomputable def r1C:Code:=fstC (sndC (bY Tryz.f13))
noncomputable def laC:Code:=fstC (sndC (sndC (bY Tryz.f13)))
noncomputable def lbC:Code:=fstC (sndC (sndC (sndC (bY Tryz.f13))))
noncomputable def r15C:Code:=sndC (sndC (sndC (sndC (bY Tryz.f13))))
theorem bCn:Tryz.f13.body=some (.seq r0C (.seq r1C (.seq laC (.seq lbC r15C)))):=by kernel_rfl
structure DR (M:Mem) (w:World) (M1:Mem) (wr:World) (ops:List GOp) (frags:List GFrag) (va:Value) (ys:List Value) (vf:Value) (zs:List Value):Prop where
 ownA:wr.ownsRow w.heap.size 38 5 va ops.length ys
 own:wr.ownsRow w.heap.size 68 4 vf frags.length zs
 rowsA:OpRow M1 ops ys
 rows:FrRow M1 frags zs
 cons:Cons M1 wr
 frm:From w.heap.size M w M1 wr
 foA:∀ g,va.ownBlock=some g→∀ i,M1 g i=none
 fo:∀ g,vf.ownBlock=some g→∀ i,M1 g i=none
 ne:∀ g,va.ownBlock=some g→vf.ownBlock≠some g
theorem bAq {w:World} {B B' e size n:Nat} {v:Value} {xs:List Value} (h:w.ownsRow B e size v n xs) (hB:B'≤B):w.ownsRow B' e size v n xs:=by
 refine ⟨h.1,?_⟩
 rcases h.2 with hn | ⟨g,cap,cur,hv,hb,rest⟩
 ·exact .inl hn
 ·exact .inr ⟨g,cap,cur,hv,Nat.le_trans hB hb,rest⟩
theorem DI.start {M:Mem} {w:World} (ops:List GOp) (a' b':Value) (hc:Cons M w):DI M w M (((w.alloc (.cells #[a',b'] 28)).alloc (.cells #[.slice none 0 0,.slice none 0 0] 28)).alloc (.cells #[.slice none 0 0,.slice none 0 0] 28)) 0 ops a' b' (.slice none 0 0) []:=by
 have hb:Below w.heap.size w (((w.alloc (.cells #[a',b'] 28)).alloc (.cells #[.slice none 0 0,.slice none 0 0] 28)).alloc (.cells #[.slice none 0 0,.slice none 0 0] 28)) :=
  (((Below.refl _ _).alloc (Nat.le_refl _) _).alloc (by simp) _).alloc (by simp;omega) _
 refine ⟨?_,?_,?_,World.ownsRow_nil _ _ _ _,.nil,aKr hc hb,From.of_below hb,fun i=>xQ hc (by omega) i,fun i=>xQ hc (by omega) i,fun g hg=>by simp [Value.ownBlock] at hg⟩
 ·rw [heap_alloc_old _ _ (by simp;omega),heap_alloc_old _ _ (by simp)];exact heap_alloc_new _ _
 ·rw [heap_alloc_old _ _ (by simp)]
  have:=heap_alloc_new (w.alloc (.cells #[a',b'] 28)) (.cells #[.slice none 0 0,.slice none 0 0] 28)
  simpa using this
 ·have:=heap_alloc_new ((w.alloc (.cells #[a',b'] 28)).alloc (.cells #[.slice none 0 0,.slice none 0 0] 28)) (.cells #[.slice none 0 0,.slice none 0 0] 28)
  simpa using this
theorem DF.done {M M1:Mem} {w wr:World} {ops:List GOp} {frags:List GFrag} {a' b' va vf:Value} {ys zs:List Value} (h:DF M w M1 wr frags.length ops frags a' b' va ys vf zs) (u0 u1:Value) :
  DR M w M1 ((wr.setCell ⟨w.heap.size+1,0,none⟩ u0).setCell ⟨w.heap.size+1,1,none⟩ u1) ops frags va ys vf zs:=by
 have hb:∀ k,k≠w.heap.size+1→((wr.setCell ⟨w.heap.size+1,0,none⟩ u0).setCell ⟨w.heap.size+1,1,none⟩ u1).heap[k]?=wr.heap[k]?:=fun k hk=>(Below.heap_setCell _ _ _ _ hk).trans (Below.heap_setCell _ _ _ _ hk)
 refine ⟨bAq (gE h.ownA fun g hg=>hb g (by have:=(h.ownA.lt g hg).1;omega)) (by omega),bAq (gE h.own fun g hg=>hb g (by have:=(h.own.lt g hg).1;omega)) (by omega),h.rowsA,by have:=h.rows;rwa [List.take_length] at this,?_,?_,h.foA,h.fo,h.ne⟩
 ·exact iB h.cons fun k hk ⟨i,hi⟩=>hb k fun e=>hi (by rw [e];exact h.f1 i)
 ·exact h.frm.trans (From.of_below (((Below.refl _ _).setCell (by simp) u0).setCell (by simp) u1))
set_option maxHeartbeats 4000000 in
theorem aZX (d:GDoc) (M:Mem) (w:World) (a' b':Value) (hd:kO d≤1048576) (hc:Cons M w) (hra:Rv M noB (.slice (List.map aU d.ops) [] false) a') (hrb:Rv M noB (.slice (List.map aF d.frags) [] false) b') :
  Calls Tryz.prog 13 #[.agg #[a',b']] w fun e w'=>∃ M' ga gc ys gb gd zs,e = .returned (.agg #[.slice ga d.ops.length gc,.slice gb d.frags.length gd])∧DR M w M' w' d.ops d.frags (.slice ga d.ops.length gc) ys (.slice gb d.frags.length gd) zs:=by
 have hde:=vV d
 have hlo:=cZ (f:=bkOp) (fun o=>by rw [mO];omega) d.ops
 have hlf:=cZ (f:=dT) (fun o=>by rw [dY];omega) d.frags
 have hso:∀ x∈d.ops,x.vars.length≤1048576∧bkSl kN x.dirs<1073741824∧bJ x.sels<1073741824:=by
  intro x hx
  have h1:=dW (f:=bkOp) hx
  rw [mO] at h1
  have h2:=cZ (f:=qE) (fun o=>by rw [rB];omega) x.vars
  have e:bkSl eU x.sels=bJ x.sels+1:=by rw [cK];rfl
  omega
 have hsf:∀ x∈d.frags,bkSl kN x.dirs<1073741824∧bJ x.sels<1073741824:=by
  intro x hx
  have h1:=dW (f:=dT) hx
  rw [dY] at h1
  have e:bkSl eU x.sels=bJ x.sels+1:=by rw [cK];rfl
  omega
 obtain ⟨oa,cap,rfl,hcap,hat,hcell⟩:=aZP hc hra
 obtain ⟨ob,capb,rfl,hcapb,hatb,hcellb⟩:=aZQ hc hrb
 have hst:=DI.start (M:=M) (w:=w) d.ops (.slice oa d.ops.length cap) (.slice ob d.frags.length capb) hc
 refine calls_of_wp Tryz.func13 bCn ?_
 simp only [Tryz.ntmps13,List.size_toArray,List.length_cons,List.length_nil,Nat.reduceAdd,Nat.reduceSub,Array.replicate_succ,
   Array.replicate_zero,List.push_toArray,List.append_toArray,List.nil_append,List.cons_append]
 have LA:=@aZV d.ops oa cap (.slice ob d.frags.length capb) M w (by omega) hcap hso hat hcell
 have LB:=@aZW d.ops d.frags ob capb (.slice oa d.ops.length cap) M w (by omega) hcapb hsf hatb hcellb
 replace LA:=(id LA:Hid _)
 replace LB:=(id LB:Hid _)
 replace hst:=(id hst:Hid _)
 clear hat hcell hatb hcellb hso hsf
 generalize hQ:bodyPost Tryz.prog Tryz.f13 _=Q
 replace hQ:=(id hQ:Hid _)
 unfold r0C r1C
 simp only [Tryz.f13,bY,inC,blA,blB,blkC,lopC,fstC,sndC]
 go_wp2
 rename_i K0 hK0
 refine LA.out _ _ (DI.start (M:=M) (w:=w) d.ops (.slice oa d.ops.length cap) (.slice ob d.frags.length capb) hc) _ _ _ _ _ _ _ _ _ _ _ _ _ _ _ _ _ _ _ _ _ _ _ _ _ _ _ _ _ _ _ _ _ _ _ _ _ _ _ _ _ _ _ _ _ _ _ _ _ _ _ _ _ _ _ _ _ _ _ _ _ _ _ _ _ (fun w1 M1 ga gc ys z4 z5 z9 z10 z11 z12 z13 z14 z15 z16 z17 z18 z19 z20 z21 z22 z23 z24 z25 z26 z27 z28 z29 z30 z31 z32 z33 z34 z35 z36 z37 z38 hD => ?_)
 have hF:=hD.toF (frags:=d.frags)
 replace hD:=(id hD:Hid _)
 refine hK0 _ _ ?_
 refine wp_seq ?_
 refine LB.out _ _ _ ys hF _ _ _ _ _ _ _ _ _ _ _ _ _ _ _ _ _ _ _ _ _ _ _ _ _ _ _ _ _ _ _ _ _ _ _ _ _ _ _ _ _ _ _ _ _ _ _ _ _ _ _ _ _ _ _ _ _ _ _ _ _ _ _ _ _ (fun w2 M2 gb gd zs y6 y7 y39 y40 y41 y42 y43 y44 y45 y46 y47 y48 y49 y50 y51 y52 y53 y54 y55 y56 y57 y58 y59 y60 y61 y62 y63 y64 hG => ?_)
 have q3:w2.cell? ⟨w.heap.size+1+1,0,none⟩=some (.slice ga d.ops.length gc):=by rw [cell_of_row w2 (w.heap.size+1+1) 0 _ _ _ hG.out];rfl
 have q4:w2.cell? ⟨w.heap.size+1+1,1,none⟩=some (.slice gb d.frags.length gd):=by rw [cell_of_row w2 (w.heap.size+1+1) 1 _ _ _ hG.out];rfl
 have q5:w2.cell? ⟨w.heap.size+1,0,none⟩=some (.slice none 0 0):=by rw [cell_of_row w2 (w.heap.size+1) 0 _ _ _ hG.box2];rfl
 have q6:w2.cell? ⟨w.heap.size+1,1,none⟩=some (.slice none 0 0):=by rw [cell_of_row w2 (w.heap.size+1) 1 _ _ _ hG.box2];rfl
 have q7:w2.frozen? ⟨w.heap.size+1,0,none⟩=false:=frozen_of_row w2 (w.heap.size+1) 0 _ _ hG.box2
 have q8:w2.frozen? ⟨w.heap.size+1,1,none⟩=false:=frozen_of_row w2 (w.heap.size+1) 1 _ _ hG.box2
 have hdone:=hG.done (.slice ga d.ops.length gc) (.slice gb d.frags.length gd)
 replace hdone:=(id hdone:Hid _)
 have hrow:Hid (((w2.setCell ⟨w.heap.size+1,0,none⟩ (.slice ga d.ops.length gc)).setCell ⟨w.heap.size+1,1,none⟩ (.slice gb d.frags.length gd)).heap[w.heap.size+1]?=some (.cells #[.slice ga d.ops.length gc,.slice gb d.frags.length gd] 28 (0,0))):=heap_setCell_same _ _ _ _ _ _ (heap_setCell_same _ _ _ _ _ _ hG.box2)
 replace hG:=(id hG:Hid _)
 replace hF:=(id hF:Hid _)
 clear hK0 hst LA LB
 unfold r15C
 simp only [Tryz.f13,bY,sndC]
 show Code.wp _ _ _ _ _
 go_wp2
 rw [← hQ.out]
 try simp only [Exit.inBlock,Exit.then]
 refine bodyPost_ret (results_cell_row rfl _ _ (w.heap.size+1) 28 _ (0,0) _ rfl hrow.out Tryz.underlying28 rfl (by kernel_rfl)) rfl ?_
 exact ⟨M2,ga,gc,ys,gb,gd,zs,rfl,hdone.out⟩
end Go.Proofs.YtphmfillajagdaaGreat

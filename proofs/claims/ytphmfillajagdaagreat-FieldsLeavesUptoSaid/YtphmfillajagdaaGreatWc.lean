import Derived.Test.YtphmfillajagdaaGreatWb
set_option maxRecDepth 100000
set_option linter.unusedVariables false
set_option linter.unusedSimpArgs false
set_option linter.unusedSimpArgs false
open Go Go.Ev Go.RowKit
namespace Go.Proofs.YtphmfillajagdaaGreat
theorem aRs {w:World} {B B' e size n:Nat} {v:Value} {xs:List Value} (h:w.ownsRow B e size v n xs) (hB:B'≤B):w.ownsRow B' e size v n xs:=by
 refine ⟨h.1,?_⟩
 rcases h.2 with hn | ⟨g,cap,cur,hv,hb,rest⟩
 ·exact .inl hn
 ·exact .inr ⟨g,cap,cur,hv,Nat.le_trans hB hb,rest⟩
structure OwnL (B:Nat) (M:Mem) (w:World) (e size:Nat) (es:List PV) (v:Value):Prop where
 own:∃ ys,w.ownsRow B e size v es.length ys∧∀ (i:Nat) (p:PV) (j:Nat) (c:PV),es[i]?=some p→p.cells[j]?=some c→∃ u,ys[i*size+j]?=some u∧Rv M noB c u
 ok:∀ p∈es,okEl size p
 free:∀ g,v.ownBlock=some g→∀ i,M g i=none
theorem OwnL.nil (B:Nat) (M:Mem) (w:World) (e size:Nat):OwnL B M w e size [] (.slice none 0 0) :=
 ⟨⟨[],World.ownsRow_nil _ _ _ _,fun i p j c h=>by simp at h⟩,fun p h=>by simp at h,fun g h=>by simp [Value.ownBlock] at h⟩
theorem OwnL.lt {B e size:Nat} {M:Mem} {w:World} {es:List PV} {v:Value} (h:OwnL B M w e size es v):∀ k,v.ownBlock=some k→B≤k∧k<w.heap.size:=by
 obtain ⟨ys,ho,_⟩:=h.own
 exact ho.lt
theorem OwnL.form {B e size:Nat} {M:Mem} {w:World} {es:List PV} {v:Value} (h:OwnL B M w e size es v):∃ a cap,v = .slice a es.length cap:=by
 obtain ⟨ys,ho,_⟩:=h.own
 exact aA1 ho
theorem OwnL.le {B B' e size:Nat} {M:Mem} {w:World} {es:List PV} {v:Value} (h:OwnL B M w e size es v) (hB:B'≤B):OwnL B' M w e size es v:=by
 obtain ⟨ys,ho,hr⟩:=h.own
 exact ⟨⟨ys,aRs ho hB,hr⟩,h.ok,h.free⟩
theorem OwnL.move {B e size:Nat} {M M':Mem} {w w':World} {es:List PV} {v:Value} (h:OwnL B M w e size es v) (hM:∀ b i v,M b i=some v→M' b i=some v) (hb:∀ k,v.ownBlock=some k→w'.heap[k]?=w.heap[k]?) (hf:∀ k,v.ownBlock=some k→∀ i,M' k i=M k i):OwnL B M' w' e size es v:=by
 obtain ⟨ys,ho,hr⟩:=h.own
 refine ⟨⟨ys,kB ho hb,fun i p j c h1 h2 => ?_⟩,h.ok,fun g hg i=>(hf g hg i).trans (h.free g hg i)⟩
 obtain ⟨u,h3,h4⟩:=hr i p j c h1 h2
 exact ⟨u,h3,h4.mono hM (fun _ _ _ h=>h)⟩
theorem OwnL.quiet {B e size:Nat} {M M':Mem} {w w':World} {es:List PV} {v:Value} (h:OwnL B M w e size es v) (q:Quiet M w M' w'):OwnL B M' w' e size es v :=
 h.move q.mem (fun k hk=>(q.old k (h.lt k hk).2).1) (fun k hk=>(q.old k (h.lt k hk).2).2)
theorem OwnL.stp {H B e size:Nat} {M M':Mem} {w w':World} {es:List PV} {v:Value} (h:OwnL B M w e size es v) (q:Stp H M w M' w') (hH:v.ownBlock≠some H):OwnL B M' w' e size es v :=
 h.move q.mem (fun k hk=>q.blk k (h.lt k hk).2 fun e=>hH (by rw [← e];exact hk)) (fun k hk=>q.old k (h.lt k hk).2)
theorem OwnL.rv {B e size:Nat} {M:Mem} {w:World} {es:List PV} {v:Value} (h:OwnL B M w e size es v) (hc:Cons M w):Rv (frzV v M w) noB (.slice es [] false) v:=by
 obtain ⟨ys,ho,hr⟩:=h.own
 refine aDO ho aDP es rfl h.ok fun i p j c h1 h2 => ?_
 obtain ⟨u,h3,h4⟩:=hr i p j c h1 h2
 exact ⟨u,h3,h4.mono (pB hc) (fun _ _ _ h=>h)⟩
theorem OwnL.rvM {B B0 e size:Nat} {M:Mem} {w:World} {es:List PV} {v:Value} (h:OwnL B M w e size es v) (hc:Cons M w) (hB:B0≤B):Rv (frzM B0 M w) noB (.slice es [] false) v:=by
 obtain ⟨ys,ho,hr⟩:=h.own
 refine aDO ho (aHW ho hB) es rfl h.ok fun i p j c h1 h2 => ?_
 obtain ⟨u,h3,h4⟩:=hr i p j c h1 h2
 exact ⟨u,h3,h4.mono (aOm hc) (fun _ _ _ h=>h)⟩
theorem Stp.frz {H:Nat} {M:Mem} {w:World} (hc:Cons M w) (v:Value) (B:Nat) (hv:∀ k,v.ownBlock=some k→B≤k):(∀ b,b<B→∀ i,frzV v M w b i=M b i):=fun b hb i=>uU (fun e=>by have:=hv b e;omega) i
open Go Go.Ev Go.RowKit
structure SCV (M:Mem) (x:GSel) (v3 v4 v6:Value):Prop where
 r3:Rv M noB (.slice (List.map aD x.args) [] false) v3
 r4:Rv M noB (.slice (List.map aU x.dirs) [] false) v4
 r6:Rv M noB (.slice (List.map aF x.sels) [] false) v6
theorem SCV.mono {M M':Mem} {x:GSel} {v3 v4 v6:Value} (h:SCV M x v3 v4 v6) (hM:∀ b i v,M b i=some v→M' b i=some v):SCV M' x v3 v4 v6 :=
 ⟨h.r3.mono hM (fun _ _ _ h=>h),h.r4.mono hM (fun _ _ _ h=>h),h.r6.mono hM (fun _ _ _ h=>h)⟩
abbrev aAm (x:GSel) (v3 v4 v6:Value):List Value:=[.int .i64 x.kind,.string ⟨x.alias.toArray⟩,.string ⟨x.name.toArray⟩,v3,v4,.string ⟨x.on_.toArray⟩,v6]
theorem aA2 (x:GSel):okEl 7 (aF x):=by cases x;rw [fF];exact ⟨rfl,rfl,rfl,by decide⟩
theorem aW7 {M:Mem} {x:GSel} {v3 v4 v6:Value} (h:SCV M x v3 v4 v6):∀ (j:Nat) (c:PV),(aF x).cells[j]?=some c→∃ u,(aAm x v3 v4 v6)[j]?=some u∧Rv M noB c u:=by
 intro j c hc
 have hj:j<7:=by have:=(List.getElem?_eq_some_iff.1 hc).1;rw [(aA2 x).2.2.1] at this;exact this
 cases x
 rw [fF] at hc
 match j,hj,hc with
 | 0,_,hc=>cases hc;exact ⟨_,rfl,.int _ _⟩
 | 1,_,hc=>cases hc;exact ⟨_,rfl,.str _⟩
 | 2,_,hc=>cases hc;exact ⟨_,rfl,.str _⟩
 | 3,_,hc=>cases hc;exact ⟨_,rfl,h.r3⟩
 | 4,_,hc=>cases hc;exact ⟨_,rfl,h.r4⟩
 | 5,_,hc=>cases hc;exact ⟨_,rfl,.str _⟩
 | 6,_,hc=>cases hc;exact ⟨_,rfl,h.r6⟩
theorem bBb {M:Mem} {x:GSel} {l:List Value} (h:RvL M noB (aF x).cells l):∃ v3 v4 v6,l=aAm x v3 v4 v6∧SCV M x v3 v4 v6:=by
 cases x
 rw [fF] at h
 cases h with | cons r0 h =>
 cases h with | cons r1 h =>
 cases h with | cons r2 h =>
 cases h with | cons r3 h =>
 cases h with | cons r4 h =>
 cases h with | cons r5 h =>
 cases h with | cons r6 h =>
 cases h
 cases r0
 cases r1
 cases r2
 cases r5
 exact ⟨_,_,_,rfl,r3,r4,r6⟩
theorem aHY {M:Mem} {w:World} {l:List GSel} {c:Value} (hc:Cons M w) (h:Rv M noB (.slice (List.map aF l) [] false) c) :
  ∃ oa cap,c = .slice oa l.length cap∧l.length≤cap∧(l≠[]→∃ blk off,oa=some ⟨blk,off,none⟩)∧∀ (blk off:Nat),oa=some ⟨blk,off,none⟩→∀ (k:Nat) (x:GSel),l[k]?=some x→∃ v3 v4 v6,SCV M x v3 v4 v6∧∀ j v,(aAm x v3 v4 v6)[j]?=some v→M blk (off+k*7+j)=some v:=by
 generalize hes:List.map aF l=es at h
 cases h with
 | nil o =>
  have:l=[]:=by simpa using hes
  subst this
  exact ⟨none,0,rfl,Nat.le_refl _,fun h=>absurd rfl h,fun _ _ h=>by simp at h⟩
 | slice es' bs o a cap s f ha hcp ho hel hm hr =>
  have hl:es.length=l.length:=by rw [← hes];simp
  have hle:l.length≤cap:=by simp at hcp;omega
  refine ⟨some a,cap,by rw [hl],hle,fun hne=>⟨a.block,a.off,by
   have:=ha (by have:=List.length_pos_iff.2 hne;omega)
   obtain ⟨b,o,s⟩:=a;simp only at this;rw [this]⟩,fun blk off hoa k x hx => ?_⟩
  cases hoa
  have hx':(es++[])[k]?=some (aF x):=by rw [List.append_nil,← hes,List.getElem?_map,hx];rfl
  have hs:s=7:=by
   have:=hel k _ hx'
   obtain ⟨_,_,h3,_⟩:=this
   rw [(aA2 x).2.2.1] at h3
   exact h3.symm
  subst hs
  have hk:k<l.length:=(List.getElem?_eq_some_iff.1 hx).1
  have hR:RvL M noB (aF x).cells [f k 0,f k 1,f k 2,f k 3,f k 4,f k 5,f k 6]:=by
   refine aOq _ _ (by rw [(aA2 x).2.2.1];rfl) fun i c v h1 h2 => ?_
   have hi:i<7:=by have:=(List.getElem?_eq_some_iff.1 h2).1;simpa using this
   have:=hr k _ i c hx' h1
   match i,hi,h2 with
   | 0,_,h2=>cases h2;exact this
   | 1,_,h2=>cases h2;exact this
   | 2,_,h2=>cases h2;exact this
   | 3,_,h2=>cases h2;exact this
   | 4,_,h2=>cases h2;exact this
   | 5,_,h2=>cases h2;exact this
   | 6,_,h2=>cases h2;exact this
  obtain ⟨v3,v4,v6,e,hcv⟩:=bBb hR
  refine ⟨v3,v4,v6,hcv,fun j v hv => ?_⟩
  rw [← e] at hv
  have hj:j<7:=by have:=(List.getElem?_eq_some_iff.1 hv).1;simpa using this
  have:=hm k _ j hx' hj
  match j,hj,hv with
  | 0,_,hv=>cases hv;exact this
  | 1,_,hv=>cases hv;exact this
  | 2,_,hv=>cases hv;exact this
  | 3,_,hv=>cases hv;exact this
  | 4,_,hv=>cases hv;exact this
  | 5,_,hv=>cases hv;exact this
  | 6,_,hv=>cases hv;exact this
theorem Tryz.i44:aFy (Tryz.prog.info? 44) 7 128=true:=by kernel_rfl
theorem Tryz.u34:Tryz.prog.underlying 34=some (.slice 44):=by kernel_rfl
theorem aOs (l:List GMember) (hl:bkSl aW l<1073741824) {M:Mem} {w:World} (v:Value) (hc:Cons M w) (hr:Rv M noB (.slice (List.map aD l) [] false) v) :
  Calls Tryz.prog 103 #[v] w fun e w'=>∃ a n p M',e = .returned (.slice a n p)∧Rv M' noB (.slice (List.map aD l) [] false) (.slice a n p)∧Cons M' w'∧Quiet M w M' w':=by
 have hml:l.length<1073741824:=by have:=cQ (f:=aW) sU l;omega
 have hk:=sV l hml (fun y hy=>aCz _ (aEP (by omega) hy))
 unfold qJ at hk
 have hs:O 103 [.slice (List.map aD l) [] false] []=some (.slice (List.map aD l) [] false,[]):=bU (enc:=fun r=>(nM r,[])) hk
 have key:=jH pokX xok hs (M:=M) (w:=w) (vals := #[v]) rfl hc ⟨rfl,fun i p hp=>by
  match i,hp with
  | 0,hp=>cases hp;exact ⟨hr,aT rfl⟩
  | i+1,hp=>simp at hp⟩
 refine key.mono ?_
 rintro e w' ⟨v,M',rfl,hv,hc',hq⟩
 obtain ⟨a,n,p,rfl⟩:=jE hv
 exact ⟨a,n,p,M',rfl,hv,hc',hq⟩
noncomputable def t5C:Code:=fstC (inC (blA (bE Tryz.f37)))
noncomputable def t6C:Code:=fstC (sndC (inC (blA (bE Tryz.f37))))
noncomputable def t7C:Code:=sndC (sndC (inC (blA (bE Tryz.f37))))
set_option maxHeartbeats 8000000 in
theorem aW8 {M:Mem} {w:World} (H:Nat) (x:GSel) (a3:Option Addr) (l3 p3:Nat) (a4:Option Addr) (l4 p4:Nat) (a6:Option Addr) (l6 p6:Nat) (hc:Cons M w) (hH:w.heap[H]?=some (.cells #[.int .i64 x.kind,.string ⟨x.alias.toArray⟩,.string ⟨x.name.toArray⟩,.slice a3 l3 p3,.slice a4 l4 p4,.string ⟨x.on_.toArray⟩,.slice a6 l6 p6] 44 (0,0))) (hf:∀ i,M H i=none) (hr3:Rv M noB (.slice (List.map aD x.args) [] false) (.slice a3 l3 p3)) (hr4:Rv M noB (.slice (List.map aU x.dirs) [] false) (.slice a4 l4 p4)) (hr6:Rv M noB (.slice (List.map aF x.sels) [] false) (.slice a6 l6 p6)) (hl3:bkSl aW x.args<1073741824) (hl4:bkSl jJ x.dirs<1073741824) (hl6:bR x.sels<1073741824) (Q:Exit→Act→World→Prop) (v0 v1 v2 v3 v4 v6 v7 v8 v9 v10 v11 v12 v13 v14 v15 v16 v17 v18 v19 v20 v21 v22 v23 v24 v25 v26 v27 v28 v29 v30 v31 v32:Value)
  (hC:∀ (w':World) (M':Mem) (b3:Option Addr) (m3 q3:Nat) (b4:Option Addr) (m4 q4:Nat) (b6:Option Addr) (m6 q6:Nat) (z16 z17 z18 z19 z20 z21 z22 z23 z24 z25 z26 z27:Value),Stp H M w M' w'→w'.heap[H]?=some (.cells #[.int .i64 x.kind,.string ⟨x.alias.toArray⟩,.string ⟨x.name.toArray⟩,.slice b3 m3 q3,.slice b4 m4 q4,.string ⟨x.on_.toArray⟩,.slice b6 m6 q6] 44 (0,0))→Rv M' noB (.slice (List.map aD x.args) [] false) (.slice b3 m3 q3)→Rv M' noB (.slice (List.map aU x.dirs) [] false) (.slice b4 m4 q4)→Rv M' noB (.slice (List.map aF x.sels) [] false) (.slice b6 m6 q6)→Q .normal ⟨#[v0,v1,v2,v3,v4,.pointer (some ⟨H,0,none⟩),v6,v7,v8,v9,v10,v11,v12,v13,v14,v15,z16,z17,z18,z19,z20,z21,z22,z23,z24,z25,z26,z27,v28,v29,v30,v31,v32],[]⟩ w') :
  Code.wp Tryz.prog t6C Q ⟨#[v0,v1,v2,v3,v4,.pointer (some ⟨H,0,none⟩),v6,v7,v8,v9,v10,v11,v12,v13,v14,v15,v16,v17,v18,v19,v20,v21,v22,v23,v24,v25,v26,v27,v28,v29,v30,v31,v32],[]⟩ w:=by
 have hHl:H<w.heap.size:=(Array.getElem?_eq_some_iff.1 hH).1
 have k3:w.cell? ⟨H,3,none⟩=some (.slice a3 l3 p3):=by rw [cell_of_row w H _ _ _ _ hH];rfl
 have k4:w.cell? ⟨H,4,none⟩=some (.slice a4 l4 p4):=by rw [cell_of_row w H _ _ _ _ hH];rfl
 have k6:w.cell? ⟨H,6,none⟩=some (.slice a6 l6 p6):=by rw [cell_of_row w H _ _ _ _ hH];rfl
 have fin:Hid (∀ (w2 w3 w4:World) (M2 M3 M4:Mem) (b3:Option Addr) (m3 q3:Nat) (b4:Option Addr) (m4 q4:Nat) (b6:Option Addr) (m6 q6:Nat) (z16 z17 z18 z19 z20 z21 z22 z23 z24 z25 z26 z27:Value),Cons M2 w2→Quiet M w.drew M2 w2→Cons M3 w3→Quiet M2 w2 M3 w3→Cons M4 w4→Quiet M3 w3 M4 w4→Rv M2 noB (.slice (List.map aD x.args) [] false) (.slice b3 m3 q3)→Rv M3 noB (.slice (List.map aU x.dirs) [] false) (.slice b4 m4 q4)→Rv M4 noB (.slice (List.map aF x.sels) [] false) (.slice b6 m6 q6)→Q .normal ⟨#[v0,v1,v2,v3,v4,.pointer (some ⟨H,0,none⟩),v6,v7,v8,v9,v10,v11,v12,v13,v14,v15,z16,z17,z18,z19,z20,z21,z22,z23,z24,z25,z26,z27,v28,v29,v30,v31,v32],[]⟩ (((w4.setCell ⟨H,3,none⟩ (.slice b3 m3 q3)).setCell ⟨H,4,none⟩ (.slice b4 m4 q4)).setCell ⟨H,6,none⟩ (.slice b6 m6 q6))):=by
  intro w2 w3 w4 M2 M3 M4 b3 m3 q3 b4 m4 q4 b6 m6 q6 z16 z17 z18 z19 z20 z21 z22 z23 z24 z25 z26 z27 hc2 hq2 hc3 hq3 hc4 hq4 h3 h4 h6
  have S0:=(((Stp.drew (H:=H) hc).trans (Stp.quiet hq2 hc2)).trans (Stp.quiet hq3 hc3)).trans (Stp.quiet hq4 hc4)
  have S1:=S0.trans (Stp.set S0.cons (S0.free hHl hf) 3 (.slice b3 m3 q3))
  have S2:=S1.trans (Stp.set S1.cons (S1.free hHl hf) 4 (.slice b4 m4 q4))
  have S3:=S2.trans (Stp.set S2.cons (S2.free hHl hf) 6 (.slice b6 m6 q6))
  have hl2:H<w2.heap.size:=Nat.lt_of_lt_of_le hHl hq2.size
  have hl3:H<w3.heap.size:=Nat.lt_of_lt_of_le hl2 hq3.size
  have e2:w4.heap[H]?=w.heap[H]?:=(hq4.old H hl3).1.trans ((hq3.old H hl2).1.trans (hq2.old H hHl).1)
  exact hC _ _ _ _ _ _ _ _ _ _ _ _ _ _ _ _ _ _ _ _ _ _ _ S3 (heap_setCell_same _ H 6 _ _ _ (heap_setCell_same _ H 4 _ _ _ (heap_setCell_same _ H 3 _ _ _ (e2.trans hH)))) ((h3.mono hq3.mem (fun _ _ _ h=>h)).mono hq4.mem (fun _ _ _ h=>h)) (h4.mono hq4.mem (fun _ _ _ h=>h)) h6
 have h103:=aOs x.args hl3 (M:=M) (w:=w.drew) (.slice a3 l3 p3) (aDS hc) hr3
 have h36:=fun (M2:Mem) (w2:World) (hc2:Cons M2 w2) (hq2:Quiet M w.drew M2 w2)=>aHX x.dirs hl4 (M:=M2) (w:=w2) (.slice a4 l4 p4) hc2 (hr4.mono hq2.mem (fun _ _ _ h=>h))
 have h37:=fun (M2:Mem) (w2:World) (M3:Mem) (w3:World) (hq2:Quiet M w.drew M2 w2) (hc3:Cons M3 w3) (hq3:Quiet M2 w2 M3 w3)=>aOr x.sels hl6 (M:=M3) (w:=w3) (.slice a6 l6 p6) hc3 ((hr6.mono hq2.mem (fun _ _ _ h=>h)).mono hq3.mem (fun _ _ _ h=>h))
 have hcl:Hid (∀ (M2:Mem) (w2:World),Quiet M w.drew M2 w2→w2.cell? ⟨H,4,none⟩=some (.slice a4 l4 p4)∧w2.cell? ⟨H,6,none⟩=some (.slice a6 l6 p6)):=fun M2 w2 hq2=>⟨(World.cell?_of_block (a:=⟨H,4,none⟩) (hq2.old H hHl).1).trans k4,(World.cell?_of_block (a:=⟨H,6,none⟩) (hq2.old H hHl).1).trans k6⟩
 have hcm:Hid (∀ (M2:Mem) (w2:World) (M3:Mem) (w3:World),Quiet M w.drew M2 w2→Quiet M2 w2 M3 w3→w3.cell? ⟨H,6,none⟩=some (.slice a6 l6 p6)):=fun M2 w2 M3 w3 hq2 hq3=>(World.cell?_of_block (a:=⟨H,6,none⟩) ((hq3.old H (Nat.lt_of_lt_of_le hHl hq2.size)).1.trans (hq2.old H hHl).1)).trans k6
 have hst:Hid (∀ (M2:Mem) (w2:World) (M3:Mem) (w3:World) (M4:Mem) (w4:World),Quiet M w.drew M2 w2→Quiet M2 w2 M3 w3→Quiet M3 w3 M4 w4→w4.cell? ⟨H,3,none⟩=some (.slice a3 l3 p3)∧w4.frozen? ⟨H,3,none⟩=false∧w4.cell? ⟨H,4,none⟩=some (.slice a4 l4 p4)∧w4.frozen? ⟨H,4,none⟩=false∧w4.cell? ⟨H,6,none⟩=some (.slice a6 l6 p6)∧w4.frozen? ⟨H,6,none⟩=false):=by
  intro M2 w2 M3 w3 M4 w4 hq2 hq3 hq4
  have hl2:H<w2.heap.size:=Nat.lt_of_lt_of_le hHl hq2.size
  have hl3:H<w3.heap.size:=Nat.lt_of_lt_of_le hl2 hq3.size
  have e2:w4.heap[H]?=w.heap[H]?:=(hq4.old H hl3).1.trans ((hq3.old H hl2).1.trans (hq2.old H hHl).1)
  exact ⟨(World.cell?_of_block (a:=⟨H,3,none⟩) e2).trans k3,frozen_of_row _ _ _ _ _ (e2.trans hH),(World.cell?_of_block (a:=⟨H,4,none⟩) e2).trans k4,frozen_of_row _ _ _ _ _ (e2.trans hH),(World.cell?_of_block (a:=⟨H,6,none⟩) e2).trans k6,frozen_of_row _ _ _ _ _ (e2.trans hH)⟩
 replace h36:=(id h36:Hid _)
 replace h37:=(id h37:Hid _)
 clear hC hH
 refine Code.wp_mono (Q:=Exit.then (Q .normal) (fun _ _ _=>False)) (fun e a w h=>by cases e<;>first | exact h | exact h.elim) ?_
 unfold t6C
 simp only [Tryz.f37,bE,inC,blA,blkC,lopC,fstC,sndC]
 go_wp2
 go_region_with (first | (go_at_call 103;refine h103.mono ?_;rintro e' w2 ⟨b3,m3,q3,M2,rfl,hv3,hc2,hq2⟩;obtain ⟨j4,j6⟩:=hcl.out M2 w2 hq2) | (go_at_call 36;have h36b:=h36.out M2 w2 hc2 hq2;refine h36b.mono ?_;rintro e' w3 ⟨b4,m4,q4,M3,rfl,hv4,hc3,hq3⟩;have n6:=hcm.out M2 w2 M3 w3 hq2 hq3) | (go_at_call 37;have h37b:=h37.out M2 w2 M3 w3 hq2 hc3 hq3;refine h37b.mono ?_;rintro e' w4 ⟨b6,m6,q6,M4,rfl,hv6,hc4,hq4⟩;obtain ⟨i1,i2,i3,i4,i5,i6⟩:=hst.out M2 w2 M3 w3 M4 w4 hq2 hq3 hq4))
 all_goals exact fin.out w2 w3 w4 M2 M3 M4 b3 m3 q3 b4 m4 q4 b6 m6 q6 _ _ _ _ _ _ _ _ _ _ _ _ hc2 hq2 hc3 hq3 hc4 hq4 hv3 hv4 hv6
set_option maxHeartbeats 4000000 in
theorem bBc {w:World} (H B:Nat) (x:GSel) (a3:Option Addr) (l3 p3:Nat) (a4:Option Addr) (l4 p4:Nat) (a6:Option Addr) (l6 p6:Nat) (ga:Option Addr) (n cap:Nat) (ys:List Value) (hH:w.heap[H]?=some (.cells #[.int .i64 x.kind,.string ⟨x.alias.toArray⟩,.string ⟨x.name.toArray⟩,.slice a3 l3 p3,.slice a4 l4 p4,.string ⟨x.on_.toArray⟩,.slice a6 l6 p6] 44 (0,0))) (hown:w.ownsRow B 44 7 (.slice ga n cap) n ys) (hB:B≤w.heap.size) (hn:n≤1073741824) (Q:Exit→Act→World→Prop) (v0 v1 v2 v4 v6 v7 v8 v9 v10 v11 v12 v13 v14 v15 v16 v17 v18 v19 v20 v21 v22 v23 v24 v25 v26 v27 v28 v29 v30 v31 v32:Value)
  (hC:∀ (w':World) (g cap':Nat) (z28 z29 z30 z31:Value),w'.ownsRow B 44 7 (.slice (some ⟨g,0,none⟩) (n+1) cap') (n+1) (ys++[.int .i64 x.kind,.string ⟨x.alias.toArray⟩,.string ⟨x.name.toArray⟩,.slice a3 l3 p3,.slice a4 l4 p4,.string ⟨x.on_.toArray⟩,.slice a6 l6 p6])→(∀ b,b<w.heap.size→(Value.slice ga n cap).ownBlock≠some b→w'.heap[b]?=w.heap[b]?)→((Value.slice ga n cap).ownBlock=some g∨w.heap.size≤g)→w'.os=w.os→w'.tape=w.tape→w'.output=w.output→w.heap.size≤w'.heap.size→Q .normal ⟨#[v0,v1,v2,.slice (some ⟨g,0,none⟩) (n+1) cap',v4,.pointer (some ⟨H,0,none⟩),v6,v7,v8,v9,v10,v11,v12,v13,v14,v15,v16,v17,v18,v19,v20,v21,v22,v23,v24,v25,v26,v27,z28,z29,z30,z31,v32],[]⟩ w') :
  Code.wp Tryz.prog t7C Q ⟨#[v0,v1,v2,.slice ga n cap,v4,.pointer (some ⟨H,0,none⟩),v6,v7,v8,v9,v10,v11,v12,v13,v14,v15,v16,v17,v18,v19,v20,v21,v22,v23,v24,v25,v26,v27,v28,v29,v30,v31,v32],[]⟩ w:=by
 have hHl:H<w.heap.size:=(Array.getElem?_eq_some_iff.1 hH).1
 obtain ⟨i0,z0,hi,hz0,hz1,hz2,hzc⟩:=aLr Tryz.i44
 have c0:w.cell? ⟨H,0,none⟩=_:=cell_of_row w H 0 _ _ _ hH
 have c1:w.cell? ⟨H,1,none⟩=_:=cell_of_row w H 1 _ _ _ hH
 have c2:w.cell? ⟨H,2,none⟩=_:=cell_of_row w H 2 _ _ _ hH
 have c3:w.cell? ⟨H,3,none⟩=_:=cell_of_row w H 3 _ _ _ hH
 have c4:w.cell? ⟨H,4,none⟩=_:=cell_of_row w H 4 _ _ _ hH
 have c5:w.cell? ⟨H,5,none⟩=_:=cell_of_row w H 5 _ _ _ hH
 have c6:w.cell? ⟨H,6,none⟩=_:=cell_of_row w H 6 _ _ _ hH
 simp only [List.getElem?_toArray,List.getElem?_cons_zero,List.getElem?_cons_succ] at c0 c1 c2 c3 c4 c5 c6
 have hn0:=World.news_of_block (cs := #[.int .i64 x.kind,.string ⟨x.alias.toArray⟩,.string ⟨x.name.toArray⟩,.slice a3 l3 p3,.slice a4 l4 p4,.string ⟨x.on_.toArray⟩,.slice a6 l6 p6]) (heap_alloc_new w (.cells #[.int .i64 x.kind,.string ⟨x.alias.toArray⟩,.string ⟨x.name.toArray⟩,.slice a3 l3 p3,.slice a4 l4 p4,.string ⟨x.on_.toArray⟩,.slice a6 l6 p6] 44))
 have hown2:=hown.alloc (.cells #[.int .i64 x.kind,.string ⟨x.alias.toArray⟩,.string ⟨x.name.toArray⟩,.slice a3 l3 p3,.slice a4 l4 p4,.string ⟨x.on_.toArray⟩,.slice a6 l6 p6] 44)
 have hsz:(w.alloc (.cells #[.int .i64 x.kind,.string ⟨x.alias.toArray⟩,.string ⟨x.name.toArray⟩,.slice a3 l3 p3,.slice a4 l4 p4,.string ⟨x.on_.toArray⟩,.slice a6 l6 p6] 44)).heap.size=w.heap.size+1:=by simp
 have hBs:B≤(w.alloc (.cells #[.int .i64 x.kind,.string ⟨x.alias.toArray⟩,.string ⟨x.name.toArray⟩,.slice a3 l3 p3,.slice a4 l4 p4,.string ⟨x.on_.toArray⟩,.slice a6 l6 p6] 44)).heap.size:=by omega
 replace hC:=(id hC:Hid _)
 unfold t7C
 simp only [Tryz.f37,bE,inC,blA,blkC,lopC,fstC,sndC]
 go_wp2_with (at_builtin;refine wpList_append_lies _ rfl (.tmp 28) (.tmp 30) 34 rfl B 44 i0 _ 7 128 Tryz.u34 hi hz0 hz1 hz2 hzc (by decide) (.slice ga n cap) n ys rfl hown2 ⟨w.heap.size,0,none⟩ 1 1 [.int .i64 x.kind,.string ⟨x.alias.toArray⟩,.string ⟨x.name.toArray⟩,.slice a3 l3 p3,.slice a4 l4 p4,.string ⟨x.on_.toArray⟩,.slice a6 l6 p6] rfl rfl hn0 (by intro u hu;simp only [List.mem_cons,List.not_mem_nil,or_false] at hu;rcases hu with rfl | rfl | rfl | rfl | rfl | rfl | rfl<;>rfl) (by decide) (by simp [maxLen];omega) (by omega) hBs _ rfl ?_;intro g cap' w1 hown3 hgrow hat hlt)
 refine hC.out _ g cap' _ _ _ _ hown3 ?_ ?_ hgrow.os hgrow.tape hgrow.output ?_
 ·intro b hb hbo
  exact (hgrow.block b (by rw [hsz];omega) (fun e=>hbo e.symm)).trans (heap_alloc_old w _ hb)
 ·rcases hat with h | h
  ·exact .inl h
  ·right;omega
 ·have:=hgrow.size
  omega
theorem OwnL.add {B e size cap g:Nat} {M M':Mem} {w':World} {es:List PV} {p:PV} {ys us:List Value} (hyl:ys.length=es.length*size) (h2:∀ (i:Nat) (p:PV) (j:Nat) (c:PV),es[i]?=some p→p.cells[j]?=some c→∃ u,ys[i*size+j]?=some u∧Rv M noB c u) (hoks:∀ p∈es,okEl size p) (hok:okEl size p) (hus:∀ (j:Nat) (c:PV),p.cells[j]?=some c→∃ u,us[j]?=some u∧Rv M' noB c u) (hM:∀ b i v,M b i=some v→M' b i=some v)
  (ho:w'.ownsRow B e size (.slice (some ⟨g,0,none⟩) (es.length+1) cap) (es.length+1) (ys++us)) (hf:∀ i,M' g i=none):OwnL B M' w' e size (es++[p]) (.slice (some ⟨g,0,none⟩) (es.length+1) cap):=by
 refine ⟨⟨ys++us,by rw [List.length_append];exact ho,fun i q j c hq hc => ?_⟩,fun q hq => ?_,fun k hk i => ?_⟩
 ·rcases Nat.lt_or_ge i es.length with hlt | hge
  ·rw [List.getElem?_append_left hlt] at hq
   obtain ⟨u,h3,h4⟩:=h2 i q j c hq hc
   exact ⟨u,by rw [List.getElem?_append_left (List.getElem?_eq_some_iff.1 h3).1];exact h3,h4.mono hM (fun _ _ _ h=>h)⟩
  ·rw [List.getElem?_append_right hge] at hq
   have h0:i-es.length=0:=by
    rcases Nat.eq_zero_or_pos (i-es.length) with h0 | h0
    ·exact h0
    ·rw [List.getElem?_eq_none (by simp;omega)] at hq;cases hq
   rw [h0] at hq
   cases hq
   obtain ⟨u,h3,h4⟩:=hus j c hc
   have e:i=es.length:=by omega
   subst e
   exact ⟨u,by rw [List.getElem?_append_right (by omega),show es.length*size+j-ys.length=j by omega];exact h3,h4⟩
 ·rcases List.mem_append.1 hq with hq | hq
  ·exact hoks q hq
  ·rw [List.mem_singleton.1 hq];exact hok
 ·have:k=g:=by simpa [Value.ownBlock] using hk.symm
  rw [this];exact hf i
structure SI (M:Mem) (w:World) (M1:Mem) (wr:World) (l:List GSel) (k:Nat) (vo:Value):Prop where
 own:OwnL w.heap.size M1 wr 44 7 (List.map aF (l.take k)) vo
 cons:Cons M1 wr
 frm:From w.heap.size M w M1 wr
theorem SI.next {M M1 M3:Mem} {w wr w3 w4:World} {k:Nat} {l:List GSel} {v3 v4 v6:Value} {ga:Option Addr} {gc g cap':Nat} {ys:List Value} {x:GSel} (hD:SI M w M1 wr l k (.slice ga k gc)) (hx:l[k]?=some x) (S:Stp wr.heap.size M1 wr M3 w3) (hc:SCV M3 x v3 v4 v6) (hyl:ys.length=k*7)
  (hcl:∀ (i:Nat) (p:PV) (j:Nat) (c:PV),(List.map aF (l.take k))[i]?=some p→p.cells[j]?=some c→∃ u,ys[i*7+j]?=some u∧Rv M3 noB c u)
  (own':w4.ownsRow w.heap.size 44 7 (.slice (some ⟨g,0,none⟩) (k+1) cap') (k+1) (ys++aAm x v3 v4 v6))
  (blk:∀ b,b<w3.heap.size→(Value.slice ga k gc).ownBlock≠some b→w4.heap[b]?=w3.heap[b]?) (hg:(Value.slice ga k gc).ownBlock=some g∨w3.heap.size≤g) (hos:w4.os=w3.os) (hta:w4.tape=w3.tape) (hou:w4.output=w3.output) (hsz:w3.heap.size≤w4.heap.size) :
  SI M w M3 w4 l (k+1) (.slice (some ⟨g,0,none⟩) (k+1) cap'):=by
 have hle:=hD.frm.below.size
 have hlow:∀ b,b<w.heap.size→w4.heap[b]?=wr.heap[b]?:=fun b hb =>
  (blk b (by have:=S.size;omega) (fun e=>by have:=(hD.own.lt b e).1;omega)).trans (S.blk b (by omega) (by omega))
 have hlk:(List.map aF (l.take k)).length=k:=by
  rw [List.length_map,List.length_take]
  have:=(List.getElem?_eq_some_iff.1 hx).1
  omega
 refine ⟨?_,?_,?_⟩
 ·have e:List.map aF (l.take (k+1))=List.map aF (l.take k)++[aF x]:=by rw [List.take_add_one,hx,List.map_append];rfl
  rw [e]
  have h:=OwnL.add (M:=M3) (M':=M3) (w':=w4) (es:=List.map aF (l.take k)) (p:=aF x) (ys:=ys) (us:=aAm x v3 v4 v6) (B:=w.heap.size) (e:=44) (size:=7) (g:=g) (cap:=cap') (by rw [hlk];exact hyl) hcl (fun p hp=>by obtain ⟨y,_,rfl⟩:=List.mem_map.1 hp;exact aA2 y) (aA2 x) (aW7 hc) (fun _ _ _ h=>h) (by rw [hlk];exact own') (fun i=>by
   rcases hg with h | h
   ·rw [S.old _ (hD.own.lt g h).2];exact hD.own.free g h i
   ·exact tN S.cons h i)
  rw [hlk] at h
  exact h
 ·refine kA S.cons fun b hb ⟨i,hi⟩=>blk b hb (fun e=>hi ?_)
  rw [S.old _ (hD.own.lt b e).2];exact hD.own.free b e i
 ·exact hD.frm.trans ⟨S.mem,fun b hb i=>S.old b (by omega) i,hos.trans S.os,hta.trans S.tape,hou.trans S.output,Nat.le_trans S.size hsz,fun b hb=>hlow b hb⟩
noncomputable def t3C:Code:=fstC (lopC (blkC (blA (bE Tryz.f37))))
noncomputable def t4C:Code:=sndC (sndC (lopC (blkC (blA (bE Tryz.f37)))))
set_option maxHeartbeats 4000000 in
theorem aW9 (l:List GSel) (oa:Option Addr) (cap:Nat) (M:Mem) (w:World) (hN:l.length<1073741824) (hcap:l.length≤cap) (hsm:∀ x∈l,bkSl aW x.args<1073741824∧bkSl jJ x.dirs<1073741824∧bR x.sels<1073741824)
  (hat:l≠[]→∃ blk off,oa=some ⟨blk,off,none⟩) (hcell:∀ (blk off:Nat),oa=some ⟨blk,off,none⟩→∀ (k:Nat) (x:GSel),l[k]?=some x→∃ v3 v4 v6,SCV M x v3 v4 v6∧∀ j v,(aAm x v3 v4 v6)[j]?=some v→M blk (off+k*7+j)=some v)
  (M0:Mem) (w0:World) (h0:SI M w M0 w0 l 0 (.slice none 0 0)) (Q:Exit→Act→World→Prop) (v1 v2 v4 v5 v6 v7 v8 v9 v10 v11 v12 v13 v14 v15 v16 v17 v18 v19 v20 v21 v22 v23 v24 v25 v26 v27 v28 v29 v30 v31 v32:Value)
  (hC:∀ (w':World) (M':Mem) (ga:Option Addr) (gc:Nat) (z4 z5 z6 z7 z8 z9 z10 z11 z12 z13 z14 z15 z16 z17 z18 z19 z20 z21 z22 z23 z24 z25 z26 z27 z28 z29 z30 z31:Value),SI M w M' w' l l.length (.slice ga l.length gc)→Q .normal ⟨#[.slice oa l.length cap,v1,v2,.slice ga l.length gc,z4,z5,z6,z7,z8,z9,z10,z11,z12,z13,z14,z15,z16,z17,z18,z19,z20,z21,z22,z23,z24,z25,z26,z27,z28,z29,z30,z31,v32],[]⟩ w') :
  Code.wp Tryz.prog (fstC (sndC (sndC (bE Tryz.f37)))) Q ⟨#[.slice oa l.length cap,v1,v2,.slice none 0 0,v4,v5,v6,v7,v8,v9,v10,v11,v12,v13,v14,v15,v16,v17,v18,v19,v20,v21,v22,v23,v24,v25,v26,v27,v28,v29,v30,v31,v32],[]⟩ w0:=by
 obtain ⟨N,hln⟩:∃ N,l.length=N:=⟨_,rfl⟩
 rw [hln] at hN hcap
 simp only [hln] at hC ⊢
 replace hC:=(id hC:Hid _)
 simp only [Tryz.f37,bE,fstC,sndC]
 go_wp2
 by_cases h0N:N=0
 ·subst h0N
  refine wp_loop_rounds 1 ?_;rw [rounds_succ];go_wp2
  exact hC.out _ _ _ _ _ _ _ _ _ _ _ _ _ _ _ _ _ _ _ _ _ _ _ _ _ _ _ _ _ _ _ _ h0
 obtain ⟨blk,off,rfl⟩:=hat (by intro e;rw [e] at hln;simp at hln;omega)
 go_loopw [3,4] (fun t3 t4 wr=>∃ (k:Nat) (M1:Mem) (ga:Option Addr) (gc:Nat),k≤N∧t4 = .int .i64 k∧t3 = .slice ga k gc∧SI M w M1 wr l k (.slice ga k gc)) (fun _ t4 _=>N-(intOf t4).toNat)
 case atStart=>exact ⟨0,M0,none,0,Nat.zero_le _,rfl,rfl,h0⟩
 case round =>
  obtain ⟨k,M1,ga,gc,hk,rfl,rfl,hD⟩:=hrel
  obtain ⟨x,a3,l3,p3,a4,l4,p4,a6,l6,p6,hx⟩:∃ x a3 l3 p3 a4 l4 p4 a6 l6 p6,k<N→l[k]?=some x∧SCV M1 x (.slice a3 l3 p3) (.slice a4 l4 p4) (.slice a6 l6 p6)∧(∀ j v,(aAm x (.slice a3 l3 p3) (.slice a4 l4 p4) (.slice a6 l6 p6))[j]?=some v→wr.cell? ⟨blk,off+k*7+j,none⟩=some v):=by
   by_cases hkN:k<N
   ·have hg:=List.getElem?_eq_getElem (l:=l) (i:=k) (by omega)
    obtain ⟨v3,v4,v6,h1,h2⟩:=hcell blk off rfl k _ hg
    obtain ⟨a3,l3,p3,rfl⟩:=jE h1.r3
    obtain ⟨a4,l4,p4,rfl⟩:=jE h1.r4
    obtain ⟨a6,l6,p6,rfl⟩:=jE h1.r6
    exact ⟨_,a3,l3,p3,a4,l4,p4,a6,l6,p6,fun _=>⟨hg,h1.mono hD.frm.mem,fun j v hv=>kZ hD.cons (hD.frm.mem _ _ _ (h2 j v hv))⟩⟩
   ·exact ⟨⟨0,[],[],[],[],[],[]⟩,none,0,0,none,0,0,none,0,0,fun h=>absurd h hkN⟩
  have x0:k<N→wr.cell? ⟨blk,off+k*7,none⟩=some (.int .i64 x.kind):=fun h=>(hx h).2.2 0 _ rfl
  have x1:k<N→wr.cell? ⟨blk,off+k*7+1,none⟩=some (.string ⟨x.alias.toArray⟩):=fun h=>(hx h).2.2 1 _ rfl
  have x2:k<N→wr.cell? ⟨blk,off+k*7+2,none⟩=some (.string ⟨x.name.toArray⟩):=fun h=>(hx h).2.2 2 _ rfl
  have x3:k<N→wr.cell? ⟨blk,off+k*7+3,none⟩=some (.slice a3 l3 p3):=fun h=>(hx h).2.2 3 _ rfl
  have x4:k<N→wr.cell? ⟨blk,off+k*7+4,none⟩=some (.slice a4 l4 p4):=fun h=>(hx h).2.2 4 _ rfl
  have x5:k<N→wr.cell? ⟨blk,off+k*7+5,none⟩=some (.string ⟨x.on_.toArray⟩):=fun h=>(hx h).2.2 5 _ rfl
  have x6:k<N→wr.cell? ⟨blk,off+k*7+6,none⟩=some (.slice a6 l6 p6):=fun h=>(hx h).2.2 6 _ rfl
  replace hx:=(id hx:Hid _)
  change Code.wp Tryz.prog (.seq t3C (.seq (.block 1 (.seq t5C (.seq t6C t7C))) t4C)) _ _ _
  unfold t3C t4C t5C
  simp only [Tryz.f37,bE,inC,blA,blkC,lopC,fstC,sndC]
  go_wp2
  ·rename_i hkN K1 hK1 K0 hK0
   obtain ⟨hxk,hcv,_⟩:=hx.out hkN
   obtain ⟨s3,s4,s6⟩:=hsm x (List.mem_of_getElem? hxk)
   refine aW8 (M:=M1) wr.heap.size x a3 l3 p3 a4 l4 p4 a6 l6 p6 (Stp.alloc (H:=0) hD.cons _).cons (heap_alloc_new wr _) (fun i=>tN hD.cons (Nat.le_refl _) i) hcv.r3 hcv.r4 hcv.r6 s3 s4 s6 _ _ _ _ _ _ _ _ _ _ _ _ _ _ _ _ _ _ _ _ _ _ _ _ _ _ _ _ _ _ _ _ _ (fun w3 M3 b3 m3 q3 b4 m4 q4 b6 m6 q6 z16 z17 z18 z19 z20 z21 z22 z23 z24 z25 z26 z27 S3 hH3 hr3 hr4 hr6 => ?_)
   have S:=(Stp.alloc (H:=wr.heap.size) hD.cons _).trans S3
   have hO:=hD.own.stp S (fun e=>by have:=(hD.own.lt _ e).2;omega)
   obtain ⟨ys,hown,hcl⟩:=hO.own
   have hlk:(List.map aF (l.take k)).length=k:=by
    rw [List.length_map,List.length_take]
    omega
   rw [hlk] at hown
   refine hK0 _ _ ?_
   refine bBc wr.heap.size w.heap.size x b3 m3 q3 b4 m4 q4 b6 m6 q6 ga k gc ys hH3 hown (by have:=S.size;have:=hD.frm.below.size;omega) (by omega) _ _ _ _ _ _ _ _ _ _ _ _ _ _ _ _ _ _ _ _ _ _ _ _ _ _ _ _ _ _ _ _ (fun w4 g cap' z28 z29 z30 z31 own' hblk hg hos hta hou hsz4 => ?_)
   have hDn:=hD.next hxk S ⟨hr3,hr4,hr6⟩ hown.1 hcl own' hblk hg hos hta hou hsz4
   replace hDn:=(id hDn:Hid _)
   refine hK1 _ _ ?_
   clear hblk own' hK0 hK1
   go_wp2
   go_roundw
   case rel=>exact ⟨k+1,M3,_,_,by omega,by go_num,rfl,hDn.out⟩
   case measure=>simp [intOf];omega
  ·rename_i K0 hK0 hkN
   have e:k=N:=by omega
   subst e
   exact hC.out _ _ _ _ _ _ _ _ _ _ _ _ _ _ _ _ _ _ _ _ _ _ _ _ _ _ _ _ _ _ _ _ hD
noncomputable def u0C:Code:=fstC (bE Tryz.f37)
noncomputable def u1C:Code:=fstC (sndC (bE Tryz.f37))
noncomputable def u2C:Code:=fstC (sndC (sndC (bE Tryz.f37)))
noncomputable def u3C:Code:=sndC (sndC (sndC (bE Tryz.f37)))
theorem bB6:Tryz.f37.body=some (.seq u0C (.seq u1C (.seq u2C u3C))):=by kernel_rfl
theorem aZA (l:List GSel) (hl:bR l<1073741824) {M:Mem} {w:World} (v:Value) (hc:Cons M w) (hr:Rv M noB (.slice (List.map aF l) [] false) v) :
  Calls Tryz.prog 37 #[v] w fun e w'=>∃ a p M',e = .returned (.slice a l.length p)∧OwnL w.heap.size M' w' 44 7 (List.map aF l) (.slice a l.length p)∧Cons M' w'∧Quiet M w M' w':=by
 have hlen:=fA l
 have hsm:∀ x∈l,bkSl aW x.args<1073741824∧bkSl jJ x.dirs<1073741824∧bR x.sels<1073741824:=by
  intro x hx
  have hb:=nX hx
  have hs:=nY x
  have hp:=aFx x
  omega
 obtain ⟨oa,cap,rfl,hcap,hat,hcell⟩:=aHY hc hr
 have LA:=@aW9 l oa cap M w (by omega) hcap hsm hat hcell M w ⟨OwnL.nil _ _ _ _ _,hc,From.refl _ _ _⟩
 replace LA:=(id LA:Hid _)
 clear hat hcell hsm
 refine calls_of_wp Tryz.func37 bB6 ?_
 simp only [Tryz.ntmps37,List.size_toArray,List.length_cons,List.length_nil,Nat.reduceAdd,Nat.reduceSub,Array.replicate_succ,
   Array.replicate_zero,List.push_toArray,List.append_toArray,List.nil_append,List.cons_append]
 generalize hQ:bodyPost Tryz.prog Tryz.f37 _=Q
 replace hQ:=(id hQ:Hid _)
 unfold u0C u1C
 simp only [Tryz.f37,bE,fstC,sndC]
 go_wp2
 refine LA.out _ _ _ _ _ _ _ _ _ _ _ _ _ _ _ _ _ _ _ _ _ _ _ _ _ _ _ _ _ _ _ _ (fun w1 M1 ga gc z4 z5 z6 z7 z8 z9 z10 z11 z12 z13 z14 z15 z16 z17 z18 z19 z20 z21 z22 z23 z24 z25 z26 z27 z28 z29 z30 z31 hD => ?_)
 rename_i K0 hK0
 refine hK0 _ _ ?_
 have hOw:=hD.own
 rw [List.take_length] at hOw
 replace hOw:=(id hOw:Hid _)
 replace hD:=(id hD:Hid _)
 clear hK0 LA
 unfold u3C
 simp only [Tryz.f37,bE,sndC]
 show Code.wp _ _ _ _ _
 go_wp2
 rw [← hQ.out]
 try simp only [Exit.inBlock,Exit.then]
 refine bodyPost_ret (results_tmp (by rfl) _ _ _) rfl ?_
 have hD:=hD.out
 exact ⟨ga,gc,M1,rfl,hOw.out,hD.cons,hD.frm.mem,fun b hb=>⟨hD.frm.below.block b hb,fun i=>hD.frm.old b hb i⟩,hD.frm.below.size,hD.frm.below.os,hD.frm.below.tape,hD.frm.below.output⟩
set_option maxHeartbeats 4000000 in
theorem aXa {M:Mem} {w:World} (H:Nat) (x:GOp) (a2:Option Addr) (l2 p2:Nat) (a3:Option Addr) (l3 p3:Nat) (a4:Option Addr) (l4 p4:Nat) (hc:Cons M w) (hH:w.heap[H]?=some (.cells #[.int .i64 x.kind,.string ⟨x.name.toArray⟩,.slice a2 l2 p2,.slice a3 l3 p3,.slice a4 l4 p4] 38 (0,0))) (hf:∀ i,M H i=none) (hr3:Rv M noB (.slice (List.map aU x.dirs) [] false) (.slice a3 l3 p3)) (hr4:Rv M noB (.slice (List.map aF x.sels) [] false) (.slice a4 l4 p4)) (hl3:bkSl jJ x.dirs<1073741824) (hl4:bR x.sels<1073741824) (Q:Exit→Act→World→Prop) (v0 v1 v2 v3 v4 v6 v7 v8 v9 v10 v11 v12 v13 v14 v15 v16 v17 v18 v19 v20 v21 v22 v23 v24 v25 v26 v27 v28 v29 v30 v31 v32 v33 v34 v35 v36 v37 v38 v39 v40 v41 v42 v43 v44 v45 v46 v47 v48 v49 v50 v51 v52 v53 v54 v55 v56 v57 v58 v59 v60 v61 v62 v63 v64 v65:Value)
  (hC:∀ (w':World) (M':Mem) (b3:Option Addr) (m3 q3:Nat) (b4:Option Addr) (m4 q4:Nat) (z25 z26 z27 z28 z29 z30 z31 z32:Value),Stp H M w M' w'→w'.heap[H]?=some (.cells #[.int .i64 x.kind,.string ⟨x.name.toArray⟩,.slice a2 l2 p2,.slice b3 m3 q3,.slice b4 m4 q4] 38 (0,0))→Rv M' noB (.slice (List.map aU x.dirs) [] false) (.slice b3 m3 q3)→OwnL w.heap.size M' w' 44 7 (List.map aF x.sels) (.slice b4 m4 q4)→Q .normal ⟨#[v0,v1,v2,v3,v4,.pointer (some ⟨H,0,none⟩),v6,v7,v8,v9,v10,v11,v12,v13,v14,v15,v16,v17,v18,v19,v20,v21,v22,v23,v24,z25,z26,z27,z28,z29,z30,z31,z32,v33,v34,v35,v36,v37,v38,v39,v40,v41,v42,v43,v44,v45,v46,v47,v48,v49,v50,v51,v52,v53,v54,v55,v56,v57,v58,v59,v60,v61,v62,v63,v64,v65],[]⟩ w') :
  Code.wp Tryz.prog r7C Q ⟨#[v0,v1,v2,v3,v4,.pointer (some ⟨H,0,none⟩),v6,v7,v8,v9,v10,v11,v12,v13,v14,v15,v16,v17,v18,v19,v20,v21,v22,v23,v24,v25,v26,v27,v28,v29,v30,v31,v32,v33,v34,v35,v36,v37,v38,v39,v40,v41,v42,v43,v44,v45,v46,v47,v48,v49,v50,v51,v52,v53,v54,v55,v56,v57,v58,v59,v60,v61,v62,v63,v64,v65],[]⟩ w:=by
 have hHl:H<w.heap.size:=(Array.getElem?_eq_some_iff.1 hH).1
 have k3:w.cell? ⟨H,3,none⟩=some (.slice a3 l3 p3):=by rw [cell_of_row w H _ _ _ _ hH];rfl
 have k4:w.cell? ⟨H,4,none⟩=some (.slice a4 l4 p4):=by rw [cell_of_row w H _ _ _ _ hH];rfl
 have fin:Hid (∀ (w2 w3:World) (M2 M3:Mem) (b3:Option Addr) (m3 q3:Nat) (b4:Option Addr) (m4 q4:Nat) (z25 z26 z27 z28 z29 z30 z31 z32:Value),Cons M2 w2→Quiet M w.drew M2 w2→Cons M3 w3→Quiet M2 w2 M3 w3→Rv M2 noB (.slice (List.map aU x.dirs) [] false) (.slice b3 m3 q3)→OwnL w2.heap.size M3 w3 44 7 (List.map aF x.sels) (.slice b4 m4 q4)→Q .normal ⟨#[v0,v1,v2,v3,v4,.pointer (some ⟨H,0,none⟩),v6,v7,v8,v9,v10,v11,v12,v13,v14,v15,v16,v17,v18,v19,v20,v21,v22,v23,v24,z25,z26,z27,z28,z29,z30,z31,z32,v33,v34,v35,v36,v37,v38,v39,v40,v41,v42,v43,v44,v45,v46,v47,v48,v49,v50,v51,v52,v53,v54,v55,v56,v57,v58,v59,v60,v61,v62,v63,v64,v65],[]⟩ ((w3.setCell ⟨H,3,none⟩ (.slice b3 m3 q3)).setCell ⟨H,4,none⟩ (.slice b4 m4 q4))):=by
  intro w2 w3 M2 M3 b3 m3 q3 b4 m4 q4 z25 z26 z27 z28 z29 z30 z31 z32 hc2 hq2 hc3 hq3 h3 h4
  have S0:=((Stp.drew (H:=H) hc).trans (Stp.quiet hq2 hc2)).trans (Stp.quiet hq3 hc3)
  have S1:=S0.trans (Stp.set S0.cons (S0.free hHl hf) 3 (.slice b3 m3 q3))
  have S2:=S1.trans (Stp.set S1.cons (S1.free hHl hf) 4 (.slice b4 m4 q4))
  have e2:w3.heap[H]?=w.heap[H]?:=(hq3.old H (Nat.lt_of_lt_of_le hHl hq2.size)).1.trans (hq2.old H hHl).1
  have eB:∀ k,w.heap.size≤k→k≠H:=fun k hk=>by omega
  have hb2:∀ k,k≠H→((w3.setCell ⟨H,3,none⟩ (.slice b3 m3 q3)).setCell ⟨H,4,none⟩ (.slice b4 m4 q4)).heap[k]?=w3.heap[k]?:=fun k hk=>(Below.heap_setCell _ _ _ _ hk).trans (Below.heap_setCell _ _ _ _ hk)
  have hz:w.heap.size≤w2.heap.size:=hq2.size
  have k4:=(h4.le hz).move (M':=M3) (w':=(w3.setCell ⟨H,3,none⟩ (.slice b3 m3 q3)).setCell ⟨H,4,none⟩ (.slice b4 m4 q4)) (fun _ _ _ h=>h) (fun k hk=>hb2 k (eB k ((h4.le hz).lt k hk).1)) (fun _ _ _=>rfl)
  exact hC _ _ _ _ _ _ _ _ _ _ _ _ _ _ _ _ S2 (heap_setCell_same _ H 4 _ _ _ (heap_setCell_same _ H 3 _ _ _ (e2.trans hH))) (h3.mono hq3.mem (fun _ _ _ h=>h)) k4
 have h36:=aHX x.dirs hl3 (M:=M) (w:=w.drew) (.slice a3 l3 p3) (aDS hc) hr3
 have h37:=fun (M2:Mem) (w2:World) (hc2:Cons M2 w2) (hq2:Quiet M w.drew M2 w2)=>aZA x.sels hl4 (M:=M2) (w:=w2) (.slice a4 l4 p4) hc2 (hr4.mono hq2.mem (fun _ _ _ h=>h))
 have hcl:Hid (∀ (M2:Mem) (w2:World),Quiet M w.drew M2 w2→w2.cell? ⟨H,4,none⟩=some (.slice a4 l4 p4)):=fun M2 w2 hq2=>(World.cell?_of_block (a:=⟨H,4,none⟩) (hq2.old H hHl).1).trans k4
 have hst:Hid (∀ (M2:Mem) (w2:World) (M3:Mem) (w3:World),Quiet M w.drew M2 w2→Quiet M2 w2 M3 w3→w3.cell? ⟨H,3,none⟩=some (.slice a3 l3 p3)∧w3.frozen? ⟨H,3,none⟩=false∧w3.cell? ⟨H,4,none⟩=some (.slice a4 l4 p4)∧w3.frozen? ⟨H,4,none⟩=false):=by
  intro M2 w2 M3 w3 hq2 hq3
  have e2:w3.heap[H]?=w.heap[H]?:=(hq3.old H (Nat.lt_of_lt_of_le hHl hq2.size)).1.trans (hq2.old H hHl).1
  exact ⟨(World.cell?_of_block (a:=⟨H,3,none⟩) e2).trans k3,frozen_of_row _ _ _ _ _ (e2.trans hH),(World.cell?_of_block (a:=⟨H,4,none⟩) e2).trans k4,frozen_of_row _ _ _ _ _ (e2.trans hH)⟩
 replace h37:=(id h37:Hid _)
 clear hC hH
 refine Code.wp_mono (Q:=Exit.then (Q .normal) (fun _ _ _=>False)) (fun e a w h=>by cases e<;>first | exact h | exact h.elim) ?_
 unfold r7C
 simp only [Tryz.f13,bE,inC,blA,blB,blkC,lopC,fstC,sndC]
 go_wp2
 go_region_with (first | (go_at_call 36;refine h36.mono ?_;rintro e' w2 ⟨b3,m3,q3,M2,rfl,hv3,hc2,hq2⟩;have j4:=hcl.out M2 w2 hq2) | (go_at_call 37;have h37b:=h37.out M2 w2 hc2 hq2;refine h37b.mono ?_;rintro e' w3 ⟨b4,q4,M3,rfl,hv4,hc3,hq3⟩;obtain ⟨i1,i2,i3,i4⟩:=hst.out M2 w2 M3 w3 hq2 hq3))
 all_goals exact fin.out w2 w3 M2 M3 b3 m3 q3 b4 x.sels.length q4 _ _ _ _ _ _ _ _ hc2 hq2 hc3 hq3 hv3 hv4
structure MO (B:Nat) (M:Mem) (w:World) (x:GOp) (u2 u3 u4:Value):Prop where
 r2:Rv M noB (.slice (List.map aY x.vars) [] false) u2
 r3:Rv M noB (.slice (List.map aU x.dirs) [] false) u3
 o4:OwnL B M w 44 7 (List.map aF x.sels) u4
def Own2 (u4:Value) (k:Nat):Prop:=u4.ownBlock=some k
theorem MO.lt {B:Nat} {M:Mem} {w:World} {x:GOp} {u2 u3 u4:Value} (h:MO B M w x u2 u3 u4):∀ k,Own2 u4 k→B≤k∧k<w.heap.size:=h.o4.lt
theorem MO.le {B B':Nat} {M:Mem} {w:World} {x:GOp} {u2 u3 u4:Value} (h:MO B M w x u2 u3 u4) (hB:B'≤B):MO B' M w x u2 u3 u4:=⟨h.r2,h.r3,h.o4.le hB⟩
theorem MO.move {B:Nat} {M M':Mem} {w w':World} {x:GOp} {u2 u3 u4:Value} (h:MO B M w x u2 u3 u4) (hM:∀ b i v,M b i=some v→M' b i=some v) (hb:∀ k,Own2 u4 k→w'.heap[k]?=w.heap[k]?) (hf:∀ k,Own2 u4 k→∀ i,M' k i=M k i):MO B M' w' x u2 u3 u4 :=
 ⟨h.r2.mono hM (fun _ _ _ h=>h),h.r3.mono hM (fun _ _ _ h=>h),h.o4.move hM hb hf⟩
theorem MO.frz {B:Nat} {M:Mem} {w:World} {x:GOp} {u2 u3 u4:Value} (h:MO B M w x u2 u3 u4) (hc:Cons M w):∃ M',(∀ b i v,M b i=some v→M' b i=some v)∧Cons M' w∧OCV M' x u2 u3 u4∧∀ b,¬ Own2 u4 b→∀ i,M' b i=M b i :=
 ⟨_,pB hc,aDN hc,⟨h.r2.mono (pB hc) (fun _ _ _ h=>h),h.r3.mono (pB hc) (fun _ _ _ h=>h),h.o4.rv hc⟩,fun _ hb=>uU hb⟩
def aA7 (M:Mem) (m:Nat) (u2 u3 u4:Value) (l:List GOp) (ys:List Value):Prop :=
 ys.length=l.length*5∧∀ (i:Nat) (x:GOp),l[i]?=some x→∃ v2 v3 v4,((i=m∧v2=u2∧v3=u3∧v4=u4)∨(i≠m∧OCV M x v2 v3 v4))∧∀ (j:Nat) (u:Value),(aAl x v2 v3 v4)[j]?=some u→ys[i*5+j]?=some u
theorem aA7.nil (M:Mem) (m:Nat) (u2 u3 u4:Value):aA7 M m u2 u3 u4 [] []:=⟨rfl,fun i x h=>by simp at h⟩
theorem aA7.mono {M M':Mem} {m:Nat} {u2 u3 u4:Value} {l:List GOp} {ys:List Value} (h:aA7 M m u2 u3 u4 l ys) (hM:∀ b i v,M b i=some v→M' b i=some v):aA7 M' m u2 u3 u4 l ys :=
 ⟨h.1,fun i x hx=>by
  obtain ⟨v2,v3,v4,h1,h2⟩:=h.2 i x hx
  exact ⟨v2,v3,v4,h1.imp id (fun h=>⟨h.1,h.2.mono hM⟩),h2⟩⟩
theorem aA7.early {M:Mem} {m:Nat} {u2 u3 u4 v2 v3 v4:Value} {l:List GOp} {ys:List Value} (h:aA7 M m u2 u3 u4 l ys) (hm:l.length≤m):aA7 M m v2 v3 v4 l ys :=
 ⟨h.1,fun i x hx=>by
  obtain ⟨a,b,c,h1,h2⟩:=h.2 i x hx
  have hi:=(List.getElem?_eq_some_iff.1 hx).1
  exact ⟨a,b,c,.inr (h1.elim (fun e=>absurd e.1 (by omega)) id),h2⟩⟩
theorem aA7.snoc {M:Mem} {m:Nat} {u2 u3 u4:Value} {l:List GOp} {ys:List Value} {x:GOp} {v2 v3 v4:Value} (h:aA7 M m u2 u3 u4 l ys) (hc:(l.length=m∧v2=u2∧v3=u3∧v4=u4)∨(l.length≠m∧OCV M x v2 v3 v4)):aA7 M m u2 u3 u4 (l++[x]) (ys++aAl x v2 v3 v4):=by
 have hyl:=h.1
 refine ⟨by simp only [List.length_append,hyl,List.length_cons,List.length_nil];omega,fun i x' hi => ?_⟩
 rcases Nat.lt_or_ge i l.length with hlt | hge
 ·rw [List.getElem?_append_left hlt] at hi
  obtain ⟨a,b,c,h1,h2⟩:=h.2 i x' hi
  refine ⟨a,b,c,h1,fun j u hu => ?_⟩
  have hj:j<5:=by have:=(List.getElem?_eq_some_iff.1 hu).1;simpa using this
  rw [List.getElem?_append_left (by omega)];exact h2 j u hu
 ·rw [List.getElem?_append_right hge] at hi
  have h0:i-l.length=0:=by
   rcases Nat.eq_zero_or_pos (i-l.length) with h0 | h0
   ·exact h0
   ·rw [List.getElem?_eq_none (by simp;omega)] at hi;cases hi
  rw [h0] at hi
  cases hi
  have hil:i=l.length:=by omega
  refine ⟨v2,v3,v4,by rw [hil];exact hc,fun j u hu => ?_⟩
  rw [List.getElem?_append_right (by omega),show i*5+j-ys.length=j by omega]
  exact hu
structure DM (m:Nat) (M:Mem) (w:World) (M1:Mem) (wr:World) (k:Nat) (ops:List GOp) (a' b' vo:Value) (ys:List Value) (u2 u3 u4:Value):Prop where
 box1:wr.heap[w.heap.size]?=some (.cells #[a',b'] 28 (0,0))
 box2:wr.heap[w.heap.size+1]?=some (.cells #[.slice none 0 0,.slice none 0 0] 28 (0,0))
 out:wr.heap[w.heap.size+2]?=some (.cells #[vo,.slice none 0 0] 28 (0,0))
 own:wr.ownsRow (w.heap.size+3) 38 5 vo k ys
 rows:aA7 M1 m u2 u3 u4 (ops.take k) ys
 cons:Cons M1 wr
 frm:From w.heap.size M w M1 wr
 f1:∀ i,M1 (w.heap.size+1) i=none
 f2:∀ i,M1 (w.heap.size+2) i=none
 fo:∀ g,vo.ownBlock=some g→∀ i,M1 g i=none
 mrk:∀ x,m<k→ops[m]?=some x→MO (w.heap.size+3) M1 wr x u2 u3 u4∧∀ g,Own2 u4 g→vo.ownBlock≠some g
theorem DM.next {m:Nat} {M M1 M3:Mem} {w wr w3 w4:World} {k:Nat} {ops:List GOp} {a' b' v2 v3 v4:Value} {ga:Option Addr} {gc g cap':Nat} {ys:List Value} {u2 u3 u4:Value} {x:GOp} (hD:DM m M w M1 wr k ops a' b' (.slice ga k gc) ys u2 u3 u4) (hx:ops[k]?=some x) (S:Stp wr.heap.size M1 wr M3 w3) (hm:MO (wr.heap.size+1) M3 w3 x v2 v3 v4)
  (own':w4.ownsRow (w.heap.size+3) 38 5 (.slice (some ⟨g,0,none⟩) (k+1) cap') (k+1) (ys++aAl x v2 v3 v4)) (out':w4.heap[w.heap.size+2]?=some (.cells #[.slice (some ⟨g,0,none⟩) (k+1) cap',.slice none 0 0] 28 (0,0)))
  (blk:∀ b,b<w3.heap.size→b≠w.heap.size+2→(Value.slice ga k gc).ownBlock≠some b→w4.heap[b]?=w3.heap[b]?) (hg:(Value.slice ga k gc).ownBlock=some g∨w3.heap.size≤g) (hos:w4.os=w3.os) (hta:w4.tape=w3.tape) (hou:w4.output=w3.output) (hsz:w3.heap.size≤w4.heap.size) :
  ∃ M4 t2 t3 t4,DM m M w M4 w4 (k+1) ops a' b' (.slice (some ⟨g,0,none⟩) (k+1) cap') (ys++aAl x v2 v3 v4) t2 t3 t4:=by
 have hZ:w.heap.size+2<wr.heap.size:=(Array.getElem?_eq_some_iff.1 hD.out).1
 have hS:=S.size
 have hlow:∀ b,b<w.heap.size+2→w4.heap[b]?=wr.heap[b]?:=fun b hb =>
  (blk b (by omega) (by omega) (fun e=>by have:=(hD.own.lt b e).1;omega)).trans (S.blk b (by omega) (by omega))
 have hlk:(ops.take k).length=k:=by
  rw [List.length_take]
  have:=(List.getElem?_eq_some_iff.1 hx).1
  omega
 have htk:ops.take (k+1)=ops.take k++[x]:=by rw [List.take_add_one,hx];rfl
 have c4:Cons M3 w4:=kA S.cons fun b hb ⟨i,hi⟩=>blk b hb (fun e=>hi (by rw [e,S.old _ hZ];exact hD.f2 i)) (fun e=>hi (by rw [S.old _ (hD.own.lt b e).2];exact hD.fo b e i))
 have hmb:∀ b,Own2 v4 b→w4.heap[b]?=w3.heap[b]?:=fun b hb=>by
  have:=hm.lt b hb
  exact blk b this.2 (by omega) (fun e=>by have:=(hD.own.lt b e).2;omega)
 have hm4:MO (wr.heap.size+1) M3 w4 x v2 v3 v4:=hm.move (fun _ _ _ h=>h) hmb (fun _ _ _=>rfl)
 have hgn:∀ b,Own2 v4 b→b≠g:=fun b hb e=>by
  have h1:=hm.lt b hb
  rcases hg with h | h
  ·have:=(hD.own.lt g h).2;omega
  ·omega
 by_cases hkm:k=m
 ·refine ⟨M3,v2,v3,v4,(hlow _ (by omega)).trans hD.box1,(hlow _ (by omega)).trans hD.box2,out',own',?_,c4,?_,?_,?_,?_,?_⟩
  ·rw [htk]
   exact ((hD.rows.mono S.mem).early (by omega)).snoc (.inl ⟨by omega,rfl,rfl,rfl⟩)
  ·exact hD.frm.trans ⟨S.mem,fun b hb i=>S.old b (by omega) i,hos.trans S.os,hta.trans S.tape,hou.trans S.output,Nat.le_trans S.size hsz,fun b hb=>hlow b (by omega)⟩
  ·intro i;rw [S.old _ (by omega)];exact hD.f1 i
  ·intro i;rw [S.old _ hZ];exact hD.f2 i
  ·intro b hb i
   have e:b=g:=by simpa [Value.ownBlock] using hb.symm
   subst e
   rcases hg with h | h
   ·rw [S.old _ (hD.own.lt b h).2];exact hD.fo b h i
   ·exact tN S.cons h i
  ·intro x' _ hx'
   rw [← hkm,hx] at hx'
   cases hx'
   exact ⟨hm4.le (by omega),fun b hb e=>hgn b hb (by simpa [Value.ownBlock] using e.symm)⟩
 ·obtain ⟨M4,hM4,c5,hcv,hf4⟩:=hm4.frz c4
  have hold:∀ b,b<wr.heap.size→∀ i,M4 b i=M1 b i:=fun b hb i=>(hf4 b (fun h=>by have:=(hm.lt b h).1;omega) i).trans (S.old b hb i)
  refine ⟨M4,u2,u3,u4,(hlow _ (by omega)).trans hD.box1,(hlow _ (by omega)).trans hD.box2,out',own',?_,c5,?_,?_,?_,?_,?_⟩
  ·rw [htk]
   exact ((hD.rows.mono S.mem).mono hM4).snoc (.inr ⟨by omega,hcv⟩)
  ·exact hD.frm.trans ⟨fun b i v hv=>hM4 b i v (S.mem b i v hv),fun b hb i=>hold b (by omega) i,hos.trans S.os,hta.trans S.tape,hou.trans S.output,Nat.le_trans S.size hsz,fun b hb=>hlow b (by omega)⟩
  ·intro i;rw [hold _ (by omega)];exact hD.f1 i
  ·intro i;rw [hold _ hZ];exact hD.f2 i
  ·intro b hb i
   have e:b=g:=by simpa [Value.ownBlock] using hb.symm
   subst e
   rcases hg with h | h
   ·rw [hold _ (hD.own.lt b h).2];exact hD.fo b h i
   ·rw [hf4 b (fun h'=>hgn b h' rfl)];exact tN S.cons h i
  ·intro x' hmk hx'
   obtain ⟨h1,h2⟩:=hD.mrk x' (by omega) hx'
   have hbk:∀ b,Own2 u4 b→b<wr.heap.size:=fun b hb=>(h1.lt b hb).2
   refine ⟨h1.move (fun b i v hv=>hM4 b i v (S.mem b i v hv)) (fun b hb => ?_) (fun b hb=>hold b (hbk b hb)),fun b hb e => ?_⟩
   ·have q:=hbk b hb
    exact (blk b (by omega) (by have:=(h1.lt b hb).1;omega) (h2 b hb)).trans (S.blk b q (by omega))
   ·have e:g=b:=by simpa [Value.ownBlock] using e
    have q:=hbk b hb
    rcases hg with h | h
    ·exact h2 b hb (by rw [← e];exact h)
    ·omega
set_option maxHeartbeats 4000000 in
theorem aXb (m:Nat) (ops:List GOp) (oa:Option Addr) (cap:Nat) (b':Value) (M:Mem) (w:World) (hN:ops.length≤1048576) (hcap:ops.length≤cap) (hsm:∀ x∈ops,x.vars.length≤1048576∧bkSl jJ x.dirs<1073741824∧bR x.sels<1073741824)
  (hat:ops≠[]→∃ blk off,oa=some ⟨blk,off,none⟩) (hcell:∀ (blk off:Nat),oa=some ⟨blk,off,none⟩→∀ (k:Nat) (x:GOp),ops[k]?=some x→∃ v2 v3 v4,OCV M x v2 v3 v4∧∀ j v,(aAl x v2 v3 v4)[j]?=some v→M blk (off+k*5+j)=some v)
  (M0:Mem) (w0:World) (h0:DM m M w M0 w0 0 ops (.slice oa ops.length cap) b' (.slice none 0 0) [] undef undef undef) (Q:Exit→Act→World→Prop) (v0 v2 v4 v5 v6 v7 v8 v9 v10 v11 v12 v13 v14 v15 v16 v17 v18 v19 v20 v21 v22 v23 v24 v25 v26 v27 v28 v29 v30 v31 v32 v33 v34 v35 v36 v37 v38 v39 v40 v41 v42 v43 v44 v45 v46 v47 v48 v49 v50 v51 v52 v53 v54 v55 v56 v57 v58 v59 v60 v61 v62 v63 v64 v65:Value)
  (hC:∀ (w':World) (M':Mem) (ga:Option Addr) (gc:Nat) (ys:List Value) (u2 u3 u4:Value) (z4 z5 z9 z10 z11 z12 z13 z14 z15 z16 z17 z18 z19 z20 z21 z22 z23 z24 z25 z26 z27 z28 z29 z30 z31 z32 z33 z34 z35 z36 z37 z38:Value),DM m M w M' w' ops.length ops (.slice oa ops.length cap) b' (.slice ga ops.length gc) ys u2 u3 u4→Q .normal ⟨#[v0,.pointer (some ⟨w.heap.size,0,none⟩),v2,.pointer (some ⟨w.heap.size+1+1,0,none⟩),z4,z5,v6,v7,v8,z9,z10,z11,z12,z13,z14,z15,z16,z17,z18,z19,z20,z21,z22,z23,z24,z25,z26,z27,z28,z29,z30,z31,z32,z33,z34,z35,z36,z37,z38,v39,v40,v41,v42,v43,v44,v45,v46,v47,v48,v49,v50,v51,v52,v53,v54,v55,v56,v57,v58,v59,v60,v61,v62,v63,v64,v65],[]⟩ w') :
  Code.wp Tryz.prog (fstC (sndC (sndC (bE Tryz.f13)))) Q ⟨#[v0,.pointer (some ⟨w.heap.size,0,none⟩),v2,.pointer (some ⟨w.heap.size+1+1,0,none⟩),v4,v5,v6,v7,v8,v9,v10,v11,v12,v13,v14,v15,v16,v17,v18,v19,v20,v21,v22,v23,v24,v25,v26,v27,v28,v29,v30,v31,v32,v33,v34,v35,v36,v37,v38,v39,v40,v41,v42,v43,v44,v45,v46,v47,v48,v49,v50,v51,v52,v53,v54,v55,v56,v57,v58,v59,v60,v61,v62,v63,v64,v65],[]⟩ w0:=by
 obtain ⟨N,hln⟩:∃ N,ops.length=N:=⟨_,rfl⟩
 rw [hln] at hN hcap
 simp only [hln] at hC h0
 replace hC:=(id hC:Hid _)
 have hb0:w0.cell? ⟨w.heap.size,0,none⟩=some (.slice oa N cap):=by rw [cell_of_row w0 _ 0 _ _ _ h0.box1];rfl
 simp only [Tryz.f13,bE,inC,blA,blB,blkC,lopC,fstC,sndC]
 go_wp2
 by_cases h0N:N=0
 ·subst h0N
  refine wp_loop_rounds 1 ?_;rw [rounds_succ];go_wp2
  exact hC.out _ _ _ _ _ _ _ _ _ _ _ _ _ _ _ _ _ _ _ _ _ _ _ _ _ _ _ _ _ _ _ _ _ _ _ _ _ _ _ _ h0
 obtain ⟨blk,off,rfl⟩:=hat (by intro e;rw [e] at hln;simp at hln;omega)
 go_loopw [4] (fun t4 wr=>∃ (k:Nat) (M1:Mem) (vo:Value) (ys:List Value) (u2 u3 u4:Value),k≤N∧t4 = .int .i64 k∧DM m M w M1 wr k ops (.slice (some ⟨blk,off,none⟩) N cap) b' vo ys u2 u3 u4) (fun t4 _=>N-(intOf t4).toNat)
 case atStart=>exact ⟨0,M0,_,[],_,_,_,Nat.zero_le _,rfl,h0⟩
 case round =>
  obtain ⟨k,M1,vo,ys,u2,u3,u4,hk,rfl,hD⟩:=hrel
  have hb1:wr.cell? ⟨w.heap.size,0,none⟩=some (.slice (some ⟨blk,off,none⟩) N cap):=by rw [cell_of_row wr _ 0 _ _ _ hD.box1];rfl
  obtain ⟨x,a2,l2,p2,a3,l3,p3,a4,l4,p4,hx⟩:∃ x a2 l2 p2 a3 l3 p3 a4 l4 p4,k<N→ops[k]?=some x∧OCV M1 x (.slice a2 l2 p2) (.slice a3 l3 p3) (.slice a4 l4 p4)∧(∀ j v,(aAl x (.slice a2 l2 p2) (.slice a3 l3 p3) (.slice a4 l4 p4))[j]?=some v→wr.cell? ⟨blk,off+k*5+j,none⟩=some v):=by
   by_cases hkN:k<N
   ·have hg:=List.getElem?_eq_getElem (l:=ops) (i:=k) (by omega)
    obtain ⟨v2,v3,v4,h1,h2⟩:=hcell blk off rfl k _ hg
    obtain ⟨a2,l2,p2,rfl⟩:=jE h1.r2
    obtain ⟨a3,l3,p3,rfl⟩:=jE h1.r3
    obtain ⟨a4,l4,p4,rfl⟩:=jE h1.r4
    exact ⟨_,a2,l2,p2,a3,l3,p3,a4,l4,p4,fun _=>⟨hg,h1.mono hD.frm.mem,fun j v hv=>kZ hD.cons (hD.frm.mem _ _ _ (h2 j v hv))⟩⟩
   ·exact ⟨⟨0,[],[],[],[]⟩,none,0,0,none,0,0,none,0,0,fun h=>absurd h hkN⟩
  have x0:k<N→wr.cell? ⟨blk,off+k*5,none⟩=some (.int .i64 x.kind):=fun h=>(hx h).2.2 0 _ rfl
  have x1:k<N→wr.cell? ⟨blk,off+k*5+1,none⟩=some (.string ⟨x.name.toArray⟩):=fun h=>(hx h).2.2 1 _ rfl
  have x2:k<N→wr.cell? ⟨blk,off+k*5+2,none⟩=some (.slice a2 l2 p2):=fun h=>(hx h).2.2 2 _ rfl
  have x3:k<N→wr.cell? ⟨blk,off+k*5+3,none⟩=some (.slice a3 l3 p3):=fun h=>(hx h).2.2 3 _ rfl
  have x4:k<N→wr.cell? ⟨blk,off+k*5+4,none⟩=some (.slice a4 l4 p4):=fun h=>(hx h).2.2 4 _ rfl
  have hsz:w.heap.size+3≤wr.heap.size:=by have:=(Array.getElem?_eq_some_iff.1 hD.out).1;omega
  replace hx:=(id hx:Hid _)
  change Code.wp Tryz.prog (.seq cAC (.seq (.block 1 (.seq r5C (.seq r6C (.seq r7C r8C)))) r4C)) _ _ _
  unfold cAC r4C r5C
  simp only [Tryz.f13,bE,inC,blA,blB,blkC,lopC,fstC,sndC]
  go_wp2
  ·rename_i hkN K1 hK1 K0 hK0
   obtain ⟨hxk,hcv,_⟩:=hx.out hkN
   obtain ⟨s1,s2,s3⟩:=hsm x (List.mem_of_getElem? hxk)
   obtain ⟨ga,gc,rfl⟩:=aA1 hD.own
   refine bBa (M:=M1) wr.heap.size x a2 l2 p2 a3 l3 p3 a4 l4 p4 (Stp.alloc (H:=0) hD.cons _).cons (heap_alloc_new wr _) (fun i=>tN hD.cons (Nat.le_refl _) i) hcv.r2 s1 _ _ _ _ _ _ _ _ _ _ _ _ _ _ _ _ _ _ _ _ _ _ _ _ _ _ _ _ _ _ _ _ _ _ _ _ _ _ _ _ _ _ _ _ _ _ _ _ _ _ _ _ _ _ _ _ _ _ _ _ _ _ _ _ _ _ (fun w2 M2 b2 m2 q2 z21 z22 z23 z24 S2 hH2 hr2 => ?_)
   refine hK0 _ _ ?_
   refine wp_seq ?_
   refine aXa (M:=M2) wr.heap.size x b2 m2 q2 a3 l3 p3 a4 l4 p4 S2.cons hH2 (S2.free (by simp) (fun i=>tN hD.cons (Nat.le_refl _) i)) (hcv.r3.mono S2.mem (fun _ _ _ h=>h)) (hcv.r4.mono S2.mem (fun _ _ _ h=>h)) s2 s3 _ _ _ _ _ _ _ _ _ _ _ _ _ _ _ _ _ _ _ _ _ _ _ _ _ _ _ _ _ _ _ _ _ _ _ _ _ _ _ _ _ _ _ _ _ _ _ _ _ _ _ _ _ _ _ _ _ _ _ _ _ _ _ _ _ _ (fun w3 M3 b3 m3 q3 b4 m4 q4 z25 z26 z27 z28 z29 z30 z31 z32 S3 hH3 hr3 hr4 => ?_)
   have S:=((Stp.alloc (H:=wr.heap.size) hD.cons _).trans S2).trans S3
   have hZ3:w3.heap[w.heap.size+1+1]?=some (.cells #[.slice ga k gc,.slice none 0 0] 28 (0,0)):=(S.blk _ (by omega) (by omega)).trans hD.out
   have hown3:w3.ownsRow (w.heap.size+3) 38 5 (.slice ga k gc) k ys:=kB hD.own fun g hg=>S.blk g (hD.own.lt g hg).2 (by have:=(hD.own.lt g hg).2;omega)
   refine bB4 wr.heap.size (w.heap.size+1+1) (w.heap.size+3) x b2 m2 q2 b3 m3 q3 b4 m4 q4 ga k gc ys _ hH3 hZ3 hown3 (by omega) (by have:=S.size;omega) (by omega) _ _ _ _ _ _ _ _ _ _ _ _ _ _ _ _ _ _ _ _ _ _ _ _ _ _ _ _ _ _ _ _ _ _ _ _ _ _ _ _ _ _ _ _ _ _ _ _ _ _ _ _ _ _ _ _ _ _ _ _ _ _ _ _ _ (fun w4 g cap' z33 z34 z35 z36 z37 z38 own' out' hblk hg hos hta hou hsz4 => ?_)
   have e1:(wr.alloc (.cells #[.int .i64 x.kind,.string ⟨x.name.toArray⟩,.slice a2 l2 p2,.slice a3 l3 p3,.slice a4 l4 p4] 38)).heap.size=wr.heap.size+1:=by simp
   have hs2:=S2.size
   have hmo:MO (wr.heap.size+1) M3 w3 x (.slice b2 m2 q2) (.slice b3 m3 q3) (.slice b4 m4 q4):=⟨hr2.mono S3.mem (fun _ _ _ h=>h),hr3,hr4.le (by omega)⟩
   obtain ⟨M4,t2,t3,t4,hDn⟩:=hD.next hxk S hmo own' out' hblk hg hos hta hou hsz4
   replace hDn:=(id hDn:Hid _)
   refine hK1 _ _ ?_
   clear hblk own' out' hK0 hK1
   go_wp2
   go_roundw
   case rel=>exact ⟨k+1,M4,_,_,_,_,_,by omega,by go_num,hDn.out⟩
   case measure=>simp [intOf];omega
  ·rename_i K0 hK0 hkN
   have e:k=N:=by omega
   subst e
   obtain ⟨ga,gc,rfl⟩:=aA1 hD.own
   exact hC.out _ _ _ _ _ _ _ _ _ _ _ _ _ _ _ _ _ _ _ _ _ _ _ _ _ _ _ _ _ _ _ _ _ _ _ _ _ _ _ _ hD
noncomputable def cBCm:Code:=fstC (lopC (blkC (blB (bE Tryz.f13))))
noncomputable def bB7:Code:=fstC (inC (blB (bE Tryz.f13)))
noncomputable def bB8:Code:=sndC (sndC (lopC (blkC (blB (bE Tryz.f13)))))
structure DG (m:Nat) (u2 u3 u4:Value) (M:Mem) (w:World) (M1:Mem) (wr:World) (k:Nat) (ops:List GOp) (frags:List GFrag) (a' b' va:Value) (ys:List Value) (vf:Value) (zs:List Value):Prop where
 box1:wr.heap[w.heap.size]?=some (.cells #[a',b'] 28 (0,0))
 box2:wr.heap[w.heap.size+1]?=some (.cells #[.slice none 0 0,.slice none 0 0] 28 (0,0))
 out:wr.heap[w.heap.size+2]?=some (.cells #[va,vf] 28 (0,0))
 ownA:wr.ownsRow (w.heap.size+3) 38 5 va ops.length ys
 own:wr.ownsRow (w.heap.size+3) 68 4 vf k zs
 rowsA:aA7 M1 m u2 u3 u4 ops ys
 rows:FrRow M1 (frags.take k) zs
 cons:Cons M1 wr
 frm:From w.heap.size M w M1 wr
 f1:∀ i,M1 (w.heap.size+1) i=none
 f2:∀ i,M1 (w.heap.size+2) i=none
 foA:∀ g,va.ownBlock=some g→∀ i,M1 g i=none
 fo:∀ g,vf.ownBlock=some g→∀ i,M1 g i=none
 ne:∀ g,va.ownBlock=some g→vf.ownBlock≠some g
 mrk:∀ x,ops[m]?=some x→MO (w.heap.size+3) M1 wr x u2 u3 u4∧∀ g,Own2 u4 g→va.ownBlock≠some g∧vf.ownBlock≠some g
theorem DM.toG {m:Nat} {u2 u3 u4:Value} {M M1:Mem} {w wr:World} {ops:List GOp} {frags:List GFrag} {a' b' va:Value} {ys:List Value} (h:DM m M w M1 wr ops.length ops a' b' va ys u2 u3 u4):DG m u2 u3 u4 M w M1 wr 0 ops frags a' b' va ys (.slice none 0 0) [] :=
 ⟨h.box1,h.box2,h.out,h.own,World.ownsRow_nil _ _ _ _,by have:=h.rows;rwa [List.take_length] at this,.nil,h.cons,h.frm,h.f1,h.f2,h.fo,fun g hg=>by simp [Value.ownBlock] at hg,fun g hg=>by simp [Value.ownBlock],fun x hx=>by
  obtain ⟨h1,h2⟩:=h.mrk x (List.getElem?_eq_some_iff.1 hx).1 hx
  exact ⟨h1,fun g hg=>⟨h2 g hg,by simp [Value.ownBlock]⟩⟩⟩
theorem DG.next {m:Nat} {u2 u3 u4:Value} {M M1 M3:Mem} {w wr w3 w4:World} {k:Nat} {ops:List GOp} {frags:List GFrag} {a' b' va v3 v4:Value} {ga:Option Addr} {gc g cap':Nat} {ys zs:List Value} {x:GFrag} (hD:DG m u2 u3 u4 M w M1 wr k ops frags a' b' va ys (.slice ga k gc) zs) (hx:frags[k]?=some x) (S:Stp wr.heap.size M1 wr M3 w3) (hc:FCV M3 x v3 v4)
  (own':w4.ownsRow (w.heap.size+3) 68 4 (.slice (some ⟨g,0,none⟩) (k+1) cap') (k+1) (zs++aDQ x v3 v4)) (out':w4.heap[w.heap.size+2]?=some (.cells #[va,.slice (some ⟨g,0,none⟩) (k+1) cap'] 28 (0,0)))
  (blk:∀ b,b<w3.heap.size→b≠w.heap.size+2→(Value.slice ga k gc).ownBlock≠some b→w4.heap[b]?=w3.heap[b]?) (hg:(Value.slice ga k gc).ownBlock=some g∨w3.heap.size≤g) (hos:w4.os=w3.os) (hta:w4.tape=w3.tape) (hou:w4.output=w3.output) (hsz:w3.heap.size≤w4.heap.size) :
  DG m u2 u3 u4 M w M3 w4 (k+1) ops frags a' b' va ys (.slice (some ⟨g,0,none⟩) (k+1) cap') (zs++aDQ x v3 v4):=by
 have hZ:w.heap.size+2<wr.heap.size:=(Array.getElem?_eq_some_iff.1 hD.out).1
 have hlow:∀ b,b<w.heap.size+2→w4.heap[b]?=wr.heap[b]?:=fun b hb =>
  (blk b (by have:=S.size;omega) (by omega) (fun e=>by have:=(hD.own.lt b e).1;omega)).trans (S.blk b (by omega) (by omega))
 have hA:∀ b,va.ownBlock=some b→w4.heap[b]?=wr.heap[b]?:=fun b hb=>by
  obtain ⟨q1,q2⟩:=hD.ownA.lt b hb
  exact (blk b (by have:=S.size;omega) (by omega) (hD.ne b hb)).trans (S.blk b q2 (by omega))
 refine ⟨(hlow _ (by omega)).trans hD.box1,(hlow _ (by omega)).trans hD.box2,out',kB hD.ownA hA,own',hD.rowsA.mono S.mem,?_,?_,?_,?_,?_,?_,?_,?_,?_⟩
 ·have e:frags.take (k+1)=frags.take k++[x]:=by rw [List.take_add_one,hx];rfl
  rw [e]
  exact .snoc (hD.rows.mono S.mem) hc
 ·refine kA S.cons fun b hb ⟨i,hi⟩=>blk b hb (fun e=>hi ?_) (fun e=>hi ?_)
  ·rw [e,S.old _ hZ];exact hD.f2 i
  ·rw [S.old _ (hD.own.lt b e).2];exact hD.fo b e i
 ·exact hD.frm.trans ⟨S.mem,fun b hb i=>S.old b (by omega) i,hos.trans S.os,hta.trans S.tape,hou.trans S.output,Nat.le_trans S.size hsz,fun b hb=>hlow b (by omega)⟩
 ·intro i;rw [S.old _ (by omega)];exact hD.f1 i
 ·intro i;rw [S.old _ hZ];exact hD.f2 i
 ·intro b hb i
  rw [S.old _ (hD.ownA.lt b hb).2];exact hD.foA b hb i
 ·intro b hb i
  have e:b=g:=by simpa [Value.ownBlock] using hb.symm
  subst e
  rcases hg with h | h
  ·rw [S.old _ (hD.own.lt b h).2];exact hD.fo b h i
  ·exact tN S.cons h i
 ·intro b hb e
  have e:b=g:=by simpa [Value.ownBlock] using e.symm
  subst e
  rcases hg with h | h
  ·exact hD.ne b hb h
  ·have:=(hD.ownA.lt b hb).2
   have:=S.size
   omega
 ·intro x' hx'
  obtain ⟨h1,h2⟩:=hD.mrk x' hx'
  have hbk:∀ b,Own2 u4 b→b<wr.heap.size:=fun b hb=>(h1.lt b hb).2
  refine ⟨h1.move S.mem (fun b hb => ?_) (fun b hb=>S.old b (hbk b hb)),fun b hb=>⟨(h2 b hb).1,fun e => ?_⟩⟩
  ·have q:=hbk b hb
   have:=S.size
   exact (blk b (by omega) (by have:=(h1.lt b hb).1;omega) (h2 b hb).2).trans (S.blk b q (by omega))
  ·have e:g=b:=by simpa [Value.ownBlock] using e
   have q:=hbk b hb
   rcases hg with h | h
   ·exact (h2 b hb).2 (by rw [← e];exact h)
   ·have:=S.size;omega
set_option maxHeartbeats 4000000 in
theorem aXc (m:Nat) (u2 u3 u4:Value) (ops:List GOp) (frags:List GFrag) (oa:Option Addr) (cap:Nat) (a':Value) (M:Mem) (w:World) (hN:frags.length≤1048576) (hcap:frags.length≤cap) (hsm:∀ x∈frags,bkSl jJ x.dirs<1073741824∧bR x.sels<1073741824)
  (hat:frags≠[]→∃ blk off,oa=some ⟨blk,off,none⟩) (hcell:∀ (blk off:Nat),oa=some ⟨blk,off,none⟩→∀ (k:Nat) (x:GFrag),frags[k]?=some x→∃ v2 v3,FCV M x v2 v3∧∀ j v,(aDQ x v2 v3)[j]?=some v→M blk (off+k*4+j)=some v)
  (M0:Mem) (w0:World) (va:Value) (ys:List Value) (h0:DG m u2 u3 u4 M w M0 w0 0 ops frags a' (.slice oa frags.length cap) va ys (.slice none 0 0) []) (Q:Exit→Act→World→Prop) (v0 v2 v4 v5 v6 v7 v8 v9 v10 v11 v12 v13 v14 v15 v16 v17 v18 v19 v20 v21 v22 v23 v24 v25 v26 v27 v28 v29 v30 v31 v32 v33 v34 v35 v36 v37 v38 v39 v40 v41 v42 v43 v44 v45 v46 v47 v48 v49 v50 v51 v52 v53 v54 v55 v56 v57 v58 v59 v60 v61 v62 v63 v64 v65:Value)
  (hC:∀ (w':World) (M':Mem) (ga:Option Addr) (gc:Nat) (zs:List Value) (z6 z7 z39 z40 z41 z42 z43 z44 z45 z46 z47 z48 z49 z50 z51 z52 z53 z54 z55 z56 z57 z58 z59 z60 z61 z62 z63 z64:Value),DG m u2 u3 u4 M w M' w' frags.length ops frags a' (.slice oa frags.length cap) va ys (.slice ga frags.length gc) zs→Q .normal ⟨#[v0,.pointer (some ⟨w.heap.size,0,none⟩),v2,.pointer (some ⟨w.heap.size+1+1,0,none⟩),v4,v5,z6,z7,v8,v9,v10,v11,v12,v13,v14,v15,v16,v17,v18,v19,v20,v21,v22,v23,v24,v25,v26,v27,v28,v29,v30,v31,v32,v33,v34,v35,v36,v37,v38,z39,z40,z41,z42,z43,z44,z45,z46,z47,z48,z49,z50,z51,z52,z53,z54,z55,z56,z57,z58,z59,z60,z61,z62,z63,z64,v65],[]⟩ w') :
  Code.wp Tryz.prog (fstC (sndC (sndC (sndC (bE Tryz.f13))))) Q ⟨#[v0,.pointer (some ⟨w.heap.size,0,none⟩),v2,.pointer (some ⟨w.heap.size+1+1,0,none⟩),v4,v5,v6,v7,v8,v9,v10,v11,v12,v13,v14,v15,v16,v17,v18,v19,v20,v21,v22,v23,v24,v25,v26,v27,v28,v29,v30,v31,v32,v33,v34,v35,v36,v37,v38,v39,v40,v41,v42,v43,v44,v45,v46,v47,v48,v49,v50,v51,v52,v53,v54,v55,v56,v57,v58,v59,v60,v61,v62,v63,v64,v65],[]⟩ w0:=by
 obtain ⟨N,hln⟩:∃ N,frags.length=N:=⟨_,rfl⟩
 rw [hln] at hN hcap
 simp only [hln] at hC h0
 replace hC:=(id hC:Hid _)
 have hb0:w0.cell? ⟨w.heap.size,1,none⟩=some (.slice oa N cap):=by rw [cell_of_row w0 _ 1 _ _ _ h0.box1];rfl
 simp only [Tryz.f13,bE,inC,blA,blB,blkC,lopC,fstC,sndC]
 go_wp2
 by_cases h0N:N=0
 ·subst h0N
  refine wp_loop_rounds 1 ?_;rw [rounds_succ];go_wp2
  exact hC.out _ _ _ _ _ _ _ _ _ _ _ _ _ _ _ _ _ _ _ _ _ _ _ _ _ _ _ _ _ _ _ _ _ h0
 obtain ⟨blk,off,rfl⟩:=hat (by intro e;rw [e] at hln;simp at hln;omega)
 go_loopw [6] (fun t6 wr=>∃ (k:Nat) (M1:Mem) (vf:Value) (zs:List Value),k≤N∧t6 = .int .i64 k∧DG m u2 u3 u4 M w M1 wr k ops frags a' (.slice (some ⟨blk,off,none⟩) N cap) va ys vf zs) (fun t6 _=>N-(intOf t6).toNat)
 case atStart=>exact ⟨0,M0,_,[],Nat.zero_le _,rfl,h0⟩
 case round =>
  obtain ⟨k,M1,vf,zs,hk,rfl,hD⟩:=hrel
  have hb1:wr.cell? ⟨w.heap.size,1,none⟩=some (.slice (some ⟨blk,off,none⟩) N cap):=by rw [cell_of_row wr _ 1 _ _ _ hD.box1];rfl
  obtain ⟨x,a3,l3,p3,a4,l4,p4,hx⟩:∃ x a3 l3 p3 a4 l4 p4,k<N→frags[k]?=some x∧FCV M1 x (.slice a3 l3 p3) (.slice a4 l4 p4)∧(∀ j v,(aDQ x (.slice a3 l3 p3) (.slice a4 l4 p4))[j]?=some v→wr.cell? ⟨blk,off+k*4+j,none⟩=some v):=by
   by_cases hkN:k<N
   ·have hg:=List.getElem?_eq_getElem (l:=frags) (i:=k) (by omega)
    obtain ⟨v3,v4,h1,h2⟩:=hcell blk off rfl k _ hg
    obtain ⟨a3,l3,p3,rfl⟩:=jE h1.r2
    obtain ⟨a4,l4,p4,rfl⟩:=jE h1.r3
    exact ⟨_,a3,l3,p3,a4,l4,p4,fun _=>⟨hg,h1.mono hD.frm.mem,fun j v hv=>kZ hD.cons (hD.frm.mem _ _ _ (h2 j v hv))⟩⟩
   ·exact ⟨⟨[],[],[],[]⟩,none,0,0,none,0,0,fun h=>absurd h hkN⟩
  have x0:k<N→wr.cell? ⟨blk,off+k*4,none⟩=some (.string ⟨x.name.toArray⟩):=fun h=>(hx h).2.2 0 _ rfl
  have x1:k<N→wr.cell? ⟨blk,off+k*4+1,none⟩=some (.string ⟨x.on_.toArray⟩):=fun h=>(hx h).2.2 1 _ rfl
  have x2:k<N→wr.cell? ⟨blk,off+k*4+2,none⟩=some (.slice a3 l3 p3):=fun h=>(hx h).2.2 2 _ rfl
  have x3:k<N→wr.cell? ⟨blk,off+k*4+3,none⟩=some (.slice a4 l4 p4):=fun h=>(hx h).2.2 3 _ rfl
  have hsz:w.heap.size+3≤wr.heap.size:=by have:=(Array.getElem?_eq_some_iff.1 hD.out).1;omega
  replace hx:=(id hx:Hid _)
  change Code.wp Tryz.prog (.seq cBCm (.seq (.block 3 (.seq bB7 (.seq r13C r14C))) bB8)) _ _ _
  unfold cBCm bB8 bB7
  simp only [Tryz.f13,bE,inC,blA,blB,blkC,lopC,fstC,sndC]
  go_wp2
  ·rename_i hkN K1 hK1 K0 hK0
   obtain ⟨hxk,hcv,_⟩:=hx.out hkN
   obtain ⟨s2,s3⟩:=hsm x (List.mem_of_getElem? hxk)
   obtain ⟨ga,gc,rfl⟩:=aA1 hD.own
   refine aZz (M:=M1) wr.heap.size x a3 l3 p3 a4 l4 p4 (Stp.alloc (H:=0) hD.cons _).cons (heap_alloc_new wr _) (fun i=>tN hD.cons (Nat.le_refl _) i) hcv.r2 hcv.r3 s2 s3 _ _ _ _ _ _ _ _ _ _ _ _ _ _ _ _ _ _ _ _ _ _ _ _ _ _ _ _ _ _ _ _ _ _ _ _ _ _ _ _ _ _ _ _ _ _ _ _ _ _ _ _ _ _ _ _ _ _ _ _ _ _ _ _ _ _ (fun w3 M3 b3 m3 q3 b4 m4 q4 z51 z52 z53 z54 z55 z56 z57 z58 S3 hH3 hr3 hr4 => ?_)
   have S:=(Stp.alloc (H:=wr.heap.size) hD.cons _).trans S3
   have hZ3:w3.heap[w.heap.size+1+1]?=some (.cells #[va,.slice ga k gc] 28 (0,0)):=(S.blk _ (by omega) (by omega)).trans hD.out
   have hown3:w3.ownsRow (w.heap.size+3) 68 4 (.slice ga k gc) k zs:=kB hD.own fun g hg=>S.blk g (hD.own.lt g hg).2 (by have:=(hD.own.lt g hg).2;omega)
   refine hK0 _ _ ?_
   refine bB5 wr.heap.size (w.heap.size+1+1) (w.heap.size+3) x b3 m3 q3 b4 m4 q4 ga k gc zs _ hH3 hZ3 hown3 (by omega) (by have:=S.size;omega) (by omega) _ _ _ _ _ _ _ _ _ _ _ _ _ _ _ _ _ _ _ _ _ _ _ _ _ _ _ _ _ _ _ _ _ _ _ _ _ _ _ _ _ _ _ _ _ _ _ _ _ _ _ _ _ _ _ _ _ _ _ _ _ _ _ _ _ (fun w4 g cap' z59 z60 z61 z62 z63 z64 own' out' hblk hg hos hta hou hsz4 => ?_)
   have hDn:=hD.next hxk S ⟨hr3,hr4⟩ own' out' hblk hg hos hta hou hsz4
   replace hDn:=(id hDn:Hid _)
   refine hK1 _ _ ?_
   clear hblk own' out' hK0 hK1
   go_wp2
   go_roundw
   case rel=>exact ⟨k+1,M3,_,_,by omega,by go_num,hDn.out⟩
   case measure=>simp [intOf];omega
  ·rename_i K0 hK0 hkN
   have e:k=N:=by omega
   subst e
   obtain ⟨ga,gc,rfl⟩:=aA1 hD.own
   exact hC.out _ _ _ _ _ _ _ _ _ _ _ _ _ _ _ _ _ _ _ _ _ _ _ _ _ _ _ _ _ _ _ _ _ hD
noncomputable def r0Cm:Code:=fstC (bE Tryz.f13)
noncomputable def r1Cm:Code:=fstC (sndC (bE Tryz.f13))
noncomputable def laCm:Code:=fstC (sndC (sndC (bE Tryz.f13)))
noncomputable def lbCm:Code:=fstC (sndC (sndC (sndC (bE Tryz.f13))))
noncomputable def bB9:Code:=sndC (sndC (sndC (sndC (bE Tryz.f13))))
theorem bBd:Tryz.f13.body=some (.seq r0Cm (.seq r1Cm (.seq laCm (.seq lbCm bB9)))):=by kernel_rfl
structure DQ (m:Nat) (u2 u3 u4:Value) (M:Mem) (w:World) (M1:Mem) (wr:World) (ops:List GOp) (frags:List GFrag) (va:Value) (ys:List Value) (vf:Value) (zs:List Value):Prop where
 ownA:wr.ownsRow w.heap.size 38 5 va ops.length ys
 own:wr.ownsRow w.heap.size 68 4 vf frags.length zs
 rowsA:aA7 M1 m u2 u3 u4 ops ys
 rows:FrRow M1 frags zs
 cons:Cons M1 wr
 frm:From w.heap.size M w M1 wr
 foA:∀ g,va.ownBlock=some g→∀ i,M1 g i=none
 fo:∀ g,vf.ownBlock=some g→∀ i,M1 g i=none
 ne:∀ g,va.ownBlock=some g→vf.ownBlock≠some g
 mrk:∀ x,ops[m]?=some x→MO w.heap.size M1 wr x u2 u3 u4∧∀ g,Own2 u4 g→va.ownBlock≠some g∧vf.ownBlock≠some g
theorem DM.start (m:Nat) (u2 u3 u4:Value) {M:Mem} {w:World} (ops:List GOp) (a' b':Value) (hc:Cons M w):DM m M w M (((w.alloc (.cells #[a',b'] 28)).alloc (.cells #[.slice none 0 0,.slice none 0 0] 28)).alloc (.cells #[.slice none 0 0,.slice none 0 0] 28)) 0 ops a' b' (.slice none 0 0) [] u2 u3 u4:=by
 have hb:Below w.heap.size w (((w.alloc (.cells #[a',b'] 28)).alloc (.cells #[.slice none 0 0,.slice none 0 0] 28)).alloc (.cells #[.slice none 0 0,.slice none 0 0] 28)) :=
  (((Below.refl _ _).alloc (Nat.le_refl _) _).alloc (by simp) _).alloc (by simp;omega) _
 refine ⟨?_,?_,?_,World.ownsRow_nil _ _ _ _,aA7.nil _ _ _ _ _,aA0 hc hb,From.of_below hb,fun i=>tN hc (by omega) i,fun i=>tN hc (by omega) i,fun g hg=>by simp [Value.ownBlock] at hg,fun x hx=>by omega⟩
 ·rw [heap_alloc_old _ _ (by simp;omega),heap_alloc_old _ _ (by simp)];exact heap_alloc_new _ _
 ·rw [heap_alloc_old _ _ (by simp)]
  have:=heap_alloc_new (w.alloc (.cells #[a',b'] 28)) (.cells #[.slice none 0 0,.slice none 0 0] 28)
  simpa using this
 ·have:=heap_alloc_new ((w.alloc (.cells #[a',b'] 28)).alloc (.cells #[.slice none 0 0,.slice none 0 0] 28)) (.cells #[.slice none 0 0,.slice none 0 0] 28)
  simpa using this
theorem DG.done {m:Nat} {u2 u3 u4:Value} {M M1:Mem} {w wr:World} {ops:List GOp} {frags:List GFrag} {a' b' va vf:Value} {ys zs:List Value} (h:DG m u2 u3 u4 M w M1 wr frags.length ops frags a' b' va ys vf zs) (u0 u1:Value) :
  DQ m u2 u3 u4 M w M1 ((wr.setCell ⟨w.heap.size+1,0,none⟩ u0).setCell ⟨w.heap.size+1,1,none⟩ u1) ops frags va ys vf zs:=by
 have hb:∀ k,k≠w.heap.size+1→((wr.setCell ⟨w.heap.size+1,0,none⟩ u0).setCell ⟨w.heap.size+1,1,none⟩ u1).heap[k]?=wr.heap[k]?:=fun k hk=>(Below.heap_setCell _ _ _ _ hk).trans (Below.heap_setCell _ _ _ _ hk)
 refine ⟨aRs (kB h.ownA fun g hg=>hb g (by have:=(h.ownA.lt g hg).1;omega)) (by omega),aRs (kB h.own fun g hg=>hb g (by have:=(h.own.lt g hg).1;omega)) (by omega),h.rowsA,by have:=h.rows;rwa [List.take_length] at this,?_,?_,h.foA,h.fo,h.ne,fun x hx => ?_⟩
 ·exact kA h.cons fun k hk ⟨i,hi⟩=>hb k fun e=>hi (by rw [e];exact h.f1 i)
 ·exact h.frm.trans (From.of_below (((Below.refl _ _).setCell (by simp) u0).setCell (by simp) u1))
 ·obtain ⟨h1,h2⟩:=h.mrk x hx
  exact ⟨(h1.move (fun _ _ _ h=>h) (fun k hk=>hb k (by have:=(h1.lt k hk).1;omega)) (fun _ _ _=>rfl)).le (by omega),h2⟩
set_option maxHeartbeats 4000000 in
theorem aZB (m:Nat) (d:GDoc) (M:Mem) (w:World) (a' b':Value) (hd:jL d≤1048576) (hc:Cons M w) (hra:Rv M noB (.slice (List.map bL d.ops) [] false) a') (hrb:Rv M noB (.slice (List.map aJ d.frags) [] false) b') :
  Calls Tryz.prog 13 #[.agg #[a',b']] w fun e w'=>∃ M' ga gc ys gb gd zs u2 u3 u4,e = .returned (.agg #[.slice ga d.ops.length gc,.slice gb d.frags.length gd])∧DQ m u2 u3 u4 M w M' w' d.ops d.frags (.slice ga d.ops.length gc) ys (.slice gb d.frags.length gd) zs:=by
 have hde:=vK d
 have hlo:=cQ (f:=bkOp) (fun o=>by rw [nL];omega) d.ops
 have hlf:=cQ (f:=gB) (fun o=>by rw [iV];omega) d.frags
 have hso:∀ x∈d.ops,x.vars.length≤1048576∧bkSl jJ x.dirs<1073741824∧bR x.sels<1073741824:=by
  intro x hx
  have h1:=dM (f:=bkOp) hx
  rw [nL] at h1
  have h2:=cQ (f:=pZ) (fun o=>by rw [rC];omega) x.vars
  have e:bkSl gG x.sels=bR x.sels+1:=by rw [eP];rfl
  omega
 have hsf:∀ x∈d.frags,bkSl jJ x.dirs<1073741824∧bR x.sels<1073741824:=by
  intro x hx
  have h1:=dM (f:=gB) hx
  rw [iV] at h1
  have e:bkSl gG x.sels=bR x.sels+1:=by rw [eP];rfl
  omega
 obtain ⟨oa,cap,rfl,hcap,hat,hcell⟩:=aDR hc hra
 obtain ⟨ob,capb,rfl,hcapb,hatb,hcellb⟩:=aZw hc hrb
 have hst:=DM.start m undef undef undef (M:=M) (w:=w) d.ops (.slice oa d.ops.length cap) (.slice ob d.frags.length capb) hc
 refine calls_of_wp Tryz.func13 bBd ?_
 simp only [Tryz.ntmps13,List.size_toArray,List.length_cons,List.length_nil,Nat.reduceAdd,Nat.reduceSub,Array.replicate_succ,
   Array.replicate_zero,List.push_toArray,List.append_toArray,List.nil_append,List.cons_append]
 have LA:=@aXb m d.ops oa cap (.slice ob d.frags.length capb) M w (by omega) hcap hso hat hcell
 have LB:=fun u2 u3 u4=>@aXc m u2 u3 u4 d.ops d.frags ob capb (.slice oa d.ops.length cap) M w (by omega) hcapb hsf hatb hcellb
 replace LA:=(id LA:Hid _)
 replace LB:=(id LB:Hid _)
 replace hst:=(id hst:Hid _)
 clear hat hcell hatb hcellb hso hsf
 generalize hQ:bodyPost Tryz.prog Tryz.f13 _=Q
 replace hQ:=(id hQ:Hid _)
 unfold r0Cm r1Cm
 simp only [Tryz.f13,bE,inC,blA,blB,blkC,lopC,fstC,sndC]
 go_wp2
 rename_i K0 hK0
 refine LA.out _ _ (DM.start m undef undef undef (M:=M) (w:=w) d.ops (.slice oa d.ops.length cap) (.slice ob d.frags.length capb) hc) _ _ _ _ _ _ _ _ _ _ _ _ _ _ _ _ _ _ _ _ _ _ _ _ _ _ _ _ _ _ _ _ _ _ _ _ _ _ _ _ _ _ _ _ _ _ _ _ _ _ _ _ _ _ _ _ _ _ _ _ _ _ _ _ _ (fun w1 M1 ga gc ys u2 u3 u4 z4 z5 z9 z10 z11 z12 z13 z14 z15 z16 z17 z18 z19 z20 z21 z22 z23 z24 z25 z26 z27 z28 z29 z30 z31 z32 z33 z34 z35 z36 z37 z38 hD => ?_)
 have hF:=hD.toG (frags:=d.frags)
 replace hD:=(id hD:Hid _)
 refine hK0 _ _ ?_
 refine wp_seq ?_
 refine LB.out u2 u3 u4 _ _ _ ys hF _ _ _ _ _ _ _ _ _ _ _ _ _ _ _ _ _ _ _ _ _ _ _ _ _ _ _ _ _ _ _ _ _ _ _ _ _ _ _ _ _ _ _ _ _ _ _ _ _ _ _ _ _ _ _ _ _ _ _ _ _ _ _ _ _ (fun w2 M2 gb gd zs y6 y7 y39 y40 y41 y42 y43 y44 y45 y46 y47 y48 y49 y50 y51 y52 y53 y54 y55 y56 y57 y58 y59 y60 y61 y62 y63 y64 hG => ?_)
 have q3:w2.cell? ⟨w.heap.size+1+1,0,none⟩=some (.slice ga d.ops.length gc):=by rw [cell_of_row w2 (w.heap.size+1+1) 0 _ _ _ hG.out];rfl
 have q4:w2.cell? ⟨w.heap.size+1+1,1,none⟩=some (.slice gb d.frags.length gd):=by rw [cell_of_row w2 (w.heap.size+1+1) 1 _ _ _ hG.out];rfl
 have q5:w2.cell? ⟨w.heap.size+1,0,none⟩=some (.slice none 0 0):=by rw [cell_of_row w2 (w.heap.size+1) 0 _ _ _ hG.box2];rfl
 have q6:w2.cell? ⟨w.heap.size+1,1,none⟩=some (.slice none 0 0):=by rw [cell_of_row w2 (w.heap.size+1) 1 _ _ _ hG.box2];rfl
 have q7:w2.frozen? ⟨w.heap.size+1,0,none⟩=false:=frozen_of_row w2 (w.heap.size+1) 0 _ _ hG.box2
 have q8:w2.frozen? ⟨w.heap.size+1,1,none⟩=false:=frozen_of_row w2 (w.heap.size+1) 1 _ _ hG.box2
 have hdone:=hG.done (.slice ga d.ops.length gc) (.slice gb d.frags.length gd)
 replace hdone:=(id hdone:Hid _)
 have hrow:Hid (((w2.setCell ⟨w.heap.size+1,0,none⟩ (.slice ga d.ops.length gc)).setCell ⟨w.heap.size+1,1,none⟩ (.slice gb d.frags.length gd)).heap[w.heap.size+1]?=some (.cells #[.slice ga d.ops.length gc,.slice gb d.frags.length gd] 28 (0,0))):=heap_setCell_same _ _ _ _ _ _ (heap_setCell_same _ _ _ _ _ _ hG.box2)
 replace hG:=(id hG:Hid _)
 replace hF:=(id hF:Hid _)
 clear hK0 hst LA LB
 unfold bB9
 simp only [Tryz.f13,bE,sndC]
 show Code.wp _ _ _ _ _
 go_wp2
 rw [← hQ.out]
 try simp only [Exit.inBlock,Exit.then]
 refine bodyPost_ret (results_cell_row rfl _ _ (w.heap.size+1) 28 _ (0,0) _ rfl hrow.out Tryz.underlying28 rfl (by kernel_rfl)) rfl ?_
 exact ⟨M2,ga,gc,ys,gb,gd,zs,u2,u3,u4,rfl,hdone.out⟩
structure DS (m B E:Nat) (M:Mem) (w:World) (ops:List GOp) (frags:List GFrag) (va:Value) (ys:List Value) (vf:Value) (zs:List Value) (u2 u3 u4:Value):Prop where
 ownA:w.ownsRow B 38 5 va ops.length ys
 own:w.ownsRow B 68 4 vf frags.length zs
 rowsA:aA7 M m u2 u3 u4 ops ys
 rows:FrRow M frags zs
 foA:∀ g,va.ownBlock=some g→∀ i,M g i=none
 fo:∀ g,vf.ownBlock=some g→∀ i,M g i=none
 ne:∀ g,va.ownBlock=some g→vf.ownBlock≠some g
 mrk:∀ x,ops[m]?=some x→MO B M w x u2 u3 u4∧∀ g,Own2 u4 g→va.ownBlock≠some g∧vf.ownBlock≠some g
 isx:m<ops.length
 hi:∀ g,(va.ownBlock=some g∨vf.ownBlock=some g∨Own2 u4 g)→B≤g∧g<E
theorem DQ.ds {m:Nat} {u2 u3 u4:Value} {M M1:Mem} {w wr:World} {ops:List GOp} {frags:List GFrag} {va vf:Value} {ys zs:List Value} (h:DQ m u2 u3 u4 M w M1 wr ops frags va ys vf zs) (hm:m<ops.length):DS m w.heap.size wr.heap.size M1 wr ops frags va ys vf zs u2 u3 u4:=by
 refine ⟨h.ownA,h.own,h.rowsA,h.rows,h.foA,h.fo,h.ne,h.mrk,hm,?_⟩
 rintro g (e | e | e)
 ·exact h.ownA.lt g e
 ·exact h.own.lt g e
 ·exact (h.mrk _ (List.getElem?_eq_getElem hm)).1.lt g e
theorem DS.move {m B E:Nat} {M M':Mem} {w w':World} {ops:List GOp} {frags:List GFrag} {va vf:Value} {ys zs:List Value} {u2 u3 u4:Value} (h:DS m B E M w ops frags va ys vf zs u2 u3 u4) (hM:∀ b i v,M b i=some v→M' b i=some v) (hb:∀ k,B≤k→k<E→w'.heap[k]?=w.heap[k]?) (hf:∀ k,B≤k→k<E→∀ i,M' k i=M k i):DS m B E M' w' ops frags va ys vf zs u2 u3 u4:=by
 refine ⟨kB h.ownA fun g hg=>hb g (h.hi g (.inl hg)).1 (h.hi g (.inl hg)).2,kB h.own fun g hg=>hb g (h.hi g (.inr (.inl hg))).1 (h.hi g (.inr (.inl hg))).2,h.rowsA.mono hM,h.rows.mono hM,fun g hg i=>(hf g (h.hi g (.inl hg)).1 (h.hi g (.inl hg)).2 i).trans (h.foA g hg i),fun g hg i=>(hf g (h.hi g (.inr (.inl hg))).1 (h.hi g (.inr (.inl hg))).2 i).trans (h.fo g hg i),h.ne,fun x hx => ?_,h.isx,h.hi⟩
 obtain ⟨h1,h2⟩:=h.mrk x hx
 exact ⟨h1.move hM (fun k hk=>hb k (h.hi k (.inr (.inr hk))).1 (h.hi k (.inr (.inr hk))).2) (fun k hk=>hf k (h.hi k (.inr (.inr hk))).1 (h.hi k (.inr (.inr hk))).2),h2⟩
theorem DS.quiet {m B E:Nat} {M M':Mem} {w w':World} {ops:List GOp} {frags:List GFrag} {va vf:Value} {ys zs:List Value} {u2 u3 u4:Value} (h:DS m B E M w ops frags va ys vf zs u2 u3 u4) (q:Quiet M w M' w') (hE:E≤w.heap.size):DS m B E M' w' ops frags va ys vf zs u2 u3 u4 :=
 h.move q.mem (fun k _ hk=>(q.old k (by omega)).1) (fun k _ hk=>(q.old k (by omega)).2)
theorem DS.put {m B E:Nat} {M M':Mem} {w w':World} {ops:List GOp} {frags:List GFrag} {va vf:Value} {ys zs:List Value} {u2 u3 u4 t2 t3 t4:Value} (h:DS m B E M w ops frags va ys vf zs u2 u3 u4) (hE:E≤w.heap.size) {x:GOp} (hx:ops[m]?=some x) (x':GOp) (ek:x'.kind=x.kind) (en:x'.name=x.name)
  (hM:∀ b i v,M b i=some v→M' b i=some v) (hMo:∀ b,b<w.heap.size→∀ i,M' b i=M b i) (hb:∀ b,b<w.heap.size→va.ownBlock≠some b→¬ Own2 u4 b→w'.heap[b]?=w.heap[b]?)
  (hA:w'.ownsRow B 38 5 va ops.length (((ys.set (m*5+2) t2).set (m*5+3) t3).set (m*5+4) t4)) (hm:MO B M' w' x' t2 t3 t4) (ht:∀ k,Own2 t4 k→Own2 u4 k∨w.heap.size≤k) (hs:w.heap.size≤w'.heap.size) :
  DS m B w'.heap.size M' w' (ops.set m x') frags va (((ys.set (m*5+2) t2).set (m*5+3) t3).set (m*5+4) t4) vf zs t2 t3 t4:=by
 obtain ⟨h1,h2⟩:=h.mrk x hx
 have hlen:=h.rowsA.1
 have hmx:=h.isx
 have hnew:∀ k,Own2 t4 k→va.ownBlock≠some k∧vf.ownBlock≠some k:=fun k hk=>by
  rcases ht k hk with e | e
  ·exact h2 k e
  ·exact ⟨fun e2=>by have:=(h.hi k (.inl e2)).2;omega,fun e2=>by have:=(h.hi k (.inr (.inl e2))).2;omega⟩
 refine ⟨by rw [List.length_set];exact hA,kB h.own fun g hg=>hb g (by have:=(h.hi g (.inr (.inl hg))).2;omega) (fun e=>h.ne g e hg) (fun e=>(h2 g e).2 hg),⟨?_,fun i y hy => ?_⟩,h.rows.mono hM,fun g hg i=>(hMo g (by have:=(h.hi g (.inl hg)).2;omega) i).trans (h.foA g hg i),fun g hg i=>(hMo g (by have:=(h.hi g (.inr (.inl hg))).2;omega) i).trans (h.fo g hg i),h.ne,fun y hy => ?_,by rw [List.length_set];exact hmx,?_⟩
 ·simp only [List.length_set];exact hlen
 ·by_cases him:i=m
  ·subst him
   rw [List.getElem?_set_self hmx] at hy
   cases hy
   obtain ⟨v2,v3,v4,_,hat⟩:=h.rowsA.2 i x hx
   refine ⟨t2,t3,t4,.inl ⟨rfl,rfl,rfl,rfl⟩,fun j u hu => ?_⟩
   have hj:j<5:=by have:=(List.getElem?_eq_some_iff.1 hu).1;simpa using this
   match j,hj,hu with
   | 0,_,hu=>rw [List.getElem?_set_ne (by omega),List.getElem?_set_ne (by omega),List.getElem?_set_ne (by omega)];cases hu;rw [ek];exact hat 0 _ rfl
   | 1,_,hu=>rw [List.getElem?_set_ne (by omega),List.getElem?_set_ne (by omega),List.getElem?_set_ne (by omega)];cases hu;rw [en];exact hat 1 _ rfl
   | 2,_,hu=>rw [List.getElem?_set_ne (by omega),List.getElem?_set_ne (by omega),List.getElem?_set_self (by omega)];exact hu
   | 3,_,hu=>rw [List.getElem?_set_ne (by omega),List.getElem?_set_self (by rw [List.length_set];omega)];exact hu
   | 4,_,hu=>rw [List.getElem?_set_self (by simp only [List.length_set];omega)];exact hu
  ·rw [List.getElem?_set_ne (fun e=>him e.symm)] at hy
   obtain ⟨v2,v3,v4,hc,hat⟩:=h.rowsA.2 i y hy
   refine ⟨v2,v3,v4,.inr (hc.elim (fun e=>absurd e.1 him) fun e=>⟨e.1,e.2.mono hM⟩),fun j u hu => ?_⟩
   have hj:j<5:=by have:=(List.getElem?_eq_some_iff.1 hu).1;simpa using this
   rw [List.getElem?_set_ne (by omega),List.getElem?_set_ne (by omega),List.getElem?_set_ne (by omega)]
   exact hat j u hu
 ·rw [List.getElem?_set_self hmx] at hy
  cases hy
  exact ⟨hm,hnew⟩
 ·rintro g (e | e | e)
  ·have:=h.hi g (.inl e);omega
  ·have:=h.hi g (.inr (.inl e));omega
  ·exact hm.lt g e
theorem DS.rv {m B E B0:Nat} {M:Mem} {w:World} {ops:List GOp} {frags:List GFrag} {va vf:Value} {ys zs:List Value} {u2 u3 u4:Value} (h:DS m B E M w ops frags va ys vf zs u2 u3 u4) (hc:Cons M w) (hB:B0≤B) :
  Rv (frzM B0 M w) noB (.agg [(.slice (List.map bL ops) [] false),(.slice (List.map aJ frags) [] false)]) (.agg #[va,vf]):=by
 have hm:=aOm (B:=B0) hc
 have hA:OpAt (frzM B0 M w) ops ys:=by
  refine ⟨h.rowsA.1,fun i x hx => ?_⟩
  obtain ⟨v2,v3,v4,h1,h2⟩:=h.rowsA.2 i x hx
  refine ⟨v2,v3,v4,?_,h2⟩
  rcases h1 with ⟨rfl,rfl,rfl,rfl⟩ | ⟨_,h1⟩
  ·obtain ⟨k,_⟩:=h.mrk x hx
   exact ⟨k.r2.mono hm (fun _ _ _ h=>h),k.r3.mono hm (fun _ _ _ h=>h),k.o4.rvM hc hB⟩
  ·exact h1.mono hm
 have hF:FrAt (frzM B0 M w) frags zs:=(h.rows.mono hm).at'
 have rA:=aJA hA h.ownA (fun _ _ _ h=>h) (aHW h.ownA hB)
 have rF:=aJB hF h.own (fun _ _ _ h=>h) (aHW h.own hB)
 refine .agg _ _ (fun i=>(#[va,vf]:Array Value).getD i undef) rfl (fun i hi => ?_) (fun i c hc => ?_)
 ·match i,hi with
  | 0,_=>rfl
  | 1,_=>rfl
 ·match i,hc with
  | 0,hc=>cases hc;exact rA
  | 1,hc=>cases hc;exact rF
theorem DS.at_ {m B E:Nat} {M:Mem} {w:World} {ops:List GOp} {frags:List GFrag} {va vf:Value} {ys zs:List Value} {u2 u3 u4:Value} (h:DS m B E M w ops frags va ys vf zs u2 u3 u4):∃ g n cap,va = .slice (some ⟨g,0,none⟩) n cap∧n=ops.length∧ys[m*5+2]?=some u2∧ys[m*5+3]?=some u3∧ys[m*5+4]?=some u4:=by
 obtain ⟨v2,v3,v4,h1,h2⟩:=h.rowsA.2 m _ (List.getElem?_eq_getElem h.isx)
 rcases h1 with ⟨_,rfl,rfl,rfl⟩ | ⟨e,_⟩
 ·rcases h.ownA.2 with ⟨e,h0⟩ | ⟨g,cap,cur,e,_⟩
  ·have:=h.isx;omega
  ·exact ⟨g,_,cap,e,rfl,h2 2 _ rfl,h2 3 _ rfl,h2 4 _ rfl⟩
 ·exact absurd rfl e
theorem aLs {α:Type} {l:List α} {i:Nat} {a:α} (h:l[i]?=some a):l.set i a=l:=by
 obtain ⟨hi,rfl⟩:=List.getElem?_eq_some_iff.1 h
 exact List.set_getElem_self hi
theorem DS.put4 {m B E:Nat} {M M':Mem} {w w':World} {ops:List GOp} {frags:List GFrag} {va vf:Value} {ys zs:List Value} {u2 u3 u4 t4:Value} (h:DS m B E M w ops frags va ys vf zs u2 u3 u4) (hE:E≤w.heap.size) {x:GOp} (hx:ops[m]?=some x) (sels:List GSel)
  (hM:∀ b i v,M b i=some v→M' b i=some v) (hMo:∀ b,b<w.heap.size→∀ i,M' b i=M b i) (hb:∀ b,b<w.heap.size→va.ownBlock≠some b→u4.ownBlock≠some b→w'.heap[b]?=w.heap[b]?)
  (hA:w'.ownsRow B 38 5 va ops.length (ys.set (m*5+4) t4)) (ho:OwnL B M' w' 44 7 (List.map aF sels) t4) (ht:∀ k,t4.ownBlock=some k→u4.ownBlock=some k∨w.heap.size≤k) (hs:w.heap.size≤w'.heap.size) :
  DS m B w'.heap.size M' w' (ops.set m ⟨x.kind,x.name,x.vars,x.dirs,sels⟩) frags va (ys.set (m*5+4) t4) vf zs u2 u3 t4:=by
 obtain ⟨h1,h2⟩:=h.mrk x hx
 obtain ⟨_,_,_,_,_,e2,e3,e4⟩:=h.at_
 have e:((ys.set (m*5+2) u2).set (m*5+3) u3).set (m*5+4) t4=ys.set (m*5+4) t4:=by rw [aLs e2,aLs e3]
 rw [← e] at hA ⊢
 exact h.put hE hx ⟨x.kind,x.name,x.vars,x.dirs,sels⟩ rfl rfl hM hMo hb hA ⟨h1.r2.mono hM (fun _ _ _ h=>h),h1.r3.mono hM (fun _ _ _ h=>h),ho⟩ ht hs
end Go.Proofs.YtphmfillajagdaaGreat

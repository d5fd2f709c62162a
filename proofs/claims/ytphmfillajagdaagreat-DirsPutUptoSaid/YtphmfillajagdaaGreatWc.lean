import Derived.Test.YtphmfillajagdaaGreatWb
set_option maxRecDepth 100000
set_option linter.unusedVariables false
set_option linter.unusedSimpArgs false
set_option linter.unusedSimpArgs false
open Go Go.Ev Go.RowKit
namespace Go.Proofs.YtphmfillajagdaaGreat
theorem aUv {w:World} {B B' e size n:Nat} {v xs} (h:w.ownsRow B e size v n xs) (b:B'<=B):w.ownsRow B' e size v n xs:=by
 refine ⟨h.1,?_⟩;rcases h.2 with d | ⟨g,cap,a,hv,c,rest⟩;· grind
 exact .inr ⟨g,cap,a,hv,by omega,rest⟩
structure OwnL (B:Nat) (M:Mem) (w:World) (e size:Nat) (es:List PV) (v:Value):Prop where
 own:∃ ys,w.ownsRow B e size v es.length ys/\∀ (i:Nat) (p:PV) (j:Nat) (c:PV),es[i]?=some p->p.cells[j]?=some c->∃ u,ys[i*size+j]?=some u/\Rv M noB c u
 ok:∀ p∈es,okEl size p
 free:∀ g,v.ownBlock=some g->∀ i,M g i=none
theorem OwnL.nil B M w e size:OwnL B M w e size [] (.slice none 0 0) :=
 ⟨⟨[],World.ownsRow_nil _ _ _ _,fun i p j c h=>by grind⟩,fun p h=>by grind,fun g h=>by simp [Value.ownBlock] at h⟩
theorem OwnL.lt {B e size M w es v} (h:OwnL B M w e size es v):∀ k,v.ownBlock=some k->B<=k/\k<w.heap.size:=by
 obtain ⟨ys,a,_⟩:=h.own;exact a.lt
theorem OwnL.form {B e size M w es v} (h:OwnL B M w e size es v):∃ a cap,v = .slice a es.length cap:=by
 obtain ⟨ys,b,_⟩:=h.own;exact zO b
theorem OwnL.le {B B' e size M w es v} (h:OwnL B M w e size es v) (b:B'<=B):OwnL B' M w e size es v:=by
 obtain ⟨ys,c,a⟩:=h.own;exact ⟨⟨ys,aUv c b,a⟩,h.ok,h.free⟩
theorem OwnL.move {B e size M M' w w' es v} (h:OwnL B M w e size es v) (n:∀ b i v,M b i=some v->M' b i=some v) (r:∀ k,v.ownBlock=some k->w'.heap[k]?=w.heap[k]?) (l:∀ k,v.ownBlock=some k->∀ i,M' k i=M k i):OwnL B M' w' e size es v:=by
 obtain ⟨ys,s,f⟩:=h.own;refine ⟨⟨ys,dT s r,fun i p j c q o => ?_⟩,h.ok,fun g a i=>(l g a i).trans (h.free g a i)⟩;obtain ⟨u,d,m⟩:=f i p j c q o;exact ⟨u,d,m.mono n (fun _ _ _ h=>h)⟩
theorem OwnL.quiet {B e size M M' w w' es v} (h:OwnL B M w e size es v) (q:Quiet M w M' w'):OwnL B M' w' e size es v :=
 h.move q.mem (fun k a=>(q.old k (h.lt k a).2).1) (fun k a=>(q.old k (h.lt k a).2).2)
theorem OwnL.stp {H B e size M M' w w' es v} (h:OwnL B M w e size es v) (q:Stp H M w M' w') (b:v.ownBlock≠some H):OwnL B M' w' e size es v :=
 h.move q.mem (fun k a=>q.blk k (h.lt k a).2 fun e=>by grind) (fun k a=>q.old k (h.lt k a).2)
theorem OwnL.rv {B e size M w es v} (h:OwnL B M w e size es v) (k:Cons M w):Rv (frzV v M w) noB (.slice es [] false) v:=by
 obtain ⟨ys,l,f⟩:=h.own;refine aIp l aKp es rfl h.ok fun i p j c g d => ?_;obtain ⟨u,b,a⟩:=f i p j c g d;exact ⟨u,b,a.mono (tF k) (fun _ _ _ h=>h)⟩
theorem OwnL.rvM {B a e size M w es v} (h:OwnL B M w e size es v) (k:Cons M w) (g:a<=B):Rv (frzM a M w) noB (.slice es [] false) v:=by
 obtain ⟨ys,b,f⟩:=h.own;refine aIp b (aKo b g) es rfl h.ok fun i p j c n m => ?_;obtain ⟨u,d,l⟩:=f i p j c n m;exact ⟨u,d,l.mono (aRx k) (fun _ _ _ h=>h)⟩
theorem Stp.frz {H:Nat} {M w} (c:Cons M w) v B (hv:∀ k,v.ownBlock=some k->B<=k):(∀ b,b<B->∀ i,frzV v M w b i=M b i):=fun b a i=>jA (fun e=>by grind) i
open Go Go.Ev Go.RowKit
structure SCV (M:Mem) (x:GSel) (v3 v4 v6:Value):Prop where
 r3:Rv M noB (.slice (List.map aC x.args) [] false) v3
 r4:Rv M noB (.slice (List.map aF x.dirs) [] false) v4
 r6:Rv M noB (.slice (List.map aI x.sels) [] false) v6
theorem SCV.mono {M M' x v3 v4 v6} (h:SCV M x v3 v4 v6) (a:∀ b i v,M b i=some v->M' b i=some v):SCV M' x v3 v4 v6 :=
 ⟨h.r3.mono a (fun _ _ _ h=>h),h.r4.mono a (fun _ _ _ h=>h),h.r6.mono a (fun _ _ _ h=>h)⟩
abbrev aFE (x:GSel) (v3 v4 v6:Value):List Value:=[.int .i64 x.kind,.string ⟨x.alias.toArray⟩,.string ⟨x.name.toArray⟩,v3,v4,.string ⟨x.on_.toArray⟩,v6]
theorem zP x:okEl 7 (aI x):=by cases x;exact ⟨rfl,rfl,rfl,by decide⟩
theorem aRC {M x v3 v4 v6} (h:SCV M x v3 v4 v6):∀ (j:Nat) c,(aI x).cells[j]?=some c->∃ u,(aFE x v3 v4 v6)[j]?=some u/\Rv M noB c u:=by
 intro j c a;have b  := by have:=(List.getElem?_eq_some_iff.1 a).1;rw [(zP x).2.2.1] at this;omega
 rw [kX] at a;match j,b,a with
 | 0,_,a=>cases a;exact ⟨_,rfl,.int _ _⟩
 | 1,_,a=>cases a;exact ⟨_,rfl,.str _⟩
 | 2,_,a=>cases a;exact ⟨_,rfl,.str _⟩
 | 3,_,a=>cases a;exact ⟨_,rfl,h.r3⟩
 | 4,_,a=>cases a;exact ⟨_,rfl,h.r4⟩
 | 5,_,a=>cases a;exact ⟨_,rfl,.str _⟩
 | 6,_,a=>cases a;exact ⟨_,rfl,h.r6⟩
theorem bEO {M x l} (h:RvL M noB (aI x).cells l):∃ v3 v4 v6,l=aFE x v3 v4 v6/\SCV M x v3 v4 v6:=by
 rw [kX] at h;cases h with | cons e h =>
 cases h with | cons g h =>
 cases h with | cons b h =>
 cases h with | cons a h =>
 cases h with | cons f h =>
 cases h with | cons c h =>
 cases h with | cons d h =>
 cases h;cases e;cases g;cases b;cases c;exact ⟨_,_,_,rfl,a,f,d⟩
theorem bAr {M w l c} (L:Cons M w) (h:Rv M noB (.slice (List.map aI l) [] false) c) :
  ∃ r cap,c = .slice r l.length cap/\l.length<=cap/\(l≠[]->∃ blk off,r=some ⟨blk,off,none⟩)/\∀ blk off,r=some ⟨blk,off,none⟩->∀ k x,l[k]?=some x->∃ v3 v4 v6,SCV M x v3 v4 v6/\∀ j v,(aFE x v3 v4 v6)[j]?=some v->M blk (off+k*7+j)=some v:=by
 generalize t:List.map aI l=es at h;cases h with
 | nil o =>
  simp_all
 | slice z N o a cap s f G I K q O D =>
  have A:es.length=l.length:=by grind
  have m:l.length<=cap:=by omega
  refine ⟨some a,cap,by rw [A],m,fun p=>⟨a.block,a.off,by
   have:=G (by have:=List.length_pos_iff.2 p;omega);obtain ⟨b,o,s⟩:=a;grind⟩,fun blk off n k x B => ?_⟩
  cases n;have g:(es++[])[k]?=some (aI x):=by grind
  have F:s=7:=by
   have:=q k _ g;obtain ⟨_,_,C,_⟩:=this;rw [(zP x).2.2.1] at C;omega
  subst F;have J  := (List.getElem?_eq_some_iff.1 B).1;have H:RvL M noB (aI x).cells [f k 0,f k 1,f k 2,f k 3,f k 4,f k 5,f k 6]:=by
   refine aMr _ _ (by rw [(zP x).2.2.1];rfl) fun i c v y d => ?_;have u  := by have:=(List.getElem?_eq_some_iff.1 d).1;simpa using this
   have:=D k _ i c g y;match i,u,d with
   | 0,_,d=>cases d;exact this
   | 1,_,d=>cases d;exact this
   | 2,_,d=>cases d;exact this
   | 3,_,d=>cases d;exact this
   | 4,_,d=>cases d;exact this
   | 5,_,d=>cases d;exact this
   | 6,_,d=>cases d;exact this
  obtain ⟨v3,v4,v6,e,E⟩:=bEO H;grind
theorem Tryz.i44:aFD (Tryz.prog.info? 44) 7 128=true:=by kernel_rfl
theorem Tryz.u34:Tryz.prog.underlying 34=some (.slice 44):=by simp
theorem aHA l (q:bkSl aX l<1073741824) {M w} v (k:Cons M w) (g:Rv M noB (.slice (List.map aC l) [] false) v) :
  Calls Tryz.prog 103 #[v] w fun e w'=>∃ a n p M',e = .returned (.slice a n p)/\Rv M' noB (.slice (List.map aC l) [] false) (.slice a n p)/\Cons M' w'/\Quiet M w M' w':=by
 have c:l.length<1073741824:=by have:=cK (f:=aX) uH l;omega
 have m:=uI l c (fun y d=>aEl _ (aGN (by omega) d));have j:O 103 [.slice (List.map aC l) [] false] []=some (.slice (List.map aC l) [] false,[]):=bH (enc:=fun r=>(oR r,[])) m;have key:=kF pokX xok j (M:=M) (w:=w) (vals := #[v]) rfl k ⟨rfl,fun i p b=>by
  match i,b with
  | 0,b=>cases b;exact ⟨g,aW rfl⟩
  | i+1,b=>grind⟩
 refine key.mono ?_;rintro e w' ⟨v,M',rfl,hv,h,o⟩;obtain ⟨a,n,p,rfl⟩:=mB hv;grind
noncomputable def t5C:Code:=fstC (inC (blA (aS Tryz.f37)))
noncomputable def t6C:Code:=fstC (sndC (inC (blA (aS Tryz.f37))))
noncomputable def t7C:Code:=sndC (sndC (inC (blA (aS Tryz.f37))))
set_option maxHeartbeats 8000000 in
theorem bAs {M:Mem} {w:World} (H:Nat) (x:GSel) (a3:Option Addr) (l3 p3:Nat) (a4:Option Addr) (l4 p4:Nat) (a6:Option Addr) (l6 p6:Nat) (hc:Cons M w) (hH:w.heap[H]?=some (.cells #[.int .i64 x.kind,.string ⟨x.alias.toArray⟩,.string ⟨x.name.toArray⟩,.slice a3 l3 p3,.slice a4 l4 p4,.string ⟨x.on_.toArray⟩,.slice a6 l6 p6] 44 (0,0))) (hf:∀ i,M H i=none) (hr3:Rv M noB (.slice (List.map aC x.args) [] false) (.slice a3 l3 p3)) (hr4:Rv M noB (.slice (List.map aF x.dirs) [] false) (.slice a4 l4 p4)) (hr6:Rv M noB (.slice (List.map aI x.sels) [] false) (.slice a6 l6 p6)) (hl3:bkSl aX x.args<1073741824) (hl4:bkSl eZ x.dirs<1073741824) (hl6:bT x.sels<1073741824) (Q:Exit->Act->World->Prop) (v0 v1 v2 v3 v4 v6 v7 v8 v9 v10 v11 v12 v13 v14 v15 v16 v17 v18 v19 v20 v21 v22 v23 v24 v25 v26 v27 v28 v29 v30 v31 v32:Value)
  (hC:∀ (w':World) (M':Mem) (b3:Option Addr) (m3 q3:Nat) (b4:Option Addr) (m4 q4:Nat) (b6:Option Addr) (m6 q6:Nat) (z16 z17 z18 z19 z20 z21 z22 z23 z24 z25 z26 z27:Value),Stp H M w M' w'->w'.heap[H]?=some (.cells #[.int .i64 x.kind,.string ⟨x.alias.toArray⟩,.string ⟨x.name.toArray⟩,.slice b3 m3 q3,.slice b4 m4 q4,.string ⟨x.on_.toArray⟩,.slice b6 m6 q6] 44 (0,0))->Rv M' noB (.slice (List.map aC x.args) [] false) (.slice b3 m3 q3)->Rv M' noB (.slice (List.map aF x.dirs) [] false) (.slice b4 m4 q4)->Rv M' noB (.slice (List.map aI x.sels) [] false) (.slice b6 m6 q6)->Q .normal ⟨#[v0,v1,v2,v3,v4,.pointer (some ⟨H,0,none⟩),v6,v7,v8,v9,v10,v11,v12,v13,v14,v15,z16,z17,z18,z19,z20,z21,z22,z23,z24,z25,z26,z27,v28,v29,v30,v31,v32],[]⟩ w') :
  Code.wp Tryz.prog t6C Q ⟨#[v0,v1,v2,v3,v4,.pointer (some ⟨H,0,none⟩),v6,v7,v8,v9,v10,v11,v12,v13,v14,v15,v16,v17,v18,v19,v20,v21,v22,v23,v24,v25,v26,v27,v28,v29,v30,v31,v32],[]⟩ w:=by
 have hHl:H<w.heap.size:=(Array.getElem?_eq_some_iff.1 hH).1
 have k3:w.cell? ⟨H,3,none⟩=some (.slice a3 l3 p3):=by rw [cell_of_row w H _ _ _ _ hH];rfl
 have k4:w.cell? ⟨H,4,none⟩=some (.slice a4 l4 p4):=by rw [cell_of_row w H _ _ _ _ hH];rfl
 have k6:w.cell? ⟨H,6,none⟩=some (.slice a6 l6 p6):=by rw [cell_of_row w H _ _ _ _ hH];rfl
 have fin:Hid (∀ (w2 w3 w4:World) (M2 M3 M4:Mem) (b3:Option Addr) (m3 q3:Nat) (b4:Option Addr) (m4 q4:Nat) (b6:Option Addr) (m6 q6:Nat) (z16 z17 z18 z19 z20 z21 z22 z23 z24 z25 z26 z27:Value),Cons M2 w2->Quiet M w.drew M2 w2->Cons M3 w3->Quiet M2 w2 M3 w3->Cons M4 w4->Quiet M3 w3 M4 w4->Rv M2 noB (.slice (List.map aC x.args) [] false) (.slice b3 m3 q3)->Rv M3 noB (.slice (List.map aF x.dirs) [] false) (.slice b4 m4 q4)->Rv M4 noB (.slice (List.map aI x.sels) [] false) (.slice b6 m6 q6)->Q .normal ⟨#[v0,v1,v2,v3,v4,.pointer (some ⟨H,0,none⟩),v6,v7,v8,v9,v10,v11,v12,v13,v14,v15,z16,z17,z18,z19,z20,z21,z22,z23,z24,z25,z26,z27,v28,v29,v30,v31,v32],[]⟩ (((w4.setCell ⟨H,3,none⟩ (.slice b3 m3 q3)).setCell ⟨H,4,none⟩ (.slice b4 m4 q4)).setCell ⟨H,6,none⟩ (.slice b6 m6 q6))):=by
  intro w2 w3 w4 M2 M3 M4 b3 m3 q3 b4 m4 q4 b6 m6 q6 z16 z17 z18 z19 z20 z21 z22 z23 z24 z25 z26 z27 hc2 hq2 hc3 hq3 hc4 hq4 h3 h4 h6
  have S0:=(((Stp.drew (H:=H) hc).trans (Stp.quiet hq2 hc2)).trans (Stp.quiet hq3 hc3)).trans (Stp.quiet hq4 hc4)
  have S1:=S0.trans (Stp.set S0.cons (S0.free hHl hf) 3 (.slice b3 m3 q3))
  have S2:=S1.trans (Stp.set S1.cons (S1.free hHl hf) 4 (.slice b4 m4 q4))
  have S3:=S2.trans (Stp.set S2.cons (S2.free hHl hf) 6 (.slice b6 m6 q6))
  have hl2:H<w2.heap.size:=Nat.lt_of_lt_of_le hHl hq2.size
  have hl3:H<w3.heap.size:=Nat.lt_of_lt_of_le hl2 hq3.size
  have e2:w4.heap[H]?=w.heap[H]?:=(hq4.old H hl3).1.trans ((hq3.old H hl2).1.trans (hq2.old H hHl).1)
  exact hC _ _ _ _ _ _ _ _ _ _ _ _ _ _ _ _ _ _ _ _ _ _ _ S3 (heap_setCell_same _ H 6 _ _ _ (heap_setCell_same _ H 4 _ _ _ (heap_setCell_same _ H 3 _ _ _ (e2.trans hH)))) ((h3.mono hq3.mem (fun _ _ _ h=>h)).mono hq4.mem (fun _ _ _ h=>h)) (h4.mono hq4.mem (fun _ _ _ h=>h)) h6
 have h103:=aHA x.args hl3 (M:=M) (w:=w.drew) (.slice a3 l3 p3) (tG hc) hr3
 have h36:=fun (M2:Mem) (w2:World) (hc2:Cons M2 w2) (hq2:Quiet M w.drew M2 w2)=>aRA x.dirs hl4 (M:=M2) (w:=w2) (.slice a4 l4 p4) hc2 (hr4.mono hq2.mem (fun _ _ _ h=>h))
 have h37:=fun (M2:Mem) (w2:World) (M3:Mem) (w3:World) (hq2:Quiet M w.drew M2 w2) (hc3:Cons M3 w3) (hq3:Quiet M2 w2 M3 w3)=>aRB x.sels hl6 (M:=M3) (w:=w3) (.slice a6 l6 p6) hc3 ((hr6.mono hq2.mem (fun _ _ _ h=>h)).mono hq3.mem (fun _ _ _ h=>h))
 have hcl:Hid (∀ (M2:Mem) (w2:World),Quiet M w.drew M2 w2->w2.cell? ⟨H,4,none⟩=some (.slice a4 l4 p4)/\w2.cell? ⟨H,6,none⟩=some (.slice a6 l6 p6)):=fun M2 w2 hq2=>⟨(World.cell?_of_block (a:=⟨H,4,none⟩) (hq2.old H hHl).1).trans k4,(World.cell?_of_block (a:=⟨H,6,none⟩) (hq2.old H hHl).1).trans k6⟩
 have hcm:Hid (∀ (M2:Mem) (w2:World) (M3:Mem) (w3:World),Quiet M w.drew M2 w2->Quiet M2 w2 M3 w3->w3.cell? ⟨H,6,none⟩=some (.slice a6 l6 p6)):=fun M2 w2 M3 w3 hq2 hq3=>(World.cell?_of_block (a:=⟨H,6,none⟩) ((hq3.old H (Nat.lt_of_lt_of_le hHl hq2.size)).1.trans (hq2.old H hHl).1)).trans k6
 have hst:Hid (∀ (M2:Mem) (w2:World) (M3:Mem) (w3:World) (M4:Mem) (w4:World),Quiet M w.drew M2 w2->Quiet M2 w2 M3 w3->Quiet M3 w3 M4 w4->w4.cell? ⟨H,3,none⟩=some (.slice a3 l3 p3)/\w4.frozen? ⟨H,3,none⟩=false/\w4.cell? ⟨H,4,none⟩=some (.slice a4 l4 p4)/\w4.frozen? ⟨H,4,none⟩=false/\w4.cell? ⟨H,6,none⟩=some (.slice a6 l6 p6)/\w4.frozen? ⟨H,6,none⟩=false):=by
  intro M2 w2 M3 w3 M4 w4 hq2 hq3 hq4
  have hl2:H<w2.heap.size:=Nat.lt_of_lt_of_le hHl hq2.size
  have hl3:H<w3.heap.size:=Nat.lt_of_lt_of_le hl2 hq3.size
  have e2:w4.heap[H]?=w.heap[H]?:=(hq4.old H hl3).1.trans ((hq3.old H hl2).1.trans (hq2.old H hHl).1)
  exact ⟨(World.cell?_of_block (a:=⟨H,3,none⟩) e2).trans k3,frozen_of_row _ _ _ _ _ (e2.trans hH),(World.cell?_of_block (a:=⟨H,4,none⟩) e2).trans k4,frozen_of_row _ _ _ _ _ (e2.trans hH),(World.cell?_of_block (a:=⟨H,6,none⟩) e2).trans k6,frozen_of_row _ _ _ _ _ (e2.trans hH)⟩
 replace h36:=(id h36:Hid _)
 replace h37:=(id h37:Hid _)
 clear hC hH
 refine Code.wp_mono (Q:=Exit.then (Q .normal) (fun _ _ _=>False)) (fun e a w h=>by cases e<;>first | exact h | exact h.elim) ?_
 unfold t6C
 simp only [Tryz.f37,aS,inC,blA,blkC,lopC,fstC,sndC]
 go_wp2
 go_region_with (first | (go_at_call 103;refine h103.mono ?_;rintro e' w2 ⟨b3,m3,q3,M2,rfl,hv3,hc2,hq2⟩;obtain ⟨j4,j6⟩:=hcl.out M2 w2 hq2) | (go_at_call 36;have h36b:=h36.out M2 w2 hc2 hq2;refine h36b.mono ?_;rintro e' w3 ⟨b4,m4,q4,M3,rfl,hv4,hc3,hq3⟩;have n6:=hcm.out M2 w2 M3 w3 hq2 hq3) | (go_at_call 37;have h37b:=h37.out M2 w2 M3 w3 hq2 hc3 hq3;refine h37b.mono ?_;rintro e' w4 ⟨b6,m6,q6,M4,rfl,hv6,hc4,hq4⟩;obtain ⟨i1,i2,i3,i4,i5,i6⟩:=hst.out M2 w2 M3 w3 M4 w4 hq2 hq3 hq4))
 all_goals exact fin.out w2 w3 w4 M2 M3 M4 b3 m3 q3 b4 m4 q4 b6 m6 q6 _ _ _ _ _ _ _ _ _ _ _ _ hc2 hq2 hc3 hq3 hc4 hq4 hv3 hv4 hv6
set_option maxHeartbeats 4000000 in
theorem bEP {w:World} (H B:Nat) (x:GSel) (a3:Option Addr) (l3 p3:Nat) (a4:Option Addr) (l4 p4:Nat) (a6:Option Addr) (l6 p6:Nat) (ga:Option Addr) (n cap:Nat) (ys:List Value) (hH:w.heap[H]?=some (.cells #[.int .i64 x.kind,.string ⟨x.alias.toArray⟩,.string ⟨x.name.toArray⟩,.slice a3 l3 p3,.slice a4 l4 p4,.string ⟨x.on_.toArray⟩,.slice a6 l6 p6] 44 (0,0))) (hown:w.ownsRow B 44 7 (.slice ga n cap) n ys) (hB:B<=w.heap.size) (hn:n<=1073741824) (Q:Exit->Act->World->Prop) (v0 v1 v2 v4 v6 v7 v8 v9 v10 v11 v12 v13 v14 v15 v16 v17 v18 v19 v20 v21 v22 v23 v24 v25 v26 v27 v28 v29 v30 v31 v32:Value)
  (hC:∀ (w':World) (g cap':Nat) (z28 z29 z30 z31:Value),w'.ownsRow B 44 7 (.slice (some ⟨g,0,none⟩) (n+1) cap') (n+1) (ys++[.int .i64 x.kind,.string ⟨x.alias.toArray⟩,.string ⟨x.name.toArray⟩,.slice a3 l3 p3,.slice a4 l4 p4,.string ⟨x.on_.toArray⟩,.slice a6 l6 p6])->(∀ b,b<w.heap.size->(Value.slice ga n cap).ownBlock≠some b->w'.heap[b]?=w.heap[b]?)->((Value.slice ga n cap).ownBlock=some g∨w.heap.size<=g)->w'.os=w.os->w'.tape=w.tape->w'.output=w.output->w.heap.size<=w'.heap.size->Q .normal ⟨#[v0,v1,v2,.slice (some ⟨g,0,none⟩) (n+1) cap',v4,.pointer (some ⟨H,0,none⟩),v6,v7,v8,v9,v10,v11,v12,v13,v14,v15,v16,v17,v18,v19,v20,v21,v22,v23,v24,v25,v26,v27,z28,z29,z30,z31,v32],[]⟩ w') :
  Code.wp Tryz.prog t7C Q ⟨#[v0,v1,v2,.slice ga n cap,v4,.pointer (some ⟨H,0,none⟩),v6,v7,v8,v9,v10,v11,v12,v13,v14,v15,v16,v17,v18,v19,v20,v21,v22,v23,v24,v25,v26,v27,v28,v29,v30,v31,v32],[]⟩ w:=by
 have hHl:H<w.heap.size:=(Array.getElem?_eq_some_iff.1 hH).1
 obtain ⟨i0,z0,hi,hz0,hz1,hz2,hzc⟩:=aEt Tryz.i44
 have c0:w.cell? ⟨H,0,none⟩=_:=cell_of_row w H 0 _ _ _ hH
 have c1:w.cell? ⟨H,1,none⟩=_:=cell_of_row w H 1 _ _ _ hH
 have c2:w.cell? ⟨H,2,none⟩=_:=cell_of_row w H 2 _ _ _ hH
 have c3:w.cell? ⟨H,3,none⟩=_:=cell_of_row w H 3 _ _ _ hH
 have c4:w.cell? ⟨H,4,none⟩=_:=cell_of_row w H 4 _ _ _ hH
 have c5:w.cell? ⟨H,5,none⟩=_:=cell_of_row w H 5 _ _ _ hH
 have c6:w.cell? ⟨H,6,none⟩=_:=cell_of_row w H 6 _ _ _ hH
 simp only [List.getElem?_toArray,List.getElem?_cons_zero,List.getElem?_cons_succ] at c0 c1 c2 c3 c4 c5 c6
 have hn0:=World.news_of_block (cs := #[.int .i64 x.kind,.string ⟨x.alias.toArray⟩,.string ⟨x.name.toArray⟩,.slice a3 l3 p3,.slice a4 l4 p4,.string ⟨x.on_.toArray⟩,.slice a6 l6 p6]) (heap_alloc_new w (.cells #[.int .i64 x.kind,.string ⟨x.alias.toArray⟩,.string ⟨x.name.toArray⟩,.slice a3 l3 p3,.slice a4 l4 p4,.string ⟨x.on_.toArray⟩,.slice a6 l6 p6] 44))
 have hown2:=hown.alloc (.cells #[.int .i64 x.kind,.string ⟨x.alias.toArray⟩,.string ⟨x.name.toArray⟩,.slice a3 l3 p3,.slice a4 l4 p4,.string ⟨x.on_.toArray⟩,.slice a6 l6 p6] 44)
 have hsz:(w.alloc (.cells #[.int .i64 x.kind,.string ⟨x.alias.toArray⟩,.string ⟨x.name.toArray⟩,.slice a3 l3 p3,.slice a4 l4 p4,.string ⟨x.on_.toArray⟩,.slice a6 l6 p6] 44)).heap.size=w.heap.size+1:=by simp
 have hBs:B<=(w.alloc (.cells #[.int .i64 x.kind,.string ⟨x.alias.toArray⟩,.string ⟨x.name.toArray⟩,.slice a3 l3 p3,.slice a4 l4 p4,.string ⟨x.on_.toArray⟩,.slice a6 l6 p6] 44)).heap.size:=by omega
 replace hC:=(id hC:Hid _)
 unfold t7C
 simp only [Tryz.f37,aS,inC,blA,blkC,lopC,fstC,sndC]
 go_wp2_with (at_builtin;refine wpList_append_lies _ rfl (.tmp 28) (.tmp 30) 34 rfl B 44 i0 _ 7 128 Tryz.u34 hi hz0 hz1 hz2 hzc (by decide) (.slice ga n cap) n ys rfl hown2 ⟨w.heap.size,0,none⟩ 1 1 [.int .i64 x.kind,.string ⟨x.alias.toArray⟩,.string ⟨x.name.toArray⟩,.slice a3 l3 p3,.slice a4 l4 p4,.string ⟨x.on_.toArray⟩,.slice a6 l6 p6] rfl rfl hn0 (by intro u hu;simp only [List.mem_cons,List.not_mem_nil,or_false] at hu;rcases hu with rfl | rfl | rfl | rfl | rfl | rfl | rfl<;>rfl) (by decide) (by simp [maxLen];omega) (by omega) hBs _ rfl ?_;intro g cap' w1 hown3 hgrow hat hlt)
 refine hC.out _ g cap' _ _ _ _ hown3 ?_ ?_ hgrow.os hgrow.tape hgrow.output ?_
 ·intro b hb hbo
  exact (hgrow.block b (by rw [hsz];omega) (fun e=>hbo e.symm)).trans (heap_alloc_old w _ hb)
 ·rcases hat with h | h
  ·exact .inl h
  ·right;omega
 ·have:=hgrow.size
  omega
theorem OwnL.add {B e size cap g M M' w' es p ys us} (n:ys.length=es.length*size) (s:∀ i p j c,es[i]?=some p->p.cells[j]?=some c->∃ u,ys[i*size+j]?=some u/\Rv M noB c u) (l:∀ p∈es,okEl size p) (y:okEl size p) (w:∀ (j:Nat) c,p.cells[j]?=some c->∃ u,us[j]?=some u/\Rv M' noB c u) (r:∀ b i v,M b i=some v->M' b i=some v)
  (C:w'.ownsRow B e size (.slice (some ⟨g,0,none⟩) (es.length+1) cap) (es.length+1) (ys++us)) (A:∀ i,M' g i=none):OwnL B M' w' e size (es++[p]) (.slice (some ⟨g,0,none⟩) (es.length+1) cap):=by
 refine ⟨⟨ys++us,by grind,fun i q j c d m => ?_⟩,fun q d => ?_,fun k x i => ?_⟩
 ·rcases Nat.lt_or_ge i es.length with f | t;· rw [List.getElem?_append_left f] at d;obtain ⟨u,z,o⟩:=s i q j c d m;exact ⟨u,by grind,o.mono r (fun _ _ _ h=>h)⟩
  grind
 ·grind
 have  := by simpa [Value.ownBlock] using x.symm
 grind
structure SI (M:Mem) (w:World) (M1:Mem) (wr:World) (l:List GSel) (k:Nat) (vo:Value):Prop where
 own:OwnL w.heap.size M1 wr 44 7 (List.map aI (l.take k)) vo
 cons:Cons M1 wr
 frm:From w.heap.size M w M1 wr
theorem SI.next {M M1 o w t f d k l v3 v4 v6 F E g a ys x} (m:SI M w M1 t l k (.slice F k E)) (J:l[k]?=some x) (S:Stp t.heap.size M1 t o f) (K:SCV o x v3 v4 v6) (A:ys.length=k*7)
  (z:∀ i p j c,(List.map aI (l.take k))[i]?=some p->p.cells[j]?=some c->∃ u,ys[i*7+j]?=some u/\Rv o noB c u)
  (q:d.ownsRow w.heap.size 44 7 (.slice (some ⟨g,0,none⟩) (k+1) a) (k+1) (ys++aFE x v3 v4 v6))
  (blk:∀ b,b<f.heap.size->(Value.slice F k E).ownBlock≠some b->d.heap[b]?=f.heap[b]?) (L:(Value.slice F k E).ownBlock=some g∨f.heap.size<=g) (D:d.os=f.os) (G:d.tape=f.tape) (v:d.output=f.output) (C:f.heap.size<=d.heap.size) :
  SI M w o d l (k+1) (.slice (some ⟨g,0,none⟩) (k+1) a):=by
 have H:=m.frm.below.size;have r:∀ b,b<w.heap.size->d.heap[b]?=t.heap[b]?:=fun b s =>
  (blk b (by have:=S.size;omega) (fun e=>by have:=(m.own.lt b e).1;omega)).trans (S.blk b (by omega) (by omega))
 have n:(List.map aI (l.take k)).length=k:=by
  grind
 refine ⟨?_,?_,?_⟩
 ·have e:List.map aI (l.take (k+1))=List.map aI (l.take k)++[aI x]:=by rw [List.take_add_one,J,List.map_append];rfl
  rw [e];have h:=OwnL.add (M:=o) (M':=o) (w':=d) (es:=List.map aI (l.take k)) (p:=aI x) (ys:=ys) (us:=aFE x v3 v4 v6) (B:=w.heap.size) (e:=44) (size:=7) (g:=g) (cap:=a) (by rw [n];exact A) z (fun p N=>by obtain ⟨y,_,rfl⟩:=List.mem_map.1 N;exact zP y) (zP x) (aRC K) (fun _ _ _ h=>h) (by rw [n];exact q) (fun i=>by
   rcases L with h | h;· rw [S.old _ (m.own.lt g h).2];exact m.own.free g h i
   exact kS S.cons h i)
  rw [n] at h;exact h
 ·refine iU S.cons fun b s ⟨i,I⟩=>blk b s (fun e=>I ?_);rw [S.old _ (m.own.lt b e).2];exact m.own.free b e i
 exact m.frm.trans ⟨S.mem,fun b s i=>S.old b (by omega) i,D.trans S.os,G.trans S.tape,v.trans S.output,Nat.le_trans S.size C,fun b s=>r b s⟩
noncomputable def t3C:Code:=fstC (lopC (blkC (blA (aS Tryz.f37))))
noncomputable def t4C:Code:=sndC (sndC (lopC (blkC (blA (aS Tryz.f37)))))
theorem bAt l oa cap M w (hN:l.length<1073741824) (hcap:l.length<=cap) (hsm:∀ x∈l,bkSl aX x.args<1073741824/\bkSl eZ x.dirs<1073741824/\bT x.sels<1073741824)
  (hat:l≠[]->∃ blk off,oa=some ⟨blk,off,none⟩) (hcell:∀ blk off,oa=some ⟨blk,off,none⟩->∀ k x,l[k]?=some x->∃ v3 v4 v6,SCV M x v3 v4 v6/\∀ j v,(aFE x v3 v4 v6)[j]?=some v->M blk (off+k*7+j)=some v)
  M0 w0 (h0:SI M w M0 w0 l 0 (.slice none 0 0)) Q v1 v2 v4 v5 v6 v7 v8 v9 v10 v11 v12 v13 v14 v15 v16 v17 v18 v19 v20 v21 v22 v23 v24 v25 v26 v27 v28 v29 v30 v31 v32
  (hC:∀ w' M' ga gc z4 z5 z6 z7 z8 z9 z10 z11 z12 z13 z14 z15 z16 z17 z18 z19 z20 z21 z22 z23 z24 z25 z26 z27 z28 z29 z30 z31,SI M w M' w' l l.length (.slice ga l.length gc)->Q .normal ⟨#[.slice oa l.length cap,v1,v2,.slice ga l.length gc,z4,z5,z6,z7,z8,z9,z10,z11,z12,z13,z14,z15,z16,z17,z18,z19,z20,z21,z22,z23,z24,z25,z26,z27,z28,z29,z30,z31,v32],[]⟩ w') :
  Code.wp Tryz.prog (fstC (sndC (sndC (aS Tryz.f37)))) Q ⟨#[.slice oa l.length cap,v1,v2,.slice none 0 0,v4,v5,v6,v7,v8,v9,v10,v11,v12,v13,v14,v15,v16,v17,v18,v19,v20,v21,v22,v23,v24,v25,v26,v27,v28,v29,v30,v31,v32],[]⟩ w0:=by
 obtain ⟨N,hln⟩:∃ N,l.length=N:=⟨_,rfl⟩;rw [hln] at hN hcap;simp [hln] at hC ⊢;replace hC:=(id hC:Hid _);simp [Tryz.f37,aS,fstC,sndC];go_wp2;by_cases h0N:N=0;· subst h0N;refine wp_loop_rounds 1 ?_;rw [rounds_succ];go_wp2;exact hC.out _ _ _ _ _ _ _ _ _ _ _ _ _ _ _ _ _ _ _ _ _ _ _ _ _ _ _ _ _ _ _ _ h0
 obtain ⟨blk,off,rfl⟩:=hat (by intro e;rw [e] at hln;simp at hln;omega);go_loopw [3,4] (fun t3 t4 wr=>∃ (k:Nat) (M1:Mem) (ga:Option Addr) (gc:Nat),k<=N/\t4 = .int .i64 k/\t3 = .slice ga k gc/\SI M w M1 wr l k (.slice ga k gc)) (fun _ t4 _=>N-(intOf t4).toNat);case atStart=>exact ⟨0,M0,none,0,Nat.zero_le _,rfl,rfl,h0⟩
 case round =>
  obtain ⟨k,M1,ga,gc,hk,rfl,rfl,hD⟩:=hrel;obtain ⟨x,a3,l3,p3,a4,l4,p4,a6,l6,p6,hx⟩:∃ x a3 l3 p3 a4 l4 p4 a6 l6 p6,k<N->l[k]?=some x/\SCV M1 x (.slice a3 l3 p3) (.slice a4 l4 p4) (.slice a6 l6 p6)/\(∀ j v,(aFE x (.slice a3 l3 p3) (.slice a4 l4 p4) (.slice a6 l6 p6))[j]?=some v->wr.cell? ⟨blk,off+k*7+j,none⟩=some v):=by
   by_cases hkN:k<N;· have hg:=List.getElem?_eq_getElem (l:=l) (i:=k) (by omega);obtain ⟨v3,v4,v6,h1,h2⟩:=hcell blk off rfl k _ hg;obtain ⟨a3,l3,p3,rfl⟩:=mB h1.r3;obtain ⟨a4,l4,p4,rfl⟩:=mB h1.r4;obtain ⟨a6,l6,p6,rfl⟩:=mB h1.r6;exact ⟨_,a3,l3,p3,a4,l4,p4,a6,l6,p6,fun _=>⟨hg,h1.mono hD.frm.mem,fun j v hv=>kA hD.cons (hD.frm.mem _ _ _ (h2 j v hv))⟩⟩
   exact ⟨⟨0,[],[],[],[],[],[]⟩,none,0,0,none,0,0,none,0,0,fun h=>absurd h hkN⟩
  have x0:k<N->wr.cell? ⟨blk,off+k*7,none⟩=some (.int .i64 x.kind):=fun h=>(hx h).2.2 0 _ rfl;have x1:k<N->wr.cell? ⟨blk,off+k*7+1,none⟩=some (.string ⟨x.alias.toArray⟩):=fun h=>(hx h).2.2 1 _ rfl;have x2  := fun h=>(hx h).2.2 2 _ rfl;have x3  := fun h=>(hx h).2.2 3 _ rfl;have x4  := fun h=>(hx h).2.2 4 _ rfl;have x5  := fun h=>(hx h).2.2 5 _ rfl;have x6  := fun h=>(hx h).2.2 6 _ rfl;replace hx:=(id hx:Hid _);change Code.wp Tryz.prog (.seq t3C (.seq (.block 1 (.seq t5C (.seq t6C t7C))) t4C)) _ _ _;unfold t3C t4C t5C;simp only [Tryz.f37,aS,inC,blA,blkC,lopC,fstC,sndC];go_wp2
  ·rename_i hkN K1 hK1 K0 hK0;obtain ⟨hxk,hcv,_⟩:=hx.out hkN;obtain ⟨s3,s4,s6⟩:=hsm x (List.mem_of_getElem? hxk);refine bAs (M:=M1) wr.heap.size x a3 l3 p3 a4 l4 p4 a6 l6 p6 (Stp.alloc (H:=0) hD.cons _).cons (heap_alloc_new wr _) (fun i=>kS hD.cons (Nat.le_refl _) i) hcv.r3 hcv.r4 hcv.r6 s3 s4 s6 _ _ _ _ _ _ _ _ _ _ _ _ _ _ _ _ _ _ _ _ _ _ _ _ _ _ _ _ _ _ _ _ _ (fun w3 M3 b3 m3 q3 b4 m4 q4 b6 m6 q6 z16 z17 z18 z19 z20 z21 z22 z23 z24 z25 z26 z27 S3 hH3 hr3 hr4 hr6 => ?_);have S:=(Stp.alloc (H:=wr.heap.size) hD.cons _).trans S3;have hO:=hD.own.stp S (fun e=>by have:=(hD.own.lt _ e).2;omega);obtain ⟨ys,hown,hcl⟩:=hO.own;have hlk:(List.map aI (l.take k)).length=k:=by
    rw [List.length_map,List.length_take];omega
   rw [hlk] at hown;refine hK0 _ _ ?_;refine bEP wr.heap.size w.heap.size x b3 m3 q3 b4 m4 q4 b6 m6 q6 ga k gc ys hH3 hown (by have:=S.size;have:=hD.frm.below.size;omega) (by omega) _ _ _ _ _ _ _ _ _ _ _ _ _ _ _ _ _ _ _ _ _ _ _ _ _ _ _ _ _ _ _ _ (fun w4 g cap' z28 z29 z30 z31 own' hblk hg hos hta hou hsz4 => ?_);have hDn:=hD.next hxk S ⟨hr3,hr4,hr6⟩ hown.1 hcl own' hblk hg hos hta hou hsz4;replace hDn:=(id hDn:Hid _);refine hK1 _ _ ?_;clear hblk own' hK0 hK1;go_wp2;go_roundw;case rel=>exact ⟨k+1,M3,_,_,by omega,by go_num,rfl,hDn.out⟩
   case measure=>simp [intOf];omega
  rename_i K0 hK0 hkN;have e:k=N:=by omega
  subst e;exact hC.out _ _ _ _ _ _ _ _ _ _ _ _ _ _ _ _ _ _ _ _ _ _ _ _ _ _ _ _ _ _ _ _ hD
noncomputable def u0C:Code:=fstC (aS Tryz.f37)
noncomputable def u1C:Code:=fstC (sndC (aS Tryz.f37))
noncomputable def u2C:Code:=fstC (sndC (sndC (aS Tryz.f37)))
noncomputable def u3C:Code:=sndC (sndC (sndC (aS Tryz.f37)))
theorem bFX:Tryz.f37.body=some (.seq u0C (.seq u1C (.seq u2C u3C))):=by kernel_rfl
theorem bCY l (G:bT l<1073741824) {M w} v (hc:Cons M w) (hr:Rv M noB (.slice (List.map aI l) [] false) v) :
  Calls Tryz.prog 37 #[v] w fun e w'=>∃ a p M',e = .returned (.slice a l.length p)/\OwnL w.heap.size M' w' 44 7 (List.map aI l) (.slice a l.length p)/\Cons M' w'/\Quiet M w M' w':=by
 have hlen:=kN l;have hsm:∀ x∈l,bkSl aX x.args<1073741824/\bkSl eZ x.dirs<1073741824/\bT x.sels<1073741824:=by
  intro x hx;have hb:=sB hx;have z:=sC x;have J:=aHz x;omega
 obtain ⟨r,cap,rfl,hcap,hat,hcell⟩:=bAr hc hr;have LA:=@bAt l r cap M w (by omega) hcap hsm hat hcell M w ⟨OwnL.nil _ _ _ _ _,hc,From.refl _ _ _⟩;replace LA:=(id LA:Hid _);clear hat hcell hsm;refine calls_of_wp Tryz.func37 bFX ?_;simp only [Tryz.ntmps37,List.size_toArray,List.length_cons,List.length_nil,Array.replicate_succ];generalize hQ:bodyPost Tryz.prog Tryz.f37 _=Q;replace hQ:=(id hQ:Hid _);unfold u0C u1C;simp [Tryz.f37,aS,fstC,sndC];go_wp2;refine LA.out _ _ _ _ _ _ _ _ _ _ _ _ _ _ _ _ _ _ _ _ _ _ _ _ _ _ _ _ _ _ _ _ (fun F M1 o gc I y B D E H n k z12 t z14 s u z17 m z19 z20 f z22 j z24 g h z27 d q c z31 hD => ?_);rename_i C hK0;refine hK0 _ _ ?_;have hOw:=hD.own;rw [List.take_length] at hOw;replace hOw:=(id hOw:Hid _);unfold u3C;simp [Tryz.f37,aS,sndC];go_wp2;rw [<- hQ.out];refine bodyPost_ret (results_tmp (by rfl) _ _ _) rfl ?_;exact ⟨o,gc,M1,rfl,hOw.out,hD.cons,hD.frm.mem,fun b hb=>⟨hD.frm.below.block b hb,fun i=>hD.frm.old b hb i⟩,hD.frm.below.size,hD.frm.below.os,hD.frm.below.tape,hD.frm.below.output⟩
abbrev aKq (x:GDir) (v1:Value):List Value:=[.string ⟨x.name.toArray⟩,v1]
theorem rR x:okEl 2 (aF x):=by exact ⟨rfl,rfl,rfl,by decide⟩
theorem aBL {M x b} (h:Rv M noB (.slice (List.map aC x.args) [] false) b):∀ (j:Nat) c,(aF x).cells[j]?=some c->∃ u,(aKq x b)[j]?=some u/\Rv M noB c u:=by
 intro j c a;have d  := by have:=(List.getElem?_eq_some_iff.1 a).1;rw [(rR x).2.2.1] at this;omega
 match j,d,a with
 | 0,_,a=>cases a;exact ⟨_,rfl,.str _⟩
 | 1,_,a=>cases a;grind
theorem bEQ {M x l} (h:RvL M noB (aF x).cells l):∃ a,l=aKq x a/\Rv M noB (.slice (List.map aC x.args) [] false) a:=by
 cases h with | cons b h =>
 cases h with | cons c h =>
 cases h;cases b;grind
theorem bAu {M w l c} (J:Cons M w) (h:Rv M noB (.slice (List.map aF l) [] false) c) :
  ∃ r cap,c = .slice r l.length cap/\l.length<=cap/\(l≠[]->∃ blk off,r=some ⟨blk,off,none⟩)/\∀ blk off,r=some ⟨blk,off,none⟩->∀ k x,l[k]?=some x->∃ q,Rv M noB (.slice (List.map aC x.args) [] false) q/\∀ j v,(aKq x q)[j]?=some v->M blk (off+k*2+j)=some v:=by
 generalize t:List.map aF l=es at h;cases h with
 | nil o =>
  simp_all
 | slice u K o a cap s f C E G p N I =>
  have y:es.length=l.length:=by grind
  have d:l.length<=cap:=by omega
  refine ⟨some a,cap,by rw [y],d,fun m=>⟨a.block,a.off,by
   have:=C (by have:=List.length_pos_iff.2 m;omega);obtain ⟨b,o,s⟩:=a;grind⟩,fun blk off g k x H => ?_⟩
  cases g;have n:(es++[])[k]?=some (aF x):=by grind
  have B:s=2:=by
   have:=p k _ n;obtain ⟨_,_,z,_⟩:=this;rw [(rR x).2.2.1] at z;omega
  subst B;have D:RvL M noB (aF x).cells [f k 0,f k 1]:=by
   refine aMr _ _ (by rfl) fun i c v F L => ?_;grind
  obtain ⟨q,e,A⟩:=bEQ D;grind
theorem Tryz.i41:aFD (Tryz.prog.info? 41) 2 40=true:=by kernel_rfl
theorem Tryz.u36:Tryz.prog.underlying 36=some (.slice 41):=by simp
structure TI (M:Mem) (w:World) (M1:Mem) (wr:World) (l:List GDir) (k:Nat) (vo:Value):Prop where
 own:OwnL w.heap.size M1 wr 41 2 (List.map aF (l.take k)) vo
 cons:Cons M1 wr
 frm:From w.heap.size M w M1 wr
theorem TI.next {M M1 o w E f d k l I G F g a ys x} (m:TI M w M1 E l k (.slice G k F)) (L:l[k]?=some x) (S:Quiet M1 E o f) (q:Cons o f) (N:Rv o noB (.slice (List.map aC x.args) [] false) I) (A:ys.length=k*2)
  (z:∀ i p j c,(List.map aF (l.take k))[i]?=some p->p.cells[j]?=some c->∃ u,ys[i*2+j]?=some u/\Rv o noB c u)
  (r:d.ownsRow w.heap.size 41 2 (.slice (some ⟨g,0,none⟩) (k+1) a) (k+1) (ys++aKq x I))
  (blk:∀ b,b<f.heap.size->(Value.slice G k F).ownBlock≠some b->d.heap[b]?=f.heap[b]?) (O:(Value.slice G k F).ownBlock=some g∨f.heap.size<=g) (D:d.os=f.os) (H:d.tape=f.tape) (v:d.output=f.output) (C:f.heap.size<=d.heap.size) :
  TI M w o d l (k+1) (.slice (some ⟨g,0,none⟩) (k+1) a):=by
 have J:=m.frm.below.size;have s:∀ b,b<w.heap.size->d.heap[b]?=E.heap[b]?:=fun b t =>
  (blk b (by have:=S.size;omega) (fun e=>by have:=(m.own.lt b e).1;omega)).trans (S.old b (by omega)).1
 have n:(List.map aF (l.take k)).length=k:=by
  grind
 refine ⟨?_,?_,?_⟩
 ·have e:List.map aF (l.take (k+1))=List.map aF (l.take k)++[aF x]:=by rw [List.take_add_one,L,List.map_append];rfl
  rw [e];have h:=OwnL.add (M:=o) (M':=o) (w':=d) (es:=List.map aF (l.take k)) (p:=aF x) (ys:=ys) (us:=aKq x I) (B:=w.heap.size) (e:=41) (size:=2) (g:=g) (cap:=a) (by rw [n];exact A) z (fun p P=>by obtain ⟨y,_,rfl⟩:=List.mem_map.1 P;exact rR y) (rR x) (aBL N) (fun _ _ _ h=>h) (by rw [n];exact r) (fun i=>by
   rcases O with h | h;· rw [(S.old _ (m.own.lt g h).2).2];exact m.own.free g h i
   exact kS q h i)
  rw [n] at h;exact h
 ·refine iU q fun b t ⟨i,K⟩=>blk b t (fun e=>K ?_);rw [(S.old _ (m.own.lt b e).2).2];exact m.own.free b e i
 exact m.frm.trans ⟨S.mem,fun b t i=>(S.old b (by omega)).2 i,D.trans S.os,H.trans S.tape,v.trans S.output,Nat.le_trans S.size C,fun b t=>s b t⟩
noncomputable def e5C:Code:=inC (blA (aS Tryz.f36))
noncomputable def e3C:Code:=fstC (lopC (blkC (blA (aS Tryz.f36))))
noncomputable def e4C:Code:=sndC (sndC (lopC (blkC (blA (aS Tryz.f36)))))
theorem bCZ {M w} (B blk off N cap k:Nat) ga gc ys (x:GDir) a1 l1 p1 (m:Cons M w) (hkN:(k:Int)<N) (hk1:k<1073741824) (P:M blk (off+k*2)=some (.string ⟨x.name.toArray⟩)) (m1':M blk (off+k*2+1)=some (.slice a1 l1 p1)) (Z:Rv M noB (.slice (List.map aC x.args) [] false) (.slice a1 l1 p1)) (X:bkSl aX x.args<1073741824) (hB:B<=w.heap.size)
  (hown:w.ownsRow B 41 2 (.slice ga k gc) k ys) Q H E z v6 R J c v10 n O L D r A F t S G v s K f i v26
  (T:∀ w3 w4 l b1 m1 q1 g cap' z11 z12 z13 z14 z15 z16 z17 z18 z19 z20 z21 z22 z23 z24 z25,Quiet M w l w3->Cons l w3->Rv l noB (.slice (List.map aC x.args) [] false) (.slice b1 m1 q1)->w4.ownsRow B 41 2 (.slice (some ⟨g,0,none⟩) (k+1) cap') (k+1) (ys++[.string ⟨x.name.toArray⟩,.slice b1 m1 q1])->(∀ b,b<w3.heap.size->(Value.slice ga k gc).ownBlock≠some b->w4.heap[b]?=w3.heap[b]?)->((Value.slice ga k gc).ownBlock=some g∨w3.heap.size<=g)->w4.os=w3.os->w4.tape=w3.tape->w4.output=w3.output->w3.heap.size<=w4.heap.size->Q .normal ⟨#[.slice (some ⟨blk,off,none⟩) N cap,H,E,.slice (some ⟨g,0,none⟩) (k+1) cap',.int .i64 k,z,v6,R,J,c,v10,z11,z12,z13,z14,z15,z16,z17,z18,z19,z20,z21,z22,z23,z24,z25,v26],[]⟩ w4) :
  Code.wp Tryz.prog e5C Q ⟨#[.slice (some ⟨blk,off,none⟩) N cap,H,E,.slice ga k gc,.int .i64 k,z,v6,R,J,c,v10,n,O,L,D,r,A,F,t,S,G,v,s,K,f,i,v26],[]⟩ w:=by
 have c0:=kA m P;have c1:=kA m m1';obtain ⟨W,z0,hi,C,p,d,I⟩:=aEt Tryz.i41;have h103:=aHA x.args X (M:=M) (w:=w.drew) (.slice a1 l1 p1) (tG m) Z;have hqd:Quiet M w M w.drew:=⟨fun _ _ _ h=>h,fun _ _=>⟨rfl,fun _=>rfl⟩,Nat.le_refl _,rfl,rfl,rfl⟩;have hAll:Hid (∀ (M2:Mem) (w2:World),Cons M2 w2->Quiet M w.drew M2 w2->w2.cell? ⟨blk,off+k*2,none⟩=some (.string ⟨x.name.toArray⟩)/\w2.cell? ⟨blk,off+k*2+1,none⟩=some (.slice a1 l1 p1)/\w2.ownsRow B 41 2 (.slice ga k gc) k ys/\∀ o:Obj,B<=(w2.alloc o).heap.size):=by
  intro M2 w2 hc2 hq2;exact ⟨kA hc2 (hq2.mem _ _ _ P),kA hc2 (hq2.mem _ _ _ m1'),dT hown fun g Y=>(hq2.old g (hown.lt g Y).2).1,fun o=>by have h1:=hq2.size;have e:w.drew.heap.size=w.heap.size:=rfl;rw [e] at h1;simp;omega⟩
 have hfin:Hid (∀ (M2:Mem) (w2 w4:World) (b1:Option Addr) (m1 q1 g cap':Nat) z11 z12 z13 z14 z15 z16 z17 z18 z19 z20 z21 z22 z23 z24 z25,Quiet M w.drew M2 w2->Cons M2 w2->Rv M2 noB (.slice (List.map aC x.args) [] false) (.slice b1 m1 q1)->w4.ownsRow B 41 2 (.slice (some ⟨g,0,none⟩) (k+1) cap') (k+1) (ys++[.string ⟨x.name.toArray⟩,.slice b1 m1 q1])->(w2.alloc (.cells #[.string ⟨x.name.toArray⟩,.slice b1 m1 q1] 41)).grownBy w4 (Value.slice ga k gc).ownBlock->((Value.slice ga k gc).ownBlock=some g∨g=(w2.alloc (.cells #[.string ⟨x.name.toArray⟩,.slice b1 m1 q1] 41)).heap.size)->Q .normal ⟨#[.slice (some ⟨blk,off,none⟩) N cap,H,E,.slice (some ⟨g,0,none⟩) (k+1) cap',.int .i64 k,z,v6,R,J,c,v10,z11,z12,z13,z14,z15,z16,z17,z18,z19,z20,z21,z22,z23,z24,z25,v26],[]⟩ w4):=by
  intro M2 w2 w4 b1 m1 q1 g cap' z11 z12 z13 z14 z15 z16 z17 z18 z19 z20 z21 z22 z23 z24 z25 hq2 hc2 y own4 hgrow hat;have hsz:(w2.alloc (.cells #[.string ⟨x.name.toArray⟩,.slice b1 m1 q1] 41)).heap.size=w2.heap.size+1:=by simp
  refine T w2 w4 M2 b1 m1 q1 g cap' _ _ _ _ _ _ _ _ _ _ _ _ _ _ _ (hqd.trans hq2) hc2 y own4 ?_ ?_ hgrow.os hgrow.tape hgrow.output ?_;· intro b hb q;exact (hgrow.block b (by rw [hsz];omega) (fun e=>q e.symm)).trans (heap_alloc_old w2 _ hb)
  ·rcases hat with h | h;· exact .inl h
   right;rw [h,hsz];omega
  have:=hgrow.size;rw [hsz] at this;omega
 replace hqd:=(id hqd:Hid _);clear T hown P m1';unfold e5C;simp [Tryz.f36,aS,inC,blA,blkC,lopC,fstC,sndC];refine Code.wp_mono (Q:=Exit.then (Q .normal) (fun _ _ _=>False)) (fun e a w h=>by cases e<;>first | exact h | exact h.elim) ?_;go_region_law (first | (show (if Region.wanted {dst:=_,op:=Op.call {callee:=Callee.value (Operand.func 103),args:=_,argTypes:=_},type:=_,pos:=_,after:=_,guard:=_} _=true then _ else _);go_simp;go_at_call 103;refine h103.mono ?_;rintro e' w2 ⟨b1,m1,q1,M2,rfl,hv2,hc2,hq2⟩;obtain ⟨d0,d1,hown2,j⟩:=hAll.out M2 w2 hc2 hq2) | (refine step_append_lies _ rfl (.tmp 11) (.tmp 24) 36 rfl B 41 W _ 2 40 Tryz.u36 hi C p d I (by decide) (.slice ga k gc) k ys rfl (hown2.alloc _) ⟨w2.heap.size,0,none⟩ 1 1 [.string ⟨x.name.toArray⟩,.slice b1 m1 q1] rfl rfl (World.news_of_block (cs := #[.string ⟨x.name.toArray⟩,.slice b1 m1 q1]) (heap_alloc_new w2 _)) (by intro u U;simp [List.mem_cons] at U;rcases U with rfl | rfl<;>rfl) (by decide) (by unfold maxLen;omega) (by omega) (j _) _ rfl ?_;intro g cap2 w4 hown4 hgrow hat V));all_goals exact hfin.out M2 w2 w4 b1 m1 q1 g cap2 _ _ _ _ _ _ _ _ _ _ _ _ _ _ _ hq2 hc2 hv2 hown4 hgrow hat
set_option maxHeartbeats 4000000 in
theorem bAv (l:List GDir) (oa:Option Addr) (cap:Nat) (M:Mem) (w:World) (hN:l.length<1073741824) (hcap:l.length<=cap) (hsm:∀ x∈l,bkSl aX x.args<1073741824)
  (hat:l≠[]->∃ blk off,oa=some ⟨blk,off,none⟩) (hcell:∀ (blk off:Nat),oa=some ⟨blk,off,none⟩->∀ (k:Nat) (x:GDir),l[k]?=some x->∃ v1,Rv M noB (.slice (List.map aC x.args) [] false) v1/\∀ j v,(aKq x v1)[j]?=some v->M blk (off+k*2+j)=some v)
  (M0:Mem) (w0:World) (h0:TI M w M0 w0 l 0 (.slice none 0 0)) (Q:Exit->Act->World->Prop) (v1 v2 v4 v5 v6 v7 v8 v9 v10 v11 v12 v13 v14 v15 v16 v17 v18 v19 v20 v21 v22 v23 v24 v25 v26:Value)
  (hC:∀ (w':World) (M':Mem) (ga:Option Addr) (gc:Nat) (z4 z5 z6 z7 z8 z9 z10 z11 z12 z13 z14 z15 z16 z17 z18 z19 z20 z21 z22 z23 z24 z25:Value),TI M w M' w' l l.length (.slice ga l.length gc)->Q .normal ⟨#[.slice oa l.length cap,v1,v2,.slice ga l.length gc,z4,z5,z6,z7,z8,z9,z10,z11,z12,z13,z14,z15,z16,z17,z18,z19,z20,z21,z22,z23,z24,z25,v26],[]⟩ w') :
  Code.wp Tryz.prog (fstC (sndC (sndC (aS Tryz.f36)))) Q ⟨#[.slice oa l.length cap,v1,v2,.slice none 0 0,v4,v5,v6,v7,v8,v9,v10,v11,v12,v13,v14,v15,v16,v17,v18,v19,v20,v21,v22,v23,v24,v25,v26],[]⟩ w0:=by
 obtain ⟨N,hln⟩:∃ N,l.length=N:=⟨_,rfl⟩
 rw [hln] at hN hcap
 simp only [hln] at hC ⊢
 replace hC:=(id hC:Hid _)
 simp only [Tryz.f36,aS,fstC,sndC]
 go_wp2
 by_cases h0N:N=0
 ·subst h0N
  refine wp_loop_rounds 1 ?_;rw [rounds_succ];go_wp2
  exact hC.out _ _ _ _ _ _ _ _ _ _ _ _ _ _ _ _ _ _ _ _ _ _ _ _ _ _ h0
 obtain ⟨blk,off,rfl⟩:=hat (by intro e;rw [e] at hln;simp at hln;omega)
 go_loopw [3,4] (fun t3 t4 wr=>∃ (k:Nat) (M1:Mem) (ga:Option Addr) (gc:Nat),k<=N/\t4 = .int .i64 k/\t3 = .slice ga k gc/\TI M w M1 wr l k (.slice ga k gc)) (fun _ t4 _=>N-(intOf t4).toNat)
 case atStart=>exact ⟨0,M0,none,0,Nat.zero_le _,rfl,rfl,h0⟩
 case round =>
  obtain ⟨k,M1,ga,gc,hk,rfl,rfl,hD⟩:=hrel
  change Code.wp Tryz.prog (.seq e3C (.seq (.block 1 e5C) e4C)) _ _ _
  unfold e3C e4C
  simp only [Tryz.f36,aS,blA,blkC,lopC,fstC,sndC]
  go_wp2
  ·rename_i hkN K0 hK0
   have hxk:=List.getElem?_eq_getElem (l:=l) (i:=k) (by omega)
   obtain ⟨v1,h1,h2⟩:=hcell blk off rfl k _ hxk
   obtain ⟨a1,l1,p1,rfl⟩:=mB h1
   obtain ⟨ys,hown,hcl⟩:=hD.own.own
   have hlk:(List.map aF (l.take k)).length=k:=by
    rw [List.length_map,List.length_take]
    omega
   rw [hlk] at hown
   refine bCZ (M:=M1) w.heap.size blk off N cap k ga gc ys _ a1 l1 p1 hD.cons (by omega) (by omega) (hD.frm.mem _ _ _ (h2 0 _ rfl)) (hD.frm.mem _ _ _ (h2 1 _ rfl)) (h1.mono hD.frm.mem (fun _ _ _ h=>h)) (hsm _ (List.mem_of_getElem? hxk)) hD.frm.below.size hown _ _ _ _ _ _ _ _ _ _ _ _ _ _ _ _ _ _ _ _ _ _ _ _ _ (fun w3 w4 M3 b1 m1 q1 g cap' z11 z12 z13 z14 z15 z16 z17 z18 z19 z20 z21 z22 z23 z24 z25 hq3 hc3 hr3 own' hblk hg hos hta hou hsz4 => ?_)
   have hDn:=hD.next hxk hq3 hc3 hr3 hown.1 (fun i p j c e1 e2=>by
    obtain ⟨u,h3,h4⟩:=hcl i p j c e1 e2
    exact ⟨u,h3,h4.mono hq3.mem (fun _ _ _ h=>h)⟩) own' hblk hg hos hta hou hsz4
   replace hDn:=(id hDn:Hid _)
   refine hK0 _ _ ?_
   clear hblk own' hK0
   go_wp2
   go_roundw
   case rel=>exact ⟨k+1,M3,_,_,by omega,by go_num,rfl,hDn.out⟩
   case measure=>simp [intOf];omega
  ·rename_i K0 hK0 hkN
   have e:k=N:=by omega
   subst e
   exact hC.out _ _ _ _ _ _ _ _ _ _ _ _ _ _ _ _ _ _ _ _ _ _ _ _ _ _ hD
noncomputable def d0C:Code:=fstC (aS Tryz.f36)
noncomputable def d1C:Code:=fstC (sndC (aS Tryz.f36))
noncomputable def d2C:Code:=fstC (sndC (sndC (aS Tryz.f36)))
noncomputable def d3C:Code:=sndC (sndC (sndC (aS Tryz.f36)))
theorem bFY:Tryz.f36.body=some (.seq d0C (.seq d1C (.seq d2C d3C))):=by kernel_rfl
theorem bAw (l:List GDir) (hl:bkSl eZ l<1073741824) {M:Mem} {w:World} (v:Value) (hc:Cons M w) (hr:Rv M noB (.slice (List.map aF l) [] false) v) :
  Calls Tryz.prog 36 #[v] w fun e w'=>∃ a p M',e = .returned (.slice a l.length p)/\OwnL w.heap.size M' w' 41 2 (List.map aF l) (.slice a l.length p)/\Cons M' w'/\Quiet M w M' w':=by
 have hlen:=cK (f:=eZ) (fun x=>by rw [iG];omega) l
 have hsm:∀ x∈l,bkSl aX x.args<1073741824:=by
  intro x hx
  have h1:=eA (f:=eZ) hx
  rw [iG] at h1
  omega
 obtain ⟨oa,cap,rfl,hcap,hat,hcell⟩:=bAu hc hr
 have LA:=@bAv l oa cap M w (by omega) hcap hsm hat hcell M w ⟨OwnL.nil _ _ _ _ _,hc,From.refl _ _ _⟩
 replace LA:=(id LA:Hid _)
 clear hat hcell hsm
 refine calls_of_wp Tryz.func36 bFY ?_
 simp only [Tryz.ntmps36,List.size_toArray,List.length_cons,List.length_nil,Nat.reduceAdd,Nat.reduceSub,Array.replicate_succ,
   Array.replicate_zero,List.push_toArray,List.append_toArray,List.nil_append,List.cons_append]
 generalize hQ:bodyPost Tryz.prog Tryz.f36 _=Q
 replace hQ:=(id hQ:Hid _)
 unfold d0C d1C
 simp only [Tryz.f36,aS,fstC,sndC]
 go_wp2
 refine LA.out _ _ _ _ _ _ _ _ _ _ _ _ _ _ _ _ _ _ _ _ _ _ _ _ _ _ (fun w1 M1 ga gc z4 z5 z6 z7 z8 z9 z10 z11 z12 z13 z14 z15 z16 z17 z18 z19 z20 z21 z22 z23 z24 z25 hD => ?_)
 rename_i K0 hK0
 refine hK0 _ _ ?_
 have hOw:=hD.own
 rw [List.take_length] at hOw
 replace hOw:=(id hOw:Hid _)
 replace hD:=(id hD:Hid _)
 clear hK0 LA
 unfold d3C
 simp only [Tryz.f36,aS,sndC]
 show Code.wp _ _ _ _ _
 go_wp2
 rw [<- hQ.out]
 try simp only [Exit.inBlock,Exit.then]
 refine bodyPost_ret (results_tmp (by rfl) _ _ _) rfl ?_
 have hD:=hD.out
 exact ⟨ga,gc,M1,rfl,hOw.out,hD.cons,hD.frm.mem,fun b hb=>⟨hD.frm.below.block b hb,fun i=>hD.frm.old b hb i⟩,hD.frm.below.size,hD.frm.below.os,hD.frm.below.tape,hD.frm.below.output⟩
set_option maxHeartbeats 4000000 in
theorem bC0 {M:Mem} {w:World} (H:Nat) (x:GOp) (a2:Option Addr) (l2 p2:Nat) (a3:Option Addr) (l3 p3:Nat) (a4:Option Addr) (l4 p4:Nat) (hc:Cons M w) (hH:w.heap[H]?=some (.cells #[.int .i64 x.kind,.string ⟨x.name.toArray⟩,.slice a2 l2 p2,.slice a3 l3 p3,.slice a4 l4 p4] 38 (0,0))) (hf:∀ i,M H i=none) (hr:Rv M noB (.slice (List.map bC x.vars) [] false) (.slice a2 l2 p2)) (hl:x.vars.length<=1048576) (Q:Exit->Act->World->Prop) (v0 v1 v2 v3 v4 v6 v7 v8 v9 v10 v11 v12 v13 v14 v15 v16 v17 v18 v19 v20 v21 v22 v23 v24 v25 v26 v27 v28 v29 v30 v31 v32 v33 v34 v35 v36 v37 v38 v39 v40 v41 v42 v43 v44 v45 v46 v47 v48 v49 v50 v51 v52 v53 v54 v55 v56 v57 v58 v59 v60 v61 v62 v63 v64 v65:Value)
  (hC:∀ (w':World) (M':Mem) (b2:Option Addr) (m2 q2:Nat) (z21 z22 z23 z24:Value),Stp H M w M' w'->w'.heap[H]?=some (.cells #[.int .i64 x.kind,.string ⟨x.name.toArray⟩,.slice b2 m2 q2,.slice a3 l3 p3,.slice a4 l4 p4] 38 (0,0))->OwnL w.heap.size M' w' 54 10 (List.map bC x.vars) (.slice b2 m2 q2)->Q .normal ⟨#[v0,v1,v2,v3,v4,.pointer (some ⟨H,0,none⟩),v6,v7,v8,v9,v10,v11,v12,v13,v14,v15,v16,v17,v18,v19,v20,z21,z22,z23,z24,v25,v26,v27,v28,v29,v30,v31,v32,v33,v34,v35,v36,v37,v38,v39,v40,v41,v42,v43,v44,v45,v46,v47,v48,v49,v50,v51,v52,v53,v54,v55,v56,v57,v58,v59,v60,v61,v62,v63,v64,v65],[]⟩ w') :
  Code.wp Tryz.prog r6C Q ⟨#[v0,v1,v2,v3,v4,.pointer (some ⟨H,0,none⟩),v6,v7,v8,v9,v10,v11,v12,v13,v14,v15,v16,v17,v18,v19,v20,v21,v22,v23,v24,v25,v26,v27,v28,v29,v30,v31,v32,v33,v34,v35,v36,v37,v38,v39,v40,v41,v42,v43,v44,v45,v46,v47,v48,v49,v50,v51,v52,v53,v54,v55,v56,v57,v58,v59,v60,v61,v62,v63,v64,v65],[]⟩ w:=by
 have hHl:H<w.heap.size:=(Array.getElem?_eq_some_iff.1 hH).1
 obtain ⟨rfl,hnews⟩:=bCW hr
 have k2:w.cell? ⟨H,2,none⟩=some (.slice a2 x.vars.length p2):=by rw [cell_of_row w H _ _ _ _ hH];rfl
 have kf:w.frozen? ⟨H,2,none⟩=false:=frozen_of_row w H _ _ _ hH
 unfold r6C
 simp only [Tryz.f13,aS,inC,blA,blkC,lopC,fstC,sndC]
 replace hC:=(id hC:Hid _)
 by_cases h0:x.vars=[]
 ·have e0:x.vars.length=0:=by rw [h0];rfl
  rw [e0] at hr k2 hH
  have done:Hid (Stp H M w M (w.setCell ⟨H,2,none⟩ (.slice none 0 0))):=Stp.set hc hf 2 _
  have hrow:Hid ((w.setCell ⟨H,2,none⟩ (.slice none 0 0)).heap[H]?=_):=heap_setCell_same w H 2 _ _ (.slice none 0 0) hH
  have hnil:Hid (OwnL w.heap.size M (w.setCell ⟨H,2,none⟩ (.slice none 0 0)) 54 10 (List.map bC x.vars) (.slice none 0 0)):=by rw [h0];exact OwnL.nil _ _ _ _ _
  clear hnews
  cases a2 with
  | none =>
   go_wp2
   exact hC.out _ _ _ _ _ _ _ _ _ done hrow hnil
  | some a =>
   have hld:=bGI Tryz.prog a w
   go_wp2
   exact hC.out _ _ _ _ _ _ _ _ _ done hrow hnil
 ·obtain ⟨blk,off,news,rfl,hnl,hncell,hone,hnr⟩:=hnews h0
  obtain ⟨i0,z0,hi,hz0,hz1,hz2,hzc⟩:=aEt Tryz.i54
  have hpos:0<x.vars.length:=List.length_pos_iff.2 h0
  have hn:∀ j u,news[j]?=some u->w.cell? ((⟨blk,off,none⟩:Addr).add j)=some u:=fun j u hu=>by rw [addN];exact kA hc (hncell j u hu)
  replace hnr:=(id hnr:Hid _)
  replace hncell:=(id hncell:Hid _)
  go_wp2_with (at_builtin;refine wpList_append_lies _ rfl (.const (.slice none 0 0)) (.tmp 22) 35 rfl w.heap.size 54 i0 _ 10 136 Tryz.u35 hi hz0 hz1 hz2 hzc (by decide) (.slice none 0 0) 0 [] rfl (World.ownsRow_nil _ _ _ _) ⟨blk,off,none⟩ x.vars.length p2 news rfl hnl hn hone hpos (by simp [maxLen];omega) (by omega) (Nat.le_refl _) _ rfl ?_;intro g cap' w1 hown hgrow hat hlt;have e1:=hgrow.block H hHl (by simp [Value.ownBlock]);have k3:=(World.cell?_of_block (a:=⟨H,2,none⟩) e1).trans k2;have k4:=(World.frozen?_of_block (a:=⟨H,2,none⟩) e1).trans kf)
  have hgs:w.heap.size<=g:=by
   rcases hat with h | h
   ·simp [Value.ownBlock] at h
   ·omega
  have hc0:Cons M w1:=iU hc fun k hk _=>hgrow.block k hk (by simp [Value.ownBlock])
  have S1:Stp H M w M w1:=⟨fun _ _ _ h=>h,fun b hb _=>hgrow.block b hb (by simp [Value.ownBlock]),fun _ _ _=>rfl,hgrow.os,hgrow.tape,hgrow.output,hgrow.size,hc0⟩
  have S2:=S1.trans (Stp.set S1.cons (S1.free hHl hf) 2 (.slice (some ⟨g,0,none⟩) x.vars.length cap'))
  have hown2:w1.ownsRow w.heap.size 54 10 (.slice (some ⟨g,0,none⟩) x.vars.length cap') x.vars.length news:=by
   have e:0+x.vars.length=x.vars.length:=Nat.zero_add _
   rw [e,List.nil_append] at hown
   exact hown
  refine hC.out _ _ _ _ _ _ _ _ _ S2 (heap_setCell_same w1 H 2 _ _ _ (e1.trans hH)) ⟨⟨news,?_,fun i p j c h1 h2=>hnr.out i p j c h1 h2⟩,fun p hp=>by obtain ⟨y,_,rfl⟩:=List.mem_map.1 hp;exact bDH y,fun k hk i => ?_⟩
  ·rw [List.length_map]
   exact ownsRow_setCell_other hown2 (a:=⟨H,2,none⟩) (by simp only [Value.ownBlock,ne_eq,Option.some.injEq];omega) _
  ·have:k=g:=by simpa [Value.ownBlock] using hk.symm
   rw [this];exact kS hc hgs i
set_option maxHeartbeats 4000000 in
theorem bAx {M:Mem} {w:World} (H:Nat) (x:GOp) (a2:Option Addr) (l2 p2:Nat) (a3:Option Addr) (l3 p3:Nat) (a4:Option Addr) (l4 p4:Nat) (hc:Cons M w) (hH:w.heap[H]?=some (.cells #[.int .i64 x.kind,.string ⟨x.name.toArray⟩,.slice a2 l2 p2,.slice a3 l3 p3,.slice a4 l4 p4] 38 (0,0))) (hf:∀ i,M H i=none) (hr3:Rv M noB (.slice (List.map aF x.dirs) [] false) (.slice a3 l3 p3)) (hr4:Rv M noB (.slice (List.map aI x.sels) [] false) (.slice a4 l4 p4)) (hl3:bkSl eZ x.dirs<1073741824) (hl4:bT x.sels<1073741824) (Q:Exit->Act->World->Prop) (v0 v1 v2 v3 v4 v6 v7 v8 v9 v10 v11 v12 v13 v14 v15 v16 v17 v18 v19 v20 v21 v22 v23 v24 v25 v26 v27 v28 v29 v30 v31 v32 v33 v34 v35 v36 v37 v38 v39 v40 v41 v42 v43 v44 v45 v46 v47 v48 v49 v50 v51 v52 v53 v54 v55 v56 v57 v58 v59 v60 v61 v62 v63 v64 v65:Value)
  (hC:∀ (w':World) (M':Mem) (b3:Option Addr) (m3 q3:Nat) (b4:Option Addr) (m4 q4:Nat) (z25 z26 z27 z28 z29 z30 z31 z32:Value),Stp H M w M' w'->w'.heap[H]?=some (.cells #[.int .i64 x.kind,.string ⟨x.name.toArray⟩,.slice a2 l2 p2,.slice b3 m3 q3,.slice b4 m4 q4] 38 (0,0))->OwnL w.heap.size M' w' 41 2 (List.map aF x.dirs) (.slice b3 m3 q3)->OwnL w.heap.size M' w' 44 7 (List.map aI x.sels) (.slice b4 m4 q4)->(∀ g,(Value.slice b3 m3 q3).ownBlock=some g->(Value.slice b4 m4 q4).ownBlock≠some g)->Q .normal ⟨#[v0,v1,v2,v3,v4,.pointer (some ⟨H,0,none⟩),v6,v7,v8,v9,v10,v11,v12,v13,v14,v15,v16,v17,v18,v19,v20,v21,v22,v23,v24,z25,z26,z27,z28,z29,z30,z31,z32,v33,v34,v35,v36,v37,v38,v39,v40,v41,v42,v43,v44,v45,v46,v47,v48,v49,v50,v51,v52,v53,v54,v55,v56,v57,v58,v59,v60,v61,v62,v63,v64,v65],[]⟩ w') :
  Code.wp Tryz.prog r7C Q ⟨#[v0,v1,v2,v3,v4,.pointer (some ⟨H,0,none⟩),v6,v7,v8,v9,v10,v11,v12,v13,v14,v15,v16,v17,v18,v19,v20,v21,v22,v23,v24,v25,v26,v27,v28,v29,v30,v31,v32,v33,v34,v35,v36,v37,v38,v39,v40,v41,v42,v43,v44,v45,v46,v47,v48,v49,v50,v51,v52,v53,v54,v55,v56,v57,v58,v59,v60,v61,v62,v63,v64,v65],[]⟩ w:=by
 have hHl:H<w.heap.size:=(Array.getElem?_eq_some_iff.1 hH).1
 have k3:w.cell? ⟨H,3,none⟩=some (.slice a3 l3 p3):=by rw [cell_of_row w H _ _ _ _ hH];rfl
 have k4:w.cell? ⟨H,4,none⟩=some (.slice a4 l4 p4):=by rw [cell_of_row w H _ _ _ _ hH];rfl
 have fin:Hid (∀ (w2 w3:World) (M2 M3:Mem) (b3:Option Addr) (m3 q3:Nat) (b4:Option Addr) (m4 q4:Nat) (z25 z26 z27 z28 z29 z30 z31 z32:Value),Cons M2 w2->Quiet M w.drew M2 w2->Cons M3 w3->Quiet M2 w2 M3 w3->OwnL w.drew.heap.size M2 w2 41 2 (List.map aF x.dirs) (.slice b3 m3 q3)->OwnL w2.heap.size M3 w3 44 7 (List.map aI x.sels) (.slice b4 m4 q4)->Q .normal ⟨#[v0,v1,v2,v3,v4,.pointer (some ⟨H,0,none⟩),v6,v7,v8,v9,v10,v11,v12,v13,v14,v15,v16,v17,v18,v19,v20,v21,v22,v23,v24,z25,z26,z27,z28,z29,z30,z31,z32,v33,v34,v35,v36,v37,v38,v39,v40,v41,v42,v43,v44,v45,v46,v47,v48,v49,v50,v51,v52,v53,v54,v55,v56,v57,v58,v59,v60,v61,v62,v63,v64,v65],[]⟩ ((w3.setCell ⟨H,3,none⟩ (.slice b3 m3 q3)).setCell ⟨H,4,none⟩ (.slice b4 m4 q4))):=by
  intro w2 w3 M2 M3 b3 m3 q3 b4 m4 q4 z25 z26 z27 z28 z29 z30 z31 z32 hc2 hq2 hc3 hq3 h3 h4
  have S0:=((Stp.drew (H:=H) hc).trans (Stp.quiet hq2 hc2)).trans (Stp.quiet hq3 hc3)
  have S1:=S0.trans (Stp.set S0.cons (S0.free hHl hf) 3 (.slice b3 m3 q3))
  have S2:=S1.trans (Stp.set S1.cons (S1.free hHl hf) 4 (.slice b4 m4 q4))
  have e2:w3.heap[H]?=w.heap[H]?:=(hq3.old H (Nat.lt_of_lt_of_le hHl hq2.size)).1.trans (hq2.old H hHl).1
  have eB:∀ k,w.heap.size<=k->k≠H:=fun k hk=>by omega
  have hb2:∀ k,k≠H->((w3.setCell ⟨H,3,none⟩ (.slice b3 m3 q3)).setCell ⟨H,4,none⟩ (.slice b4 m4 q4)).heap[k]?=w3.heap[k]?:=fun k hk=>(Below.heap_setCell _ _ _ _ hk).trans (Below.heap_setCell _ _ _ _ hk)
  have hz:w.heap.size<=w2.heap.size:=hq2.size
  have k3:=(h3.quiet hq3).move (M':=M3) (w':=(w3.setCell ⟨H,3,none⟩ (.slice b3 m3 q3)).setCell ⟨H,4,none⟩ (.slice b4 m4 q4)) (fun _ _ _ h=>h) (fun k hk=>hb2 k (eB k (h3.lt k hk).1)) (fun _ _ _=>rfl)
  have k4:=(h4.le hz).move (M':=M3) (w':=(w3.setCell ⟨H,3,none⟩ (.slice b3 m3 q3)).setCell ⟨H,4,none⟩ (.slice b4 m4 q4)) (fun _ _ _ h=>h) (fun k hk=>hb2 k (eB k ((h4.le hz).lt k hk).1)) (fun _ _ _=>rfl)
  exact hC _ _ _ _ _ _ _ _ _ _ _ _ _ _ _ _ S2 (heap_setCell_same _ H 4 _ _ _ (heap_setCell_same _ H 3 _ _ _ (e2.trans hH))) k3 k4 (fun g hg hg'=>by have:=(h3.lt g hg).2;have:=(h4.lt g hg').1;omega)
 have h36:=bAw x.dirs hl3 (M:=M) (w:=w.drew) (.slice a3 l3 p3) (tG hc) hr3
 have h37:=fun (M2:Mem) (w2:World) (hc2:Cons M2 w2) (hq2:Quiet M w.drew M2 w2)=>bCY x.sels hl4 (M:=M2) (w:=w2) (.slice a4 l4 p4) hc2 (hr4.mono hq2.mem (fun _ _ _ h=>h))
 have hcl:Hid (∀ (M2:Mem) (w2:World),Quiet M w.drew M2 w2->w2.cell? ⟨H,4,none⟩=some (.slice a4 l4 p4)):=fun M2 w2 hq2=>(World.cell?_of_block (a:=⟨H,4,none⟩) (hq2.old H hHl).1).trans k4
 have hst:Hid (∀ (M2:Mem) (w2:World) (M3:Mem) (w3:World),Quiet M w.drew M2 w2->Quiet M2 w2 M3 w3->w3.cell? ⟨H,3,none⟩=some (.slice a3 l3 p3)/\w3.frozen? ⟨H,3,none⟩=false/\w3.cell? ⟨H,4,none⟩=some (.slice a4 l4 p4)/\w3.frozen? ⟨H,4,none⟩=false):=by
  intro M2 w2 M3 w3 hq2 hq3
  have e2:w3.heap[H]?=w.heap[H]?:=(hq3.old H (Nat.lt_of_lt_of_le hHl hq2.size)).1.trans (hq2.old H hHl).1
  exact ⟨(World.cell?_of_block (a:=⟨H,3,none⟩) e2).trans k3,frozen_of_row _ _ _ _ _ (e2.trans hH),(World.cell?_of_block (a:=⟨H,4,none⟩) e2).trans k4,frozen_of_row _ _ _ _ _ (e2.trans hH)⟩
 replace h37:=(id h37:Hid _)
 clear hC hH
 refine Code.wp_mono (Q:=Exit.then (Q .normal) (fun _ _ _=>False)) (fun e a w h=>by cases e<;>first | exact h | exact h.elim) ?_
 unfold r7C
 simp only [Tryz.f13,aS,inC,blA,blB,blkC,lopC,fstC,sndC]
 go_wp2
 go_region_with (first | (go_at_call 36;refine h36.mono ?_;rintro e' w2 ⟨b3,q3,M2,rfl,hv3,hc2,hq2⟩;have j4:=hcl.out M2 w2 hq2) | (go_at_call 37;have h37b:=h37.out M2 w2 hc2 hq2;refine h37b.mono ?_;rintro e' w3 ⟨b4,q4,M3,rfl,hv4,hc3,hq3⟩;obtain ⟨i1,i2,i3,i4⟩:=hst.out M2 w2 M3 w3 hq2 hq3))
 all_goals exact fin.out w2 w3 M2 M3 b3 x.dirs.length q3 b4 x.sels.length q4 _ _ _ _ _ _ _ _ hc2 hq2 hc3 hq3 hv3 hv4
end Go.Proofs.YtphmfillajagdaaGreat

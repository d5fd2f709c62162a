import Derived.Test.YtphmfillajagdaaGreatWc
import Derived.Test.YtphmfillajagdaaGreatWb
set_option linter.unusedVariables false
set_option linter.unusedSimpArgs false
set_option linter.unusedSimpArgs false
open Go Go.Ev Go.RowKit
namespace Go.Proofs.YtphmfillajagdaaGreat
def Dj (u v:Value):Prop:=∀ g,u.ownBlock=some g->v.ownBlock≠some g
structure MO (B:Nat) (M:Mem) (w:World) (x:GOp) (u2 u3 u4:Value):Prop where
 o2:OwnL B M w 54 10 (List.map bC x.vars) u2
 o3:OwnL B M w 41 2 (List.map aF x.dirs) u3
 o4:OwnL B M w 44 7 (List.map aI x.sels) u4
 n23:Dj u2 u3
 n24:Dj u2 u4
 n34:Dj u3 u4
def Own3 (u2 u3 u4:Value) (k:Nat):Prop:=u2.ownBlock=some k∨u3.ownBlock=some k∨u4.ownBlock=some k
theorem MO.lt {B:Nat} {M:Mem} {w:World} {x:GOp} {u2 u3 u4:Value} (h:MO B M w x u2 u3 u4):∀ k,Own3 u2 u3 u4 k->B<=k/\k<w.heap.size:=by
 rintro k (e | e | e)
 ·exact h.o2.lt k e
 ·exact h.o3.lt k e
 ·exact h.o4.lt k e
theorem MO.le {B B':Nat} {M:Mem} {w:World} {x:GOp} {u2 u3 u4:Value} (h:MO B M w x u2 u3 u4) (hB:B'<=B):MO B' M w x u2 u3 u4:=⟨h.o2.le hB,h.o3.le hB,h.o4.le hB,h.n23,h.n24,h.n34⟩
theorem MO.move {B:Nat} {M M':Mem} {w w':World} {x:GOp} {u2 u3 u4:Value} (h:MO B M w x u2 u3 u4) (hM:∀ b i v,M b i=some v->M' b i=some v) (hb:∀ k,Own3 u2 u3 u4 k->w'.heap[k]?=w.heap[k]?) (hf:∀ k,Own3 u2 u3 u4 k->∀ i,M' k i=M k i):MO B M' w' x u2 u3 u4 :=
 ⟨h.o2.move hM (fun k e=>hb k (.inl e)) (fun k e=>hf k (.inl e)),h.o3.move hM (fun k e=>hb k (.inr (.inl e))) (fun k e=>hf k (.inr (.inl e))),h.o4.move hM (fun k e=>hb k (.inr (.inr e))) (fun k e=>hf k (.inr (.inr e))),h.n23,h.n24,h.n34⟩
theorem MO.frz {B:Nat} {M:Mem} {w:World} {x:GOp} {u2 u3 u4:Value} (h:MO B M w x u2 u3 u4) (hc:Cons M w):∃ M',(∀ b i v,M b i=some v->M' b i=some v)/\Cons M' w/\OCV M' x u2 u3 u4/\∀ b,¬ Own3 u2 u3 u4 b->∀ i,M' b i=M b i:=by
 have c1:=wR (v:=u2) hc
 have m1:=tF (v:=u2) hc
 have c2:=wR (v:=u3) c1
 have m2:=tF (v:=u3) c1
 have c3:=wR (v:=u4) c2
 have m3:=tF (v:=u4) c2
 have r2:=h.o2.rv hc
 have o3:=h.o3.move (w':=w) m1 (fun _ _=>rfl) (fun k hk i=>jA (fun e=>h.n23 k e hk) i)
 have r3:=o3.rv c1
 have o4:=(h.o4.move (w':=w) m1 (fun _ _=>rfl) (fun k hk i=>jA (fun e=>h.n24 k e hk) i)).move (w':=w) m2 (fun _ _=>rfl) (fun k hk i=>jA (fun e=>h.n34 k e hk) i)
 have r4:=o4.rv c2
 refine ⟨frzV u4 (frzV u3 (frzV u2 M w) w) w,fun b i v hv=>m3 b i v (m2 b i v (m1 b i v hv)),c3,⟨(r2.mono m2 (fun _ _ _ h=>h)).mono m3 (fun _ _ _ h=>h),r3.mono m3 (fun _ _ _ h=>h),r4⟩,fun b hb i => ?_⟩
 rw [jA (fun e=>hb (.inr (.inr e))),jA (fun e=>hb (.inr (.inl e))),jA (fun e=>hb (.inl e))]
def aCG (M:Mem) (m:Nat) (u2 u3 u4:Value) (l:List GOp) (ys:List Value):Prop :=
 ys.length=l.length*5/\∀ (i:Nat) (x:GOp),l[i]?=some x->∃ v2 v3 v4,((i=m/\v2=u2/\v3=u3/\v4=u4)∨(i≠m/\OCV M x v2 v3 v4))/\∀ (j:Nat) (u:Value),(aBK x v2 v3 v4)[j]?=some u->ys[i*5+j]?=some u
theorem aCG.nil (M:Mem) (m:Nat) (u2 u3 u4:Value):aCG M m u2 u3 u4 [] []:=⟨rfl,fun i x h=>by simp at h⟩
theorem aCG.mono {M M':Mem} {m:Nat} {u2 u3 u4:Value} {l:List GOp} {ys:List Value} (h:aCG M m u2 u3 u4 l ys) (hM:∀ b i v,M b i=some v->M' b i=some v):aCG M' m u2 u3 u4 l ys :=
 ⟨h.1,fun i x hx=>by
  obtain ⟨v2,v3,v4,h1,h2⟩:=h.2 i x hx
  exact ⟨v2,v3,v4,h1.imp id (fun h=>⟨h.1,h.2.mono hM⟩),h2⟩⟩
theorem aCG.early {M:Mem} {m:Nat} {u2 u3 u4 v2 v3 v4:Value} {l:List GOp} {ys:List Value} (h:aCG M m u2 u3 u4 l ys) (hm:l.length<=m):aCG M m v2 v3 v4 l ys :=
 ⟨h.1,fun i x hx=>by
  obtain ⟨a,b,c,h1,h2⟩:=h.2 i x hx
  have hi:=(List.getElem?_eq_some_iff.1 hx).1
  exact ⟨a,b,c,.inr (h1.elim (fun e=>absurd e.1 (by omega)) id),h2⟩⟩
theorem aCG.snoc {M:Mem} {m:Nat} {u2 u3 u4:Value} {l:List GOp} {ys:List Value} {x:GOp} {v2 v3 v4:Value} (h:aCG M m u2 u3 u4 l ys) (hc:(l.length=m/\v2=u2/\v3=u3/\v4=u4)∨(l.length≠m/\OCV M x v2 v3 v4)):aCG M m u2 u3 u4 (l++[x]) (ys++aBK x v2 v3 v4):=by
 have hyl:=h.1
 refine ⟨by simp only [List.length_append,hyl,List.length_cons,List.length_nil];omega,fun i x' hi => ?_⟩
 rcases Nat.lt_or_ge i l.length with hlt | hge
 ·rw [List.getElem?_append_left hlt] at hi
  obtain ⟨a,b,c,h1,h2⟩:=h.2 i x' hi
  refine ⟨a,b,c,h1,fun j u hu => ?_⟩
  have hj:j<5:=by have:=(List.getElem?_eq_some_iff.1 hu).1;simpa using this
  rw [List.getElem?_append_left (by omega)];exact h2 j u hu
 ·rw [List.getElem?_append_right hge] at hi
  have h0:i-l.length=0:=by
   rcases Nat.eq_zero_or_pos (i-l.length) with h0 | h0
   ·exact h0
   ·rw [List.getElem?_eq_none (by simp;omega)] at hi;cases hi
  rw [h0] at hi
  cases hi
  have hil:i=l.length:=by omega
  refine ⟨v2,v3,v4,by rw [hil];exact hc,fun j u hu => ?_⟩
  rw [List.getElem?_append_right (by omega),show i*5+j-ys.length=j by omega]
  exact hu
open Go Go.Ev Go.RowKit
structure DM (m:Nat) (M:Mem) (w:World) (M1:Mem) (wr:World) (k:Nat) (ops:List GOp) (a' b' vo:Value) (ys:List Value) (u2 u3 u4:Value):Prop where
 box1:wr.heap[w.heap.size]?=some (.cells #[a',b'] 28 (0,0))
 box2:wr.heap[w.heap.size+1]?=some (.cells #[.slice none 0 0,.slice none 0 0] 28 (0,0))
 out:wr.heap[w.heap.size+2]?=some (.cells #[vo,.slice none 0 0] 28 (0,0))
 own:wr.ownsRow (w.heap.size+3) 38 5 vo k ys
 rows:aCG M1 m u2 u3 u4 (ops.take k) ys
 cons:Cons M1 wr
 frm:From w.heap.size M w M1 wr
 f1:∀ i,M1 (w.heap.size+1) i=none
 f2:∀ i,M1 (w.heap.size+2) i=none
 fo:∀ g,vo.ownBlock=some g->∀ i,M1 g i=none
 mrk:∀ x,m<k->ops[m]?=some x->MO (w.heap.size+3) M1 wr x u2 u3 u4/\∀ g,Own3 u2 u3 u4 g->vo.ownBlock≠some g
theorem DM.next {m M M1 P w C p n k j X b' D v3 v4 V O g l ys Y W u4 x} (c:DM m M w M1 C k j X b' (.slice V k O) ys Y W u4) (N:j[k]?=some x) (S:Stp C.heap.size M1 C P p) (I:MO (C.heap.size+1) P p x D v3 v4)
  (r:n.ownsRow (w.heap.size+3) 38 5 (.slice (some ⟨g,0,none⟩) (k+1) l) (k+1) (ys++aBK x D v3 v4)) (s:n.heap[w.heap.size+2]?=some (.cells #[.slice (some ⟨g,0,none⟩) (k+1) l,.slice none 0 0] 28 (0,0)))
  (blk:∀ b,b<p.heap.size->b≠w.heap.size+2->(Value.slice V k O).ownBlock≠some b->n.heap[b]?=p.heap[b]?) (K:(Value.slice V k O).ownBlock=some g∨p.heap.size<=g) (z:n.os=p.os) (G:n.tape=p.tape) (y:n.output=p.output) (F:p.heap.size<=n.heap.size) :
  ∃ L t2 t3 t4,DM m M w L n (k+1) j X b' (.slice (some ⟨g,0,none⟩) (k+1) l) (ys++aBK x D v3 v4) t2 t3 t4:=by
 have U  := (Array.getElem?_eq_some_iff.1 c.out).1;have hS:=S.size;have d:∀ b,b<w.heap.size+2->n.heap[b]?=C.heap[b]?:=fun b a =>
  (blk b (by omega) (by omega) (fun e=>by have:=(c.own.lt b e).1;omega)).trans (S.blk b (by omega) (by omega))
 have hlk:(j.take k).length=k:=by
  rw [List.length_take];have:=(List.getElem?_eq_some_iff.1 N).1;omega
 have E:j.take (k+1)=j.take k++[x]:=by rw [List.take_add_one,N];rfl
 have Z  := iU S.cons fun b a ⟨i,hi⟩=>blk b a (fun e=>hi (by rw [e,S.old _ U];exact c.f2 i)) (fun e=>hi (by rw [S.old _ (c.own.lt b e).2];exact c.fo b e i));have T  := fun b a=>by
  have:=I.lt b a;exact blk b this.2 (by omega) (fun e=>by have:=(c.own.lt b e).2;omega)
 have A  := I.move (fun _ _ _ h=>h) T (fun _ _ _=>rfl);have B:∀ b,Own3 D v3 v4 b->b≠g:=fun b a e=>by
  have J:=I.lt b a;rcases K with h | h;· have:=(c.own.lt g h).2;omega
  omega
 by_cases R:k=m
 ·refine ⟨P,D,v3,v4,(d _ (by omega)).trans c.box1,(d _ (by omega)).trans c.box2,s,r,?_,Z,?_,?_,?_,?_,?_⟩;· rw [E];exact ((c.rows.mono S.mem).early (by omega)).snoc (by grind)
  ·exact c.frm.trans ⟨S.mem,fun b a i=>S.old b (by omega) i,z.trans S.os,G.trans S.tape,y.trans S.output,Nat.le_trans S.size F,fun b a=>d b (by omega)⟩
  ·intro i;rw [S.old _ (by omega)];exact c.f1 i
  ·intro i;rw [S.old _ U];exact c.f2 i
  ·intro b a i;have e  := by simpa [Value.ownBlock] using a.symm
   subst e;rcases K with h | h;· rw [S.old _ (c.own.lt b h).2];exact c.fo b h i
   exact kS S.cons h i
  intro x' _ o;rw [<- R,N] at o;cases o;exact ⟨A.le (by omega),fun b a e=>B b a (by simpa [Value.ownBlock] using e.symm)⟩
 obtain ⟨L,t,c5,Q,H⟩:=A.frz Z;have f  := fun b a i=>(H b (fun h=>by have:=(I.lt b h).1;omega) i).trans (S.old b a i);refine ⟨L,Y,W,u4,(d _ (by omega)).trans c.box1,(d _ (by omega)).trans c.box2,s,r,?_,c5,?_,?_,?_,?_,?_⟩;· rw [E];exact ((c.rows.mono S.mem).mono t).snoc (.inr ⟨by omega,Q⟩)
 ·exact c.frm.trans ⟨fun b i v hv=>t b i v (S.mem b i v hv),fun b a i=>f b (by omega) i,z.trans S.os,G.trans S.tape,y.trans S.output,Nat.le_trans S.size F,fun b a=>d b (by omega)⟩
 ·intro i;rw [f _ (by omega)];exact c.f1 i
 ·intro i;rw [f _ U];exact c.f2 i
 ·intro b a i;have e  := by simpa [Value.ownBlock] using a.symm
  subst e;rcases K with h | h;· rw [f _ (c.own.lt b h).2];exact c.fo b h i
  rw [H b (fun h'=>B b h' rfl)];exact kS S.cons h i
 intro x' hmk o;obtain ⟨J,h2⟩:=c.mrk x' (by omega) o;have u  := fun b a=>(J.lt b a).2;refine ⟨J.move (fun b i v hv=>t b i v (S.mem b i v hv)) (fun b a => ?_) (fun b a=>f b (u b a)),fun b a e => ?_⟩;· have q:=u b a;exact (blk b (by omega) (by have:=(J.lt b a).1;omega) (h2 b a)).trans (S.blk b q (by omega))
 have e  := by simpa [Value.ownBlock] using e
 have q:=u b a;rcases K with h | h;· exact by grind
 omega
theorem bAy m ops oa cap b' M w (hN:ops.length<=1048576) (hcap:ops.length<=cap) (hsm:∀ x∈ops,x.vars.length<=1048576/\bkSl eZ x.dirs<1073741824/\bT x.sels<1073741824)
  (hat:ops≠[]->∃ blk off,oa=some ⟨blk,off,none⟩) (hcell:∀ blk off,oa=some ⟨blk,off,none⟩->∀ k x,ops[k]?=some x->∃ v2 v3 v4,OCV M x v2 v3 v4/\∀ j v,(aBK x v2 v3 v4)[j]?=some v->M blk (off+k*5+j)=some v)
  M0 w0 (h0:DM m M w M0 w0 0 ops (.slice oa ops.length cap) b' (.slice none 0 0) [] undef undef undef) Q v0 v2 v4 v5 v6 v7 v8 v9 v10 o K v13 E r v16 v17 v18 v19 v20 v21 Y G c R U p F s n J B y f I b C v38 v39 v40 v41 v42 v43 v44 v45 v46 v47 v48 v49 v50 v51 v52 v53 v54 v55 v56 v57 v58 v59 v60 v61 v62 v63 v64 v65
  (hC:∀ w' M' ga gc ys u2 u3 u4 z4 z5 z9 u z11 D P a O z A Z V z20 z21 z22 z23 z24 z25 z26 z27 z28 z29 z30 z31 z32 z33 z34 z35 z36 z37 z38,DM m M w M' w' ops.length ops (.slice oa ops.length cap) b' (.slice ga ops.length gc) ys u2 u3 u4->Q .normal ⟨#[v0,.pointer (some ⟨w.heap.size,0,none⟩),v2,.pointer (some ⟨w.heap.size+1+1,0,none⟩),z4,z5,v6,v7,v8,z9,u,z11,D,P,a,O,z,A,Z,V,z20,z21,z22,z23,z24,z25,z26,z27,z28,z29,z30,z31,z32,z33,z34,z35,z36,z37,z38,v39,v40,v41,v42,v43,v44,v45,v46,v47,v48,v49,v50,v51,v52,v53,v54,v55,v56,v57,v58,v59,v60,v61,v62,v63,v64,v65],[]⟩ w') :
  Code.wp Tryz.prog (fstC (sndC (sndC (aS Tryz.f13)))) Q ⟨#[v0,.pointer (some ⟨w.heap.size,0,none⟩),v2,.pointer (some ⟨w.heap.size+1+1,0,none⟩),v4,v5,v6,v7,v8,v9,v10,o,K,v13,E,r,v16,v17,v18,v19,v20,v21,Y,G,c,R,U,p,F,s,n,J,B,y,f,I,b,C,v38,v39,v40,v41,v42,v43,v44,v45,v46,v47,v48,v49,v50,v51,v52,v53,v54,v55,v56,v57,v58,v59,v60,v61,v62,v63,v64,v65],[]⟩ w0:=by
 obtain ⟨N,hln⟩:∃ N,ops.length=N:=⟨_,rfl⟩;rw [hln] at hN hcap;simp [hln] at hC h0;replace hC:=(id hC:Hid _);have hb0:w0.cell? ⟨w.heap.size,0,none⟩=some (.slice oa N cap):=by rw [cell_of_row w0 _ 0 _ _ _ h0.box1];rfl
 simp [Tryz.f13,aS,inC,blA,blB,blkC,lopC,fstC,sndC];go_wp2;by_cases h0N:N=0;· subst h0N;refine wp_loop_rounds 1 ?_;rw [rounds_succ];go_wp2;exact hC.out _ _ _ _ _ _ _ _ _ _ _ _ _ _ _ _ _ _ _ _ _ _ _ _ _ _ _ _ _ _ _ _ _ _ _ _ _ _ _ _ h0
 obtain ⟨blk,off,rfl⟩:=hat (by intro e;rw [e] at hln;simp at hln;omega);go_loopw [4] (fun t4 wr=>∃ (k:Nat) (M1:Mem) (vo:Value) (ys:List Value) (u2 u3 u4:Value),k<=N/\t4 = .int .i64 k/\DM m M w M1 wr k ops (.slice (some ⟨blk,off,none⟩) N cap) b' vo ys u2 u3 u4) (fun t4 _=>N-(intOf t4).toNat);case atStart=>exact ⟨0,M0,_,[],_,_,_,Nat.zero_le _,rfl,h0⟩
 case round =>
  obtain ⟨k,M1,vo,ys,u2,u3,u4,hk,rfl,hD⟩:=hrel;have hb1:wr.cell? ⟨w.heap.size,0,none⟩=some (.slice (some ⟨blk,off,none⟩) N cap):=by rw [cell_of_row wr _ 0 _ _ _ hD.box1];rfl
  obtain ⟨x,a2,l2,p2,a3,l3,p3,a4,l4,p4,hx⟩:∃ x a2 l2 p2 a3 l3 p3 a4 l4 p4,k<N->ops[k]?=some x/\OCV M1 x (.slice a2 l2 p2) (.slice a3 l3 p3) (.slice a4 l4 p4)/\(∀ j v,(aBK x (.slice a2 l2 p2) (.slice a3 l3 p3) (.slice a4 l4 p4))[j]?=some v->wr.cell? ⟨blk,off+k*5+j,none⟩=some v):=by
   by_cases hkN:k<N;· have hg:=List.getElem?_eq_getElem (l:=ops) (i:=k) (by omega);obtain ⟨v2,v3,v4,h1,h2⟩:=hcell blk off rfl k _ hg;obtain ⟨a2,l2,p2,rfl⟩:=mB h1.r2;obtain ⟨a3,l3,p3,rfl⟩:=mB h1.r3;obtain ⟨a4,l4,p4,rfl⟩:=mB h1.r4;exact ⟨_,a2,l2,p2,a3,l3,p3,a4,l4,p4,fun _=>⟨hg,h1.mono hD.frm.mem,fun j v hv=>kA hD.cons (hD.frm.mem _ _ _ (h2 j v hv))⟩⟩
   exact ⟨⟨0,[],[],[],[]⟩,none,0,0,none,0,0,none,0,0,fun h=>absurd h hkN⟩
  have x0:k<N->wr.cell? ⟨blk,off+k*5,none⟩=some (.int .i64 x.kind):=fun h=>(hx h).2.2 0 _ rfl;have x1:k<N->wr.cell? ⟨blk,off+k*5+1,none⟩=some (.string ⟨x.name.toArray⟩):=fun h=>(hx h).2.2 1 _ rfl;have x2:k<N->wr.cell? ⟨blk,off+k*5+2,none⟩=some (.slice a2 l2 p2):=fun h=>(hx h).2.2 2 _ rfl;have x3:k<N->wr.cell? ⟨blk,off+k*5+3,none⟩=some (.slice a3 l3 p3):=fun h=>(hx h).2.2 3 _ rfl;have x4:k<N->wr.cell? ⟨blk,off+k*5+4,none⟩=some (.slice a4 l4 p4):=fun h=>(hx h).2.2 4 _ rfl;have hsz:w.heap.size+3<=wr.heap.size:=by have:=(Array.getElem?_eq_some_iff.1 hD.out).1;omega
  replace hx:=(id hx:Hid _);change Code.wp Tryz.prog (.seq cAC (.seq (.block 1 (.seq r5C (.seq r6C (.seq r7C r8C)))) r4C)) _ _ _;unfold cAC r4C r5C;simp only [Tryz.f13,aS,inC,blA,blB,blkC,lopC,fstC,sndC];go_wp2
  ·rename_i hkN K1 hK1 K0 hK0;obtain ⟨hxk,hcv,_⟩:=hx.out hkN;obtain ⟨s1,s2,s3⟩:=hsm x (List.mem_of_getElem? hxk);obtain ⟨ga,gc,rfl⟩:=zO hD.own;refine bC0 (M:=M1) wr.heap.size x a2 l2 p2 a3 l3 p3 a4 l4 p4 (Stp.alloc (H:=0) hD.cons _).cons (heap_alloc_new wr _) (fun i=>kS hD.cons (Nat.le_refl _) i) hcv.r2 s1 _ _ _ _ _ _ _ _ _ _ _ _ _ _ _ _ _ _ _ _ _ _ _ _ _ _ _ _ _ _ _ _ _ _ _ _ _ _ _ _ _ _ _ _ _ _ _ _ _ _ _ _ _ _ _ _ _ _ _ _ _ _ _ _ _ _ (fun w2 M2 b2 X W z21 z22 z23 z24 S2 hH2 hr2 => ?_);refine hK0 _ _ ?_;refine wp_seq ?_;refine bAx (M:=M2) wr.heap.size x b2 X W a3 l3 p3 a4 l4 p4 S2.cons hH2 (S2.free (by simp) (fun i=>kS hD.cons (Nat.le_refl _) i)) (hcv.r3.mono S2.mem (fun _ _ _ h=>h)) (hcv.r4.mono S2.mem (fun _ _ _ h=>h)) s2 s3 _ _ _ _ _ _ _ _ _ _ _ _ _ _ _ _ _ _ _ _ _ _ _ _ _ _ _ _ _ _ _ _ _ _ _ _ _ _ _ _ _ _ _ _ _ _ _ _ _ _ _ _ _ _ _ _ _ _ _ _ _ _ _ _ _ _ (fun w3 M3 b3 m3 q3 b4 m4 q4 z25 z26 z27 z28 z29 z30 z31 z32 S3 q hr3 hr4 hr34 => ?_);have S:=((Stp.alloc (H:=wr.heap.size) hD.cons _).trans S2).trans S3;have t:w3.heap[w.heap.size+1+1]?=some (.cells #[.slice ga k gc,.slice none 0 0] 28 (0,0)):=(S.blk _ (by omega) (by omega)).trans hD.out;have hown3  := dT hD.own fun g hg=>S.blk g (hD.own.lt g hg).2 (by have:=(hD.own.lt g hg).2;omega);refine bFV wr.heap.size (w.heap.size+1+1) (w.heap.size+3) x b2 X W b3 m3 q3 b4 m4 q4 ga k gc ys _ q t hown3 (by omega) (by have:=S.size;omega) (by omega) _ _ _ _ _ _ _ _ _ _ _ _ _ _ _ _ _ _ _ _ _ _ _ _ _ _ _ _ _ _ _ _ _ _ _ _ _ _ _ _ _ _ _ _ _ _ _ _ _ _ _ _ _ _ _ _ _ _ _ _ _ _ _ _ _ (fun w4 g cap' z33 z34 z35 z36 z37 z38 own' out' hblk hg T L hou hsz4 => ?_);have e1:(wr.alloc (.cells #[.int .i64 x.kind,.string ⟨x.name.toArray⟩,.slice a2 l2 p2,.slice a3 l3 p3,.slice a4 l4 p4] 38)).heap.size=wr.heap.size+1:=by simp
   have hs2:=S2.size;have o2:=(hr2.stp S3 (fun e=>by have:=(hr2.lt _ e).1;omega)).le (B':=wr.heap.size+1) (by omega);have d:MO (wr.heap.size+1) M3 w3 x (.slice b2 X W) (.slice b3 m3 q3) (.slice b4 m4 q4):=⟨o2,hr3.le (by omega),hr4.le (by omega),fun g hg hg'=>by have:=(hr2.lt g hg).2;have:=(hr3.lt g hg').1;omega,fun g hg hg'=>by have:=(hr2.lt g hg).2;have:=(hr4.lt g hg').1;omega,hr34⟩;obtain ⟨M4,t2,t3,t4,hDn⟩:=hD.next hxk S d own' out' hblk hg T L hou hsz4;replace hDn:=(id hDn:Hid _);refine hK1 _ _ ?_;clear hblk own' out' hK0 hK1;go_wp2;go_roundw;case rel=>exact ⟨k+1,M4,_,_,_,_,_,by omega,by go_num,hDn.out⟩
   case measure=>simp [intOf];omega
  rename_i K0 hK0 hkN;have e:k=N:=by omega
  subst e;obtain ⟨ga,gc,rfl⟩:=zO hD.own;exact hC.out _ _ _ _ _ _ _ _ _ _ _ _ _ _ _ _ _ _ _ _ _ _ _ _ _ _ _ _ _ _ _ _ _ _ _ _ _ _ _ _ hD
noncomputable def cBCm:Code:=fstC (lopC (blkC (blB (aS Tryz.f13))))
noncomputable def bFZ:Code:=fstC (inC (blB (aS Tryz.f13)))
noncomputable def bF0:Code:=sndC (sndC (lopC (blkC (blB (aS Tryz.f13)))))
structure DG (m:Nat) (u2 u3 u4:Value) (M:Mem) (w:World) (M1:Mem) (wr:World) (k:Nat) (ops:List GOp) (frags:List GFrag) (a' b' va:Value) (ys:List Value) (vf:Value) (zs:List Value):Prop where
 box1:wr.heap[w.heap.size]?=some (.cells #[a',b'] 28 (0,0))
 box2:wr.heap[w.heap.size+1]?=some (.cells #[.slice none 0 0,.slice none 0 0] 28 (0,0))
 out:wr.heap[w.heap.size+2]?=some (.cells #[va,vf] 28 (0,0))
 ownA:wr.ownsRow (w.heap.size+3) 38 5 va ops.length ys
 own:wr.ownsRow (w.heap.size+3) 68 4 vf k zs
 rowsA:aCG M1 m u2 u3 u4 ops ys
 rows:FrRow M1 (frags.take k) zs
 cons:Cons M1 wr
 frm:From w.heap.size M w M1 wr
 f1:∀ i,M1 (w.heap.size+1) i=none
 f2:∀ i,M1 (w.heap.size+2) i=none
 foA:∀ g,va.ownBlock=some g->∀ i,M1 g i=none
 fo:∀ g,vf.ownBlock=some g->∀ i,M1 g i=none
 ne:∀ g,va.ownBlock=some g->vf.ownBlock≠some g
 mrk:∀ x,ops[m]?=some x->MO (w.heap.size+3) M1 wr x u2 u3 u4/\∀ g,Own3 u2 u3 u4 g->va.ownBlock≠some g/\vf.ownBlock≠some g
theorem DM.toG {m e d f M M1 w k a frags j b' i ys} (h:DM m M w M1 k a.length a j b' i ys e d f):DG m e d f M w M1 k 0 a frags j b' i ys (.slice none 0 0) [] :=
 ⟨h.box1,h.box2,h.out,h.own,World.ownsRow_nil _ _ _ _,by have:=h.rows;grind,.nil,h.cons,h.frm,h.f1,h.f2,h.fo,fun g b=>by simp [Value.ownBlock] at b,fun g b=>by simp [Value.ownBlock],fun x c=>by
  obtain ⟨n,l⟩:=h.mrk x (List.getElem?_eq_some_iff.1 c).1 c;exact ⟨n,fun g b=>⟨l g b,by simp [Value.ownBlock]⟩⟩⟩
theorem DG.next {m u2 u3 u4 M M1 B w s j f k o frags a' b' A v3 v4 ga gc g d ys zs x} (c:DG m u2 u3 u4 M w M1 s k o frags a' b' A ys (.slice ga k gc) zs) (hx:frags[k]?=some x) (S:Stp s.heap.size M1 s B j) (hc:FCV B x v3 v4)
  (p:f.ownsRow (w.heap.size+3) 68 4 (.slice (some ⟨g,0,none⟩) (k+1) d) (k+1) (zs++aFC x v3 v4)) (r:f.heap[w.heap.size+2]?=some (.cells #[A,.slice (some ⟨g,0,none⟩) (k+1) d] 28 (0,0)))
  (blk:∀ b,b<j.heap.size->b≠w.heap.size+2->(Value.slice ga k gc).ownBlock≠some b->f.heap[b]?=j.heap[b]?) (hg:(Value.slice ga k gc).ownBlock=some g∨j.heap.size<=g) (v:f.os=j.os) (hta:f.tape=j.tape) (t:f.output=j.output) (u:j.heap.size<=f.heap.size) :
  DG m u2 u3 u4 M w B f (k+1) o frags a' b' A ys (.slice (some ⟨g,0,none⟩) (k+1) d) (zs++aFC x v3 v4):=by
 have hZ  := (Array.getElem?_eq_some_iff.1 c.out).1;have l:∀ b,b<w.heap.size+2->f.heap[b]?=s.heap[b]?:=fun b a =>
  (blk b (by have:=S.size;omega) (by omega) (fun e=>by have:=(c.own.lt b e).1;omega)).trans (S.blk b (by omega) (by omega))
 have hA  := fun b a=>by
  obtain ⟨q1,q2⟩:=c.ownA.lt b a;exact (blk b (by have:=S.size;omega) (by omega) (c.ne b a)).trans (S.blk b q2 (by omega))
 refine ⟨(l _ (by omega)).trans c.box1,(l _ (by omega)).trans c.box2,r,dT c.ownA hA,p,c.rowsA.mono S.mem,?_,?_,?_,?_,?_,?_,?_,?_,?_⟩
 ·have e:frags.take (k+1)=frags.take k++[x]:=by rw [List.take_add_one,hx];rfl
  rw [e];exact .snoc (c.rows.mono S.mem) hc
 ·refine iU S.cons fun b a ⟨i,hi⟩=>blk b a (fun e=>hi ?_) (fun e=>hi ?_);· rw [e,S.old _ hZ];exact c.f2 i
  rw [S.old _ (c.own.lt b e).2];exact c.fo b e i
 ·exact c.frm.trans ⟨S.mem,fun b a i=>S.old b (by omega) i,v.trans S.os,hta.trans S.tape,t.trans S.output,Nat.le_trans S.size u,fun b a=>by grind⟩
 ·intro i;rw [S.old _ (by omega)];exact c.f1 i
 ·intro i;rw [S.old _ hZ];exact c.f2 i
 ·intro b a i;rw [S.old _ (c.ownA.lt b a).2];exact c.foA b a i
 ·intro b a i;have e  := by simpa [Value.ownBlock] using a.symm
  subst e;rcases hg with h | h;· rw [S.old _ (c.own.lt b h).2];exact c.fo b h i
  exact kS S.cons h i
 ·intro b a e;have e  := by simpa [Value.ownBlock] using e.symm
  subst e;rcases hg with h | h;· exact c.ne b a h
  have:=(c.ownA.lt b a).2;have:=S.size;omega
 intro x' z;obtain ⟨y,h2⟩:=c.mrk x' z;have n  := fun b a=>(y.lt b a).2;refine ⟨y.move S.mem (fun b a => ?_) (fun b a=>S.old b (n b a)),fun b a=>⟨(h2 b a).1,fun e => ?_⟩⟩;· have q:=n b a;have:=S.size;exact (blk b (by omega) (by have:=(y.lt b a).1;omega) (h2 b a).2).trans (S.blk b q (by omega))
 have e  := by simpa [Value.ownBlock] using e
 have q:=n b a;rcases hg with h | h;· exact by grind
 have:=S.size;omega
theorem bAz m R u3 Z ops frags oa cap d M w (hN:frags.length<=1048576) (hcap:frags.length<=cap) (hsm:∀ x∈frags,bkSl eZ x.dirs<1073741824/\bT x.sels<1073741824)
  (D:frags≠[]->∃ blk off,oa=some ⟨blk,off,none⟩) (hcell:∀ blk off,oa=some ⟨blk,off,none⟩->∀ k x,frags[k]?=some x->∃ v2 v3,FCV M x v2 v3/\∀ j v,(aFC x v2 v3)[j]?=some v->M blk (off+k*4+j)=some v)
  M0 w0 u ys (h0:DG m R u3 Z M w M0 w0 0 ops frags d (.slice oa frags.length cap) u ys (.slice none 0 0) []) Q v0 v2 v4 v5 v6 v7 v8 v9 v10 v11 v12 v13 v14 v15 v16 v17 v18 v19 v20 v21 v22 v23 v24 v25 v26 v27 v28 v29 v30 v31 v32 v33 v34 v35 v36 v37 v38 K v40 V Y U B v45 C P L I n v51 v52 v53 F T v56 o r J v60 v61 X a v64 v65
  (hC:∀ w' M' ga gc zs z6 z7 c p W s O z44 q f z47 E z49 z50 z51 z52 z53 z54 z55 z56 z57 z58 z59 z60 z61 z62 z63 z64,DG m R u3 Z M w M' w' frags.length ops frags d (.slice oa frags.length cap) u ys (.slice ga frags.length gc) zs->Q .normal ⟨#[v0,.pointer (some ⟨w.heap.size,0,none⟩),v2,.pointer (some ⟨w.heap.size+1+1,0,none⟩),v4,v5,z6,z7,v8,v9,v10,v11,v12,v13,v14,v15,v16,v17,v18,v19,v20,v21,v22,v23,v24,v25,v26,v27,v28,v29,v30,v31,v32,v33,v34,v35,v36,v37,v38,c,p,W,s,O,z44,q,f,z47,E,z49,z50,z51,z52,z53,z54,z55,z56,z57,z58,z59,z60,z61,z62,z63,z64,v65],[]⟩ w') :
  Code.wp Tryz.prog (fstC (sndC (sndC (sndC (aS Tryz.f13))))) Q ⟨#[v0,.pointer (some ⟨w.heap.size,0,none⟩),v2,.pointer (some ⟨w.heap.size+1+1,0,none⟩),v4,v5,v6,v7,v8,v9,v10,v11,v12,v13,v14,v15,v16,v17,v18,v19,v20,v21,v22,v23,v24,v25,v26,v27,v28,v29,v30,v31,v32,v33,v34,v35,v36,v37,v38,K,v40,V,Y,U,B,v45,C,P,L,I,n,v51,v52,v53,F,T,v56,o,r,J,v60,v61,X,a,v64,v65],[]⟩ w0:=by
 obtain ⟨N,hln⟩:∃ N,frags.length=N:=⟨_,rfl⟩;rw [hln] at hN hcap;simp [hln] at hC h0;replace hC:=(id hC:Hid _);have hb0:w0.cell? ⟨w.heap.size,1,none⟩=some (.slice oa N cap):=by rw [cell_of_row w0 _ 1 _ _ _ h0.box1];rfl
 simp [Tryz.f13,aS,inC,blA,blB,blkC,lopC,fstC,sndC];go_wp2;by_cases G:N=0;· subst G;refine wp_loop_rounds 1 ?_;rw [rounds_succ];go_wp2;exact hC.out _ _ _ _ _ _ _ _ _ _ _ _ _ _ _ _ _ _ _ _ _ _ _ _ _ _ _ _ _ _ _ _ _ h0
 obtain ⟨blk,off,rfl⟩:=D (by intro e;rw [e] at hln;simp at hln;omega);go_loopw [6] (fun t6 wr=>∃ (k:Nat) (M1:Mem) (vf:Value) (zs:List Value),k<=N/\t6 = .int .i64 k/\DG m R u3 Z M w M1 wr k ops frags d (.slice (some ⟨blk,off,none⟩) N cap) u ys vf zs) (fun t6 _=>N-(intOf t6).toNat);case atStart=>exact ⟨0,M0,_,[],Nat.zero_le _,rfl,h0⟩
 case round =>
  obtain ⟨k,M1,vf,zs,hk,rfl,hD⟩:=hrel;have hb1:wr.cell? ⟨w.heap.size,1,none⟩=some (.slice (some ⟨blk,off,none⟩) N cap):=by rw [cell_of_row wr _ 1 _ _ _ hD.box1];rfl
  obtain ⟨x,a3,l3,p3,a4,l4,p4,hx⟩:∃ x a3 l3 p3 a4 l4 p4,k<N->frags[k]?=some x/\FCV M1 x (.slice a3 l3 p3) (.slice a4 l4 p4)/\(∀ j v,(aFC x (.slice a3 l3 p3) (.slice a4 l4 p4))[j]?=some v->wr.cell? ⟨blk,off+k*4+j,none⟩=some v):=by
   by_cases hkN:k<N;· have hg:=List.getElem?_eq_getElem (l:=frags) (i:=k) (by omega);obtain ⟨v3,v4,h1,h2⟩:=hcell blk off rfl k _ hg;obtain ⟨a3,l3,p3,rfl⟩:=mB h1.r2;obtain ⟨a4,l4,p4,rfl⟩:=mB h1.r3;exact ⟨_,a3,l3,p3,a4,l4,p4,fun _=>⟨hg,h1.mono hD.frm.mem,fun j v hv=>kA hD.cons (hD.frm.mem _ _ _ (h2 j v hv))⟩⟩
   exact ⟨⟨[],[],[],[]⟩,none,0,0,none,0,0,fun h=>absurd h hkN⟩
  have x0:k<N->wr.cell? ⟨blk,off+k*4,none⟩=some (.string ⟨x.name.toArray⟩):=fun h=>(hx h).2.2 0 _ rfl;have x1:k<N->wr.cell? ⟨blk,off+k*4+1,none⟩=some (.string ⟨x.on_.toArray⟩):=fun h=>(hx h).2.2 1 _ rfl;have x2:k<N->wr.cell? ⟨blk,off+k*4+2,none⟩=some (.slice a3 l3 p3):=fun h=>(hx h).2.2 2 _ rfl;have x3:k<N->wr.cell? ⟨blk,off+k*4+3,none⟩=some (.slice a4 l4 p4):=fun h=>(hx h).2.2 3 _ rfl;have hsz  := by have:=(Array.getElem?_eq_some_iff.1 hD.out).1;omega
  replace hx:=(id hx:Hid _);change Code.wp Tryz.prog (.seq cBCm (.seq (.block 3 (.seq bFZ (.seq r13C r14C))) bF0)) _ _ _;unfold cBCm bF0 bFZ;simp only [Tryz.f13,aS,inC,blA,blB,blkC,lopC,fstC,sndC];go_wp2
  ·rename_i hkN K1 hK1 K0 hK0;obtain ⟨hxk,hcv,_⟩:=hx.out hkN;obtain ⟨s2,s3⟩:=hsm x (List.mem_of_getElem? hxk);obtain ⟨ga,gc,rfl⟩:=zO hD.own;refine bCX (M:=M1) wr.heap.size x a3 l3 p3 a4 l4 p4 (Stp.alloc (H:=0) hD.cons _).cons (heap_alloc_new wr _) (fun i=>kS hD.cons (Nat.le_refl _) i) hcv.r2 hcv.r3 s2 s3 _ _ _ _ _ _ _ _ _ _ _ _ _ _ _ _ _ _ _ _ _ _ _ _ _ _ _ _ _ _ _ _ _ _ _ _ _ _ _ _ _ _ _ _ _ _ _ _ _ _ _ _ _ _ _ _ _ _ _ _ _ _ _ _ _ _ (fun w3 M3 b3 m3 q3 b4 m4 q4 z51 z52 z53 z54 z55 z56 z57 z58 S3 y t A => ?_);have S:=(Stp.alloc (H:=wr.heap.size) hD.cons _).trans S3;have z  := (S.blk _ (by omega) (by omega)).trans hD.out;have hown3  := dT hD.own fun g hg=>S.blk g (hD.own.lt g hg).2 (by have:=(hD.own.lt g hg).2;omega);refine hK0 _ _ ?_;refine bFW wr.heap.size (w.heap.size+1+1) (w.heap.size+3) x b3 m3 q3 b4 m4 q4 ga k gc zs _ y z hown3 (by omega) (by have:=S.size;omega) (by omega) _ _ _ _ _ _ _ _ _ _ _ _ _ _ _ _ _ _ _ _ _ _ _ _ _ _ _ _ _ _ _ _ _ _ _ _ _ _ _ _ _ _ _ _ _ _ _ _ _ _ _ _ _ _ _ _ _ _ _ _ _ _ _ _ _ (fun w4 g cap' z59 z60 z61 z62 z63 z64 own' out' hblk hg b hta hou hsz4 => ?_);have hDn:=hD.next hxk S ⟨t,A⟩ own' out' hblk hg b hta hou hsz4;replace hDn:=(id hDn:Hid _);refine hK1 _ _ ?_;clear hblk own' out' hK0 hK1;go_wp2;go_roundw;case rel=>exact ⟨k+1,M3,_,_,by omega,by go_num,hDn.out⟩
   case measure=>simp [intOf];omega
  rename_i K0 hK0 hkN;have e:k=N:=by omega
  subst e;obtain ⟨ga,gc,rfl⟩:=zO hD.own;exact hC.out _ _ _ _ _ _ _ _ _ _ _ _ _ _ _ _ _ _ _ _ _ _ _ _ _ _ _ _ _ _ _ _ _ hD
noncomputable def r0Cm:Code:=fstC (aS Tryz.f13)
noncomputable def r1Cm:Code:=fstC (sndC (aS Tryz.f13))
noncomputable def laCm:Code:=fstC (sndC (sndC (aS Tryz.f13)))
noncomputable def lbCm:Code:=fstC (sndC (sndC (sndC (aS Tryz.f13))))
noncomputable def bF1:Code:=sndC (sndC (sndC (sndC (aS Tryz.f13))))
theorem bER:Tryz.f13.body=some (.seq r0Cm (.seq r1Cm (.seq laCm (.seq lbCm bF1)))):=by kernel_rfl
structure DQ (m:Nat) (u2 u3 u4:Value) (M:Mem) (w:World) (M1:Mem) (wr:World) (ops:List GOp) (frags:List GFrag) (va:Value) (ys:List Value) (vf:Value) (zs:List Value):Prop where
 ownA:wr.ownsRow w.heap.size 38 5 va ops.length ys
 own:wr.ownsRow w.heap.size 68 4 vf frags.length zs
 rowsA:aCG M1 m u2 u3 u4 ops ys
 rows:FrRow M1 frags zs
 cons:Cons M1 wr
 frm:From w.heap.size M w M1 wr
 foA:∀ g,va.ownBlock=some g->∀ i,M1 g i=none
 fo:∀ g,vf.ownBlock=some g->∀ i,M1 g i=none
 ne:∀ g,va.ownBlock=some g->vf.ownBlock≠some g
 mrk:∀ x,ops[m]?=some x->MO w.heap.size M1 wr x u2 u3 u4/\∀ g,Own3 u2 u3 u4 g->va.ownBlock≠some g/\vf.ownBlock≠some g
theorem DM.start m f e j {M w} b a b' (c:Cons M w):DM m M w M (((w.alloc (.cells #[a,b'] 28)).alloc (.cells #[.slice none 0 0,.slice none 0 0] 28)).alloc (.cells #[.slice none 0 0,.slice none 0 0] 28)) 0 b a b' (.slice none 0 0) [] f e j:=by
 have d:Below w.heap.size w (((w.alloc (.cells #[a,b'] 28)).alloc (.cells #[.slice none 0 0,.slice none 0 0] 28)).alloc (.cells #[.slice none 0 0,.slice none 0 0] 28)) :=
  (((Below.refl _ _).alloc (by omega) _).alloc (by simp) _).alloc (by simp;omega) _
 refine ⟨?_,?_,?_,World.ownsRow_nil _ _ _ _,aCG.nil _ _ _ _ _,kO c d,From.of_below d,fun i=>kS c (by omega) i,fun i=>kS c (by omega) i,fun g h=>by simp [Value.ownBlock] at h,fun x k=>by omega⟩;· rw [heap_alloc_old _ _ (by simp;omega),heap_alloc_old _ _ (by simp)];exact heap_alloc_new _ _
 ·rw [heap_alloc_old _ _ (by simp)];have:=heap_alloc_new (w.alloc (.cells #[a,b'] 28)) (.cells #[.slice none 0 0,.slice none 0 0] 28);simp_all
 have:=heap_alloc_new ((w.alloc (.cells #[a,b'] 28)).alloc (.cells #[.slice none 0 0,.slice none 0 0] 28)) (.cells #[.slice none 0 0,.slice none 0 0] 28);simp_all
theorem DG.done {m o n p M M1 w d a frags z b' r s ys t} (h:DG m o n p M w M1 d frags.length a frags z b' r ys s t) l f :
  DQ m o n p M w M1 ((d.setCell ⟨w.heap.size+1,0,none⟩ l).setCell ⟨w.heap.size+1,1,none⟩ f) a frags r ys s t:=by
 have c:∀ k,k≠w.heap.size+1->((d.setCell ⟨w.heap.size+1,0,none⟩ l).setCell ⟨w.heap.size+1,1,none⟩ f).heap[k]?=d.heap[k]?:=fun k b=>(Below.heap_setCell _ _ _ _ b).trans (Below.heap_setCell _ _ _ _ b);refine ⟨aUv (dT h.ownA fun g j=>c g (by have:=(h.ownA.lt g j).1;omega)) (by omega),aUv (dT h.own fun g j=>c g (by have:=(h.own.lt g j).1;omega)) (by omega),h.rowsA,by have:=h.rows;grind,?_,?_,h.foA,h.fo,h.ne,fun x u => ?_⟩;· exact iU h.cons fun k b ⟨i,y⟩=>c k fun e=>y (by rw [e];exact h.f1 i)
 ·exact h.frm.trans (From.of_below (((Below.refl _ _).setCell (by simp) l).setCell (by simp) f))
 obtain ⟨q,v⟩:=h.mrk x u;exact ⟨(q.move (fun _ _ _ h=>h) (fun k b=>c k (by have:=(q.lt k b).1;omega)) (fun _ _ _=>rfl)).le (by omega),v⟩
theorem bC1 m d M w a' b' (hd:eF d<=1048576) (hc:Cons M w) (hra:Rv M noB (.slice (List.map aU d.ops) [] false) a') (hrb:Rv M noB (.slice (List.map aG d.frags) [] false) b') :
  Calls Tryz.prog 13 #[.agg #[a',b']] w fun e w'=>∃ M' ga gc ys gb gd zs u2 u3 u4,e = .returned (.agg #[.slice ga d.ops.length gc,.slice gb d.frags.length gd])/\DQ m u2 u3 u4 M w M' w' d.ops d.frags (.slice ga d.ops.length gc) ys (.slice gb d.frags.length gd) zs:=by
 have h:=xH d;have A:=cK (f:=bkOp) (fun o=>by rw [kR];omega) d.ops;have X:=cK (f:=dV) (fun o=>by rw [gM];omega) d.frags;have hso:∀ x∈d.ops,x.vars.length<=1048576/\bkSl eZ x.dirs<1073741824/\bT x.sels<1073741824:=by
  intro x hx;have h1:=eA (f:=bkOp) hx;rw [kR] at h1;have h2:=cK (f:=rL) (fun o=>by rw [sP];omega) x.vars;have e:bkSl dC x.sels=bT x.sels+1:=by rw [fL];rfl
  omega
 have hsf:∀ x∈d.frags,bkSl eZ x.dirs<1073741824/\bT x.sels<1073741824:=by
  intro x hx;have h1:=eA (f:=dV) hx;rw [gM] at h1;have e:bkSl dC x.sels=bT x.sels+1:=by rw [fL];rfl
  omega
 obtain ⟨oa,cap,rfl,hcap,hat,hcell⟩:=aWk hc hra;obtain ⟨ob,capb,rfl,hcapb,hatb,hcellb⟩:=bCV hc hrb;have hst:=DM.start m undef undef undef (M:=M) (w:=w) d.ops (.slice oa d.ops.length cap) (.slice ob d.frags.length capb) hc;refine calls_of_wp Tryz.func13 bER ?_;simp only [Tryz.ntmps13,List.size_toArray,List.length_cons,List.length_nil,Nat.reduceAdd,Nat.reduceSub,Array.replicate_succ,
   Array.replicate_zero,List.push_toArray,List.append_toArray,List.nil_append,List.cons_append]
 have LA:=@bAy m d.ops oa cap (.slice ob d.frags.length capb) M w (by omega) hcap hso hat hcell;have LB:=fun u2 u3 u4=>@bAz m u2 u3 u4 d.ops d.frags ob capb (.slice oa d.ops.length cap) M w (by omega) hcapb hsf hatb hcellb;replace LA:=(id LA:Hid _);replace LB:=(id LB:Hid _);replace hst:=(id hst:Hid _);clear hat hcell hatb hcellb hso hsf;generalize hQ:bodyPost Tryz.prog Tryz.f13 _=Q;replace hQ:=(id hQ:Hid _);unfold r0Cm r1Cm;simp [Tryz.f13,aS,inC,blA,blB,blkC,lopC,fstC,sndC];go_wp2;rename_i K0 hK0;refine LA.out _ _ (DM.start m undef undef undef (M:=M) (w:=w) d.ops (.slice oa d.ops.length cap) (.slice ob d.frags.length capb) hc) _ _ _ _ _ _ _ _ _ _ _ _ _ _ _ _ _ _ _ _ _ _ _ _ _ _ _ _ _ _ _ _ _ _ _ _ _ _ _ _ _ _ _ _ _ _ _ _ _ _ _ _ _ _ _ _ _ _ _ _ _ _ _ _ _ (fun w1 M1 ga gc ys u2 u3 u4 z4 Z z9 b R t W z14 V j k a z19 F L z22 z23 p N z26 l z28 c G z31 y z33 U T g D z38 hD => ?_);have hF:=hD.toG (frags:=d.frags);replace hD:=(id hD:Hid _);refine hK0 _ _ ?_;refine wp_seq ?_;refine LB.out u2 u3 u4 _ _ _ ys hF _ _ _ _ _ _ _ _ _ _ _ _ _ _ _ _ _ _ _ _ _ _ _ _ _ _ _ _ _ _ _ _ _ _ _ _ _ _ _ _ _ _ _ _ _ _ _ _ _ _ _ _ _ _ _ _ _ _ _ _ _ _ _ _ _ (fun w2 H gb gd zs y6 Y P y40 K i z E I S y47 r y49 C y51 y52 q v u O B y58 n y60 s y62 y63 J hG => ?_);have q3:w2.cell? ⟨w.heap.size+1+1,0,none⟩=some (.slice ga d.ops.length gc):=by rw [cell_of_row w2 (w.heap.size+1+1) 0 _ _ _ hG.out];rfl
 have q4:w2.cell? ⟨w.heap.size+1+1,1,none⟩=some (.slice gb d.frags.length gd):=by rw [cell_of_row w2 (w.heap.size+1+1) 1 _ _ _ hG.out];rfl
 have q5:w2.cell? ⟨w.heap.size+1,0,none⟩=some (.slice none 0 0):=by rw [cell_of_row w2 (w.heap.size+1) 0 _ _ _ hG.box2];rfl
 have q6:w2.cell? ⟨w.heap.size+1,1,none⟩=some (.slice none 0 0):=by rw [cell_of_row w2 (w.heap.size+1) 1 _ _ _ hG.box2];rfl
 have q7  := frozen_of_row w2 (w.heap.size+1) 0 _ _ hG.box2;have q8  := frozen_of_row w2 (w.heap.size+1) 1 _ _ hG.box2;have hdone:=hG.done (.slice ga d.ops.length gc) (.slice gb d.frags.length gd);replace hdone:=(id hdone:Hid _);have hrow:Hid (((w2.setCell ⟨w.heap.size+1,0,none⟩ (.slice ga d.ops.length gc)).setCell ⟨w.heap.size+1,1,none⟩ (.slice gb d.frags.length gd)).heap[w.heap.size+1]?=some (.cells #[.slice ga d.ops.length gc,.slice gb d.frags.length gd] 28 (0,0))):=heap_setCell_same _ _ _ _ _ _ (heap_setCell_same _ _ _ _ _ _ hG.box2);replace hG:=(id hG:Hid _);replace hF:=(id hF:Hid _);clear hK0 hst LA LB;unfold bF1;simp [Tryz.f13,aS,sndC];show Code.wp _ _ _ _ _;go_wp2;rw [<- hQ.out];try simp only
 refine bodyPost_ret (results_cell_row rfl _ _ (w.heap.size+1) 28 _ (0,0) _ rfl hrow.out Tryz.underlying28 rfl (by kernel_rfl)) rfl ?_;exact ⟨H,ga,gc,ys,gb,gd,zs,u2,u3,u4,rfl,hdone.out⟩
structure DS (m B E:Nat) (M:Mem) (w:World) (ops:List GOp) (frags:List GFrag) (va:Value) (ys:List Value) (vf:Value) (zs:List Value) (u2 u3 u4:Value):Prop where
 ownA:w.ownsRow B 38 5 va ops.length ys
 own:w.ownsRow B 68 4 vf frags.length zs
 rowsA:aCG M m u2 u3 u4 ops ys
 rows:FrRow M frags zs
 foA:∀ g,va.ownBlock=some g->∀ i,M g i=none
 fo:∀ g,vf.ownBlock=some g->∀ i,M g i=none
 ne:∀ g,va.ownBlock=some g->vf.ownBlock≠some g
 mrk:∀ x,ops[m]?=some x->MO B M w x u2 u3 u4/\∀ g,Own3 u2 u3 u4 g->va.ownBlock≠some g/\vf.ownBlock≠some g
 isx:m<ops.length
 hi:∀ g,(va.ownBlock=some g∨vf.ownBlock=some g∨Own3 u2 u3 u4 g)->B<=g/\g<E
theorem DQ.ds {m d c f M M1 w b a frags i j ys k} (h:DQ m d c f M w M1 b a frags i ys j k) (l:m<a.length):DS m w.heap.size b.heap.size M1 b a frags i ys j k d c f:=by
 refine ⟨h.ownA,h.own,h.rowsA,h.rows,h.foA,h.fo,h.ne,h.mrk,l,?_⟩;rintro g (e | e | e);· exact h.ownA.lt g e
 ·exact h.own.lt g e
 exact (h.mrk _ (List.getElem?_eq_getElem l)).1.lt g e
theorem DS.move {m B E M M' w w' c frags o p ys q l j n} (h:DS m B E M w c frags o ys p q l j n) (e:∀ b i v,M b i=some v->M' b i=some v) (f:∀ k,B<=k->k<E->w'.heap[k]?=w.heap[k]?) (d:∀ k,B<=k->k<E->∀ i,M' k i=M k i):DS m B E M' w' c frags o ys p q l j n:=by
 refine ⟨dT h.ownA fun g a=>f g (h.hi g (.inl a)).1 (h.hi g (.inl a)).2,dT h.own fun g a=>f g (h.hi g (by grind)).1 (h.hi g (by grind)).2,h.rowsA.mono e,h.rows.mono e,fun g a i=>(d g (h.hi g (.inl a)).1 (h.hi g (.inl a)).2 i).trans (h.foA g a i),fun g a i=>(d g (h.hi g (by grind)).1 (h.hi g (by grind)).2 i).trans (h.fo g a i),h.ne,fun x r => ?_,h.isx,h.hi⟩;obtain ⟨t,s⟩:=h.mrk x r;exact ⟨t.move e (fun k u=>f k (h.hi k (by grind)).1 (h.hi k (by grind)).2) (fun k u=>d k (h.hi k (by grind)).1 (h.hi k (by grind)).2),s⟩
theorem DS.quiet {m B E M M' w w' a frags e f ys g c b d} (h:DS m B E M w a frags e ys f g c b d) (q:Quiet M w M' w') (j:E<=w.heap.size):DS m B E M' w' a frags e ys f g c b d :=
 h.move q.mem (fun k _ i=>(q.old k (by omega)).1) (fun k _ i=>(q.old k (by omega)).2)
theorem DS.put {m B E M M' w w' a frags q F ys zs D A C l o f} (h:DS m B E M w a frags q ys F zs D A C) (hE:E<=w.heap.size) {x} (hx:a[m]?=some x) x' (ek:x'.kind=x.kind) (en:x'.name=x.name)
  (G:∀ b i v,M b i=some v->M' b i=some v) (r:∀ b,b<w.heap.size->∀ i,M' b i=M b i) (hb:∀ b,b<w.heap.size->q.ownBlock≠some b->¬ Own3 D A C b->w'.heap[b]?=w.heap[b]?)
  (hA:w'.ownsRow B 38 5 q a.length (((ys.set (m*5+2) l).set (m*5+3) o).set (m*5+4) f)) (hm:MO B M' w' x' l o f) (ht:∀ k,Own3 l o f k->Own3 D A C k∨w.heap.size<=k) (hs:w.heap.size<=w'.heap.size) :
  DS m B w'.heap.size M' w' (a.set m x') frags q (((ys.set (m*5+2) l).set (m*5+3) o).set (m*5+4) f) F zs l o f:=by
 obtain ⟨h1,h2⟩:=h.mrk x hx;have z:=h.rowsA.1;have c:=h.isx;have s:∀ k,Own3 l o f k->q.ownBlock≠some k/\F.ownBlock≠some k:=fun k hk=>by
  rcases ht k hk with e | e;· exact h2 k e
  exact ⟨fun e2=>by have:=(h.hi k (.inl e2)).2;omega,fun e2=>by have:=(h.hi k (by grind)).2;omega⟩
 refine ⟨by rw [List.length_set];exact hA,dT h.own fun g n=>hb g (by have:=(h.hi g (by grind)).2;omega) (fun e=>h.ne g e n) (fun e=>by grind),⟨?_,fun i y d => ?_⟩,h.rows.mono G,fun g n i=>(r g (by have:=(h.hi g (.inl n)).2;omega) i).trans (h.foA g n i),fun g n i=>(r g (by have:=(h.hi g (by grind)).2;omega) i).trans (h.fo g n i),h.ne,fun y d => ?_,by rw [List.length_set];exact c,?_⟩;· simp;exact z
 ·by_cases p:i=m;· subst p;rw [List.getElem?_set_self c] at d;cases d;obtain ⟨v2,v3,v4,_,t⟩:=h.rowsA.2 i x hx;grind
  rw [List.getElem?_set_ne (fun e=>p e.symm)] at d;obtain ⟨v2,v3,v4,hc,t⟩:=h.rowsA.2 i y d;refine ⟨v2,v3,v4,.inr (hc.elim (fun e=>by omega) fun e=>⟨e.1,e.2.mono G⟩),fun j u hu => ?_⟩;have hj  := by have:=(List.getElem?_eq_some_iff.1 hu).1;simpa using this
  rw [List.getElem?_set_ne (by omega),List.getElem?_set_ne (by omega),List.getElem?_set_ne (by omega)];exact t j u hu
 ·rw [List.getElem?_set_self c] at d;cases d;exact ⟨hm,s⟩
 rintro g (e | e | e);· have:=h.hi g (.inl e);omega
 ·have:=h.hi g (by grind);omega
 exact hm.lt g e
theorem DS.rv {m B E e M w b frags g j ys v t o p} (h:DS m B E M w b frags g ys j v t o p) (a:Cons M w) (d:e<=B) :
  Rv (frzM e M w) noB (.agg [(.slice (List.map aU b) [] false),(.slice (List.map aG frags) [] false)]) (.agg #[g,j]):=by
 have n:=aRx (B:=e) a;have r:OpAt (frzM e M w) b ys:=by
  refine ⟨h.rowsA.1,fun i x l => ?_⟩;obtain ⟨s,v3,v4,f,u⟩:=h.rowsA.2 i x l;refine ⟨s,v3,v4,?_,u⟩;rcases f with ⟨rfl,rfl,rfl,rfl⟩ | ⟨_,f⟩;· obtain ⟨k,_⟩:=h.mrk x l;exact ⟨k.o2.rvM a d,k.o3.rvM a d,k.o4.rvM a d⟩
  exact f.mono n
 have q  := (h.rows.mono n).at';have z:=aMs r h.ownA (fun _ _ _ h=>h) (aKo h.ownA d);have A:=aMt q h.own (fun _ _ _ h=>h) (aKo h.own d);refine .agg _ _ (fun i=>(#[g,j]:Array Value).getD i undef) rfl (fun i y => ?_) (fun i c a => ?_);· simp_all
 match i,a with
 | 0,a=>simp_all
 | 1,a=>simp_all
theorem DS.at_ {m B E M w a frags f k ys l c b d} (h:DS m B E M w a frags f ys k l c b d):∃ g n cap,f = .slice (some ⟨g,0,none⟩) n cap/\n=a.length/\ys[m*5+2]?=some c/\ys[m*5+3]?=some b/\ys[m*5+4]?=some d:=by
 obtain ⟨q,v3,v4,i,p⟩:=h.rowsA.2 m _ (List.getElem?_eq_getElem h.isx);rcases i with ⟨_,rfl,rfl,rfl⟩ | ⟨e,_⟩
 ·rcases h.ownA.2 with ⟨e,o⟩ | ⟨g,cap,j,e,_⟩;· have:=h.isx;omega
  grind
 omega
theorem aIq {α:Type} {l:List α} {i a} (h:l[i]?=some a):l.set i a=l:=by
 obtain ⟨b,rfl⟩:=List.getElem?_eq_some_iff.1 h;simp
theorem DS.put4 {m B E M M' w w' f frags p D ys F u q r j} (h:DS m B E M w f frags p ys D F u q r) (O:E<=w.heap.size) {x} (A:f[m]?=some x) d
  (t:∀ b i v,M b i=some v->M' b i=some v) (l:∀ b,b<w.heap.size->∀ i,M' b i=M b i) (y:∀ b,b<w.heap.size->p.ownBlock≠some b->r.ownBlock≠some b->w'.heap[b]?=w.heap[b]?)
  (z:w'.ownsRow B 38 5 p f.length (ys.set (m*5+4) j)) (H:OwnL B M' w' 44 7 (List.map aI d) j) (s:∀ k,j.ownBlock=some k->r.ownBlock=some k∨w.heap.size<=k) (L:w.heap.size<=w'.heap.size) :
  DS m B w'.heap.size M' w' (f.set m ⟨x.kind,x.name,x.vars,x.dirs,d⟩) frags p (ys.set (m*5+4) j) D F u q j:=by
 obtain ⟨a,C⟩:=h.mrk x A;obtain ⟨_,_,_,_,_,J,K,P⟩:=h.at_;have e:((ys.set (m*5+2) u).set (m*5+3) q).set (m*5+4) j=ys.set (m*5+4) j:=by rw [aIq J,aIq K]
 rw [<- e] at z ⊢;refine h.put O A ⟨x.kind,x.name,x.vars,x.dirs,d⟩ rfl rfl t l (fun b I G N=>y b I G fun e=>N (.inr (.inr e))) z ⟨?_,?_,H,a.n23,?_,?_⟩ ?_ L;· exact a.o2.move t (fun k c=>y k (a.o2.lt k c).2 (C k (.inl c)).1 (a.n24 k c)) (fun k c=>l k (a.o2.lt k c).2)
 ·exact a.o3.move t (fun k c=>y k (a.o3.lt k c).2 (C k (.inr (.inl c))).1 (a.n34 k c)) (fun k c=>l k (a.o3.lt k c).2)
 ·intro g o n;rcases s g n with e | e;· exact a.n24 g o e
  have:=(a.o2.lt g o).2;omega
 ·intro g o n;rcases s g n with e | e;· exact a.n34 g o e
  have:=(a.o3.lt g o).2;omega
 rintro k (e | e | e);· exact .inl (.inl e)
 ·exact .inl (.inr (.inl e))
 rcases s k e with e | e;· exact .inl (.inr (.inr e))
 omega
theorem DS.put3 {m B E M M' w w' f frags o D ys F u q r n} (h:DS m B E M w f frags o ys D F u q r) (N:E<=w.heap.size) {x} (A:f[m]?=some x) d
  (t:∀ b i v,M b i=some v->M' b i=some v) (l:∀ b,b<w.heap.size->∀ i,M' b i=M b i) (y:∀ b,b<w.heap.size->o.ownBlock≠some b->q.ownBlock≠some b->w'.heap[b]?=w.heap[b]?)
  (z:w'.ownsRow B 38 5 o f.length (ys.set (m*5+3) n)) (H:OwnL B M' w' 41 2 (List.map aF d) n) (s:∀ k,n.ownBlock=some k->q.ownBlock=some k∨w.heap.size<=k) (K:w.heap.size<=w'.heap.size) :
  DS m B w'.heap.size M' w' (f.set m ⟨x.kind,x.name,x.vars,d,x.sels⟩) frags o (ys.set (m*5+3) n) D F u n r:=by
 obtain ⟨a,C⟩:=h.mrk x A;obtain ⟨_,_,_,_,_,J,P,O⟩:=h.at_;have e:((ys.set (m*5+2) u).set (m*5+3) n).set (m*5+4) r=ys.set (m*5+3) n:=by rw [aIq J,aIq (by grind)]
 rw [<- e] at z ⊢;refine h.put N A ⟨x.kind,x.name,x.vars,d,x.sels⟩ rfl rfl t l (fun b I G L=>y b I G fun e=>L (.inr (.inl e))) z ⟨?_,H,?_,?_,a.n24,?_⟩ ?_ K;· exact a.o2.move t (fun k c=>y k (a.o2.lt k c).2 (C k (.inl c)).1 (a.n23 k c)) (fun k c=>l k (a.o2.lt k c).2)
 ·exact a.o4.move t (fun k c=>y k (a.o4.lt k c).2 (C k (.inr (.inr c))).1 (fun e=>a.n34 k e c)) (fun k c=>l k (a.o4.lt k c).2)
 ·intro g p j;rcases s g j with e | e;· exact a.n23 g p e
  have:=(a.o2.lt g p).2;omega
 ·intro g p j;rcases s g p with e | e;· exact a.n34 g e j
  have:=(a.o4.lt g j).2;omega
 rintro k (e | e | e);· exact .inl (.inl e)
 ·rcases s k e with e | e;· exact .inl (.inr (.inl e))
  omega
 exact .inl (.inr (.inr e))
end Go.Proofs.YtphmfillajagdaaGreat

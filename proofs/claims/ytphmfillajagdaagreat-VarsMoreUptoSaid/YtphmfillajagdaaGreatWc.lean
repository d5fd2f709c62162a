import Derived.Test.YtphmfillajagdaaGreatWb
set_option maxHeartbeats 4000000
noncomputable section
set_option linter.unusedVariables false
set_option linter.unusedSimpArgs false
set_option linter.unusedSimpArgs false
open Go Go.Ev Go.RowKit
namespace Go.Proofs.YtphmfillajagdaaGreat
theorem aXO {w:World} {B B' e size n:Nat} {v xs} (h:w.ownsRow B e size v n xs) (b:B'<=B):w.ownsRow B' e size v n xs:=by
 refine ⟨h.1,?_⟩;rcases h.2 with d | ⟨g,cap,a,hv,c,rest⟩;· grind
 exact .inr ⟨g,cap,a,hv,by omega,rest⟩
structure OwnL (B:Nat) (M:Mem) (w:World) (e size:Nat) (es:List PV) (v:Value):Prop where
 own:∃ ys,w.ownsRow B e size v es.length ys/\∀ (i:Nat) (p:PV) (j:Nat) (c:PV),es[i]?=some p->p.cells[j]?=some c->∃ u,ys[i*size+j]?=some u/\Rv M noB c u
 ok:∀ p∈es,okEl size p
 free:∀ g,v.ownBlock=some g->∀ i,M g i=none
theorem OwnL.nil B M w e size:OwnL B M w e size [] (.slice none 0 0) :=
 ⟨⟨[],World.ownsRow_nil _ _ _ _,fun i p j c h=>by grind⟩,fun p h=>by grind,fun g h=>by simp [Value.ownBlock] at h⟩
theorem OwnL.lt {B e size M w es v} (h:OwnL B M w e size es v):∀ k,v.ownBlock=some k->B<=k/\k<w.heap.size:=by
 obtain ⟨ys,a,_⟩:=h.own;exact a.lt
theorem OwnL.form {B e size M w es v} (h:OwnL B M w e size es v):∃ a cap,v = .slice a es.length cap:=by
 obtain ⟨ys,b,_⟩:=h.own;exact aBs b
theorem OwnL.le {B B' e size M w es v} (h:OwnL B M w e size es v) (b:B'<=B):OwnL B' M w e size es v:=by
 obtain ⟨ys,c,a⟩:=h.own;exact ⟨⟨ys,aXO c b,a⟩,h.ok,h.free⟩
theorem OwnL.move {B e size M M' w w' es v} (h:OwnL B M w e size es v) (n:∀ b i v,M b i=some v->M' b i=some v) (r:∀ k,v.ownBlock=some k->w'.heap[k]?=w.heap[k]?) (l:∀ k,v.ownBlock=some k->∀ i,M' k i=M k i):OwnL B M' w' e size es v:=by
 obtain ⟨ys,s,f⟩:=h.own;refine ⟨⟨ys,jG s r,fun i p j c q o => ?_⟩,h.ok,fun g a i=>(l g a i).trans (h.free g a i)⟩;obtain ⟨u,d,m⟩:=f i p j c q o;exact ⟨u,d,m.mono n (fun _ _ _ h=>h)⟩
theorem OwnL.quiet {B e size M M' w w' es v} (h:OwnL B M w e size es v) (q:Quiet M w M' w'):OwnL B M' w' e size es v :=
 h.move q.mem (fun k a=>(q.old k (h.lt k a).2).1) (fun k a=>(q.old k (h.lt k a).2).2)
theorem OwnL.stp {H B e size M M' w w' es v} (h:OwnL B M w e size es v) (q:Stp H M w M' w') (b:v.ownBlock≠some H):OwnL B M' w' e size es v :=
 h.move q.mem (fun k a=>q.blk k (h.lt k a).2 fun e=>by grind) (fun k a=>q.old k (h.lt k a).2)
theorem OwnL.rv {B e size M w es v} (h:OwnL B M w e size es v) (k:Cons M w):Rv (frzV v M w) noB (.slice es [] false) v:=by
 obtain ⟨ys,l,f⟩:=h.own;refine aKh l aMF es rfl h.ok fun i p j c g d => ?_;obtain ⟨u,b,a⟩:=f i p j c g d;exact ⟨u,b,a.mono (aAw k) (fun _ _ _ h=>h)⟩
theorem OwnL.rvM {B a e size M w es v} (h:OwnL B M w e size es v) (k:Cons M w) (g:a<=B):Rv (frzM a M w) noB (.slice es [] false) v:=by
 obtain ⟨ys,b,f⟩:=h.own;refine aKh b (aME b g) es rfl h.ok fun i p j c n m => ?_;obtain ⟨u,d,l⟩:=f i p j c n m;exact ⟨u,d,l.mono (aUD k) (fun _ _ _ h=>h)⟩
theorem Stp.frz {H:Nat} {M w} (c:Cons M w) v B (hv:∀ k,v.ownBlock=some k->B<=k):(∀ b,b<B->∀ i,frzV v M w b i=M b i):=fun b a i=>aD5 (fun e=>by grind) i
open Go Go.Ev Go.RowKit
theorem bGs {M w} H (x:GOp) s l2 o a3 X p3 a4 W Z (r:Cons M w) (hH:w.heap[H]?=some (.cells #[.int .i64 x.kind,.string ⟨x.name.toArray⟩,.slice s l2 o,.slice a3 X p3,.slice a4 W Z] 38 (0,0))) (hf:∀ i,M H i=none) (hr:Rv M noB (.slice (List.map aB x.vars) [] false) (.slice s l2 o)) (hl:x.vars.length<=1048576) Q v0 v1 v2 v3 v4 v6 v7 v8 U l v11 v12 v13 v14 v15 v16 v17 v18 n v20 I F P A v25 v26 v27 v28 v29 v30 v31 v32 v33 v34 v35 v36 v37 v38 v39 v40 v41 v42 v43 v44 m v46 v47 v48 v49 v50 v51 v52 v53 v54 v55 v56 v57 v58 v59 d v61 v62 v63 f v65
  (hC:∀ w' M' b2 Y V R v C L,Stp H M w M' w'->w'.heap[H]?=some (.cells #[.int .i64 x.kind,.string ⟨x.name.toArray⟩,.slice b2 Y V,.slice a3 X p3,.slice a4 W Z] 38 (0,0))->OwnL w.heap.size M' w' 54 10 (List.map aB x.vars) (.slice b2 Y V)->Q .normal ⟨#[v0,v1,v2,v3,v4,.pointer (some ⟨H,0,none⟩),v6,v7,v8,U,l,v11,v12,v13,v14,v15,v16,v17,v18,n,v20,R,v,C,L,v25,v26,v27,v28,v29,v30,v31,v32,v33,v34,v35,v36,v37,v38,v39,v40,v41,v42,v43,v44,m,v46,v47,v48,v49,v50,v51,v52,v53,v54,v55,v56,v57,v58,v59,d,v61,v62,v63,f,v65],[]⟩ w') :
  Code.wp Tryz.prog r6C Q ⟨#[v0,v1,v2,v3,v4,.pointer (some ⟨H,0,none⟩),v6,v7,v8,U,l,v11,v12,v13,v14,v15,v16,v17,v18,n,v20,I,F,P,A,v25,v26,v27,v28,v29,v30,v31,v32,v33,v34,v35,v36,v37,v38,v39,v40,v41,v42,v43,v44,m,v46,v47,v48,v49,v50,v51,v52,v53,v54,v55,v56,v57,v58,v59,d,v61,v62,v63,f,v65],[]⟩ w:=by
 have hHl:H<w.heap.size:=(Array.getElem?_eq_some_iff.1 hH).1;obtain ⟨rfl,hnews⟩:=aKi hr;have k2:w.cell? ⟨H,2,none⟩=some (.slice s x.vars.length o):=by rw [cell_of_row w H _ _ _ _ hH];rfl
 have kf:w.frozen? ⟨H,2,none⟩=false:=frozen_of_row w H _ _ _ hH;unfold r6C;simp [Tryz.f13,bZ,inC,blA,blkC,lopC,fstC,sndC];replace hC:=(id hC:Hid _);by_cases q:x.vars=[]
 ·have e0:x.vars.length=0:=by rw [q];rfl
  rw [e0] at hr k2 hH;have done:Hid (Stp H M w M (w.setCell ⟨H,2,none⟩ (.slice none 0 0))):=Stp.set r hf 2 _;have hrow:Hid ((w.setCell ⟨H,2,none⟩ (.slice none 0 0)).heap[H]?=_):=heap_setCell_same w H 2 _ _ (.slice none 0 0) hH;have hnil:Hid (OwnL w.heap.size M (w.setCell ⟨H,2,none⟩ (.slice none 0 0)) 54 10 (List.map aB x.vars) (.slice none 0 0)):=by rw [q];exact OwnL.nil _ _ _ _ _
  clear hnews;cases s with
  | none =>
   go_wp2;exact hC.out _ _ _ _ _ _ _ _ _ done hrow hnil
  | some a =>
   have hld:=bJY Tryz.prog a w;go_wp2;exact hC.out _ _ _ _ _ _ _ _ _ done hrow hnil
 ·obtain ⟨blk,off,news,rfl,E,hncell,hone,hnr⟩:=hnews q;obtain ⟨i0,z0,hi,N,B,z,O⟩:=aIs Tryz.i54;have hpos:0<x.vars.length:=List.length_pos_iff.2 q;have hn:∀ j u,news[j]?=some u->w.cell? ((⟨blk,off,none⟩:Addr).add j)=some u:=fun j u hu=>by rw [addN];exact dS r (hncell j u hu)
  replace hnr:=(id hnr:Hid _);replace hncell:=(id hncell:Hid _);go_wp2_with (at_builtin;refine wpList_append_lies _ rfl (.const (.slice none 0 0)) (.tmp 22) 35 rfl w.heap.size 54 i0 _ 10 136 Tryz.u35 hi N B z O (by decide) (.slice none 0 0) 0 [] rfl (World.ownsRow_nil _ _ _ _) ⟨blk,off,none⟩ x.vars.length o news rfl E hn hone hpos (by simp [maxLen];omega) (by omega) (Nat.le_refl _) _ rfl ?_;intro g cap' t hown hgrow G hlt;have K:=hgrow.block H hHl (by simp [Value.ownBlock]);have k3:=(World.cell?_of_block (a:=⟨H,2,none⟩) K).trans k2;have k4:=(World.frozen?_of_block (a:=⟨H,2,none⟩) K).trans kf);have T:w.heap.size<=g:=by
   rcases G with h | h;· simp [Value.ownBlock] at h
   omega
  have J:Cons M t:=kL r fun k S _=>hgrow.block k S (by simp [Value.ownBlock]);have D:Stp H M w M t:=⟨fun _ _ _ h=>h,fun b hb _=>hgrow.block b hb (by simp [Value.ownBlock]),fun _ _ _=>rfl,hgrow.os,hgrow.tape,hgrow.output,hgrow.size,J⟩;have S2:=D.trans (Stp.set D.cons (D.free hHl hf) 2 (.slice (some ⟨g,0,none⟩) x.vars.length cap'));have hown2:t.ownsRow w.heap.size 54 10 (.slice (some ⟨g,0,none⟩) x.vars.length cap') x.vars.length news:=by
   have e:0+x.vars.length=x.vars.length:=Nat.zero_add _;rw [e,List.nil_append] at hown;exact hown
  refine hC.out _ _ _ _ _ _ _ _ _ S2 (heap_setCell_same t H 2 _ _ _ (K.trans hH)) ⟨⟨news,?_,fun i p j c h1 h2=>hnr.out i p j c h1 h2⟩,fun p hp=>by obtain ⟨y,_,rfl⟩:=List.mem_map.1 hp;exact aOO y,fun k S i => ?_⟩;· rw [List.length_map];exact ownsRow_setCell_other hown2 (a:=⟨H,2,none⟩) (by simp [Value.ownBlock,ne_eq];omega) _
  have  := by simpa [Value.ownBlock] using S.symm
  rw [this];exact rR r T i
theorem OwnL.add {B e size cap g M M' w' es p ys us} (n:ys.length=es.length*size) (s:∀ i p j c,es[i]?=some p->p.cells[j]?=some c->∃ u,ys[i*size+j]?=some u/\Rv M noB c u) (l:∀ p∈es,okEl size p) (y:okEl size p) (w:∀ (j:Nat) c,p.cells[j]?=some c->∃ u,us[j]?=some u/\Rv M' noB c u) (r:∀ b i v,M b i=some v->M' b i=some v)
  (C:w'.ownsRow B e size (.slice (some ⟨g,0,none⟩) (es.length+1) cap) (es.length+1) (ys++us)) (A:∀ i,M' g i=none):OwnL B M' w' e size (es++[p]) (.slice (some ⟨g,0,none⟩) (es.length+1) cap):=by
 refine ⟨⟨ys++us,by grind,fun i q j c d m => ?_⟩,fun q d => ?_,fun k x i => ?_⟩
 ·rcases Nat.lt_or_ge i es.length with f | t;· rw [List.getElem?_append_left f] at d;obtain ⟨u,z,o⟩:=s i q j c d m;exact ⟨u,by grind,o.mono r (fun _ _ _ h=>h)⟩
  grind
 ·grind
 have  := by simpa [Value.ownBlock] using x.symm
 grind
structure MO (B:Nat) (M:Mem) (w:World) (x:GOp) (u2 u3 u4:Value):Prop where
 o2:OwnL B M w 54 10 (List.map aB x.vars) u2
 r3:Rv M noB (.slice (List.map aI x.dirs) [] false) u3
 r4:Rv M noB (.slice (List.map aF x.sels) [] false) u4
def Own2 (a:Value) (k:Nat):Prop:=a.ownBlock=some k
theorem MO.lt {B M w x a b c} (h:MO B M w x a b c):∀ k,Own2 a k->B<=k/\k<w.heap.size:=h.o2.lt
theorem MO.le {B B' M w x b a c} (h:MO B M w x b a c) (d:B'<=B):MO B' M w x b a c:=⟨h.o2.le d,h.r3,h.r4⟩
theorem MO.move {B M M' w w' x a d e} (h:MO B M w x a d e) (c:∀ b i v,M b i=some v->M' b i=some v) (f:∀ k,Own2 a k->w'.heap[k]?=w.heap[k]?) (g:∀ k,Own2 a k->∀ i,M' k i=M k i):MO B M' w' x a d e :=
 ⟨h.o2.move c f g,h.r3.mono c (fun _ _ _ h=>h),h.r4.mono c (fun _ _ _ h=>h)⟩
theorem MO.frz {B M w x c d e} (h:MO B M w x c d e) (a:Cons M w):∃ M',(∀ b i v,M b i=some v->M' b i=some v)/\Cons M' w/\OCV M' x c d e/\∀ b,¬ Own2 c b->∀ i,M' b i=M b i :=
 ⟨_,aAw a,aMD a,⟨h.o2.rv a,h.r3.mono (aAw a) (fun _ _ _ h=>h),h.r4.mono (aAw a) (fun _ _ _ h=>h)⟩,fun _ f=>aD5 f⟩
def aEf (M:Mem) (m:Nat) (c b d:Value) (l:List GOp) (ys:List Value):Prop :=
 ys.length=l.length*5/\∀ i x,l[i]?=some x->∃ a v3 v4,((i=m/\a=c/\v3=b/\v4=d)∨(i≠m/\OCV M x a v3 v4))/\∀ j u,(tF x a v3 v4)[j]?=some u->ys[i*5+j]?=some u
theorem aEf.nil M m b a c:aEf M m b a c [] []:=⟨rfl,fun i x h=>by grind⟩
theorem aEf.mono {M M' m c a d l ys} (h:aEf M m c a d l ys) (f:∀ b i v,M b i=some v->M' b i=some v):aEf M' m c a d l ys :=
 ⟨h.1,fun i x e=>by
  obtain ⟨k,v3,v4,j,g⟩:=h.2 i x e;exact ⟨k,v3,v4,j.imp id (fun h=>⟨h.1,h.2.mono f⟩),g⟩⟩
theorem aEf.early {M m f e g j v3 v4 l ys} (h:aEf M m f e g l ys) (o:l.length<=m):aEf M m j v3 v4 l ys :=
 ⟨h.1,fun i x d=>by
  obtain ⟨a,b,c,n,k⟩:=h.2 i x d;grind⟩
theorem aEf.snoc {M m o k q l ys x g v3 v4} (h:aEf M m o k q l ys) (s:(l.length=m/\g=o/\v3=k/\v4=q)∨(l.length≠m/\OCV M x g v3 v4)):aEf M m o k q (l++[x]) (ys++tF x g v3 v4):=by
 have t:=h.1;refine ⟨by simp;omega,fun i x' d => ?_⟩;rcases Nat.lt_or_ge i l.length with p | r
 ·rw [List.getElem?_append_left p] at d;obtain ⟨a,b,c,w,v⟩:=h.2 i x' d;refine ⟨a,b,c,w,fun j u f => ?_⟩;have y  := by have:=(List.getElem?_eq_some_iff.1 f).1;simpa using this
  rw [List.getElem?_append_left (by omega)];exact v j u f
 rw [List.getElem?_append_right r] at d;have e:i-l.length=0:=by
  rcases Nat.eq_zero_or_pos (i-l.length) with e | e;· exact e
  rw [List.getElem?_eq_none (by simp;omega)] at d;cases d
 rw [e] at d;cases d;have n:i=l.length:=by omega
 refine ⟨g,v3,v4,by rw [n];exact s,fun j u f => ?_⟩;rw [List.getElem?_append_right (by omega),show i*5+j-ys.length=j by omega];exact f
structure DM (m:Nat) (M:Mem) (w:World) (M1:Mem) (wr:World) (k:Nat) (ops:List GOp) (a' b' vo:Value) (ys:List Value) (u2 u3 u4:Value):Prop where
 box1:wr.heap[w.heap.size]?=some (.cells #[a',b'] 28 (0,0))
 box2:wr.heap[w.heap.size+1]?=some (.cells #[.slice none 0 0,.slice none 0 0] 28 (0,0))
 out:wr.heap[w.heap.size+2]?=some (.cells #[vo,.slice none 0 0] 28 (0,0))
 own:wr.ownsRow (w.heap.size+3) 38 5 vo k ys
 rows:aEf M1 m u2 u3 u4 (ops.take k) ys
 cons:Cons M1 wr
 frm:From w.heap.size M w M1 wr
 f1:∀ i,M1 (w.heap.size+1) i=none
 f2:∀ i,M1 (w.heap.size+2) i=none
 fo:∀ g,vo.ownBlock=some g->∀ i,M1 g i=none
 mrk:∀ x,m<k->ops[m]?=some x->MO (w.heap.size+3) M1 wr x u2 u3 u4/\∀ g,Own2 u2 g->vo.ownBlock≠some g
theorem DM.next {m M M1 P w C p n k j X b' D v3 v4 V O g l ys Y W u4 x} (c:DM m M w M1 C k j X b' (.slice V k O) ys Y W u4) (N:j[k]?=some x) (S:Stp C.heap.size M1 C P p) (I:MO (C.heap.size+1) P p x D v3 v4)
  (r:n.ownsRow (w.heap.size+3) 38 5 (.slice (some ⟨g,0,none⟩) (k+1) l) (k+1) (ys++tF x D v3 v4)) (s:n.heap[w.heap.size+2]?=some (.cells #[.slice (some ⟨g,0,none⟩) (k+1) l,.slice none 0 0] 28 (0,0)))
  (blk:∀ b,b<p.heap.size->b≠w.heap.size+2->(Value.slice V k O).ownBlock≠some b->n.heap[b]?=p.heap[b]?) (K:(Value.slice V k O).ownBlock=some g∨p.heap.size<=g) (z:n.os=p.os) (G:n.tape=p.tape) (y:n.output=p.output) (F:p.heap.size<=n.heap.size) :
  ∃ L t2 t3 t4,DM m M w L n (k+1) j X b' (.slice (some ⟨g,0,none⟩) (k+1) l) (ys++tF x D v3 v4) t2 t3 t4:=by
 have U  := (Array.getElem?_eq_some_iff.1 c.out).1;have hS:=S.size;have d:∀ b,b<w.heap.size+2->n.heap[b]?=C.heap[b]?:=fun b a =>
  (blk b (by omega) (by omega) (fun e=>by have:=(c.own.lt b e).1;omega)).trans (S.blk b (by omega) (by omega))
 have hlk:(j.take k).length=k:=by
  rw [List.length_take];have:=(List.getElem?_eq_some_iff.1 N).1;omega
 have E:j.take (k+1)=j.take k++[x]:=by rw [List.take_add_one,N];rfl
 have Z  := kL S.cons fun b a ⟨i,hi⟩=>blk b a (fun e=>hi (by rw [e,S.old _ U];exact c.f2 i)) (fun e=>hi (by rw [S.old _ (c.own.lt b e).2];exact c.fo b e i));have T  := fun b a=>by
  have:=I.lt b a;exact blk b this.2 (by omega) (fun e=>by have:=(c.own.lt b e).2;omega)
 have A  := I.move (fun _ _ _ h=>h) T (fun _ _ _=>rfl);have B:∀ b,Own2 D b->b≠g:=fun b a e=>by
  have J:=I.lt b a;rcases K with h | h;· have:=(c.own.lt g h).2;omega
  omega
 by_cases R:k=m
 ·refine ⟨P,D,v3,v4,(d _ (by omega)).trans c.box1,(d _ (by omega)).trans c.box2,s,r,?_,Z,?_,?_,?_,?_,?_⟩;· rw [E];exact ((c.rows.mono S.mem).early (by omega)).snoc (.inl ⟨by omega,rfl,rfl,rfl⟩)
  ·exact c.frm.trans ⟨S.mem,fun b a i=>S.old b (by omega) i,z.trans S.os,G.trans S.tape,y.trans S.output,Nat.le_trans S.size F,fun b a=>d b (by omega)⟩
  ·intro i;rw [S.old _ (by omega)];exact c.f1 i
  ·intro i;rw [S.old _ U];exact c.f2 i
  ·intro b a i;have e  := by simpa [Value.ownBlock] using a.symm
   subst e;rcases K with h | h;· rw [S.old _ (c.own.lt b h).2];exact c.fo b h i
   exact rR S.cons h i
  intro x' _ o;rw [<- R,N] at o;cases o;exact ⟨A.le (by omega),fun b a e=>B b a (by simpa [Value.ownBlock] using e.symm)⟩
 obtain ⟨L,t,c5,Q,H⟩:=A.frz Z;have f  := fun b a i=>(H b (fun h=>by have:=(I.lt b h).1;omega) i).trans (S.old b a i);refine ⟨L,Y,W,u4,(d _ (by omega)).trans c.box1,(d _ (by omega)).trans c.box2,s,r,?_,c5,?_,?_,?_,?_,?_⟩;· rw [E];exact ((c.rows.mono S.mem).mono t).snoc (.inr ⟨by omega,Q⟩)
 ·exact c.frm.trans ⟨fun b i v hv=>t b i v (S.mem b i v hv),fun b a i=>f b (by omega) i,z.trans S.os,G.trans S.tape,y.trans S.output,Nat.le_trans S.size F,fun b a=>d b (by omega)⟩
 ·intro i;rw [f _ (by omega)];exact c.f1 i
 ·intro i;rw [f _ U];exact c.f2 i
 ·intro b a i;have e  := by simpa [Value.ownBlock] using a.symm
  subst e;rcases K with h | h;· rw [f _ (c.own.lt b h).2];exact c.fo b h i
  rw [H b (fun h'=>B b h' rfl)];exact rR S.cons h i
 intro x' hmk o;obtain ⟨J,h2⟩:=c.mrk x' (by omega) o;have u  := fun b a=>(J.lt b a).2;refine ⟨J.move (fun b i v hv=>t b i v (S.mem b i v hv)) (fun b a => ?_) (fun b a=>f b (u b a)),fun b a e => ?_⟩;· have q:=u b a;exact (blk b (by omega) (by have:=(J.lt b a).1;omega) (h2 b a)).trans (S.blk b q (by omega))
 have e  := by simpa [Value.ownBlock] using e
 have q:=u b a;rcases K with h | h;· exact h2 b a (by rw [<- e];exact h)
 omega
theorem bD9 m ops oa cap b' M w (hN:ops.length<=1048576) (hcap:ops.length<=cap) (hsm:∀ x∈ops,x.vars.length<=1048576/\bkSl fD x.dirs<1073741824/\aV x.sels<1073741824)
  (hat:ops≠[]->∃ blk off,oa=some ⟨blk,off,none⟩) (hcell:∀ blk off,oa=some ⟨blk,off,none⟩->∀ k x,ops[k]?=some x->∃ v2 v3 v4,OCV M x v2 v3 v4/\∀ j v,(tF x v2 v3 v4)[j]?=some v->M blk (off+k*5+j)=some v)
  M0 w0 (h0:DM m M w M0 w0 0 ops (.slice oa ops.length cap) b' (.slice none 0 0) [] undef undef undef) Q v0 v2 v4 v5 v6 v7 v8 v9 v10 d K v13 D p v16 v17 v18 v19 v20 v21 Y F v24 R U f E q c I A u b G v36 B v38 v39 v40 v41 v42 v43 v44 v45 v46 v47 v48 v49 v50 v51 v52 v53 v54 v55 v56 v57 v58 v59 v60 v61 v62 v63 v64 v65
  (hC:∀ w' M' ga gc ys u2 u3 u4 z4 z5 z9 t z11 C P z14 O y z Z V z20 z21 z22 z23 z24 z25 z26 z27 z28 z29 z30 z31 z32 z33 z34 z35 z36 z37 z38,DM m M w M' w' ops.length ops (.slice oa ops.length cap) b' (.slice ga ops.length gc) ys u2 u3 u4->Q .normal ⟨#[v0,.pointer (some ⟨w.heap.size,0,none⟩),v2,.pointer (some ⟨w.heap.size+1+1,0,none⟩),z4,z5,v6,v7,v8,z9,t,z11,C,P,z14,O,y,z,Z,V,z20,z21,z22,z23,z24,z25,z26,z27,z28,z29,z30,z31,z32,z33,z34,z35,z36,z37,z38,v39,v40,v41,v42,v43,v44,v45,v46,v47,v48,v49,v50,v51,v52,v53,v54,v55,v56,v57,v58,v59,v60,v61,v62,v63,v64,v65],[]⟩ w') :
  Code.wp Tryz.prog (fstC (sndC (sndC (bZ Tryz.f13)))) Q ⟨#[v0,.pointer (some ⟨w.heap.size,0,none⟩),v2,.pointer (some ⟨w.heap.size+1+1,0,none⟩),v4,v5,v6,v7,v8,v9,v10,d,K,v13,D,p,v16,v17,v18,v19,v20,v21,Y,F,v24,R,U,f,E,q,c,I,A,u,b,G,v36,B,v38,v39,v40,v41,v42,v43,v44,v45,v46,v47,v48,v49,v50,v51,v52,v53,v54,v55,v56,v57,v58,v59,v60,v61,v62,v63,v64,v65],[]⟩ w0:=by
 obtain ⟨N,hln⟩:∃ N,ops.length=N:=⟨_,rfl⟩;rw [hln] at hN hcap;simp only [hln] at hC h0;replace hC:=(id hC:Hid _);have hb0:w0.cell? ⟨w.heap.size,0,none⟩=some (.slice oa N cap):=by rw [cell_of_row w0 _ 0 _ _ _ h0.box1];rfl
 simp [Tryz.f13,bZ,inC,blA,blB,blkC,lopC,fstC,sndC];go_wp2;by_cases h0N:N=0;· subst h0N;refine wp_loop_rounds 1 ?_;rw [rounds_succ];go_wp2;exact hC.out _ _ _ _ _ _ _ _ _ _ _ _ _ _ _ _ _ _ _ _ _ _ _ _ _ _ _ _ _ _ _ _ _ _ _ _ _ _ _ _ h0
 obtain ⟨blk,off,rfl⟩:=hat (by intro e;rw [e] at hln;simp at hln;omega);go_loopw [4] (fun t4 wr=>∃ (k:Nat) (M1:Mem) (vo:Value) (ys:List Value) (u2 u3 u4:Value),k<=N/\t4 = .int .i64 k/\DM m M w M1 wr k ops (.slice (some ⟨blk,off,none⟩) N cap) b' vo ys u2 u3 u4) (fun t4 _=>N-(intOf t4).toNat);case atStart=>exact ⟨0,M0,_,[],_,_,_,Nat.zero_le _,rfl,h0⟩
 case round =>
  obtain ⟨k,M1,vo,ys,u2,u3,u4,hk,rfl,hD⟩:=hrel;have hb1:wr.cell? ⟨w.heap.size,0,none⟩=some (.slice (some ⟨blk,off,none⟩) N cap):=by rw [cell_of_row wr _ 0 _ _ _ hD.box1];rfl
  obtain ⟨x,a2,l2,p2,a3,l3,p3,a4,l4,p4,hx⟩:∃ x a2 l2 p2 a3 l3 p3 a4 l4 p4,k<N->ops[k]?=some x/\OCV M1 x (.slice a2 l2 p2) (.slice a3 l3 p3) (.slice a4 l4 p4)/\(∀ j v,(tF x (.slice a2 l2 p2) (.slice a3 l3 p3) (.slice a4 l4 p4))[j]?=some v->wr.cell? ⟨blk,off+k*5+j,none⟩=some v):=by
   by_cases hkN:k<N;· have hg:=List.getElem?_eq_getElem (l:=ops) (i:=k) (by omega);obtain ⟨v2,v3,v4,h1,h2⟩:=hcell blk off rfl k _ hg;obtain ⟨a2,l2,p2,rfl⟩:=lW h1.r2;obtain ⟨a3,l3,p3,rfl⟩:=lW h1.r3;obtain ⟨a4,l4,p4,rfl⟩:=lW h1.r4;exact ⟨_,a2,l2,p2,a3,l3,p3,a4,l4,p4,fun _=>⟨hg,h1.mono hD.frm.mem,fun j v hv=>dS hD.cons (hD.frm.mem _ _ _ (h2 j v hv))⟩⟩
   exact ⟨⟨0,[],[],[],[]⟩,none,0,0,none,0,0,none,0,0,fun h=>absurd h hkN⟩
  have x0:k<N->wr.cell? ⟨blk,off+k*5,none⟩=some (.int .i64 x.kind):=fun h=>(hx h).2.2 0 _ rfl;have x1:k<N->wr.cell? ⟨blk,off+k*5+1,none⟩=some (.string ⟨x.name.toArray⟩):=fun h=>(hx h).2.2 1 _ rfl;have x2:k<N->wr.cell? ⟨blk,off+k*5+2,none⟩=some (.slice a2 l2 p2):=fun h=>(hx h).2.2 2 _ rfl;have x3:k<N->wr.cell? ⟨blk,off+k*5+3,none⟩=some (.slice a3 l3 p3):=fun h=>(hx h).2.2 3 _ rfl;have x4:k<N->wr.cell? ⟨blk,off+k*5+4,none⟩=some (.slice a4 l4 p4):=fun h=>(hx h).2.2 4 _ rfl;have hsz:w.heap.size+3<=wr.heap.size:=by have:=(Array.getElem?_eq_some_iff.1 hD.out).1;omega
  replace hx:=(id hx:Hid _);change Code.wp Tryz.prog (.seq cAC (.seq (.block 1 (.seq r5C (.seq r6C (.seq r7C r8C)))) r4C)) _ _ _;unfold cAC r4C r5C;simp only [Tryz.f13,bZ,inC,blA,blB,blkC,lopC,fstC,sndC];go_wp2
  ·rename_i hkN K1 hK1 K0 hK0;obtain ⟨hxk,hcv,_⟩:=hx.out hkN;obtain ⟨s1,s2,s3⟩:=hsm x (List.mem_of_getElem? hxk);obtain ⟨ga,gc,rfl⟩:=aBs hD.own;refine bGs (M:=M1) wr.heap.size x a2 l2 p2 a3 l3 p3 a4 l4 p4 (Stp.alloc (H:=0) hD.cons _).cons (heap_alloc_new wr _) (fun i=>rR hD.cons (Nat.le_refl _) i) hcv.r2 s1 _ _ _ _ _ _ _ _ _ _ _ _ _ _ _ _ _ _ _ _ _ _ _ _ _ _ _ _ _ _ _ _ _ _ _ _ _ _ _ _ _ _ _ _ _ _ _ _ _ _ _ _ _ _ _ _ _ _ _ _ _ _ _ _ _ _ (fun w2 M2 b2 X W z21 z22 z23 z24 S2 hH2 hr2 => ?_);refine hK0 _ _ ?_;refine wp_seq ?_;refine bGp (M:=M2) wr.heap.size x b2 X W a3 l3 p3 a4 l4 p4 S2.cons hH2 (S2.free (by simp) (fun i=>rR hD.cons (Nat.le_refl _) i)) (hcv.r3.mono S2.mem (fun _ _ _ h=>h)) (hcv.r4.mono S2.mem (fun _ _ _ h=>h)) s2 s3 _ _ _ _ _ _ _ _ _ _ _ _ _ _ _ _ _ _ _ _ _ _ _ _ _ _ _ _ _ _ _ _ _ _ _ _ _ _ _ _ _ _ _ _ _ _ _ _ _ _ _ _ _ _ _ _ _ _ _ _ _ _ _ _ _ _ (fun J M3 b3 m3 q3 b4 m4 q4 z25 z26 z27 z28 z29 z30 z31 z32 S3 o n s => ?_);have S:=((Stp.alloc (H:=wr.heap.size) hD.cons _).trans S2).trans S3;have r:J.heap[w.heap.size+1+1]?=some (.cells #[.slice ga k gc,.slice none 0 0] 28 (0,0)):=(S.blk _ (by omega) (by omega)).trans hD.out;have hown3:J.ownsRow (w.heap.size+3) 38 5 (.slice ga k gc) k ys:=jG hD.own fun g hg=>S.blk g (hD.own.lt g hg).2 (by have:=(hD.own.lt g hg).2;omega);refine bJp wr.heap.size (w.heap.size+1+1) (w.heap.size+3) x b2 X W b3 m3 q3 b4 m4 q4 ga k gc ys _ o r hown3 (by omega) (by have:=S.size;omega) (by omega) _ _ _ _ _ _ _ _ _ _ _ _ _ _ _ _ _ _ _ _ _ _ _ _ _ _ _ _ _ _ _ _ _ _ _ _ _ _ _ _ _ _ _ _ _ _ _ _ _ _ _ _ _ _ _ _ _ _ _ _ _ _ _ _ _ (fun w4 g cap' z33 z34 z35 z36 z37 z38 own' out' hblk hg T L hou hsz4 => ?_);have e1:(wr.alloc (.cells #[.int .i64 x.kind,.string ⟨x.name.toArray⟩,.slice a2 l2 p2,.slice a3 l3 p3,.slice a4 l4 p4] 38)).heap.size=wr.heap.size+1:=by simp
   have hs2:=S2.size;have o2:=(hr2.stp S3 (fun e=>by have:=(hr2.lt _ e).1;omega)).le (B':=wr.heap.size+1) (by omega);have a:MO (wr.heap.size+1) M3 J x (.slice b2 X W) (.slice b3 m3 q3) (.slice b4 m4 q4):=⟨o2,n,s⟩;obtain ⟨M4,t2,t3,t4,hDn⟩:=hD.next hxk S a own' out' hblk hg T L hou hsz4;replace hDn:=(id hDn:Hid _);refine hK1 _ _ ?_;clear hblk own' out' hK0 hK1;go_wp2;go_roundw;case rel=>exact ⟨k+1,M4,_,_,_,_,_,by omega,by go_num,hDn.out⟩
   case measure=>simp [intOf];omega
  rename_i K0 hK0 hkN;have e:k=N:=by omega
  subst e;obtain ⟨ga,gc,rfl⟩:=aBs hD.own;exact hC.out _ _ _ _ _ _ _ _ _ _ _ _ _ _ _ _ _ _ _ _ _ _ _ _ _ _ _ _ _ _ _ _ _ _ _ _ _ _ _ _ hD
def cBCm:Code:=fstC (lopC (blkC (blB (bZ Tryz.f13))))
def bJr:Code:=fstC (inC (blB (bZ Tryz.f13)))
def bJs:Code:=sndC (sndC (lopC (blkC (blB (bZ Tryz.f13)))))
structure DG (m:Nat) (u2 u3 u4:Value) (M:Mem) (w:World) (M1:Mem) (wr:World) (k:Nat) (ops:List GOp) (frags:List GFrag) (a' b' va:Value) (ys:List Value) (vf:Value) (zs:List Value):Prop where
 box1:wr.heap[w.heap.size]?=some (.cells #[a',b'] 28 (0,0))
 box2:wr.heap[w.heap.size+1]?=some (.cells #[.slice none 0 0,.slice none 0 0] 28 (0,0))
 out:wr.heap[w.heap.size+2]?=some (.cells #[va,vf] 28 (0,0))
 ownA:wr.ownsRow (w.heap.size+3) 38 5 va ops.length ys
 own:wr.ownsRow (w.heap.size+3) 68 4 vf k zs
 rowsA:aEf M1 m u2 u3 u4 ops ys
 rows:FrRow M1 (frags.take k) zs
 cons:Cons M1 wr
 frm:From w.heap.size M w M1 wr
 f1:∀ i,M1 (w.heap.size+1) i=none
 f2:∀ i,M1 (w.heap.size+2) i=none
 foA:∀ g,va.ownBlock=some g->∀ i,M1 g i=none
 fo:∀ g,vf.ownBlock=some g->∀ i,M1 g i=none
 ne:∀ g,va.ownBlock=some g->vf.ownBlock≠some g
 mrk:∀ x,ops[m]?=some x->MO (w.heap.size+3) M1 wr x u2 u3 u4/\∀ g,Own2 u2 g->va.ownBlock≠some g/\vf.ownBlock≠some g
theorem DM.toG {m e d f M M1 w k a frags j b' i ys} (h:DM m M w M1 k a.length a j b' i ys e d f):DG m e d f M w M1 k 0 a frags j b' i ys (.slice none 0 0) [] :=
 ⟨h.box1,h.box2,h.out,h.own,World.ownsRow_nil _ _ _ _,by have:=h.rows;grind,.nil,h.cons,h.frm,h.f1,h.f2,h.fo,fun g b=>by simp [Value.ownBlock] at b,fun g b=>by simp [Value.ownBlock],fun x c=>by
  obtain ⟨n,l⟩:=h.mrk x (List.getElem?_eq_some_iff.1 c).1 c;exact ⟨n,fun g b=>⟨l g b,by simp [Value.ownBlock]⟩⟩⟩
theorem DG.next {m u2 u3 u4 M M1 B w s j f k o frags a' b' A v3 v4 ga gc g d ys zs x} (c:DG m u2 u3 u4 M w M1 s k o frags a' b' A ys (.slice ga k gc) zs) (hx:frags[k]?=some x) (S:Stp s.heap.size M1 s B j) (hc:FCV B x v3 v4)
  (p:f.ownsRow (w.heap.size+3) 68 4 (.slice (some ⟨g,0,none⟩) (k+1) d) (k+1) (zs++aG9 x v3 v4)) (r:f.heap[w.heap.size+2]?=some (.cells #[A,.slice (some ⟨g,0,none⟩) (k+1) d] 28 (0,0)))
  (blk:∀ b,b<j.heap.size->b≠w.heap.size+2->(Value.slice ga k gc).ownBlock≠some b->f.heap[b]?=j.heap[b]?) (hg:(Value.slice ga k gc).ownBlock=some g∨j.heap.size<=g) (v:f.os=j.os) (hta:f.tape=j.tape) (t:f.output=j.output) (u:j.heap.size<=f.heap.size) :
  DG m u2 u3 u4 M w B f (k+1) o frags a' b' A ys (.slice (some ⟨g,0,none⟩) (k+1) d) (zs++aG9 x v3 v4):=by
 have hZ  := (Array.getElem?_eq_some_iff.1 c.out).1;have l:∀ b,b<w.heap.size+2->f.heap[b]?=s.heap[b]?:=fun b a =>
  (blk b (by have:=S.size;omega) (by omega) (fun e=>by have:=(c.own.lt b e).1;omega)).trans (S.blk b (by omega) (by omega))
 have hA  := fun b a=>by
  obtain ⟨q1,q2⟩:=c.ownA.lt b a;exact (blk b (by have:=S.size;omega) (by omega) (c.ne b a)).trans (S.blk b q2 (by omega))
 refine ⟨(l _ (by omega)).trans c.box1,(l _ (by omega)).trans c.box2,r,jG c.ownA hA,p,c.rowsA.mono S.mem,?_,?_,?_,?_,?_,?_,?_,?_,?_⟩
 ·have e:frags.take (k+1)=frags.take k++[x]:=by rw [List.take_add_one,hx];rfl
  rw [e];exact .snoc (c.rows.mono S.mem) hc
 ·refine kL S.cons fun b a ⟨i,hi⟩=>blk b a (fun e=>hi ?_) (fun e=>hi ?_);· rw [e,S.old _ hZ];exact c.f2 i
  rw [S.old _ (c.own.lt b e).2];exact c.fo b e i
 ·exact c.frm.trans ⟨S.mem,fun b a i=>S.old b (by omega) i,v.trans S.os,hta.trans S.tape,t.trans S.output,Nat.le_trans S.size u,fun b a=>by grind⟩
 ·intro i;rw [S.old _ (by omega)];exact c.f1 i
 ·intro i;rw [S.old _ hZ];exact c.f2 i
 ·intro b a i;rw [S.old _ (c.ownA.lt b a).2];exact c.foA b a i
 ·intro b a i;have e  := by simpa [Value.ownBlock] using a.symm
  subst e;rcases hg with h | h;· rw [S.old _ (c.own.lt b h).2];exact c.fo b h i
  exact rR S.cons h i
 ·intro b a e;have e  := by simpa [Value.ownBlock] using e.symm
  subst e;rcases hg with h | h;· exact c.ne b a h
  have:=(c.ownA.lt b a).2;have:=S.size;omega
 intro x' z;obtain ⟨y,h2⟩:=c.mrk x' z;have n  := fun b a=>(y.lt b a).2;refine ⟨y.move S.mem (fun b a => ?_) (fun b a=>S.old b (n b a)),fun b a=>⟨(h2 b a).1,fun e => ?_⟩⟩;· have q:=n b a;have:=S.size;exact (blk b (by omega) (by have:=(y.lt b a).1;omega) (h2 b a).2).trans (S.blk b q (by omega))
 have e  := by simpa [Value.ownBlock] using e
 have q:=n b a;rcases hg with h | h;· exact by grind
 have:=S.size;omega
theorem bEa m R u3 Z ops frags oa cap d M w (hN:frags.length<=1048576) (hcap:frags.length<=cap) (hsm:∀ x∈frags,bkSl fD x.dirs<1073741824/\aV x.sels<1073741824)
  (D:frags≠[]->∃ blk off,oa=some ⟨blk,off,none⟩) (hcell:∀ blk off,oa=some ⟨blk,off,none⟩->∀ k x,frags[k]?=some x->∃ v2 v3,FCV M x v2 v3/\∀ j v,(aG9 x v2 v3)[j]?=some v->M blk (off+k*4+j)=some v)
  M0 w0 u ys (h0:DG m R u3 Z M w M0 w0 0 ops frags d (.slice oa frags.length cap) u ys (.slice none 0 0) []) Q v0 v2 v4 v5 v6 v7 v8 v9 v10 v11 v12 v13 v14 v15 v16 v17 v18 v19 v20 v21 v22 v23 v24 v25 v26 v27 v28 v29 v30 v31 v32 v33 v34 v35 v36 v37 v38 K v40 V Y U B v45 C P L I n v51 v52 v53 F T v56 o r J v60 v61 X a v64 v65
  (hC:∀ w' M' ga gc zs z6 z7 c p W s O z44 q f z47 E z49 z50 z51 z52 z53 z54 z55 z56 z57 z58 z59 z60 z61 z62 z63 z64,DG m R u3 Z M w M' w' frags.length ops frags d (.slice oa frags.length cap) u ys (.slice ga frags.length gc) zs->Q .normal ⟨#[v0,.pointer (some ⟨w.heap.size,0,none⟩),v2,.pointer (some ⟨w.heap.size+1+1,0,none⟩),v4,v5,z6,z7,v8,v9,v10,v11,v12,v13,v14,v15,v16,v17,v18,v19,v20,v21,v22,v23,v24,v25,v26,v27,v28,v29,v30,v31,v32,v33,v34,v35,v36,v37,v38,c,p,W,s,O,z44,q,f,z47,E,z49,z50,z51,z52,z53,z54,z55,z56,z57,z58,z59,z60,z61,z62,z63,z64,v65],[]⟩ w') :
  Code.wp Tryz.prog (fstC (sndC (sndC (sndC (bZ Tryz.f13))))) Q ⟨#[v0,.pointer (some ⟨w.heap.size,0,none⟩),v2,.pointer (some ⟨w.heap.size+1+1,0,none⟩),v4,v5,v6,v7,v8,v9,v10,v11,v12,v13,v14,v15,v16,v17,v18,v19,v20,v21,v22,v23,v24,v25,v26,v27,v28,v29,v30,v31,v32,v33,v34,v35,v36,v37,v38,K,v40,V,Y,U,B,v45,C,P,L,I,n,v51,v52,v53,F,T,v56,o,r,J,v60,v61,X,a,v64,v65],[]⟩ w0:=by
 obtain ⟨N,hln⟩:∃ N,frags.length=N:=⟨_,rfl⟩;rw [hln] at hN hcap;simp only [hln] at hC h0;replace hC:=(id hC:Hid _);have hb0:w0.cell? ⟨w.heap.size,1,none⟩=some (.slice oa N cap):=by rw [cell_of_row w0 _ 1 _ _ _ h0.box1];rfl
 simp [Tryz.f13,bZ,inC,blA,blB,blkC,lopC,fstC,sndC];go_wp2;by_cases G:N=0;· subst G;refine wp_loop_rounds 1 ?_;rw [rounds_succ];go_wp2;exact hC.out _ _ _ _ _ _ _ _ _ _ _ _ _ _ _ _ _ _ _ _ _ _ _ _ _ _ _ _ _ _ _ _ _ h0
 obtain ⟨blk,off,rfl⟩:=D (by intro e;rw [e] at hln;simp at hln;omega);go_loopw [6] (fun t6 wr=>∃ (k:Nat) (M1:Mem) (vf:Value) (zs:List Value),k<=N/\t6 = .int .i64 k/\DG m R u3 Z M w M1 wr k ops frags d (.slice (some ⟨blk,off,none⟩) N cap) u ys vf zs) (fun t6 _=>N-(intOf t6).toNat);case atStart=>exact ⟨0,M0,_,[],Nat.zero_le _,rfl,h0⟩
 case round =>
  obtain ⟨k,M1,vf,zs,hk,rfl,hD⟩:=hrel;have hb1:wr.cell? ⟨w.heap.size,1,none⟩=some (.slice (some ⟨blk,off,none⟩) N cap):=by rw [cell_of_row wr _ 1 _ _ _ hD.box1];rfl
  obtain ⟨x,a3,l3,p3,a4,l4,p4,hx⟩:∃ x a3 l3 p3 a4 l4 p4,k<N->frags[k]?=some x/\FCV M1 x (.slice a3 l3 p3) (.slice a4 l4 p4)/\(∀ j v,(aG9 x (.slice a3 l3 p3) (.slice a4 l4 p4))[j]?=some v->wr.cell? ⟨blk,off+k*4+j,none⟩=some v):=by
   by_cases hkN:k<N;· have hg:=List.getElem?_eq_getElem (l:=frags) (i:=k) (by omega);obtain ⟨v3,v4,h1,h2⟩:=hcell blk off rfl k _ hg;obtain ⟨a3,l3,p3,rfl⟩:=lW h1.r2;obtain ⟨a4,l4,p4,rfl⟩:=lW h1.r3;exact ⟨_,a3,l3,p3,a4,l4,p4,fun _=>⟨hg,h1.mono hD.frm.mem,fun j v hv=>dS hD.cons (hD.frm.mem _ _ _ (h2 j v hv))⟩⟩
   exact ⟨⟨[],[],[],[]⟩,none,0,0,none,0,0,fun h=>absurd h hkN⟩
  have x0:k<N->wr.cell? ⟨blk,off+k*4,none⟩=some (.string ⟨x.name.toArray⟩):=fun h=>(hx h).2.2 0 _ rfl;have x1:k<N->wr.cell? ⟨blk,off+k*4+1,none⟩=some (.string ⟨x.on_.toArray⟩):=fun h=>(hx h).2.2 1 _ rfl;have x2:k<N->wr.cell? ⟨blk,off+k*4+2,none⟩=some (.slice a3 l3 p3):=fun h=>(hx h).2.2 2 _ rfl;have x3:k<N->wr.cell? ⟨blk,off+k*4+3,none⟩=some (.slice a4 l4 p4):=fun h=>(hx h).2.2 3 _ rfl;have hsz:w.heap.size+3<=wr.heap.size:=by have:=(Array.getElem?_eq_some_iff.1 hD.out).1;omega
  replace hx:=(id hx:Hid _);change Code.wp Tryz.prog (.seq cBCm (.seq (.block 3 (.seq bJr (.seq r13C r14C))) bJs)) _ _ _;unfold cBCm bJs bJr;simp only [Tryz.f13,bZ,inC,blA,blB,blkC,lopC,fstC,sndC];go_wp2
  ·rename_i hkN K1 hK1 K0 hK0;obtain ⟨hxk,hcv,_⟩:=hx.out hkN;obtain ⟨s2,s3⟩:=hsm x (List.mem_of_getElem? hxk);obtain ⟨ga,gc,rfl⟩:=aBs hD.own;refine bGq (M:=M1) wr.heap.size x a3 l3 p3 a4 l4 p4 (Stp.alloc (H:=0) hD.cons _).cons (heap_alloc_new wr _) (fun i=>rR hD.cons (Nat.le_refl _) i) hcv.r2 hcv.r3 s2 s3 _ _ _ _ _ _ _ _ _ _ _ _ _ _ _ _ _ _ _ _ _ _ _ _ _ _ _ _ _ _ _ _ _ _ _ _ _ _ _ _ _ _ _ _ _ _ _ _ _ _ _ _ _ _ _ _ _ _ _ _ _ _ _ _ _ _ (fun w3 M3 b3 m3 q3 b4 m4 q4 z51 z52 z53 z54 z55 z56 z57 z58 S3 y t A => ?_);have S:=(Stp.alloc (H:=wr.heap.size) hD.cons _).trans S3;have z  := (S.blk _ (by omega) (by omega)).trans hD.out;have hown3  := jG hD.own fun g hg=>S.blk g (hD.own.lt g hg).2 (by have:=(hD.own.lt g hg).2;omega);refine hK0 _ _ ?_;refine bJq wr.heap.size (w.heap.size+1+1) (w.heap.size+3) x b3 m3 q3 b4 m4 q4 ga k gc zs _ y z hown3 (by omega) (by have:=S.size;omega) (by omega) _ _ _ _ _ _ _ _ _ _ _ _ _ _ _ _ _ _ _ _ _ _ _ _ _ _ _ _ _ _ _ _ _ _ _ _ _ _ _ _ _ _ _ _ _ _ _ _ _ _ _ _ _ _ _ _ _ _ _ _ _ _ _ _ _ (fun w4 g cap' z59 z60 z61 z62 z63 z64 own' out' hblk hg b hta hou hsz4 => ?_);have hDn:=hD.next hxk S ⟨t,A⟩ own' out' hblk hg b hta hou hsz4;replace hDn:=(id hDn:Hid _);refine hK1 _ _ ?_;clear hblk own' out' hK0 hK1;go_wp2;go_roundw;case rel=>exact ⟨k+1,M3,_,_,by omega,by go_num,hDn.out⟩
   case measure=>simp [intOf];omega
  rename_i K0 hK0 hkN;have e:k=N:=by omega
  subst e;obtain ⟨ga,gc,rfl⟩:=aBs hD.own;exact hC.out _ _ _ _ _ _ _ _ _ _ _ _ _ _ _ _ _ _ _ _ _ _ _ _ _ _ _ _ _ _ _ _ _ hD
def r0Cm:Code:=fstC (bZ Tryz.f13)
def r1Cm:Code:=fstC (sndC (bZ Tryz.f13))
def laCm:Code:=fstC (sndC (sndC (bZ Tryz.f13)))
def lbCm:Code:=fstC (sndC (sndC (sndC (bZ Tryz.f13))))
def bJt:Code:=sndC (sndC (sndC (sndC (bZ Tryz.f13))))
theorem bIs:Tryz.f13.body=some (.seq r0Cm (.seq r1Cm (.seq laCm (.seq lbCm bJt)))):=by kernel_rfl
structure DQ (m:Nat) (u2 u3 u4:Value) (M:Mem) (w:World) (M1:Mem) (wr:World) (ops:List GOp) (frags:List GFrag) (va:Value) (ys:List Value) (vf:Value) (zs:List Value):Prop where
 ownA:wr.ownsRow w.heap.size 38 5 va ops.length ys
 own:wr.ownsRow w.heap.size 68 4 vf frags.length zs
 rowsA:aEf M1 m u2 u3 u4 ops ys
 rows:FrRow M1 frags zs
 cons:Cons M1 wr
 frm:From w.heap.size M w M1 wr
 foA:∀ g,va.ownBlock=some g->∀ i,M1 g i=none
 fo:∀ g,vf.ownBlock=some g->∀ i,M1 g i=none
 ne:∀ g,va.ownBlock=some g->vf.ownBlock≠some g
 mrk:∀ x,ops[m]?=some x->MO w.heap.size M1 wr x u2 u3 u4/\∀ g,Own2 u2 g->va.ownBlock≠some g/\vf.ownBlock≠some g
theorem DM.start m f e j {M w} b a b' (c:Cons M w):DM m M w M (((w.alloc (.cells #[a,b'] 28)).alloc (.cells #[.slice none 0 0,.slice none 0 0] 28)).alloc (.cells #[.slice none 0 0,.slice none 0 0] 28)) 0 b a b' (.slice none 0 0) [] f e j:=by
 have d:Below w.heap.size w (((w.alloc (.cells #[a,b'] 28)).alloc (.cells #[.slice none 0 0,.slice none 0 0] 28)).alloc (.cells #[.slice none 0 0,.slice none 0 0] 28)) :=
  (((Below.refl _ _).alloc (by omega) _).alloc (by simp) _).alloc (by simp;omega) _
 refine ⟨?_,?_,?_,World.ownsRow_nil _ _ _ _,aEf.nil _ _ _ _ _,vC c d,From.of_below d,fun i=>rR c (by omega) i,fun i=>rR c (by omega) i,fun g h=>by simp [Value.ownBlock] at h,fun x k=>by omega⟩;· rw [heap_alloc_old _ _ (by simp;omega),heap_alloc_old _ _ (by simp)];exact heap_alloc_new _ _
 ·rw [heap_alloc_old _ _ (by simp)];have:=heap_alloc_new (w.alloc (.cells #[a,b'] 28)) (.cells #[.slice none 0 0,.slice none 0 0] 28);simp_all
 have:=heap_alloc_new ((w.alloc (.cells #[a,b'] 28)).alloc (.cells #[.slice none 0 0,.slice none 0 0] 28)) (.cells #[.slice none 0 0,.slice none 0 0] 28);simp_all
theorem DG.done {m o n p M M1 w d a frags z b' r s ys t} (h:DG m o n p M w M1 d frags.length a frags z b' r ys s t) l f :
  DQ m o n p M w M1 ((d.setCell ⟨w.heap.size+1,0,none⟩ l).setCell ⟨w.heap.size+1,1,none⟩ f) a frags r ys s t:=by
 have c:∀ k,k≠w.heap.size+1->((d.setCell ⟨w.heap.size+1,0,none⟩ l).setCell ⟨w.heap.size+1,1,none⟩ f).heap[k]?=d.heap[k]?:=fun k b=>(Below.heap_setCell _ _ _ _ b).trans (Below.heap_setCell _ _ _ _ b);refine ⟨aXO (jG h.ownA fun g j=>c g (by have:=(h.ownA.lt g j).1;omega)) (by omega),aXO (jG h.own fun g j=>c g (by have:=(h.own.lt g j).1;omega)) (by omega),h.rowsA,by have:=h.rows;grind,?_,?_,h.foA,h.fo,h.ne,fun x u => ?_⟩;· exact kL h.cons fun k b ⟨i,y⟩=>c k fun e=>y (by rw [e];exact h.f1 i)
 ·exact h.frm.trans (From.of_below (((Below.refl _ _).setCell (by simp) l).setCell (by simp) f))
 obtain ⟨q,v⟩:=h.mrk x u;exact ⟨(q.move (fun _ _ _ h=>h) (fun k b=>c k (by have:=(q.lt k b).1;omega)) (fun _ _ _=>rfl)).le (by omega),v⟩
theorem aZx m d M w a' b' (hd:fO d<=1048576) (hc:Cons M w) (hra:Rv M noB (.slice (List.map aR d.ops) [] false) a') (hrb:Rv M noB (.slice (List.map aH d.frags) [] false) b') :
  Calls Tryz.prog 13 #[.agg #[a',b']] w fun e w'=>∃ M' ga gc ys gb gd zs u2 u3 u4,e = .returned (.agg #[.slice ga d.ops.length gc,.slice gb d.frags.length gd])/\DQ m u2 u3 u4 M w M' w' d.ops d.frags (.slice ga d.ops.length gc) ys (.slice gb d.frags.length gd) zs:=by
 have h:=pQ d;have A:=dD (f:=bkOp) (fun o=>by rw [lI];omega) d.ops;have X:=dD (f:=gQ) (fun o=>by rw [kH];omega) d.frags;have hso:∀ x∈d.ops,x.vars.length<=1048576/\bkSl fD x.dirs<1073741824/\aV x.sels<1073741824:=by
  intro x hx;have h1:=fM (f:=bkOp) hx;rw [lI] at h1;have h2:=dD (f:=dZ) (fun o=>by rw [fE];omega) x.vars;have e:bkSl gI x.sels=aV x.sels+1:=by rw [cH];rfl
  omega
 have hsf:∀ x∈d.frags,bkSl fD x.dirs<1073741824/\aV x.sels<1073741824:=by
  intro x hx;have h1:=fM (f:=gQ) hx;rw [kH] at h1;have e:bkSl gI x.sels=aV x.sels+1:=by rw [cH];rfl
  omega
 obtain ⟨oa,cap,rfl,hcap,hat,hcell⟩:=aRn hc hra;obtain ⟨ob,capb,rfl,hcapb,hatb,hcellb⟩:=bGo hc hrb;have hst:=DM.start m undef undef undef (M:=M) (w:=w) d.ops (.slice oa d.ops.length cap) (.slice ob d.frags.length capb) hc;refine calls_of_wp Tryz.func13 bIs ?_;simp only [Tryz.ntmps13,List.size_toArray,List.length_cons,List.length_nil,Nat.reduceAdd,Nat.reduceSub,Array.replicate_succ,
   Array.replicate_zero,List.push_toArray,List.append_toArray,List.nil_append,List.cons_append]
 have LA:=@bD9 m d.ops oa cap (.slice ob d.frags.length capb) M w (by omega) hcap hso hat hcell;have LB:=fun u2 u3 u4=>@bEa m u2 u3 u4 d.ops d.frags ob capb (.slice oa d.ops.length cap) M w (by omega) hcapb hsf hatb hcellb;replace LA:=(id LA:Hid _);replace LB:=(id LB:Hid _);replace hst:=(id hst:Hid _);clear hat hcell hatb hcellb hso hsf;generalize hQ:bodyPost Tryz.prog Tryz.f13 _=Q;replace hQ:=(id hQ:Hid _);unfold r0Cm r1Cm;simp [Tryz.f13,bZ,inC,blA,blB,blkC,lopC,fstC,sndC];go_wp2;rename_i K0 hK0;refine LA.out _ _ (DM.start m undef undef undef (M:=M) (w:=w) d.ops (.slice oa d.ops.length cap) (.slice ob d.frags.length capb) hc) _ _ _ _ _ _ _ _ _ _ _ _ _ _ _ _ _ _ _ _ _ _ _ _ _ _ _ _ _ _ _ _ _ _ _ _ _ _ _ _ _ _ _ _ _ _ _ _ _ _ _ _ _ _ _ _ _ _ _ _ _ _ _ _ _ (fun w1 M1 ga gc ys u2 u3 u4 z4 Z z9 b R t W z14 V j k a z19 F L z22 z23 p N z26 l z28 c G z31 y z33 U T g D z38 hD => ?_);have hF:=hD.toG (frags:=d.frags);replace hD:=(id hD:Hid _);refine hK0 _ _ ?_;refine wp_seq ?_;refine LB.out u2 u3 u4 _ _ _ ys hF _ _ _ _ _ _ _ _ _ _ _ _ _ _ _ _ _ _ _ _ _ _ _ _ _ _ _ _ _ _ _ _ _ _ _ _ _ _ _ _ _ _ _ _ _ _ _ _ _ _ _ _ _ _ _ _ _ _ _ _ _ _ _ _ _ (fun w2 H gb gd zs y6 Y P y40 K i z E I S y47 r y49 C y51 y52 q v u O B y58 n y60 s y62 y63 J hG => ?_);have q3:w2.cell? ⟨w.heap.size+1+1,0,none⟩=some (.slice ga d.ops.length gc):=by rw [cell_of_row w2 (w.heap.size+1+1) 0 _ _ _ hG.out];rfl
 have q4:w2.cell? ⟨w.heap.size+1+1,1,none⟩=some (.slice gb d.frags.length gd):=by rw [cell_of_row w2 (w.heap.size+1+1) 1 _ _ _ hG.out];rfl
 have q5:w2.cell? ⟨w.heap.size+1,0,none⟩=some (.slice none 0 0):=by rw [cell_of_row w2 (w.heap.size+1) 0 _ _ _ hG.box2];rfl
 have q6:w2.cell? ⟨w.heap.size+1,1,none⟩=some (.slice none 0 0):=by rw [cell_of_row w2 (w.heap.size+1) 1 _ _ _ hG.box2];rfl
 have q7  := frozen_of_row w2 (w.heap.size+1) 0 _ _ hG.box2;have q8  := frozen_of_row w2 (w.heap.size+1) 1 _ _ hG.box2;have hdone:=hG.done (.slice ga d.ops.length gc) (.slice gb d.frags.length gd);replace hdone:=(id hdone:Hid _);have hrow:Hid (((w2.setCell ⟨w.heap.size+1,0,none⟩ (.slice ga d.ops.length gc)).setCell ⟨w.heap.size+1,1,none⟩ (.slice gb d.frags.length gd)).heap[w.heap.size+1]?=some (.cells #[.slice ga d.ops.length gc,.slice gb d.frags.length gd] 28 (0,0))):=heap_setCell_same _ _ _ _ _ _ (heap_setCell_same _ _ _ _ _ _ hG.box2);replace hG:=(id hG:Hid _);replace hF:=(id hF:Hid _);clear hK0 hst LA LB;unfold bJt;simp [Tryz.f13,bZ,sndC];show Code.wp _ _ _ _ _;go_wp2;rw [<- hQ.out];try simp only
 refine bodyPost_ret (results_cell_row rfl _ _ (w.heap.size+1) 28 _ (0,0) _ rfl hrow.out Tryz.underlying28 rfl (by kernel_rfl)) rfl ?_;exact ⟨H,ga,gc,ys,gb,gd,zs,u2,u3,u4,rfl,hdone.out⟩
structure DS (m B E:Nat) (M:Mem) (w:World) (ops:List GOp) (frags:List GFrag) (va:Value) (ys:List Value) (vf:Value) (zs:List Value) (u2 u3 u4:Value):Prop where
 ownA:w.ownsRow B 38 5 va ops.length ys
 own:w.ownsRow B 68 4 vf frags.length zs
 rowsA:aEf M m u2 u3 u4 ops ys
 rows:FrRow M frags zs
 foA:∀ g,va.ownBlock=some g->∀ i,M g i=none
 fo:∀ g,vf.ownBlock=some g->∀ i,M g i=none
 ne:∀ g,va.ownBlock=some g->vf.ownBlock≠some g
 mrk:∀ x,ops[m]?=some x->MO B M w x u2 u3 u4/\∀ g,Own2 u2 g->va.ownBlock≠some g/\vf.ownBlock≠some g
 isx:m<ops.length
 hi:∀ g,(va.ownBlock=some g∨vf.ownBlock=some g∨Own2 u2 g)->B<=g/\g<E
theorem DQ.ds {m d c f M M1 w b a frags i j ys k} (h:DQ m d c f M w M1 b a frags i ys j k) (l:m<a.length):DS m w.heap.size b.heap.size M1 b a frags i ys j k d c f:=by
 refine ⟨h.ownA,h.own,h.rowsA,h.rows,h.foA,h.fo,h.ne,h.mrk,l,?_⟩;rintro g (e | e | e);· exact h.ownA.lt g e
 ·exact h.own.lt g e
 exact (h.mrk _ (List.getElem?_eq_getElem l)).1.lt g e
theorem DS.move {m B E M M' w w' c frags o p ys q l j n} (h:DS m B E M w c frags o ys p q l j n) (e:∀ b i v,M b i=some v->M' b i=some v) (f:∀ k,B<=k->k<E->w'.heap[k]?=w.heap[k]?) (d:∀ k,B<=k->k<E->∀ i,M' k i=M k i):DS m B E M' w' c frags o ys p q l j n:=by
 refine ⟨jG h.ownA fun g a=>f g (h.hi g (.inl a)).1 (h.hi g (.inl a)).2,jG h.own fun g a=>f g (h.hi g (by grind)).1 (h.hi g (by grind)).2,h.rowsA.mono e,h.rows.mono e,fun g a i=>(d g (h.hi g (.inl a)).1 (h.hi g (.inl a)).2 i).trans (h.foA g a i),fun g a i=>(d g (h.hi g (by grind)).1 (h.hi g (by grind)).2 i).trans (h.fo g a i),h.ne,fun x r => ?_,h.isx,h.hi⟩;obtain ⟨t,s⟩:=h.mrk x r;exact ⟨t.move e (fun k u=>f k (h.hi k (by grind)).1 (h.hi k (by grind)).2) (fun k u=>d k (h.hi k (by grind)).1 (h.hi k (by grind)).2),s⟩
theorem DS.quiet {m B E M M' w w' a frags e f ys g c b d} (h:DS m B E M w a frags e ys f g c b d) (q:Quiet M w M' w') (j:E<=w.heap.size):DS m B E M' w' a frags e ys f g c b d :=
 h.move q.mem (fun k _ i=>(q.old k (by omega)).1) (fun k _ i=>(q.old k (by omega)).2)
theorem DS.put {m B E M M' w w' c frags r D ys zs C u3 u4 l z p} (h:DS m B E M w c frags r ys D zs C u3 u4) (hE:E<=w.heap.size) {x} (hx:c[m]?=some x) x' (ek:x'.kind=x.kind) (en:x'.name=x.name)
  (G:∀ b i v,M b i=some v->M' b i=some v) (s:∀ b,b<w.heap.size->∀ i,M' b i=M b i) (hb:∀ b,b<w.heap.size->r.ownBlock≠some b->¬ Own2 C b->w'.heap[b]?=w.heap[b]?)
  (hA:w'.ownsRow B 38 5 r c.length (((ys.set (m*5+2) l).set (m*5+3) z).set (m*5+4) p)) (hm:MO B M' w' x' l z p) (ht:∀ k,Own2 l k->Own2 C k∨w.heap.size<=k) (hs:w.heap.size<=w'.heap.size) :
  DS m B w'.heap.size M' w' (c.set m x') frags r (((ys.set (m*5+2) l).set (m*5+3) z).set (m*5+4) p) D zs l z p:=by
 obtain ⟨h1,h2⟩:=h.mrk x hx;have A:=h.rowsA.1;have d:=h.isx;have t:∀ k,Own2 l k->r.ownBlock≠some k/\D.ownBlock≠some k:=fun k hk=>by
  rcases ht k hk with e | e;· exact h2 k e
  exact ⟨fun e2=>by have:=(h.hi k (.inl e2)).2;omega,fun e2=>by have:=(h.hi k (by grind)).2;omega⟩
 refine ⟨by rw [List.length_set];exact hA,jG h.own fun g o=>hb g (by have:=(h.hi g (by grind)).2;omega) (fun e=>h.ne g e o) (fun e=>by grind),⟨?_,fun i y f => ?_⟩,h.rows.mono G,fun g o i=>(s g (by have:=(h.hi g (.inl o)).2;omega) i).trans (h.foA g o i),fun g o i=>(s g (by have:=(h.hi g (by grind)).2;omega) i).trans (h.fo g o i),h.ne,fun y f => ?_,by rw [List.length_set];exact d,?_⟩;· simp;exact A
 ·by_cases q:i=m
  ·subst q;rw [List.getElem?_set_self d] at f;cases f;obtain ⟨v2,v3,v4,_,n⟩:=h.rowsA.2 i x hx;refine ⟨l,z,p,by simp,fun j u a => ?_⟩;have F  := by have:=(List.getElem?_eq_some_iff.1 a).1;simpa using this
   match j,F,a with
   | 0,_,a=>rw [List.getElem?_set_ne (by omega),List.getElem?_set_ne (by omega),List.getElem?_set_ne (by omega)];cases a;rw [ek];exact n 0 _ rfl
   | 1,_,a=>rw [List.getElem?_set_ne (by omega),List.getElem?_set_ne (by omega),List.getElem?_set_ne (by omega)];cases a;rw [en];exact by grind
   | 2,_,a=>rw [List.getElem?_set_ne (by omega),List.getElem?_set_ne (by omega),List.getElem?_set_self (by omega)];exact a
   | 3,_,a=>rw [List.getElem?_set_ne (by omega),List.getElem?_set_self (by rw [List.length_set];omega)];exact a
   | 4,_,a=>rw [List.getElem?_set_self (by simp;omega)];exact a
  rw [List.getElem?_set_ne (fun e=>q e.symm)] at f;obtain ⟨v2,v3,v4,hc,n⟩:=h.rowsA.2 i y f;refine ⟨v2,v3,v4,.inr (hc.elim (fun e=>by omega) fun e=>⟨e.1,e.2.mono G⟩),fun j u a => ?_⟩;have F  := by have:=(List.getElem?_eq_some_iff.1 a).1;simpa using this
  rw [List.getElem?_set_ne (by omega),List.getElem?_set_ne (by omega),List.getElem?_set_ne (by omega)];exact n j u a
 ·rw [List.getElem?_set_self d] at f;cases f;exact ⟨hm,t⟩
 rintro g (e | e | e);· have:=h.hi g (.inl e);omega
 ·have:=h.hi g (by grind);omega
 exact hm.lt g e
theorem DS.rv {m B E d M w a frags j l ys v t o p} (h:DS m B E M w a frags j ys l v t o p) (b:Cons M w) (f:d<=B) :
  Rv (frzM d M w) noB (.agg [(.slice (List.map aR a) [] false),(.slice (List.map aH frags) [] false)]) (.agg #[j,l]):=by
 have e:=aUD (B:=d) b;have r:OpAt (frzM d M w) a ys:=by
  refine ⟨h.rowsA.1,fun i x n => ?_⟩;obtain ⟨s,v3,v4,g,u⟩:=h.rowsA.2 i x n;refine ⟨s,v3,v4,?_,u⟩;rcases g with ⟨rfl,rfl,rfl,rfl⟩ | ⟨_,g⟩;· obtain ⟨k,_⟩:=h.mrk x n;exact ⟨k.o2.rvM b f,k.r3.mono e (fun _ _ _ h=>h),k.r4.mono e (fun _ _ _ h=>h)⟩
  exact g.mono e
 have q  := (h.rows.mono e).at';have z:=aOP r h.ownA (fun _ _ _ h=>h) (aME h.ownA f);have A:=aOQ q h.own (fun _ _ _ h=>h) (aME h.own f);refine .agg _ _ (fun i=>(#[j,l]:Array Value).getD i undef) rfl (fun i y => ?_) (fun i c b => ?_);· simp_all
 match i,b with
 | 0,b=>simp_all
 | 1,b=>simp_all
theorem DS.at_ {m B E M w a frags f k ys l c b d} (h:DS m B E M w a frags f ys k l c b d):∃ g n cap,f = .slice (some ⟨g,0,none⟩) n cap/\n=a.length/\ys[m*5+2]?=some c/\ys[m*5+3]?=some b/\ys[m*5+4]?=some d:=by
 obtain ⟨q,v3,v4,i,p⟩:=h.rowsA.2 m _ (List.getElem?_eq_getElem h.isx);rcases i with ⟨_,rfl,rfl,rfl⟩ | ⟨e,_⟩
 ·rcases h.ownA.2 with ⟨e,o⟩ | ⟨g,cap,j,e,_⟩;· have:=h.isx;omega
  grind
 omega
theorem aZy {α:Type} {l:List α} {i a} (h:l[i]?=some a):l.set i a=l:=by
 obtain ⟨b,rfl⟩:=List.getElem?_eq_some_iff.1 h;simp
theorem DS.put2 {m B E M M' w w' d frags j u ys y q g n f} (h:DS m B E M w d frags j ys u y q g n) (F:E<=w.heap.size) {x} (t:d[m]?=some x) c
  (o:∀ b i v,M b i=some v->M' b i=some v) (p:∀ b,b<w.heap.size->∀ i,M' b i=M b i) (D:∀ b,b<w.heap.size->j.ownBlock≠some b->q.ownBlock≠some b->w'.heap[b]?=w.heap[b]?)
  (s:w'.ownsRow B 38 5 j d.length (ys.set (m*5+2) f)) (A:OwnL B M' w' 54 10 (List.map aB c) f) (z:∀ k,f.ownBlock=some k->q.ownBlock=some k∨w.heap.size<=k) (C:w.heap.size<=w'.heap.size) :
  DS m B w'.heap.size M' w' (d.set m ⟨x.kind,x.name,c,x.dirs,x.sels⟩) frags j (ys.set (m*5+2) f) u y f g n:=by
 obtain ⟨r,J⟩:=h.mrk x t;obtain ⟨_,_,_,_,_,H,I,G⟩:=h.at_;have e:((ys.set (m*5+2) f).set (m*5+3) g).set (m*5+4) n=ys.set (m*5+2) f:=by
  rw [aZy (l:=ys.set (m*5+2) f) (a:=g) (by grind),aZy (by grind)]
 rw [<- e] at s ⊢;exact h.put F t ⟨x.kind,x.name,c,x.dirs,x.sels⟩ rfl rfl o p D s ⟨A,r.r3.mono o (fun _ _ _ h=>h),r.r4.mono o (fun _ _ _ h=>h)⟩ z C
end Go.Proofs.YtphmfillajagdaaGreat

import Derived.Test.YtphmfillajagdaaGreatWd
import Derived.Test.YtphmfillajagdaaGreatEt
set_option maxRecDepth 100000
set_option linter.unusedVariables false
set_option linter.unusedSimpArgs false
set_option linter.unusedSimpArgs false
open Go Go.Ev Go.RowKit
namespace Go.Proofs.YtphmfillajagdaaGreat
noncomputable def thnC:Code->Code | .cond _ a _=>a | c=>c
noncomputable def elsC:Code->Code | .cond _ _ b=>b | c=>c
structure Chg (B E:Nat) (M:Mem) (w:World) (M':Mem) (w':World):Prop where
 mem:∀ b i v,M b i=some v->M' b i=some v
 blk:∀ b,b<w.heap.size->(b<B∨E<=b)->w'.heap[b]?=w.heap[b]?
 old:∀ b,b<w.heap.size->∀ i,M' b i=M b i
 os:w'.os=w.os
 tape:w'.tape=w.tape
 output:w'.output=w.output
 size:w.heap.size<=w'.heap.size
structure ChgF (B E:Nat) (M:Mem) (w:World) (M':Mem) (w':World) (va vf u2 u3 u4:Value):Prop extends Chg B E M w M' w' where
 fsh:∀ g,(va.ownBlock=some g∨vf.ownBlock=some g∨Own3 u2 u3 u4 g)->(B<=g/\g<E)∨w.heap.size<=g
def dirY (nm:Str):GDir:=⟨nm,[⟨[105,102],⟨1,1,[],[],[]⟩⟩]⟩
def selY (ds:List GDir):GSel:=⟨0,[],[95,95,116,121,112,101,110,97,109,101],[],ds,[],[]⟩
theorem bF2 a:aCT a=some (dirY a):=aE7 (by simp [lI,dirY])
theorem zQ b M w (m:Cons M w) :
  Calls Tryz.prog 14 #[.string ⟨b.toArray⟩] w fun e w'=>∃ a n p M',e = .returned (.agg #[.string ⟨b.toArray⟩,.slice a n p])/\Rv M' noB (.slice (List.map aC (dirY b).args) [] false) (.slice a n p)/\Cons M' w'/\Quiet M w M' w':=by
 have o:=bF2 b;have k  := bH (enc:=fun r=>(gN r,[])) o;have key:=kF pokX xok k (M:=M) (w:=w) (vals := #[.string ⟨b.toArray⟩]) rfl m ⟨rfl,fun i p d=>by
  match i,d with
  | 0,d=>cases d;exact ⟨.str _,aW rfl⟩
  | i+1,d=>grind⟩
 refine key.mono ?_;rintro e w' ⟨v,M',rfl,hv,f,j⟩;have g:=hv;obtain ⟨l,rfl,c⟩:=bAq g;cases c with | cons q c =>
 cases c with | cons h c =>
 cases c;cases q;obtain ⟨a,n,p,rfl⟩:=mB h;exact ⟨a,n,p,M',rfl,h,f,j⟩
def at_:List Value->Nat->Value
 | [],_=>undef
 | v::_,0=>v
 | _::l,n+1=>at_ l n
def AllL:Nat->(List Value->Prop)->Prop
 | 0,P=>P []
 | n+1,P=>∀ v,AllL n fun l=>P (v::l)
theorem jE:∀ n P,AllL n P->∀ l,l.length=n->P l
 | 0,P,h,l,e=>by cases l with | nil=>exact h | cons v l=>grind
 | n+1,P,h,l,e=>by
  cases l with
  | nil=>grind
  | cons v l=>exact jE n (fun l=>P (v::l)) (h v) l (by grind)
structure FK (l:List Value) (X:Nat) (nm:Str) (Z0 Z1 Z2 Z3:Nat):Prop where
 len:l.length=192
 s3:at_ l 3 = .pointer (some ⟨X,0,none⟩)
 s7:at_ l 7 = .string ⟨nm.toArray⟩
 s8:at_ l 8 = .pointer (some ⟨Z0,0,none⟩)
 s9:at_ l 9 = .pointer (some ⟨Z1,0,none⟩)
 s10:at_ l 10 = .pointer (some ⟨Z2,0,none⟩)
 s11:at_ l 11 = .pointer (some ⟨Z3,0,none⟩)
theorem bAA {M M' w w'} (q:Quiet M w M' w'):Below w.heap.size w w':=⟨q.os,q.tape,q.output,q.size,fun k a=>(q.old k a).1⟩
open Go Go.Ev Go.RowKit
theorem bAB {w:World} {B D n} {e size:Nat} {cs} (h:w.heap[D]?=some (.cells cs e (0,0))) (a:B<=D) (c:n<=maxLen) (b:cs.size=n*size):w.ownsRow B e size (.slice (some ⟨D,0,none⟩) n n) n cs.toList :=
 ⟨by omega,.inr ⟨D,n,cs,rfl,a,h,by omega,c,b,List.take_of_length_le (by grind)⟩⟩
theorem DS.shut {m B E M w d frags f g ys I q k l} (h:DS m B E M w d frags f ys g I q k l) (G:Cons M w):∃ M',(∀ b i v,M b i=some v->M' b i=some v)/\Cons M' w/\Rv M' noB (.agg [(.slice (List.map aU d) [] false),(.slice (List.map aG frags) [] false)]) (.agg #[f,g])/\∀ b,¬ (f.ownBlock=some b∨g.ownBlock=some b∨Own3 q k l b)->∀ i,M' b i=M b i:=by
 obtain ⟨u,K⟩:=h.mrk _ (List.getElem?_eq_getElem h.isx);obtain ⟨M1,r,p,F,y⟩:=u.frz G;have s:=wR (v:=f) p;have o:=tF (v:=f) p;have z:=wR (v:=g) s;have n:=tF (v:=g) s;have C:OpAt M1 d ys:=by
  refine ⟨h.rowsA.1,fun i x D => ?_⟩;obtain ⟨A,v3,v4,j,t⟩:=h.rowsA.2 i x D;refine ⟨A,v3,v4,?_,t⟩;rcases j with ⟨rfl,rfl,rfl,rfl⟩ | ⟨_,j⟩;· grind
  exact j.mono r
 have H:=aMs C h.ownA o aKp;have N:=aMt (h.rows.mono r).at' h.own (fun b i v hv=>n b i v (o b i v hv)) aKp;refine ⟨frzV g (frzV f M1 w) w,fun b i v hv=>by grind,z,.agg _ _ (fun i=>(#[f,g]:Array Value).getD i undef) rfl (fun i J => ?_) (fun i c a => ?_),fun b L i => ?_⟩;· simp_all
 ·match i,a with
  | 0,a=>cases a;exact H.mono n (fun _ _ _ h=>h)
  | 1,a=>simp_all
 rw [jA (fun e=>by grind),jA (fun e=>by grind),y b (fun e=>by grind)]
theorem bC2 {m B E M M2 w w2 w3 wf ops frags gA n capA t ys J d u3 u4} (h:DS m B E M w ops frags (.slice (some ⟨gA,0,none⟩) n capA) ys t J d u3 u4) (Y:E<=w.heap.size) {x} (C:ops[m]?=some x)
  (N:∀ b i v,M b i=some v->M2 b i=some v) (P:∀ b,b<w.heap.size->∀ i,M2 b i=M b i) (hb2:Below w.heap.size w w2) (hc2:Cons M2 w2) (hb3:Below w2.heap.size w2 w3)
  {D ds dcells} (G:w3.heap[D]?=some (.cells dcells 41 (0,0))) (r:dcells.size=ds.length*2) (l:ds.length<=maxLen) (hDl:w2.heap.size<=D)
  (o:∀ i p j c,(List.map aF ds)[i]?=some p->p.cells[j]?=some c->∃ u,dcells.toList[i*2+j]?=some u/\Rv M2 noB c u)
  {ys4} (hcl4:∀ i p j c,(List.map aI x.sels)[i]?=some p->p.cells[j]?=some c->∃ u,ys4[i*7+j]?=some u/\Rv M noB c u) (hyl4:ys4.length=x.sels.length*7)
  {g cap'} (ownf:wf.ownsRow B 44 7 (.slice (some ⟨g,0,none⟩) (x.sels.length+1) cap') (x.sels.length+1) (ys4++aFE (selY ds) (.slice none 0 0) (.slice (some ⟨D,0,none⟩) ds.length ds.length) (.slice none 0 0)))
  (hgrow:∀ b,b<w3.heap.size->b≠gA->u4.ownBlock≠some b->wf.heap[b]?=w3.heap[b]?) (W:wf.ownsRow B 38 5 (.slice (some ⟨gA,0,none⟩) n capA) ops.length (ys.set (m*5+4) (.slice (some ⟨g,0,none⟩) (x.sels.length+1) cap'))) (hat:u4.ownBlock=some g∨w3.heap.size<=g)
  (a:wf.os=w3.os) (s:wf.tape=w3.tape) (hou:wf.output=w3.output) (V:w3.heap.size<=wf.heap.size) :
  ∃ M',DS m B wf.heap.size M' wf (ops.set m ⟨x.kind,x.name,x.vars,x.dirs,x.sels++[selY ds]⟩) frags (.slice (some ⟨gA,0,none⟩) n capA) (ys.set (m*5+4) (.slice (some ⟨g,0,none⟩) (x.sels.length+1) cap')) t J d u3 (.slice (some ⟨g,0,none⟩) (x.sels.length+1) cap')/\Cons M' wf/\ChgF B E M w M' wf (.slice (some ⟨gA,0,none⟩) n capA) t d u3 (.slice (some ⟨g,0,none⟩) (x.sels.length+1) cap'):=by
 obtain ⟨I,h2⟩:=h.mrk x C;have Z:=hb2.size;have R:=hb3.size;have X:=h.hi gA (.inl rfl);have hg4:∀ k,u4.ownBlock=some k->B<=k/\k<E:=fun k hk=>h.hi k (.inr (.inr (.inr (.inr hk))));have A:D<w3.heap.size:=(Array.getElem?_eq_some_iff.1 G).1;have hc3:Cons M2 w3:=kO hc2 hb3;have hc3':=wR (v := .slice (some ⟨D,0,none⟩) ds.length ds.length) hc3;have L:=tF (v := .slice (some ⟨D,0,none⟩) ds.length ds.length) hc3;have f:∀ b,b≠D->∀ i,frzV (.slice (some ⟨D,0,none⟩) ds.length ds.length) M2 w3 b i=M2 b i:=fun b hb i=>jA (by simp [Value.ownBlock];omega) i;have hold:∀ b,b<w.heap.size->∀ i,frzV (.slice (some ⟨D,0,none⟩) ds.length ds.length) M2 w3 b i=M b i:=fun b hb i=>by grind
 have hmm:∀ b i v,M b i=some v->frzV (.slice (some ⟨D,0,none⟩) ds.length ds.length) M2 w3 b i=some v:=fun b i v hv=>by grind
 have U:OwnL w2.heap.size M2 w3 41 2 (List.map aF ds) (.slice (some ⟨D,0,none⟩) ds.length ds.length):=by
  refine ⟨⟨dcells.toList,?_,o⟩,fun p z=>by obtain ⟨y,_,rfl⟩:=List.mem_map.1 z;exact rR y,fun k hk i => ?_⟩;· rw [List.length_map];exact bAB G hDl l r
  have  := by simpa [Value.ownBlock] using hk.symm
  rw [this];exact kS hc2 hDl i
 have S:=U.rv hc3;have hfree:∀ i,frzV (.slice (some ⟨D,0,none⟩) ds.length ds.length) M2 w3 g i=none:=fun i=>by
  rcases hat with e | e;· rw [hold g (by have:=hg4 g e;omega)];exact I.o4.free g e i
  rw [f g (by omega)];exact kS hc3 e i
 have q  := by
  refine iU hc3' fun b hb ⟨i,H⟩=>hgrow b hb (fun e=>H ?_) (fun e=>H ?_);· rw [e,hold gA (by omega)];exact h.foA gA rfl i
  rw [hold b (by have:=hg4 b e;omega)];exact I.o4.free b e i
 have K  := fun b hb e1 e2=>(hgrow b (by omega) e1 e2).trans ((hb3.block b (by omega)).trans (hb2.block b hb));have hl4:(List.map aI x.sels).length=x.sels.length:=List.length_map _;have O:OwnL B (frzV (.slice (some ⟨D,0,none⟩) ds.length ds.length) M2 w3) wf 44 7 (List.map aI (x.sels++[selY ds])) (.slice (some ⟨g,0,none⟩) (x.sels.length+1) cap'):=by
  have F:=OwnL.add (M:=frzV (.slice (some ⟨D,0,none⟩) ds.length ds.length) M2 w3) (M':=frzV (.slice (some ⟨D,0,none⟩) ds.length ds.length) M2 w3) (w':=wf) (es:=List.map aI x.sels) (p:=aI (selY ds)) (ys:=ys4) (B:=B) (e:=44) (size:=7) (g:=g) (cap:=cap') (by rw [hl4];exact hyl4) (fun i p j c e1 e2=>by
   obtain ⟨u,Q,T⟩:=hcl4 i p j c e1 e2;exact ⟨u,Q,T.mono hmm (fun _ _ _ h=>h)⟩) (fun p z=>by obtain ⟨y,_,rfl⟩:=List.mem_map.1 z;exact zP y) (zP _) (aRC (x:=selY ds) (v3 := .slice none 0 0) (v4 := .slice (some ⟨D,0,none⟩) ds.length ds.length) (v6 := .slice none 0 0) ⟨.nil false,S,.nil false⟩) (fun _ _ _ h=>h) (by rw [hl4];exact ownf) hfree
  rw [hl4] at F;rw [List.map_append];exact F
 refine ⟨_,h.put4 Y C (x.sels++[selY ds]) hmm hold (fun b hb e1 e2=>K b hb (fun e=>e1 (by rw [e];rfl)) e2) W O (fun k hk => ?_) (by omega),q,⟨hmm,fun b hb hr=>by grind,hold,a.trans (hb3.os.trans hb2.os),s.trans (hb3.tape.trans hb2.tape),hou.trans (hb3.output.trans hb2.output),by omega⟩,fun k hk => ?_⟩
 ·have  := by simpa [Value.ownBlock] using hk.symm
  rw [this];rcases hat with e | e;· exact .inl e
  omega
 rcases hk with e | e | e | e | e;· exact .inl (h.hi k (.inl e))
 ·exact .inl (h.hi k (.inr (.inl e)))
 ·exact .inl (h.hi k (.inr (.inr (.inl e))))
 ·exact .inl (h.hi k (.inr (.inr (.inr (.inl e)))))
 have  := by simpa [Value.ownBlock] using e.symm
 rw [this];rcases hat with e | e;· exact .inl (hg4 g e)
 right;omega
theorem bC3 {m B E M M2 w w2 w3 wf ops frags gA n capA s ys G f a l} (h:DS m B E M w ops frags (.slice (some ⟨gA,0,none⟩) n capA) ys s G f a l) (Q:E<=w.heap.size) {x} (t:ops[m]?=some x)
  (hM2:∀ b i v,M b i=some v->M2 b i=some v) (hMo:∀ b,b<w.heap.size->∀ i,M2 b i=M b i) (hb2:Below w.heap.size w w2) (r:Cons M2 w2) (hb3:Below w2.heap.size w2 w3)
  {y A} (z:Rv M2 noB (.slice (List.map aC y.args) [] false) A)
  {ys3} (hcl3:∀ i p j c,(List.map aF x.dirs)[i]?=some p->p.cells[j]?=some c->∃ u,ys3[i*2+j]?=some u/\Rv M noB c u) (hyl3:ys3.length=x.dirs.length*2)
  {g cap'} (ownf:wf.ownsRow B 41 2 (.slice (some ⟨g,0,none⟩) (x.dirs.length+1) cap') (x.dirs.length+1) (ys3++aKq y A))
  (hgrow:∀ b,b<w3.heap.size->b≠gA->a.ownBlock≠some b->wf.heap[b]?=w3.heap[b]?) (O:wf.ownsRow B 38 5 (.slice (some ⟨gA,0,none⟩) n capA) ops.length (ys.set (m*5+3) (.slice (some ⟨g,0,none⟩) (x.dirs.length+1) cap'))) (hat:a.ownBlock=some g∨w3.heap.size<=g)
  (d:wf.os=w3.os) (q:wf.tape=w3.tape) (hou:wf.output=w3.output) (N:w3.heap.size<=wf.heap.size) :
  ∃ M',DS m B wf.heap.size M' wf (ops.set m ⟨x.kind,x.name,x.vars,x.dirs++[y],x.sels⟩) frags (.slice (some ⟨gA,0,none⟩) n capA) (ys.set (m*5+3) (.slice (some ⟨g,0,none⟩) (x.dirs.length+1) cap')) s G f (.slice (some ⟨g,0,none⟩) (x.dirs.length+1) cap') l/\Cons M' wf/\ChgF B E M w M' wf (.slice (some ⟨gA,0,none⟩) n capA) s f (.slice (some ⟨g,0,none⟩) (x.dirs.length+1) cap') l:=by
 obtain ⟨D,T⟩:=h.mrk x t;have R:=hb2.size;have K:=hb3.size;have P:=h.hi gA (.inl rfl);have hg3  := fun k hk=>h.hi k (.inr (.inr (.inr (.inl hk))));have hc3  := kO r hb3;have hfree:∀ i,M2 g i=none:=fun i=>by
  rcases hat with e | e;· rw [hMo g (by have:=hg3 g e;omega)];exact D.o3.free g e i
  exact kS hc3 e i
 have o  := by
  refine iU hc3 fun b hb ⟨i,F⟩=>hgrow b hb (fun e=>F ?_) (fun e=>F ?_);· rw [e,hMo gA (by omega)];exact h.foA gA rfl i
  rw [hMo b (by have:=hg3 b e;omega)];exact D.o3.free b e i
 have H  := fun b hb e1 e2=>(hgrow b (by omega) e1 e2).trans ((hb3.block b (by omega)).trans (hb2.block b hb));have hl3:(List.map aF x.dirs).length=x.dirs.length:=by simp
 have I:OwnL B M2 wf 41 2 (List.map aF (x.dirs++[y])) (.slice (some ⟨g,0,none⟩) (x.dirs.length+1) cap'):=by
  have C:=OwnL.add (M:=M2) (M':=M2) (w':=wf) (es:=List.map aF x.dirs) (p:=aF y) (ys:=ys3) (B:=B) (e:=41) (size:=2) (g:=g) (cap:=cap') (by rw [hl3];exact hyl3) (fun i p j c e1 e2=>by
   obtain ⟨u,J,L⟩:=hcl3 i p j c e1 e2;exact ⟨u,J,L.mono hM2 (fun _ _ _ h=>h)⟩) (fun p S=>by obtain ⟨y,_,rfl⟩:=List.mem_map.1 S;exact rR y) (rR _) (aBL z) (fun _ _ _ h=>h) (by rw [hl3];exact ownf) hfree
  rw [hl3] at C;rw [List.map_append];exact C
 refine ⟨_,h.put3 Q t (x.dirs++[y]) hM2 hMo (fun b hb e1 e2=>H b hb (fun e=>e1 (by rw [e];rfl)) e2) O I (fun k hk => ?_) (by omega),o,⟨hM2,fun b hb z=>by grind,hMo,d.trans (hb3.os.trans hb2.os),q.trans (hb3.tape.trans hb2.tape),hou.trans (hb3.output.trans hb2.output),by omega⟩,fun k hk => ?_⟩
 ·have  := by simpa [Value.ownBlock] using hk.symm
  rw [this];rcases hat with e | e;· exact .inl e
  omega
 rcases hk with e | e | e | e | e;· exact .inl (h.hi k (.inl e))
 ·exact .inl (h.hi k (by grind))
 ·exact .inl (h.hi k (.inr (.inr (.inl e))))
 ·have  := by simpa [Value.ownBlock] using e.symm
  rcases hat with e | e;· exact by grind
  omega
 exact .inl (h.hi k (.inr (.inr (.inr (.inr e)))))
theorem row1 {M d v} (h:Rv M noB (.slice (List.map aC (dirY d).args) [] false) v):∀ i p j c,(List.map aF [dirY d])[i]?=some p->p.cells[j]?=some c->∃ u,(#[.string ⟨d.toArray⟩,v]:Array Value).toList[i*2+j]?=some u/\Rv M noB c u:=by
 intro i p j c b f;have k:∀ x,p=aF x->j<2:=fun x e=>by have:=(List.getElem?_eq_some_iff.1 f).1;rw [e,(rR x).2.2.1] at this;omega
 match i,b with
 | 0,b =>
  cases b;obtain ⟨u,a,g⟩:=aBL h j c f;have:=k _ rfl;refine ⟨u,?_,g⟩;match j,this,a with
  | 0,_,a=>exact a
  | 1,_,a=>exact a
 | i+1,b=>grind
theorem row2 {M b v l} (m:Rv M noB (.slice (List.map aC (dirY b).args) [] false) v) (g:Rv M noB (.slice (List.map aC (dirY b).args) [] false) l):∀ i p j c,(List.map aF [dirY b,dirY b])[i]?=some p->p.cells[j]?=some c->∃ u,(#[.string ⟨b.toArray⟩,v,.string ⟨b.toArray⟩,l]:Array Value).toList[i*2+j]?=some u/\Rv M noB c u:=by
 intro i p j c d h;have k:∀ x,p=aF x->j<2:=fun x e=>by have:=(List.getElem?_eq_some_iff.1 h).1;rw [e,(rR x).2.2.1] at this;omega
 match i,d with
 | 0,d =>
  cases d;obtain ⟨u,a,f⟩:=aBL m j c h;have:=k _ rfl;refine ⟨u,?_,f⟩;match j,this,a with
  | 0,_,a=>exact a
  | 1,_,a=>exact a
 | 1,d =>
  cases d;obtain ⟨u,a,f⟩:=aBL g j c h;have:=k _ rfl;refine ⟨u,?_,f⟩;match j,this,a with
  | 0,_,a=>exact a
  | 1,_,a=>exact a
 | i+2,d=>grind
theorem Below.two {B w} (a:B<=w.heap.size) o p:Below B w ((w.alloc o).alloc p):=((Below.refl _ _).alloc a o).alloc (by simp;omega) p
theorem aZ {w:World} {a v} o (h:w.cell? a=some v):(w.alloc o).cell? a=some v :=
 (World.cell?_of_block (heap_alloc_old w o (World.block_lt_of_cell? w a h))).trans h
theorem aHB {P w r o a K Q E} (q:o.guard=none) s x t
  (N:o.op = .call {callee := .builtin .append,args := #[s,x],argTypes := #[t,t]})
  base e i z size bytes (I:P.underlying t=some (.slice e)) (J:P.info? e=some i) (F:i.zero=some z)
  (f:i.size=size) (D:i.bytes=bytes) (B:z.cells.size=size) (y:0<size)
  v n xs (R:a.eval s=v) (p:w.ownsRow base e size v n xs)
  A m c b (O:a.eval x = .slice (some A) m c) (M:b.length=m*size) (l:∀ j u,b[j]?=some u->w.cell? (A.add j)=some u) (L:∀ u∈b,u.oneCell'=true)
  (S:0<m) (C:n+m<=maxLen) (d:(n+m)*bytes<=140737488355328) (k:base<=w.heap.size) H (G:w.heap.size=H)
  (h:∀ g cap w',w'.ownsRow base e size (.slice (some ⟨g,0,none⟩) (n+m) cap) (n+m) (xs++b)->w.grownBy w' v.ownBlock->(v.ownBlock=some g∨g=H)->g<w'.heap.size->K (a.put o.dst (.slice (some ⟨g,0,none⟩) (n+m) cap)) w') :
  if Region.wanted o (yielded r a.tmps)=true then Oper.wp P o a w K Q else E :=
 step_append_lies w q s x t N base e i z size bytes I J F f D B y v n xs R p A m c b O M l L S C d k H G h
structure P4 (B E:Nat) (M:Mem) (w:World) (ops:List GOp) (x:GOp) (gA n capA Z:Nat) (ys ys4:List Value) (a4:Option Addr) (p4:Nat):Prop where
 hn:n=ops.length
 n0:0<n
 op0:0<ops.length
 gb:B<=gA/\gA<E
 all:∀ w':World,Below w.heap.size w w'->w'.cell? ⟨Z,0,none⟩=some (.slice (some ⟨gA,0,none⟩) n capA)/\w'.cell? ⟨gA,4,none⟩=some (.slice a4 x.sels.length p4)/\w'.frozen? ⟨gA,4,none⟩=false/\Z<w'.heap.size/\gA<w'.heap.size/\w'.ownsRow B 44 7 (.slice a4 x.sels.length p4) x.sels.length ys4/\B<=w'.heap.size
 aft:∀ W w4:World,Below w.heap.size w W->W.grownBy w4 (Value.slice a4 x.sels.length p4).ownBlock->w4.cell? ⟨Z,0,none⟩=some (.slice (some ⟨gA,0,none⟩) n capA)/\w4.cell? ⟨gA,4,none⟩=some (.slice a4 x.sels.length p4)/\w4.frozen? ⟨gA,4,none⟩=false
 row:w.ownsRow B 38 5 (.slice (some ⟨gA,0,none⟩) n capA) n ys
 len:ys4.length=x.sels.length*7
 cells:∀ (i:Nat) (p:PV) (j:Nat) (c:PV),(List.map aI x.sels)[i]?=some p->p.cells[j]?=some c->∃ u,ys4[i*7+j]?=some u/\Rv M noB c u
 o4:∀ k,(Value.slice a4 x.sels.length p4).ownBlock=some k->B<=k/\k<E
 o4g:(Value.slice a4 x.sels.length p4).ownBlock≠some gA
theorem pre4 {B E M w f frags d n b Z vf ys zs u2 u3 p H q} (h:DS 0 B E M w f frags (.slice (some ⟨d,0,none⟩) n b) ys vf zs u2 u3 (.slice p H q)) (hE:E<=w.heap.size) {x} (hx:f[0]?=some x) (hZ:w.heap[Z]?=some (.cells #[.slice (some ⟨d,0,none⟩) n b,vf] 28 (0,0))) (hZE:E<=Z∨Z<B) :
  H=x.sels.length/\∃ i,P4 B E M w f x d n b Z ys i p q:=by
 obtain ⟨hm,y⟩:=h.mrk x hx;obtain ⟨i,g,r⟩:=hm.o4.own;rw [List.length_map] at g;obtain ⟨D,m,e4⟩:=zO g;obtain ⟨rfl,rfl,rfl⟩:p=D/\H=x.sels.length/\q=m:=by injection e4 with e1 C e3;exact ⟨e1,C,e3⟩
 obtain ⟨gA',n',K,F,hnl,ey2,ey3,G⟩:=h.at_;have hn:n=f.length:=by injection F with e1 C e3;omega
 have J:=h.hi d (.inl rfl);have o:=h.ownA;rw [<- hn] at o;have A  := (Array.getElem?_eq_some_iff.1 hZ).1;have c  := fun k v=>h.hi k (.inr (.inr (.inr (.inr v))));have t  := fun e=>(y d (.inr (.inr e))).1 rfl;have z:(Value.slice p x.sels.length q).ownBlock≠some Z:=fun e=>by have:=c Z e;omega
 have s:∀ w',Below w.heap.size w w'->w'.cell? ⟨Z,0,none⟩=some (.slice (some ⟨d,0,none⟩) n b)/\w'.cell? ⟨d,4,none⟩=some (.slice p x.sels.length q)/\w'.frozen? ⟨d,4,none⟩=false/\Z<w'.heap.size/\d<w'.heap.size/\w'.ownsRow B 44 7 (.slice p x.sels.length q) x.sels.length i/\B<=w'.heap.size:=by
  intro w' l;have u:=dT o fun k v=>l.block k (by have:=(h.hi k (.inl v)).2;omega);obtain ⟨I,f4⟩:=aOx u (j:=4) G;have cz:w'.cell? ⟨Z,0,none⟩=some (.slice (some ⟨d,0,none⟩) n b):=by rw [cell_of_row w' Z 0 _ _ _ ((l.block Z A).trans hZ)];rfl
  exact ⟨cz,I,f4,by have:=l.size;omega,by have:=l.size;omega,dT g fun k v=>l.block k (by have:=(c k v).2;omega),by have:=l.size;omega⟩
 refine ⟨rfl,i,hn,by have:=h.isx;omega,h.isx,J,s,fun W w4 l hg => ?_,o,g.1,r,c,t⟩;obtain ⟨c1,c2,c3,I,c5,_⟩:=s W l;have e1:=hg.block Z I (fun e=>z e.symm);have C:=hg.block d c5 (fun e=>t e.symm);exact ⟨(World.cell?_of_block (a:=⟨Z,0,none⟩) e1).trans c1,(World.cell?_of_block (a:=⟨d,4,none⟩) C).trans c2,(World.frozen?_of_block (a:=⟨d,4,none⟩) C).trans c3⟩
theorem fin4 {B E M G w C H q l frags s n k Z vf ys zs A R K F I x} (h:DS 0 B E M w l frags (.slice (some ⟨s,0,none⟩) n k) ys vf zs R K (.slice F x.sels.length I)) (hE:E<=w.heap.size) (hx:l[0]?=some x) (P:P4 B E M w l x s n k Z ys A F I)
  (N:∀ b i v,M b i=some v->G b i=some v) (Q:∀ b,b<w.heap.size->∀ i,G b i=M b i) (o:Below w.heap.size w C) (hc2:Cons G C) (m:Below C.heap.size C H)
  {D ds d} (hD:H.heap[D]?=some (.cells d 41 (0,0))) (U:C.heap.size<=D) (W:d.size=ds.length*2) (hDn:ds.length<=2)
  (V:∀ i p j c,(List.map aF ds)[i]?=some p->p.cells[j]?=some c->∃ u,d.toList[i*2+j]?=some u/\Rv G noB c u)
  {g f} (a:H.grownBy q (Value.slice F x.sels.length I).ownBlock) (X:(Value.slice F x.sels.length I).ownBlock=some g∨g=H.heap.size) wf
  (z:wf.ownsRow B 44 7 (.slice (some ⟨g,0,none⟩) (x.sels.length+1) f) (x.sels.length+1) (A++aFE (selY ds) (.slice none 0 0) (.slice (some ⟨D,0,none⟩) ds.length ds.length) (.slice none 0 0)))
  (t:∀ b,b≠g->wf.heap[b]?=(q.setCell ⟨s,4,none⟩ (.slice (some ⟨g,0,none⟩) (x.sels.length+1) f)).heap[b]?) (T:wf.heap.size=q.heap.size) (L:wf.os=q.os) (hta:wf.tape=q.tape) (J:wf.output=q.output) :
  ∃ M' S,DS 0 B wf.heap.size M' wf (l.set 0 ⟨x.kind,x.name,x.vars,x.dirs,x.sels++[selY ds]⟩) frags (.slice (some ⟨s,0,none⟩) n k) S vf zs R K (.slice (some ⟨g,0,none⟩) (x.sels.length+1) f)/\Cons M' wf/\ChgF B E M w M' wf (.slice (some ⟨s,0,none⟩) n k) vf R K (.slice (some ⟨g,0,none⟩) (x.sels.length+1) f):=by
 have hsl:=o.size;have hs3:=m.size;have hgb:=P.gb;have hgg:g≠s:=by
  rcases X with e | e;· intro y;exact P.o4g (by rw [<- y];exact e)
  omega
 have Y  := dT P.row fun b r=>by
  have O:b<w.heap.size:=by have:=(h.hi b (.inl r)).2;omega
  have e  := by simpa [Value.ownBlock] using r.symm
  exact (a.block b (by omega) (fun y=>P.o4g (by rw [<- e];exact y.symm))).trans ((m.block b (by omega)).trans (o.block b O))
 have hyl:=P.row.1;have hn0:=P.n0;have hA:=iP Y 4 (.slice (some ⟨g,0,none⟩) (x.sels.length+1) f) (by omega);obtain ⟨M',k1,k2,k3⟩:=bC2 (ds:=ds) h hE hx N Q o hc2 m hD W (by simp [maxLen];omega) U V P.cells P.len (wf:=wf) z (fun b r e1 y=>by
  by_cases hbg:b=g;· grind
  exact (t b hbg).trans ((Below.heap_setCell _ _ _ _ e1).trans (a.block b r (fun e=>y e.symm)))) (by have e:=P.hn;rw [<- e];exact dT hA fun b r=>t b (by have e  := (by simpa [Value.ownBlock] using r.symm);omega)) (by grind) (L.trans a.os) (hta.trans a.tape) (J.trans a.output) (by rw [T];exact a.size)
 exact ⟨M',_,k1,k2,k3⟩
theorem aGV {w j o a K Q E} s x B v n xs d cells {T} (f:o.guard=none) (y:o.op = .call {callee := .builtin .append,args := #[s,x],argTypes := #[34,34]}) (C:a.eval s=v) (z:a.eval x = .slice (some d) 1 1) (t:cells.toList.length=1*7) (q:∀ u∈cells.toList,u.oneCell'=true) (e:w.ownsRow B 44 7 v n xs) (D:w.heap[d.block]?=some (.cells cells T (0,0))) (A:d.off=0/\d.spot=none) (G:n<1073741824) (c:B<=w.heap.size)
  (h:∀ g cap w',w'.ownsRow B 44 7 (.slice (some ⟨g,0,none⟩) (n+1) cap) (n+1) (xs++cells.toList)->w.grownBy w' v.ownBlock->(v.ownBlock=some g∨g=w.heap.size)->K (a.put o.dst (.slice (some ⟨g,0,none⟩) (n+1) cap)) w') :
  if Region.wanted o (yielded j a.tmps)=true then Oper.wp Tryz.prog o a w K Q else E:=by
 obtain ⟨p,F,r,k,l,i,m⟩:=aEt Tryz.i44;obtain ⟨b,M,L⟩:=d;obtain ⟨rfl,rfl⟩:=A;exact aHB f s x 34 y B 44 p _ 7 128 Tryz.u34 r k l i m (by decide) v n xs C e _ 1 1 cells.toList z t (World.news_of_block D) q (by decide) (by unfold maxLen;omega) (by omega) c _ rfl fun g cap w' J I H N=>by grind
theorem ChgF.back {B E M M' w j w' i k e d f} (h:ChgF B E M j M' w' i k e d f) (a:Below w.heap.size w j):ChgF B E M w M' w' i k e d f :=
 ⟨⟨h.mem,fun b c l=>(h.blk b (by have:=a.size;omega) l).trans (a.block b c),fun b c=>h.old b (by have:=a.size;omega),h.os.trans a.os,h.tape.trans a.tape,h.output.trans a.output,by have:=a.size;have:=h.size;omega⟩,fun g m=>(h.fsh g m).imp id (fun h=>by have:=a.size;omega)⟩
structure Cl (M:Mem) (w:World) (M1:Mem) (w1:World):Prop where
 b:Below w.heap.size w w1
 m:∀ b i v,M b i=some v->M1 b i=some v
 o:∀ b,b<w.heap.size->∀ i,M1 b i=M b i
 c:Cons M1 w1
theorem Cl.start {M w} (a:Cons M w):Cl M w M w.drew:=⟨(Below.refl _ _).drew,fun _ _ _ h=>h,fun _ _ _=>rfl,tG a⟩
theorem Cl.al {M M1 w a} (h:Cl M w M1 a) o:Cl M w M1 (a.alloc o):=⟨h.b.trans ((Below.refl _ _).alloc h.b.size o),h.m,h.o,kO h.c ((Below.refl _ _).alloc (by omega) o)⟩
theorem Cl.q {M M1 d w f a} (h:Cl M w M1 f) (q:Quiet M1 f d a) (c:Cons d a):Cl M w d a :=
 ⟨h.b.trans ⟨q.os,q.tape,q.output,q.size,fun b e=>(q.old b (by have:=h.b.size;omega)).1⟩,fun b i v hv=>q.mem b i v (h.m b i v hv),fun b e i=>((q.old b (by have:=h.b.size;omega)).2 i).trans (h.o b e i),c⟩
theorem aGW {w:World} {b:Nat} {p} o (h:w.heap[b]?=some p):(w.alloc o).heap[b]?=some p:=(heap_alloc_old w o (Array.getElem?_eq_some_iff.1 h).1).trans h
theorem at_q {M c w a} {b:Nat} {p} (q:Quiet M w c a) (h:w.heap[b]?=some p):a.heap[b]?=some p:=(q.old b (Array.getElem?_eq_some_iff.1 h).1).1.trans h
theorem zS (w:World) o p:((w.alloc o).alloc p).heap[w.heap.size+1]?=some p:=by
 have:=heap_alloc_new (w.alloc o) p;simp_all
def st7 (w:World) (g j:Nat) (a0 a1 a2 a3 a4 a5 a6:Value):World:=((((((w.setCell ⟨g,j,none⟩ a0).setCell ⟨g,j+1,none⟩ a1).setCell ⟨g,j+2,none⟩ a2).setCell ⟨g,j+3,none⟩ a3).setCell ⟨g,j+4,none⟩ a4).setCell ⟨g,j+5,none⟩ a5).setCell ⟨g,j+6,none⟩ a6
theorem set7 (ys:List Value) i n o m k l h b e c f g d a j (p:ys.length=j):(((((((ys++[i,n,o,m,k,l,h]).set j b).set (j+1) e).set (j+2) c).set (j+3) f).set (j+4) g).set (j+5) d).set (j+6) a=ys++[b,e,c,f,g,d,a]:=by
 simp_all
theorem vN {w} {B e g n cap j:Nat} {ys m r s q o p l} (h:w.ownsRow B e 7 (.slice (some ⟨g,0,none⟩) n cap) n (ys++[m,r,s,q,o,p,l])) (t:ys.length=j) b i c f k d a:(st7 w g j b i c f k d a).ownsRow B e 7 (.slice (some ⟨g,0,none⟩) n cap) n (ys++[b,i,c,f,k,d,a]):=by
 rw [<- set7 ys m r s q o p l b i c f k d a j t];have u:(ys++[m,r,s,q,o,p,l]).length=j+7:=by simp [t]
 exact iP (iP (iP (iP (iP (iP (iP h j b (by omega)) (j+1) i (by grind)) (j+2) c (by grind)) (j+3) f (by grind)) (j+4) k (by grind)) (j+5) d (by grind)) (j+6) a (by grind)
theorem pQ w g j b d f i e k c a (h:b≠g):(st7 w g j d f i e k c a).heap[b]?=w.heap[b]?:=by
 unfold st7;rw [Below.heap_setCell _ _ _ _ h,Below.heap_setCell _ _ _ _ h,Below.heap_setCell _ _ _ _ h,Below.heap_setCell _ _ _ _ h,Below.heap_setCell _ _ _ _ h,Below.heap_setCell _ _ _ _ h,Below.heap_setCell _ _ _ _ h]
theorem pR w g j c e f d h b a:(st7 w g j c e f d h b a).heap.size=w.heap.size:=by simp [st7]
theorem bDI (w:World) a v:(w.setCell a v).os=w.os:=rfl
theorem aMu (w:World) a v:(w.setCell a v).output=w.output:=rfl
theorem aC4 w g j c e f d h b a:(st7 w g j c e f d h b a).os=w.os:=by simp [st7,bDI]
theorem pS w g j c e f d h b a:(st7 w g j c e f d h b a).tape=w.tape:=by simp [st7]
theorem jB w g j c e f d h b a:(st7 w g j c e f d h b a).output=w.output:=by simp [st7,aMu]
theorem zc7 {w:World} {B g a c d} (b:w.ownsRow B 44 7 (.slice (some ⟨g,0,none⟩) (a+1) c) (a+1) (d++[.int .i64 0,.string ⟨#[]⟩,.string ⟨#[]⟩,.slice none 0 0,.slice none 0 0,.string ⟨#[]⟩,.slice none 0 0])) (e:d.length=a*7) j v (f:([.int .i64 0,.string ⟨#[]⟩,.string ⟨#[]⟩,.slice none 0 0,.slice none 0 0,.string ⟨#[]⟩,.slice none 0 0]:List Value)[j]?=some v):w.cell? ⟨g,a*7+j,none⟩=some v/\w.frozen? ⟨g,a*7+j,none⟩=false :=
 aOx b (j:=a*7+j) (v:=v) (by rw [List.getElem?_append_right (by omega),e,show a*7+j-a*7=j by omega];exact f)
noncomputable def aUw:Code:=elsC (sndC (fstC (sndC (sndC (sndC (sndC (sndC (aS Tryz.f3))))))))
set_option maxHeartbeats 16000000 in
theorem bF3 (nm:Str) {B E:Nat} {M:Mem} {w:World} {ops:List GOp} {frags:List GFrag} {gA n capA X Z0 Z1 Z2 Z3:Nat} {vf:Value} {ys zs:List Value} {u2 u3:Value} {a4:Option Addr} {l4 p4:Nat} (h:DS 0 B E M w ops frags (.slice (some ⟨gA,0,none⟩) n capA) ys vf zs u2 u3 (.slice a4 l4 p4)) (hE:E<=w.heap.size) {x:GOp} (hx:ops[0]?=some x) (hs:x.sels.length<1073741824) (hc:Cons M w) (hZ:w.heap[Z0]?=some (.cells #[.slice (some ⟨gA,0,none⟩) n capA,vf] 28 (0,0))) (hZE:E<=Z0∨Z0<B) (Q:Exit->Act->World->Prop) (l:List Value) (hf:FK l X nm Z0 Z1 Z2 Z3)
  (hC:∀ (w':World) (M':Mem) (t4:Value) (ys' l':List Value),DS 0 B w'.heap.size M' w' (ops.set 0 ⟨x.kind,x.name,x.vars,x.dirs,x.sels++[selY [dirY nm]]⟩) frags (.slice (some ⟨gA,0,none⟩) n capA) ys' vf zs u2 u3 t4->Cons M' w'->ChgF B E M w M' w' (.slice (some ⟨gA,0,none⟩) n capA) vf u2 u3 t4->FK l' X nm Z0 Z1 Z2 Z3->Q .normal ⟨l'.toArray,[]⟩ w') :
  Code.wp Tryz.prog aUw Q ⟨l.toArray,[]⟩ w:=by
 obtain ⟨rfl,ys4,P⟩:=pre4 h hE hx hZ hZE
 obtain ⟨kz,k4,kf,kZ,kg,ko,kB⟩:=P.all w (Below.refl _ _)
 have hn0:=P.n0
 have hop0:=P.op0
 have hyes:=zQ nm
 have hS0:w.drew.cell? ⟨Z0,0,none⟩=some (.slice (some ⟨gA,0,none⟩) n capA)/\w.drew.cell? ⟨gA,4,none⟩=some (.slice a4 x.sels.length p4):=⟨kz,k4⟩
 have C0:=Cl.start hc
 have hlen:=hf.len
 replace P:=(id P:Hid _)
 replace hyes:=(id hyes:Hid _)
 replace h:=(id h:Hid _)
 replace hx:=(id hx:Hid _)
 replace hC:=(id hC:Hid _)
 clear hZ hZE hc
 revert hf
 refine jE 192 (fun l=>FK l X nm Z0 Z1 Z2 Z3->Code.wp Tryz.prog _ _ ⟨l.toArray,[]⟩ _) ?_ l hlen
 simp only [AllL]
 iterate 192 intro _
 rintro ⟨_,h3,h7,h8,h9,h10,h11⟩
 simp only [at_] at h3 h7 h8 h9 h10 h11
 subst h3 h7 h8 h9 h10 h11
 unfold aUw
 simp only [Tryz.f3,aS,sndC,fstC,thnC,elsC]
 refine Code.wp_mono (Q:=Exit.then (Q .normal) (fun _ _ _=>False)) (fun e a w h=>by cases e<;>first | exact h | exact h.elim) ?_
 refine jO (fun w'=>w'.cell? ⟨Z0,0,none⟩=some (.slice (some ⟨gA,0,none⟩) n capA)/\w'.cell? ⟨gA,4,none⟩=some (.slice a4 x.sels.length p4)) (fun j=>j==15) (by kernel_rfl) ?_
 try simp only [Act.put,List.setIfInBounds_toArray,List.set_cons_zero,List.set_cons_succ]
 refine tk 0 hS0 ?_
 refine tk 1 hS0 ?_
 refine tk 2 hS0 ?_
 refine tk 3 hS0 ?_
 refine tk 4 hS0 ?_
 refine tk 5 hS0 ?_
 refine tk 6 hS0 ?_
 refine tk 7 hS0 ?_
 refine on1 8 ?_
 intro K hK
 go_simp
 go_at_call 14
 refine (hyes.out _ _ C0.c).mono ?_
 rintro e' w1 ⟨a0,l0,p0,M1,rfl,hr1,hc1,hq1⟩
 have C1:=C0.q hq1 hc1
 obtain ⟨c0z,c0a,c0f,c01,c02,c03,c04⟩:=P.out.all w1 C1.b
 refine hK.out _ _ ⟨c0z,c0a⟩ (fun hS1 => ?_)
 clear hK K
 try simp only [Act.put,List.setIfInBounds_toArray,List.set_cons_zero,List.set_cons_succ]
 refine on1 9 ?_
 intro K hK
 go_simp
 refine hK.out _ _ ⟨aZ _ hS1.1,aZ _ hS1.2⟩ (fun hS2 => ?_)
 clear hK K
 try simp only [Act.put,List.setIfInBounds_toArray,List.set_cons_zero,List.set_cons_succ]
 refine tk 10 hS2 ?_
 refine on1 11 ?_
 intro K hK
 go_simp
 refine hK.out _ _ ⟨aZ _ hS2.1,aZ _ hS2.2⟩ (fun hS3 => ?_)
 clear hK K
 try simp only [Act.put,List.setIfInBounds_toArray,List.set_cons_zero,List.set_cons_succ]
 refine on1 12 ?_
 intro K hK
 have CA:Cl M w M1 ((w1.alloc (.cells #[.string ⟨nm.toArray⟩,.slice a0 l0 p0] 41)).alloc (.cells #[.int .i64 0,.string ⟨#[]⟩,.string ⟨#[95,95,116,121,112,101,110,97,109,101]⟩,.slice none 0 0,.slice (some ⟨w1.heap.size,0,none⟩) 1 1,.string ⟨#[]⟩,.slice none 0 0] 44)):=((C1.al _).al _)
 obtain ⟨_,_,_,_,_,q6,q7⟩:=P.out.all _ CA.b
 show (if Region.wanted {dst:=some 72,op:=Op.call {callee:=Callee.builtin Builtin.append,args:=_,argTypes:=_},type:=_,pos:=_,after:=_,guard:=_} _=true then _ else _)
 refine aGV (.tmp 66) (.tmp 71) B (.slice a4 x.sels.length p4) x.sels.length ys4 ⟨w1.heap.size+1,0,none⟩ #[.int .i64 0,.string ⟨#[]⟩,.string ⟨#[95,95,116,121,112,101,110,97,109,101]⟩,.slice none 0 0,.slice (some ⟨w1.heap.size,0,none⟩) 1 1,.string ⟨#[]⟩,.slice none 0 0] rfl rfl rfl rfl rfl (by intro u hu;simp only [List.mem_cons,List.not_mem_nil,or_false] at hu;rcases hu with rfl | rfl | rfl | rfl | rfl | rfl | rfl<;>rfl) q6 (zS w1 _ _) ⟨rfl,rfl⟩ hs q7 ?_
 intro g cap2 w4 ho4 hgr hat
 obtain ⟨n1,n2,n3⟩:=P.out.aft _ w4 CA.b hgr
 refine hK.out _ _ ⟨n1,n2⟩ (fun hS4 => ?_)
 clear hK K
 try simp only [Act.put,List.setIfInBounds_toArray,List.set_cons_zero,List.set_cons_succ]
 refine on1 13 ?_
 intro K hK
 go_simp
 refine hK.out _ _ hS4 (fun hS5 => ?_)
 clear hK K
 try simp only [Act.put,List.setIfInBounds_toArray,List.set_cons_zero,List.set_cons_succ]
 refine tk 14 hS5 ?_
 refine onL 15 ?_
 intro K hK
 go_simp
 refine hK.out _ _ ?_
 clear hK K
 try simp only [Act.put,List.setIfInBounds_toArray,List.set_cons_zero,List.set_cons_succ]
 refine iF (by kernel_rfl) ?_ _
 have hgg:g≠gA:=fun e=>by
  rcases hat with e2 | e2
  ·exact P.out.o4g (by rw [<- e];exact e2)
  ·have:=CA.b.size;omega
 have oW:=ownsRow_setCell_other ho4 (a:=⟨gA,4,none⟩) (by simpa [Value.ownBlock] using hgg) (.slice (some ⟨g,0,none⟩) (x.sels.length+1) cap2)
 obtain ⟨M',ys',k1,k2,k3⟩:=fin4 (ds:=[dirY nm]) h.out hE hx.out P.out C1.m C1.o C1.b C1.c (Below.two (Nat.le_refl _) _ _) (aGW _ (heap_alloc_new w1 _)) (Nat.le_refl _) rfl (by simp) (row1 hr1) hgr hat _ oW (fun b _=>rfl) (by simp [World.setCell]) rfl rfl rfl
 exact hC.out _ M' _ ys' _ k1 k2 k3 ⟨rfl,rfl,rfl,rfl,rfl,rfl,rfl⟩
noncomputable def aUx:Code:=elsC (sndC (fstC (sndC (sndC (sndC (sndC (sndC (sndC (aS Tryz.f3)))))))))
set_option maxHeartbeats 16000000 in
theorem bF4 (nm:Str) {B E:Nat} {M:Mem} {w:World} {ops:List GOp} {frags:List GFrag} {gA n capA X Z0 Z1 Z2 Z3:Nat} {vf:Value} {ys zs:List Value} {u2 u3:Value} {a4:Option Addr} {l4 p4:Nat} (h:DS 0 B E M w ops frags (.slice (some ⟨gA,0,none⟩) n capA) ys vf zs u2 u3 (.slice a4 l4 p4)) (hE:E<=w.heap.size) {x:GOp} (hx:ops[0]?=some x) (hs:x.sels.length<1073741824) (hc:Cons M w) (hZ:w.heap[Z1]?=some (.cells #[.slice (some ⟨gA,0,none⟩) n capA,vf] 28 (0,0))) (hZE:E<=Z1∨Z1<B) (Q:Exit->Act->World->Prop) (l:List Value) (hf:FK l X nm Z0 Z1 Z2 Z3)
  (hC:∀ (w':World) (M':Mem) (t4:Value) (ys' l':List Value),DS 0 B w'.heap.size M' w' (ops.set 0 ⟨x.kind,x.name,x.vars,x.dirs,x.sels++[selY [dirY nm,dirY nm]]⟩) frags (.slice (some ⟨gA,0,none⟩) n capA) ys' vf zs u2 u3 t4->Cons M' w'->ChgF B E M w M' w' (.slice (some ⟨gA,0,none⟩) n capA) vf u2 u3 t4->FK l' X nm Z0 Z1 Z2 Z3->Q .normal ⟨l'.toArray,[]⟩ w') :
  Code.wp Tryz.prog aUx Q ⟨l.toArray,[]⟩ w:=by
 obtain ⟨rfl,ys4,P⟩:=pre4 h hE hx hZ hZE
 obtain ⟨kz,k4,kf,kZ,kg,ko,kB⟩:=P.all w (Below.refl _ _)
 have hn0:=P.n0
 have hop0:=P.op0
 have hyes:=zQ nm
 have hS0:w.drew.cell? ⟨Z1,0,none⟩=some (.slice (some ⟨gA,0,none⟩) n capA)/\w.drew.cell? ⟨gA,4,none⟩=some (.slice a4 x.sels.length p4):=⟨kz,k4⟩
 have C0:=Cl.start hc
 have hlen:=hf.len
 replace P:=(id P:Hid _)
 replace hyes:=(id hyes:Hid _)
 replace h:=(id h:Hid _)
 replace hx:=(id hx:Hid _)
 replace hC:=(id hC:Hid _)
 clear hZ hZE hc
 revert hf
 refine jE 192 (fun l=>FK l X nm Z0 Z1 Z2 Z3->Code.wp Tryz.prog _ _ ⟨l.toArray,[]⟩ _) ?_ l hlen
 simp only [AllL]
 iterate 192 intro _
 rintro ⟨_,h3,h7,h8,h9,h10,h11⟩
 simp only [at_] at h3 h7 h8 h9 h10 h11
 subst h3 h7 h8 h9 h10 h11
 unfold aUx
 simp only [Tryz.f3,aS,sndC,fstC,thnC,elsC]
 refine Code.wp_mono (Q:=Exit.then (Q .normal) (fun _ _ _=>False)) (fun e a w h=>by cases e<;>first | exact h | exact h.elim) ?_
 refine jO (fun w'=>w'.cell? ⟨Z1,0,none⟩=some (.slice (some ⟨gA,0,none⟩) n capA)/\w'.cell? ⟨gA,4,none⟩=some (.slice a4 x.sels.length p4)) (fun j=>j==17) (by kernel_rfl) ?_
 try simp only [Act.put,List.setIfInBounds_toArray,List.set_cons_zero,List.set_cons_succ]
 refine tk 0 hS0 ?_
 refine tk 1 hS0 ?_
 refine tk 2 hS0 ?_
 refine tk 3 hS0 ?_
 refine tk 4 hS0 ?_
 refine tk 5 hS0 ?_
 refine tk 6 hS0 ?_
 refine tk 7 hS0 ?_
 refine tk 9 hS0 ?_
 refine on1 8 ?_
 intro K hK
 go_simp
 go_at_call 14
 refine (hyes.out _ _ C0.c).mono ?_
 rintro e' w1 ⟨a0,l0,p0,M1,rfl,hr1,hc1,hq1⟩
 have C1:=C0.q hq1 hc1
 obtain ⟨c0z,c0a,c0f,c01,c02,c03,c04⟩:=P.out.all w1 C1.b
 refine hK.out _ _ ⟨c0z,c0a⟩ (fun hS1 => ?_)
 clear hK K
 try simp only [Act.put,List.setIfInBounds_toArray,List.set_cons_zero,List.set_cons_succ]
 refine on1 10 ?_
 intro K hK
 go_simp
 go_at_call 14
 refine (hyes.out _ _ C1.c).mono ?_
 rintro e' w2 ⟨a1,l1,p1,M2,rfl,hr2,hc2,hq2⟩
 have C2:=C1.q hq2 hc2
 obtain ⟨c1z,c1a,c1f,c11,c12,c13,c14⟩:=P.out.all w2 C2.b
 refine hK.out _ _ ⟨c1z,c1a⟩ (fun hS2 => ?_)
 clear hK K
 try simp only [Act.put,List.setIfInBounds_toArray,List.set_cons_zero,List.set_cons_succ]
 refine on1 11 ?_
 intro K hK
 go_simp
 refine hK.out _ _ ⟨aZ _ hS2.1,aZ _ hS2.2⟩ (fun hS3 => ?_)
 clear hK K
 try simp only [Act.put,List.setIfInBounds_toArray,List.set_cons_zero,List.set_cons_succ]
 refine tk 12 hS3 ?_
 refine on1 13 ?_
 intro K hK
 go_simp
 refine hK.out _ _ ⟨aZ _ hS3.1,aZ _ hS3.2⟩ (fun hS4 => ?_)
 clear hK K
 try simp only [Act.put,List.setIfInBounds_toArray,List.set_cons_zero,List.set_cons_succ]
 refine on1 14 ?_
 intro K hK
 have CA:Cl M w M2 ((w2.alloc (.cells #[.string ⟨nm.toArray⟩,.slice a0 l0 p0,.string ⟨nm.toArray⟩,.slice a1 l1 p1] 41)).alloc (.cells #[.int .i64 0,.string ⟨#[]⟩,.string ⟨#[95,95,116,121,112,101,110,97,109,101]⟩,.slice none 0 0,.slice (some ⟨w2.heap.size,0,none⟩) 2 2,.string ⟨#[]⟩,.slice none 0 0] 44)):=((C2.al _).al _)
 obtain ⟨_,_,_,_,_,q6,q7⟩:=P.out.all _ CA.b
 show (if Region.wanted {dst:=some 108,op:=Op.call {callee:=Callee.builtin Builtin.append,args:=_,argTypes:=_},type:=_,pos:=_,after:=_,guard:=_} _=true then _ else _)
 refine aGV (.tmp 100) (.tmp 107) B (.slice a4 x.sels.length p4) x.sels.length ys4 ⟨w2.heap.size+1,0,none⟩ #[.int .i64 0,.string ⟨#[]⟩,.string ⟨#[95,95,116,121,112,101,110,97,109,101]⟩,.slice none 0 0,.slice (some ⟨w2.heap.size,0,none⟩) 2 2,.string ⟨#[]⟩,.slice none 0 0] rfl rfl rfl rfl rfl (by intro u hu;simp only [List.mem_cons,List.not_mem_nil,or_false] at hu;rcases hu with rfl | rfl | rfl | rfl | rfl | rfl | rfl<;>rfl) q6 (zS w2 _ _) ⟨rfl,rfl⟩ hs q7 ?_
 intro g cap2 w4 ho4 hgr hat
 obtain ⟨n1,n2,n3⟩:=P.out.aft _ w4 CA.b hgr
 refine hK.out _ _ ⟨n1,n2⟩ (fun hS5 => ?_)
 clear hK K
 try simp only [Act.put,List.setIfInBounds_toArray,List.set_cons_zero,List.set_cons_succ]
 refine on1 15 ?_
 intro K hK
 go_simp
 refine hK.out _ _ hS5 (fun hS6 => ?_)
 clear hK K
 try simp only [Act.put,List.setIfInBounds_toArray,List.set_cons_zero,List.set_cons_succ]
 refine tk 16 hS6 ?_
 refine onL 17 ?_
 intro K hK
 go_simp
 refine hK.out _ _ ?_
 clear hK K
 try simp only [Act.put,List.setIfInBounds_toArray,List.set_cons_zero,List.set_cons_succ]
 refine iF (by kernel_rfl) ?_ _
 have hgg:g≠gA:=fun e=>by
  rcases hat with e2 | e2
  ·exact P.out.o4g (by rw [<- e];exact e2)
  ·have:=CA.b.size;omega
 have oW:=ownsRow_setCell_other ho4 (a:=⟨gA,4,none⟩) (by simpa [Value.ownBlock] using hgg) (.slice (some ⟨g,0,none⟩) (x.sels.length+1) cap2)
 obtain ⟨M',ys',k1,k2,k3⟩:=fin4 (ds:=[dirY nm,dirY nm]) h.out hE hx.out P.out C2.m C2.o C2.b C2.c (Below.two (Nat.le_refl _) _ _) (aGW _ (heap_alloc_new w2 _)) (Nat.le_refl _) rfl (by simp) (row2 (hr1.mono hq2.mem (fun _ _ _ h=>h)) hr2) hgr hat _ oW (fun b _=>rfl) (by simp [World.setCell]) rfl rfl rfl
 exact hC.out _ M' _ ys' _ k1 k2 k3 ⟨rfl,rfl,rfl,rfl,rfl,rfl,rfl⟩
noncomputable def aUy:Code:=elsC (sndC (fstC (sndC (sndC (sndC (sndC (sndC (sndC (sndC (sndC (aS Tryz.f3)))))))))))
set_option maxHeartbeats 16000000 in
theorem bF5 (nm:Str) (hnm:nm.length<=1000) {B E:Nat} {M:Mem} {w:World} {ops:List GOp} {frags:List GFrag} {gA n capA X Z0 Z1 Z2 Z3:Nat} {vf:Value} {ys zs:List Value} {u2 u3:Value} {a4:Option Addr} {l4 p4:Nat} (h:DS 0 B E M w ops frags (.slice (some ⟨gA,0,none⟩) n capA) ys vf zs u2 u3 (.slice a4 l4 p4)) (hE:E<=w.heap.size) {x:GOp} (hx:ops[0]?=some x) (hs:x.sels.length<1073741824) (hc:Cons M w) (hZ:w.heap[Z3]?=some (.cells #[.slice (some ⟨gA,0,none⟩) n capA,vf] 28 (0,0))) (hZE:E<=Z3∨Z3<B) (Q:Exit->Act->World->Prop) (l:List Value) (hf:FK l X nm Z0 Z1 Z2 Z3)
  (hC:∀ (w':World) (M':Mem) (t4:Value) (ys' l':List Value),DS 0 B w'.heap.size M' w' (ops.set 0 ⟨x.kind,x.name,x.vars,x.dirs,x.sels++[selY [dirY (nm++[115])]]⟩) frags (.slice (some ⟨gA,0,none⟩) n capA) ys' vf zs u2 u3 t4->Cons M' w'->ChgF B E M w M' w' (.slice (some ⟨gA,0,none⟩) n capA) vf u2 u3 t4->FK l' X nm Z0 Z1 Z2 Z3->Q .normal ⟨l'.toArray,[]⟩ w') :
  Code.wp Tryz.prog aUy Q ⟨l.toArray,[]⟩ w:=by
 obtain ⟨rfl,ys4,P⟩:=pre4 h hE hx hZ hZE
 obtain ⟨kz,k4,kf,kZ,kg,ko,kB⟩:=P.all w (Below.refl _ _)
 have hn0:=P.n0
 have hop0:=P.op0
 have hyes:=zQ (nm++[115])
 have hns:¬ (9223372036854775807<nm.length+1):=by omega
 have hap:(⟨nm.toArray⟩:ByteArray)++⟨#[115]⟩=⟨(nm++[115]).toArray⟩:=by apply ByteArray.ext;simp
 have hS0:w.drew.cell? ⟨Z3,0,none⟩=some (.slice (some ⟨gA,0,none⟩) n capA)/\w.drew.cell? ⟨gA,4,none⟩=some (.slice a4 x.sels.length p4):=⟨kz,k4⟩
 have C0:=Cl.start hc
 have hlen:=hf.len
 replace P:=(id P:Hid _)
 replace hyes:=(id hyes:Hid _)
 replace h:=(id h:Hid _)
 replace hx:=(id hx:Hid _)
 replace hC:=(id hC:Hid _)
 clear hZ hZE hc
 revert hf
 refine jE 192 (fun l=>FK l X nm Z0 Z1 Z2 Z3->Code.wp Tryz.prog _ _ ⟨l.toArray,[]⟩ _) ?_ l hlen
 simp only [AllL]
 iterate 192 intro _
 rintro ⟨_,h3,h7,h8,h9,h10,h11⟩
 simp only [at_] at h3 h7 h8 h9 h10 h11
 subst h3 h7 h8 h9 h10 h11
 unfold aUy
 simp only [Tryz.f3,aS,sndC,fstC,thnC,elsC]
 refine Code.wp_mono (Q:=Exit.then (Q .normal) (fun _ _ _=>False)) (fun e a w h=>by cases e<;>first | exact h | exact h.elim) ?_
 refine jO (fun w'=>w'.cell? ⟨Z3,0,none⟩=some (.slice (some ⟨gA,0,none⟩) n capA)/\w'.cell? ⟨gA,4,none⟩=some (.slice a4 x.sels.length p4)) (fun j=>j==16) (by kernel_rfl) ?_
 try simp only [Act.put,List.setIfInBounds_toArray,List.set_cons_zero,List.set_cons_succ]
 refine tk 0 hS0 ?_
 refine tk 1 hS0 ?_
 refine tk 2 hS0 ?_
 refine tk 3 hS0 ?_
 refine tk 4 hS0 ?_
 refine tk 5 hS0 ?_
 refine tk 6 hS0 ?_
 refine tk 7 hS0 ?_
 refine tk 8 hS0 ?_
 refine on1 9 ?_
 intro K hK
 go_simp
 go_at_call 14
 refine (hyes.out _ _ C0.c).mono ?_
 rintro e' w1 ⟨a0,l0,p0,M1,rfl,hr1,hc1,hq1⟩
 have C1:=C0.q hq1 hc1
 obtain ⟨c0z,c0a,c0f,c01,c02,c03,c04⟩:=P.out.all w1 C1.b
 refine hK.out _ _ ⟨c0z,c0a⟩ (fun hS1 => ?_)
 clear hK K
 try simp only [Act.put,List.setIfInBounds_toArray,List.set_cons_zero,List.set_cons_succ]
 refine on1 10 ?_
 intro K hK
 go_simp
 refine hK.out _ _ ⟨aZ _ hS1.1,aZ _ hS1.2⟩ (fun hS2 => ?_)
 clear hK K
 try simp only [Act.put,List.setIfInBounds_toArray,List.set_cons_zero,List.set_cons_succ]
 refine tk 11 hS2 ?_
 refine on1 12 ?_
 intro K hK
 go_simp
 refine hK.out _ _ ⟨aZ _ hS2.1,aZ _ hS2.2⟩ (fun hS3 => ?_)
 clear hK K
 try simp only [Act.put,List.setIfInBounds_toArray,List.set_cons_zero,List.set_cons_succ]
 refine on1 13 ?_
 intro K hK
 have CA:Cl M w M1 ((w1.alloc (.cells #[.string ⟨(nm++[115]).toArray⟩,.slice a0 l0 p0] 41)).alloc (.cells #[.int .i64 0,.string ⟨#[]⟩,.string ⟨#[95,95,116,121,112,101,110,97,109,101]⟩,.slice none 0 0,.slice (some ⟨w1.heap.size,0,none⟩) 1 1,.string ⟨#[]⟩,.slice none 0 0] 44)):=((C1.al _).al _)
 obtain ⟨_,_,_,_,_,q6,q7⟩:=P.out.all _ CA.b
 show (if Region.wanted {dst:=some 155,op:=Op.call {callee:=Callee.builtin Builtin.append,args:=_,argTypes:=_},type:=_,pos:=_,after:=_,guard:=_} _=true then _ else _)
 refine aGV (.tmp 148) (.tmp 154) B (.slice a4 x.sels.length p4) x.sels.length ys4 ⟨w1.heap.size+1,0,none⟩ #[.int .i64 0,.string ⟨#[]⟩,.string ⟨#[95,95,116,121,112,101,110,97,109,101]⟩,.slice none 0 0,.slice (some ⟨w1.heap.size,0,none⟩) 1 1,.string ⟨#[]⟩,.slice none 0 0] rfl rfl rfl rfl rfl (by intro u hu;simp only [List.mem_cons,List.not_mem_nil,or_false] at hu;rcases hu with rfl | rfl | rfl | rfl | rfl | rfl | rfl<;>rfl) q6 (zS w1 _ _) ⟨rfl,rfl⟩ hs q7 ?_
 intro g cap2 w4 ho4 hgr hat
 obtain ⟨n1,n2,n3⟩:=P.out.aft _ w4 CA.b hgr
 refine hK.out _ _ ⟨n1,n2⟩ (fun hS4 => ?_)
 clear hK K
 try simp only [Act.put,List.setIfInBounds_toArray,List.set_cons_zero,List.set_cons_succ]
 refine on1 14 ?_
 intro K hK
 go_simp
 refine hK.out _ _ hS4 (fun hS5 => ?_)
 clear hK K
 try simp only [Act.put,List.setIfInBounds_toArray,List.set_cons_zero,List.set_cons_succ]
 refine tk 15 hS5 ?_
 refine onL 16 ?_
 intro K hK
 go_simp
 refine hK.out _ _ ?_
 clear hK K
 try simp only [Act.put,List.setIfInBounds_toArray,List.set_cons_zero,List.set_cons_succ]
 refine iF (by kernel_rfl) ?_ _
 have hgg:g≠gA:=fun e=>by
  rcases hat with e2 | e2
  ·exact P.out.o4g (by rw [<- e];exact e2)
  ·have:=CA.b.size;omega
 have oW:=ownsRow_setCell_other ho4 (a:=⟨gA,4,none⟩) (by simpa [Value.ownBlock] using hgg) (.slice (some ⟨g,0,none⟩) (x.sels.length+1) cap2)
 obtain ⟨M',ys',k1,k2,k3⟩:=fin4 (ds:=[dirY (nm++[115])]) h.out hE hx.out P.out C1.m C1.o C1.b C1.c (Below.two (Nat.le_refl _) _ _) (aGW _ (heap_alloc_new w1 _)) (Nat.le_refl _) rfl (by simp) (row1 hr1) hgr hat _ oW (fun b _=>rfl) (by simp [World.setCell]) rfl rfl rfl
 exact hC.out _ M' _ ys' _ k1 k2 k3 ⟨rfl,rfl,rfl,rfl,rfl,rfl,rfl⟩
end Go.Proofs.YtphmfillajagdaaGreat
set_option maxHeartbeats 16000000
open Go Go.Ev Go.RowKit
namespace Go.Proofs.YtphmfillajagdaaGreat
noncomputable def aFF:Code:=sndC (thnC (sndC (fstC (sndC (sndC (sndC (sndC (sndC (aS Tryz.f3)))))))))
theorem aUz {w:World} {B g n4 cap' D ys4} (own5:w.ownsRow B 44 7 (.slice (some ⟨g,0,none⟩) (n4+1) cap') (n4+1) (ys4++[.int .i64 0,.string ⟨#[]⟩,.string ⟨#[]⟩,.slice none 0 0,.slice none 0 0,.string ⟨#[]⟩,.slice none 0 0])) (hyl:ys4.length=n4*7) Q l (hlen:l.length=192) (h1:at_ l 53 = .agg #[.int .i64 0,.string ⟨#[]⟩,.string ⟨#[95,95,116,121,112,101,110,97,109,101]⟩,.slice none 0 0,.slice (some ⟨D,0,none⟩) 1 1,.string ⟨#[]⟩,.slice none 0 0]) (h2:at_ l 54 = .int .i64 n4) (h3:at_ l 56 = .slice (some ⟨g,0,none⟩) (n4+1) cap')
  (hC:∀ z,Q .normal ⟨(l.set 59 z).toArray,[]⟩ (st7 w g (n4*7) (.int .i64 0) (.string ⟨#[]⟩) (.string ⟨#[95,95,116,121,112,101,110,97,109,101]⟩) (.slice none 0 0) (.slice (some ⟨D,0,none⟩) 1 1) (.string ⟨#[]⟩) (.slice none 0 0))):Code.wp Tryz.prog aFF Q ⟨l.toArray,[]⟩ w:=by
 have zc:=zc7 own5 hyl;obtain ⟨b,f0⟩:=zc 0 _ rfl;obtain ⟨e,h⟩:=zc 1 _ rfl;obtain ⟨j,i⟩:=zc 2 _ rfl;obtain ⟨m,k⟩:=zc 3 _ rfl;obtain ⟨c,o⟩:=zc 4 _ rfl;obtain ⟨n,p⟩:=zc 5 _ rfl;obtain ⟨f,d⟩:=zc 6 _ rfl;simp only [Nat.add_zero] at b f0;have hmm:(n4:Int)<(n4:Int)+1:=by omega
 have a:n4<n4+1:=by omega
 clear zc own5;revert h1 h2 h3 hC;refine jE 192 (fun l=>at_ l 53=_->at_ l 54=_->at_ l 56=_->(∀ z:Value,Q .normal ⟨(l.set 59 z).toArray,[]⟩ _)->Code.wp Tryz.prog _ _ ⟨l.toArray,[]⟩ _) ?_ l hlen;simp only [AllL];iterate 192 intro _
 intro h1 h2 h3 hC;simp only [at_] at h1 h2 h3;subst h1 h2 h3;replace hC:=(id hC:Hid _);unfold aFF;simp only [Tryz.f3,aS,sndC,fstC,thnC,elsC];go_wp2;exact hC.out _
noncomputable def aUA:Code:=fstC (thnC (sndC (fstC (sndC (sndC (sndC (sndC (sndC (aS Tryz.f3)))))))))
theorem bF6 D {B E M w Y frags y n f X U Z1 Z2 Z3 vf ys zs u2 u3 a4 l4 p4} (h:DS 0 B E M w Y frags (.slice (some ⟨y,0,none⟩) n f) ys vf zs u2 u3 (.slice a4 l4 p4)) (hE:E<=w.heap.size) {x} (hx:Y[0]?=some x) (hs:x.sels.length<1073741824) (hc:Cons M w) (hZ:w.heap[U]?=some (.cells #[.slice (some ⟨y,0,none⟩) n f,vf] 28 (0,0))) (hZE:E<=U∨U<B) Q l (hf:FK l X D U Z1 Z2 Z3)
  (hC:∀ w' M' t4 v l',DS 0 B w'.heap.size M' w' (Y.set 0 ⟨x.kind,x.name,x.vars,x.dirs,x.sels++[selY [dirY D]]⟩) frags (.slice (some ⟨y,0,none⟩) n f) v vf zs u2 u3 t4->Cons M' w'->ChgF B E M w M' w' (.slice (some ⟨y,0,none⟩) n f) vf u2 u3 t4->FK l' X D U Z1 Z2 Z3->Q .normal ⟨l'.toArray,[]⟩ w') :
  Code.wp Tryz.prog (.seq aUA aFF) Q ⟨l.toArray,[]⟩ w:=by
 obtain ⟨rfl,ys4,P⟩:=pre4 h hE hx hZ hZE;obtain ⟨kz,k4,kf,kZ,kg,ko,kB⟩:=P.all w (Below.refl _ _);have hn0:=P.n0;have hop0:=P.op0;have A:=zQ D;have k:w.drew.cell? ⟨U,0,none⟩=some (.slice (some ⟨y,0,none⟩) n f)/\w.drew.cell? ⟨y,4,none⟩=some (.slice a4 x.sels.length p4):=⟨kz,k4⟩;have C0:=Cl.start hc;have hlen:=hf.len;replace P:=(id P:Hid _);replace A:=(id A:Hid _);replace h:=(id h:Hid _);replace hx:=(id hx:Hid _);replace hC:=(id hC:Hid _);clear hZ hZE hc;revert hf;refine jE 192 (fun l=>FK l X D U Z1 Z2 Z3->Code.wp Tryz.prog _ _ ⟨l.toArray,[]⟩ _) ?_ l hlen;simp only [AllL];iterate 192 intro _
 rintro ⟨_,h3,h7,h8,h9,h10,h11⟩;simp only [at_] at h3 h7 h8 h9 h10 h11;subst h3 h7 h8 h9 h10 h11;refine wp_seq ?_;unfold aUA;simp only [Tryz.f3,aS,sndC,fstC,thnC,elsC];refine Code.wp_mono (Q:=Exit.then (fun a w=>Code.wp Tryz.prog aFF Q a w) (fun _ _ _=>False)) (fun e a w h=>by cases e<;>first | exact h | exact h.elim) ?_;refine jO (fun w'=>w'.cell? ⟨U,0,none⟩=some (.slice (some ⟨y,0,none⟩) n f)/\w'.cell? ⟨y,4,none⟩=some (.slice a4 x.sels.length p4)) (fun j=>j==14) (by kernel_rfl) ?_;try simp only [Act.put,List.setIfInBounds_toArray,List.set_cons_zero,List.set_cons_succ]
 refine tk 0 k ?_;refine tk 1 k ?_;refine tk 2 k ?_;refine tk 3 k ?_;refine tk 4 k ?_;refine tk 5 k ?_;refine tk 9 k ?_;refine aDn 6 10 (by kernel_rfl) rfl rfl ?_ ?_
 ·intro K d;go_simp;go_at_call 14;refine (A.out _ _ C0.c).mono ?_;rintro e' C ⟨a0,l0,p0,M1,rfl,N,W,O⟩;have p:=C0.q O W;obtain ⟨Z,c0a,c0f,c01,c02,c03,c04⟩:=P.out.all C p.b;refine d.out _ _ ⟨Z,c0a⟩ (fun J => ?_);clear d K;try simp only [Act.put,List.setIfInBounds_toArray,List.set_cons_zero,List.set_cons_succ]
  refine aDn 7 10 (by kernel_rfl) rfl rfl ?_ ?_
  ·intro K d;go_simp;refine d.out _ _ ⟨aZ _ J.1,aZ _ J.2⟩ (fun i => ?_);clear d K;try simp only [Act.put,List.setIfInBounds_toArray,List.set_cons_zero,List.set_cons_succ]
   refine tk 8 i ?_;refine on1 10 ?_;intro K d;go_simp;refine d.out _ _ ⟨aZ _ i.1,aZ _ i.2⟩ (fun R => ?_);clear d K;try simp only [Act.put,List.setIfInBounds_toArray,List.set_cons_zero,List.set_cons_succ]
   refine on1 11 ?_;intro K d;have F:Cl M w M1 ((C.alloc (.cells #[.string ⟨D.toArray⟩,.slice a0 l0 p0] 41)).alloc (.cells #[.int .i64 0,.string ⟨#[]⟩,.string ⟨#[]⟩,.slice none 0 0,.slice none 0 0,.string ⟨#[]⟩,.slice none 0 0] 44)):=((p.al _).al _);obtain ⟨_,_,_,_,_,q6,q7⟩:=P.out.all _ F.b;show (if Region.wanted {dst:=some 56,op:=Op.call {callee:=Callee.builtin Builtin.append,args:=_,argTypes:=_},type:=_,pos:=_,after:=_,guard:=_} _=true then _ else _);refine aGV (.tmp 49) (.tmp 55) B (.slice a4 x.sels.length p4) x.sels.length ys4 ⟨C.heap.size+1,0,none⟩ #[.int .i64 0,.string ⟨#[]⟩,.string ⟨#[]⟩,.slice none 0 0,.slice none 0 0,.string ⟨#[]⟩,.slice none 0 0] rfl rfl rfl rfl rfl (by intro u V;simp only [List.mem_cons,List.not_mem_nil,or_false] at V;rcases V with rfl | rfl | rfl | rfl | rfl | rfl | rfl<;>rfl) q6 (zS C _ _) ⟨rfl,rfl⟩ hs q7 ?_;intro g s w4 I r t;obtain ⟨n1,n2,n3⟩:=P.out.aft _ w4 F.b r;refine d.out _ _ ⟨n1,n2⟩ (fun G => ?_);clear d K;try simp only [Act.put,List.setIfInBounds_toArray,List.set_cons_zero,List.set_cons_succ]
   refine on1 12 ?_;intro K d;go_simp;refine d.out _ _ G (fun L => ?_);clear d K;try simp only [Act.put,List.setIfInBounds_toArray,List.set_cons_zero,List.set_cons_succ]
   refine tk 13 L ?_;refine onL 14 ?_;intro K d;go_simp;refine d.out _ _ ?_;clear d K;try simp only [Act.put,List.setIfInBounds_toArray,List.set_cons_zero,List.set_cons_succ]
   refine iF (by kernel_rfl) ?_ _;have H:g≠y:=fun e=>by
    rcases t with S | S;· exact P.out.o4g (by rw [<- e];exact S)
    ·have:=F.b.size;omega
   have T:=ownsRow_setCell_other I (a:=⟨y,4,none⟩) (by simpa [Value.ownBlock] using H) (.slice (some ⟨g,0,none⟩) (x.sels.length+1) s);refine aUz T P.out.len Q _ rfl rfl rfl rfl (fun z => ?_);obtain ⟨M',v,k1,k2,k3⟩:=fin4 (ds:=[dirY D]) h.out hE hx.out P.out p.m p.o p.b p.c (Below.two (Nat.le_refl _) _ _) (aGW _ (heap_alloc_new C _)) (Nat.le_refl _) rfl (by simp) (row1 N) r t _ (vN T P.out.len _ _ _ _ _ _ _) (fun b hb=>pQ _ _ _ _ _ _ _ _ _ _ _ hb) (by rw [pR];simp [World.setCell]) (aC4 _ _ _ _ _ _ _ _ _ _) (pS _ _ _ _ _ _ _ _ _ _) (jB _ _ _ _ _ _ _ _ _ _);exact hC.out _ M' _ v _ k1 k2 k3 ⟨rfl,rfl,rfl,rfl,rfl,rfl,rfl⟩
  ·intro K d;go_simp;refine d.out _ _ ⟨aZ _ J.1,aZ _ J.2⟩ (fun i => ?_);clear d K;try simp only [Act.put,List.setIfInBounds_toArray,List.set_cons_zero,List.set_cons_succ]
   refine on1 7 ?_;intro K d;go_simp;refine d.out _ _ ⟨aZ _ i.1,aZ _ i.2⟩ (fun R => ?_);clear d K;try simp only [Act.put,List.setIfInBounds_toArray,List.set_cons_zero,List.set_cons_succ]
   refine tk 8 R ?_;refine on1 11 ?_;intro K d;have F:Cl M w M1 ((C.alloc (.cells #[.int .i64 0,.string ⟨#[]⟩,.string ⟨#[]⟩,.slice none 0 0,.slice none 0 0,.string ⟨#[]⟩,.slice none 0 0] 44)).alloc (.cells #[.string ⟨D.toArray⟩,.slice a0 l0 p0] 41)):=((p.al _).al _);obtain ⟨_,_,_,_,_,q6,q7⟩:=P.out.all _ F.b;show (if Region.wanted {dst:=some 56,op:=Op.call {callee:=Callee.builtin Builtin.append,args:=_,argTypes:=_},type:=_,pos:=_,after:=_,guard:=_} _=true then _ else _);refine aGV (.tmp 49) (.tmp 55) B (.slice a4 x.sels.length p4) x.sels.length ys4 ⟨C.heap.size,0,none⟩ #[.int .i64 0,.string ⟨#[]⟩,.string ⟨#[]⟩,.slice none 0 0,.slice none 0 0,.string ⟨#[]⟩,.slice none 0 0] rfl rfl rfl rfl rfl (by intro u V;simp only [List.mem_cons,List.not_mem_nil,or_false] at V;rcases V with rfl | rfl | rfl | rfl | rfl | rfl | rfl<;>rfl) q6 (aGW _ (heap_alloc_new C _)) ⟨rfl,rfl⟩ hs q7 ?_;intro g s w4 I r t;obtain ⟨n1,n2,n3⟩:=P.out.aft _ w4 F.b r;refine d.out _ _ ⟨n1,n2⟩ (fun G => ?_);clear d K;try simp only [Act.put,List.setIfInBounds_toArray,List.set_cons_zero,List.set_cons_succ]
   refine on1 12 ?_;intro K d;go_simp;refine d.out _ _ G (fun L => ?_);clear d K;try simp only [Act.put,List.setIfInBounds_toArray,List.set_cons_zero,List.set_cons_succ]
   refine tk 13 L ?_;refine onL 14 ?_;intro K d;go_simp;refine d.out _ _ ?_;clear d K;try simp only [Act.put,List.setIfInBounds_toArray,List.set_cons_zero,List.set_cons_succ]
   refine iF (by kernel_rfl) ?_ _;have H:g≠y:=fun e=>by
    rcases t with S | S;· exact P.out.o4g (by rw [<- e];exact S)
    ·have:=F.b.size;omega
   have T:=ownsRow_setCell_other I (a:=⟨y,4,none⟩) (by simpa [Value.ownBlock] using H) (.slice (some ⟨g,0,none⟩) (x.sels.length+1) s);refine aUz T P.out.len Q _ rfl rfl rfl rfl (fun z => ?_);obtain ⟨M',v,k1,k2,k3⟩:=fin4 (ds:=[dirY D]) h.out hE hx.out P.out p.m p.o p.b p.c (Below.two (Nat.le_refl _) _ _) (zS C _ _) (Nat.le_succ _) rfl (by simp) (row1 N) r t _ (vN T P.out.len _ _ _ _ _ _ _) (fun b hb=>pQ _ _ _ _ _ _ _ _ _ _ _ hb) (by rw [pR];simp [World.setCell]) (aC4 _ _ _ _ _ _ _ _ _ _) (pS _ _ _ _ _ _ _ _ _ _) (jB _ _ _ _ _ _ _ _ _ _);exact hC.out _ M' _ v _ k1 k2 k3 ⟨rfl,rfl,rfl,rfl,rfl,rfl,rfl⟩
 ·intro K d;go_simp;refine d.out _ _ ⟨aZ _ k.1,aZ _ k.2⟩ (fun J => ?_);clear d K;try simp only [Act.put,List.setIfInBounds_toArray,List.set_cons_zero,List.set_cons_succ]
  refine on1 6 ?_;intro K d;go_simp;go_at_call 14;refine (A.out _ _ (C0.al (.cells #[.int .i64 0,.string ⟨#[]⟩,.string ⟨#[]⟩,.slice none 0 0,.slice none 0 0,.string ⟨#[]⟩,.slice none 0 0] 44)).c).mono ?_;rintro e' C ⟨a0,l0,p0,M1,rfl,N,W,O⟩;have p:=(C0.al (.cells #[.int .i64 0,.string ⟨#[]⟩,.string ⟨#[]⟩,.slice none 0 0,.slice none 0 0,.string ⟨#[]⟩,.slice none 0 0] 44)).q O W;have z1:=at_q O (heap_alloc_new w.drew (.cells #[.int .i64 0,.string ⟨#[]⟩,.string ⟨#[]⟩,.slice none 0 0,.slice none 0 0,.string ⟨#[]⟩,.slice none 0 0] 44));obtain ⟨Z,c0a,c0f,c01,c02,c03,c04⟩:=P.out.all C p.b;refine d.out _ _ ⟨Z,c0a⟩ (fun i => ?_);clear d K;try simp only [Act.put,List.setIfInBounds_toArray,List.set_cons_zero,List.set_cons_succ]
  refine on1 7 ?_;intro K d;go_simp;refine d.out _ _ ⟨aZ _ i.1,aZ _ i.2⟩ (fun R => ?_);clear d K;try simp only [Act.put,List.setIfInBounds_toArray,List.set_cons_zero,List.set_cons_succ]
  refine tk 8 R ?_;refine on1 11 ?_;intro K d;have F:Cl M w M1 (C.alloc (.cells #[.string ⟨D.toArray⟩,.slice a0 l0 p0] 41)):=(p.al _);obtain ⟨_,_,_,_,_,q6,q7⟩:=P.out.all _ F.b;show (if Region.wanted {dst:=some 56,op:=Op.call {callee:=Callee.builtin Builtin.append,args:=_,argTypes:=_},type:=_,pos:=_,after:=_,guard:=_} _=true then _ else _);refine aGV (.tmp 49) (.tmp 55) B (.slice a4 x.sels.length p4) x.sels.length ys4 ⟨w.heap.size,0,none⟩ #[.int .i64 0,.string ⟨#[]⟩,.string ⟨#[]⟩,.slice none 0 0,.slice none 0 0,.string ⟨#[]⟩,.slice none 0 0] rfl rfl rfl rfl rfl (by intro u V;simp only [List.mem_cons,List.not_mem_nil,or_false] at V;rcases V with rfl | rfl | rfl | rfl | rfl | rfl | rfl<;>rfl) q6 (aGW _ z1) ⟨rfl,rfl⟩ hs q7 ?_;intro g s w4 I r t;obtain ⟨n1,n2,n3⟩:=P.out.aft _ w4 F.b r;refine d.out _ _ ⟨n1,n2⟩ (fun G => ?_);clear d K;try simp only [Act.put,List.setIfInBounds_toArray,List.set_cons_zero,List.set_cons_succ]
  refine on1 12 ?_;intro K d;go_simp;refine d.out _ _ G (fun L => ?_);clear d K;try simp only [Act.put,List.setIfInBounds_toArray,List.set_cons_zero,List.set_cons_succ]
  refine tk 13 L ?_;refine onL 14 ?_;intro K d;go_simp;refine d.out _ _ ?_;clear d K;try simp only [Act.put,List.setIfInBounds_toArray,List.set_cons_zero,List.set_cons_succ]
  refine iF (by kernel_rfl) ?_ _;have H:g≠y:=fun e=>by
   rcases t with S | S;· exact P.out.o4g (by rw [<- e];exact S)
   ·have:=F.b.size;omega
  have T:=ownsRow_setCell_other I (a:=⟨y,4,none⟩) (by simpa [Value.ownBlock] using H) (.slice (some ⟨g,0,none⟩) (x.sels.length+1) s);refine aUz T P.out.len Q _ rfl rfl rfl rfl (fun z => ?_);obtain ⟨M',v,k1,k2,k3⟩:=fin4 (ds:=[dirY D]) h.out hE hx.out P.out p.m p.o p.b p.c ((Below.refl _ _).alloc (Nat.le_refl _) _) (heap_alloc_new C _) (Nat.le_refl _) rfl (by simp) (row1 N) r t _ (vN T P.out.len _ _ _ _ _ _ _) (fun b hb=>pQ _ _ _ _ _ _ _ _ _ _ _ hb) (by rw [pR];simp [World.setCell]) (aC4 _ _ _ _ _ _ _ _ _ _) (pS _ _ _ _ _ _ _ _ _ _) (jB _ _ _ _ _ _ _ _ _ _);exact hC.out _ M' _ v _ k1 k2 k3 ⟨rfl,rfl,rfl,rfl,rfl,rfl,rfl⟩
open Go Go.Ev Go.RowKit
noncomputable def aFG:Code:=sndC (thnC (sndC (fstC (sndC (sndC (sndC (sndC (sndC (sndC (aS Tryz.f3))))))))))
set_option maxHeartbeats 4000000 in
theorem aOy {w:World} {B g n4 cap' D:Nat} {ys4:List Value} (own5:w.ownsRow B 44 7 (.slice (some ⟨g,0,none⟩) (n4+1) cap') (n4+1) (ys4++[.int .i64 0,.string ⟨#[]⟩,.string ⟨#[]⟩,.slice none 0 0,.slice none 0 0,.string ⟨#[]⟩,.slice none 0 0])) (hyl:ys4.length=n4*7) (Q:Exit->Act->World->Prop) (l:List Value) (hlen:l.length=192) (h1:at_ l 87 = .agg #[.int .i64 0,.string ⟨#[]⟩,.string ⟨#[95,95,116,121,112,101,110,97,109,101]⟩,.slice none 0 0,.slice (some ⟨D,0,none⟩) 2 2,.string ⟨#[]⟩,.slice none 0 0]) (h2:at_ l 88 = .int .i64 n4) (h3:at_ l 90 = .slice (some ⟨g,0,none⟩) (n4+1) cap')
  (hC:∀ z:Value,Q .normal ⟨(l.set 93 z).toArray,[]⟩ (st7 w g (n4*7) (.int .i64 0) (.string ⟨#[]⟩) (.string ⟨#[95,95,116,121,112,101,110,97,109,101]⟩) (.slice none 0 0) (.slice (some ⟨D,0,none⟩) 2 2) (.string ⟨#[]⟩) (.slice none 0 0))):Code.wp Tryz.prog aFG Q ⟨l.toArray,[]⟩ w:=by
 have zc:=zc7 own5 hyl
 obtain ⟨e0,f0⟩:=zc 0 _ rfl
 obtain ⟨e1,f1⟩:=zc 1 _ rfl
 obtain ⟨e2,f2⟩:=zc 2 _ rfl
 obtain ⟨e3,f3⟩:=zc 3 _ rfl
 obtain ⟨e4,f4⟩:=zc 4 _ rfl
 obtain ⟨e5,f5⟩:=zc 5 _ rfl
 obtain ⟨e6,f6⟩:=zc 6 _ rfl
 simp only [Nat.add_zero] at e0 f0
 have hmm:(n4:Int)<(n4:Int)+1:=by omega
 have hmn:n4<n4+1:=by omega
 clear zc own5
 revert h1 h2 h3 hC
 refine jE 192 (fun l=>at_ l 87=_->at_ l 88=_->at_ l 90=_->(∀ z:Value,Q .normal ⟨(l.set 93 z).toArray,[]⟩ _)->Code.wp Tryz.prog _ _ ⟨l.toArray,[]⟩ _) ?_ l hlen
 simp only [AllL]
 iterate 192 intro _
 intro h1 h2 h3 hC
 simp only [at_] at h1 h2 h3
 subst h1 h2 h3
 replace hC:=(id hC:Hid _)
 unfold aFG
 simp only [Tryz.f3,aS,sndC,fstC,thnC,elsC]
 go_wp2
 exact hC.out _
noncomputable def aUB:Code:=fstC (thnC (sndC (fstC (sndC (sndC (sndC (sndC (sndC (sndC (aS Tryz.f3))))))))))
set_option maxHeartbeats 16000000 in
theorem bF7 (nm:Str) {B E:Nat} {M:Mem} {w:World} {ops:List GOp} {frags:List GFrag} {gA n capA X Z0 Z1 Z2 Z3:Nat} {vf:Value} {ys zs:List Value} {u2 u3:Value} {a4:Option Addr} {l4 p4:Nat} (h:DS 0 B E M w ops frags (.slice (some ⟨gA,0,none⟩) n capA) ys vf zs u2 u3 (.slice a4 l4 p4)) (hE:E<=w.heap.size) {x:GOp} (hx:ops[0]?=some x) (hs:x.sels.length<1073741824) (hc:Cons M w) (hZ:w.heap[Z1]?=some (.cells #[.slice (some ⟨gA,0,none⟩) n capA,vf] 28 (0,0))) (hZE:E<=Z1∨Z1<B) (Q:Exit->Act->World->Prop) (l:List Value) (hf:FK l X nm Z0 Z1 Z2 Z3)
  (hC:∀ (w':World) (M':Mem) (t4:Value) (ys' l':List Value),DS 0 B w'.heap.size M' w' (ops.set 0 ⟨x.kind,x.name,x.vars,x.dirs,x.sels++[selY [dirY nm,dirY nm]]⟩) frags (.slice (some ⟨gA,0,none⟩) n capA) ys' vf zs u2 u3 t4->Cons M' w'->ChgF B E M w M' w' (.slice (some ⟨gA,0,none⟩) n capA) vf u2 u3 t4->FK l' X nm Z0 Z1 Z2 Z3->Q .normal ⟨l'.toArray,[]⟩ w') :
  Code.wp Tryz.prog (.seq aUB aFG) Q ⟨l.toArray,[]⟩ w:=by
 obtain ⟨rfl,ys4,P⟩:=pre4 h hE hx hZ hZE
 obtain ⟨kz,k4,kf,kZ,kg,ko,kB⟩:=P.all w (Below.refl _ _)
 have hn0:=P.n0
 have hop0:=P.op0
 have hyes:=zQ nm
 have hS0:w.drew.cell? ⟨Z1,0,none⟩=some (.slice (some ⟨gA,0,none⟩) n capA)/\w.drew.cell? ⟨gA,4,none⟩=some (.slice a4 x.sels.length p4):=⟨kz,k4⟩
 have C0:=Cl.start hc
 have hlen:=hf.len
 replace P:=(id P:Hid _)
 replace hyes:=(id hyes:Hid _)
 replace h:=(id h:Hid _)
 replace hx:=(id hx:Hid _)
 replace hC:=(id hC:Hid _)
 clear hZ hZE hc
 revert hf
 refine jE 192 (fun l=>FK l X nm Z0 Z1 Z2 Z3->Code.wp Tryz.prog _ _ ⟨l.toArray,[]⟩ _) ?_ l hlen
 simp only [AllL]
 iterate 192 intro _
 rintro ⟨_,h3,h7,h8,h9,h10,h11⟩
 simp only [at_] at h3 h7 h8 h9 h10 h11
 subst h3 h7 h8 h9 h10 h11
 refine wp_seq ?_
 unfold aUB
 simp only [Tryz.f3,aS,sndC,fstC,thnC,elsC]
 refine Code.wp_mono (Q:=Exit.then (fun a w=>Code.wp Tryz.prog aFG Q a w) (fun _ _ _=>False)) (fun e a w h=>by cases e<;>first | exact h | exact h.elim) ?_
 refine jO (fun w'=>w'.cell? ⟨Z1,0,none⟩=some (.slice (some ⟨gA,0,none⟩) n capA)/\w'.cell? ⟨gA,4,none⟩=some (.slice a4 x.sels.length p4)) (fun j=>j==16) (by kernel_rfl) ?_
 try simp only [Act.put,List.setIfInBounds_toArray,List.set_cons_zero,List.set_cons_succ]
 refine tk 0 hS0 ?_
 refine tk 1 hS0 ?_
 refine tk 2 hS0 ?_
 refine tk 3 hS0 ?_
 refine tk 4 hS0 ?_
 refine tk 5 hS0 ?_
 refine tk 7 hS0 ?_
 refine tk 11 hS0 ?_
 refine aDn 6 12 (by kernel_rfl) rfl rfl ?_ ?_
 ·intro K hK
  go_simp
  go_at_call 14
  refine (hyes.out _ _ C0.c).mono ?_
  rintro e' w1 ⟨a0,l0,p0,M1,rfl,hr1,hc1,hq1⟩
  have C1:=C0.q hq1 hc1
  obtain ⟨c0z,c0a,c0f,c01,c02,c03,c04⟩:=P.out.all w1 C1.b
  refine hK.out _ _ ⟨c0z,c0a⟩ (fun hS1 => ?_)
  clear hK K
  try simp only [Act.put,List.setIfInBounds_toArray,List.set_cons_zero,List.set_cons_succ]
  refine aDn 8 12 (by kernel_rfl) rfl rfl ?_ ?_
  ·intro K hK
   go_simp
   go_at_call 14
   refine (hyes.out _ _ C1.c).mono ?_
   rintro e' w2 ⟨a1,l1,p1,M2,rfl,hr2,hc2,hq2⟩
   have C2:=C1.q hq2 hc2
   obtain ⟨c1z,c1a,c1f,c11,c12,c13,c14⟩:=P.out.all w2 C2.b
   refine hK.out _ _ ⟨c1z,c1a⟩ (fun hS2 => ?_)
   clear hK K
   try simp only [Act.put,List.setIfInBounds_toArray,List.set_cons_zero,List.set_cons_succ]
   refine aDn 9 12 (by kernel_rfl) rfl rfl ?_ ?_
   ·intro K hK
    go_simp
    refine hK.out _ _ ⟨aZ _ hS2.1,aZ _ hS2.2⟩ (fun hS3 => ?_)
    clear hK K
    try simp only [Act.put,List.setIfInBounds_toArray,List.set_cons_zero,List.set_cons_succ]
    refine tk 10 hS3 ?_
    refine on1 12 ?_
    intro K hK
    go_simp
    refine hK.out _ _ ⟨aZ _ hS3.1,aZ _ hS3.2⟩ (fun hS4 => ?_)
    clear hK K
    try simp only [Act.put,List.setIfInBounds_toArray,List.set_cons_zero,List.set_cons_succ]
    refine on1 13 ?_
    intro K hK
    have CA:Cl M w M2 ((w2.alloc (.cells #[.string ⟨nm.toArray⟩,.slice a0 l0 p0,.string ⟨nm.toArray⟩,.slice a1 l1 p1] 41)).alloc (.cells #[.int .i64 0,.string ⟨#[]⟩,.string ⟨#[]⟩,.slice none 0 0,.slice none 0 0,.string ⟨#[]⟩,.slice none 0 0] 44)):=((C2.al _).al _)
    obtain ⟨_,_,_,_,_,q6,q7⟩:=P.out.all _ CA.b
    show (if Region.wanted {dst:=some 90,op:=Op.call {callee:=Callee.builtin Builtin.append,args:=_,argTypes:=_},type:=_,pos:=_,after:=_,guard:=_} _=true then _ else _)
    refine aGV (.tmp 81) (.tmp 89) B (.slice a4 x.sels.length p4) x.sels.length ys4 ⟨w2.heap.size+1,0,none⟩ #[.int .i64 0,.string ⟨#[]⟩,.string ⟨#[]⟩,.slice none 0 0,.slice none 0 0,.string ⟨#[]⟩,.slice none 0 0] rfl rfl rfl rfl rfl (by intro u hu;simp only [List.mem_cons,List.not_mem_nil,or_false] at hu;rcases hu with rfl | rfl | rfl | rfl | rfl | rfl | rfl<;>rfl) q6 (zS w2 _ _) ⟨rfl,rfl⟩ hs q7 ?_
    intro g cap2 w4 ho4 hgr hat
    obtain ⟨n1,n2,n3⟩:=P.out.aft _ w4 CA.b hgr
    refine hK.out _ _ ⟨n1,n2⟩ (fun hS5 => ?_)
    clear hK K
    try simp only [Act.put,List.setIfInBounds_toArray,List.set_cons_zero,List.set_cons_succ]
    refine on1 14 ?_
    intro K hK
    go_simp
    refine hK.out _ _ hS5 (fun hS6 => ?_)
    clear hK K
    try simp only [Act.put,List.setIfInBounds_toArray,List.set_cons_zero,List.set_cons_succ]
    refine tk 15 hS6 ?_
    refine onL 16 ?_
    intro K hK
    go_simp
    refine hK.out _ _ ?_
    clear hK K
    try simp only [Act.put,List.setIfInBounds_toArray,List.set_cons_zero,List.set_cons_succ]
    refine iF (by kernel_rfl) ?_ _
    have hgg:g≠gA:=fun e=>by
     rcases hat with e2 | e2
     ·exact P.out.o4g (by rw [<- e];exact e2)
     ·have:=CA.b.size;omega
    have oW:=ownsRow_setCell_other ho4 (a:=⟨gA,4,none⟩) (by simpa [Value.ownBlock] using hgg) (.slice (some ⟨g,0,none⟩) (x.sels.length+1) cap2)
    refine aOy oW P.out.len Q _ rfl rfl rfl rfl (fun z => ?_)
    obtain ⟨M',ys',k1,k2,k3⟩:=fin4 (ds:=[dirY nm,dirY nm]) h.out hE hx.out P.out C2.m C2.o C2.b C2.c (Below.two (Nat.le_refl _) _ _) (aGW _ (heap_alloc_new w2 _)) (Nat.le_refl _) rfl (by simp) (row2 (hr1.mono hq2.mem (fun _ _ _ h=>h)) hr2) hgr hat _ (vN oW P.out.len _ _ _ _ _ _ _) (fun b hb=>pQ _ _ _ _ _ _ _ _ _ _ _ hb) (by rw [pR];simp [World.setCell]) (aC4 _ _ _ _ _ _ _ _ _ _) (pS _ _ _ _ _ _ _ _ _ _) (jB _ _ _ _ _ _ _ _ _ _)
    exact hC.out _ M' _ ys' _ k1 k2 k3 ⟨rfl,rfl,rfl,rfl,rfl,rfl,rfl⟩
   ·intro K hK
    go_simp
    refine hK.out _ _ ⟨aZ _ hS2.1,aZ _ hS2.2⟩ (fun hS3 => ?_)
    clear hK K
    try simp only [Act.put,List.setIfInBounds_toArray,List.set_cons_zero,List.set_cons_succ]
    refine on1 9 ?_
    intro K hK
    go_simp
    refine hK.out _ _ ⟨aZ _ hS3.1,aZ _ hS3.2⟩ (fun hS4 => ?_)
    clear hK K
    try simp only [Act.put,List.setIfInBounds_toArray,List.set_cons_zero,List.set_cons_succ]
    refine tk 10 hS4 ?_
    refine on1 13 ?_
    intro K hK
    have CA:Cl M w M2 ((w2.alloc (.cells #[.int .i64 0,.string ⟨#[]⟩,.string ⟨#[]⟩,.slice none 0 0,.slice none 0 0,.string ⟨#[]⟩,.slice none 0 0] 44)).alloc (.cells #[.string ⟨nm.toArray⟩,.slice a0 l0 p0,.string ⟨nm.toArray⟩,.slice a1 l1 p1] 41)):=((C2.al _).al _)
    obtain ⟨_,_,_,_,_,q6,q7⟩:=P.out.all _ CA.b
    show (if Region.wanted {dst:=some 90,op:=Op.call {callee:=Callee.builtin Builtin.append,args:=_,argTypes:=_},type:=_,pos:=_,after:=_,guard:=_} _=true then _ else _)
    refine aGV (.tmp 81) (.tmp 89) B (.slice a4 x.sels.length p4) x.sels.length ys4 ⟨w2.heap.size,0,none⟩ #[.int .i64 0,.string ⟨#[]⟩,.string ⟨#[]⟩,.slice none 0 0,.slice none 0 0,.string ⟨#[]⟩,.slice none 0 0] rfl rfl rfl rfl rfl (by intro u hu;simp only [List.mem_cons,List.not_mem_nil,or_false] at hu;rcases hu with rfl | rfl | rfl | rfl | rfl | rfl | rfl<;>rfl) q6 (aGW _ (heap_alloc_new w2 _)) ⟨rfl,rfl⟩ hs q7 ?_
    intro g cap2 w4 ho4 hgr hat
    obtain ⟨n1,n2,n3⟩:=P.out.aft _ w4 CA.b hgr
    refine hK.out _ _ ⟨n1,n2⟩ (fun hS5 => ?_)
    clear hK K
    try simp only [Act.put,List.setIfInBounds_toArray,List.set_cons_zero,List.set_cons_succ]
    refine on1 14 ?_
    intro K hK
    go_simp
    refine hK.out _ _ hS5 (fun hS6 => ?_)
    clear hK K
    try simp only [Act.put,List.setIfInBounds_toArray,List.set_cons_zero,List.set_cons_succ]
    refine tk 15 hS6 ?_
    refine onL 16 ?_
    intro K hK
    go_simp
    refine hK.out _ _ ?_
    clear hK K
    try simp only [Act.put,List.setIfInBounds_toArray,List.set_cons_zero,List.set_cons_succ]
    refine iF (by kernel_rfl) ?_ _
    have hgg:g≠gA:=fun e=>by
     rcases hat with e2 | e2
     ·exact P.out.o4g (by rw [<- e];exact e2)
     ·have:=CA.b.size;omega
    have oW:=ownsRow_setCell_other ho4 (a:=⟨gA,4,none⟩) (by simpa [Value.ownBlock] using hgg) (.slice (some ⟨g,0,none⟩) (x.sels.length+1) cap2)
    refine aOy oW P.out.len Q _ rfl rfl rfl rfl (fun z => ?_)
    obtain ⟨M',ys',k1,k2,k3⟩:=fin4 (ds:=[dirY nm,dirY nm]) h.out hE hx.out P.out C2.m C2.o C2.b C2.c (Below.two (Nat.le_refl _) _ _) (zS w2 _ _) (Nat.le_succ _) rfl (by simp) (row2 (hr1.mono hq2.mem (fun _ _ _ h=>h)) hr2) hgr hat _ (vN oW P.out.len _ _ _ _ _ _ _) (fun b hb=>pQ _ _ _ _ _ _ _ _ _ _ _ hb) (by rw [pR];simp [World.setCell]) (aC4 _ _ _ _ _ _ _ _ _ _) (pS _ _ _ _ _ _ _ _ _ _) (jB _ _ _ _ _ _ _ _ _ _)
    exact hC.out _ M' _ ys' _ k1 k2 k3 ⟨rfl,rfl,rfl,rfl,rfl,rfl,rfl⟩
  ·intro K hK
   go_simp
   refine hK.out _ _ ⟨aZ _ hS1.1,aZ _ hS1.2⟩ (fun hS2 => ?_)
   clear hK K
   try simp only [Act.put,List.setIfInBounds_toArray,List.set_cons_zero,List.set_cons_succ]
   refine on1 8 ?_
   intro K hK
   go_simp
   go_at_call 14
   refine (hyes.out _ _ (C1.al (.cells #[.int .i64 0,.string ⟨#[]⟩,.string ⟨#[]⟩,.slice none 0 0,.slice none 0 0,.string ⟨#[]⟩,.slice none 0 0] 44)).c).mono ?_
   rintro e' w2 ⟨a1,l1,p1,M2,rfl,hr2,hc2,hq2⟩
   have C2:=(C1.al (.cells #[.int .i64 0,.string ⟨#[]⟩,.string ⟨#[]⟩,.slice none 0 0,.slice none 0 0,.string ⟨#[]⟩,.slice none 0 0] 44)).q hq2 hc2
   have z2:=at_q hq2 (heap_alloc_new w1 (.cells #[.int .i64 0,.string ⟨#[]⟩,.string ⟨#[]⟩,.slice none 0 0,.slice none 0 0,.string ⟨#[]⟩,.slice none 0 0] 44))
   obtain ⟨c1z,c1a,c1f,c11,c12,c13,c14⟩:=P.out.all w2 C2.b
   refine hK.out _ _ ⟨c1z,c1a⟩ (fun hS3 => ?_)
   clear hK K
   try simp only [Act.put,List.setIfInBounds_toArray,List.set_cons_zero,List.set_cons_succ]
   refine on1 9 ?_
   intro K hK
   go_simp
   refine hK.out _ _ ⟨aZ _ hS3.1,aZ _ hS3.2⟩ (fun hS4 => ?_)
   clear hK K
   try simp only [Act.put,List.setIfInBounds_toArray,List.set_cons_zero,List.set_cons_succ]
   refine tk 10 hS4 ?_
   refine on1 13 ?_
   intro K hK
   have CA:Cl M w M2 (w2.alloc (.cells #[.string ⟨nm.toArray⟩,.slice a0 l0 p0,.string ⟨nm.toArray⟩,.slice a1 l1 p1] 41)):=(C2.al _)
   obtain ⟨_,_,_,_,_,q6,q7⟩:=P.out.all _ CA.b
   show (if Region.wanted {dst:=some 90,op:=Op.call {callee:=Callee.builtin Builtin.append,args:=_,argTypes:=_},type:=_,pos:=_,after:=_,guard:=_} _=true then _ else _)
   refine aGV (.tmp 81) (.tmp 89) B (.slice a4 x.sels.length p4) x.sels.length ys4 ⟨w1.heap.size,0,none⟩ #[.int .i64 0,.string ⟨#[]⟩,.string ⟨#[]⟩,.slice none 0 0,.slice none 0 0,.string ⟨#[]⟩,.slice none 0 0] rfl rfl rfl rfl rfl (by intro u hu;simp only [List.mem_cons,List.not_mem_nil,or_false] at hu;rcases hu with rfl | rfl | rfl | rfl | rfl | rfl | rfl<;>rfl) q6 (aGW _ z2) ⟨rfl,rfl⟩ hs q7 ?_
   intro g cap2 w4 ho4 hgr hat
   obtain ⟨n1,n2,n3⟩:=P.out.aft _ w4 CA.b hgr
   refine hK.out _ _ ⟨n1,n2⟩ (fun hS5 => ?_)
   clear hK K
   try simp only [Act.put,List.setIfInBounds_toArray,List.set_cons_zero,List.set_cons_succ]
   refine on1 14 ?_
   intro K hK
   go_simp
   refine hK.out _ _ hS5 (fun hS6 => ?_)
   clear hK K
   try simp only [Act.put,List.setIfInBounds_toArray,List.set_cons_zero,List.set_cons_succ]
   refine tk 15 hS6 ?_
   refine onL 16 ?_
   intro K hK
   go_simp
   refine hK.out _ _ ?_
   clear hK K
   try simp only [Act.put,List.setIfInBounds_toArray,List.set_cons_zero,List.set_cons_succ]
   refine iF (by kernel_rfl) ?_ _
   have hgg:g≠gA:=fun e=>by
    rcases hat with e2 | e2
    ·exact P.out.o4g (by rw [<- e];exact e2)
    ·have:=CA.b.size;omega
   have oW:=ownsRow_setCell_other ho4 (a:=⟨gA,4,none⟩) (by simpa [Value.ownBlock] using hgg) (.slice (some ⟨g,0,none⟩) (x.sels.length+1) cap2)
   refine aOy oW P.out.len Q _ rfl rfl rfl rfl (fun z => ?_)
   obtain ⟨M',ys',k1,k2,k3⟩:=fin4 (ds:=[dirY nm,dirY nm]) h.out hE hx.out P.out C2.m C2.o C2.b C2.c ((Below.refl _ _).alloc (Nat.le_refl _) _) (heap_alloc_new w2 _) (Nat.le_refl _) rfl (by simp) (row2 (hr1.mono hq2.mem (fun _ _ _ h=>h)) hr2) hgr hat _ (vN oW P.out.len _ _ _ _ _ _ _) (fun b hb=>pQ _ _ _ _ _ _ _ _ _ _ _ hb) (by rw [pR];simp [World.setCell]) (aC4 _ _ _ _ _ _ _ _ _ _) (pS _ _ _ _ _ _ _ _ _ _) (jB _ _ _ _ _ _ _ _ _ _)
   exact hC.out _ M' _ ys' _ k1 k2 k3 ⟨rfl,rfl,rfl,rfl,rfl,rfl,rfl⟩
 ·intro K hK
  go_simp
  refine hK.out _ _ ⟨aZ _ hS0.1,aZ _ hS0.2⟩ (fun hS1 => ?_)
  clear hK K
  try simp only [Act.put,List.setIfInBounds_toArray,List.set_cons_zero,List.set_cons_succ]
  refine on1 6 ?_
  intro K hK
  go_simp
  go_at_call 14
  refine (hyes.out _ _ (C0.al (.cells #[.int .i64 0,.string ⟨#[]⟩,.string ⟨#[]⟩,.slice none 0 0,.slice none 0 0,.string ⟨#[]⟩,.slice none 0 0] 44)).c).mono ?_
  rintro e' w1 ⟨a0,l0,p0,M1,rfl,hr1,hc1,hq1⟩
  have C1:=(C0.al (.cells #[.int .i64 0,.string ⟨#[]⟩,.string ⟨#[]⟩,.slice none 0 0,.slice none 0 0,.string ⟨#[]⟩,.slice none 0 0] 44)).q hq1 hc1
  have z1:=at_q hq1 (heap_alloc_new w.drew (.cells #[.int .i64 0,.string ⟨#[]⟩,.string ⟨#[]⟩,.slice none 0 0,.slice none 0 0,.string ⟨#[]⟩,.slice none 0 0] 44))
  obtain ⟨c0z,c0a,c0f,c01,c02,c03,c04⟩:=P.out.all w1 C1.b
  refine hK.out _ _ ⟨c0z,c0a⟩ (fun hS2 => ?_)
  clear hK K
  try simp only [Act.put,List.setIfInBounds_toArray,List.set_cons_zero,List.set_cons_succ]
  refine on1 8 ?_
  intro K hK
  go_simp
  go_at_call 14
  refine (hyes.out _ _ C1.c).mono ?_
  rintro e' w2 ⟨a1,l1,p1,M2,rfl,hr2,hc2,hq2⟩
  have C2:=C1.q hq2 hc2
  have z2:=at_q hq2 z1
  obtain ⟨c1z,c1a,c1f,c11,c12,c13,c14⟩:=P.out.all w2 C2.b
  refine hK.out _ _ ⟨c1z,c1a⟩ (fun hS3 => ?_)
  clear hK K
  try simp only [Act.put,List.setIfInBounds_toArray,List.set_cons_zero,List.set_cons_succ]
  refine on1 9 ?_
  intro K hK
  go_simp
  refine hK.out _ _ ⟨aZ _ hS3.1,aZ _ hS3.2⟩ (fun hS4 => ?_)
  clear hK K
  try simp only [Act.put,List.setIfInBounds_toArray,List.set_cons_zero,List.set_cons_succ]
  refine tk 10 hS4 ?_
  refine on1 13 ?_
  intro K hK
  have CA:Cl M w M2 (w2.alloc (.cells #[.string ⟨nm.toArray⟩,.slice a0 l0 p0,.string ⟨nm.toArray⟩,.slice a1 l1 p1] 41)):=(C2.al _)
  obtain ⟨_,_,_,_,_,q6,q7⟩:=P.out.all _ CA.b
  show (if Region.wanted {dst:=some 90,op:=Op.call {callee:=Callee.builtin Builtin.append,args:=_,argTypes:=_},type:=_,pos:=_,after:=_,guard:=_} _=true then _ else _)
  refine aGV (.tmp 81) (.tmp 89) B (.slice a4 x.sels.length p4) x.sels.length ys4 ⟨w.heap.size,0,none⟩ #[.int .i64 0,.string ⟨#[]⟩,.string ⟨#[]⟩,.slice none 0 0,.slice none 0 0,.string ⟨#[]⟩,.slice none 0 0] rfl rfl rfl rfl rfl (by intro u hu;simp only [List.mem_cons,List.not_mem_nil,or_false] at hu;rcases hu with rfl | rfl | rfl | rfl | rfl | rfl | rfl<;>rfl) q6 (aGW _ z2) ⟨rfl,rfl⟩ hs q7 ?_
  intro g cap2 w4 ho4 hgr hat
  obtain ⟨n1,n2,n3⟩:=P.out.aft _ w4 CA.b hgr
  refine hK.out _ _ ⟨n1,n2⟩ (fun hS5 => ?_)
  clear hK K
  try simp only [Act.put,List.setIfInBounds_toArray,List.set_cons_zero,List.set_cons_succ]
  refine on1 14 ?_
  intro K hK
  go_simp
  refine hK.out _ _ hS5 (fun hS6 => ?_)
  clear hK K
  try simp only [Act.put,List.setIfInBounds_toArray,List.set_cons_zero,List.set_cons_succ]
  refine tk 15 hS6 ?_
  refine onL 16 ?_
  intro K hK
  go_simp
  refine hK.out _ _ ?_
  clear hK K
  try simp only [Act.put,List.setIfInBounds_toArray,List.set_cons_zero,List.set_cons_succ]
  refine iF (by kernel_rfl) ?_ _
  have hgg:g≠gA:=fun e=>by
   rcases hat with e2 | e2
   ·exact P.out.o4g (by rw [<- e];exact e2)
   ·have:=CA.b.size;omega
  have oW:=ownsRow_setCell_other ho4 (a:=⟨gA,4,none⟩) (by simpa [Value.ownBlock] using hgg) (.slice (some ⟨g,0,none⟩) (x.sels.length+1) cap2)
  refine aOy oW P.out.len Q _ rfl rfl rfl rfl (fun z => ?_)
  obtain ⟨M',ys',k1,k2,k3⟩:=fin4 (ds:=[dirY nm,dirY nm]) h.out hE hx.out P.out C2.m C2.o C2.b C2.c ((Below.refl _ _).alloc (Nat.le_refl _) _) (heap_alloc_new w2 _) (Nat.le_refl _) rfl (by simp) (row2 (hr1.mono hq2.mem (fun _ _ _ h=>h)) hr2) hgr hat _ (vN oW P.out.len _ _ _ _ _ _ _) (fun b hb=>pQ _ _ _ _ _ _ _ _ _ _ _ hb) (by rw [pR];simp [World.setCell]) (aC4 _ _ _ _ _ _ _ _ _ _) (pS _ _ _ _ _ _ _ _ _ _) (jB _ _ _ _ _ _ _ _ _ _)
  exact hC.out _ M' _ ys' _ k1 k2 k3 ⟨rfl,rfl,rfl,rfl,rfl,rfl,rfl⟩
end Go.Proofs.YtphmfillajagdaaGreat
set_option maxHeartbeats 16000000
open Go Go.Ev Go.RowKit
namespace Go.Proofs.YtphmfillajagdaaGreat
noncomputable def aFH:Code:=sndC (thnC (sndC (fstC (sndC (sndC (sndC (sndC (sndC (sndC (sndC (sndC (aS Tryz.f3))))))))))))
theorem aUC {w:World} {B g n4 cap' D ys4} (own5:w.ownsRow B 44 7 (.slice (some ⟨g,0,none⟩) (n4+1) cap') (n4+1) (ys4++[.int .i64 0,.string ⟨#[]⟩,.string ⟨#[]⟩,.slice none 0 0,.slice none 0 0,.string ⟨#[]⟩,.slice none 0 0])) (hyl:ys4.length=n4*7) Q l (hlen:l.length=192) (h1:at_ l 135 = .agg #[.int .i64 0,.string ⟨#[]⟩,.string ⟨#[95,95,116,121,112,101,110,97,109,101]⟩,.slice none 0 0,.slice (some ⟨D,0,none⟩) 1 1,.string ⟨#[]⟩,.slice none 0 0]) (h2:at_ l 136 = .int .i64 n4) (h3:at_ l 138 = .slice (some ⟨g,0,none⟩) (n4+1) cap')
  (hC:∀ z,Q .normal ⟨(l.set 141 z).toArray,[]⟩ (st7 w g (n4*7) (.int .i64 0) (.string ⟨#[]⟩) (.string ⟨#[95,95,116,121,112,101,110,97,109,101]⟩) (.slice none 0 0) (.slice (some ⟨D,0,none⟩) 1 1) (.string ⟨#[]⟩) (.slice none 0 0))):Code.wp Tryz.prog aFH Q ⟨l.toArray,[]⟩ w:=by
 have zc:=zc7 own5 hyl;obtain ⟨b,f0⟩:=zc 0 _ rfl;obtain ⟨e,h⟩:=zc 1 _ rfl;obtain ⟨j,i⟩:=zc 2 _ rfl;obtain ⟨m,k⟩:=zc 3 _ rfl;obtain ⟨c,o⟩:=zc 4 _ rfl;obtain ⟨n,p⟩:=zc 5 _ rfl;obtain ⟨f,d⟩:=zc 6 _ rfl;simp only [Nat.add_zero] at b f0;have hmm:(n4:Int)<(n4:Int)+1:=by omega
 have a:n4<n4+1:=by omega
 clear zc own5;revert h1 h2 h3 hC;refine jE 192 (fun l=>at_ l 135=_->at_ l 136=_->at_ l 138=_->(∀ z:Value,Q .normal ⟨(l.set 141 z).toArray,[]⟩ _)->Code.wp Tryz.prog _ _ ⟨l.toArray,[]⟩ _) ?_ l hlen;simp only [AllL];iterate 192 intro _
 intro h1 h2 h3 hC;simp only [at_] at h1 h2 h3;subst h1 h2 h3;replace hC:=(id hC:Hid _);unfold aFH;simp only [Tryz.f3,aS,sndC,fstC,thnC,elsC];go_wp2;exact hC.out _
noncomputable def aUD:Code:=fstC (thnC (sndC (fstC (sndC (sndC (sndC (sndC (sndC (sndC (sndC (sndC (aS Tryz.f3))))))))))))
theorem bF8 v (hnm:v.length<=1000) {B E M w W frags A n i X Z0 Z1 Z2 T vf ys zs u2 u3 a4 l4 p4} (h:DS 0 B E M w W frags (.slice (some ⟨A,0,none⟩) n i) ys vf zs u2 u3 (.slice a4 l4 p4)) (hE:E<=w.heap.size) {x} (hx:W[0]?=some x) (hs:x.sels.length<1073741824) (hc:Cons M w) (hZ:w.heap[T]?=some (.cells #[.slice (some ⟨A,0,none⟩) n i,vf] 28 (0,0))) (hZE:E<=T∨T<B) Q l (hf:FK l X v Z0 Z1 Z2 T)
  (hC:∀ w' M' t4 y l',DS 0 B w'.heap.size M' w' (W.set 0 ⟨x.kind,x.name,x.vars,x.dirs,x.sels++[selY [dirY (v++[115])]]⟩) frags (.slice (some ⟨A,0,none⟩) n i) y vf zs u2 u3 t4->Cons M' w'->ChgF B E M w M' w' (.slice (some ⟨A,0,none⟩) n i) vf u2 u3 t4->FK l' X v Z0 Z1 Z2 T->Q .normal ⟨l'.toArray,[]⟩ w') :
  Code.wp Tryz.prog (.seq aUD aFH) Q ⟨l.toArray,[]⟩ w:=by
 obtain ⟨rfl,Y,P⟩:=pre4 h hE hx hZ hZE;obtain ⟨kz,k4,kf,kZ,kg,ko,kB⟩:=P.all w (Below.refl _ _);have hn0:=P.n0;have hop0:=P.op0;have C:=zQ (v++[115]);have hns:¬ (9223372036854775807<v.length+1):=by omega
 have hap:(⟨v.toArray⟩:ByteArray)++⟨#[115]⟩=⟨(v++[115]).toArray⟩:=by apply ByteArray.ext;simp
 have f:w.drew.cell? ⟨T,0,none⟩=some (.slice (some ⟨A,0,none⟩) n i)/\w.drew.cell? ⟨A,4,none⟩=some (.slice a4 x.sels.length p4):=⟨kz,k4⟩;have C0:=Cl.start hc;have hlen:=hf.len;replace P:=(id P:Hid _);replace C:=(id C:Hid _);replace h:=(id h:Hid _);replace hx:=(id hx:Hid _);replace hC:=(id hC:Hid _);clear hZ hZE hc;revert hf;refine jE 192 (fun l=>FK l X v Z0 Z1 Z2 T->Code.wp Tryz.prog _ _ ⟨l.toArray,[]⟩ _) ?_ l hlen;simp only [AllL];iterate 192 intro _
 rintro ⟨_,h3,h7,h8,h9,h10,h11⟩;simp only [at_] at h3 h7 h8 h9 h10 h11;subst h3 h7 h8 h9 h10 h11;refine wp_seq ?_;unfold aUD;simp only [Tryz.f3,aS,sndC,fstC,thnC,elsC];refine Code.wp_mono (Q:=Exit.then (fun a w=>Code.wp Tryz.prog aFH Q a w) (fun _ _ _=>False)) (fun e a w h=>by cases e<;>first | exact h | exact h.elim) ?_;refine jO (fun w'=>w'.cell? ⟨T,0,none⟩=some (.slice (some ⟨A,0,none⟩) n i)/\w'.cell? ⟨A,4,none⟩=some (.slice a4 x.sels.length p4)) (fun j=>j==15) (by kernel_rfl) ?_;try simp only [Act.put,List.setIfInBounds_toArray,List.set_cons_zero,List.set_cons_succ]
 refine tk 0 f ?_;refine tk 1 f ?_;refine tk 2 f ?_;refine tk 3 f ?_;refine tk 4 f ?_;refine tk 5 f ?_;refine tk 6 f ?_;refine tk 10 f ?_;refine aDn 7 11 (by kernel_rfl) rfl rfl ?_ ?_
 ·intro K d;go_simp;go_at_call 14;refine (C.out _ _ C0.c).mono ?_;rintro e' D ⟨a0,l0,p0,M1,rfl,N,hc1,O⟩;have p:=C0.q O hc1;obtain ⟨c0z,Z,c0f,c01,c02,c03,c04⟩:=P.out.all D p.b;refine d.out _ _ ⟨c0z,Z⟩ (fun L => ?_);clear d K;try simp only [Act.put,List.setIfInBounds_toArray,List.set_cons_zero,List.set_cons_succ]
  refine aDn 8 11 (by kernel_rfl) rfl rfl ?_ ?_
  ·intro K d;go_simp;refine d.out _ _ ⟨aZ _ L.1,aZ _ L.2⟩ (fun k => ?_);clear d K;try simp only [Act.put,List.setIfInBounds_toArray,List.set_cons_zero,List.set_cons_succ]
   refine tk 9 k ?_;refine on1 11 ?_;intro K d;go_simp;refine d.out _ _ ⟨aZ _ k.1,aZ _ k.2⟩ (fun R => ?_);clear d K;try simp only [Act.put,List.setIfInBounds_toArray,List.set_cons_zero,List.set_cons_succ]
   refine on1 12 ?_;intro K d;have I:Cl M w M1 ((D.alloc (.cells #[.string ⟨(v++[115]).toArray⟩,.slice a0 l0 p0] 41)).alloc (.cells #[.int .i64 0,.string ⟨#[]⟩,.string ⟨#[]⟩,.slice none 0 0,.slice none 0 0,.string ⟨#[]⟩,.slice none 0 0] 44)):=((p.al _).al _);obtain ⟨_,_,_,_,_,q6,q7⟩:=P.out.all _ I.b;show (if Region.wanted {dst:=some 138,op:=Op.call {callee:=Callee.builtin Builtin.append,args:=_,argTypes:=_},type:=_,pos:=_,after:=_,guard:=_} _=true then _ else _);refine aGV (.tmp 130) (.tmp 137) B (.slice a4 x.sels.length p4) x.sels.length Y ⟨D.heap.size+1,0,none⟩ #[.int .i64 0,.string ⟨#[]⟩,.string ⟨#[]⟩,.slice none 0 0,.slice none 0 0,.string ⟨#[]⟩,.slice none 0 0] rfl rfl rfl rfl rfl (by intro u S;simp only [List.mem_cons,List.not_mem_nil,or_false] at S;rcases S with rfl | rfl | rfl | rfl | rfl | rfl | rfl<;>rfl) q6 (zS D _ _) ⟨rfl,rfl⟩ hs q7 ?_;intro g t w4 J r s;obtain ⟨n1,n2,n3⟩:=P.out.aft _ w4 I.b r;refine d.out _ _ ⟨n1,n2⟩ (fun F => ?_);clear d K;try simp only [Act.put,List.setIfInBounds_toArray,List.set_cons_zero,List.set_cons_succ]
   refine on1 13 ?_;intro K d;go_simp;refine d.out _ _ F (fun H => ?_);clear d K;try simp only [Act.put,List.setIfInBounds_toArray,List.set_cons_zero,List.set_cons_succ]
   refine tk 14 H ?_;refine onL 15 ?_;intro K d;go_simp;refine d.out _ _ ?_;clear d K;try simp only [Act.put,List.setIfInBounds_toArray,List.set_cons_zero,List.set_cons_succ]
   refine iF (by kernel_rfl) ?_ _;have G:g≠A:=fun e=>by
    rcases s with U | U;· exact P.out.o4g (by rw [<- e];exact U)
    ·have:=I.b.size;omega
   have V:=ownsRow_setCell_other J (a:=⟨A,4,none⟩) (by simpa [Value.ownBlock] using G) (.slice (some ⟨g,0,none⟩) (x.sels.length+1) t);refine aUC V P.out.len Q _ rfl rfl rfl rfl (fun z => ?_);obtain ⟨M',y,k1,k2,k3⟩:=fin4 (ds:=[dirY (v++[115])]) h.out hE hx.out P.out p.m p.o p.b p.c (Below.two (Nat.le_refl _) _ _) (aGW _ (heap_alloc_new D _)) (Nat.le_refl _) rfl (by simp) (row1 N) r s _ (vN V P.out.len _ _ _ _ _ _ _) (fun b hb=>pQ _ _ _ _ _ _ _ _ _ _ _ hb) (by rw [pR];simp [World.setCell]) (aC4 _ _ _ _ _ _ _ _ _ _) (pS _ _ _ _ _ _ _ _ _ _) (jB _ _ _ _ _ _ _ _ _ _);exact hC.out _ M' _ y _ k1 k2 k3 ⟨rfl,rfl,rfl,rfl,rfl,rfl,rfl⟩
  ·intro K d;go_simp;refine d.out _ _ ⟨aZ _ L.1,aZ _ L.2⟩ (fun k => ?_);clear d K;try simp only [Act.put,List.setIfInBounds_toArray,List.set_cons_zero,List.set_cons_succ]
   refine on1 8 ?_;intro K d;go_simp;refine d.out _ _ ⟨aZ _ k.1,aZ _ k.2⟩ (fun R => ?_);clear d K;try simp only [Act.put,List.setIfInBounds_toArray,List.set_cons_zero,List.set_cons_succ]
   refine tk 9 R ?_;refine on1 12 ?_;intro K d;have I:Cl M w M1 ((D.alloc (.cells #[.int .i64 0,.string ⟨#[]⟩,.string ⟨#[]⟩,.slice none 0 0,.slice none 0 0,.string ⟨#[]⟩,.slice none 0 0] 44)).alloc (.cells #[.string ⟨(v++[115]).toArray⟩,.slice a0 l0 p0] 41)):=((p.al _).al _);obtain ⟨_,_,_,_,_,q6,q7⟩:=P.out.all _ I.b;show (if Region.wanted {dst:=some 138,op:=Op.call {callee:=Callee.builtin Builtin.append,args:=_,argTypes:=_},type:=_,pos:=_,after:=_,guard:=_} _=true then _ else _);refine aGV (.tmp 130) (.tmp 137) B (.slice a4 x.sels.length p4) x.sels.length Y ⟨D.heap.size,0,none⟩ #[.int .i64 0,.string ⟨#[]⟩,.string ⟨#[]⟩,.slice none 0 0,.slice none 0 0,.string ⟨#[]⟩,.slice none 0 0] rfl rfl rfl rfl rfl (by intro u S;simp only [List.mem_cons,List.not_mem_nil,or_false] at S;rcases S with rfl | rfl | rfl | rfl | rfl | rfl | rfl<;>rfl) q6 (aGW _ (heap_alloc_new D _)) ⟨rfl,rfl⟩ hs q7 ?_;intro g t w4 J r s;obtain ⟨n1,n2,n3⟩:=P.out.aft _ w4 I.b r;refine d.out _ _ ⟨n1,n2⟩ (fun F => ?_);clear d K;try simp only [Act.put,List.setIfInBounds_toArray,List.set_cons_zero,List.set_cons_succ]
   refine on1 13 ?_;intro K d;go_simp;refine d.out _ _ F (fun H => ?_);clear d K;try simp only [Act.put,List.setIfInBounds_toArray,List.set_cons_zero,List.set_cons_succ]
   refine tk 14 H ?_;refine onL 15 ?_;intro K d;go_simp;refine d.out _ _ ?_;clear d K;try simp only [Act.put,List.setIfInBounds_toArray,List.set_cons_zero,List.set_cons_succ]
   refine iF (by kernel_rfl) ?_ _;have G:g≠A:=fun e=>by
    rcases s with U | U;· exact P.out.o4g (by rw [<- e];exact U)
    ·have:=I.b.size;omega
   have V:=ownsRow_setCell_other J (a:=⟨A,4,none⟩) (by simpa [Value.ownBlock] using G) (.slice (some ⟨g,0,none⟩) (x.sels.length+1) t);refine aUC V P.out.len Q _ rfl rfl rfl rfl (fun z => ?_);obtain ⟨M',y,k1,k2,k3⟩:=fin4 (ds:=[dirY (v++[115])]) h.out hE hx.out P.out p.m p.o p.b p.c (Below.two (Nat.le_refl _) _ _) (zS D _ _) (Nat.le_succ _) rfl (by simp) (row1 N) r s _ (vN V P.out.len _ _ _ _ _ _ _) (fun b hb=>pQ _ _ _ _ _ _ _ _ _ _ _ hb) (by rw [pR];simp [World.setCell]) (aC4 _ _ _ _ _ _ _ _ _ _) (pS _ _ _ _ _ _ _ _ _ _) (jB _ _ _ _ _ _ _ _ _ _);exact hC.out _ M' _ y _ k1 k2 k3 ⟨rfl,rfl,rfl,rfl,rfl,rfl,rfl⟩
 ·intro K d;go_simp;refine d.out _ _ ⟨aZ _ f.1,aZ _ f.2⟩ (fun L => ?_);clear d K;try simp only [Act.put,List.setIfInBounds_toArray,List.set_cons_zero,List.set_cons_succ]
  refine on1 7 ?_;intro K d;go_simp;go_at_call 14;refine (C.out _ _ (C0.al (.cells #[.int .i64 0,.string ⟨#[]⟩,.string ⟨#[]⟩,.slice none 0 0,.slice none 0 0,.string ⟨#[]⟩,.slice none 0 0] 44)).c).mono ?_;rintro e' D ⟨a0,l0,p0,M1,rfl,N,hc1,O⟩;have p:=(C0.al (.cells #[.int .i64 0,.string ⟨#[]⟩,.string ⟨#[]⟩,.slice none 0 0,.slice none 0 0,.string ⟨#[]⟩,.slice none 0 0] 44)).q O hc1;have z1:=at_q O (heap_alloc_new w.drew (.cells #[.int .i64 0,.string ⟨#[]⟩,.string ⟨#[]⟩,.slice none 0 0,.slice none 0 0,.string ⟨#[]⟩,.slice none 0 0] 44));obtain ⟨c0z,Z,c0f,c01,c02,c03,c04⟩:=P.out.all D p.b;refine d.out _ _ ⟨c0z,Z⟩ (fun k => ?_);clear d K;try simp only [Act.put,List.setIfInBounds_toArray,List.set_cons_zero,List.set_cons_succ]
  refine on1 8 ?_;intro K d;go_simp;refine d.out _ _ ⟨aZ _ k.1,aZ _ k.2⟩ (fun R => ?_);clear d K;try simp only [Act.put,List.setIfInBounds_toArray,List.set_cons_zero,List.set_cons_succ]
  refine tk 9 R ?_;refine on1 12 ?_;intro K d;have I:Cl M w M1 (D.alloc (.cells #[.string ⟨(v++[115]).toArray⟩,.slice a0 l0 p0] 41)):=(p.al _);obtain ⟨_,_,_,_,_,q6,q7⟩:=P.out.all _ I.b;show (if Region.wanted {dst:=some 138,op:=Op.call {callee:=Callee.builtin Builtin.append,args:=_,argTypes:=_},type:=_,pos:=_,after:=_,guard:=_} _=true then _ else _);refine aGV (.tmp 130) (.tmp 137) B (.slice a4 x.sels.length p4) x.sels.length Y ⟨w.heap.size,0,none⟩ #[.int .i64 0,.string ⟨#[]⟩,.string ⟨#[]⟩,.slice none 0 0,.slice none 0 0,.string ⟨#[]⟩,.slice none 0 0] rfl rfl rfl rfl rfl (by intro u S;simp only [List.mem_cons,List.not_mem_nil,or_false] at S;rcases S with rfl | rfl | rfl | rfl | rfl | rfl | rfl<;>rfl) q6 (aGW _ z1) ⟨rfl,rfl⟩ hs q7 ?_;intro g t w4 J r s;obtain ⟨n1,n2,n3⟩:=P.out.aft _ w4 I.b r;refine d.out _ _ ⟨n1,n2⟩ (fun F => ?_);clear d K;try simp only [Act.put,List.setIfInBounds_toArray,List.set_cons_zero,List.set_cons_succ]
  refine on1 13 ?_;intro K d;go_simp;refine d.out _ _ F (fun H => ?_);clear d K;try simp only [Act.put,List.setIfInBounds_toArray,List.set_cons_zero,List.set_cons_succ]
  refine tk 14 H ?_;refine onL 15 ?_;intro K d;go_simp;refine d.out _ _ ?_;clear d K;try simp only [Act.put,List.setIfInBounds_toArray,List.set_cons_zero,List.set_cons_succ]
  refine iF (by kernel_rfl) ?_ _;have G:g≠A:=fun e=>by
   rcases s with U | U;· exact P.out.o4g (by rw [<- e];exact U)
   ·have:=I.b.size;omega
  have V:=ownsRow_setCell_other J (a:=⟨A,4,none⟩) (by simpa [Value.ownBlock] using G) (.slice (some ⟨g,0,none⟩) (x.sels.length+1) t);refine aUC V P.out.len Q _ rfl rfl rfl rfl (fun z => ?_);obtain ⟨M',y,k1,k2,k3⟩:=fin4 (ds:=[dirY (v++[115])]) h.out hE hx.out P.out p.m p.o p.b p.c ((Below.refl _ _).alloc (Nat.le_refl _) _) (heap_alloc_new D _) (Nat.le_refl _) rfl (by simp) (row1 N) r s _ (vN V P.out.len _ _ _ _ _ _ _) (fun b hb=>pQ _ _ _ _ _ _ _ _ _ _ _ hb) (by rw [pR];simp [World.setCell]) (aC4 _ _ _ _ _ _ _ _ _ _) (pS _ _ _ _ _ _ _ _ _ _) (jB _ _ _ _ _ _ _ _ _ _);exact hC.out _ M' _ y _ k1 k2 k3 ⟨rfl,rfl,rfl,rfl,rfl,rfl,rfl⟩
open Go Go.Ev Go.RowKit
noncomputable def aKr:Code:=fstC (sndC (sndC (sndC (sndC (sndC (sndC (sndC (aS Tryz.f3))))))))
theorem bF9 t {B E M w F frags f n d X Z0 Z1 m Z3 vf ys zs u2 u4 C l4 z} (h:DS 0 B E M w F frags (.slice (some ⟨f,0,none⟩) n d) ys vf zs u2 (.slice C l4 z) u4) (hE:E<=w.heap.size) {x} (hx:F[0]?=some x) (hs:x.dirs.length<1073741824) (hc:Cons M w) (hZ:w.heap[m]?=some (.cells #[.slice (some ⟨f,0,none⟩) n d,vf] 28 (0,0))) (hZE:E<=m∨m<B) Q l (hf:FK l X t Z0 Z1 m Z3)
  (hC:∀ w' M' t3 ys' l',DS 0 B w'.heap.size M' w' (F.set 0 ⟨x.kind,x.name,x.vars,x.dirs++[dirY t],x.sels⟩) frags (.slice (some ⟨f,0,none⟩) n d) ys' vf zs u2 t3 u4->Cons M' w'->ChgF B E M w M' w' (.slice (some ⟨f,0,none⟩) n d) vf u2 t3 u4->FK l' X t Z0 Z1 m Z3->Q .normal ⟨l'.toArray,[]⟩ w') :
  Code.wp Tryz.prog aKr Q ⟨l.toArray,[]⟩ w:=by
 obtain ⟨hm,Z⟩:=h.mrk x hx;obtain ⟨ys3,R,S⟩:=hm.o3.own;rw [List.length_map] at R;obtain ⟨a4',cap4',e4⟩:=zO R;obtain ⟨rfl,rfl,rfl⟩:C=a4'/\l4=x.dirs.length/\z=cap4':=by injection e4 with e1 e2 e3;exact ⟨e1,e2,e3⟩
 clear e4;obtain ⟨gA',n',o,eva,hnl,ey2,ey3,ey4⟩:=h.at_;have hn:n=F.length:=by injection eva with e1 e2 e3;omega
 clear eva;have hn0:0<n:=by have:=h.isx;omega
 have hnz:(0:Int)<(n:Int):=by omega
 have hgA:=h.hi f (.inl rfl);have N:=h.ownA;rw [<- hn] at N;have hZl:m<w.heap.size:=(Array.getElem?_eq_some_iff.1 hZ).1;have hgl:f<w.heap.size:=by omega
 have hZg:m≠f:=by omega
 have J:∀ k,(Value.slice C x.dirs.length z).ownBlock=some k->B<=k/\k<E:=fun k hk=>h.hi k (.inr (.inr (.inr (.inl hk))));have h4g:(Value.slice C x.dirs.length z).ownBlock≠some f:=fun e=>(Z f (.inr (.inl e))).1 rfl;have h4Z:(Value.slice C x.dirs.length z).ownBlock≠some m:=fun e=>by have:=J m e;omega
 have G:Hid (∀ w':World,Below w.heap.size w w'->w'.cell? ⟨m,0,none⟩=some (.slice (some ⟨f,0,none⟩) n d)/\w'.cell? ⟨f,3,none⟩=some (.slice C x.dirs.length z)/\w'.frozen? ⟨f,3,none⟩=false/\m<w'.heap.size/\f<w'.heap.size/\w'.ownsRow B 41 2 (.slice C x.dirs.length z) x.dirs.length ys3/\w'.ownsRow B 38 5 (.slice (some ⟨f,0,none⟩) n d) n ys):=by
  intro w' A;have V:=dT N fun k hk=>A.block k (by have:=(h.hi k (.inl hk)).2;omega);obtain ⟨c4,f4⟩:=aOx V (j:=3) ey3;have cz:w'.cell? ⟨m,0,none⟩=some (.slice (some ⟨f,0,none⟩) n d):=by rw [cell_of_row w' m 0 _ _ _ ((A.block m hZl).trans hZ)];rfl
  exact ⟨cz,c4,f4,by have:=A.size;omega,by have:=A.size;omega,dT R fun k hk=>A.block k (by have:=(J k hk).2;omega),V⟩
 obtain ⟨kz,k4,kf,_⟩:=G.out w (Below.refl _ _);obtain ⟨i0,z0,hi,hz0,hz1,hz2,hzc⟩:=aEt Tryz.i41;have hop0:0<F.length:=h.isx;replace hn:=(id hn:Hid _);have I:=zQ t;have hAft:Hid (∀ (W s:World),Below w.heap.size w W->W.grownBy s (Value.slice C x.dirs.length z).ownBlock->s.cell? ⟨m,0,none⟩=some (.slice (some ⟨f,0,none⟩) n d)/\s.cell? ⟨f,3,none⟩=some (.slice C x.dirs.length z)/\s.frozen? ⟨f,3,none⟩=false):=by
  intro W s A hg;obtain ⟨c1,c2,c3,c4,c5,_⟩:=G.out W A;have e1:=hg.block m c4 (fun e=>h4Z e.symm);have e2:=hg.block f c5 (fun e=>h4g e.symm);exact ⟨(World.cell?_of_block (a:=⟨m,0,none⟩) e1).trans c1,(World.cell?_of_block (a:=⟨f,3,none⟩) e2).trans c2,(World.frozen?_of_block (a:=⟨f,3,none⟩) e2).trans c3⟩
 have hfin:Hid (∀ (M1:Mem) (r:World) (K:Option Addr) (L H:Nat) (s:World) (g o:Nat) l',Cons M1 r->Quiet M w.drew M1 r->Rv M1 noB (.slice (List.map aC (dirY t).args) [] false) (.slice K L H)->s.ownsRow B 41 2 (.slice (some ⟨g,0,none⟩) (x.dirs.length+1) o) (x.dirs.length+1) (ys3++[.string ⟨t.toArray⟩,.slice K L H])->(r.alloc (.cells #[.string ⟨t.toArray⟩,.slice K L H] 41)).grownBy s (Value.slice C x.dirs.length z).ownBlock->((Value.slice C x.dirs.length z).ownBlock=some g∨g=(r.alloc (.cells #[.string ⟨t.toArray⟩,.slice K L H] 41)).heap.size)->FK l' X t Z0 Z1 m Z3->Q .normal ⟨l'.toArray,[]⟩ (s.setCell ⟨f,3,none⟩ (.slice (some ⟨g,0,none⟩) (x.dirs.length+1) o))):=by
  intro M1 r K L H s g o l' hc1 D hr1 own4 c O hfk;have q:Below w.heap.size w r:=((Below.refl w.heap.size w).drew).trans (bAA D);have hsl:=q.size;have hb3:Below r.heap.size r (r.alloc (.cells #[.string ⟨t.toArray⟩,.slice K L H] 41)):=(Below.refl _ _).alloc (Nat.le_refl _) _;have hs3:(r.alloc (.cells #[.string ⟨t.toArray⟩,.slice K L H] 41)).heap.size=r.heap.size+1:=by simp
  have hgg:g≠f:=by
   rcases O with e | e;· intro e2;exact h4g (by rw [<- e2];exact e)
   omega
  have hwA:s.ownsRow B 38 5 (.slice (some ⟨f,0,none⟩) n d) n ys:=dT N fun b A=>by
   have hbl:b<w.heap.size:=by have:=(h.hi b (.inl A)).2;omega
   exact (c.block b (by rw [hs3];omega) (fun e=>(Z b (.inr (.inl e.symm))).1 A)).trans ((hb3.block b (by omega)).trans (q.block b hbl))
  have hyl:=N.1;have hA:=iP hwA 3 (.slice (some ⟨g,0,none⟩) (x.dirs.length+1) o) (by omega);obtain ⟨M',k1,k2,k3⟩:=bC3 (y:=dirY t) h hE hx (fun b i v hv=>D.mem b i v hv) (fun b A i=>(D.old b A).2 i) q hc1 hb3 hr1 S R.1 (wf:=s.setCell ⟨f,3,none⟩ (.slice (some ⟨g,0,none⟩) (x.dirs.length+1) o)) (ownsRow_setCell_other own4 (a:=⟨f,3,none⟩) (by simpa [Value.ownBlock] using hgg) _) (fun b A e1 e2=>(Below.heap_setCell _ _ _ _ e1).trans (c.block b A (fun e=>e2 e.symm))) (by have e:=hn.out;rw [<- e];exact hA) (O.imp id (fun e=>by rw [e];exact Nat.le_refl _)) c.os c.tape c.output (by have:=c.size;simp only [World.setCell,Array.size_modify];exact this);exact hC _ M' _ _ l' k1 k2 k3 hfk
 replace I:=(id I:Hid _);clear hC h hm Z S hZ hZE hE ey2 ey3 ey4 hx;have hlen:=hf.len;revert hf;refine jE 192 (fun l=>FK l X t Z0 Z1 m Z3->Code.wp Tryz.prog _ _ ⟨l.toArray,[]⟩ _) ?_ l hlen;simp only [AllL];iterate 192 intro _
 rintro ⟨_,h3,h7,h8,h9,h10,h11⟩;simp only [at_] at h3 h7 h8 h9 h10 h11;subst h3 h7 h8 h9 h10 h11;unfold aKr;have p:w.drew.cell? ⟨m,0,none⟩=some (.slice (some ⟨f,0,none⟩) n d)/\w.drew.cell? ⟨f,3,none⟩=some (.slice C x.dirs.length z):=⟨kz,k4⟩;simp only [Tryz.f3,aS,sndC,fstC,elsC];refine Code.wp_mono (Q:=Exit.then (Q .normal) (fun _ _ _=>False)) (fun e a w h=>by cases e<;>first | exact h | exact h.elim) ?_;refine jO (fun w'=>w'.cell? ⟨m,0,none⟩=some (.slice (some ⟨f,0,none⟩) n d)/\w'.cell? ⟨f,3,none⟩=some (.slice C x.dirs.length z)) (fun j=>j==13) (by kernel_rfl) ?_;try simp only [Act.put,List.setIfInBounds_toArray,List.set_cons_zero,List.set_cons_succ]
 refine tk 0 p ?_;refine tk 1 p ?_;refine tk 2 p ?_;refine tk 3 p ?_;refine tk 4 p ?_;refine tk 5 p ?_;refine tk 6 p ?_;refine tk 7 p ?_;refine aJh 8 (by kernel_rfl) rfl ?_;intro K8 hK8;go_simp;go_at_call 14;refine (I.out M _ (tG hc)).mono ?_;rintro e' r ⟨K,L,H,M1,rfl,hr1,hc1,D⟩;have q  := ((Below.refl w.heap.size w).drew).trans (bAA D);obtain ⟨c0z,c0a,c0f,c01,c02,c03,c04⟩:=G.out r q;refine hK8.out _ _ ⟨c0z,c0a⟩ (fun hS1 => ?_);clear hK8 K8;try simp only [Act.put,List.setIfInBounds_toArray,List.set_cons_zero,List.set_cons_succ]
 refine aJh 9 (by kernel_rfl) rfl ?_;intro K9 hK9;go_simp;refine hK9.out _ _ ⟨aZ _ hS1.1,aZ _ hS1.2⟩ (fun hS2 => ?_);clear hK9 K9;try simp only [Act.put,List.setIfInBounds_toArray,List.set_cons_zero,List.set_cons_succ]
 refine aJh 10 (by kernel_rfl) rfl ?_;intro K10 U;show (if Region.wanted {dst:=some 121,op:=Op.call {callee:=Callee.builtin Builtin.append,args:=_,argTypes:=_},type:=_,pos:=_,after:=_,guard:=_} _=true then _ else _);refine aHB rfl (.tmp 117) (.tmp 120) 36 rfl B 41 i0 _ 2 40 Tryz.u36 hi hz0 hz1 hz2 hzc (by decide) (.slice C x.dirs.length z) x.dirs.length ys3 rfl (c03.alloc _) ⟨r.heap.size,0,none⟩ 1 1 [.string ⟨t.toArray⟩,.slice K L H] rfl rfl (World.news_of_block (cs := #[.string ⟨t.toArray⟩,.slice K L H]) (heap_alloc_new r _)) (by intro u hu;simp only [List.mem_cons,List.not_mem_nil,or_false] at hu;rcases hu with rfl | rfl<;>rfl) (by decide) (by unfold maxLen;omega) (by omega) (by have:=q.size;have:=hgA;simp;omega) _ rfl ?_;intro g cap2 s P c O hlt;obtain ⟨n1,n2,n3⟩:=hAft.out _ s (q.trans ((Below.refl _ _).alloc q.size _)) c;refine U.out _ _ ⟨n1,n2⟩ (fun hS3 => ?_);clear U K10;try simp only [Act.put,List.setIfInBounds_toArray,List.set_cons_zero,List.set_cons_succ]
 refine aJh 11 (by kernel_rfl) rfl ?_;intro K11 Y;go_simp;refine Y.out _ _ hS3 (fun hS4 => ?_);clear Y K11;try simp only [Act.put,List.setIfInBounds_toArray,List.set_cons_zero,List.set_cons_succ]
 refine tk 12 hS4 ?_;refine aVk 13 (by kernel_rfl) rfl rfl ?_;intro K13 T;go_simp;refine T.out _ _ ?_;clear T K13;try simp [Act.put,List.setIfInBounds_toArray,List.set_cons_zero]
 refine iF (by kernel_rfl) ?_ _;exact hfin.out M1 r K L H s g cap2 _ hc1 D hr1 P c O ⟨rfl,rfl,rfl,rfl,rfl,rfl,rfl⟩
noncomputable def bES:Code->Operand | .cond c _ _=>c | _ => .const undef
noncomputable def aRD:Code:=fstC (sndC (sndC (sndC (sndC (sndC (aS Tryz.f3))))))
noncomputable def bGa:Code := .seq aUA aFF
theorem bET:aRD = .seq (fstC aRD) (.cond (bES (sndC aRD)) bGa aUw):=by kernel_rfl
theorem wayA g {B E M w d frags i n a X f A z D j ys F p m a4 l4 p4} (h:DS 0 B E M w d frags (.slice (some ⟨i,0,none⟩) n a) ys j F p m (.slice a4 l4 p4)) (hE:E<=w.heap.size) {x} (o:d[0]?=some x) (hs:x.sels.length<1073741824) (hc:Cons M w) (hZ:w.heap[f]?=some (.cells #[.slice (some ⟨i,0,none⟩) n a,j] 28 (0,0))) (v:E<=f∨f<B) Q l (hf:FK l X g f A z D)
  (hC:∀ w' M' c b l',DS 0 B w'.heap.size M' w' (d.set 0 ⟨x.kind,x.name,x.vars,x.dirs,x.sels++[selY [dirY g]]⟩) frags (.slice (some ⟨i,0,none⟩) n a) b j F p m c->Cons M' w'->ChgF B E M w M' w' (.slice (some ⟨i,0,none⟩) n a) j p m c->FK l' X g f A z D->Q .normal ⟨l'.toArray,[]⟩ w') :
  Code.wp Tryz.prog aRD Q ⟨l.toArray,[]⟩ w:=by
 have u:Hid (∀ (e:World),Below w.heap.size w e->DS 0 B E M e d frags (.slice (some ⟨i,0,none⟩) n a) ys j F p m (.slice a4 l4 p4)/\E<=e.heap.size/\Cons M e/\e.heap[f]?=some (.cells #[.slice (some ⟨i,0,none⟩) n a,j] 28 (0,0))):=fun e q =>
  ⟨h.move (fun _ _ _ h=>h) (fun k _ hk=>q.block k (by omega)) (fun _ _ _ _=>rfl),by have:=q.size;omega,kO hc q,(q.block f (Array.getElem?_eq_some_iff.1 hZ).1).trans hZ⟩
 have r:Hid (∀ (e w':World) (M':Mem) c b l',Below w.heap.size w e->DS 0 B w'.heap.size M' w' (d.set 0 ⟨x.kind,x.name,x.vars,x.dirs,x.sels++[selY [dirY g]]⟩) frags (.slice (some ⟨i,0,none⟩) n a) b j F p m c->Cons M' w'->ChgF B E M e M' w' (.slice (some ⟨i,0,none⟩) n a) j p m c->FK l' X g f A z D->Q .normal ⟨l'.toArray,[]⟩ w'):=fun e w' M' c b l' q h1 h2 C h4=>hC w' M' c b l' h1 h2 (C.back q) h4;clear hC h hc hZ;have y:=hf.len;revert hf;refine jE 192 (fun l=>FK l X g f A z D->Code.wp Tryz.prog _ _ ⟨l.toArray,[]⟩ _) ?_ l y;simp only [AllL];iterate 192 intro _
 rintro ⟨_,C,h7,h8,h9,t,s⟩;simp [at_] at C h7 h8 h9 t s;subst C h7 h8 h9 t s;replace o:=(id o:Hid _);rw [bET];refine wp_seq ?_;unfold aRD;simp [Tryz.f3,aS,sndC,fstC];replace o:=o.out;go_region;· go_wp2;obtain ⟨e1,e2,e3,e4⟩:=u.out _ (((Below.refl w.heap.size w).alloc (Nat.le_refl _) (.cells #[.bool false] 4)).drew);exact bF3 g e1 e2 o hs e3 e4 v Q _ ⟨rfl,rfl,rfl,rfl,rfl,rfl,rfl⟩ (fun w' M' c b l' k1 k2 k3 k4=>r.out _ w' M' c b l' (((Below.refl w.heap.size w).alloc (Nat.le_refl _) (.cells #[.bool false] 4)).drew) k1 k2 k3 k4)
 go_wp2;obtain ⟨e1,e2,e3,e4⟩:=u.out _ (((Below.refl w.heap.size w).alloc (Nat.le_refl _) (.cells #[.bool true] 4)).drew);exact bF6 g e1 e2 o hs e3 e4 v Q _ ⟨rfl,rfl,rfl,rfl,rfl,rfl,rfl⟩ (fun w' M' c b l' k1 k2 k3 k4=>r.out _ w' M' c b l' (((Below.refl w.heap.size w).alloc (Nat.le_refl _) (.cells #[.bool true] 4)).drew) k1 k2 k3 k4)
noncomputable def aRE:Code:=fstC (sndC (sndC (sndC (sndC (sndC (sndC (aS Tryz.f3)))))))
noncomputable def bGb:Code := .seq aUB aFG
theorem bEU:aRE = .seq (fstC aRE) (.cond (bES (sndC aRE)) bGb aUx):=by kernel_rfl
theorem wayB e {B E M w d frags i n a X A g z D j ys F p m a4 l4 p4} (h:DS 0 B E M w d frags (.slice (some ⟨i,0,none⟩) n a) ys j F p m (.slice a4 l4 p4)) (hE:E<=w.heap.size) {x} (o:d[0]?=some x) (hs:x.sels.length<1073741824) (hc:Cons M w) (hZ:w.heap[g]?=some (.cells #[.slice (some ⟨i,0,none⟩) n a,j] 28 (0,0))) (v:E<=g∨g<B) Q l (hf:FK l X e A g z D)
  (hC:∀ w' M' c b l',DS 0 B w'.heap.size M' w' (d.set 0 ⟨x.kind,x.name,x.vars,x.dirs,x.sels++[selY [dirY e,dirY e]]⟩) frags (.slice (some ⟨i,0,none⟩) n a) b j F p m c->Cons M' w'->ChgF B E M w M' w' (.slice (some ⟨i,0,none⟩) n a) j p m c->FK l' X e A g z D->Q .normal ⟨l'.toArray,[]⟩ w') :
  Code.wp Tryz.prog aRE Q ⟨l.toArray,[]⟩ w:=by
 have u:Hid (∀ (f:World),Below w.heap.size w f->DS 0 B E M f d frags (.slice (some ⟨i,0,none⟩) n a) ys j F p m (.slice a4 l4 p4)/\E<=f.heap.size/\Cons M f/\f.heap[g]?=some (.cells #[.slice (some ⟨i,0,none⟩) n a,j] 28 (0,0))):=fun f q =>
  ⟨h.move (fun _ _ _ h=>h) (fun k _ hk=>q.block k (by omega)) (fun _ _ _ _=>rfl),by have:=q.size;omega,kO hc q,(q.block g (Array.getElem?_eq_some_iff.1 hZ).1).trans hZ⟩
 have r:Hid (∀ (f w':World) (M':Mem) c b l',Below w.heap.size w f->DS 0 B w'.heap.size M' w' (d.set 0 ⟨x.kind,x.name,x.vars,x.dirs,x.sels++[selY [dirY e,dirY e]]⟩) frags (.slice (some ⟨i,0,none⟩) n a) b j F p m c->Cons M' w'->ChgF B E M f M' w' (.slice (some ⟨i,0,none⟩) n a) j p m c->FK l' X e A g z D->Q .normal ⟨l'.toArray,[]⟩ w'):=fun f w' M' c b l' q h1 h2 C h4=>hC w' M' c b l' h1 h2 (C.back q) h4;clear hC h hc hZ;have y:=hf.len;revert hf;refine jE 192 (fun l=>FK l X e A g z D->Code.wp Tryz.prog _ _ ⟨l.toArray,[]⟩ _) ?_ l y;simp only [AllL];iterate 192 intro _
 rintro ⟨_,C,h7,h8,h9,t,s⟩;simp [at_] at C h7 h8 h9 t s;subst C h7 h8 h9 t s;replace o:=(id o:Hid _);rw [bEU];refine wp_seq ?_;unfold aRE;simp [Tryz.f3,aS,sndC,fstC];replace o:=o.out;go_region;· go_wp2;obtain ⟨e1,e2,e3,e4⟩:=u.out _ (((Below.refl w.heap.size w).alloc (by omega) (.cells #[.bool false] 4)).drew);exact bF4 e e1 e2 o hs e3 e4 v Q _ ⟨rfl,rfl,rfl,rfl,rfl,rfl,rfl⟩ (fun w' M' c b l' k1 k2 k3 k4=>r.out _ w' M' c b l' (((Below.refl w.heap.size w).alloc (by omega) (.cells #[.bool false] 4)).drew) k1 k2 k3 k4)
 go_wp2;obtain ⟨e1,e2,e3,e4⟩:=u.out _ (((Below.refl w.heap.size w).alloc (by omega) (.cells #[.bool true] 4)).drew);exact bF7 e e1 e2 o hs e3 e4 v Q _ ⟨rfl,rfl,rfl,rfl,rfl,rfl,rfl⟩ (fun w' M' c b l' k1 k2 k3 k4=>r.out _ w' M' c b l' (((Below.refl w.heap.size w).alloc (by omega) (.cells #[.bool true] 4)).drew) k1 k2 k3 k4)
noncomputable def aRF:Code:=fstC (sndC (sndC (sndC (sndC (sndC (sndC (sndC (sndC (aS Tryz.f3)))))))))
noncomputable def bGc:Code := .seq aUD aFH
theorem bEV:aRF = .seq (fstC aRF) (.cond (bES (sndC aRF)) bGc aUy):=by kernel_rfl
theorem wayE f (r:f.length<=1000) {B E M w d frags i n a X D C A g j ys G p m a4 l4 p4} (h:DS 0 B E M w d frags (.slice (some ⟨i,0,none⟩) n a) ys j G p m (.slice a4 l4 p4)) (hE:E<=w.heap.size) {x} (o:d[0]?=some x) (hs:x.sels.length<1073741824) (hc:Cons M w) (hZ:w.heap[g]?=some (.cells #[.slice (some ⟨i,0,none⟩) n a,j] 28 (0,0))) (y:E<=g∨g<B) Q l (hf:FK l X f D C A g)
  (hC:∀ w' M' c b l',DS 0 B w'.heap.size M' w' (d.set 0 ⟨x.kind,x.name,x.vars,x.dirs,x.sels++[selY [dirY (f++[115])]]⟩) frags (.slice (some ⟨i,0,none⟩) n a) b j G p m c->Cons M' w'->ChgF B E M w M' w' (.slice (some ⟨i,0,none⟩) n a) j p m c->FK l' X f D C A g->Q .normal ⟨l'.toArray,[]⟩ w') :
  Code.wp Tryz.prog aRF Q ⟨l.toArray,[]⟩ w:=by
 have v:Hid (∀ (e:World),Below w.heap.size w e->DS 0 B E M e d frags (.slice (some ⟨i,0,none⟩) n a) ys j G p m (.slice a4 l4 p4)/\E<=e.heap.size/\Cons M e/\e.heap[g]?=some (.cells #[.slice (some ⟨i,0,none⟩) n a,j] 28 (0,0))):=fun e q =>
  ⟨h.move (fun _ _ _ h=>h) (fun k _ hk=>q.block k (by omega)) (fun _ _ _ _=>rfl),by have:=q.size;omega,kO hc q,(q.block g (Array.getElem?_eq_some_iff.1 hZ).1).trans hZ⟩
 have s:Hid (∀ (e w':World) (M':Mem) c b l',Below w.heap.size w e->DS 0 B w'.heap.size M' w' (d.set 0 ⟨x.kind,x.name,x.vars,x.dirs,x.sels++[selY [dirY (f++[115])]]⟩) frags (.slice (some ⟨i,0,none⟩) n a) b j G p m c->Cons M' w'->ChgF B E M e M' w' (.slice (some ⟨i,0,none⟩) n a) j p m c->FK l' X f D C A g->Q .normal ⟨l'.toArray,[]⟩ w'):=fun e w' M' c b l' q h1 h2 F h4=>hC w' M' c b l' h1 h2 (F.back q) h4;clear hC h hc hZ;have z:=hf.len;revert hf;refine jE 192 (fun l=>FK l X f D C A g->Code.wp Tryz.prog _ _ ⟨l.toArray,[]⟩ _) ?_ l z;simp only [AllL];iterate 192 intro _
 rintro ⟨_,F,h7,h8,h9,u,t⟩;simp [at_] at F h7 h8 h9 u t;subst F h7 h8 h9 u t;replace o:=(id o:Hid _);rw [bEV];refine wp_seq ?_;unfold aRF;simp [Tryz.f3,aS,sndC,fstC];replace o:=o.out;go_region;· go_wp2;obtain ⟨e1,e2,e3,e4⟩:=v.out _ (((Below.refl w.heap.size w).alloc (Nat.le_refl _) (.cells #[.bool false] 4)).drew);exact bF5 f r e1 e2 o hs e3 e4 y Q _ ⟨rfl,rfl,rfl,rfl,rfl,rfl,rfl⟩ (fun w' M' c b l' k1 k2 k3 k4=>s.out _ w' M' c b l' (((Below.refl w.heap.size w).alloc (Nat.le_refl _) (.cells #[.bool false] 4)).drew) k1 k2 k3 k4)
 go_wp2;obtain ⟨e1,e2,e3,e4⟩:=v.out _ (((Below.refl w.heap.size w).alloc (Nat.le_refl _) (.cells #[.bool true] 4)).drew);exact bF8 f r e1 e2 o hs e3 e4 y Q _ ⟨rfl,rfl,rfl,rfl,rfl,rfl,rfl⟩ (fun w' M' c b l' k1 k2 k3 k4=>s.out _ w' M' c b l' (((Below.refl w.heap.size w).alloc (Nat.le_refl _) (.cells #[.bool true] 4)).drew) k1 k2 k3 k4)
end Go.Proofs.YtphmfillajagdaaGreat

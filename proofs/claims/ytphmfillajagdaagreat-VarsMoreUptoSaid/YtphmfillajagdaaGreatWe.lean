import Derived.Test.YtphmfillajagdaaGreatWc
import Derived.Test.YtphmfillajagdaaGreatEx
import Derived.Test.YtphmfillajagdaaGreatWa
set_option maxHeartbeats 4000000
noncomputable section
set_option maxRecDepth 100000
set_option linter.unusedVariables false
set_option linter.unusedSimpArgs false
set_option linter.unusedSimpArgs false
open Go Go.Ev Go.RowKit
namespace Go.Proofs.YtphmfillajagdaaGreat
structure Chg (B E:Nat) (M:Mem) (w:World) (M':Mem) (w':World):Prop where
 mem:∀ b i v,M b i=some v->M' b i=some v
 blk:∀ b,b<w.heap.size->(b<B∨E<=b)->w'.heap[b]?=w.heap[b]?
 old:∀ b,b<w.heap.size->∀ i,M' b i=M b i
 os:w'.os=w.os
 tape:w'.tape=w.tape
 output:w'.output=w.output
 size:w.heap.size<=w'.heap.size
structure ChgF (B E:Nat) (M:Mem) (w:World) (M':Mem) (w':World) (va vf u2 u3 u4:Value):Prop extends Chg B E M w M' w' where
 fsh:∀ g,(va.ownBlock=some g∨vf.ownBlock=some g∨Own2 u2 g)->(B<=g/\g<E)∨w.heap.size<=g
def at_:List Value->Nat->Value
 | [],_=>undef
 | v::_,0=>v
 | _::l,n+1=>at_ l n
def AllL:Nat->(List Value->Prop)->Prop
 | 0,P=>P []
 | n+1,P=>∀ v,AllL n fun l=>P (v::l)
theorem tZ:∀ n P,AllL n P->∀ l,l.length=n->P l
 | 0,P,h,l,e=>by cases l with | nil=>exact h | cons v l=>grind
 | n+1,P,h,l,e=>by
  cases l with
  | nil=>grind
  | cons v l=>exact tZ n (fun l=>P (v::l)) (h v) l (by grind)
theorem DS.shut {m B E M w d frags f g ys I o s t} (h:DS m B E M w d frags f ys g I o s t) (G:Cons M w):∃ M',(∀ b i v,M b i=some v->M' b i=some v)/\Cons M' w/\Rv M' noB (.agg [(.slice (List.map aR d) [] false),(.slice (List.map aH frags) [] false)]) (.agg #[f,g])/\∀ b,¬ (f.ownBlock=some b∨g.ownBlock=some b∨Own2 o b)->∀ i,M' b i=M b i:=by
 obtain ⟨u,K⟩:=h.mrk _ (List.getElem?_eq_getElem h.isx);obtain ⟨M1,p,n,F,y⟩:=u.frz G;have q:=aMD (v:=f) n;have l:=aAw (v:=f) n;have z:=aMD (v:=g) q;have k:=aAw (v:=g) q;have C:OpAt M1 d ys:=by
  refine ⟨h.rowsA.1,fun i x D => ?_⟩;obtain ⟨A,v3,v4,j,r⟩:=h.rowsA.2 i x D;refine ⟨A,v3,v4,?_,r⟩;rcases j with ⟨rfl,rfl,rfl,rfl⟩ | ⟨_,j⟩;· grind
  exact j.mono p
 have H:=aOP C h.ownA l aMF;have N:=aOQ (h.rows.mono p).at' h.own (fun b i v hv=>k b i v (l b i v hv)) aMF;refine ⟨frzV g (frzV f M1 w) w,fun b i v hv=>by grind,z,.agg _ _ (fun i=>(#[f,g]:Array Value).getD i undef) rfl (fun i J => ?_) (fun i c a => ?_),fun b L i => ?_⟩;· simp_all
 ·match i,a with
  | 0,a=>cases a;exact H.mono k (fun _ _ _ h=>h)
  | 1,a=>simp_all
 rw [aD5 (fun e=>by grind),aD5 (fun e=>by grind),y b (fun e=>by grind)]
theorem bEb {w:World} {a v} o (h:w.cell? a=some v):(w.alloc o).cell? a=some v :=
 (World.cell?_of_block (heap_alloc_old w o (World.block_lt_of_cell? w a h))).trans h
theorem aJa {P w r o a K Q E} (q:o.guard=none) s x t
  (N:o.op = .call {callee := .builtin .append,args := #[s,x],argTypes := #[t,t]})
  base e i z size bytes (I:P.underlying t=some (.slice e)) (J:P.info? e=some i) (F:i.zero=some z)
  (f:i.size=size) (D:i.bytes=bytes) (B:z.cells.size=size) (y:0<size)
  v n xs (R:a.eval s=v) (p:w.ownsRow base e size v n xs)
  A m c b (O:a.eval x = .slice (some A) m c) (M:b.length=m*size) (l:∀ j u,b[j]?=some u->w.cell? (A.add j)=some u) (L:∀ u∈b,u.oneCell'=true)
  (S:0<m) (C:n+m<=maxLen) (d:(n+m)*bytes<=140737488355328) (k:base<=w.heap.size) H (G:w.heap.size=H)
  (h:∀ g cap w',w'.ownsRow base e size (.slice (some ⟨g,0,none⟩) (n+m) cap) (n+m) (xs++b)->w.grownBy w' v.ownBlock->(v.ownBlock=some g∨g=H)->g<w'.heap.size->K (a.put o.dst (.slice (some ⟨g,0,none⟩) (n+m) cap)) w') :
  if Region.wanted o (yielded r a.tmps)=true then Oper.wp P o a w K Q else E :=
 step_append_lies w q s x t N base e i z size bytes I J F f D B y v n xs R p A m c b O M l L S C d k H G h
theorem ChgF.back {B E M M' w j w' i k e d f} (h:ChgF B E M j M' w' i k e d f) (a:Below w.heap.size w j):ChgF B E M w M' w' i k e d f :=
 ⟨⟨h.mem,fun b c l=>(h.blk b (by have:=a.size;omega) l).trans (a.block b c),fun b c=>h.old b (by have:=a.size;omega),h.os.trans a.os,h.tape.trans a.tape,h.output.trans a.output,by have:=a.size;have:=h.size;omega⟩,fun g m=>(h.fsh g m).imp id (fun h=>by have:=a.size;omega)⟩
structure Cl (M:Mem) (w:World) (M1:Mem) (w1:World):Prop where
 b:Below w.heap.size w w1
 m:∀ b i v,M b i=some v->M1 b i=some v
 o:∀ b,b<w.heap.size->∀ i,M1 b i=M b i
 c:Cons M1 w1
theorem Cl.start {M w} (a:Cons M w):Cl M w M w.drew:=⟨(Below.refl _ _).drew,fun _ _ _ h=>h,fun _ _ _=>rfl,qG a⟩
theorem Cl.al {M M1 w a} (h:Cl M w M1 a) o:Cl M w M1 (a.alloc o):=⟨h.b.trans ((Below.refl _ _).alloc h.b.size o),h.m,h.o,vC h.c ((Below.refl _ _).alloc (by omega) o)⟩
theorem Cl.q {M M1 d w f a} (h:Cl M w M1 f) (q:Quiet M1 f d a) (c:Cons d a):Cl M w d a :=
 ⟨h.b.trans ⟨q.os,q.tape,q.output,q.size,fun b e=>(q.old b (by have:=h.b.size;omega)).1⟩,fun b i v hv=>q.mem b i v (h.m b i v hv),fun b e i=>((q.old b (by have:=h.b.size;omega)).2 i).trans (h.o b e i),c⟩
theorem bJZ {w:World} {b:Nat} {p} o (h:w.heap[b]?=some p):(w.alloc o).heap[b]?=some p:=(heap_alloc_old w o (Array.getElem?_eq_some_iff.1 h).1).trans h
theorem at_q {M c w a} {b:Nat} {p} (q:Quiet M w c a) (h:w.heap[b]?=some p):a.heap[b]?=some p:=(q.old b (Array.getElem?_eq_some_iff.1 h).1).1.trans h
theorem bIt (w:World) o p:((w.alloc o).alloc p).heap[w.heap.size+1]?=some p:=by
 have:=heap_alloc_new (w.alloc o) p;simp_all
theorem bJu (w:World) a v:(w.setCell a v).os=w.os:=rfl
theorem bBA (w:World) a v:(w.setCell a v).output=w.output:=rfl
structure Ivs (iv:Nat->Nat×Nat) (n:Nat):Prop where
 le:∀ t,(iv t).2<=n
 dis:∀ s t,s≠t->(iv s).2<=(iv t).1∨(iv t).2<=(iv s).1
def upd (a:Nat->Nat×Nat) (t:Nat) (x:Nat×Nat):Nat->Nat×Nat:=fun s=>if s=t then x else a s
theorem aZz a t x:upd a t x t=x:=by simp [upd]
theorem aUI a t s x (h:s≠t):upd a t x s=a s:=by simp [upd,h]
theorem Ivs.none n:Ivs (fun _=>(0,0)) n:=⟨fun _=>by omega,fun _ _ _=>by omega⟩
theorem Ivs.upd {e n b} (h:Ivs e n) t (f:n<=b):Ivs (upd e t (n,b)) b:=by
 refine ⟨fun s => ?_,fun s r c => ?_⟩
 ·unfold Go.Proofs.YtphmfillajagdaaGreat.upd;split;· simp
  exact Nat.le_trans (h.le s) f
 unfold Go.Proofs.YtphmfillajagdaaGreat.upd;by_cases d:s=t
 ·by_cases a:r=t;· omega
  rw [if_pos d,if_neg a];exact .inr (h.le r)
 by_cases a:r=t;· rw [if_neg d,if_pos a];exact .inl (h.le s)
 rw [if_neg d,if_neg a];exact h.dis s r c
structure Low (n:Nat) (M:Mem) (w:World) (M':Mem) (w':World):Prop where
 mem:∀ b i v,M b i=some v->M' b i=some v
 blk:∀ b,b<n->w'.heap[b]?=w.heap[b]?
 old:∀ b,b<n->∀ i,M' b i=M b i
def bBB (d:GDoc) (c:Nat->Nat×Nat) (t:Nat) (M:Mem) (w:World) (v:Value):Prop :=
 ∃ g n a ys e f b k i h j,v = .agg #[.slice g n a,.slice e f b]/\DS 0 (c t).1 (c t).2 M w d.ops d.frags (.slice g n a) ys (.slice e f b) k i h j
def ZAt (a:Nat->Nat×Nat) (t:Nat) (M:Mem) (w:World) (v:Value):Prop :=
 ∃ Z,v = .pointer (some ⟨Z,0,none⟩)/\a t=(Z,Z+1)/\w.heap[Z]?=some (.cells #[.slice none 0 0,.slice none 0 0] 28 (0,0))/\∀ i,M Z i=none
theorem bBB.keep {d a n t M M' w w' v} (h:bBB d a t M w v) (u:Ivs a n) (c:Low n M w M' w') f x (s:t≠f):bBB d (upd a f x) t M' w' v:=by
 obtain ⟨r,k,j,ys,o,g,l,z,m,i,q,e,p⟩:=h;refine ⟨r,k,j,ys,o,g,l,z,m,i,q,e,?_⟩;rw [aUI _ _ _ _ s];have:=u.le t;exact p.move c.mem (fun b _ y=>c.blk b (by omega)) (fun b _ y=>c.old b (by omega))
theorem ZAt.keep {a n t M M' w w' v} (h:ZAt a t M w v) (k:Ivs a n) (d:Low n M w M' w') b x (f:t≠b):ZAt (upd a b x) t M' w' v:=by
 obtain ⟨Z,e,c,j,g⟩:=h;have:=k.le t;rw [c] at this;refine ⟨Z,e,by rw [aUI _ _ _ _ f];exact c,(d.blk Z this).trans j,fun i=>(d.old Z this i).trans (g i)⟩
theorem bEc M w o:Low w.heap.size M w M (w.alloc o):=⟨fun _ _ _ h=>h,fun b a=>heap_alloc_old w o a,fun _ _ _=>rfl⟩
theorem bIu {a M w} (b:Cons M w) t:ZAt (upd a t (w.heap.size,(w.alloc (.cells #[.slice none 0 0,.slice none 0 0] 28)).heap.size)) t M (w.alloc (.cells #[.slice none 0 0,.slice none 0 0] 28)) (.pointer (some ⟨w.heap.size,0,none⟩)) :=
 ⟨w.heap.size,rfl,by rw [aZz];simp,heap_alloc_new w _,fun i=>rR b (by omega) i⟩
theorem bIv {d p M M' w w' a b ys m g c j} (h:DQ 0 g c j M w M' w' d.ops d.frags a ys b m) (r:0<d.ops.length) t {k i n e l f} (q:a = .slice k n e) (o:b = .slice i l f):bBB d (upd p t (w.heap.size,w'.heap.size)) t M' w' (.agg #[a,b]):=by
 subst q o;refine ⟨k,n,e,ys,i,l,f,m,g,c,j,rfl,?_⟩;rw [aZz];exact h.ds r
theorem aXP {n M M' w w'} (h:From n M w M' w'):Low n M w M' w':=⟨h.mem,h.below.block,h.old⟩
theorem bG9 {b n c a} (h:∀ t,(a t).2=0∨b<=(a t).1) t (d:b<=n):∀ s,(upd a t (n,c) s).2=0∨b<=(upd a t (n,c) s).1:=fun s=>by
 unfold upd;grind
theorem aUJ {x:Option Oper} {d:Option Nat} {op t p} (h:x.map (fun o=>(o.dst,o.op,o.type,o.pos,o.guard))=some (d,op,t,p,none)):∃ a,x=some {dst:=d,op:=op,type:=t,pos:=p,after:=a,guard:=none}:=by
 cases x with
 | none=>grind
 | some o =>
  obtain ⟨f,g,e,i,c,b⟩:=o;grind
theorem bGt {P c Q d S b} i {n l a w} (e:Region.ready d c l=[i]) (h:wpOp P c Q i (fun f w'=>(b i=false->S w')/\wpB P d c Q S b n (l.setIfInBounds i true) f w') a w):wpB P d c Q S b (n+1) l a w :=
 aPG e (by simp) fun j g=>by grind
theorem aOR:∀ l i j v,i<l.length->at_ (l.set i v) j=if i=j then v else at_ l j
 | [],i,j,v,h=>by grind
 | x::l,0,0,v,h=>by simp [at_]
 | x::l,0,j+1,v,h=>by simp [at_]
 | x::l,i+1,0,v,h=>by simp [at_]
 | x::l,i+1,j+1,v,h=>by
  have:=aOR l i j v (by grind);simpa [at_] using this
theorem aUK:∀ l i,l.toArray.getD i undef=at_ l i
 | [],i=>by simp [at_]
 | v::l,0=>by simp [at_]
 | v::l,i+1=>by have:=aUK l i;simpa [at_] using this
theorem bGu {B E} {M M' a:Mem} {w w' d g c l m} (h:ChgF B E M w M' w' d g c l m) (off:∀ b,¬ (d.ownBlock=some b∨g.ownBlock=some b∨Own2 c b)->∀ i,a b i=M' b i):∀ k,k<w.heap.size->(k<B∨E<=k)->w'.heap[k]?=w.heap[k]?/\∀ i,a k i=M k i:=fun k f j =>
 ⟨h.blk k f j,fun i=>(off k (fun e=>by have:=h.fsh k e;omega) i).trans (h.old k f i)⟩
theorem aXQ {n M M' w w'} (a:Below w.heap.size w w') (c:∀ b i v,M b i=some v->M' b i=some v) (d:∀ b,b<w.heap.size->∀ i,M' b i=M b i) (e:n<=w.heap.size):From n M w M' w' :=
 ⟨c,fun b h i=>by grind,a.os,a.tape,a.output,a.size,fun b h=>a.block b (by omega)⟩
open Go Go.Ev Go.RowKit
def q3C:Code:=fstC (sndC (sndC (bZ Tryz.f8)))
structure DB (B E:Nat) (M:Mem) (w:World) (ops:List GOp) (frags:List GFrag) (Z gA n capA:Nat) (vf:Value) (ys zs:List Value) (u2 u3 u4:Value):Prop where
 ds:DS 0 B E M w ops frags (.slice (some ⟨gA,0,none⟩) n capA) ys vf zs u2 u3 u4
 le:E<=w.heap.size
 box:w.heap[Z]?=some (.cells #[.slice (some ⟨gA,0,none⟩) n capA,vf] 28 (0,0))
 out:E<=Z∨Z<B
 fz:∀ i,M Z i=none
 vfs:∃ a n c,vf = .slice a n c
theorem cpA d X Y M w a b l p q r (hd:fO d<=1048576) (y:0<d.ops.length) (W:Cons M w) (I:Rv M noB (.slice (List.map aR d.ops) [] false) (.slice a l p)) (N:Rv M noB (.slice (List.map aH d.frags) [] false) (.slice b q r)) (K:w.heap[Y]?=some (.cells #[.slice a l p,.slice b q r] 28 (0,0))) Q fr (D:fr.length=188) F (g2:at_ fr 2=F) (G:at_ fr 3 = .pointer (some ⟨X,0,none⟩)) (H:at_ fr 4 = .pointer (some ⟨Y,0,none⟩))
  (P:∀ M' w' B E Z x n C vf ys u s g j l',l'.length=188->DB B E M' w' d.ops d.frags Z x n C vf ys u s g j->Cons M' w'->From w.heap.size M w M' w'->w.heap.size<=B->w.heap.size<=Z->at_ l' 2=F->at_ l' 3 = .pointer (some ⟨X,0,none⟩)->at_ l' 4 = .pointer (some ⟨Y,0,none⟩)->at_ l' 7 = .pointer (some ⟨Z,0,none⟩)->Q .normal ⟨l'.toArray,[]⟩ w') :
  Code.wp Tryz.prog q3C Q ⟨fr.toArray,[]⟩ w:=by
 have k0:w.cell? ⟨Y,0,none⟩=some (.slice a l p):=by rw [cell_of_row w Y 0 _ _ _ K];rfl
 have k1:w.cell? ⟨Y,1,none⟩=some (.slice b q r):=by rw [cell_of_row w Y 1 _ _ _ K];rfl
 have J:Hid (∀ (M1:Mem) (c:World) (A:Option Addr) (n f:Nat) (ys:List Value) (t:Option Addr) (m o:Nat) u s g j l',DQ 0 s g j M w M1 c d.ops d.frags (.slice A n f) ys (.slice t m o) u->l'.length=188->at_ l' 2=F->at_ l' 3 = .pointer (some ⟨X,0,none⟩)->at_ l' 4 = .pointer (some ⟨Y,0,none⟩)->at_ l' 7 = .pointer (some ⟨c.heap.size,0,none⟩)->Q .normal ⟨l'.toArray,[]⟩ (c.alloc (.cells #[.slice A n f,.slice t m o] 28))):=by
  intro M1 c A n f ys t m o u s g j l' e V h2 U R h7;have O:=e.ds y;obtain ⟨x,T,v,ev,_⟩:=O.at_;obtain ⟨rfl,rfl,rfl⟩:A=some ⟨x,0,none⟩/\n=T/\f=v:=by grind
  have L:Below c.heap.size c (c.alloc (.cells #[.slice (some ⟨x,0,none⟩) n f,.slice t m o] 28)):=(Below.refl _ _).alloc (by omega) _;have z:=e.frm.below.size;exact P M1 _ w.heap.size c.heap.size c.heap.size x n f (.slice t m o) ys u s g j l' V ⟨O.move (fun _ _ _ h=>h) (fun k _ S=>L.block k S) (fun _ _ _ _=>rfl),L.size,heap_alloc_new c _,by omega,fun i=>rR e.cons (by omega) i,⟨_,_,_,rfl⟩⟩ (vC e.cons L) (e.frm.trans (From.of_below ((Below.refl _ _).alloc z _))) (by omega) z h2 U R h7
 clear P K;revert g2 G H;refine tZ 188 (fun fr=>at_ fr 2=F->at_ fr 3=_->at_ fr 4=_->Code.wp Tryz.prog _ _ ⟨fr.toArray,[]⟩ _) ?_ fr D;simp only [AllL];iterate 188 intro _
 intro g2 G H;simp [at_] at g2 G H;subst g2 G H;unfold q3C;simp [Tryz.f8,bZ,sndC,fstC];go_wp2_with (refine (aZx 0 d M w (.slice a l p) (.slice b q r) hd W I N).mono ?_;rintro e' c ⟨M1,A,f,ys,t,o,u,s,g,j,rfl,e⟩);refine J.out _ _ _ _ _ _ _ _ _ _ _ _ _ _ e ?_ ?_ ?_ ?_ ?_<;>rfl
def FV (l:List Value):List (Nat×Value)->Prop
 | []=>True
 | (i,v)::r=>at_ l i=v/\FV l r
abbrev ptr (Z:Nat):Value := .pointer (some ⟨Z,0,none⟩)
def q4C:Code:=fstC (sndC (sndC (sndC (bZ Tryz.f8))))
def q5C:Code:=fstC (sndC (sndC (sndC (sndC (bZ Tryz.f8)))))
def nmV:List GVarDef->Str->Str
 | [],s=>s
 | x::l,s=>nmV l (s++x.name)
theorem aZA:∀ l x s,nmV (l++[x]) s=nmV l s++x.name
 | [],_,_=>rfl
 | _::l,x,s=>aZA l x _
theorem aRo:∀ l s,(nmV l s).length=s.length+(l.map fun x=>x.name.length).sum
 | [],s=>by simp [nmV]
 | x::l,s=>by rw [nmV,aRo];grind
theorem bGv (l:List GVarDef) k x s (h:l[k]?=some x):nmV (l.take (k+1)) s=nmV (l.take k) s++x.name:=by
 obtain ⟨a,rfl⟩:=List.getElem?_eq_some_iff.1 h;rw [<- List.take_concat_get a,List.concat_eq_append,aZA]
theorem bJ0 {T} M w (a b:Option Addr) blk off l p q r x v2 v3 v4 Y (hc:Cons M w) (hY:w.heap[Y]?=some (.cells #[.slice (some ⟨blk,off,none⟩) l p,.slice b q r] 28 (0,0))) (hl:0<l) (ho:∀ j v,(tF x v2 v3 v4)[j]?=some v->M blk (off+j)=some v) (hr:Rv M noB (.slice (List.map aB x.vars) [] false) v2) (hb:(nmV x.vars [118]).length<1073741824) (hs:x.vars.length<1073741824) Q fr (hlen:fr.length=188) e2 e3 e7 (g:FV fr [(2,e2),(3,e3),(4,ptr Y),(7,e7)])
  (hC:∀ l',l'.length=188->FV l' [(2,e2),(3,e3),(4,ptr Y),(7,e7),(8,.string ⟨(nmV x.vars [118]).toArray⟩)]->Code.wp Tryz.prog T Q ⟨l'.toArray,[]⟩ w) :
  Code.wp Tryz.prog (.seq q4C (.seq q5C T)) Q ⟨fr.toArray,[]⟩ w:=by
 obtain ⟨oa,n,cap,rfl⟩:=lW hr;obtain ⟨rfl,hnews⟩:=aKi hr;have k0:w.cell? ⟨Y,0,none⟩=some (.slice (some ⟨blk,off,none⟩) l p):=by rw [cell_of_row w Y 0 _ _ _ hY];rfl
 have k2:w.cell? ⟨blk,off+2,none⟩=some (.slice oa x.vars.length cap):=dS hc (ho 2 _ rfl);have hname:∀ k,∃ (bv ov:Nat) (nm:Str),k<x.vars.length->oa=some ⟨bv,ov,none⟩/\w.cell? ⟨bv,ov+k*10,none⟩=some (.string ⟨nm.toArray⟩)/\∃ y,x.vars[k]?=some y/\y.name=nm:=by
  intro k;by_cases hk:k<x.vars.length;· obtain ⟨bv,ov,news,rfl,_,hcell,_,hrr⟩:=hnews (by intro e;rw [e] at hk;simp at hk);have hx:=List.getElem?_eq_getElem hk;obtain ⟨u,h1,h2⟩:=hrr k (aB x.vars[k]) 0 (.str x.vars[k].name) (by rw [List.getElem?_map,hx];rfl) (by rw [dV];rfl);cases h2;exact ⟨bv,ov,_,fun _=>⟨rfl,dS hc (by simpa using hcell _ _ h1),_,hx,rfl⟩⟩
  ·exact ⟨0,0,[],fun h=>absurd h hk⟩
 have hbk:∀ k,(nmV (x.vars.take k) [118]).length<1073741824:=fun k=>by
  rw [aRo] at hb ⊢;have:((x.vars.take k).map fun x=>x.name.length).sum<=(x.vars.map fun x=>x.name.length).sum:=by
   conv=>rhs;rw [<- List.take_append_drop k x.vars,List.map_append,List.sum_append]
   omega
  omega
 replace hC:=(id hC:Hid _);clear hnews ho hr hY;revert g;refine tZ 188 (fun fr=>FV fr _->Code.wp Tryz.prog _ _ ⟨fr.toArray,[]⟩ _) ?_ fr hlen;simp only [AllL];iterate 188 intro _
 rintro ⟨g2,g3,g4,g7,_⟩;simp [at_] at g2 g3 g4 g7;subst g2 g3 g4 g7;unfold q4C q5C;simp [Tryz.f8,bZ,sndC,fstC];go_wp2;generalize hN:x.vars.length=N at *;go_loop [8,9] (fun t8 t9=>∃ k,k<=N/\t9 = .int .i64 k/\t8 = .string ⟨(nmV (x.vars.take k) [118]).toArray⟩) (fun _ t9=>N-(intOf t9).toNat);case atStart=>exact ⟨0,Nat.zero_le _,rfl,rfl⟩
 case round =>
  obtain ⟨k,hk,rfl,rfl⟩:=hrel;obtain ⟨bv,ov,nm,hkk⟩:=hname k;by_cases hlt:k<N
  ·obtain ⟨rfl,kk,y,hy,rfl⟩:=hkk hlt;have e2:=bGv x.vars k y [118] hy;have hb2:=hbk (k+1);rw [e2,List.length_append] at hb2;have hb3:¬ (9223372036854775807<List.length (nmV (List.take k x.vars) [118])+List.length y.name):=by omega
   go_wp2;refine ⟨⟨k+1,hlt,by go_num,?_⟩,by simp [intOf];omega⟩;rw [e2];refine congrArg Value.string (ByteArray.ext ?_);simp
  clear hkk;have hkN:k=N:=by omega
  go_wp2;have ht:x.vars.take N=x.vars:=by rw [<- hN,List.take_length]
  rw [ht];refine hC.out _ ?_ ?_;· rfl
  exact ⟨rfl,rfl,rfl,rfl,rfl,trivial⟩
open Go Go.Ev Go.Ev.PV Go.RowKit
theorem bHa {M B es o a n p} (h:Rv M B (.slice es [] o) (.slice a n p)):n=es.length:=by cases h<;>rfl
abbrev pvS (s:GSchema):PV := .agg [(.slice (List.map aL s.defs) [] false),(.str s.query),(.str s.mutation)]
abbrev pvD (d:GDoc):PV := .agg [(.slice (List.map aR d.ops) [] false),(.slice (List.map aH d.frags) [] false)]
theorem aXR s d v (h:tM s d=some v) {M w} S D (f:Cons M w) (k:Rv M noB (pvS s) S) (g:Rv M noB (pvD d) D) :
  Calls Tryz.prog 25 #[S,D] w fun e w'=>∃ M',e = .returned (.bool v)/\Cons M' w'/\Quiet M w M' w':=by
 have j:=h;have c  := bA (enc:=fun r=>(aA r,[])) j;have key:=mA pokX xok c (M:=M) (w:=w) (vals := #[S,D]) rfl f ⟨rfl,fun i p a=>by
  match i,a with
  | 0,a=>cases a;exact ⟨k,aS rfl⟩
  | 1,a=>cases a;exact ⟨g,aS rfl⟩
  | i+2,a=>grind⟩
 refine key.mono ?_;rintro e w' ⟨u,M',rfl,hv,b,l⟩;cases hv;grind
theorem aXS s v (h:aYE s=some v) {M w} S (f:Cons M w) (g:Rv M noB (pvS s) S) :
  Calls Tryz.prog 10 #[S] w fun e w'=>∃ M',e = .returned (.int .i64 v)/\Cons M' w'/\Quiet M w M' w':=by
 have c:=h;have d  := bA (enc:=fun r=>(aZ r,[])) c;have key:=mA pokX xok d (M:=M) (w:=w) (vals := #[S]) rfl f ⟨rfl,fun i p a=>by
  match i,a with
  | 0,a=>cases a;exact ⟨g,aS rfl⟩
  | i+1,a=>grind⟩
 refine key.mono ?_;rintro e w' ⟨u,M',rfl,hv,b,j⟩;cases hv;grind
theorem bBC s d v (h:aVH s d 22=some v) {M w} S D (f:Cons M w) (k:Rv M noB (pvS s) S) (g:Rv M noB (pvD d) D) :
  Calls Tryz.prog 11 #[S,D,.int .i64 22] w fun e w'=>∃ M',e = .returned (.bool v)/\Cons M' w'/\Quiet M w M' w':=by
 have j:=h;have c  := bA (enc:=fun r=>(aA r,[])) j;have key:=mA pokX xok c (M:=M) (w:=w) (vals := #[S,D,.int .i64 22]) rfl f ⟨rfl,fun i p a=>by
  match i,a with
  | 0,a=>cases a;exact ⟨k,aS rfl⟩
  | 1,a=>cases a;exact ⟨g,aS rfl⟩
  | 2,a=>cases a;exact ⟨.int _ _,aS rfl⟩
  | i+3,a=>grind⟩
 refine key.mono ?_;rintro e w' ⟨u,M',rfl,hv,b,l⟩;cases hv;grind
theorem vD s d n v (h:mV s d n=some v) {M w} S D (f:Cons M w) (k:Rv M noB (pvS s) S) (g:Rv M noB (pvD d) D) :
  Calls Tryz.prog 27 #[S,D,.int .i64 n] w fun e w'=>∃ M',e = .returned (.bool v)/\Cons M' w'/\Quiet M w M' w':=by
 have j:=h;have c  := bA (enc:=fun r=>(aA r,[])) j;have key:=mA pokX xok c (M:=M) (w:=w) (vals := #[S,D,.int .i64 n]) rfl f ⟨rfl,fun i p a=>by
  match i,a with
  | 0,a=>cases a;exact ⟨k,aS rfl⟩
  | 1,a=>cases a;exact ⟨g,aS rfl⟩
  | 2,a=>cases a;exact ⟨.int _ _,aS rfl⟩
  | i+3,a=>grind⟩
 refine key.mono ?_;rintro e w' ⟨u,M',rfl,hv,b,l⟩;cases hv;grind
theorem bBD d l v (h:pR d l=some v) {M w} D L (j:Cons M w) (k:Rv M noB (pvD d) D) (m:Rv M noB (.slice (List.map aF l) [] false) L) :
  Calls Tryz.prog 28 #[D,L] w fun e w'=>∃ a n p M',e = .returned (.slice a n p)/\n=v.length/\Rv M' noB (.slice (List.map PV.str v) [] false) (.slice a n p)/\Cons M' w'/\Quiet M w M' w':=by
 have o:=h;have g  := bA (enc:=fun r=>(bU r,[])) o;have key:=mA pokX xok g (M:=M) (w:=w) (vals := #[D,L]) rfl j ⟨rfl,fun i p b=>by
  match i,b with
  | 0,b=>cases b;exact ⟨k,aS rfl⟩
  | 1,b=>cases b;exact ⟨m,aS rfl⟩
  | i+2,b=>grind⟩
 refine key.mono ?_;rintro e w' ⟨u,M',rfl,hv,c,f⟩;obtain ⟨a,n,p,rfl⟩:=lW hv;exact ⟨a,n,p,M',rfl,by have:=bHa hv;grind,hv,c,f⟩
theorem bEd l x v (h:xJ l x=some v) {M w} L (g:Cons M w) (b:Rv M noB (.slice (List.map PV.str l) [] false) L) :
  Calls Tryz.prog 29 #[L,.string ⟨x.toArray⟩] w fun e w'=>∃ M',e = .returned (.bool v)/\Cons M' w'/\Quiet M w M' w':=by
 have d:=h;have f  := bA (enc:=fun r=>(aA r,[])) d;have key:=mA pokX xok f (M:=M) (w:=w) (vals := #[L,.string ⟨x.toArray⟩]) rfl g ⟨rfl,fun i p a=>by
  match i,a with
  | 0,a=>cases a;exact ⟨b,aS rfl⟩
  | 1,a=>cases a;exact ⟨.str _,aS rfl⟩
  | i+2,a=>grind⟩
 refine key.mono ?_;rintro e w' ⟨u,M',rfl,hv,c,j⟩;cases hv;grind
theorem rS {M w} (d:Cons M w):Calls Tryz.prog 26 #[] w fun e w'=>∃ M',e = .returned (.bool true)/\Cons M' w'/\Quiet M w M' w':=by
 have b  := aFT;have c  := bA (enc:=fun r=>(aA r,[])) b;have key:=mA pokX xok c (M:=M) (w:=w) (vals := #[]) rfl d ⟨rfl,fun i p g=>by grind⟩;refine key.mono ?_;rintro e w' ⟨v,M',rfl,hv,a,f⟩;cases hv;grind
def aXT:Code:=fstC (sndC (bZ Tryz.f8))
theorem bJv {M w} X Y xs ls ps (sq sm:Str) a b l p q r b9 c10 k11 (hc:Cons M w) (hX:w.heap[X]?=some (.cells #[.slice xs ls ps,.string ⟨sq.toArray⟩,.string ⟨sm.toArray⟩] 24 (0,0))) (hY:w.heap[Y]?=some (.cells #[.slice a l p,.slice b q r] 28 (0,0)))
  (h9:Hid (∀ M' w',Cons M' w'->(∀ b i v,M b i=some v->M' b i=some v)->Calls Tryz.prog 25 #[.agg #[.slice xs ls ps,.string ⟨sq.toArray⟩,.string ⟨sm.toArray⟩],.agg #[.slice a l p,.slice b q r]] w' fun e E=>∃ F,e = .returned (.bool b9)/\Cons F E/\Quiet M' w' F E))
  (h10:Hid (∀ M' w',Cons M' w'->(∀ b i v,M b i=some v->M' b i=some v)->Calls Tryz.prog 10 #[.agg #[.slice xs ls ps,.string ⟨sq.toArray⟩,.string ⟨sm.toArray⟩]] w' fun e E=>∃ F,e = .returned (.int .i64 c10)/\Cons F E/\Quiet M' w' F E))
  (h11:Hid (∀ M' w',Cons M' w'->(∀ b i v,M b i=some v->M' b i=some v)->Calls Tryz.prog 11 #[.agg #[.slice xs ls ps,.string ⟨sq.toArray⟩,.string ⟨sm.toArray⟩],.agg #[.slice a l p,.slice b q r],.int .i64 22] w' fun e E=>∃ F,e = .returned (.bool k11)/\Cons F E/\Quiet M' w' F E))
  Q fr (hlen:fr.length=188) e2 (g2:at_ fr 2=e2) (g3:at_ fr 3 = .pointer (some ⟨X,0,none⟩)) (g4:at_ fr 4 = .pointer (some ⟨Y,0,none⟩))
  (hR:∀ w' M' l',l'.length=188->Cons M' w'->Below w.heap.size w w'->(∀ b i v,M b i=some v->M' b i=some v)->(∀ b,b<w.heap.size->∀ i,M' b i=M b i)->at_ l' 6 = .bool true->Q .ret ⟨l'.toArray,[]⟩ w')
  (hN:b9=true->l≠0->c10=0->k11=true->∀ w' M' l',l'.length=188->Cons M' w'->Below w.heap.size w w'->(∀ b i v,M b i=some v->M' b i=some v)->(∀ b,b<w.heap.size->∀ i,M' b i=M b i)->at_ l' 2=e2->at_ l' 3 = .pointer (some ⟨X,0,none⟩)->at_ l' 4 = .pointer (some ⟨Y,0,none⟩)->Q .normal ⟨l'.toArray,[]⟩ w') :
  Code.wp Tryz.prog aXT Q ⟨fr.toArray,[]⟩ w:=by
 have j:Hid (∀ w':World,Below w.heap.size w w'->w'.cell? ⟨X,0,none⟩=some (.slice xs ls ps)/\w'.cell? ⟨X,1,none⟩=some (.string ⟨sq.toArray⟩)/\w'.cell? ⟨X,2,none⟩=some (.string ⟨sm.toArray⟩)/\w'.cell? ⟨Y,0,none⟩=some (.slice a l p)/\w'.cell? ⟨Y,1,none⟩=some (.slice b q r)):=by
  intro w' hb;have hl:∀ b o,w.heap[b]?=some o->w'.heap[b]?=some o:=fun b o h=>(hb.block b (Array.getElem?_eq_some_iff.1 h).1).trans h;exact ⟨by rw [cell_of_row w' X 0 _ _ _ (hl _ _ hX)];rfl,by rw [cell_of_row w' X 1 _ _ _ (hl _ _ hX)];rfl,by rw [cell_of_row w' X 2 _ _ _ (hl _ _ hX)];rfl,by rw [cell_of_row w' Y 0 _ _ _ (hl _ _ hY)];rfl,by rw [cell_of_row w' Y 1 _ _ _ (hl _ _ hY)];rfl⟩
 have k:Hid (∀ (x y:World) (M1 u:Mem),Below w.heap.size w x->Quiet M1 x u y->Below w.heap.size w y):=fun x y M1 u hb q=>hb.trans ⟨q.os,q.tape,q.output,q.size,fun b hbl=>(q.old b (by have:=hb.size;omega)).1⟩;have n:Hid (∀ (x y:World) (M1 u:Mem),Below w.heap.size w x->Quiet M1 x u y->(∀ b,b<w.heap.size->∀ i,M1 b i=M b i)->(∀ b,b<w.heap.size->∀ i,u b i=M b i)):=fun x y M1 u hb q h b hbl i=>((q.old b (by have:=hb.size;omega)).2 i).trans (h b hbl i);obtain ⟨k0,k1,k2,k3,k4⟩:=j.out w (Below.refl _ _);replace hR:=(id hR:Hid _);replace hN:=(id hN:Hid _);clear hX hY;revert g2 g3 g4;refine tZ 188 (fun fr=>at_ fr 2=e2->at_ fr 3=_->at_ fr 4=_->Code.wp Tryz.prog _ _ ⟨fr.toArray,[]⟩ _) ?_ fr hlen;simp only [AllL];iterate 188 intro _
 intro g2 g3 g4;simp only [at_] at g2 g3 g4;subst g2 g3 g4;unfold aXT;simp [Tryz.f8,bZ,sndC,fstC];cases b9 with
 | false =>
  go_wp2_with (first | (go_at_call 25;refine (h9.out M w hc (fun _ _ _ h=>h)).mono ?_;rintro S x ⟨M1,rfl,z,c⟩;have f:Hid _:=k.out _ _ _ _ (Below.refl _ _) c;have B:Hid _:=n.out _ _ _ _ (Below.refl _ _) c (fun _ _ _=>rfl);have s:Hid (∀ b i v,M b i=some v->M1 b i=some v):=fun b i v hv=>c.mem b i v ((fun _ _ _ h=>h) b i v hv);obtain ⟨P,K,G,N,H⟩:=j.out x f.out;clear c) | (go_at_call 26;refine (rS z).mono ?_;rintro S y ⟨u,rfl,D,d⟩;have g:Hid _:=k.out _ _ _ _ f.out d;have C:Hid _:=n.out _ _ _ _ f.out d B.out;have t:Hid (∀ b i v,M b i=some v->u b i=some v):=fun b i v hv=>d.mem b i v (s.out b i v hv);obtain ⟨O,R,L,J,I⟩:=j.out y g.out;clear d));exact hR.out y u _ rfl D g.out t.out C.out rfl
 | true =>
  by_cases hl:l=0;· subst hl;go_wp2_with (first | (go_at_call 25;refine (h9.out M w hc (fun _ _ _ h=>h)).mono ?_;rintro S x ⟨M1,rfl,z,c⟩;have f:Hid _:=k.out _ _ _ _ (Below.refl _ _) c;have B:Hid _:=n.out _ _ _ _ (Below.refl _ _) c (fun _ _ _=>rfl);have s:Hid (∀ b i v,M b i=some v->M1 b i=some v):=fun b i v hv=>c.mem b i v ((fun _ _ _ h=>h) b i v hv);obtain ⟨P,K,G,N,H⟩:=j.out x f.out;clear c) | (go_at_call 26;refine (rS z).mono ?_;rintro S y ⟨u,rfl,D,d⟩;have g:Hid _:=k.out _ _ _ _ f.out d;have C:Hid _:=n.out _ _ _ _ f.out d B.out;have t:Hid (∀ b i v,M b i=some v->u b i=some v):=fun b i v hv=>d.mem b i v (s.out b i v hv);obtain ⟨O,R,L,J,I⟩:=j.out y g.out;clear d));exact hR.out y u _ rfl D g.out t.out C.out rfl
  have hli:¬ (l=0):=by omega
  have hlp:0<l:=by omega
  by_cases hc0:c10=0;case neg =>
   go_wp2_with (first | (go_at_call 25;refine (h9.out M w hc (fun _ _ _ h=>h)).mono ?_;rintro S x ⟨M1,rfl,z,c⟩;have f:Hid _:=k.out _ _ _ _ (Below.refl _ _) c;have B:Hid _:=n.out _ _ _ _ (Below.refl _ _) c (fun _ _ _=>rfl);have s:Hid (∀ b i v,M b i=some v->M1 b i=some v):=fun b i v hv=>c.mem b i v ((fun _ _ _ h=>h) b i v hv);obtain ⟨P,K,G,N,H⟩:=j.out x f.out;clear c) | (go_at_call 10;refine (h10.out M1 x z s.out).mono ?_;rintro S y ⟨u,rfl,D,d⟩;have g:Hid _:=k.out _ _ _ _ f.out d;have C:Hid _:=n.out _ _ _ _ f.out d B.out;have t:Hid (∀ b i v,M b i=some v->u b i=some v):=fun b i v hv=>d.mem b i v (s.out b i v hv);obtain ⟨O,R,L,J,I⟩:=j.out y g.out;clear d) | (go_at_call 26;refine (rS D).mono ?_;rintro S w3 ⟨M3,rfl,V,m⟩;have A:Hid _:=k.out _ _ _ _ g.out m;have U:Hid _:=n.out _ _ _ _ g.out m C.out;have T:Hid (∀ b i v,M b i=some v->M3 b i=some v):=fun b i v hv=>m.mem b i v (t.out b i v hv);obtain ⟨k3_0,k3_1,k3_2,k3_3,Z⟩:=j.out w3 A.out;clear m));exact hR.out w3 M3 _ rfl V A.out T.out U.out rfl
  subst hc0;cases k11 with
  | false =>
   go_wp2_with (first | (go_at_call 25;refine (h9.out M w hc (fun _ _ _ h=>h)).mono ?_;rintro S x ⟨M1,rfl,z,c⟩;have f:Hid _:=k.out _ _ _ _ (Below.refl _ _) c;have B:Hid _:=n.out _ _ _ _ (Below.refl _ _) c (fun _ _ _=>rfl);have s:Hid (∀ b i v,M b i=some v->M1 b i=some v):=fun b i v hv=>c.mem b i v ((fun _ _ _ h=>h) b i v hv);obtain ⟨P,K,G,N,H⟩:=j.out x f.out;clear c) | (go_at_call 10;refine (h10.out M1 x z s.out).mono ?_;rintro S y ⟨u,rfl,D,d⟩;have g:Hid _:=k.out _ _ _ _ f.out d;have C:Hid _:=n.out _ _ _ _ f.out d B.out;have t:Hid (∀ b i v,M b i=some v->u b i=some v):=fun b i v hv=>d.mem b i v (s.out b i v hv);obtain ⟨O,R,L,J,I⟩:=j.out y g.out;clear d) | (go_at_call 11;refine (h11.out u y D t.out).mono ?_;rintro S w3 ⟨M3,rfl,V,m⟩;have A:Hid _:=k.out _ _ _ _ g.out m;have U:Hid _:=n.out _ _ _ _ g.out m C.out;have T:Hid (∀ b i v,M b i=some v->M3 b i=some v):=fun b i v hv=>m.mem b i v (t.out b i v hv);obtain ⟨k3_0,k3_1,k3_2,k3_3,Z⟩:=j.out w3 A.out;clear m) | (go_at_call 26;refine (rS V).mono ?_;rintro S w4 ⟨M4,rfl,hc4,W⟩;have hb4:Hid _:=k.out _ _ _ _ A.out W;have ho4:Hid _:=n.out _ _ _ _ A.out W U.out;have hm4:Hid (∀ b i v,M b i=some v->M4 b i=some v):=fun b i v hv=>W.mem b i v (T.out b i v hv);obtain ⟨k4_0,k4_1,k4_2,k4_3,k4_4⟩:=j.out w4 hb4.out;clear W));exact hR.out w4 M4 _ rfl hc4 hb4.out hm4.out ho4.out rfl
  | true =>
   go_wp2_with (first | (go_at_call 25;refine (h9.out M w hc (fun _ _ _ h=>h)).mono ?_;rintro S x ⟨M1,rfl,z,c⟩;have f:Hid _:=k.out _ _ _ _ (Below.refl _ _) c;have B:Hid _:=n.out _ _ _ _ (Below.refl _ _) c (fun _ _ _=>rfl);have s:Hid (∀ b i v,M b i=some v->M1 b i=some v):=fun b i v hv=>c.mem b i v ((fun _ _ _ h=>h) b i v hv);obtain ⟨P,K,G,N,H⟩:=j.out x f.out;clear c) | (go_at_call 10;refine (h10.out M1 x z s.out).mono ?_;rintro S y ⟨u,rfl,D,d⟩;have g:Hid _:=k.out _ _ _ _ f.out d;have C:Hid _:=n.out _ _ _ _ f.out d B.out;have t:Hid (∀ b i v,M b i=some v->u b i=some v):=fun b i v hv=>d.mem b i v (s.out b i v hv);obtain ⟨O,R,L,J,I⟩:=j.out y g.out;clear d) | (go_at_call 11;refine (h11.out u y D t.out).mono ?_;rintro S w3 ⟨M3,rfl,V,m⟩;have A:Hid _:=k.out _ _ _ _ g.out m;have U:Hid _:=n.out _ _ _ _ g.out m C.out;have T:Hid (∀ b i v,M b i=some v->M3 b i=some v):=fun b i v hv=>m.mem b i v (t.out b i v hv);obtain ⟨k3_0,k3_1,k3_2,k3_3,Z⟩:=j.out w3 A.out;clear m));exact hN.out (by first | rfl | trivial) (by first | exact hl | (simp) | trivial) (by first | rfl | trivial) (by first | rfl | trivial) w3 M3 _ rfl V A.out T.out U.out rfl rfl rfl
theorem aZB {B E M M2 w wf ops frags gA n capA d ys j u2 u3 u4 t2} (h:DS 0 B E M w ops frags (.slice (some ⟨gA,0,none⟩) n capA) ys d j u2 u3 u4) (t:E<=w.heap.size) {x} (o:ops[0]?=some x) vars
  (hM2:∀ b i v,M b i=some v->M2 b i=some v) (hMo:∀ b,b<w.heap.size->∀ i,M2 b i=M b i) (r:Cons M2 wf)
  (hgrow:∀ b,b<w.heap.size->b≠gA->u2.ownBlock≠some b->wf.heap[b]?=w.heap[b]?) (m:wf.ownsRow B 38 5 (.slice (some ⟨gA,0,none⟩) n capA) ops.length (ys.set 2 t2)) (p:OwnL B M2 wf 54 10 (List.map aB vars) t2) (f:∀ k,t2.ownBlock=some k->u2.ownBlock=some k∨w.heap.size<=k)
  (hos:wf.os=w.os) (c:wf.tape=w.tape) (hou:wf.output=w.output) (hsz:w.heap.size<=wf.heap.size) :
  DS 0 B wf.heap.size M2 wf (ops.set 0 ⟨x.kind,x.name,vars,x.dirs,x.sels⟩) frags (.slice (some ⟨gA,0,none⟩) n capA) (ys.set 2 t2) d j t2 u3 u4/\ChgF B E M w M2 wf (.slice (some ⟨gA,0,none⟩) n capA) d t2 u3 u4:=by
 have y:=h.hi gA (.inl rfl);have s:∀ k,u2.ownBlock=some k->B<=k/\k<E:=fun k a=>h.hi k (.inr (.inr a));refine ⟨h.put2 t o vars hM2 hMo (fun b g l q=>hgrow b g (fun e=>l (by rw [e];rfl)) q) m p f hsz,⟨hM2,fun b g u=>by grind,hMo,hos,c,hou,hsz⟩,fun k a => ?_⟩;rcases a with e | e | e;· exact .inl (h.hi k (.inl e))
 ·exact .inl (h.hi k (by grind))
 exact (f k e).imp (s k) id
structure Put (B E:Nat) (M:Mem) (w:World) (M':Mem) (w':World):Prop where
 mem:∀ b i v,M b i=some v->M' b i=some v
 nx:∀ k,k<w.heap.size->(k<B∨E<=k)->w'.heap[k]?=w.heap[k]?/\∀ i,M' k i=M k i
 os:w'.os=w.os
 tape:w'.tape=w.tape
 output:w'.output=w.output
 size:w.heap.size<=w'.heap.size
 cons:Cons M' w'
theorem aZC {B E B' M M1 w wf a frags d e ys o g f j} (h:DS 0 B B' M1 wf a frags d ys e o g f j) (n:Cons M1 wf) (k:ChgF B E M w M1 wf d e g f j) :
  ∃ M',Put B E M w M' wf/\Rv M' noB (pvD ⟨a,frags⟩) (.agg #[d,e]):=by
 obtain ⟨M',m,c,l,off⟩:=h.shut n;exact ⟨M',⟨fun b i v hv=>m b i v (k.mem b i v hv),bGu k off,k.os,k.tape,k.output,k.size,c⟩,l⟩
def varY (a:Str):GVarDef:=⟨a,⟨[73,110,116],0,0⟩,false,⟨0,0,[],[],[]⟩⟩
abbrev bBE (b:List GOp) (x:GOp) (a:List GVarDef):List GOp:=b.set 0 ⟨x.kind,x.name,a,x.dirs,x.sels⟩
theorem aZD {B E M w w3 w4 ops frags gA n capA v ys U ys2 a2 p2 C L x} (h:DS 0 B E M w ops frags (.slice (some ⟨gA,0,none⟩) n capA) ys v U (.slice a2 x.vars.length p2) C L) (S:E<=w.heap.size) (m:ops[0]?=some x) (q:Cons M w) (hb3:Below w.heap.size w w3)
  (hcl:∀ i p j c,(List.map aB x.vars)[i]?=some p->p.cells[j]?=some c->∃ u,ys2[i*10+j]?=some u/\Rv M noB c u) (hyl:ys2.length=x.vars.length*10)
  y cy (hcy:∀ (j:Nat) c,(aB y).cells[j]?=some c->∃ u,cy[j]?=some u/\Rv M noB c u)
  {g cap'} (l:w4.ownsRow B 54 10 (.slice (some ⟨g,0,none⟩) (x.vars.length+1) cap') (x.vars.length+1) (ys2++cy)) (hgrow:w3.grownBy w4 (Value.slice a2 x.vars.length p2).ownBlock) (hat:(Value.slice a2 x.vars.length p2).ownBlock=some g∨g=w3.heap.size) :
  ∃ M',Put B E M w M' (w4.setCell ⟨gA,2,none⟩ (.slice (some ⟨g,0,none⟩) (x.vars.length+1) cap'))/\Rv M' noB (pvD ⟨bBE ops x (x.vars++[y]),frags⟩) (.agg #[.slice (some ⟨gA,0,none⟩) n capA,v]):=by
 obtain ⟨r,hm2⟩:=h.mrk x m;have Q:=h.hi gA (.inl rfl);have H:=hb3.size;have W:∀ k,(Value.slice a2 x.vars.length p2).ownBlock=some k->B<=k/\k<E:=fun k d=>h.hi k (.inr (.inr d));have I:(Value.slice a2 x.vars.length p2).ownBlock≠some gA:=fun e=>(hm2 gA e).1 rfl;have hgg:g≠gA:=by
  rcases hat with e | e;· intro o;exact by grind
  omega
 have hgw:∀ b,b<w.heap.size->b≠gA->(Value.slice a2 x.vars.length p2).ownBlock≠some b->(w4.setCell ⟨gA,2,none⟩ (.slice (some ⟨g,0,none⟩) (x.vars.length+1) cap')).heap[b]?=w.heap[b]?:=fun b hb D o =>
  (Below.heap_setCell _ _ _ _ D).trans ((hgrow.block b (by omega) (fun e=>o e.symm)).trans (hb3.block b hb))
 have hfree:∀ i,M g i=none:=fun i=>by
  rcases hat with e | e;· exact r.o2.free g e i
  exact rR q (by omega) i
 have hcf  := kL q fun b hb ⟨i,t⟩=>hgw b hb (fun e=>t (by rw [e];exact h.foA gA rfl i)) (fun e=>t (r.o2.free b e i));obtain ⟨F,V,cap'',eva,P,R,_⟩:=h.at_;obtain rfl:ops.length=n:=by injection eva with D o e3;omega
 have hoA:=h.ownA;have f  := jG hoA fun b hb=>by
  have hbl:b<w.heap.size:=by have:=(h.hi b (.inl hb)).2;omega
  exact (hgrow.block b (by omega) (fun e=>(hm2 b e.symm).1 hb)).trans (hb3.block b hbl)
 have z:=h.isx;have N:=hoA.1;have O:=aMH f 2 (.slice (some ⟨g,0,none⟩) (x.vars.length+1) cap') (by omega);have hl2:(List.map aB x.vars).length=x.vars.length:=by simp
 have G:OwnL B M (w4.setCell ⟨gA,2,none⟩ (.slice (some ⟨g,0,none⟩) (x.vars.length+1) cap')) 54 10 (List.map aB (x.vars++[y])) (.slice (some ⟨g,0,none⟩) (x.vars.length+1) cap'):=by
  have s:=OwnL.add (M:=M) (M':=M) (w':=w4.setCell ⟨gA,2,none⟩ (.slice (some ⟨g,0,none⟩) (x.vars.length+1) cap')) (es:=List.map aB x.vars) (p:=aB y) (ys:=ys2) (us:=cy) (B:=B) (e:=54) (size:=10) (g:=g) (cap:=cap') (by rw [hl2];exact hyl) hcl (fun p T=>by obtain ⟨y,_,rfl⟩:=List.mem_map.1 T;exact aOO y) (aOO _) hcy (fun _ _ _ h=>h) (by rw [hl2];exact ownsRow_setCell_other l (a:=⟨gA,2,none⟩) (by simpa [Value.ownBlock] using hgg) _) hfree;rw [hl2] at s;rw [List.map_append];exact s
 have hsz:w.heap.size<=(w4.setCell ⟨gA,2,none⟩ (.slice (some ⟨g,0,none⟩) (x.vars.length+1) cap')).heap.size:=by have:=hgrow.size;simp;omega
 obtain ⟨J,K⟩:=aZB h S m (x.vars++[y]) (fun _ _ _ h=>h) (fun _ _ _=>rfl) hcf hgw O G (fun k d=>by
  have  := by simpa [Value.ownBlock] using d.symm
  exact by grind) (hgrow.os.trans hb3.os) (hgrow.tape.trans hb3.tape) (hgrow.output.trans hb3.output) hsz
 exact aZC J hcf K
def q9C:Code:=fstC (sndC (sndC (sndC (sndC (sndC (bZ Tryz.f8))))))
theorem DB.form {B E M w l frags Z d n a vf ys zs D u3 u4} (h:DB B E M w l frags Z d n a vf ys zs D u3 u4) {x} (hx:l[0]?=some x) :
  ∃ (m:Option Addr) (g:Nat) (b:List Value),D = .slice m x.vars.length g/\0<n/\b.length=x.vars.length*10/\(∀ i p j c,(List.map aB x.vars)[i]?=some p->p.cells[j]?=some c->∃ u,b[i*10+j]?=some u/\Rv M noB c u) /\
   (Value.slice m x.vars.length g).ownBlock≠some d/\(Value.slice m x.vars.length g).ownBlock≠some Z/\B<=w.heap.size /\
   ∀ w',Below w.heap.size w w'->w'.cell? ⟨Z,0,none⟩=some (.slice (some ⟨d,0,none⟩) n a)/\w'.cell? ⟨d,2,none⟩=some (.slice m x.vars.length g)/\w'.frozen? ⟨d,2,none⟩=false/\Z<w'.heap.size/\d<w'.heap.size/\w'.ownsRow B 54 10 (.slice m x.vars.length g) x.vars.length b:=by
 obtain ⟨hm,v⟩:=h.ds.mrk x hx;obtain ⟨b,f,o⟩:=hm.o2.own;rw [List.length_map] at f;obtain ⟨m,g,rfl⟩:=aBs f;obtain ⟨gA',n',C,z,hnl,A,_⟩:=h.ds.at_;have hn:n=l.length:=by injection z with e1 e2 e3;omega
 have hgA:=h.ds.hi d (.inl rfl);have s:=h.ds.ownA;have hE:=h.le;have ho:=h.out;have y  := (Array.getElem?_eq_some_iff.1 h.box).1;have h2  := fun k r=>h.ds.hi k (.inr (.inr r));refine ⟨m,g,b,rfl,by have:=h.ds.isx;omega,f.1,o,fun e=>(v d e).1 rfl,fun e=>by have:=h2 Z e;omega,by omega,fun w' t => ?_⟩;rw [<- hn] at s;have q:=jG s fun k r=>t.block k (by have:=(h.ds.hi k (.inl r)).2;omega);obtain ⟨c4,f4⟩:=bGr q (j:=2) A;have cz:w'.cell? ⟨Z,0,none⟩=some (.slice (some ⟨d,0,none⟩) n a):=by rw [cell_of_row w' Z 0 _ _ _ ((t.block Z y).trans h.box)];rfl
 exact ⟨cz,c4,f4,by have:=t.size;omega,by have:=t.size;omega,jG f fun k r=>t.block k (by have:=(h2 k r).2;omega)⟩
theorem DB.aft {B E M w i frags Z b n c A ys D v o r} (h:DB B E M w i frags Z b n c A ys D v o r) {x:GOp} {f d k} (s:(Value.slice f x.vars.length d).ownBlock≠some b) (y:(Value.slice f x.vars.length d).ownBlock≠some Z)
  (j:∀ w',Below w.heap.size w w'->w'.cell? ⟨Z,0,none⟩=some (.slice (some ⟨b,0,none⟩) n c)/\w'.cell? ⟨b,2,none⟩=some (.slice f x.vars.length d)/\w'.frozen? ⟨b,2,none⟩=false/\Z<w'.heap.size/\b<w'.heap.size/\w'.ownsRow B 54 10 (.slice f x.vars.length d) x.vars.length k)
  W g (z:Below w.heap.size w W) (m:W.grownBy g (Value.slice f x.vars.length d).ownBlock):g.cell? ⟨Z,0,none⟩=some (.slice (some ⟨b,0,none⟩) n c)/\g.cell? ⟨b,2,none⟩=some (.slice f x.vars.length d)/\g.frozen? ⟨b,2,none⟩=false:=by
 obtain ⟨u,C,t,F,p,_⟩:=j W z;have q:=m.block Z F (fun e=>y e.symm);have l:=m.block b p (fun e=>s e.symm);exact ⟨(World.cell?_of_block (a:=⟨Z,0,none⟩) q).trans u,(World.cell?_of_block (a:=⟨b,2,none⟩) l).trans C,(World.frozen?_of_block (a:=⟨b,2,none⟩) l).trans t⟩
abbrev aHa (a:Str):List Value:=[.string ⟨a.toArray⟩,.string ⟨#[73,110,116]⟩,.int .i64 0,.int .i64 0,.bool false,.int .i64 0,.int .i64 0,.string ⟨#[]⟩,.slice none 0 0,.slice none 0 0]
theorem bEe {M} a:∀ (j:Nat) c,(aB (varY a)).cells[j]?=some c->∃ u,(aHa a)[j]?=some u/\Rv M noB c u:=by
 intro j c h;rw [dV] at h;have b  := by have:=(List.getElem?_eq_some_iff.1 h).1;simpa [PV.cells] using this
 match j,b,h with
 | 0,_,h=>cases h;exact ⟨_,rfl,.str _⟩
 | 1,_,h=>cases h;exact ⟨_,rfl,.str _⟩
 | 2,_,h=>cases h;exact ⟨_,rfl,.int _ _⟩
 | 3,_,h=>cases h;exact ⟨_,rfl,.int _ _⟩
 | 4,_,h=>cases h;exact ⟨_,rfl,.bool _⟩
 | 5,_,h=>cases h;exact ⟨_,rfl,.int _ _⟩
 | 6,_,h=>cases h;exact ⟨_,rfl,.int _ _⟩
 | 7,_,h=>cases h;exact ⟨_,rfl,.str _⟩
 | 8,_,h=>cases h;exact ⟨_,rfl,.nil _⟩
 | 9,_,h=>cases h;exact ⟨_,rfl,.nil _⟩
theorem putA d {B E M w r frags Z t n c vf ys zs u2 u3 u4} (h:DB B E M w r frags Z t n c vf ys zs u2 u3 u4) {x} (N:r[0]?=some x) (hs:x.vars.length<1073741824) (hc:Cons M w) Q fr (G:fr.length=188) O P X (g:FV fr [(2,O),(3,P),(4,X),(7,ptr Z),(8,.string ⟨d.toArray⟩)])
  (hC:∀ M' w' l',l'.length=188->Put B E M w M' w'->Rv M' noB (pvD ⟨bBE r x (x.vars++[varY d]),frags⟩) (.agg #[.slice (some ⟨t,0,none⟩) n c,vf])->FV l' [(2,O),(3,P),(4,X),(7,ptr Z),(8,.string ⟨d.toArray⟩)]->Q .normal ⟨l'.toArray,[]⟩ w') :
  Code.wp Tryz.prog q9C Q ⟨fr.toArray,[]⟩ w:=by
 obtain ⟨A,q,C,rfl,hn0,I,D,R,h2Z,hBs,k⟩:=h.form N;have hnz:(0:Int)<(n:Int):=by omega
 have aft:Hid (∀ (W l:World),_->_->_):=h.aft R h2Z k;obtain ⟨kz,V,kf,hZl,hgl,ho2⟩:=k w.drew ((Below.refl _ _).drew);have fin:Hid (∀ (l:World) (g f:Nat) (l':List Value),l.ownsRow B 54 10 (.slice (some ⟨g,0,none⟩) (x.vars.length+1) f) (x.vars.length+1) (C++aHa d)->(w.alloc (.cells (aHa d).toArray 54)).drew.grownBy l (Value.slice A x.vars.length q).ownBlock->((Value.slice A x.vars.length q).ownBlock=some g∨g=(w.alloc (.cells (aHa d).toArray 54)).drew.heap.size)->l'.length=188->FV l' [(2,O),(3,P),(4,X),(7,ptr Z),(8,.string ⟨d.toArray⟩)]->Q .normal ⟨l'.toArray,[]⟩ (l.setCell ⟨t,2,none⟩ (.slice (some ⟨g,0,none⟩) (x.vars.length+1) f))):=by
  intro l g f l' k1 V k3 k4 k5;obtain ⟨M',p1,q⟩:=aZD h.ds h.le N hc (((Below.refl _ _).alloc (Nat.le_refl _) _).drew) D I (varY d) (aHa d) (bEe d) k1 V k3;exact hC M' _ l' k4 p1 q k5
 obtain ⟨i0,z0,hi,K,T,H,U⟩:=aIs Tryz.i54;have y:Hid (∀ w',_->_):=k;clear hC h D N k;revert g;refine tZ 188 (fun fr=>FV fr _->Code.wp Tryz.prog _ _ ⟨fr.toArray,[]⟩ _) ?_ fr G;simp only [AllL];iterate 188 intro _
 rintro ⟨g2,g3,g4,g7,g8,_⟩;simp only [at_] at g2 g3 g4 g7 g8;subst g2 g3 g4 g7 g8;unfold q9C;simp only [Tryz.f8,bZ,sndC,fstC];refine Code.wp_mono (Q:=Exit.then (Q .normal) (fun _ _ _=>False)) (fun e a w h=>by cases e<;>first | exact h | exact h.elim) ?_;refine vR (fun w'=>w'.cell? ⟨Z,0,none⟩=some (.slice (some ⟨t,0,none⟩) n c)/\w'.cell? ⟨t,2,none⟩=some (.slice A x.vars.length q)) (fun j=>j==14) (by kernel_rfl) ?_;have b:w.drew.cell? ⟨Z,0,none⟩=some (.slice (some ⟨t,0,none⟩) n c)/\w.drew.cell? ⟨t,2,none⟩=some (.slice A x.vars.length q):=⟨kz,V⟩;try simp only [Act.put,List.setIfInBounds_toArray,List.set_cons_zero,List.set_cons_succ]
 refine tk 0 b ?_;refine tk 1 b ?_;refine tk 2 b ?_;refine tk 3 b ?_;refine tk 4 b ?_;refine tk 5 b ?_;refine tk 6 b ?_;refine tk 7 b ?_;refine tk 8 b ?_;refine tk 9 b ?_;refine on1 10 ?_;intro K9 z;go_simp;refine z.out _ _ ⟨bEb _ b.1,bEb _ b.2⟩ (fun hS2 => ?_);clear z K9;try simp only [Act.put,List.setIfInBounds_toArray,List.set_cons_zero,List.set_cons_succ]
 refine on1 11 ?_;intro J o;show (if Region.wanted {dst:=some 70,op:=Op.call {callee:=Callee.builtin Builtin.append,args:=_,argTypes:=_},type:=_,pos:=_,after:=_,guard:=_} _=true then _ else _);obtain ⟨_,_,_,_,_,L⟩:=y.out _ (((Below.refl w.heap.size w).alloc (Nat.le_refl _) (.cells (aHa d).toArray 54)).drew);refine aJa rfl (.tmp 65) (.tmp 69) 35 rfl B 54 i0 _ 10 136 Tryz.u35 hi K T H U (by decide) (.slice A x.vars.length q) x.vars.length C rfl L ⟨w.heap.size,0,none⟩ 1 1 (aHa d) rfl rfl (World.news_of_block (cs:=(aHa d).toArray) (heap_alloc_new w _)) (by intro u hu;simp only [aHa,List.mem_cons,List.not_mem_nil,or_false] at hu;rcases hu with rfl | rfl | rfl | rfl | rfl | rfl | rfl | rfl | rfl | rfl<;>rfl) (by decide) (by unfold maxLen;omega) (by omega) (by simp;omega) _ rfl ?_;intro g F l s i hat hlt;obtain ⟨n1,n2,n3⟩:=aft.out _ l (((Below.refl w.heap.size w).alloc (Nat.le_refl _) _).drew) i;refine o.out _ _ ⟨n1,n2⟩ (fun v => ?_);clear o J;try simp only [Act.put,List.setIfInBounds_toArray,List.set_cons_zero,List.set_cons_succ]
 refine on1 12 ?_;intro S p;go_simp;refine p.out _ _ v (fun v => ?_);clear p S;try simp only [Act.put,List.setIfInBounds_toArray,List.set_cons_zero,List.set_cons_succ]
 refine tk 13 v ?_;refine onL 14 ?_;intro Y m;go_simp;refine m.out _ _ ?_;clear m Y;try simp [Act.put,List.setIfInBounds_toArray,List.set_cons_zero]
 refine aGq (by kernel_rfl) ?_ _;refine fin.out l g F _ s i hat ?_ ?_;· rfl
 exact ⟨rfl,rfl,rfl,rfl,rfl,trivial⟩
def q10C:Code:=fstC (sndC (sndC (sndC (sndC (sndC (sndC (bZ Tryz.f8)))))))
theorem bJ1 d u M w (a b:Option Addr) blk off l p q r x y v3 v4 Y (k:Cons M w) (hY:w.heap[Y]?=some (.cells #[.slice (some ⟨blk,off,none⟩) l p,.slice b q r] 28 (0,0))) (I:0<l) (ho:∀ j v,(tF x y v3 v4)[j]?=some v->M blk (off+j)=some v) (o:Rv M noB (pvD d) (.agg #[.slice (some ⟨blk,off,none⟩) l p,.slice b q r])) (hr:Rv M noB (.slice (List.map aF x.sels) [] false) v4) (F:pR d x.sels=some u) Q fr (hlen:fr.length=188) e2 c t e8 (g:FV fr [(2,e2),(3,c),(4,ptr Y),(7,t),(8,e8)])
  (hC:∀ M' w' (a n p) l',l'.length=188->Cons M' w'->Quiet M w.drew M' w'->n=u.length->Rv M' noB (.slice (List.map PV.str u) [] false) (.slice a n p)->FV l' [(2,e2),(3,c),(4,ptr Y),(7,t),(8,e8),(10,.slice a n p)]->Q .normal ⟨l'.toArray,[]⟩ w') :
  Code.wp Tryz.prog q10C Q ⟨fr.toArray,[]⟩ w:=by
 obtain ⟨oa,n,cap,rfl⟩:=lW hr;have D:(0:Int)<(l:Int):=by omega
 have A:w.drew.cell? ⟨Y,0,none⟩=some (.slice (some ⟨blk,off,none⟩) l p):=by rw [cell_of_row w.drew Y 0 _ _ _ hY];rfl
 have z:w.drew.cell? ⟨Y,1,none⟩=some (.slice b q r):=by rw [cell_of_row w.drew Y 1 _ _ _ hY];rfl
 have C  := dS (qG k) (ho 4 _ rfl);have hcall:=bBD d x.sels u F (M:=M) (w:=w.drew) _ _ (qG k) o hr;have hkeep:Hid (∀ w1 M1,Cons M1 w1->Quiet M w.drew M1 w1->w1.cell? ⟨Y,0,none⟩=some (.slice (some ⟨blk,off,none⟩) l p)/\w1.cell? ⟨Y,1,none⟩=some (.slice b q r)/\w1.cell? ⟨blk,off+4,none⟩=some (.slice oa n cap)):=by
  intro w1 M1 hc1 hq1;have hY1:=at_q hq1 (show w.drew.heap[Y]?=_ from hY);exact ⟨by rw [cell_of_row w1 Y 0 _ _ _ hY1];rfl,by rw [cell_of_row w1 Y 1 _ _ _ hY1];rfl,dS hc1 (hq1.mem _ _ _ (ho 4 _ rfl))⟩
 replace hC:=(id hC:Hid _);replace hcall:=(id hcall:Hid _);clear hr ho o hY;revert g;refine tZ 188 (fun fr=>FV fr _->Code.wp Tryz.prog _ _ ⟨fr.toArray,[]⟩ _) ?_ fr hlen;simp only [AllL];iterate 188 intro _
 rintro ⟨g2,f,i,s,m,_⟩;simp only [at_] at g2 f i s m;subst g2 f i s m;unfold q10C;simp only [Tryz.f8,bZ,sndC,fstC];refine Code.wp_mono (Q:=Exit.then (Q .normal) (fun _ _ _=>False)) (fun e a w h=>by cases e<;>first | exact h | exact h.elim) ?_;refine vR (fun w'=>w'.cell? ⟨Y,0,none⟩=some (.slice (some ⟨blk,off,none⟩) l p)/\w'.cell? ⟨Y,1,none⟩=some (.slice b q r)/\w'.cell? ⟨blk,off+4,none⟩=some (.slice oa n cap)) (fun j=>j==7) (by kernel_rfl) ?_;have hS0:w.drew.cell? ⟨Y,0,none⟩=some (.slice (some ⟨blk,off,none⟩) l p)/\w.drew.cell? ⟨Y,1,none⟩=some (.slice b q r)/\w.drew.cell? ⟨blk,off+4,none⟩=some (.slice oa n cap):=⟨A,z,C⟩;try simp only [Act.put,List.setIfInBounds_toArray,List.set_cons_zero,List.set_cons_succ]
 refine tk 0 hS0 ?_;refine tk 1 hS0 ?_;refine tk 2 hS0 ?_;refine tk 3 hS0 ?_;refine tk 4 hS0 ?_;refine tk 5 hS0 ?_;refine on1 6 ?_;intro H hK6;go_simp;go_at_call 28;refine Calls.mono hcall.out ?_;rintro J w1 ⟨a,_,G,M1,rfl,rfl,hr1,hc1,hq1⟩;have hS1:=hkeep.out w1 M1 hc1 hq1;refine hK6.out _ _ hS1 (fun E => ?_);clear hK6 H;try simp [Act.put,List.setIfInBounds_toArray,List.set_cons_zero,List.set_cons_succ]
 refine onL 7 ?_;intro B hK7;go_simp;refine hK7.out _ _ ?_;clear hK7 B;try simp [Act.put,List.setIfInBounds_toArray]
 refine aGq (by kernel_rfl) ?_ _;refine hC.out M1 w1 a _ G _ ?_ hc1 hq1 rfl hr1 ?_;· rfl
 exact ⟨rfl,rfl,rfl,rfl,rfl,rfl,trivial⟩
def q11C:Code:=fstC (sndC (sndC (sndC (sndC (sndC (sndC (sndC (bZ Tryz.f8))))))))
theorem askA {M w} X Z xs z ps (A D:Str) C B ua un up (nm:Str) u (hc:Cons M w) (W:w.heap[X]?=some (.cells #[.slice xs z ps,.string ⟨A.toArray⟩,.string ⟨D.toArray⟩] 24 (0,0))) (hZ:w.heap[Z]?=some (.cells #[C,B] 28 (0,0)))
  (i0:∃ a n c,C = .slice a n c) (i1:∃ a n c,B = .slice a n c)
  (S:Hid (∀ M' w',Cl M w M' w'->Calls Tryz.prog 29 #[.slice ua un up,.string ⟨nm.toArray⟩] w' fun e f=>∃ d,e = .returned (.bool u)/\Cons d f/\Quiet M' w' d f))
  (p:u=false->Hid (∀ M' w',Cl M w M' w'->Calls Tryz.prog 27 #[.agg #[.slice xs z ps,.string ⟨A.toArray⟩,.string ⟨D.toArray⟩],.agg #[C,B],.int .i64 18] w' fun e f=>∃ d,e = .returned (.bool true)/\Cons d f/\Quiet M' w' d f))
  (s:u=false->Hid (∀ M' w',Cl M w M' w'->Calls Tryz.prog 27 #[.agg #[.slice xs z ps,.string ⟨A.toArray⟩,.string ⟨D.toArray⟩],.agg #[C,B],.int .i64 19] w' fun e f=>∃ d,e = .returned (.bool true)/\Cons d f/\Quiet M' w' d f))
  (r:u=false->Hid (∀ M' w',Cl M w M' w'->Calls Tryz.prog 27 #[.agg #[.slice xs z ps,.string ⟨A.toArray⟩,.string ⟨D.toArray⟩],.agg #[C,B],.int .i64 20] w' fun e f=>∃ d,e = .returned (.bool true)/\Cons d f/\Quiet M' w' d f))
  (m:u=false->Hid (∀ M' w',Cl M w M' w'->Calls Tryz.prog 27 #[.agg #[.slice xs z ps,.string ⟨A.toArray⟩,.string ⟨D.toArray⟩],.agg #[C,B],.int .i64 21] w' fun e f=>∃ d,e = .returned (.bool false)/\Cons d f/\Quiet M' w' d f))
  Q fr (K:fr.length=188) e2 e4 (g:FV fr [(2,e2),(3,ptr X),(4,e4),(7,ptr Z),(8,.string ⟨nm.toArray⟩),(10,.slice ua un up)])
  (Y:∀ M' w' l',l'.length=188->Cl M w M' w'->FV l' [(2,e2),(3,ptr X),(4,e4),(10,.slice ua un up)]->Q .normal ⟨l'.toArray,[]⟩ w') :
  Code.wp Tryz.prog q11C Q ⟨fr.toArray,[]⟩ w:=by
 obtain ⟨a0,n0,c0,rfl⟩:=i0;obtain ⟨a1,n1,c1,rfl⟩:=i1;have j:Hid (∀ w',Below w.heap.size w w'->w'.cell? ⟨X,0,none⟩=some (.slice xs z ps)/\w'.cell? ⟨X,1,none⟩=some (.string ⟨A.toArray⟩)/\w'.cell? ⟨X,2,none⟩=some (.string ⟨D.toArray⟩)/\w'.cell? ⟨Z,0,none⟩=some (.slice a0 n0 c0)/\w'.cell? ⟨Z,1,none⟩=some (.slice a1 n1 c1)):=by
  intro w' u;have H:∀ b o,w.heap[b]?=some o->w'.heap[b]?=some o:=fun b o h=>(u.block b (Array.getElem?_eq_some_iff.1 h).1).trans h;exact ⟨by rw [cell_of_row w' X 0 _ _ _ (H _ _ W)];rfl,by rw [cell_of_row w' X 1 _ _ _ (H _ _ W)];rfl,by rw [cell_of_row w' X 2 _ _ _ (H _ _ W)];rfl,by rw [cell_of_row w' Z 0 _ _ _ (H _ _ hZ)];rfl,by rw [cell_of_row w' Z 1 _ _ _ (H _ _ hZ)];rfl⟩
 obtain ⟨k0,k1,k2,k3,k4⟩:=j.out w (Below.refl _ _);replace Y:=(id Y:Hid _);have t:Hid (Cl M w M w):=⟨Below.refl _ _,fun _ _ _ h=>h,fun _ _ _=>rfl,hc⟩;clear W hZ hc;revert g;refine tZ 188 (fun fr=>FV fr _->Code.wp Tryz.prog _ _ ⟨fr.toArray,[]⟩ _) ?_ fr K;simp only [AllL];iterate 188 intro _
 rintro ⟨g2,g3,g4,g7,g8,L,_⟩;simp [at_] at g2 g3 g4 g7 g8 L;subst g2 g3 g4 g7 g8 L;unfold q11C;simp [Tryz.f8,bZ,sndC,fstC];cases u with
 | true =>
  clear p s r m;go_wp2_with (first | (go_at_call 29;refine (S.out _ _ t.out).mono ?_;rintro T w1 ⟨M1,rfl,k,l⟩;have i:Hid _:=t.out.q l k;obtain ⟨J,O,N,I,E⟩:=j.out _ i.out.b;clear l k));refine Y.out M1 w1 _ ?_ i.out ?_;· rfl
  exact ⟨rfl,rfl,rfl,rfl,trivial⟩
 | false =>
  replace p:=p rfl;replace s:=s rfl;replace r:=r rfl;replace m:=m rfl;go_wp2_with (first | (go_at_call 29;refine (S.out _ _ t.out).mono ?_;rintro T w1 ⟨M1,rfl,k,l⟩;have i:Hid _:=t.out.q l k;obtain ⟨J,O,N,I,E⟩:=j.out _ i.out.b;clear l k) | (go_at_call_of 27 (.int .i64 18:Value);refine (p.out _ _ i.out).mono ?_;rintro T w2 ⟨M2,rfl,U,G⟩;have x:Hid _:=i.out.q G U;obtain ⟨k2_0,k2_1,k2_2,k2_3,k2_4⟩:=j.out _ x.out.b;clear G U) | (go_at_call_of 27 (.int .i64 19:Value);refine (s.out _ _ x.out).mono ?_;rintro T w3 ⟨M3,rfl,P,F⟩;have v:Hid _:=x.out.q F P;obtain ⟨k3_0,k3_1,k3_2,k3_3,k3_4⟩:=j.out _ v.out.b;clear F P) | (go_at_call_of 27 (.int .i64 20:Value);refine (r.out _ _ v.out).mono ?_;rintro T w4 ⟨M4,rfl,V,R⟩;have y:Hid _:=v.out.q R V;obtain ⟨k4_0,k4_1,k4_2,k4_3,k4_4⟩:=j.out _ y.out.b;clear R V) | (go_at_call_of 27 (.int .i64 21:Value);refine (m.out _ _ y.out).mono ?_;rintro T w5 ⟨M5,rfl,hc5,hq5⟩;have cl5:Hid _:=y.out.q hq5 hc5));refine Y.out M5 w5 _ ?_ cl5.out ?_;· rfl
  exact ⟨rfl,rfl,rfl,rfl,trivial⟩
def q13C:Code:=fstC (sndC (sndC (sndC (sndC (sndC (sndC (sndC (sndC (bZ Tryz.f8)))))))))
def q15C:Code:=fstC (sndC (sndC (sndC (sndC (sndC (sndC (sndC (sndC (sndC (bZ Tryz.f8))))))))))
theorem modK z (N:Nat) (h:0<N) (f:N<1073741824):∃ k,k<N/\wrap64 ((IntKind.u64.wrap z).tmod N)=k:=by
 have a:0<=IntKind.u64.wrap z:=by
  have:IntKind.u64.wrap z=z % 18446744073709551616:=by simp [IntKind.wrap,IntKind.bits,IntKind.signed]
  omega
 have e:=Int.tmod_eq_emod_of_nonneg (b:=N) a;have d:=Int.emod_nonneg (IntKind.u64.wrap z) (b:=N) (by omega);have c:=Int.emod_lt_of_pos (IntKind.u64.wrap z) (b:=N) (by omega);refine ⟨(IntKind.u64.wrap z % N).toNat,?_,?_⟩;· omega
 unfold wrap64;omega
theorem lenL {T} M w (a b:Option Addr) blk off l p q r x A v3 v4 Y i ua un up (t:Cons M w) (B:w.heap[Y]?=some (.cells #[.slice (some ⟨blk,off,none⟩) l p,.slice b q r] 28 (0,0))) (hl:0<l) (z:∀ j v,(tF x A v3 v4)[j]?=some v->M blk (off+j)=some v) (s:Rv M noB (.slice (List.map aB x.vars) [] false) A) (hs:x.vars.length<1073741824) (hz:x.vars.length=0->un=0) Q fr (f:fr.length=188) C (g:FV fr [(2,.int .i64 i),(3,C),(4,ptr Y),(10,.slice ua un up)])
  (u:∀ M' w' l',l'.length=188->Cl M w M' w'->FV l' [(6,.bool true)]->Q .ret ⟨l'.toArray,[]⟩ w')
  (m:∀ k l',k<x.vars.length->l'.length=188->FV l' [(3,C),(4,ptr Y),(11,.int .i64 k)]->Code.wp Tryz.prog T Q ⟨l'.toArray,[]⟩ w) :
  Code.wp Tryz.prog (.seq q13C (.seq q15C T)) Q ⟨fr.toArray,[]⟩ w:=by
 obtain ⟨oa,n,cap,rfl⟩:=lW s;obtain rfl:n=x.vars.length:=by have:=bHa s;simpa using this
 have k0:w.cell? ⟨Y,0,none⟩=some (.slice (some ⟨blk,off,none⟩) l p):=by rw [cell_of_row w Y 0 _ _ _ B];rfl
 have k2:w.cell? ⟨blk,off+2,none⟩=some (.slice oa x.vars.length cap):=dS t (z 2 _ rfl);replace m:=(id m:Hid _);replace u:=(id u:Hid _);have hlz:(0:Int)<l:=by omega
 clear z s B;revert g;refine tZ 188 (fun fr=>FV fr _->Code.wp Tryz.prog _ _ ⟨fr.toArray,[]⟩ _) ?_ fr f;simp only [AllL];iterate 188 intro _
 rintro ⟨g2,E,g4,d,_⟩;simp [at_] at g2 E g4 d;subst g2 E g4 d;unfold q13C q15C;simp [Tryz.f8,bZ,sndC,fstC];generalize hN:x.vars.length=N at *;by_cases D:N=0
 ·obtain rfl:=hz D;subst D;clear m;go_wp2_with (go_at_call 26;refine (rS t).mono ?_;rintro e' y ⟨M1,rfl,c,e⟩;have o:Hid (Cl M w M1 y):=(Cl.mk (Below.refl _ _) (fun _ _ _ h=>h) (fun _ _ _=>rfl) t).q e c;clear c e);refine u.out M1 y _ ?_ o.out ?_;· rfl
  exact ⟨rfl,trivial⟩
 ·have hNz  := by omega
  obtain ⟨k,hk,ek⟩:=modK i N (by omega) (by omega);go_wp2;rw [ek];refine m.out k _ hk ?_ ?_;· rfl
  exact ⟨rfl,rfl,rfl,trivial⟩
def bJ2:Code->Array Oper | .region _ o _=>o | _ => #[]
def q16C:Code:=fstC (sndC (sndC (sndC (sndC (sndC (sndC (sndC (sndC (sndC (sndC (bZ Tryz.f8)))))))))))
def copO:Array Oper:=bJ2 q16C
theorem bJw:q16C = .region 16 copO true:=by kernel_rfl
theorem bGw:copO.size=8:=by kernel_rfl
theorem bJx : ∃ a, copO[0]? = some { dst := some 131, op := .load 28 (.tmp 4), type := 28, pos := "law.go:96", after := a, guard := none } := aUJ (by kernel_rfl)
theorem bJy : ∃ a, copO[1]? = some { dst := some 132, op := .call { callee := .value (.func 13), args := #[.tmp 131], argTypes := #[28] }, type := 28, pos := "law.go:96", after := a, guard := none } := aUJ (by kernel_rfl)
theorem bJz : ∃ a, copO[2]? = some { dst := some 133, op := .load 28 (.tmp 4), type := 28, pos := "law.go:96", after := a, guard := none } := aUJ (by kernel_rfl)
theorem bJA : ∃ a, copO[3]? = some { dst := some 134, op := .call { callee := .value (.func 13), args := #[.tmp 133], argTypes := #[28] }, type := 28, pos := "law.go:96", after := a, guard := none } := aUJ (by kernel_rfl)
theorem bJB : ∃ a, copO[4]? = some { dst := some 12, op := .alloc 28, type := 0, pos := "law.go:96", after := a, guard := none } := aUJ (by kernel_rfl)
theorem bJC : ∃ a, copO[5]? = some { dst := some 13, op := .alloc 28, type := 0, pos := "law.go:96", after := a, guard := none } := aUJ (by kernel_rfl)
theorem bJD : ∃ a, copO[6]? = some { dst := none, op := .store 28 (.tmp 12) (.tmp 132), type := 0, pos := "law.go:96", after := a, guard := none } := aUJ (by kernel_rfl)
theorem bJE : ∃ a, copO[7]? = some { dst := none, op := .store 28 (.tmp 13) (.tmp 134), type := 0, pos := "law.go:96", after := a, guard := none } := aUJ (by kernel_rfl)
structure CK (l:List Value) (e3 ek:Value) (X:Nat) (d0 d1:Value):Prop where
 len:l.length=188
 s3:at_ l 3=e3
 s11:at_ l 11=ek
 s4:at_ l 4=ptr X
 s131:at_ l 131 = .agg #[d0,d1]
 s133:at_ l 133 = .agg #[d0,d1]
theorem bGx {b X d0 d1 M0 M w0 w} (d:X<b) (a:w0.heap[X]?=some (.cells #[d0,d1] 28 (0,0))) (c:From b M0 w0 M w):w.cell? ⟨X,0,none⟩=some d0/\w.cell? ⟨X,1,none⟩=some d1:=by
 have h:=(c.below.block X d).trans a;exact ⟨by rw [cell_of_row w X 0 _ _ _ h];rfl,by rw [cell_of_row w X 1 _ _ _ h];rfl⟩
theorem CK.set {l X a b d0 d1} (h:CK l a b X d0 d1) i v (k:(12<=i/\i<14)∨i=132∨i=134):CK (l.set i v) a b X d0 d1:=by
 have e:i<l.length:=by rw [h.len];omega
 obtain ⟨m,f,j,g,c,d⟩:=h;refine ⟨by grind,?_,?_,?_,?_,?_⟩<;>rw [aOR _ _ _ _ e,if_neg (by omega)]<;>assumption
structure NI (d:GDoc) (nb X:Nat) (d0 d1:Value) (M0:Mem) (w0:World) (e3 ek:Value) (c:Nat) (b:Nat->Bool) (iv:Nat->Nat×Nat) (l:List Value) (M:Mem) (w:World):Prop where
 ck:CK l e3 ek X d0 d1
 ivs:Ivs iv w.heap.size
 lo:∀ t,(iv t).2=0∨nb<=(iv t).1
 cons:Cons M w
 frm:From nb M0 w0 M w
 le:nb<=w.heap.size
 doc:∀ t,t<c->bBB d iv t M w (at_ l (132+2*t))
 z:∀ t,t<2->b t=true->ZAt iv (2+t) M w (at_ l (12+t))
section
variable {d : GDoc} {nb X : Nat} {d0 d1 : Value} {M0 : Mem} {w0 : World} {e3 ek : Value} {c s : Nat} {b : Nat -> Bool} {iv : Nat -> Nat × Nat} {l : List Value} {M : Mem} {w : World}
theorem NI.call (h:NI d nb X d0 d1 M0 w0 e3 ek c b iv l M w) (F:c<2) (g:0<d.ops.length) {m j ys C B y A u s v q o r} (a:DQ 0 B y A M w m j d.ops d.frags (.slice u v q) ys (.slice s o r) C):NI d nb X d0 d1 M0 w0 e3 ek (c+1) b (upd iv c (w.heap.size,j.heap.size)) (l.set (132+2*c) (.agg #[.slice u v q,.slice s o r])) m j:=by
 have p:132+2*c<l.length:=by rw [h.ck.len];omega
 have f:=aXP a.frm;have D:=h.le;refine ⟨h.ck.set _ _ (by omega),h.ivs.upd c a.frm.below.size,bG9 h.lo c h.le,a.cons,h.frm.trans ⟨a.frm.mem,fun b x i=>a.frm.old b (by omega) i,a.frm.below.os,a.frm.below.tape,a.frm.below.output,a.frm.below.size,fun k E=>a.frm.below.block k (by omega)⟩,Nat.le_trans h.le a.frm.below.size,fun t n => ?_,fun t n x => ?_⟩
 ·rw [aOR _ _ _ _ p];by_cases e:t=c;· subst e;rw [if_pos rfl];exact bIv a g _ rfl rfl
  rw [if_neg (by omega)];exact (h.doc t (by omega)).keep h.ivs f _ _ e
 rw [aOR _ _ _ _ p,if_neg (by omega)];exact (h.z t n x).keep h.ivs f _ _ (by omega)
theorem NI.alloc (h:NI d nb X d0 d1 M0 w0 e3 ek c b iv l M w) t (k:t<2) (j:c<=2):NI d nb X d0 d1 M0 w0 e3 ek c (fun s=>s==t||b s) (upd iv (2+t) (w.heap.size,(w.alloc (.cells #[.slice none 0 0,.slice none 0 0] 28)).heap.size)) (l.set (12+t) (ptr w.heap.size)) M (w.alloc (.cells #[.slice none 0 0,.slice none 0 0] 28)):=by
 have i:12+t<l.length:=by rw [h.ck.len];omega
 have a:=bEc M w (.cells #[.slice none 0 0,.slice none 0 0] 28);have f:w.heap.size<=(w.alloc (.cells #[.slice none 0 0,.slice none 0 0] 28)).heap.size:=by simp
 refine ⟨h.ck.set _ _ (by omega),h.ivs.upd _ f,bG9 h.lo _ h.le,vC h.cons ((Below.refl _ _).alloc (by omega) _),h.frm.trans (From.of_below ((Below.refl _ _).alloc h.le _)),Nat.le_trans h.le f,fun s g => ?_,fun s g m => ?_⟩;· rw [aOR _ _ _ _ i,if_neg (by omega)];exact (h.doc s g).keep h.ivs a _ _ (by omega)
 rw [aOR _ _ _ _ i];by_cases e:s=t;· subst e;rw [if_pos rfl];exact bIu h.cons _
 rw [if_neg (by omega)];exact (h.z s g (by grind)).keep h.ivs a _ _ (by omega)
end
theorem bIw {l w d0 d1 i Q} {R:World->Value->Prop} (a:Calls Tryz.prog 13 #[.agg #[d0,d1]] w fun e w'=>∃ v,e = .returned v/\R w' v):∀ c,c<2->at_ l (131+2*c) = .agg #[d0,d1]->(∀ v w',R w' v->i ⟨(l.set (132+2*c) v).toArray,[]⟩ w')->wpOp Tryz.prog copO Q (1+2*c) i ⟨l.toArray,[]⟩ w:=by
 intro c k j h;have o:=(aUK l (131+2*c)).trans j;match c,k with
 | 0,_ =>
  obtain ⟨m,g⟩:=bJy;refine aHo g (fun K d => ?_);go_simp;refine a.mono ?_;rintro n f ⟨v,rfl,b⟩;have:=d.out _ _ (h v f b);grind
 | 1,_ =>
  obtain ⟨m,g⟩:=bJA;refine aHo g (fun K d => ?_);go_simp;refine a.mono ?_;rintro n f ⟨v,rfl,b⟩;have:=d.out _ _ (h v f b);grind
theorem bGy {l:List Value} {w c Q}:∀ t,t<2->c ⟨(l.set (12+t) (ptr w.heap.size)).toArray,[]⟩ (w.alloc (.cells #[.slice none 0 0,.slice none 0 0] 28))->wpOp Tryz.prog copO Q (4+t) c ⟨l.toArray,[]⟩ w:=by
 intro t d h;match t,d with
 | 0,_ =>
  obtain ⟨e,a⟩:=bJB;refine aHo a (fun K b => ?_);go_simp;have:=b.out _ _ h;grind
 | 1,_ =>
  obtain ⟨e,a⟩:=bJC;refine aHo a (fun K b => ?_);go_simp;have:=b.out _ _ h;grind
def bits (c:Nat) (b:Nat->Bool):Array Bool := #[true,0<c,true,1<c,b 0,b 1,false,false]
def bN (n:Nat) (t:Nat):Bool:=n.testBit t
theorem bIx:((List.range 3).all fun c=>(List.range 4).all fun n=>(Region.ready .any copO (bits c (bN n))).all fun i=>(c<2&&i==1+2*c)||((List.range 2).any fun t=>i==4+t && !bN n t)||(c==2&&n==3&&i==6))=true:=by kernel_rfl
theorem bGz:((List.range 3).all fun c=>(List.range 4).all fun n => !(Region.ready .any copO (bits c (bN n))).isEmpty)=true:=by kernel_rfl
def bset (b:Nat->Bool) (t:Nat):Nat->Bool:=fun s=>s==t||b s
theorem bEf c b (a:c<2):(bits c b).setIfInBounds (1+2*c) true=bits (c+1) b:=by
 match c,a with
 | 0,_=>rfl
 | 1,_=>rfl
theorem bBF c b t (a:t<2):(bits c b).setIfInBounds (4+t) true=bits c (bset b t):=by
 match t,a with
 | 0,_=>simp [bits,bset]
 | 1,_=>simp [bits,bset]
def cnt (b:Nat->Bool):Nat:=(bif b 0 then 0 else 1)+(bif b 1 then 0 else 1)
theorem bEg b t (a:t<2) (h:b t=false):cnt b=cnt (bset b t)+1:=by
 match t,a with
 | 0,_=>simp [cnt,bset,h];omega
 | 1,_=>simp [cnt,bset,h]
theorem bHb c b:∃ n,n<4/\(∀ t,t<2->bN n t=b t)/\bits c b=bits c (bN n):=by
 have key:∀ f a,∃ n,n<4/\bN n 0=f/\bN n 1=a:=by decide
 obtain ⟨n,g,e,d⟩:=key (b 0) (b 1);refine ⟨n,g,fun t h => ?_,?_⟩;· grind
 simp [bits,e,d]
theorem bJF c (k:c<=2) b i (h:i∈Region.ready .any copO (bits c b)):(c<2/\i=1+2*c)∨(∃ t,t<2/\i=4+t/\b t=false)∨(c=2/\(∀ t,t<2->b t=true)/\i=6):=by
 obtain ⟨n,l,j,e⟩:=bHb c b;rw [e] at h;have:=List.all_eq_true.1 (List.all_eq_true.1 (List.all_eq_true.1 bIx c (by grind)) n (by grind)) i h;simp at this;rcases this with (⟨f,d⟩ | ⟨t,a,f,d⟩) | ⟨⟨f,d⟩,g⟩;· omega
 ·grind
 refine .inr (.inr ⟨f,fun t a => ?_,g⟩);rw [<- j t a,d];match t,a with
 | 0,_=>rfl
 | 1,_=>rfl
theorem bJG c (d:c<=2) b:Region.ready .any copO (bits c b)≠[]:=by
 obtain ⟨n,f,a,e⟩:=bHb c b;have:=List.all_eq_true.1 (List.all_eq_true.1 bGz c (by grind)) n (by grind);grind
abbrev wpC Q X d0 d1:=wpB Tryz.prog .any copO Q (fun w'=>w'.cell? ⟨X,0,none⟩=some d0/\w'.cell? ⟨X,1,none⟩=some d1) (fun _=>false)
theorem bGA d F X d0 d1 M0 w0 I J (H:X<F) (C:w0.heap[X]?=some (.cells #[d0,d1] 28 (0,0))) Q (B:0<d.ops.length)
  (z:∀ M w,Cons M w->From F M0 w0 M w->Calls Tryz.prog 13 #[.agg #[d0,d1]] w fun e w'=>∃ M' o n f ys j m g y u p r,e = .returned (.agg #[.slice o n f,.slice j m g])/\DQ 0 u p r M w M' w' d.ops d.frags (.slice o n f) ys (.slice j m g) y)
  (A:∀ b q l M w,(∀ t,t<2->b t=true)->NI d F X d0 d1 M0 w0 I J 2 b q l M w->wpC Q X d0 d1 2 (bits 2 b) ⟨l.toArray,[]⟩ w) :
  ∀ k c b q l M w,c<=2->(2-c)+cnt b=k->NI d F X d0 d1 M0 w0 I J c b q l M w->wpC Q X d0 d1 (2+k) (bits c b) ⟨l.toArray,[]⟩ w:=by
 intro k;induction k with
 | zero =>
  intro c b q l M w D N h;obtain rfl:c=2:=by omega
  refine A b q l M w (fun t s => ?_) h;cases x:b t with
  | true=>rfl
  | false=>have:=bEg b t s x;omega
 | succ k K =>
  intro c b q l M w D N h;refine aPG rfl (bJG c D b) fun i L => ?_;rcases bJF c D b i L with ⟨a,rfl⟩ | ⟨t,s,rfl,x⟩ | ⟨rfl,x,rfl⟩
  ·refine bIw (R:=fun w' v=>∃ M' o n f ys j m g y u p r,v = .agg #[.slice o n f,.slice j m g]/\DQ 0 u p r M w M' w' d.ops d.frags (.slice o n f) ys (.slice j m g) y) (d0:=d0) (d1:=d1) ((z M w h.cons h.frm).mono ?_) c a ?_ ?_;· rintro e w' ⟨M',o,n,f,ys,j,m,g,y,u,p,r,rfl,G⟩;exact ⟨_,rfl,M',o,n,f,ys,j,m,g,y,u,p,r,rfl,G⟩
   ·match c,a with
    | 0,_=>exact h.ck.s131
    | 1,_=>exact h.ck.s133
   rintro v w' ⟨M',o,n,f,ys,j,m,g,y,u,p,r,rfl,G⟩;have E:=h.call a B G;refine ⟨fun _=>bGx H C E.frm,?_⟩;rw [bEf c b a];exact by grind
  ·have E:=h.alloc t s D;refine bGy t s ⟨fun _=>bGx H C E.frm,?_⟩;rw [bBF c b t s];exact K _ _ _ _ _ _ D (by have:=bEg b t s x;omega) E
  have:cnt b=0:=by simp [cnt,x 0 (by decide),x 1 (by decide)]
  omega
theorem bGB {l w e Q Z x y} (q:w.heap[Z]?=some (.cells #[.slice none 0 0,.slice none 0 0] 28 (0,0))):∀ t,t<2->at_ l (12+t)=ptr Z->at_ l (132+2*t) = .agg #[x,y]->(∃ a n c,x = .slice a n c)->(∃ a n c,y = .slice a n c)->e ⟨l.toArray,[]⟩ ((w.setCell ⟨Z,0,none⟩ x).setCell ⟨Z,1,none⟩ y)->wpOp Tryz.prog copO Q (6+t) e ⟨l.toArray,[]⟩ w:=by
 rintro t k p o ⟨v,z,r,rfl⟩ ⟨u,A,s,rfl⟩ h;have i:w.cell? ⟨Z,0,none⟩=some (.slice none 0 0):=by rw [cell_of_row _ Z 0 _ _ _ q];rfl
 have g:w.cell? ⟨Z,1,none⟩=some (.slice none 0 0):=by rw [cell_of_row _ Z 1 _ _ _ q];rfl
 have m  := frozen_of_row _ _ 0 _ _ q;have f  := frozen_of_row _ _ 1 _ _ q;have g1:=(aUK l (12+t)).trans p;have g2:=(aUK l (132+2*t)).trans o;match t,k with
 | 0,_ =>
  obtain ⟨j,d⟩:=bJD;refine aHo d (fun K b => ?_);go_simp;exact b.out _ _ h
 | 1,_ =>
  obtain ⟨j,d⟩:=bJE;refine aHo d (fun K b => ?_);go_simp;exact b.out _ _ h
def bJ3:Value->Array Value | .agg a=>a | _ => #[]
structure BI (d:GDoc) (nb X:Nat) (d0 d1:Value) (M0:Mem) (w0:World) (e3 ek:Value) (s:Nat) (iv:Nat->Nat×Nat) (l:List Value) (M:Mem) (w:World):Prop where
 ck:CK l e3 ek X d0 d1
 ivs:Ivs iv w.heap.size
 lo:∀ t,(iv t).2=0∨nb<=(iv t).1
 cons:Cons M w
 frm:From nb M0 w0 M w
 doc:∀ t,t<2->bBB d iv t M w (at_ l (132+2*t))
 z:∀ t,t<2->∃ Z,at_ l (12+t)=ptr Z/\iv (2+t)=(Z,Z+1)/\(∀ i,M Z i=none)/\w.heap[Z]?=some (.cells (if t<s then bJ3 (at_ l (132+2*t)) else #[.slice none 0 0,.slice none 0 0]) 28 (0,0))
section
variable {d : GDoc} {nb X : Nat} {d0 d1 : Value} {M0 : Mem} {w0 : World} {e3 ek : Value} {s : Nat} {b : Nat -> Bool} {iv : Nat -> Nat × Nat} {l : List Value} {M : Mem} {w : World}
theorem NI.bi (h:NI d nb X d0 d1 M0 w0 e3 ek 2 b iv l M w) (c:∀ t,t<2->b t=true):BI d nb X d0 d1 M0 w0 e3 ek 0 iv l M w :=
 ⟨h.ck,h.ivs,h.lo,h.cons,h.frm,h.doc,fun t a=>by obtain ⟨Z,e,f,i,g⟩:=h.z t a (c t a);grind⟩
theorem BI.store (h:BI d nb X d0 d1 M0 w0 e3 ek s iv l M w) (J:s<2):∃ Z x y,w.heap[Z]?=some (.cells #[.slice none 0 0,.slice none 0 0] 28 (0,0))/\at_ l (12+s)=ptr Z/\at_ l (132+2*s) = .agg #[x,y]/\(∃ a n c,x = .slice a n c)/\(∃ a n c,y = .slice a n c)/\BI d nb X d0 d1 M0 w0 e3 ek (s+1) iv l M ((w.setCell ⟨Z,0,none⟩ x).setCell ⟨Z,1,none⟩ y):=by
 obtain ⟨Z,e,O,R,q⟩:=h.z s J;rw [if_neg (Nat.lt_irrefl _)] at q;obtain ⟨N,n,G,ys,I,K,H,zs,W,U,u4,L,Y⟩:=h.doc s J;refine ⟨Z,_,_,q,e,L,⟨_,_,_,rfl⟩,⟨_,_,_,rfl⟩,?_⟩;have Q:∀ k,k≠Z->((w.setCell ⟨Z,0,none⟩ (.slice N n G)).setCell ⟨Z,1,none⟩ (.slice I K H)).heap[k]?=w.heap[k]?:=fun k A=>by rw [Below.heap_setCell _ _ _ _ A,Below.heap_setCell _ _ _ _ A]
 have v:((w.setCell ⟨Z,0,none⟩ (.slice N n G)).setCell ⟨Z,1,none⟩ (.slice I K H)).heap.size=w.heap.size:=by simp
 have hZ:nb<=Z:=by have:=h.lo (2+s);grind
 have F:∀ t,t≠2+s->(iv t).2<=Z∨Z+1<=(iv t).1:=fun t b=>by have:=h.ivs.dis t (2+s) b;grind
 refine ⟨h.ck,by rw [v];exact h.ivs,h.lo,kL h.cons fun k _ ⟨i,hi⟩=>by grind,h.frm.trans (From.of_below ⟨by simp [bJu],by simp,by simp [bBA],by omega,fun k A=>by grind⟩),fun t b => ?_,fun t b => ?_⟩;· obtain ⟨j,k,p,u,D,P,r,o,E,g,B,S,C⟩:=h.doc t b;exact ⟨j,k,p,u,D,P,r,o,E,g,B,S,C.move (fun _ _ _ h=>h) (fun k _ _=>by grind) (fun _ _ _ _=>rfl)⟩
 by_cases m:t=s;· subst m;refine ⟨Z,e,O,R,?_⟩;rw [if_pos (Nat.lt_succ_self _),L];exact heap_setCell_same _ _ _ _ _ _ (heap_setCell_same _ _ _ _ _ _ q)
 obtain ⟨V,f,f2,T,fb⟩:=h.z t b;grind
def bBG (s:Nat):Array Bool := #[true,true,true,true,true,true,0<s,1<s]
theorem bBH:∀ s,s<2->(bBG s).setIfInBounds (6+s) true=bBG (s+1):=by decide
theorem bEh (a:∀ t,t<2->b t=true):bits 2 b=bBG 0:=by
 simp [bits,bBG,a 0 (by decide),a 1 (by decide)]
theorem rdyS:((List.range 2).all fun s=>Region.ready .any copO (bBG s)==[6+s])=true:=by kernel_rfl
theorem bJH (n:X<nb) (b:w0.heap[X]?=some (.cells #[d0,d1] 28 (0,0))) {Q} (i:∀ M w,BI d nb X d0 d1 M0 w0 e3 ek 2 iv l M w->Q .normal ⟨l.toArray,[]⟩ w):∀ k s w,s+k=2->BI d nb X d0 d1 M0 w0 e3 ek s iv l M w->wpC Q X d0 d1 k (bBG s) ⟨l.toArray,[]⟩ w:=by
 intro k;induction k with
 | zero =>
  intro s w f h;obtain rfl:s=2:=by omega
  exact aGq (by kernel_rfl) (i M w h) _
 | succ k p =>
  intro s w f h;have a:s<2:=by omega
  have o:=List.all_eq_true.1 rdyS s (by grind);obtain ⟨Z,x,y,q,m,g,e,c,j⟩:=h.store a;refine bGt (6+s) (by grind) (bGB q s a m g e c ⟨fun _=>bGx n b j.frm,?_⟩);rw [bBH s a];grind
theorem BI.db (h:BI d nb X d0 d1 M0 w0 e3 ek 2 iv l M w) t (i:t<2):∃ Z c n b B ys k j f g,at_ l (12+t)=ptr Z/\iv (2+t)=(Z,Z+1)/\DB (iv t).1 (iv t).2 M w d.ops d.frags Z c n b B ys k j f g:=by
 obtain ⟨Z,e,s,v,p⟩:=h.z t i;obtain ⟨A,n,m,ys,x,C,u,k,j,f,g,q,o⟩:=h.doc t i;rw [if_pos i,q] at p;obtain ⟨c,r,a,y,_⟩:=o.at_;obtain ⟨rfl,rfl,rfl⟩:A=some ⟨c,0,none⟩/\n=r/\m=a:=by grind
 refine ⟨Z,c,n,m,.slice x C u,ys,k,j,f,g,e,s,o,h.ivs.le t,p,?_,v,⟨_,_,_,rfl⟩⟩;have:=h.ivs.dis t (2+t) (by omega);grind
end
theorem bJ4 d Y M w a b l p q r (hd:fO d<=1048576) (N:0<d.ops.length) (hc:Cons M w) (K:Rv M noB (.slice (List.map aR d.ops) [] false) (.slice a l p)) (O:Rv M noB (.slice (List.map aH d.frags) [] false) (.slice b q r)) (L:w.heap[Y]?=some (.cells #[.slice a l p,.slice b q r] 28 (0,0))) Q fr (P:fr.length=188) T V (g:FV fr [(3,T),(4,ptr Y),(11,V)])
  (hC:∀ M' w' W E0 X E1 C f n0 s k I B z y D x i n1 o v H E u F G l',Cons M' w'->From w.heap.size M w M' w'->w.heap.size<=W->w.heap.size<=X->w.heap.size<=C->w.heap.size<=x->(E0<=X∨E1<=W)->(E0<=x∨x<W)->(E1<=C∨C<X)->DB W E0 M' w' d.ops d.frags C f n0 s k I B z y D->DB X E1 M' w' d.ops d.frags x i n1 o v H E u F G->l'.length=188->FV l' [(3,T),(4,ptr Y),(11,V),(12,ptr C),(13,ptr x)]->Q .normal ⟨l'.toArray,[]⟩ w') :
  Code.wp Tryz.prog q16C Q ⟨fr.toArray,[]⟩ w:=by
 obtain ⟨d0,h0⟩:∃ d0:Value,d0 = .slice a l p:=⟨_,rfl⟩;obtain ⟨d1,h1⟩:∃ d1:Value,d1 = .slice b q r:=⟨_,rfl⟩;have c:∀ M1 j,Cons M1 j->From w.drew.heap.size M w.drew M1 j->Calls Tryz.prog 13 #[.agg #[d0,d1]] j fun e w'=>∃ M' Z n R ys U m S zs u2 u3 u4,e = .returned (.agg #[.slice Z n R,.slice U m S])/\DQ 0 u2 u3 u4 M1 j M' w' d.ops d.frags (.slice Z n R) ys (.slice U m S) zs:=by
  intro M1 j hc1 hf;rw [h0,h1];refine (aZx 0 d M1 j (.slice a l p) (.slice b q r) hd hc1 (K.mono hf.mem (fun _ _ _ h=>h)) (O.mono hf.mem (fun _ _ _ h=>h))).mono ?_;rintro e w' ⟨M',Z,R,ys,U,S,zs,u2,u3,u4,rfl,h⟩;exact ⟨M',Z,_,R,ys,U,_,S,zs,u2,u3,u4,rfl,h⟩
 rw [<- h0,<- h1] at L;clear h0 h1 K O;have A:Y<w.drew.heap.size:=(Array.getElem?_eq_some_iff.1 L).1;have hS:=bGx (M0:=M) (M:=M) (w0:=w.drew) (w:=w.drew) A L (From.refl _ _ _);have key:∀ l,CK l T V Y d0 d1->wpC (Exit.then (Q .normal) (fun _ _ _=>False)) Y d0 d1 6 #[true,false,true,false,false,false,false,false] ⟨l.toArray,[]⟩ w.drew:=by
  intro l hck;refine bGA d _ Y d0 d1 M w.drew T V A L _ N c (fun b iv l M1 j hb h => ?_) 4 0 (fun _=>false) (fun _=>(0,0)) l M w.drew (by decide) rfl ⟨hck,Ivs.none _,fun _ => .inl rfl,qG hc,From.refl _ _ _,Nat.le_refl _,fun t ht=>by omega,fun t _ h=>by cases h⟩;rw [bEh hb];refine bJH (Q:=Exit.then (Q .normal) (fun _ _ _=>False)) (M0:=M) (w0:=w.drew) A L (fun M2 w2 h => ?_) 2 0 j rfl (h.bi hb);obtain ⟨C,f,n0,s,k,I,B,z,y,D,s0,v0,D0⟩:=h.db 0 (by decide);obtain ⟨x,i,n1,o,v,H,E,u,F,G,s1,v1,D1⟩:=h.db 1 (by decide);have o01:=h.ivs.dis 0 1 (by decide);have o03:=h.ivs.dis 0 3 (by decide);have o12:=h.ivs.dis 1 2 (by decide);have l0:=h.lo 0;have l1:=h.lo 1;have l2:=h.lo 2;have l3:=h.lo 3;have q0:=D0.ds.hi f (.inl rfl);have q1:=D1.ds.hi i (.inl rfl);have v0  := v0;have v1  := v1;rw [v0] at l2 o12;rw [v1] at l3 o03;have hw:w.drew.heap.size=w.heap.size:=rfl;have hfr  := (From.of_below ((Below.refl w.heap.size w).drew)).trans h.frm;refine hC M2 w2 _ _ _ _ C f n0 s k I B z y D x i n1 o v H E u F G l h.cons hfr (by omega) (by omega) (by omega) (by omega) o01 (by omega) (by omega) D0 D1 h.ck.len ⟨h.ck.s3,h.ck.s4,h.ck.s11,s0,s1,trivial⟩
 replace c:=(id c:Hid _);replace key:=(id key:Hid _);clear hC;revert g;refine tZ 188 (fun fr=>FV fr _->Code.wp Tryz.prog _ _ ⟨fr.toArray,[]⟩ _) ?_ fr P;simp only [AllL];iterate 188 intro _
 rintro ⟨g3,g4,J,_⟩;simp [at_] at g3 g4 J;subst g3 g4 J;rw [bJw];refine Code.wp_mono (Q:=Exit.then (Q .normal) (fun _ _ _=>False)) (fun e a w h=>by cases e<;>first | exact h | exact h.elim) ?_;refine vR (fun w'=>w'.cell? ⟨Y,0,none⟩=some d0/\w'.cell? ⟨Y,1,none⟩=some d1) (fun _=>false) (by kernel_rfl) ?_;rw [bGw];obtain ⟨af0,ho0⟩:=bJx;refine tk 0 hS ?_ ho0;obtain ⟨af2,ho2⟩:=bJz;refine tk 2 hS ?_ ho2;exact key.out _ ⟨rfl,rfl,rfl,rfl,rfl,rfl⟩
end Go.Proofs.YtphmfillajagdaaGreat

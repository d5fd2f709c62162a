import Derived.Test.YtphmfillajagdaaGreatWa
import Derived.Test.YtphmfillajagdaaGreatGa
import Derived.Test.YtphmfillajagdaaGreatEd
import Derived.Test.YtphmfillajagdaaGreatGd
import Derived.Test.YtphmfillajagdaaGreatEx
import Derived.LoopTactic
import Derived.WalkKit
import Derived.Deep.AppendLies
import Derived.Maps.OwnOps
import Derived.BigRegion
import Derived.Deep.RegionLaw
import Derived.Deep.RegionWith
import Derived.Laws.OwnMore
set_option maxHeartbeats 4000000
noncomputable section
set_option maxRecDepth 100000
set_option linter.unusedVariables false
set_option linter.unusedSimpArgs false
set_option linter.unusedSimpArgs false
open Go Go.Ev
namespace Go.Proofs.YtphmfillajagdaaGreat
theorem aUC x:bkSl aY x.args<=gI x/\bkSl fD x.dirs<=gI x:=by
 rw [gO];omega
theorem bBy : ∀ n l, aV l <= n -> n < 1073741824 -> aPJ l = some l := by
 intro n;induction n with
 | zero =>
  intro l h _;have := gD l;have d : l = [] := List.length_eq_zero_iff.1 (by omega);subst d;apply aLp;unfold aCA;rw [cK (r := []) (by simp [nO])];rfl
 | succ n o =>
  intro l h t;have e := gD l;apply aLp;have key := cO (b := nO l) l (fun k a => (a, k)) (fun r a => a ++ r) (fun k a => a.length = k) (by omega)
   (fun a _ => by simp [nO])
   (fun k x r a i w q p m j u => by
    have v := vB i;have d := aDZ x;have z := aUC x;have c : x.args.length < 1073741824 := by have := dD (f := aY) aC5 x.args; omega
    refine .inr ⟨a ++ [x], ?_, by grind, by simp⟩;simp only [nO, p, m, j, bV, aC7 x.args c (fun y g => aMk _ (aOC (by omega) g)), aOD x.dirs (by omega), o x.sels (by omega) (by omega)];rw [tK (show a.length + [(⟨x.kind, x.alias, x.name, x.args, x.dirs, x.on_, x.sels⟩ : GSel)].length <= lim by simp [qY]; omega)];cases x; rfl) (s := ([], 0)) (a := []) rfl rfl
  simp [aCA, key]
theorem bBz l (h:aV l<1073741824):aPJ l=some l:=bBy _ l (by omega) h
open Go Go.Ev Go.RowKit
theorem rR {M w} (h:Cons M w) {b} (d:w.heap.size<=b) i:M b i=none:=by
 cases a:M b i with
 | none=>rfl
 | some v =>
  obtain ⟨arr,T,fz,c,_⟩:=h b i v a;grind
theorem kL {M w w'} (h:Cons M w) (d:∀ k,k<w.heap.size->(∃ i,M k i≠none)->w'.heap[k]?=w.heap[k]?):Cons M w':=by
 intro b i v hv;obtain ⟨arr,T,fz,c,a⟩:=h b i v hv;grind
theorem vC {M w w'} (b:Cons M w) (h:Below w.heap.size w w'):Cons M w':=kL b fun k a _=>h.block k a
structure From (B:Nat) (M:Mem) (w:World) (M':Mem) (w':World):Prop where
 mem:∀ b i v,M b i=some v->M' b i=some v
 old:∀ b,b<B->∀ i,M' b i=M b i
 below:Below B w w'
theorem From.refl B M w:From B M w M w:=⟨fun _ _ _ h=>h,fun _ _ _=>rfl,Below.refl _ _⟩
theorem From.trans {B M M1 d w e c} (h:From B M w M1 e) (k:From B M1 e d c):From B M w d c :=
 ⟨fun b i v hv=>k.mem b i v (h.mem b i v hv),fun b a i=>(k.old b a i).trans (h.old b a i),h.below.trans k.below⟩
theorem From.of_quiet {B M M' w w'} (q:Quiet M w M' w') (a:B<=w.heap.size):From B M w M' w' :=
 ⟨q.mem,fun b d i=>(q.old b (by omega)).2 i,q.os,q.tape,q.output,q.size,fun k c=>(q.old k (by omega)).1⟩
theorem From.of_below {B M w w'} (h:Below B w w'):From B M w M w':=⟨fun _ _ _ h=>h,fun _ _ _=>rfl,h⟩
theorem jG {w w':World} {B e size n:Nat} {v xs} (h:w.ownsRow B e size v n xs) (d:∀ k,v.ownBlock=some k->w'.heap[k]?=w.heap[k]?):w'.ownsRow B e size v n xs:=by
 refine ⟨h.1,?_⟩;rcases h.2 with f | ⟨g,cap,b,rfl,c,a,rest⟩;· grind
 exact .inr ⟨g,cap,b,rfl,c,(d g rfl).trans a,rest⟩
def frzM (B:Nat) (M:Mem) (w:World):Mem:=fun b i=>if B<=b then (match w.heap[b]? with | some (.cells arr _ _)=>arr[i]? | _=>none) else M b i
theorem aUD {B M w} (h:Cons M w):∀ b i v,M b i=some v->frzM B M w b i=some v:=by
 intro b i v hv;unfold frzM;split;· obtain ⟨arr,T,fz,c,a⟩:=h b i v hv;grind
 exact hv
def frzV (v:Value) (M:Mem) (w:World):Mem:=fun b i=>if v.ownBlock=some b then (match w.heap[b]? with | some (.cells arr _ _)=>arr[i]? | _=>none) else M b i
theorem aMD {v M w} (h:Cons M w):Cons (frzV v M w) w:=by
 intro b i u a;unfold frzV at a;split at a;· grind
 exact h b i u a
theorem aAw {v M w} (h:Cons M w):∀ b i u,M b i=some u->frzV v M w b i=some u:=by
 intro b i u a;unfold frzV;split;· obtain ⟨arr,T,fz,d,c⟩:=h b i u a;grind
 exact a
theorem aD5 {v M w b} (h:v.ownBlock≠some b) i:frzV v M w b i=M b i:=by
 unfold frzV;grind
theorem aKh {B' e size n:Nat} {M' l} {w:World} {v xs} (h:w.ownsRow B' e size v n xs) (q:∀ g arr T fz,v.ownBlock=some g->w.heap[g]?=some (.cells arr T fz)->∀ i,M' g i=arr[i]?) es (o:es.length=n) (d:∀ p∈es,okEl size p) (s:∀ i p j c,es[i]?=some p->p.cells[j]?=some c->∃ u,xs[i*size+j]?=some u/\Rv M' l c u) :
  Rv M' l (.slice es [] false) v:=by
 rcases h.2 with ⟨rfl,z⟩ | ⟨g,cap,b,rfl,D,t,m,k,r,x⟩
 ·have:es=[]:=by grind
  subst this;exact .nil false
 subst o;refine .slice es [] false ⟨g,0,none⟩ cap size (fun i j=>(xs[i*size+j]?).getD undef) (fun _=>rfl) (by omega) (by simp) ?_ ?_ ?_;· grind
 ·intro i p j f y;rw [List.append_nil] at f;obtain ⟨_,_,C,_⟩:=d p (List.mem_of_getElem? f);obtain ⟨u,B,_⟩:=s i p j (p.cells[j]'(by omega)) f (by simp);rw [q g b e (0,0) rfl t];grind
 grind
theorem aME {B B' e size n:Nat} {M w v xs} (h:w.ownsRow B' e size v n xs) (b:B<=B'):∀ g arr T fz,v.ownBlock=some g->w.heap[g]?=some (.cells arr T fz)->∀ i,frzM B M w g i=arr[i]?:=by
 intro g arr T fz c a i;unfold frzM;rw [if_pos (Nat.le_trans b (h.lt g c).1),a]
theorem aMF {M w v}:∀ g arr T fz,v.ownBlock=some g->w.heap[g]?=some (.cells arr T fz)->∀ i,frzV v M w g i=arr[i]?:=by
 unfold frzV;grind
theorem lW {M B es v} (h:Rv M B (.slice es [] false) v):∃ a l k,v = .slice a l k:=by
 cases h with
 | nil o=>simp
 | slice es c o a cap s f j e i b g d=>simp
structure OCV (M:Mem) (o:GOp) (v2 v3 v4:Value):Prop where
 r2:Rv M noB (.slice (List.map aB o.vars) [] false) v2
 r3:Rv M noB (.slice (List.map aI o.dirs) [] false) v3
 r4:Rv M noB (.slice (List.map aF o.sels) [] false) v4
abbrev tF (o:GOp) (v2 v3 v4:Value):List Value:=[.int .i64 o.kind,.string ⟨o.name.toArray⟩,v2,v3,v4]
theorem OCV.mono {M M' o c v3 v4} (h:OCV M o c v3 v4) (a:∀ b i v,M b i=some v->M' b i=some v):OCV M' o c v3 v4 :=
 ⟨h.r2.mono a (fun _ _ _ h=>h),h.r3.mono a (fun _ _ _ h=>h),h.r4.mono a (fun _ _ _ h=>h)⟩
inductive OpRow (M:Mem):List GOp->List Value->Prop
 | nil:OpRow M [] []
 | snoc {l:List GOp} {ys:List Value} {x:GOp} {v2 v3 v4:Value} (h:OpRow M l ys) (hc:OCV M x v2 v3 v4):OpRow M (l++[x]) (ys++tF x v2 v3 v4)
theorem OpRow.mono {M M' l ys} (h:OpRow M l ys) (a:∀ b i v,M b i=some v->M' b i=some v):OpRow M' l ys:=by
 induction h with
 | nil=>exact .nil
 | snoc h d c=>exact .snoc c (d.mono a)
theorem aUE {M l ys} (h:OpRow M l ys):ys.length=l.length*5:=by
 induction h with
 | nil=>rfl
 | snoc h b a=>simp;omega
theorem bGm {M l ys} (h:OpRow M l ys):∀ i x,l[i]?=some x->∃ g v3 v4,OCV M x g v3 v4/\∀ j u,(tF x g v3 v4)[j]?=some u->ys[i*5+j]?=some u:=by
 induction h with
 | nil=>intro i x h;simp at h
 | @snoc l ys x g v3 v4 h n q =>
  intro i x' d;have o:=aUE h;rcases Nat.lt_or_ge i l.length with k | m
  ·rw [List.getElem?_append_left k] at d;obtain ⟨a,b,c,r,p⟩:=q i x' d;refine ⟨a,b,c,r,fun j u f => ?_⟩;have s  := by have:=(List.getElem?_eq_some_iff.1 f).1;simpa using this
   rw [List.getElem?_append_left (by omega)];exact p j u f
  rw [List.getElem?_append_right m] at d;have e:i-l.length=0:=by
   rcases Nat.eq_zero_or_pos (i-l.length) with e | e;· exact e
   rw [List.getElem?_eq_none (by simp;omega)] at d;cases d
  rw [e] at d;cases d;refine ⟨g,v3,v4,n,fun j u f => ?_⟩;rw [List.getElem?_append_right (by omega),show i*5+j-ys.length=j by omega];exact f
structure FCV (M:Mem) (f:GFrag) (v2 v3:Value):Prop where
 r2:Rv M noB (.slice (List.map aI f.dirs) [] false) v2
 r3:Rv M noB (.slice (List.map aF f.sels) [] false) v3
abbrev aG9 (f:GFrag) (v2 v3:Value):List Value:=[.string ⟨f.name.toArray⟩,.string ⟨f.on_.toArray⟩,v2,v3]
theorem FCV.mono {M M' o c v3} (h:FCV M o c v3) (a:∀ b i v,M b i=some v->M' b i=some v):FCV M' o c v3 :=
 ⟨h.r2.mono a (fun _ _ _ h=>h),h.r3.mono a (fun _ _ _ h=>h)⟩
inductive FrRow (M:Mem):List GFrag->List Value->Prop
 | nil:FrRow M [] []
 | snoc {l:List GFrag} {ys:List Value} {x:GFrag} {v2 v3:Value} (h:FrRow M l ys) (hc:FCV M x v2 v3):FrRow M (l++[x]) (ys++aG9 x v2 v3)
theorem FrRow.mono {M M' l ys} (h:FrRow M l ys) (a:∀ b i v,M b i=some v->M' b i=some v):FrRow M' l ys:=by
 induction h with
 | nil=>exact .nil
 | snoc h d c=>exact .snoc c (d.mono a)
theorem aUF {M l ys} (h:FrRow M l ys):ys.length=l.length*4:=by
 induction h with
 | nil=>rfl
 | snoc h b a=>simp;omega
theorem bGn {M l ys} (h:FrRow M l ys):∀ i x,l[i]?=some x->∃ a v3,FCV M x a v3/\∀ j u,(aG9 x a v3)[j]?=some u->ys[i*4+j]?=some u:=by
 induction h with
 | nil=>intro i x h;simp at h
 | @snoc l ys x a v3 h d c =>
  have b:=aUF h;grind
inductive RvL (M:Mem) (B:BM):List PV->List Value->Prop
 | nil:RvL M B [] []
 | cons {c:PV} {v:Value} {cs:List PV} {vs:List Value} (h:Rv M B c v) (t:RvL M B cs vs):RvL M B (c::cs) (v::vs)
theorem aZw {M B}:∀ cs vs,vs.length=cs.length->(∀ (i:Nat) c v,cs[i]?=some c->vs[i]?=some v->Rv M B c v)->RvL M B cs vs
 | [],[],_,_ => .nil
 | [],_::_,h,_=>by grind
 | _::_,[],h,_=>by grind
 | c::cs,v::vs,h,a => .cons (a 0 c v rfl rfl) (aZw cs vs (by grind) fun i c v d b=>a (i+1) c v (by grind) (by grind))
theorem bG8 {M B cs v} (h:Rv M B (.agg cs) v):∃ l,v = .agg l.toArray/\RvL M B cs l:=by
 cases h with
 | agg cs vs f g e b =>
  refine ⟨vs.toList,rfl,aZw _ _ (by omega) fun i c v d a => ?_⟩;grind
theorem bJn {M x l} (h:RvL M noB (aR x).cells l):∃ a v3 v4,l=tF x a v3 v4/\OCV M x a v3 v4:=by
 cases h with | cons d h =>
 cases h with | cons f h =>
 cases h with | cons c h =>
 cases h with | cons b h =>
 cases h with | cons e h =>
 cases h;cases d;cases f;exact ⟨_,_,_,rfl,c,b,e⟩
theorem bJo {M x l} (h:RvL M noB (aH x).cells l):∃ a v3,l=aG9 x a v3/\FCV M x a v3:=by
 cases h with | cons d h =>
 cases h with | cons e h =>
 cases h with | cons c h =>
 cases h with | cons b h =>
 cases h;cases d;cases e;exact ⟨_,_,rfl,c,b⟩
theorem aRn {M w l c} (K:Cons M w) (h:Rv M noB (.slice (List.map aR l) [] false) c) :
  ∃ t cap,c = .slice t l.length cap/\l.length<=cap/\(l≠[]->∃ blk off,t=some ⟨blk,off,none⟩)/\∀ blk off,t=some ⟨blk,off,none⟩->∀ k x,l[k]?=some x->∃ q v3 v4,OCV M x q v3 v4/\∀ j v,(tF x q v3 v4)[j]?=some v->M blk (off+k*5+j)=some v:=by
 generalize g:List.map aR l=es at h;cases h with
 | nil o =>
  simp_all
 | slice u L o a cap s f D F I r O J =>
  have y:es.length=l.length:=by rw [<- g];simp
  have d:l.length<=cap:=by omega
  refine ⟨some a,cap,by rw [y],d,fun n=>⟨a.block,a.off,by
   have:=D (by have:=List.length_pos_iff.2 n;omega);obtain ⟨b,o,s⟩:=a;grind⟩,fun blk off m k x z => ?_⟩
  cases m;have p:(es++[])[k]?=some (aR x):=by grind
  have C:s=5:=by
   have:=r k _ p;obtain ⟨_,_,A,_⟩:=this;exact A.symm
  subst C;have H  := (List.getElem?_eq_some_iff.1 z).1;have E:RvL M noB (aR x).cells [f k 0,f k 1,f k 2,f k 3,f k 4]:=by
   refine aZw _ _ (by rfl) fun i c v G N => ?_;grind
  obtain ⟨q,v3,v4,e,B⟩:=bJn E;grind
theorem bGo {M w l c} (K:Cons M w) (h:Rv M noB (.slice (List.map aH l) [] false) c) :
  ∃ r cap,c = .slice r l.length cap/\l.length<=cap/\(l≠[]->∃ blk off,r=some ⟨blk,off,none⟩)/\∀ blk off,r=some ⟨blk,off,none⟩->∀ k x,l[k]?=some x->∃ p v3,FCV M x p v3/\∀ j v,(aG9 x p v3)[j]?=some v->M blk (off+k*4+j)=some v:=by
 generalize t:List.map aH l=es at h;cases h with
 | nil o =>
  simp_all
 | slice u L o a cap s f D F I q O J =>
  have y:es.length=l.length:=by grind
  have d:l.length<=cap:=by omega
  refine ⟨some a,cap,by rw [y],d,fun m=>⟨a.block,a.off,by
   have:=D (by have:=List.length_pos_iff.2 m;omega);obtain ⟨b,o,s⟩:=a;grind⟩,fun blk off g k x z => ?_⟩
  cases g;have n:(es++[])[k]?=some (aH x):=by grind
  have C:s=4:=by
   have:=q k _ n;obtain ⟨_,_,A,_⟩:=this;exact A.symm
  subst C;have H  := (List.getElem?_eq_some_iff.1 z).1;have E:RvL M noB (aH x).cells [f k 0,f k 1,f k 2,f k 3]:=by
   refine aZw _ _ (by rfl) fun i c v G N => ?_;grind
  obtain ⟨p,v3,e,B⟩:=bJo E;grind
theorem dS {M w} (d:Cons M w) {b i v} (h:M b i=some v):w.cell? ⟨b,i,none⟩=some v:=by
 obtain ⟨arr,T,fz,c,a⟩:=d b i v h;rw [cell_of_row w b _ _ _ _ c];exact a
theorem aOO x:okEl 10 (aB x):=by exact ⟨rfl,rfl,rfl,by decide⟩
theorem aKi {M l E n cap} (h:Rv M noB (.slice (List.map aB l) [] false) (.slice E n cap)) :
  n=l.length/\(l≠[]->∃ (blk off:Nat) (d:List Value),E=some ⟨blk,off,none⟩/\d.length=n*10/\(∀ j u,d[j]?=some u->M blk (off+j)=some u)/\(∀ u∈d,u.oneCell'=true) /\
   ∀ i p j c,(List.map aB l)[i]?=some p->p.cells[j]?=some c->∃ u,d[i*10+j]?=some u/\Rv M noB c u):=by
 generalize g:List.map aB l=es at h;cases h with
 | nil o =>
  have:l=[]:=by simpa using g
  subst this;exact ⟨rfl,fun h=>by grind⟩
 | slice G Q o a cap s f P L O m N J =>
  have H:es.length=l.length:=by rw [<- g];simp
  refine ⟨H,fun F => ?_⟩;have z:0<l.length:=by grind
  have y:a.spot=none:=by grind
  have K:s=10:=by
   have I:(es++[])[0]?=some (aB l[0]):=by rw [List.append_nil,<- g,List.getElem?_map,List.getElem?_eq_getElem z];rfl
   obtain ⟨_,_,D,_⟩:=m 0 _ I;rw [dV] at D;exact D.symm
  subst K;have x:∀ q,q<es.length*10->((List.range (es.length*10)).map fun q=>f (q / 10) (q % 10))[q]?=some (f (q / 10) (q % 10)):=fun q t=>by
   rw [List.getElem?_map,List.getElem?_range t];rfl
  have k:∀ q,q<es.length*10->∃ p,(es++[])[q / 10]?=some p/\∃ c,p.cells[q % 10]?=some c:=fun q t=>by
   have C:q / 10<l.length:=by omega
   refine ⟨aB l[q / 10],by rw [List.append_nil,<- g,List.getElem?_map,List.getElem?_eq_getElem C];rfl,?_⟩;have:q % 10<(aB l[q / 10]).cells.length:=by rw [(aOO _).2.2.1];omega
   exact ⟨_,List.getElem?_eq_getElem this⟩
  refine ⟨a.block,a.off,(List.range (es.length*10)).map fun q=>f (q / 10) (q % 10),by obtain ⟨b,o,R⟩:=a;simp at y;rw [y],by simp,fun j u v => ?_,fun u v => ?_,fun i p j c r w => ?_⟩
  ·have A  := by have:=(List.getElem?_eq_some_iff.1 v).1;simpa using this
   rw [x j A] at v;cases v;obtain ⟨p,r,c,w⟩:=k j A;have:=N (j / 10) p (j % 10) r (by omega);have e:a.off+j / 10*10+j % 10=a.off+j:=by omega
   rw [e] at this;exact this
  ·obtain ⟨q,t,rfl⟩:=List.mem_map.1 v;have t:q<es.length*10:=by grind
   obtain ⟨p,r,c,w⟩:=k q t;exact aO5 (m _ _ r) w (J _ _ _ _ r w)
  have C  := (List.getElem?_eq_some_iff.1 r).1;have B:(es++[])[i]?=some p:=by rw [List.append_nil];exact r
  have A  := by have:=(List.getElem?_eq_some_iff.1 w).1;rw [(m _ _ B).2.2.1] at this;exact this
  refine ⟨f i j,?_,by grind⟩;rw [x (i*10+j) (by omega),show (i*10+j) / 10=i by omega,show (i*10+j) % 10=j by omega]
def fstC:Code->Code | .seq a _=>a | c=>c
def sndC:Code->Code | .seq _ b=>b | c=>c
def blkC:Code->Code | .block _ c=>c | c=>c
def lopC:Code->Code | .loop c=>c | c=>c
def bZ (f:Func):Code:=match f.body with | some c=>c | none => .skip
def blA (c:Code):Code:=sndC (fstC (sndC (sndC c)))
def blB (c:Code):Code:=sndC (fstC (sndC (sndC (sndC c))))
def inC (c:Code):Code:=blkC (fstC (sndC (lopC (blkC c))))
def r6C:Code:=fstC (sndC (inC (blA (bZ Tryz.f13))))
def r7C:Code:=fstC (sndC (sndC (inC (blA (bZ Tryz.f13)))))
def r8C:Code:=sndC (sndC (sndC (inC (blA (bZ Tryz.f13)))))
structure Stp (H:Nat) (M:Mem) (w:World) (M':Mem) (w':World):Prop where
 mem:∀ b i v,M b i=some v->M' b i=some v
 blk:∀ b,b<w.heap.size->b≠H->w'.heap[b]?=w.heap[b]?
 old:∀ b,b<w.heap.size->∀ i,M' b i=M b i
 os:w'.os=w.os
 tape:w'.tape=w.tape
 output:w'.output=w.output
 size:w.heap.size<=w'.heap.size
 cons:Cons M' w'
theorem Stp.refl {H M w} (a:Cons M w):Stp H M w M w:=⟨fun _ _ _ h=>h,fun _ _ _=>rfl,fun _ _ _=>rfl,rfl,rfl,rfl,by omega,a⟩
theorem Stp.trans {H M M1 d w e c} (h:Stp H M w M1 e) (k:Stp H M1 e d c):Stp H M w d c :=
 ⟨fun b i v hv=>k.mem b i v (h.mem b i v hv),fun b a f=>(k.blk b (Nat.lt_of_lt_of_le a h.size) f).trans (h.blk b a f),fun b a i=>(k.old b (Nat.lt_of_lt_of_le a h.size) i).trans (h.old b a i),k.os.trans h.os,k.tape.trans h.tape,k.output.trans h.output,Nat.le_trans h.size k.size,k.cons⟩
theorem Stp.quiet {H M M' w w'} (q:Quiet M w M' w') (c:Cons M' w'):Stp H M w M' w':=⟨q.mem,fun b a _=>(q.old b a).1,fun b a=>(q.old b a).2,q.os,q.tape,q.output,q.size,c⟩
theorem qG {M w} (a:Cons M w):Cons M w.drew:=fun b i v h=>a b i v h
theorem Stp.drew {H M w} (a:Cons M w):Stp H M w M w.drew:=⟨fun _ _ _ h=>h,fun _ _ _=>rfl,fun _ _ _=>rfl,rfl,rfl,rfl,Nat.le_refl _,a⟩
theorem Stp.set {H M w} (a:Cons M w) (g:∀ i,M H i=none) j u:Stp H M w M (w.setCell ⟨H,j,none⟩ u) :=
 ⟨fun _ _ _ h=>h,fun b _ c=>Below.heap_setCell _ _ _ _ c,fun _ _ _=>rfl,rfl,rfl,rfl,by simp,kL a fun k f ⟨i,d⟩=>Below.heap_setCell _ _ _ _ fun e=>by grind⟩
theorem Stp.free {H M M' w w'} (h:Stp H M w M' w') (b:H<w.heap.size) (a:∀ i,M H i=none):∀ i,M' H i=none:=fun i=>(h.old H b i).trans (a i)
theorem addN b o j:(⟨b,o,none⟩:Addr).add j=⟨b,o+j,none⟩:=by unfold Addr.add;simp
theorem bJY P a w:Sem.run P (loadCellsFrom a 0 0 #[]) w = .ok #[] w:=rfl
theorem Tryz.u35:Tryz.prog.underlying 35=some (.slice 54):=by simp
def aMG (o:Option TypeInfo) (s b:Nat):Bool:=match o with | some i=>(match i.zero with | some z=>z.cells.size==s&&(i.size==s&&i.bytes==b) | none=>false) | none=>false
theorem aIs {o s b} (h:aMG o s b=true):∃ i z,o=some i/\i.zero=some z/\i.size=s/\i.bytes=b/\z.cells.size=s:=by
 cases o with
 | none=>simp [aMG] at h
 | some i =>
  cases a:i.zero with
  | none=>simp [aMG,a] at h
  | some z =>
   simp [aMG] at h;grind
theorem Tryz.i54:aMG (Tryz.prog.info? 54) 10 136=true:=by kernel_rfl
theorem Tryz.i38:aMG (Tryz.prog.info? 38) 5 96=true:=by kernel_rfl
theorem Tryz.i68:aMG (Tryz.prog.info? 68) 4 80=true:=by kernel_rfl
theorem Tryz.u25:Tryz.prog.underlying 25=some (.slice 38):=by simp
theorem Tryz.u26:Tryz.prog.underlying 26=some (.slice 68):=by simp
theorem aUG l (j:bkSl fD l<1073741824) {M w} v (g:Cons M w) (c:Rv M noB (.slice (List.map aI l) [] false) v) :
  Calls Tryz.prog 36 #[v] w fun e w'=>∃ a n p M',e = .returned (.slice a n p)/\Rv M' noB (.slice (List.map aI l) [] false) (.slice a n p)/\Cons M' w'/\Quiet M w M' w':=by
 have h:=aOD l j;have f:O 36 [.slice (List.map aI l) [] false] []=some (.slice (List.map aI l) [] false,[]):=bA (enc:=fun r=>(aDD r,[])) h;have key:=mA pokX xok f (M:=M) (w:=w) (vals := #[v]) rfl g ⟨rfl,fun i p b=>by
  match i,b with
  | 0,b=>cases b;exact ⟨c,aS rfl⟩
  | i+1,b=>grind⟩
 refine key.mono ?_;rintro e w' ⟨v,M',rfl,hv,d,k⟩;obtain ⟨a,n,p,rfl⟩:=lW hv;grind
theorem aUH l (j:aV l<1073741824) {M w} v (g:Cons M w) (c:Rv M noB (.slice (List.map aF l) [] false) v) :
  Calls Tryz.prog 37 #[v] w fun e w'=>∃ a n p M',e = .returned (.slice a n p)/\Rv M' noB (.slice (List.map aF l) [] false) (.slice a n p)/\Cons M' w'/\Quiet M w M' w':=by
 have h:=bBz l j;have f:O 37 [.slice (List.map aF l) [] false] []=some (.slice (List.map aF l) [] false,[]):=bA (enc:=fun r=>(aDB r,[])) h;have key:=mA pokX xok f (M:=M) (w:=w) (vals := #[v]) rfl g ⟨rfl,fun i p b=>by
  match i,b with
  | 0,b=>cases b;exact ⟨c,aS rfl⟩
  | i+1,b=>grind⟩
 refine key.mono ?_;rintro e w' ⟨v,M',rfl,hv,d,k⟩;obtain ⟨a,n,p,rfl⟩:=lW hv;grind
end Go.Proofs.YtphmfillajagdaaGreat
set_option maxHeartbeats 16000000
open Go Go.Ev Go.RowKit
namespace Go.Proofs.YtphmfillajagdaaGreat
def r13C:Code:=fstC (sndC (inC (blB (bZ Tryz.f13))))
def r14C:Code:=sndC (sndC (inC (blB (bZ Tryz.f13))))
theorem bGp {M w} H (x:GOp) a2 l2 p2 a3 l3 p3 a4 l4 p4 (hc:Cons M w) (D:w.heap[H]?=some (.cells #[.int .i64 x.kind,.string ⟨x.name.toArray⟩,.slice a2 l2 p2,.slice a3 l3 p3,.slice a4 l4 p4] 38 (0,0))) (hf:∀ i,M H i=none) (hr3:Rv M noB (.slice (List.map aI x.dirs) [] false) (.slice a3 l3 p3)) (hr4:Rv M noB (.slice (List.map aF x.sels) [] false) (.slice a4 l4 p4)) (hl3:bkSl fD x.dirs<1073741824) (hl4:aV x.sels<1073741824) Q v0 v1 v2 v3 v4 v6 v7 v8 v9 v10 P v12 v13 v14 S v16 v17 X v19 v20 Y T v23 J v25 v26 v27 v28 v29 v30 v31 v32 W K v35 I v37 v38 v39 v40 v41 v42 v43 U v45 V v47 v48 v49 L v51 E C Z v55 v56 O R v59 v60 v61 v62 G v64 N
  (hC:∀ w' M' r m s z v o B q u p t A n y,Stp H M w M' w'->w'.heap[H]?=some (.cells #[.int .i64 x.kind,.string ⟨x.name.toArray⟩,.slice a2 l2 p2,.slice r m s,.slice z v o] 38 (0,0))->Rv M' noB (.slice (List.map aI x.dirs) [] false) (.slice r m s)->Rv M' noB (.slice (List.map aF x.sels) [] false) (.slice z v o)->Q .normal ⟨#[v0,v1,v2,v3,v4,.pointer (some ⟨H,0,none⟩),v6,v7,v8,v9,v10,P,v12,v13,v14,S,v16,v17,X,v19,v20,Y,T,v23,J,B,q,u,p,t,A,n,y,W,K,v35,I,v37,v38,v39,v40,v41,v42,v43,U,v45,V,v47,v48,v49,L,v51,E,C,Z,v55,v56,O,R,v59,v60,v61,v62,G,v64,N],[]⟩ w') :
  Code.wp Tryz.prog r7C Q ⟨#[v0,v1,v2,v3,v4,.pointer (some ⟨H,0,none⟩),v6,v7,v8,v9,v10,P,v12,v13,v14,S,v16,v17,X,v19,v20,Y,T,v23,J,v25,v26,v27,v28,v29,v30,v31,v32,W,K,v35,I,v37,v38,v39,v40,v41,v42,v43,U,v45,V,v47,v48,v49,L,v51,E,C,Z,v55,v56,O,R,v59,v60,v61,v62,G,v64,N],[]⟩ w:=by
 have g:H<w.heap.size:=(Array.getElem?_eq_some_iff.1 D).1;have k3:w.cell? ⟨H,3,none⟩=some (.slice a3 l3 p3):=by rw [cell_of_row w H _ _ _ _ D];rfl
 have k4:w.cell? ⟨H,4,none⟩=some (.slice a4 l4 p4):=by rw [cell_of_row w H _ _ _ _ D];rfl
 have fin:Hid (∀ (d j:World) (c l:Mem) (r:Option Addr) (m s:Nat) (z:Option Addr) (v o:Nat) (B q u p t A n y:Value),Cons c d->Quiet M w.drew c d->Cons l j->Quiet c d l j->Rv c noB (.slice (List.map aI x.dirs) [] false) (.slice r m s)->Rv l noB (.slice (List.map aF x.sels) [] false) (.slice z v o)->Q .normal ⟨#[v0,v1,v2,v3,v4,.pointer (some ⟨H,0,none⟩),v6,v7,v8,v9,v10,P,v12,v13,v14,S,v16,v17,X,v19,v20,Y,T,v23,J,B,q,u,p,t,A,n,y,W,K,v35,I,v37,v38,v39,v40,v41,v42,v43,U,v45,V,v47,v48,v49,L,v51,E,C,Z,v55,v56,O,R,v59,v60,v61,v62,G,v64,N],[]⟩ ((j.setCell ⟨H,3,none⟩ (.slice r m s)).setCell ⟨H,4,none⟩ (.slice z v o))):=by
  intro d j c l r m s z v o B q u p t A n y k b hc3 f h3 h4;have S0:=((Stp.drew (H:=H) hc).trans (Stp.quiet b k)).trans (Stp.quiet f hc3);have S1:=S0.trans (Stp.set S0.cons (S0.free g hf) 3 (.slice r m s));have S2:=S1.trans (Stp.set S1.cons (S1.free g hf) 4 (.slice z v o));have e2:j.heap[H]?=w.heap[H]?:=(f.old H (Nat.lt_of_lt_of_le g b.size)).1.trans (b.old H g).1;exact hC _ _ _ _ _ _ _ _ _ _ _ _ _ _ _ _ S2 (heap_setCell_same _ H 4 _ _ _ (heap_setCell_same _ H 3 _ _ _ (e2.trans D))) (h3.mono f.mem (fun _ _ _ h=>h)) h4
 have h36:=aUG x.dirs hl3 (M:=M) (w:=w.drew) (.slice a3 l3 p3) (qG hc) hr3;have F:=fun (c:Mem) (d:World) (k:Cons c d) (b:Quiet M w.drew c d)=>aUH x.sels hl4 (M:=c) (w:=d) (.slice a4 l4 p4) k (hr4.mono b.mem (fun _ _ _ h=>h));have hcl:Hid (∀ (c:Mem) (d:World),Quiet M w.drew c d->d.cell? ⟨H,4,none⟩=some (.slice a4 l4 p4)):=fun c d b=>(World.cell?_of_block (a:=⟨H,4,none⟩) (b.old H g).1).trans k4;have hst:Hid (∀ (c:Mem) (d:World) (l:Mem) j,Quiet M w.drew c d->Quiet c d l j->j.cell? ⟨H,3,none⟩=some (.slice a3 l3 p3)/\j.frozen? ⟨H,3,none⟩=false/\j.cell? ⟨H,4,none⟩=some (.slice a4 l4 p4)/\j.frozen? ⟨H,4,none⟩=false):=by
  intro c d l j b f;have e2  := (f.old H (Nat.lt_of_lt_of_le g b.size)).1.trans (b.old H g).1;exact ⟨(World.cell?_of_block (a:=⟨H,3,none⟩) e2).trans k3,frozen_of_row _ _ _ _ _ (e2.trans D),(World.cell?_of_block (a:=⟨H,4,none⟩) e2).trans k4,frozen_of_row _ _ _ _ _ (e2.trans D)⟩
 replace F:=(id F:Hid _);clear hC D;refine Code.wp_mono (Q:=Exit.then (Q .normal) (fun _ _ _=>False)) (fun e a w h=>by cases e<;>first | exact h | exact h.elim) ?_;unfold r7C;simp [Tryz.f13,bZ,inC,blA,blkC,lopC,fstC,sndC];go_wp2;go_region_with (first | (go_at_call 36;refine h36.mono ?_;rintro e' d ⟨r,m,s,c,rfl,hv3,k,b⟩;have j4:=hcl.out c d b) | (go_at_call 37;have h37b:=F.out c d k b;refine h37b.mono ?_;rintro e' j ⟨z,v,o,l,rfl,hv4,hc3,f⟩;obtain ⟨i1,i2,i3,i4⟩:=hst.out c d l j b f));all_goals exact fin.out d j c l r m s z v o _ _ _ _ _ _ _ _ k b hc3 f hv3 hv4
theorem bGq {M w} H (x:GFrag) a3 l3 p3 a4 l4 p4 (hc:Cons M w) (C:w.heap[H]?=some (.cells #[.string ⟨x.name.toArray⟩,.string ⟨x.on_.toArray⟩,.slice a3 l3 p3,.slice a4 l4 p4] 68 (0,0))) (hf:∀ i,M H i=none) (hr3:Rv M noB (.slice (List.map aI x.dirs) [] false) (.slice a3 l3 p3)) (hr4:Rv M noB (.slice (List.map aF x.sels) [] false) (.slice a4 l4 p4)) (hl3:bkSl fD x.dirs<1073741824) (hl4:aV x.sels<1073741824) Q v0 v1 v2 v3 v4 v5 v6 v8 v9 v10 P v12 v13 v14 T v16 v17 Y v19 v20 Z U v23 G I L R v28 S O v31 v32 X J v35 F v37 v38 v39 v40 v41 v42 v43 V v45 W v47 v48 v49 K v51 v52 v53 v54 v55 v56 v57 v58 v59 v60 v61 v62 E v64 N
  (hC:∀ w' M' t n u y v s p A q m o B r z,Stp H M w M' w'->w'.heap[H]?=some (.cells #[.string ⟨x.name.toArray⟩,.string ⟨x.on_.toArray⟩,.slice t n u,.slice y v s] 68 (0,0))->Rv M' noB (.slice (List.map aI x.dirs) [] false) (.slice t n u)->Rv M' noB (.slice (List.map aF x.sels) [] false) (.slice y v s)->Q .normal ⟨#[v0,v1,v2,v3,v4,v5,v6,.pointer (some ⟨H,0,none⟩),v8,v9,v10,P,v12,v13,v14,T,v16,v17,Y,v19,v20,Z,U,v23,G,I,L,R,v28,S,O,v31,v32,X,J,v35,F,v37,v38,v39,v40,v41,v42,v43,V,v45,W,v47,v48,v49,K,p,A,q,m,o,B,r,z,v59,v60,v61,v62,E,v64,N],[]⟩ w') :
  Code.wp Tryz.prog r13C Q ⟨#[v0,v1,v2,v3,v4,v5,v6,.pointer (some ⟨H,0,none⟩),v8,v9,v10,P,v12,v13,v14,T,v16,v17,Y,v19,v20,Z,U,v23,G,I,L,R,v28,S,O,v31,v32,X,J,v35,F,v37,v38,v39,v40,v41,v42,v43,V,v45,W,v47,v48,v49,K,v51,v52,v53,v54,v55,v56,v57,v58,v59,v60,v61,v62,E,v64,N],[]⟩ w:=by
 have g:H<w.heap.size:=(Array.getElem?_eq_some_iff.1 C).1;have k3:w.cell? ⟨H,2,none⟩=some (.slice a3 l3 p3):=by rw [cell_of_row w H _ _ _ _ C];rfl
 have k4:w.cell? ⟨H,3,none⟩=some (.slice a4 l4 p4):=by rw [cell_of_row w H _ _ _ _ C];rfl
 have fin:Hid (∀ (d j:World) (c l:Mem) (t:Option Addr) (n u:Nat) (y:Option Addr) (v s:Nat) (p A q m o B r z:Value),Cons c d->Quiet M w.drew c d->Cons l j->Quiet c d l j->Rv c noB (.slice (List.map aI x.dirs) [] false) (.slice t n u)->Rv l noB (.slice (List.map aF x.sels) [] false) (.slice y v s)->Q .normal ⟨#[v0,v1,v2,v3,v4,v5,v6,.pointer (some ⟨H,0,none⟩),v8,v9,v10,P,v12,v13,v14,T,v16,v17,Y,v19,v20,Z,U,v23,G,I,L,R,v28,S,O,v31,v32,X,J,v35,F,v37,v38,v39,v40,v41,v42,v43,V,v45,W,v47,v48,v49,K,p,A,q,m,o,B,r,z,v59,v60,v61,v62,E,v64,N],[]⟩ ((j.setCell ⟨H,2,none⟩ (.slice t n u)).setCell ⟨H,3,none⟩ (.slice y v s))):=by
  intro d j c l t n u y v s p A q m o B r z k b hc3 f h3 h4;have S0:=((Stp.drew (H:=H) hc).trans (Stp.quiet b k)).trans (Stp.quiet f hc3);have S1:=S0.trans (Stp.set S0.cons (S0.free g hf) 2 (.slice t n u));have S2:=S1.trans (Stp.set S1.cons (S1.free g hf) 3 (.slice y v s));have e2:j.heap[H]?=w.heap[H]?:=(f.old H (Nat.lt_of_lt_of_le g b.size)).1.trans (b.old H g).1;exact hC _ _ _ _ _ _ _ _ _ _ _ _ _ _ _ _ S2 (heap_setCell_same _ H 3 _ _ _ (heap_setCell_same _ H 2 _ _ _ (e2.trans C))) (h3.mono f.mem (fun _ _ _ h=>h)) h4
 have h36:=aUG x.dirs hl3 (M:=M) (w:=w.drew) (.slice a3 l3 p3) (qG hc) hr3;have D:=fun (c:Mem) (d:World) (k:Cons c d) (b:Quiet M w.drew c d)=>aUH x.sels hl4 (M:=c) (w:=d) (.slice a4 l4 p4) k (hr4.mono b.mem (fun _ _ _ h=>h));have hcl:Hid (∀ (c:Mem) (d:World),Quiet M w.drew c d->d.cell? ⟨H,3,none⟩=some (.slice a4 l4 p4)):=fun c d b=>(World.cell?_of_block (a:=⟨H,3,none⟩) (b.old H g).1).trans k4;have hst:Hid (∀ (c:Mem) (d:World) (l:Mem) j,Quiet M w.drew c d->Quiet c d l j->j.cell? ⟨H,2,none⟩=some (.slice a3 l3 p3)/\j.frozen? ⟨H,2,none⟩=false/\j.cell? ⟨H,3,none⟩=some (.slice a4 l4 p4)/\j.frozen? ⟨H,3,none⟩=false):=by
  intro c d l j b f;have e2  := (f.old H (Nat.lt_of_lt_of_le g b.size)).1.trans (b.old H g).1;exact ⟨(World.cell?_of_block (a:=⟨H,2,none⟩) e2).trans k3,frozen_of_row _ _ _ _ _ (e2.trans C),(World.cell?_of_block (a:=⟨H,3,none⟩) e2).trans k4,frozen_of_row _ _ _ _ _ (e2.trans C)⟩
 replace D:=(id D:Hid _);clear hC C;refine Code.wp_mono (Q:=Exit.then (Q .normal) (fun _ _ _=>False)) (fun e a w h=>by cases e<;>first | exact h | exact h.elim) ?_;unfold r13C;simp [Tryz.f13,bZ,inC,blA,blB,blkC,lopC,fstC,sndC];go_wp2;go_region_with (first | (go_at_call 36;refine h36.mono ?_;rintro e' d ⟨t,n,u,c,rfl,hv3,k,b⟩;have j4:=hcl.out c d b) | (go_at_call 37;have h37b:=D.out c d k b;refine h37b.mono ?_;rintro e' j ⟨y,v,s,l,rfl,hv4,hc3,f⟩;obtain ⟨i1,i2,i3,i4⟩:=hst.out c d l j b f));all_goals exact fin.out d j c l t n u y v s _ _ _ _ _ _ _ _ k b hc3 f hv3 hv4
open Go Go.Ev Go.RowKit
theorem bJp {w} H Z B (x:GOp) p s j q l o r k m z n cap ys vz (A:w.heap[H]?=some (.cells #[.int .i64 x.kind,.string ⟨x.name.toArray⟩,.slice p s j,.slice q l o,.slice r k m] 38 (0,0))) (hZ:w.heap[Z]?=some (.cells #[.slice z n cap,vz] 28 (0,0))) (t:w.ownsRow B 38 5 (.slice z n cap) n ys) (hZB:Z<B) (hB:B<=w.heap.size) (hn:n<=1048576) Q v0 v1 v2 v4 v6 v7 v8 v9 v10 N v12 v13 v14 S v16 v17 W v19 v20 X T v23 F G J P v28 R M v31 v32 v33 v34 v35 v36 v37 v38 v39 v40 v41 v42 v43 U v45 V v47 v48 v49 I v51 D C Y v55 v56 L O v59 v60 v61 v62 E v64 K
  (hC:∀ w' g d z33 z34 z35 z36 z37 z38,w'.ownsRow B 38 5 (.slice (some ⟨g,0,none⟩) (n+1) d) (n+1) (ys++[.int .i64 x.kind,.string ⟨x.name.toArray⟩,.slice p s j,.slice q l o,.slice r k m])->w'.heap[Z]?=some (.cells #[.slice (some ⟨g,0,none⟩) (n+1) d,vz] 28 (0,0))->(∀ b,b<w.heap.size->b≠Z->(Value.slice z n cap).ownBlock≠some b->w'.heap[b]?=w.heap[b]?)->((Value.slice z n cap).ownBlock=some g∨w.heap.size<=g)->w'.os=w.os->w'.tape=w.tape->w'.output=w.output->w.heap.size<=w'.heap.size->Q .normal ⟨#[v0,v1,v2,.pointer (some ⟨Z,0,none⟩),v4,.pointer (some ⟨H,0,none⟩),v6,v7,v8,v9,v10,N,v12,v13,v14,S,v16,v17,W,v19,v20,X,T,v23,F,G,J,P,v28,R,M,v31,v32,z33,z34,z35,z36,z37,z38,v39,v40,v41,v42,v43,U,v45,V,v47,v48,v49,I,v51,D,C,Y,v55,v56,L,O,v59,v60,v61,v62,E,v64,K],[]⟩ w') :
  Code.wp Tryz.prog r8C Q ⟨#[v0,v1,v2,.pointer (some ⟨Z,0,none⟩),v4,.pointer (some ⟨H,0,none⟩),v6,v7,v8,v9,v10,N,v12,v13,v14,S,v16,v17,W,v19,v20,X,T,v23,F,G,J,P,v28,R,M,v31,v32,v33,v34,v35,v36,v37,v38,v39,v40,v41,v42,v43,U,v45,V,v47,v48,v49,I,v51,D,C,Y,v55,v56,L,O,v59,v60,v61,v62,E,v64,K],[]⟩ w:=by
 have hHl:H<w.heap.size:=(Array.getElem?_eq_some_iff.1 A).1;have hZl:Z<w.heap.size:=(Array.getElem?_eq_some_iff.1 hZ).1;obtain ⟨i0,z0,hi,hz0,hz1,hz2,hzc⟩:=aIs Tryz.i38;have k3:w.cell? ⟨Z,0,none⟩=some (.slice z n cap):=by rw [cell_of_row w Z _ _ _ _ hZ];rfl
 have c0:w.cell? ⟨H,0,none⟩=_:=cell_of_row w H 0 _ _ _ A;have c1:w.cell? ⟨H,1,none⟩=_:=cell_of_row w H 1 _ _ _ A;have c2:w.cell? ⟨H,2,none⟩=_:=cell_of_row w H 2 _ _ _ A;have c3  := cell_of_row w H 3 _ _ _ A;have c4  := cell_of_row w H 4 _ _ _ A;simp [List.getElem?_toArray,List.getElem?_cons_zero,List.getElem?_cons_succ] at c0 c1 c2 c3 c4;have hn0:=World.news_of_block (cs := #[.int .i64 x.kind,.string ⟨x.name.toArray⟩,.slice p s j,.slice q l o,.slice r k m]) (heap_alloc_new w (.cells #[.int .i64 x.kind,.string ⟨x.name.toArray⟩,.slice p s j,.slice q l o,.slice r k m] 38));have y:=t.alloc (.cells #[.int .i64 x.kind,.string ⟨x.name.toArray⟩,.slice p s j,.slice q l o,.slice r k m] 38);have hsz:(w.alloc (.cells #[.int .i64 x.kind,.string ⟨x.name.toArray⟩,.slice p s j,.slice q l o,.slice r k m] 38)).heap.size=w.heap.size+1:=by simp
 have hBs:B<=(w.alloc (.cells #[.int .i64 x.kind,.string ⟨x.name.toArray⟩,.slice p s j,.slice q l o,.slice r k m] 38)).heap.size:=by omega
 replace hC:=(id hC:Hid _);have v:(Value.slice z n cap).ownBlock≠some Z:=fun e=>by have:=(t.lt Z e).1;omega
 have f:(w.alloc (.cells #[.int .i64 x.kind,.string ⟨x.name.toArray⟩,.slice p s j,.slice q l o,.slice r k m] 38)).heap[Z]?=w.heap[Z]?:=heap_alloc_old w _ hZl;replace v:=(id v:Hid _);replace f:=(id f:Hid _);unfold r8C;simp [Tryz.f13,bZ,inC,blA,blB,blkC,lopC,fstC,sndC];go_wp2_with (at_builtin;refine wpList_append_lies _ rfl (.tmp 34) (.tmp 36) 25 rfl B 38 i0 _ 5 96 Tryz.u25 hi hz0 hz1 hz2 hzc (by decide) (.slice z n cap) n ys rfl y ⟨w.heap.size,0,none⟩ 1 1 [.int .i64 x.kind,.string ⟨x.name.toArray⟩,.slice p s j,.slice q l o,.slice r k m] rfl rfl hn0 (by intro u hu;simp [List.mem_cons,List.not_mem_nil,or_false] at hu;rcases hu with rfl | rfl | rfl | rfl | rfl<;>rfl) (by decide) (by simp [maxLen];omega) (by omega) hBs _ rfl ?_;intro g d w1 i c hat hlt;have e1:=c.block Z (by rw [hsz];omega) (fun e=>v.out e.symm);have k4:=(World.cell?_of_block (a:=⟨Z,0,none⟩) (e1.trans f.out)).trans k3;have k5:=frozen_of_row w1 Z 0 _ _ ((e1.trans f.out).trans hZ));refine hC.out _ g d _ _ _ _ _ _ (ownsRow_setCell_other i (a:=⟨Z,0,none⟩) (by have:=(i.lt g rfl).1;simp [Value.ownBlock];omega) _) (heap_setCell_same w1 Z 0 _ _ _ (e1.trans (f.out.trans hZ))) ?_ ?_ c.os c.tape c.output ?_;· intro b hb hbz hbo;rw [Below.heap_setCell _ _ _ _ hbz];exact (c.block b (by omega) (fun e=>hbo e.symm)).trans (heap_alloc_old w _ hb)
 ·rcases hat with h | h;· exact .inl h
  omega
 have:=c.size;simp;omega
theorem bJq {w} H Z B (x:GFrag) o k m p j l t n cap ys vz (y:w.heap[H]?=some (.cells #[.string ⟨x.name.toArray⟩,.string ⟨x.on_.toArray⟩,.slice o k m,.slice p j l] 68 (0,0))) (hZ:w.heap[Z]?=some (.cells #[vz,.slice t n cap] 28 (0,0))) (q:w.ownsRow B 68 4 (.slice t n cap) n ys) (hZB:Z<B) (hB:B<=w.heap.size) (hn:n<=1048576) Q v0 v1 v2 v4 v5 v6 v8 v9 v10 L v12 v13 v14 P v16 v17 V v19 v20 W R v23 C D G N v28 O K v31 Y U E v35 A v37 v38 v39 v40 v41 v42 v43 S v45 T v47 v48 v49 F v51 z v X v55 v56 J M v59 v60 v61 v62 v63 v64 I
  (hC:∀ w' g d z59 z60 z61 z62 z63 z64,w'.ownsRow B 68 4 (.slice (some ⟨g,0,none⟩) (n+1) d) (n+1) (ys++[.string ⟨x.name.toArray⟩,.string ⟨x.on_.toArray⟩,.slice o k m,.slice p j l])->w'.heap[Z]?=some (.cells #[vz,.slice (some ⟨g,0,none⟩) (n+1) d] 28 (0,0))->(∀ b,b<w.heap.size->b≠Z->(Value.slice t n cap).ownBlock≠some b->w'.heap[b]?=w.heap[b]?)->((Value.slice t n cap).ownBlock=some g∨w.heap.size<=g)->w'.os=w.os->w'.tape=w.tape->w'.output=w.output->w.heap.size<=w'.heap.size->Q .normal ⟨#[v0,v1,v2,.pointer (some ⟨Z,0,none⟩),v4,v5,v6,.pointer (some ⟨H,0,none⟩),v8,v9,v10,L,v12,v13,v14,P,v16,v17,V,v19,v20,W,R,v23,C,D,G,N,v28,O,K,v31,Y,U,E,v35,A,v37,v38,v39,v40,v41,v42,v43,S,v45,T,v47,v48,v49,F,v51,z,v,X,v55,v56,J,M,z59,z60,z61,z62,z63,z64,I],[]⟩ w') :
  Code.wp Tryz.prog r14C Q ⟨#[v0,v1,v2,.pointer (some ⟨Z,0,none⟩),v4,v5,v6,.pointer (some ⟨H,0,none⟩),v8,v9,v10,L,v12,v13,v14,P,v16,v17,V,v19,v20,W,R,v23,C,D,G,N,v28,O,K,v31,Y,U,E,v35,A,v37,v38,v39,v40,v41,v42,v43,S,v45,T,v47,v48,v49,F,v51,z,v,X,v55,v56,J,M,v59,v60,v61,v62,v63,v64,I],[]⟩ w:=by
 have hHl:H<w.heap.size:=(Array.getElem?_eq_some_iff.1 y).1;have hZl:Z<w.heap.size:=(Array.getElem?_eq_some_iff.1 hZ).1;obtain ⟨i0,z0,hi,hz0,hz1,hz2,hzc⟩:=aIs Tryz.i68;have k3:w.cell? ⟨Z,1,none⟩=some (.slice t n cap):=by rw [cell_of_row w Z _ _ _ _ hZ];rfl
 have c0:w.cell? ⟨H,0,none⟩=_:=cell_of_row w H 0 _ _ _ y;have c1:w.cell? ⟨H,1,none⟩=_:=cell_of_row w H 1 _ _ _ y;have c2  := cell_of_row w H 2 _ _ _ y;have c3  := cell_of_row w H 3 _ _ _ y;simp [List.getElem?_toArray,List.getElem?_cons_zero,List.getElem?_cons_succ] at c0 c1 c2 c3;have hn0:=World.news_of_block (cs := #[.string ⟨x.name.toArray⟩,.string ⟨x.on_.toArray⟩,.slice o k m,.slice p j l]) (heap_alloc_new w (.cells #[.string ⟨x.name.toArray⟩,.string ⟨x.on_.toArray⟩,.slice o k m,.slice p j l] 68));have s:=q.alloc (.cells #[.string ⟨x.name.toArray⟩,.string ⟨x.on_.toArray⟩,.slice o k m,.slice p j l] 68);have hsz:(w.alloc (.cells #[.string ⟨x.name.toArray⟩,.string ⟨x.on_.toArray⟩,.slice o k m,.slice p j l] 68)).heap.size=w.heap.size+1:=by simp
 have hBs:B<=(w.alloc (.cells #[.string ⟨x.name.toArray⟩,.string ⟨x.on_.toArray⟩,.slice o k m,.slice p j l] 68)).heap.size:=by omega
 replace hC:=(id hC:Hid _);have r:(Value.slice t n cap).ownBlock≠some Z:=fun e=>by have:=(q.lt Z e).1;omega
 have f:(w.alloc (.cells #[.string ⟨x.name.toArray⟩,.string ⟨x.on_.toArray⟩,.slice o k m,.slice p j l] 68)).heap[Z]?=w.heap[Z]?:=heap_alloc_old w _ hZl;replace r:=(id r:Hid _);replace f:=(id f:Hid _);unfold r14C;simp [Tryz.f13,bZ,inC,blA,blB,blkC,lopC,fstC,sndC];go_wp2_with (at_builtin;refine wpList_append_lies _ rfl (.tmp 60) (.tmp 62) 26 rfl B 68 i0 _ 4 80 Tryz.u26 hi hz0 hz1 hz2 hzc (by decide) (.slice t n cap) n ys rfl s ⟨w.heap.size,0,none⟩ 1 1 [.string ⟨x.name.toArray⟩,.string ⟨x.on_.toArray⟩,.slice o k m,.slice p j l] rfl rfl hn0 (by intro u hu;simp [List.mem_cons,List.not_mem_nil,or_false] at hu;rcases hu with rfl | rfl | rfl | rfl<;>rfl) (by decide) (by simp [maxLen];omega) (by omega) hBs _ rfl ?_;intro g d w1 i c hat hlt;have e1:=c.block Z (by rw [hsz];omega) (fun e=>r.out e.symm);have k4:=(World.cell?_of_block (a:=⟨Z,1,none⟩) (e1.trans f.out)).trans k3;have k5:=frozen_of_row w1 Z 1 _ _ ((e1.trans f.out).trans hZ));refine hC.out _ g d _ _ _ _ _ _ (ownsRow_setCell_other i (a:=⟨Z,1,none⟩) (by have:=(i.lt g rfl).1;simp [Value.ownBlock];omega) _) (heap_setCell_same w1 Z 1 _ _ _ (e1.trans (f.out.trans hZ))) ?_ ?_ c.os c.tape c.output ?_;· intro b hb hbz hbo;rw [Below.heap_setCell _ _ _ _ hbz];exact (c.block b (by omega) (fun e=>hbo e.symm)).trans (heap_alloc_old w _ hb)
 ·rcases hat with h | h;· exact .inl h
  omega
 have:=c.size;simp;omega
def cAC:Code:=fstC (lopC (blkC (blA (bZ Tryz.f13))))
def r5C:Code:=fstC (inC (blA (bZ Tryz.f13)))
def r4C:Code:=sndC (sndC (lopC (blkC (blA (bZ Tryz.f13)))))
theorem aBs {w:World} {B e size n:Nat} {v xs} (h:w.ownsRow B e size v n xs):∃ b cap,v = .slice b n cap:=by
 rcases h.2 with ⟨rfl,c⟩ | ⟨g,cap,a,rfl,_⟩;all_goals grind
theorem Stp.alloc {H M w} (d:Cons M w) o:Stp H M w M (w.alloc o):=⟨fun _ _ _ h=>h,fun b c _=>heap_alloc_old w o c,fun _ _ _=>rfl,rfl,rfl,rfl,by simp,kL d fun k a _=>heap_alloc_old w o a⟩
theorem aMH {w:World} {B e size g n cap:Nat} {xs} (h:w.ownsRow B e size (.slice (some ⟨g,0,none⟩) n cap) n xs) j v (m:j<xs.length) :
  (w.setCell ⟨g,j,none⟩ v).ownsRow B e size (.slice (some ⟨g,0,none⟩) n cap) n (xs.set j v):=by
 refine ⟨by rw [List.length_set];exact h.1,?_⟩;rcases h.2 with ⟨hv,_⟩ | ⟨g',d,b,hv,k,f,c,a,l,i⟩;· grind
 cases hv;refine .inr ⟨g,cap,b.setIfInBounds j v,rfl,k,?_,c,a,by grind,?_⟩;· simp [World.setCell,Array.getElem?_modify,f]
 rw [Array.toList_setIfInBounds,List.take_set,i]
theorem bGr {w:World} {B e size g n cap:Nat} {xs} (h:w.ownsRow B e size (.slice (some ⟨g,0,none⟩) n cap) n xs) {j v} (hv:xs[j]?=some v):w.cell? ⟨g,j,none⟩=some v/\w.frozen? ⟨g,j,none⟩=false:=by
 have b:=h.cells (g:=g) rfl j v hv;rw [addN,Nat.zero_add] at b;refine ⟨b,?_⟩;rcases h.2 with ⟨hv,_⟩ | ⟨g',a,c,hv,f,d,_⟩;· grind
 cases hv;exact frozen_of_row _ _ _ _ _ d
def OpAt (M:Mem) (l:List GOp) (ys:List Value):Prop:=ys.length=l.length*5/\∀ i x,l[i]?=some x->∃ v2 v3 v4,OCV M x v2 v3 v4/\∀ j u,(tF x v2 v3 v4)[j]?=some u->ys[i*5+j]?=some u
theorem OpRow.at' {M l ys} (h:OpRow M l ys):OpAt M l ys:=⟨aUE h,bGm h⟩
theorem OpAt.mono {M M' l ys} (h:OpAt M l ys) (e:∀ b i v,M b i=some v->M' b i=some v):OpAt M' l ys :=
 ⟨h.1,fun i x d=>by obtain ⟨a,b,c,g,f⟩:=h.2 i x d;exact ⟨a,b,c,g.mono e,f⟩⟩
theorem aOP {M M' B'} {w:World} {l ys v} (h:OpAt M l ys) (o:w.ownsRow B' 38 5 v l.length ys) (q:∀ b i v,M b i=some v->M' b i=some v) (n:∀ g arr T fz,v.ownBlock=some g->w.heap[g]?=some (.cells arr T fz)->∀ i,M' g i=arr[i]?):Rv M' noB (.slice (List.map aR l) [] false) v:=by
 refine aKh o n _ (by simp) ?_ ?_;· intro p d;obtain ⟨x,_,rfl⟩:=List.mem_map.1 d;rw [rU];exact ⟨rfl,rfl,rfl,by decide⟩
 intro i p j c d a;rw [List.getElem?_map] at d;cases k:l[i]? with
 | none=>grind
 | some x =>
  rw [k] at d;simp at d;subst d;obtain ⟨r,v3,v4,e,f⟩:=h.2 i x k;have e:=e.mono q;have m  := by
   have:=(List.getElem?_eq_some_iff.1 a).1;exact this
  rw [rU] at a;match j,m,a with
  | 0,_,a=>cases a;exact ⟨_,f 0 _ rfl,.int _ _⟩
  | 1,_,a=>cases a;exact ⟨_,by grind,.str _⟩
  | 2,_,a=>cases a;exact ⟨_,by grind,e.r2⟩
  | 3,_,a=>cases a;exact ⟨_,by grind,e.r3⟩
  | 4,_,a=>cases a;exact ⟨_,by grind,e.r4⟩
theorem OpAt.set {M l ys} (h:OpAt M l ys) {k x x'} (g:l[k]?=some x) (t:x'.kind=x.kind) (w:x'.name=x.name) (q:x'.vars=x.vars) {c d} (p:Rv M noB (.slice (List.map aI x'.dirs) [] false) c) (r:Rv M noB (.slice (List.map aF x'.sels) [] false) d) :
  OpAt M (l.set k x') ((ys.set (k*5+3) c).set (k*5+4) d):=by
 have s  := (List.getElem?_eq_some_iff.1 g).1;refine ⟨by rw [List.length_set,List.length_set,List.length_set];exact h.1,fun i y b => ?_⟩;have n:=h.1;by_cases a:i=k;· subst a;rw [List.getElem?_set_self s] at b;cases b;obtain ⟨o,v3,v4,m,f⟩:=h.2 i x g;refine ⟨o,c,d,⟨by rw [q];exact m.r2,p,r⟩,fun j u v => ?_⟩;grind
 rw [List.getElem?_set_ne (fun e=>a e.symm)] at b;obtain ⟨o,v3,v4,m,f⟩:=h.2 i y b;grind
def FrAt (M:Mem) (l:List GFrag) (ys:List Value):Prop:=ys.length=l.length*4/\∀ i x,l[i]?=some x->∃ v2 v3,FCV M x v2 v3/\∀ j u,(aG9 x v2 v3)[j]?=some u->ys[i*4+j]?=some u
theorem FrRow.at' {M l ys} (h:FrRow M l ys):FrAt M l ys:=⟨aUF h,bGn h⟩
theorem FrAt.mono {M M' l ys} (h:FrAt M l ys) (d:∀ b i v,M b i=some v->M' b i=some v):FrAt M' l ys :=
 ⟨h.1,fun i x c=>by obtain ⟨a,b,f,e⟩:=h.2 i x c;exact ⟨a,b,f.mono d,e⟩⟩
theorem aOQ {M M' B'} {w:World} {l ys v} (h:FrAt M l ys) (o:w.ownsRow B' 68 4 v l.length ys) (q:∀ b i v,M b i=some v->M' b i=some v) (n:∀ g arr T fz,v.ownBlock=some g->w.heap[g]?=some (.cells arr T fz)->∀ i,M' g i=arr[i]?):Rv M' noB (.slice (List.map aH l) [] false) v:=by
 refine aKh o n _ (by simp) ?_ ?_;· intro p d;obtain ⟨x,_,rfl⟩:=List.mem_map.1 d;exact ⟨rfl,rfl,rfl,by decide⟩
 intro i p j c d a;rw [List.getElem?_map] at d;cases k:l[i]? with
 | none=>grind
 | some x =>
  rw [k] at d;simp at d;subst d;obtain ⟨r,v3,e,f⟩:=h.2 i x k;have e:=e.mono q;have m  := by
   have:=(List.getElem?_eq_some_iff.1 a).1;exact this
  match j,m,a with
  | 0,_,a=>cases a;exact ⟨_,f 0 _ rfl,.str _⟩
  | 1,_,a=>cases a;exact ⟨_,by grind,.str _⟩
  | 2,_,a=>cases a;exact ⟨_,by grind,e.r2⟩
  | 3,_,a=>cases a;exact ⟨_,by grind,e.r3⟩
theorem FrAt.set {M l ys} (h:FrAt M l ys) {k x x'} (g:l[k]?=some x) (r:x'.name=x.name) (t:x'.on_=x.on_) {c d} (n:Rv M noB (.slice (List.map aI x'.dirs) [] false) c) (p:Rv M noB (.slice (List.map aF x'.sels) [] false) d) :
  FrAt M (l.set k x') ((ys.set (k*4+2) c).set (k*4+3) d):=by
 have q  := (List.getElem?_eq_some_iff.1 g).1;refine ⟨by rw [List.length_set,List.length_set,List.length_set];exact h.1,fun i y b => ?_⟩;have m:=h.1;by_cases a:i=k;· subst a;rw [List.getElem?_set_self q] at b;cases b;obtain ⟨v3,v4,o,f⟩:=h.2 i x g;refine ⟨c,d,⟨n,p⟩,fun j u s => ?_⟩;grind
 rw [List.getElem?_set_ne (fun e=>a e.symm)] at b;obtain ⟨v3,v4,o,f⟩:=h.2 i y b;grind
end Go.Proofs.YtphmfillajagdaaGreat

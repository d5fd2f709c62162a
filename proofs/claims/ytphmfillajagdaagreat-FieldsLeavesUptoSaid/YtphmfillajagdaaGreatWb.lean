import Derived.Test.YtphmfillajagdaaGreatWa
import Derived.Test.YtphmfillajagdaaGreatGa
import Derived.Test.YtphmfillajagdaaGreatEd
import Derived.Test.YtphmfillajagdaaGreatGc
import Derived.Test.YtphmfillajagdaaGreatEx
import Derived.LoopTactic
import Derived.WalkKit
import Derived.Deep.AppendLies
import Derived.Maps.OwnOps
import Derived.BigRegion
import Derived.Deep.RegionLaw
import Derived.Deep.RegionWith
import Derived.Laws.OwnMore
set_option maxRecDepth 100000
set_option linter.unusedVariables false
set_option linter.unusedSimpArgs false
set_option linter.unusedSimpArgs false
open Go Go.Ev
namespace Go.Proofs.YtphmfillajagdaaGreat
theorem aFx (x:GSel):bkSl aW x.args≤gG x∧bkSl jJ x.dirs≤gG x:=by
 rw [gV];omega
theorem aUQ : ∀ (n : Nat) (l : List GSel), bR l ≤ n → n < 1073741824 → aG5 l = some l := by
 intro n
 induction n with
 | zero =>
  intro l h _
  have := fA l
  have hs : l = [] := List.length_eq_zero_iff.1 (by omega)
  subst hs
  apply aHc
  unfold yV
  rw [cC (r := []) (by simp [kV])]
  rfl
 | succ n ih =>
  intro l h hn
  have hlen := fA l
  apply aHc
  have key := iC (b := kV l) l (fun k (a : List GSel) => (a, (k : Int))) (fun r a => a ++ r) (fun k a => a.length = k) (by show l.length < _; omega)
   (fun a _ => by simp [kV])
   (fun k x r a hx hk hd h1 h2 h3 ha => by
    have hb := nX hx
    have hs := nY x
    have hp := aFx x
    have hml : x.args.length < 1073741824 := by have := cQ (f := aW) sU x.args; omega
    refine .inr ⟨a ++ [x], ?_, by simp [ha], by simp⟩
    simp only [kV, h1, h2, h3, bP, fZ, sV x.args hml (fun y hy => aCz _ (aEP (by omega) hy)), aJp x.dirs (by omega), ih x.sels (by omega) (by omega)]
    rw [yA (show a.length + [(⟨x.kind, x.alias, x.name, x.args, x.dirs, x.on_, x.sels⟩ : GSel)].length ≤ lim by simp [aBE]; omega)]
    cases x; rfl) (s := ([], 0)) (a := []) rfl rfl
  simp only [yV, key, bP, List.nil_append]
theorem aUR (l:List GSel) (h:bR l<1073741824):aG5 l=some l:=aUQ _ l (Nat.le_refl _) h
open Go Go.Ev Go.RowKit
theorem tN {M:Mem} {w:World} (h:Cons M w) {b:Nat} (hb:w.heap.size≤b) (i:Nat):M b i=none:=by
 cases hm:M b i with
 | none=>rfl
 | some v =>
  obtain ⟨arr,T,fz,h1,_⟩:=h b i v hm
  have:=(Array.getElem?_eq_some_iff.1 h1).1
  omega
theorem kA {M:Mem} {w w':World} (h:Cons M w) (hb:∀ k,k<w.heap.size→(∃ i,M k i≠none)→w'.heap[k]?=w.heap[k]?):Cons M w':=by
 intro b i v hv
 obtain ⟨arr,T,fz,h1,h2⟩:=h b i v hv
 exact ⟨arr,T,fz,(hb b (Array.getElem?_eq_some_iff.1 h1).1 ⟨i,by rw [hv];simp⟩).trans h1,h2⟩
theorem aA0 {M:Mem} {w w':World} (hc:Cons M w) (h:Below w.heap.size w w'):Cons M w':=kA hc fun k hk _=>h.block k hk
structure From (B:Nat) (M:Mem) (w:World) (M':Mem) (w':World):Prop where
 mem:∀ b i v,M b i=some v→M' b i=some v
 old:∀ b,b<B→∀ i,M' b i=M b i
 below:Below B w w'
theorem From.refl (B:Nat) (M:Mem) (w:World):From B M w M w:=⟨fun _ _ _ h=>h,fun _ _ _=>rfl,Below.refl _ _⟩
theorem From.trans {B:Nat} {M M1 M2:Mem} {w w1 w2:World} (h:From B M w M1 w1) (k:From B M1 w1 M2 w2):From B M w M2 w2 :=
 ⟨fun b i v hv=>k.mem b i v (h.mem b i v hv),fun b hb i=>(k.old b hb i).trans (h.old b hb i),h.below.trans k.below⟩
theorem From.of_below {B:Nat} {M:Mem} {w w':World} (h:Below B w w'):From B M w M w':=⟨fun _ _ _ h=>h,fun _ _ _=>rfl,h⟩
theorem kB {w w':World} {B e size n:Nat} {v:Value} {xs:List Value} (h:w.ownsRow B e size v n xs) (hb:∀ k,v.ownBlock=some k→w'.heap[k]?=w.heap[k]?):w'.ownsRow B e size v n xs:=by
 refine ⟨h.1,?_⟩
 rcases h.2 with hn | ⟨g,cap,cur,rfl,hB,hgg,rest⟩
 ·exact .inl hn
 ·exact .inr ⟨g,cap,cur,rfl,hB,(hb g rfl).trans hgg,rest⟩
def frzM (B:Nat) (M:Mem) (w:World):Mem:=fun b i=>if B≤b then (match w.heap[b]? with | some (.cells arr _ _)=>arr[i]? | _=>none) else M b i
theorem aOm {B:Nat} {M:Mem} {w:World} (h:Cons M w):∀ b i v,M b i=some v→frzM B M w b i=some v:=by
 intro b i v hv
 unfold frzM
 split
 ·obtain ⟨arr,T,fz,h1,h2⟩:=h b i v hv
  rw [h1];exact h2
 ·exact hv
def frzV (v:Value) (M:Mem) (w:World):Mem:=fun b i=>if v.ownBlock=some b then (match w.heap[b]? with | some (.cells arr _ _)=>arr[i]? | _=>none) else M b i
theorem aDN {v:Value} {M:Mem} {w:World} (h:Cons M w):Cons (frzV v M w) w:=by
 intro b i u hu
 unfold frzV at hu
 split at hu
 ·split at hu
  ·rename_i arr T fz hb
   exact ⟨arr,T,fz,hb,hu⟩
  ·simp at hu
 ·exact h b i u hu
theorem pB {v:Value} {M:Mem} {w:World} (h:Cons M w):∀ b i u,M b i=some u→frzV v M w b i=some u:=by
 intro b i u hu
 unfold frzV
 split
 ·obtain ⟨arr,T,fz,h1,h2⟩:=h b i u hu
  rw [h1];exact h2
 ·exact hu
theorem uU {v:Value} {M:Mem} {w:World} {b:Nat} (h:v.ownBlock≠some b) (i:Nat):frzV v M w b i=M b i:=by
 unfold frzV;rw [if_neg h]
theorem aDO {B' e size n:Nat} {M':Mem} {BB:BM} {w:World} {v:Value} {xs:List Value} (h:w.ownsRow B' e size v n xs) (hM:∀ g arr T fz,v.ownBlock=some g→w.heap[g]?=some (.cells arr T fz)→∀ i,M' g i=arr[i]?) (es:List PV) (hn:es.length=n) (hok:∀ p∈es,okEl size p) (hr:∀ (i:Nat) (p:PV) (j:Nat) (c:PV),es[i]?=some p→p.cells[j]?=some c→∃ u,xs[i*size+j]?=some u∧Rv M' BB c u) :
  Rv M' BB (.slice es [] false) v:=by
 rcases h.2 with ⟨rfl,h0⟩ | ⟨g,cap,cur,rfl,hb,hg,hcap,hmax,hcs,htk⟩
 ·have:es=[]:=List.eq_nil_of_length_eq_zero (by omega)
  subst this
  exact .nil false
 ·subst hn
  refine .slice es [] false ⟨g,0,none⟩ cap size (fun i j=>(xs[i*size+j]?).getD undef) (fun _=>rfl) (by simpa using hcap) (by simp) ?_ ?_ ?_
  ·intro i p hp
   exact hok p (List.mem_of_getElem? (by simpa using hp))
  ·intro i p j hp hj
   rw [List.append_nil] at hp
   obtain ⟨_,_,hc,_⟩:=hok p (List.mem_of_getElem? hp)
   obtain ⟨u,hu,_⟩:=hr i p j (p.cells[j]'(by omega)) hp (List.getElem?_eq_getElem (by omega))
   rw [hu,Option.getD_some]
   show M' g (0+i*size+j)=some u
   rw [hM g cur e (0,0) rfl hg]
   simp only [Nat.zero_add]
   rw [← htk,List.getElem?_take] at hu
   split at hu
   ·simpa using hu
   ·simp at hu
  ·intro i p j c hp hc
   rw [List.append_nil] at hp
   obtain ⟨u,hu,hv⟩:=hr i p j c hp hc
   rw [hu];exact hv
theorem aHW {B B' e size n:Nat} {M:Mem} {w:World} {v:Value} {xs:List Value} (h:w.ownsRow B' e size v n xs) (hB:B≤B'):∀ g arr T fz,v.ownBlock=some g→w.heap[g]?=some (.cells arr T fz)→∀ i,frzM B M w g i=arr[i]?:=by
 intro g arr T fz hg hh i
 unfold frzM
 rw [if_pos (Nat.le_trans hB (h.lt g hg).1),hh]
theorem aDP {M:Mem} {w:World} {v:Value}:∀ g arr T fz,v.ownBlock=some g→w.heap[g]?=some (.cells arr T fz)→∀ i,frzV v M w g i=arr[i]?:=by
 intro g arr T fz hg hh i
 unfold frzV
 rw [if_pos hg,hh]
theorem jE {M:Mem} {B:BM} {es:List PV} {v:Value} (h:Rv M B (.slice es [] false) v):∃ a l k,v = .slice a l k:=by
 cases h with
 | nil o=>exact ⟨_,_,_,rfl⟩
 | slice es bs o a cap s f ha hc ho hel hm hr=>exact ⟨_,_,_,rfl⟩
structure OCV (M:Mem) (o:GOp) (v2 v3 v4:Value):Prop where
 r2:Rv M noB (.slice (List.map aY o.vars) [] false) v2
 r3:Rv M noB (.slice (List.map aU o.dirs) [] false) v3
 r4:Rv M noB (.slice (List.map aF o.sels) [] false) v4
abbrev aAl (o:GOp) (v2 v3 v4:Value):List Value:=[.int .i64 o.kind,.string ⟨o.name.toArray⟩,v2,v3,v4]
theorem OCV.mono {M M':Mem} {o:GOp} {v2 v3 v4:Value} (h:OCV M o v2 v3 v4) (hM:∀ b i v,M b i=some v→M' b i=some v):OCV M' o v2 v3 v4 :=
 ⟨h.r2.mono hM (fun _ _ _ h=>h),h.r3.mono hM (fun _ _ _ h=>h),h.r4.mono hM (fun _ _ _ h=>h)⟩
inductive OpRow (M:Mem):List GOp→List Value→Prop
 | nil:OpRow M [] []
 | snoc {l:List GOp} {ys:List Value} {x:GOp} {v2 v3 v4:Value} (h:OpRow M l ys) (hc:OCV M x v2 v3 v4):OpRow M (l++[x]) (ys++aAl x v2 v3 v4)
theorem OpRow.mono {M M':Mem} {l:List GOp} {ys:List Value} (h:OpRow M l ys) (hM:∀ b i v,M b i=some v→M' b i=some v):OpRow M' l ys:=by
 induction h with
 | nil=>exact .nil
 | snoc h hc ih=>exact .snoc ih (hc.mono hM)
theorem aOn {M:Mem} {l:List GOp} {ys:List Value} (h:OpRow M l ys):ys.length=l.length*5:=by
 induction h with
 | nil=>rfl
 | snoc h hc ih=>simp only [List.length_append,ih,List.length_cons,List.length_nil];omega
theorem aZu {M:Mem} {l:List GOp} {ys:List Value} (h:OpRow M l ys):∀ (i:Nat) (x:GOp),l[i]?=some x→∃ v2 v3 v4,OCV M x v2 v3 v4∧∀ (j:Nat) (u:Value),(aAl x v2 v3 v4)[j]?=some u→ys[i*5+j]?=some u:=by
 induction h with
 | nil=>intro i x h;simp at h
 | @snoc l ys x v2 v3 v4 h hc ih =>
  intro i x' hi
  have hyl:=aOn h
  rcases Nat.lt_or_ge i l.length with hlt | hge
  ·rw [List.getElem?_append_left hlt] at hi
   obtain ⟨a,b,c,h1,h2⟩:=ih i x' hi
   refine ⟨a,b,c,h1,fun j u hu => ?_⟩
   have hj:j<5:=by have:=(List.getElem?_eq_some_iff.1 hu).1;simpa using this
   rw [List.getElem?_append_left (by omega)];exact h2 j u hu
  ·rw [List.getElem?_append_right hge] at hi
   have h0:i-l.length=0:=by
    rcases Nat.eq_zero_or_pos (i-l.length) with h0 | h0
    ·exact h0
    ·rw [List.getElem?_eq_none (by simp;omega)] at hi;cases hi
   rw [h0] at hi
   cases hi
   refine ⟨v2,v3,v4,hc,fun j u hu => ?_⟩
   rw [List.getElem?_append_right (by omega),show i*5+j-ys.length=j by omega]
   exact hu
structure FCV (M:Mem) (f:GFrag) (v2 v3:Value):Prop where
 r2:Rv M noB (.slice (List.map aU f.dirs) [] false) v2
 r3:Rv M noB (.slice (List.map aF f.sels) [] false) v3
abbrev aDQ (f:GFrag) (v2 v3:Value):List Value:=[.string ⟨f.name.toArray⟩,.string ⟨f.on_.toArray⟩,v2,v3]
theorem FCV.mono {M M':Mem} {o:GFrag} {v2 v3:Value} (h:FCV M o v2 v3) (hM:∀ b i v,M b i=some v→M' b i=some v):FCV M' o v2 v3 :=
 ⟨h.r2.mono hM (fun _ _ _ h=>h),h.r3.mono hM (fun _ _ _ h=>h)⟩
inductive FrRow (M:Mem):List GFrag→List Value→Prop
 | nil:FrRow M [] []
 | snoc {l:List GFrag} {ys:List Value} {x:GFrag} {v2 v3:Value} (h:FrRow M l ys) (hc:FCV M x v2 v3):FrRow M (l++[x]) (ys++aDQ x v2 v3)
theorem FrRow.mono {M M':Mem} {l:List GFrag} {ys:List Value} (h:FrRow M l ys) (hM:∀ b i v,M b i=some v→M' b i=some v):FrRow M' l ys:=by
 induction h with
 | nil=>exact .nil
 | snoc h hc ih=>exact .snoc ih (hc.mono hM)
theorem aOo {M:Mem} {l:List GFrag} {ys:List Value} (h:FrRow M l ys):ys.length=l.length*4:=by
 induction h with
 | nil=>rfl
 | snoc h hc ih=>simp only [List.length_append,ih,List.length_cons,List.length_nil];omega
theorem aZv {M:Mem} {l:List GFrag} {ys:List Value} (h:FrRow M l ys):∀ (i:Nat) (x:GFrag),l[i]?=some x→∃ v2 v3,FCV M x v2 v3∧∀ (j:Nat) (u:Value),(aDQ x v2 v3)[j]?=some u→ys[i*4+j]?=some u:=by
 induction h with
 | nil=>intro i x h;simp at h
 | @snoc l ys x v2 v3 h hc ih =>
  intro i x' hi
  have hyl:=aOo h
  rcases Nat.lt_or_ge i l.length with hlt | hge
  ·rw [List.getElem?_append_left hlt] at hi
   obtain ⟨a,b,h1,h2⟩:=ih i x' hi
   refine ⟨a,b,h1,fun j u hu => ?_⟩
   have hj:j<4:=by have:=(List.getElem?_eq_some_iff.1 hu).1;simpa using this
   rw [List.getElem?_append_left (by omega)];exact h2 j u hu
  ·rw [List.getElem?_append_right hge] at hi
   have h0:i-l.length=0:=by
    rcases Nat.eq_zero_or_pos (i-l.length) with h0 | h0
    ·exact h0
    ·rw [List.getElem?_eq_none (by simp;omega)] at hi;cases hi
   rw [h0] at hi
   cases hi
   refine ⟨v2,v3,hc,fun j u hu => ?_⟩
   rw [List.getElem?_append_right (by omega),show i*4+j-ys.length=j by omega]
   exact hu
inductive RvL (M:Mem) (B:BM):List PV→List Value→Prop
 | nil:RvL M B [] []
 | cons {c:PV} {v:Value} {cs:List PV} {vs:List Value} (h:Rv M B c v) (t:RvL M B cs vs):RvL M B (c::cs) (v::vs)
theorem aOq {M:Mem} {B:BM}:∀ (cs:List PV) (vs:List Value),vs.length=cs.length→(∀ (i:Nat) (c:PV) (v:Value),cs[i]?=some c→vs[i]?=some v→Rv M B c v)→RvL M B cs vs
 | [],[],_,_ => .nil
 | [],_::_,h,_=>by simp at h
 | _::_,[],h,_=>by simp at h
 | c::cs,v::vs,h,hr => .cons (hr 0 c v rfl rfl) (aOq cs vs (by simpa using h) fun i c v h1 h2=>hr (i+1) c v (by simpa using h1) (by simpa using h2))
theorem aZ4 {M:Mem} {B:BM} {cs:List PV} {v:Value} (h:Rv M B (.agg cs) v):∃ l:List Value,v = .agg l.toArray∧RvL M B cs l:=by
 cases h with
 | agg cs vs f hl hf hr =>
  refine ⟨vs.toList,rfl,aOq _ _ (by simpa using hl) fun i c v h1 h2 => ?_⟩
  have hi:i<cs.length:=(List.getElem?_eq_some_iff.1 h1).1
  have:=hf i hi
  rw [Array.getElem?_toList,this] at h2
  cases h2
  exact hr i c h1
theorem bB2 {M:Mem} {x:GOp} {l:List Value} (h:RvL M noB (bL x).cells l):∃ v2 v3 v4,l=aAl x v2 v3 v4∧OCV M x v2 v3 v4:=by
 rw [gT] at h
 cases h with | cons r0 h =>
 cases h with | cons r1 h =>
 cases h with | cons r2 h =>
 cases h with | cons r3 h =>
 cases h with | cons r4 h =>
 cases h
 cases r0
 cases r1
 exact ⟨_,_,_,rfl,r2,r3,r4⟩
theorem bB3 {M:Mem} {x:GFrag} {l:List Value} (h:RvL M noB (aJ x).cells l):∃ v2 v3,l=aDQ x v2 v3∧FCV M x v2 v3:=by
 rw [dF] at h
 cases h with | cons r0 h =>
 cases h with | cons r1 h =>
 cases h with | cons r2 h =>
 cases h with | cons r3 h =>
 cases h
 cases r0
 cases r1
 exact ⟨_,_,rfl,r2,r3⟩
theorem aDR {M:Mem} {w:World} {l:List GOp} {c:Value} (hc:Cons M w) (h:Rv M noB (.slice (List.map bL l) [] false) c) :
  ∃ oa cap,c = .slice oa l.length cap∧l.length≤cap∧(l≠[]→∃ blk off,oa=some ⟨blk,off,none⟩)∧∀ (blk off:Nat),oa=some ⟨blk,off,none⟩→∀ (k:Nat) (x:GOp),l[k]?=some x→∃ v2 v3 v4,OCV M x v2 v3 v4∧∀ j v,(aAl x v2 v3 v4)[j]?=some v→M blk (off+k*5+j)=some v:=by
 generalize hes:List.map bL l=es at h
 cases h with
 | nil o =>
  have:l=[]:=by simpa using hes
  subst this
  exact ⟨none,0,rfl,Nat.le_refl _,fun h=>absurd rfl h,fun _ _ h=>by simp at h⟩
 | slice es' bs o a cap s f ha hcp ho hel hm hr =>
  have hl:es.length=l.length:=by rw [← hes];simp
  have hle:l.length≤cap:=by simp at hcp;omega
  refine ⟨some a,cap,by rw [hl],hle,fun hne=>⟨a.block,a.off,by
   have:=ha (by have:=List.length_pos_iff.2 hne;omega)
   obtain ⟨b,o,s⟩:=a;simp only at this;rw [this]⟩,fun blk off hoa k x hx => ?_⟩
  cases hoa
  have hx':(es++[])[k]?=some (bL x):=by rw [List.append_nil,← hes,List.getElem?_map,hx];rfl
  have hs:s=5:=by
   have:=hel k _ hx'
   obtain ⟨_,_,h3,_⟩:=this
   rw [gT] at h3
   exact h3.symm
  subst hs
  have hk:k<l.length:=(List.getElem?_eq_some_iff.1 hx).1
  have hR:RvL M noB (bL x).cells [f k 0,f k 1,f k 2,f k 3,f k 4]:=by
   refine aOq _ _ (by rw [gT];rfl) fun i c v h1 h2 => ?_
   have hi:i<5:=by have:=(List.getElem?_eq_some_iff.1 h2).1;simpa using this
   have:=hr k _ i c hx' h1
   match i,hi,h2 with
   | 0,_,h2=>cases h2;exact this
   | 1,_,h2=>cases h2;exact this
   | 2,_,h2=>cases h2;exact this
   | 3,_,h2=>cases h2;exact this
   | 4,_,h2=>cases h2;exact this
  obtain ⟨v2,v3,v4,e,hcv⟩:=bB2 hR
  refine ⟨v2,v3,v4,hcv,fun j v hv => ?_⟩
  rw [← e] at hv
  have hj:j<5:=by have:=(List.getElem?_eq_some_iff.1 hv).1;simpa using this
  have:=hm k _ j hx' hj
  match j,hj,hv with
  | 0,_,hv=>cases hv;exact this
  | 1,_,hv=>cases hv;exact this
  | 2,_,hv=>cases hv;exact this
  | 3,_,hv=>cases hv;exact this
  | 4,_,hv=>cases hv;exact this
theorem aZw {M:Mem} {w:World} {l:List GFrag} {c:Value} (hc:Cons M w) (h:Rv M noB (.slice (List.map aJ l) [] false) c) :
  ∃ oa cap,c = .slice oa l.length cap∧l.length≤cap∧(l≠[]→∃ blk off,oa=some ⟨blk,off,none⟩)∧∀ (blk off:Nat),oa=some ⟨blk,off,none⟩→∀ (k:Nat) (x:GFrag),l[k]?=some x→∃ v2 v3,FCV M x v2 v3∧∀ j v,(aDQ x v2 v3)[j]?=some v→M blk (off+k*4+j)=some v:=by
 generalize hes:List.map aJ l=es at h
 cases h with
 | nil o =>
  have:l=[]:=by simpa using hes
  subst this
  exact ⟨none,0,rfl,Nat.le_refl _,fun h=>absurd rfl h,fun _ _ h=>by simp at h⟩
 | slice es' bs o a cap s f ha hcp ho hel hm hr =>
  have hl:es.length=l.length:=by rw [← hes];simp
  have hle:l.length≤cap:=by simp at hcp;omega
  refine ⟨some a,cap,by rw [hl],hle,fun hne=>⟨a.block,a.off,by
   have:=ha (by have:=List.length_pos_iff.2 hne;omega)
   obtain ⟨b,o,s⟩:=a;simp only at this;rw [this]⟩,fun blk off hoa k x hx => ?_⟩
  cases hoa
  have hx':(es++[])[k]?=some (aJ x):=by rw [List.append_nil,← hes,List.getElem?_map,hx];rfl
  have hs:s=4:=by
   have:=hel k _ hx'
   obtain ⟨_,_,h3,_⟩:=this
   rw [dF] at h3
   exact h3.symm
  subst hs
  have hk:k<l.length:=(List.getElem?_eq_some_iff.1 hx).1
  have hR:RvL M noB (aJ x).cells [f k 0,f k 1,f k 2,f k 3]:=by
   refine aOq _ _ (by rw [dF];rfl) fun i c v h1 h2 => ?_
   have hi:i<4:=by have:=(List.getElem?_eq_some_iff.1 h2).1;simpa using this
   have:=hr k _ i c hx' h1
   match i,hi,h2 with
   | 0,_,h2=>cases h2;exact this
   | 1,_,h2=>cases h2;exact this
   | 2,_,h2=>cases h2;exact this
   | 3,_,h2=>cases h2;exact this
  obtain ⟨v2,v3,e,hcv⟩:=bB3 hR
  refine ⟨v2,v3,hcv,fun j v hv => ?_⟩
  rw [← e] at hv
  have hj:j<4:=by have:=(List.getElem?_eq_some_iff.1 hv).1;simpa using this
  have:=hm k _ j hx' hj
  match j,hj,hv with
  | 0,_,hv=>cases hv;exact this
  | 1,_,hv=>cases hv;exact this
  | 2,_,hv=>cases hv;exact this
  | 3,_,hv=>cases hv;exact this
theorem kZ {M:Mem} {w:World} (hc:Cons M w) {b i:Nat} {v:Value} (h:M b i=some v):w.cell? ⟨b,i,none⟩=some v:=by
 obtain ⟨arr,T,fz,h1,h2⟩:=hc b i v h
 rw [cell_of_row w b _ _ _ _ h1];exact h2
theorem aZ5 (x:GVarDef):okEl 10 (aY x):=by rw [dZ];exact ⟨rfl,rfl,rfl,by decide⟩
theorem aZx {M:Mem} {l:List GVarDef} {oa:Option Addr} {n cap:Nat} (h:Rv M noB (.slice (List.map aY l) [] false) (.slice oa n cap)) :
  n=l.length∧(l≠[]→∃ (blk off:Nat) (news:List Value),oa=some ⟨blk,off,none⟩∧news.length=n*10∧(∀ j u,news[j]?=some u→M blk (off+j)=some u)∧(∀ u∈news,u.oneCell'=true) ∧
   ∀ (i:Nat) (p:PV) (j:Nat) (c:PV),(List.map aY l)[i]?=some p→p.cells[j]?=some c→∃ u,news[i*10+j]?=some u∧Rv M noB c u):=by
 generalize hes:List.map aY l=es at h
 cases h with
 | nil o =>
  have:l=[]:=by simpa using hes
  subst this
  exact ⟨rfl,fun h=>absurd rfl h⟩
 | slice es' bs o a cap s f ha hcp ho hel hm hr =>
  have hl:es.length=l.length:=by rw [← hes];simp
  refine ⟨hl,fun hne => ?_⟩
  have hpos:0<l.length:=List.length_pos_iff.2 hne
  have hsp:a.spot=none:=ha (by simp at hcp;omega)
  have hs:s=10:=by
   have hx:(es++[])[0]?=some (aY l[0]):=by rw [List.append_nil,← hes,List.getElem?_map,List.getElem?_eq_getElem hpos];rfl
   obtain ⟨_,_,h3,_⟩:=hel 0 _ hx
   rw [dZ] at h3
   exact h3.symm
  subst hs
  have hat:∀ q,q<es.length*10→((List.range (es.length*10)).map fun q=>f (q / 10) (q % 10))[q]?=some (f (q / 10) (q % 10)):=fun q hq=>by
   rw [List.getElem?_map,List.getElem?_range hq];rfl
  have hrow:∀ q,q<es.length*10→∃ p,(es++[])[q / 10]?=some p∧∃ c,p.cells[q % 10]?=some c:=fun q hq=>by
   have hi:q / 10<l.length:=by omega
   refine ⟨aY l[q / 10],by rw [List.append_nil,← hes,List.getElem?_map,List.getElem?_eq_getElem hi];rfl,?_⟩
   have:q % 10<(aY l[q / 10]).cells.length:=by rw [(aZ5 _).2.2.1];omega
   exact ⟨_,List.getElem?_eq_getElem this⟩
  refine ⟨a.block,a.off,(List.range (es.length*10)).map fun q=>f (q / 10) (q % 10),by obtain ⟨b,o,sp⟩:=a;simp only at hsp;rw [hsp],by simp,fun j u hu => ?_,fun u hu => ?_,fun i p j c hp hc => ?_⟩
  ·have hj:j<es.length*10:=by have:=(List.getElem?_eq_some_iff.1 hu).1;simpa using this
   rw [hat j hj] at hu
   cases hu
   obtain ⟨p,hp,c,hc⟩:=hrow j hj
   have:=hm (j / 10) p (j % 10) hp (by omega)
   have e:a.off+j / 10*10+j % 10=a.off+j:=by omega
   rw [e] at this
   exact this
  ·obtain ⟨q,hq,rfl⟩:=List.mem_map.1 hu
   have hq:q<es.length*10:=List.mem_range.1 hq
   obtain ⟨p,hp,c,hc⟩:=hrow q hq
   exact aJP (hel _ _ hp) hc (hr _ _ _ _ hp hc)
  ·have hi:i<es.length:=(List.getElem?_eq_some_iff.1 hp).1
   have hp':(es++[])[i]?=some p:=by rw [List.append_nil];exact hp
   have hj:j<10:=by have:=(List.getElem?_eq_some_iff.1 hc).1;rw [(hel _ _ hp').2.2.1] at this;exact this
   refine ⟨f i j,?_,hr i p j c hp' hc⟩
   rw [hat (i*10+j) (by omega),show (i*10+j) / 10=i by omega,show (i*10+j) % 10=j by omega]
theorem aZy {M:Mem} {B' e:Nat} {w w':World} {l:List GVarDef} {v:Value} {news:List Value} (hc:Cons M w') (ho:w'.ownsRow B' e 10 v l.length news) (hr:∀ (i:Nat) (p:PV) (j:Nat) (c:PV),(List.map aY l)[i]?=some p→p.cells[j]?=some c→∃ u,news[i*10+j]?=some u∧Rv M noB c u) :
  Rv (frzV v M w') noB (.slice (List.map aY l) [] false) v:=by
 refine aDO ho aDP _ (by simp) ?_ fun i p j c hp hcc => ?_
 ·intro p hp
  obtain ⟨x,_,rfl⟩:=List.mem_map.1 hp
  exact aZ5 x
 ·obtain ⟨u,h1,h2⟩:=hr i p j c hp hcc
  exact ⟨u,h1,h2.mono (pB hc) (fun _ _ _ h=>h)⟩
noncomputable def fstC:Code→Code | .seq a _=>a | c=>c
noncomputable def sndC:Code→Code | .seq _ b=>b | c=>c
noncomputable def blkC:Code→Code | .block _ c=>c | c=>c
noncomputable def lopC:Code→Code | .loop c=>c | c=>c
noncomputable def bE (f:Func):Code:=match f.body with | some c=>c | none => .skip
noncomputable def blA (c:Code):Code:=sndC (fstC (sndC (sndC c)))
noncomputable def blB (c:Code):Code:=sndC (fstC (sndC (sndC (sndC c))))
noncomputable def inC (c:Code):Code:=blkC (fstC (sndC (lopC (blkC c))))
noncomputable def r6C:Code:=fstC (sndC (inC (blA (bE Tryz.f13))))
noncomputable def r7C:Code:=fstC (sndC (sndC (inC (blA (bE Tryz.f13)))))
noncomputable def r8C:Code:=sndC (sndC (sndC (inC (blA (bE Tryz.f13)))))
structure Stp (H:Nat) (M:Mem) (w:World) (M':Mem) (w':World):Prop where
 mem:∀ b i v,M b i=some v→M' b i=some v
 blk:∀ b,b<w.heap.size→b≠H→w'.heap[b]?=w.heap[b]?
 old:∀ b,b<w.heap.size→∀ i,M' b i=M b i
 os:w'.os=w.os
 tape:w'.tape=w.tape
 output:w'.output=w.output
 size:w.heap.size≤w'.heap.size
 cons:Cons M' w'
theorem Stp.refl {H:Nat} {M:Mem} {w:World} (hc:Cons M w):Stp H M w M w:=⟨fun _ _ _ h=>h,fun _ _ _=>rfl,fun _ _ _=>rfl,rfl,rfl,rfl,Nat.le_refl _,hc⟩
theorem Stp.trans {H:Nat} {M M1 M2:Mem} {w w1 w2:World} (h:Stp H M w M1 w1) (k:Stp H M1 w1 M2 w2):Stp H M w M2 w2 :=
 ⟨fun b i v hv=>k.mem b i v (h.mem b i v hv),fun b hb hn=>(k.blk b (Nat.lt_of_lt_of_le hb h.size) hn).trans (h.blk b hb hn),fun b hb i=>(k.old b (Nat.lt_of_lt_of_le hb h.size) i).trans (h.old b hb i),k.os.trans h.os,k.tape.trans h.tape,k.output.trans h.output,Nat.le_trans h.size k.size,k.cons⟩
theorem Stp.quiet {H:Nat} {M M':Mem} {w w':World} (q:Quiet M w M' w') (hc:Cons M' w'):Stp H M w M' w':=⟨q.mem,fun b hb _=>(q.old b hb).1,fun b hb=>(q.old b hb).2,q.os,q.tape,q.output,q.size,hc⟩
theorem aDS {M:Mem} {w:World} (hc:Cons M w):Cons M w.drew:=fun b i v h=>hc b i v h
theorem Stp.drew {H:Nat} {M:Mem} {w:World} (hc:Cons M w):Stp H M w M w.drew:=⟨fun _ _ _ h=>h,fun _ _ _=>rfl,fun _ _ _=>rfl,rfl,rfl,rfl,Nat.le_refl _,hc⟩
theorem Stp.set {H:Nat} {M:Mem} {w:World} (hc:Cons M w) (hf:∀ i,M H i=none) (j:Nat) (u:Value):Stp H M w M (w.setCell ⟨H,j,none⟩ u) :=
 ⟨fun _ _ _ h=>h,fun b _ hn=>Below.heap_setCell _ _ _ _ hn,fun _ _ _=>rfl,rfl,rfl,rfl,by simp [World.setCell],kA hc fun k hk ⟨i,hi⟩=>Below.heap_setCell _ _ _ _ fun e=>hi (by rw [e];exact hf i)⟩
theorem Stp.grown {H g n cap:Nat} {M:Mem} {w w':World} (hc:Cons M w) (hg:w.grownBy w' none) (hgs:w.heap.size≤g) (o:Value) (ho:o = .slice (some ⟨g,0,none⟩) n cap):Stp H M w (frzV o M w') w':=by
 have hc':Cons M w':=kA hc fun k hk _=>hg.block k hk (by simp)
 refine ⟨pB hc',fun b hb _=>hg.block b hb (by simp),fun b hb i=>uU (by subst ho;simp only [Value.ownBlock,ne_eq,Option.some.injEq];omega) i,hg.os,hg.tape,hg.output,hg.size,aDN hc'⟩
theorem Stp.free {H:Nat} {M M':Mem} {w w':World} (h:Stp H M w M' w') (hH:H<w.heap.size) (hf:∀ i,M H i=none):∀ i,M' H i=none:=fun i=>(h.old H hH i).trans (hf i)
theorem addN (b o j:Nat):(⟨b,o,none⟩:Addr).add j=⟨b,o+j,none⟩:=by unfold Addr.add;split<;>simp_all
theorem bCp (P:Program) (a:Addr) (w:World):Sem.run P (loadCellsFrom a 0 0 #[]) w = .ok #[] w:=rfl
theorem Tryz.u35:Tryz.prog.underlying 35=some (.slice 54):=by kernel_rfl
def aFy (o:Option TypeInfo) (s b:Nat):Bool:=match o with | some i=>(match i.zero with | some z=>z.cells.size==s&&(i.size==s&&i.bytes==b) | none=>false) | none=>false
theorem aLr {o:Option TypeInfo} {s b:Nat} (h:aFy o s b=true):∃ i z,o=some i∧i.zero=some z∧i.size=s∧i.bytes=b∧z.cells.size=s:=by
 cases o with
 | none=>simp [aFy] at h
 | some i =>
  cases hz:i.zero with
  | none=>simp [aFy,hz] at h
  | some z =>
   simp only [aFy,hz,Bool.and_eq_true,beq_iff_eq] at h
   exact ⟨i,z,rfl,hz,h.2.1,h.2.2,h.1⟩
theorem Tryz.i54:aFy (Tryz.prog.info? 54) 10 136=true:=by kernel_rfl
theorem Tryz.i38:aFy (Tryz.prog.info? 38) 5 96=true:=by kernel_rfl
theorem Tryz.i68:aFy (Tryz.prog.info? 68) 4 80=true:=by kernel_rfl
theorem Tryz.u25:Tryz.prog.underlying 25=some (.slice 38):=by kernel_rfl
theorem Tryz.u26:Tryz.prog.underlying 26=some (.slice 68):=by kernel_rfl
set_option maxHeartbeats 4000000 in
theorem bBa {M:Mem} {w:World} (H:Nat) (x:GOp) (a2:Option Addr) (l2 p2:Nat) (a3:Option Addr) (l3 p3:Nat) (a4:Option Addr) (l4 p4:Nat) (hc:Cons M w) (hH:w.heap[H]?=some (.cells #[.int .i64 x.kind,.string ⟨x.name.toArray⟩,.slice a2 l2 p2,.slice a3 l3 p3,.slice a4 l4 p4] 38 (0,0))) (hf:∀ i,M H i=none) (hr:Rv M noB (.slice (List.map aY x.vars) [] false) (.slice a2 l2 p2)) (hl:x.vars.length≤1048576) (Q:Exit→Act→World→Prop) (v0 v1 v2 v3 v4 v6 v7 v8 v9 v10 v11 v12 v13 v14 v15 v16 v17 v18 v19 v20 v21 v22 v23 v24 v25 v26 v27 v28 v29 v30 v31 v32 v33 v34 v35 v36 v37 v38 v39 v40 v41 v42 v43 v44 v45 v46 v47 v48 v49 v50 v51 v52 v53 v54 v55 v56 v57 v58 v59 v60 v61 v62 v63 v64 v65:Value)
  (hC:∀ (w':World) (M':Mem) (b2:Option Addr) (m2 q2:Nat) (z21 z22 z23 z24:Value),Stp H M w M' w'→w'.heap[H]?=some (.cells #[.int .i64 x.kind,.string ⟨x.name.toArray⟩,.slice b2 m2 q2,.slice a3 l3 p3,.slice a4 l4 p4] 38 (0,0))→Rv M' noB (.slice (List.map aY x.vars) [] false) (.slice b2 m2 q2)→Q .normal ⟨#[v0,v1,v2,v3,v4,.pointer (some ⟨H,0,none⟩),v6,v7,v8,v9,v10,v11,v12,v13,v14,v15,v16,v17,v18,v19,v20,z21,z22,z23,z24,v25,v26,v27,v28,v29,v30,v31,v32,v33,v34,v35,v36,v37,v38,v39,v40,v41,v42,v43,v44,v45,v46,v47,v48,v49,v50,v51,v52,v53,v54,v55,v56,v57,v58,v59,v60,v61,v62,v63,v64,v65],[]⟩ w') :
  Code.wp Tryz.prog r6C Q ⟨#[v0,v1,v2,v3,v4,.pointer (some ⟨H,0,none⟩),v6,v7,v8,v9,v10,v11,v12,v13,v14,v15,v16,v17,v18,v19,v20,v21,v22,v23,v24,v25,v26,v27,v28,v29,v30,v31,v32,v33,v34,v35,v36,v37,v38,v39,v40,v41,v42,v43,v44,v45,v46,v47,v48,v49,v50,v51,v52,v53,v54,v55,v56,v57,v58,v59,v60,v61,v62,v63,v64,v65],[]⟩ w:=by
 have hHl:H<w.heap.size:=(Array.getElem?_eq_some_iff.1 hH).1
 obtain ⟨rfl,hnews⟩:=aZx hr
 have k2:w.cell? ⟨H,2,none⟩=some (.slice a2 x.vars.length p2):=by rw [cell_of_row w H _ _ _ _ hH];rfl
 have kf:w.frozen? ⟨H,2,none⟩=false:=frozen_of_row w H _ _ _ hH
 unfold r6C
 simp only [Tryz.f13,bE,inC,blA,blkC,lopC,fstC,sndC]
 replace hC:=(id hC:Hid _)
 by_cases h0:x.vars=[]
 ·have e0:x.vars.length=0:=by rw [h0];rfl
  rw [e0] at hr k2 hH
  have done:Hid (Stp H M w M (w.setCell ⟨H,2,none⟩ (.slice none 0 0))):=Stp.set hc hf 2 _
  have hrow:Hid ((w.setCell ⟨H,2,none⟩ (.slice none 0 0)).heap[H]?=_):=heap_setCell_same w H 2 _ _ (.slice none 0 0) hH
  have hnil:Hid (Rv M noB (.slice (List.map aY x.vars) [] false) (.slice none 0 0)):=by rw [h0];exact .nil false
  clear hnews
  cases a2 with
  | none =>
   go_wp2
   exact hC.out _ _ _ _ _ _ _ _ _ done hrow hnil
  | some a =>
   have hld:=bCp Tryz.prog a w
   go_wp2
   exact hC.out _ _ _ _ _ _ _ _ _ done hrow hnil
 ·obtain ⟨blk,off,news,rfl,hnl,hncell,hone,hnr⟩:=hnews h0
  obtain ⟨i0,z0,hi,hz0,hz1,hz2,hzc⟩:=aLr Tryz.i54
  have hpos:0<x.vars.length:=List.length_pos_iff.2 h0
  have hn:∀ j u,news[j]?=some u→w.cell? ((⟨blk,off,none⟩:Addr).add j)=some u:=fun j u hu=>by rw [addN];exact kZ hc (hncell j u hu)
  replace hnr:=(id hnr:Hid _)
  replace hncell:=(id hncell:Hid _)
  go_wp2_with (at_builtin;refine wpList_append_lies _ rfl (.const (.slice none 0 0)) (.tmp 22) 35 rfl w.heap.size 54 i0 _ 10 136 Tryz.u35 hi hz0 hz1 hz2 hzc (by decide) (.slice none 0 0) 0 [] rfl (World.ownsRow_nil _ _ _ _) ⟨blk,off,none⟩ x.vars.length p2 news rfl hnl hn hone hpos (by simp [maxLen];omega) (by omega) (Nat.le_refl _) _ rfl ?_;intro g cap' w1 hown hgrow hat hlt;have e1:=hgrow.block H hHl (by simp [Value.ownBlock]);have k3:=(World.cell?_of_block (a:=⟨H,2,none⟩) e1).trans k2;have k4:=(World.frozen?_of_block (a:=⟨H,2,none⟩) e1).trans kf)
  have hgs:w.heap.size≤g:=by
   rcases hat with h | h
   ·simp [Value.ownBlock] at h
   ·omega
  have S1:=Stp.grown (H:=H) (n:=x.vars.length) (cap:=cap') hc hgrow hgs _ rfl
  have S2:=S1.trans (Stp.set S1.cons (S1.free hHl hf) 2 (.slice (some ⟨g,0,none⟩) x.vars.length cap'))
  have hown2:w1.ownsRow w.heap.size 54 10 (.slice (some ⟨g,0,none⟩) x.vars.length cap') x.vars.length news:=by
   have e:0+x.vars.length=x.vars.length:=Nat.zero_add _
   rw [e,List.nil_append] at hown
   exact hown
  have hc1:Cons M w1:=kA hc fun k hk _=>hgrow.block k hk (by simp [Value.ownBlock])
  exact hC.out _ _ _ _ _ _ _ _ _ S2 (heap_setCell_same w1 H 2 _ _ _ (e1.trans hH)) (aZy (w:=w) hc1 hown2 hnr.out)
theorem aHX (l:List GDir) (hl:bkSl jJ l<1073741824) {M:Mem} {w:World} (v:Value) (hc:Cons M w) (hr:Rv M noB (.slice (List.map aU l) [] false) v) :
  Calls Tryz.prog 36 #[v] w fun e w'=>∃ a n p M',e = .returned (.slice a n p)∧Rv M' noB (.slice (List.map aU l) [] false) (.slice a n p)∧Cons M' w'∧Quiet M w M' w':=by
 have hk:=aJp l hl
 unfold aKu at hk
 have hs:O 36 [.slice (List.map aU l) [] false] []=some (.slice (List.map aU l) [] false,[]):=bU (enc:=fun r=>(aAF r,[])) hk
 have key:=jH pokX xok hs (M:=M) (w:=w) (vals := #[v]) rfl hc ⟨rfl,fun i p hp=>by
  match i,hp with
  | 0,hp=>cases hp;exact ⟨hr,aT rfl⟩
  | i+1,hp=>simp at hp⟩
 refine key.mono ?_
 rintro e w' ⟨v,M',rfl,hv,hc',hq⟩
 obtain ⟨a,n,p,rfl⟩:=jE hv
 exact ⟨a,n,p,M',rfl,hv,hc',hq⟩
theorem aOr (l:List GSel) (hl:bR l<1073741824) {M:Mem} {w:World} (v:Value) (hc:Cons M w) (hr:Rv M noB (.slice (List.map aF l) [] false) v) :
  Calls Tryz.prog 37 #[v] w fun e w'=>∃ a n p M',e = .returned (.slice a n p)∧Rv M' noB (.slice (List.map aF l) [] false) (.slice a n p)∧Cons M' w'∧Quiet M w M' w':=by
 have hk:=aUR l hl
 unfold aG5 at hk
 have hs:O 37 [.slice (List.map aF l) [] false] []=some (.slice (List.map aF l) [] false,[]):=bU (enc:=fun r=>(aAE r,[])) hk
 have key:=jH pokX xok hs (M:=M) (w:=w) (vals := #[v]) rfl hc ⟨rfl,fun i p hp=>by
  match i,hp with
  | 0,hp=>cases hp;exact ⟨hr,aT rfl⟩
  | i+1,hp=>simp at hp⟩
 refine key.mono ?_
 rintro e w' ⟨v,M',rfl,hv,hc',hq⟩
 obtain ⟨a,n,p,rfl⟩:=jE hv
 exact ⟨a,n,p,M',rfl,hv,hc',hq⟩
noncomputable def r13C:Code:=fstC (sndC (inC (blB (bE Tryz.f13))))
noncomputable def r14C:Code:=sndC (sndC (inC (blB (bE Tryz.f13))))
set_option maxHeartbeats 4000000 in
theorem aZz {M:Mem} {w:World} (H:Nat) (x:GFrag) (a3:Option Addr) (l3 p3:Nat) (a4:Option Addr) (l4 p4:Nat) (hc:Cons M w) (hH:w.heap[H]?=some (.cells #[.string ⟨x.name.toArray⟩,.string ⟨x.on_.toArray⟩,.slice a3 l3 p3,.slice a4 l4 p4] 68 (0,0))) (hf:∀ i,M H i=none) (hr3:Rv M noB (.slice (List.map aU x.dirs) [] false) (.slice a3 l3 p3)) (hr4:Rv M noB (.slice (List.map aF x.sels) [] false) (.slice a4 l4 p4)) (hl3:bkSl jJ x.dirs<1073741824) (hl4:bR x.sels<1073741824) (Q:Exit→Act→World→Prop) (v0 v1 v2 v3 v4 v5 v6 v8 v9 v10 v11 v12 v13 v14 v15 v16 v17 v18 v19 v20 v21 v22 v23 v24 v25 v26 v27 v28 v29 v30 v31 v32 v33 v34 v35 v36 v37 v38 v39 v40 v41 v42 v43 v44 v45 v46 v47 v48 v49 v50 v51 v52 v53 v54 v55 v56 v57 v58 v59 v60 v61 v62 v63 v64 v65:Value)
  (hC:∀ (w':World) (M':Mem) (b3:Option Addr) (m3 q3:Nat) (b4:Option Addr) (m4 q4:Nat) (z51 z52 z53 z54 z55 z56 z57 z58:Value),Stp H M w M' w'→w'.heap[H]?=some (.cells #[.string ⟨x.name.toArray⟩,.string ⟨x.on_.toArray⟩,.slice b3 m3 q3,.slice b4 m4 q4] 68 (0,0))→Rv M' noB (.slice (List.map aU x.dirs) [] false) (.slice b3 m3 q3)→Rv M' noB (.slice (List.map aF x.sels) [] false) (.slice b4 m4 q4)→Q .normal ⟨#[v0,v1,v2,v3,v4,v5,v6,.pointer (some ⟨H,0,none⟩),v8,v9,v10,v11,v12,v13,v14,v15,v16,v17,v18,v19,v20,v21,v22,v23,v24,v25,v26,v27,v28,v29,v30,v31,v32,v33,v34,v35,v36,v37,v38,v39,v40,v41,v42,v43,v44,v45,v46,v47,v48,v49,v50,z51,z52,z53,z54,z55,z56,z57,z58,v59,v60,v61,v62,v63,v64,v65],[]⟩ w') :
  Code.wp Tryz.prog r13C Q ⟨#[v0,v1,v2,v3,v4,v5,v6,.pointer (some ⟨H,0,none⟩),v8,v9,v10,v11,v12,v13,v14,v15,v16,v17,v18,v19,v20,v21,v22,v23,v24,v25,v26,v27,v28,v29,v30,v31,v32,v33,v34,v35,v36,v37,v38,v39,v40,v41,v42,v43,v44,v45,v46,v47,v48,v49,v50,v51,v52,v53,v54,v55,v56,v57,v58,v59,v60,v61,v62,v63,v64,v65],[]⟩ w:=by
 have hHl:H<w.heap.size:=(Array.getElem?_eq_some_iff.1 hH).1
 have k3:w.cell? ⟨H,2,none⟩=some (.slice a3 l3 p3):=by rw [cell_of_row w H _ _ _ _ hH];rfl
 have k4:w.cell? ⟨H,3,none⟩=some (.slice a4 l4 p4):=by rw [cell_of_row w H _ _ _ _ hH];rfl
 have fin:Hid (∀ (w2 w3:World) (M2 M3:Mem) (b3:Option Addr) (m3 q3:Nat) (b4:Option Addr) (m4 q4:Nat) (z51 z52 z53 z54 z55 z56 z57 z58:Value),Cons M2 w2→Quiet M w.drew M2 w2→Cons M3 w3→Quiet M2 w2 M3 w3→Rv M2 noB (.slice (List.map aU x.dirs) [] false) (.slice b3 m3 q3)→Rv M3 noB (.slice (List.map aF x.sels) [] false) (.slice b4 m4 q4)→Q .normal ⟨#[v0,v1,v2,v3,v4,v5,v6,.pointer (some ⟨H,0,none⟩),v8,v9,v10,v11,v12,v13,v14,v15,v16,v17,v18,v19,v20,v21,v22,v23,v24,v25,v26,v27,v28,v29,v30,v31,v32,v33,v34,v35,v36,v37,v38,v39,v40,v41,v42,v43,v44,v45,v46,v47,v48,v49,v50,z51,z52,z53,z54,z55,z56,z57,z58,v59,v60,v61,v62,v63,v64,v65],[]⟩ ((w3.setCell ⟨H,2,none⟩ (.slice b3 m3 q3)).setCell ⟨H,3,none⟩ (.slice b4 m4 q4))):=by
  intro w2 w3 M2 M3 b3 m3 q3 b4 m4 q4 z51 z52 z53 z54 z55 z56 z57 z58 hc2 hq2 hc3 hq3 h3 h4
  have S0:=((Stp.drew (H:=H) hc).trans (Stp.quiet hq2 hc2)).trans (Stp.quiet hq3 hc3)
  have S1:=S0.trans (Stp.set S0.cons (S0.free hHl hf) 2 (.slice b3 m3 q3))
  have S2:=S1.trans (Stp.set S1.cons (S1.free hHl hf) 3 (.slice b4 m4 q4))
  have e2:w3.heap[H]?=w.heap[H]?:=(hq3.old H (Nat.lt_of_lt_of_le hHl hq2.size)).1.trans (hq2.old H hHl).1
  exact hC _ _ _ _ _ _ _ _ _ _ _ _ _ _ _ _ S2 (heap_setCell_same _ H 3 _ _ _ (heap_setCell_same _ H 2 _ _ _ (e2.trans hH))) (h3.mono hq3.mem (fun _ _ _ h=>h)) h4
 have h36:=aHX x.dirs hl3 (M:=M) (w:=w.drew) (.slice a3 l3 p3) (aDS hc) hr3
 have h37:=fun (M2:Mem) (w2:World) (hc2:Cons M2 w2) (hq2:Quiet M w.drew M2 w2)=>aOr x.sels hl4 (M:=M2) (w:=w2) (.slice a4 l4 p4) hc2 (hr4.mono hq2.mem (fun _ _ _ h=>h))
 have hcl:Hid (∀ (M2:Mem) (w2:World),Quiet M w.drew M2 w2→w2.cell? ⟨H,3,none⟩=some (.slice a4 l4 p4)):=fun M2 w2 hq2=>(World.cell?_of_block (a:=⟨H,3,none⟩) (hq2.old H hHl).1).trans k4
 have hst:Hid (∀ (M2:Mem) (w2:World) (M3:Mem) (w3:World),Quiet M w.drew M2 w2→Quiet M2 w2 M3 w3→w3.cell? ⟨H,2,none⟩=some (.slice a3 l3 p3)∧w3.frozen? ⟨H,2,none⟩=false∧w3.cell? ⟨H,3,none⟩=some (.slice a4 l4 p4)∧w3.frozen? ⟨H,3,none⟩=false):=by
  intro M2 w2 M3 w3 hq2 hq3
  have e2:w3.heap[H]?=w.heap[H]?:=(hq3.old H (Nat.lt_of_lt_of_le hHl hq2.size)).1.trans (hq2.old H hHl).1
  exact ⟨(World.cell?_of_block (a:=⟨H,2,none⟩) e2).trans k3,frozen_of_row _ _ _ _ _ (e2.trans hH),(World.cell?_of_block (a:=⟨H,3,none⟩) e2).trans k4,frozen_of_row _ _ _ _ _ (e2.trans hH)⟩
 replace h37:=(id h37:Hid _)
 clear hC hH
 refine Code.wp_mono (Q:=Exit.then (Q .normal) (fun _ _ _=>False)) (fun e a w h=>by cases e<;>first | exact h | exact h.elim) ?_
 unfold r13C
 simp only [Tryz.f13,bE,inC,blA,blB,blkC,lopC,fstC,sndC]
 go_wp2
 go_region_with (first | (go_at_call 36;refine h36.mono ?_;rintro e' w2 ⟨b3,m3,q3,M2,rfl,hv3,hc2,hq2⟩;have j4:=hcl.out M2 w2 hq2) | (go_at_call 37;have h37b:=h37.out M2 w2 hc2 hq2;refine h37b.mono ?_;rintro e' w3 ⟨b4,m4,q4,M3,rfl,hv4,hc3,hq3⟩;obtain ⟨i1,i2,i3,i4⟩:=hst.out M2 w2 M3 w3 hq2 hq3))
 all_goals exact fin.out w2 w3 M2 M3 b3 m3 q3 b4 m4 q4 _ _ _ _ _ _ _ _ hc2 hq2 hc3 hq3 hv3 hv4
set_option maxHeartbeats 4000000 in
theorem bB4 {w:World} (H Z B:Nat) (x:GOp) (a2:Option Addr) (l2 p2:Nat) (a3:Option Addr) (l3 p3:Nat) (a4:Option Addr) (l4 p4:Nat) (ga:Option Addr) (n cap:Nat) (ys:List Value) (vz:Value) (hH:w.heap[H]?=some (.cells #[.int .i64 x.kind,.string ⟨x.name.toArray⟩,.slice a2 l2 p2,.slice a3 l3 p3,.slice a4 l4 p4] 38 (0,0))) (hZ:w.heap[Z]?=some (.cells #[.slice ga n cap,vz] 28 (0,0))) (hown:w.ownsRow B 38 5 (.slice ga n cap) n ys) (hZB:Z<B) (hB:B≤w.heap.size) (hn:n≤1048576) (Q:Exit→Act→World→Prop) (v0 v1 v2 v4 v6 v7 v8 v9 v10 v11 v12 v13 v14 v15 v16 v17 v18 v19 v20 v21 v22 v23 v24 v25 v26 v27 v28 v29 v30 v31 v32 v33 v34 v35 v36 v37 v38 v39 v40 v41 v42 v43 v44 v45 v46 v47 v48 v49 v50 v51 v52 v53 v54 v55 v56 v57 v58 v59 v60 v61 v62 v63 v64 v65:Value)
  (hC:∀ (w':World) (g cap':Nat) (z33 z34 z35 z36 z37 z38:Value),w'.ownsRow B 38 5 (.slice (some ⟨g,0,none⟩) (n+1) cap') (n+1) (ys++[.int .i64 x.kind,.string ⟨x.name.toArray⟩,.slice a2 l2 p2,.slice a3 l3 p3,.slice a4 l4 p4])→w'.heap[Z]?=some (.cells #[.slice (some ⟨g,0,none⟩) (n+1) cap',vz] 28 (0,0))→(∀ b,b<w.heap.size→b≠Z→(Value.slice ga n cap).ownBlock≠some b→w'.heap[b]?=w.heap[b]?)→((Value.slice ga n cap).ownBlock=some g∨w.heap.size≤g)→w'.os=w.os→w'.tape=w.tape→w'.output=w.output→w.heap.size≤w'.heap.size→Q .normal ⟨#[v0,v1,v2,.pointer (some ⟨Z,0,none⟩),v4,.pointer (some ⟨H,0,none⟩),v6,v7,v8,v9,v10,v11,v12,v13,v14,v15,v16,v17,v18,v19,v20,v21,v22,v23,v24,v25,v26,v27,v28,v29,v30,v31,v32,z33,z34,z35,z36,z37,z38,v39,v40,v41,v42,v43,v44,v45,v46,v47,v48,v49,v50,v51,v52,v53,v54,v55,v56,v57,v58,v59,v60,v61,v62,v63,v64,v65],[]⟩ w') :
  Code.wp Tryz.prog r8C Q ⟨#[v0,v1,v2,.pointer (some ⟨Z,0,none⟩),v4,.pointer (some ⟨H,0,none⟩),v6,v7,v8,v9,v10,v11,v12,v13,v14,v15,v16,v17,v18,v19,v20,v21,v22,v23,v24,v25,v26,v27,v28,v29,v30,v31,v32,v33,v34,v35,v36,v37,v38,v39,v40,v41,v42,v43,v44,v45,v46,v47,v48,v49,v50,v51,v52,v53,v54,v55,v56,v57,v58,v59,v60,v61,v62,v63,v64,v65],[]⟩ w:=by
 have hHl:H<w.heap.size:=(Array.getElem?_eq_some_iff.1 hH).1
 have hZl:Z<w.heap.size:=(Array.getElem?_eq_some_iff.1 hZ).1
 obtain ⟨i0,z0,hi,hz0,hz1,hz2,hzc⟩:=aLr Tryz.i38
 have k3:w.cell? ⟨Z,0,none⟩=some (.slice ga n cap):=by rw [cell_of_row w Z _ _ _ _ hZ];rfl
 have c0:w.cell? ⟨H,0,none⟩=_:=cell_of_row w H 0 _ _ _ hH
 have c1:w.cell? ⟨H,1,none⟩=_:=cell_of_row w H 1 _ _ _ hH
 have c2:w.cell? ⟨H,2,none⟩=_:=cell_of_row w H 2 _ _ _ hH
 have c3:w.cell? ⟨H,3,none⟩=_:=cell_of_row w H 3 _ _ _ hH
 have c4:w.cell? ⟨H,4,none⟩=_:=cell_of_row w H 4 _ _ _ hH
 simp only [List.getElem?_toArray,List.getElem?_cons_zero,List.getElem?_cons_succ] at c0 c1 c2 c3 c4
 have hn0:=World.news_of_block (cs := #[.int .i64 x.kind,.string ⟨x.name.toArray⟩,.slice a2 l2 p2,.slice a3 l3 p3,.slice a4 l4 p4]) (heap_alloc_new w (.cells #[.int .i64 x.kind,.string ⟨x.name.toArray⟩,.slice a2 l2 p2,.slice a3 l3 p3,.slice a4 l4 p4] 38))
 have hown2:=hown.alloc (.cells #[.int .i64 x.kind,.string ⟨x.name.toArray⟩,.slice a2 l2 p2,.slice a3 l3 p3,.slice a4 l4 p4] 38)
 have hsz:(w.alloc (.cells #[.int .i64 x.kind,.string ⟨x.name.toArray⟩,.slice a2 l2 p2,.slice a3 l3 p3,.slice a4 l4 p4] 38)).heap.size=w.heap.size+1:=by simp
 have hBs:B≤(w.alloc (.cells #[.int .i64 x.kind,.string ⟨x.name.toArray⟩,.slice a2 l2 p2,.slice a3 l3 p3,.slice a4 l4 p4] 38)).heap.size:=by omega
 replace hC:=(id hC:Hid _)
 have hZo:(Value.slice ga n cap).ownBlock≠some Z:=fun e=>by have:=(hown.lt Z e).1;omega
 have eZ0:(w.alloc (.cells #[.int .i64 x.kind,.string ⟨x.name.toArray⟩,.slice a2 l2 p2,.slice a3 l3 p3,.slice a4 l4 p4] 38)).heap[Z]?=w.heap[Z]?:=heap_alloc_old w _ hZl
 replace hZo:=(id hZo:Hid _)
 replace eZ0:=(id eZ0:Hid _)
 unfold r8C
 simp only [Tryz.f13,bE,inC,blA,blB,blkC,lopC,fstC,sndC]
 go_wp2_with (at_builtin;refine wpList_append_lies _ rfl (.tmp 34) (.tmp 36) 25 rfl B 38 i0 _ 5 96 Tryz.u25 hi hz0 hz1 hz2 hzc (by decide) (.slice ga n cap) n ys rfl hown2 ⟨w.heap.size,0,none⟩ 1 1 [.int .i64 x.kind,.string ⟨x.name.toArray⟩,.slice a2 l2 p2,.slice a3 l3 p3,.slice a4 l4 p4] rfl rfl hn0 (by intro u hu;simp only [List.mem_cons,List.not_mem_nil,or_false] at hu;rcases hu with rfl | rfl | rfl | rfl | rfl<;>rfl) (by decide) (by simp [maxLen];omega) (by omega) hBs _ rfl ?_;intro g cap' w1 hown3 hgrow hat hlt;have e1:=hgrow.block Z (by rw [hsz];omega) (fun e=>hZo.out e.symm);have k4:=(World.cell?_of_block (a:=⟨Z,0,none⟩) (e1.trans eZ0.out)).trans k3;have k5:=frozen_of_row w1 Z 0 _ _ ((e1.trans eZ0.out).trans hZ))
 refine hC.out _ g cap' _ _ _ _ _ _ (ownsRow_setCell_other hown3 (a:=⟨Z,0,none⟩) (by have:=(hown3.lt g rfl).1;simp only [Value.ownBlock,ne_eq,Option.some.injEq];omega) _) (heap_setCell_same w1 Z 0 _ _ _ (e1.trans (eZ0.out.trans hZ))) ?_ ?_ hgrow.os hgrow.tape hgrow.output ?_
 ·intro b hb hbz hbo
  rw [Below.heap_setCell _ _ _ _ hbz]
  exact (hgrow.block b (by rw [hsz];omega) (fun e=>hbo e.symm)).trans (heap_alloc_old w _ hb)
 ·rcases hat with h | h
  ·exact .inl h
  ·right;omega
 ·have:=hgrow.size
  simp only [World.setCell,Array.size_modify]
  omega
set_option maxHeartbeats 4000000 in
theorem bB5 {w:World} (H Z B:Nat) (x:GFrag) (a3:Option Addr) (l3 p3:Nat) (a4:Option Addr) (l4 p4:Nat) (ga:Option Addr) (n cap:Nat) (ys:List Value) (vz:Value) (hH:w.heap[H]?=some (.cells #[.string ⟨x.name.toArray⟩,.string ⟨x.on_.toArray⟩,.slice a3 l3 p3,.slice a4 l4 p4] 68 (0,0))) (hZ:w.heap[Z]?=some (.cells #[vz,.slice ga n cap] 28 (0,0))) (hown:w.ownsRow B 68 4 (.slice ga n cap) n ys) (hZB:Z<B) (hB:B≤w.heap.size) (hn:n≤1048576) (Q:Exit→Act→World→Prop) (v0 v1 v2 v4 v5 v6 v8 v9 v10 v11 v12 v13 v14 v15 v16 v17 v18 v19 v20 v21 v22 v23 v24 v25 v26 v27 v28 v29 v30 v31 v32 v33 v34 v35 v36 v37 v38 v39 v40 v41 v42 v43 v44 v45 v46 v47 v48 v49 v50 v51 v52 v53 v54 v55 v56 v57 v58 v59 v60 v61 v62 v63 v64 v65:Value)
  (hC:∀ (w':World) (g cap':Nat) (z59 z60 z61 z62 z63 z64:Value),w'.ownsRow B 68 4 (.slice (some ⟨g,0,none⟩) (n+1) cap') (n+1) (ys++[.string ⟨x.name.toArray⟩,.string ⟨x.on_.toArray⟩,.slice a3 l3 p3,.slice a4 l4 p4])→w'.heap[Z]?=some (.cells #[vz,.slice (some ⟨g,0,none⟩) (n+1) cap'] 28 (0,0))→(∀ b,b<w.heap.size→b≠Z→(Value.slice ga n cap).ownBlock≠some b→w'.heap[b]?=w.heap[b]?)→((Value.slice ga n cap).ownBlock=some g∨w.heap.size≤g)→w'.os=w.os→w'.tape=w.tape→w'.output=w.output→w.heap.size≤w'.heap.size→Q .normal ⟨#[v0,v1,v2,.pointer (some ⟨Z,0,none⟩),v4,v5,v6,.pointer (some ⟨H,0,none⟩),v8,v9,v10,v11,v12,v13,v14,v15,v16,v17,v18,v19,v20,v21,v22,v23,v24,v25,v26,v27,v28,v29,v30,v31,v32,v33,v34,v35,v36,v37,v38,v39,v40,v41,v42,v43,v44,v45,v46,v47,v48,v49,v50,v51,v52,v53,v54,v55,v56,v57,v58,z59,z60,z61,z62,z63,z64,v65],[]⟩ w') :
  Code.wp Tryz.prog r14C Q ⟨#[v0,v1,v2,.pointer (some ⟨Z,0,none⟩),v4,v5,v6,.pointer (some ⟨H,0,none⟩),v8,v9,v10,v11,v12,v13,v14,v15,v16,v17,v18,v19,v20,v21,v22,v23,v24,v25,v26,v27,v28,v29,v30,v31,v32,v33,v34,v35,v36,v37,v38,v39,v40,v41,v42,v43,v44,v45,v46,v47,v48,v49,v50,v51,v52,v53,v54,v55,v56,v57,v58,v59,v60,v61,v62,v63,v64,v65],[]⟩ w:=by
 have hHl:H<w.heap.size:=(Array.getElem?_eq_some_iff.1 hH).1
 have hZl:Z<w.heap.size:=(Array.getElem?_eq_some_iff.1 hZ).1
 obtain ⟨i0,z0,hi,hz0,hz1,hz2,hzc⟩:=aLr Tryz.i68
 have k3:w.cell? ⟨Z,1,none⟩=some (.slice ga n cap):=by rw [cell_of_row w Z _ _ _ _ hZ];rfl
 have c0:w.cell? ⟨H,0,none⟩=_:=cell_of_row w H 0 _ _ _ hH
 have c1:w.cell? ⟨H,1,none⟩=_:=cell_of_row w H 1 _ _ _ hH
 have c2:w.cell? ⟨H,2,none⟩=_:=cell_of_row w H 2 _ _ _ hH
 have c3:w.cell? ⟨H,3,none⟩=_:=cell_of_row w H 3 _ _ _ hH
 simp only [List.getElem?_toArray,List.getElem?_cons_zero,List.getElem?_cons_succ] at c0 c1 c2 c3
 have hn0:=World.news_of_block (cs := #[.string ⟨x.name.toArray⟩,.string ⟨x.on_.toArray⟩,.slice a3 l3 p3,.slice a4 l4 p4]) (heap_alloc_new w (.cells #[.string ⟨x.name.toArray⟩,.string ⟨x.on_.toArray⟩,.slice a3 l3 p3,.slice a4 l4 p4] 68))
 have hown2:=hown.alloc (.cells #[.string ⟨x.name.toArray⟩,.string ⟨x.on_.toArray⟩,.slice a3 l3 p3,.slice a4 l4 p4] 68)
 have hsz:(w.alloc (.cells #[.string ⟨x.name.toArray⟩,.string ⟨x.on_.toArray⟩,.slice a3 l3 p3,.slice a4 l4 p4] 68)).heap.size=w.heap.size+1:=by simp
 have hBs:B≤(w.alloc (.cells #[.string ⟨x.name.toArray⟩,.string ⟨x.on_.toArray⟩,.slice a3 l3 p3,.slice a4 l4 p4] 68)).heap.size:=by omega
 replace hC:=(id hC:Hid _)
 have hZo:(Value.slice ga n cap).ownBlock≠some Z:=fun e=>by have:=(hown.lt Z e).1;omega
 have eZ0:(w.alloc (.cells #[.string ⟨x.name.toArray⟩,.string ⟨x.on_.toArray⟩,.slice a3 l3 p3,.slice a4 l4 p4] 68)).heap[Z]?=w.heap[Z]?:=heap_alloc_old w _ hZl
 replace hZo:=(id hZo:Hid _)
 replace eZ0:=(id eZ0:Hid _)
 unfold r14C
 simp only [Tryz.f13,bE,inC,blA,blB,blkC,lopC,fstC,sndC]
 go_wp2_with (at_builtin;refine wpList_append_lies _ rfl (.tmp 60) (.tmp 62) 26 rfl B 68 i0 _ 4 80 Tryz.u26 hi hz0 hz1 hz2 hzc (by decide) (.slice ga n cap) n ys rfl hown2 ⟨w.heap.size,0,none⟩ 1 1 [.string ⟨x.name.toArray⟩,.string ⟨x.on_.toArray⟩,.slice a3 l3 p3,.slice a4 l4 p4] rfl rfl hn0 (by intro u hu;simp only [List.mem_cons,List.not_mem_nil,or_false] at hu;rcases hu with rfl | rfl | rfl | rfl<;>rfl) (by decide) (by simp [maxLen];omega) (by omega) hBs _ rfl ?_;intro g cap' w1 hown3 hgrow hat hlt;have e1:=hgrow.block Z (by rw [hsz];omega) (fun e=>hZo.out e.symm);have k4:=(World.cell?_of_block (a:=⟨Z,1,none⟩) (e1.trans eZ0.out)).trans k3;have k5:=frozen_of_row w1 Z 1 _ _ ((e1.trans eZ0.out).trans hZ))
 refine hC.out _ g cap' _ _ _ _ _ _ (ownsRow_setCell_other hown3 (a:=⟨Z,1,none⟩) (by have:=(hown3.lt g rfl).1;simp only [Value.ownBlock,ne_eq,Option.some.injEq];omega) _) (heap_setCell_same w1 Z 1 _ _ _ (e1.trans (eZ0.out.trans hZ))) ?_ ?_ hgrow.os hgrow.tape hgrow.output ?_
 ·intro b hb hbz hbo
  rw [Below.heap_setCell _ _ _ _ hbz]
  exact (hgrow.block b (by rw [hsz];omega) (fun e=>hbo e.symm)).trans (heap_alloc_old w _ hb)
 ·rcases hat with h | h
  ·exact .inl h
  ·right;omega
 ·have:=hgrow.size
  simp only [World.setCell,Array.size_modify]
  omega
noncomputable def cAC:Code:=fstC (lopC (blkC (blA (bE Tryz.f13))))
noncomputable def r5C:Code:=fstC (inC (blA (bE Tryz.f13)))
noncomputable def r4C:Code:=sndC (sndC (lopC (blkC (blA (bE Tryz.f13)))))
theorem aA1 {w:World} {B e size n:Nat} {v:Value} {xs:List Value} (h:w.ownsRow B e size v n xs):∃ ga cap,v = .slice ga n cap:=by
 rcases h.2 with ⟨rfl,h0⟩ | ⟨g,cap,cur,rfl,_⟩
 ·exact ⟨none,0,by rw [h0]⟩
 ·exact ⟨_,_,rfl⟩
theorem Stp.alloc {H:Nat} {M:Mem} {w:World} (hc:Cons M w) (o:Obj):Stp H M w M (w.alloc o):=⟨fun _ _ _ h=>h,fun b hb _=>heap_alloc_old w o hb,fun _ _ _=>rfl,rfl,rfl,rfl,by simp,kA hc fun k hk _=>heap_alloc_old w o hk⟩
theorem aRr {w:World} {B e size g n cap:Nat} {xs:List Value} (h:w.ownsRow B e size (.slice (some ⟨g,0,none⟩) n cap) n xs) (j:Nat) (v:Value) (hj:j<xs.length) :
  (w.setCell ⟨g,j,none⟩ v).ownsRow B e size (.slice (some ⟨g,0,none⟩) n cap) n (xs.set j v):=by
 refine ⟨by rw [List.length_set];exact h.1,?_⟩
 rcases h.2 with ⟨hv,_⟩ | ⟨g',cap',cur,hv,hb,hg,hnc,hcm,hcs,ht⟩
 ·simp at hv
 ·cases hv
  refine .inr ⟨g,cap,cur.setIfInBounds j v,rfl,hb,?_,hnc,hcm,by rw [Array.size_setIfInBounds];exact hcs,?_⟩
  ·simp [World.setCell,Array.getElem?_modify,hg]
  ·rw [Array.toList_setIfInBounds,List.take_set,ht]
theorem aS6 {w:World} {B e size g n cap:Nat} {xs:List Value} (h:w.ownsRow B e size (.slice (some ⟨g,0,none⟩) n cap) n xs) {j:Nat} {v:Value} (hv:xs[j]?=some v):w.cell? ⟨g,j,none⟩=some v∧w.frozen? ⟨g,j,none⟩=false:=by
 have h1:=h.cells (g:=g) rfl j v hv
 rw [addN,Nat.zero_add] at h1
 refine ⟨h1,?_⟩
 rcases h.2 with ⟨hv,_⟩ | ⟨g',cap',cur,hv,hb,hg,_⟩
 ·simp at hv
 ·cases hv
  exact frozen_of_row _ _ _ _ _ hg
def OpAt (M:Mem) (l:List GOp) (ys:List Value):Prop:=ys.length=l.length*5∧∀ (i:Nat) (x:GOp),l[i]?=some x→∃ v2 v3 v4,OCV M x v2 v3 v4∧∀ (j:Nat) (u:Value),(aAl x v2 v3 v4)[j]?=some u→ys[i*5+j]?=some u
theorem OpRow.at' {M:Mem} {l:List GOp} {ys:List Value} (h:OpRow M l ys):OpAt M l ys:=⟨aOn h,aZu h⟩
theorem OpAt.mono {M M':Mem} {l:List GOp} {ys:List Value} (h:OpAt M l ys) (hM:∀ b i v,M b i=some v→M' b i=some v):OpAt M' l ys :=
 ⟨h.1,fun i x hx=>by obtain ⟨a,b,c,h1,h2⟩:=h.2 i x hx;exact ⟨a,b,c,h1.mono hM,h2⟩⟩
theorem aJA {M M':Mem} {B':Nat} {w:World} {l:List GOp} {ys:List Value} {v:Value} (h:OpAt M l ys) (ho:w.ownsRow B' 38 5 v l.length ys) (hm:∀ b i v,M b i=some v→M' b i=some v) (hM:∀ g arr T fz,v.ownBlock=some g→w.heap[g]?=some (.cells arr T fz)→∀ i,M' g i=arr[i]?):Rv M' noB (.slice (List.map bL l) [] false) v:=by
 refine aDO ho hM _ (by simp) ?_ ?_
 ·intro p hp
  obtain ⟨x,_,rfl⟩:=List.mem_map.1 hp
  rw [gT]
  exact ⟨rfl,rfl,rfl,by decide⟩
 ·intro i p j c hp hcc
  rw [List.getElem?_map] at hp
  cases hx:l[i]? with
  | none=>rw [hx] at hp;simp at hp
  | some x =>
   rw [hx] at hp
   simp only [Option.map_some,Option.some.injEq] at hp
   subst hp
   obtain ⟨v2,v3,v4,hc,hat⟩:=h.2 i x hx
   have hc:=hc.mono hm
   have hj:j<5:=by
    have:=(List.getElem?_eq_some_iff.1 hcc).1
    rw [gT] at this;exact this
   rw [gT] at hcc
   match j,hj,hcc with
   | 0,_,hcc=>cases hcc;exact ⟨_,hat 0 _ rfl,.int _ _⟩
   | 1,_,hcc=>cases hcc;exact ⟨_,hat 1 _ rfl,.str _⟩
   | 2,_,hcc=>cases hcc;exact ⟨_,hat 2 _ rfl,hc.r2⟩
   | 3,_,hcc=>cases hcc;exact ⟨_,hat 3 _ rfl,hc.r3⟩
   | 4,_,hcc=>cases hcc;exact ⟨_,hat 4 _ rfl,hc.r4⟩
theorem OpAt.set {M:Mem} {l:List GOp} {ys:List Value} (h:OpAt M l ys) {k:Nat} {x x':GOp} (hx:l[k]?=some x) (e0:x'.kind=x.kind) (e1:x'.name=x.name) (e2:x'.vars=x.vars) {u3 u4:Value} (h3:Rv M noB (.slice (List.map aU x'.dirs) [] false) u3) (h4:Rv M noB (.slice (List.map aF x'.sels) [] false) u4) :
  OpAt M (l.set k x') ((ys.set (k*5+3) u3).set (k*5+4) u4):=by
 have hk:k<l.length:=(List.getElem?_eq_some_iff.1 hx).1
 refine ⟨by rw [List.length_set,List.length_set,List.length_set];exact h.1,fun i y hy => ?_⟩
 have hlen:=h.1
 by_cases hik:i=k
 ·subst hik
  rw [List.getElem?_set_self hk] at hy
  cases hy
  obtain ⟨v2,v3,v4,hc,hat⟩:=h.2 i x hx
  refine ⟨v2,u3,u4,⟨by rw [e2];exact hc.r2,h3,h4⟩,fun j u hu => ?_⟩
  have hj:j<5:=by have:=(List.getElem?_eq_some_iff.1 hu).1;simpa using this
  match j,hj,hu with
  | 0,_,hu=>rw [List.getElem?_set_ne (by omega),List.getElem?_set_ne (by omega)];cases hu;rw [e0];exact hat 0 _ rfl
  | 1,_,hu=>rw [List.getElem?_set_ne (by omega),List.getElem?_set_ne (by omega)];cases hu;rw [e1];exact hat 1 _ rfl
  | 2,_,hu=>rw [List.getElem?_set_ne (by omega),List.getElem?_set_ne (by omega)];cases hu;exact hat 2 _ rfl
  | 3,_,hu=>rw [List.getElem?_set_ne (by omega),List.getElem?_set_self (by omega)];exact hu
  | 4,_,hu=>rw [List.getElem?_set_self (by rw [List.length_set];omega)];exact hu
 ·rw [List.getElem?_set_ne (fun e=>hik e.symm)] at hy
  obtain ⟨v2,v3,v4,hc,hat⟩:=h.2 i y hy
  refine ⟨v2,v3,v4,hc,fun j u hu => ?_⟩
  have hj:j<5:=by have:=(List.getElem?_eq_some_iff.1 hu).1;simpa using this
  rw [List.getElem?_set_ne (by omega),List.getElem?_set_ne (by omega)]
  exact hat j u hu
def FrAt (M:Mem) (l:List GFrag) (ys:List Value):Prop:=ys.length=l.length*4∧∀ (i:Nat) (x:GFrag),l[i]?=some x→∃ v2 v3,FCV M x v2 v3∧∀ (j:Nat) (u:Value),(aDQ x v2 v3)[j]?=some u→ys[i*4+j]?=some u
theorem FrRow.at' {M:Mem} {l:List GFrag} {ys:List Value} (h:FrRow M l ys):FrAt M l ys:=⟨aOo h,aZv h⟩
theorem FrAt.mono {M M':Mem} {l:List GFrag} {ys:List Value} (h:FrAt M l ys) (hM:∀ b i v,M b i=some v→M' b i=some v):FrAt M' l ys :=
 ⟨h.1,fun i x hx=>by obtain ⟨a,b,h1,h2⟩:=h.2 i x hx;exact ⟨a,b,h1.mono hM,h2⟩⟩
theorem aJB {M M':Mem} {B':Nat} {w:World} {l:List GFrag} {ys:List Value} {v:Value} (h:FrAt M l ys) (ho:w.ownsRow B' 68 4 v l.length ys) (hm:∀ b i v,M b i=some v→M' b i=some v) (hM:∀ g arr T fz,v.ownBlock=some g→w.heap[g]?=some (.cells arr T fz)→∀ i,M' g i=arr[i]?):Rv M' noB (.slice (List.map aJ l) [] false) v:=by
 refine aDO ho hM _ (by simp) ?_ ?_
 ·intro p hp
  obtain ⟨x,_,rfl⟩:=List.mem_map.1 hp
  rw [dF]
  exact ⟨rfl,rfl,rfl,by decide⟩
 ·intro i p j c hp hcc
  rw [List.getElem?_map] at hp
  cases hx:l[i]? with
  | none=>rw [hx] at hp;simp at hp
  | some x =>
   rw [hx] at hp
   simp only [Option.map_some,Option.some.injEq] at hp
   subst hp
   obtain ⟨v2,v3,hc,hat⟩:=h.2 i x hx
   have hc:=hc.mono hm
   have hj:j<4:=by
    have:=(List.getElem?_eq_some_iff.1 hcc).1
    rw [dF] at this;exact this
   rw [dF] at hcc
   match j,hj,hcc with
   | 0,_,hcc=>cases hcc;exact ⟨_,hat 0 _ rfl,.str _⟩
   | 1,_,hcc=>cases hcc;exact ⟨_,hat 1 _ rfl,.str _⟩
   | 2,_,hcc=>cases hcc;exact ⟨_,hat 2 _ rfl,hc.r2⟩
   | 3,_,hcc=>cases hcc;exact ⟨_,hat 3 _ rfl,hc.r3⟩
theorem FrAt.set {M:Mem} {l:List GFrag} {ys:List Value} (h:FrAt M l ys) {k:Nat} {x x':GFrag} (hx:l[k]?=some x) (e0:x'.name=x.name) (e1:x'.on_=x.on_) {u3 u4:Value} (h3:Rv M noB (.slice (List.map aU x'.dirs) [] false) u3) (h4:Rv M noB (.slice (List.map aF x'.sels) [] false) u4) :
  FrAt M (l.set k x') ((ys.set (k*4+2) u3).set (k*4+3) u4):=by
 have hk:k<l.length:=(List.getElem?_eq_some_iff.1 hx).1
 refine ⟨by rw [List.length_set,List.length_set,List.length_set];exact h.1,fun i y hy => ?_⟩
 have hlen:=h.1
 by_cases hik:i=k
 ·subst hik
  rw [List.getElem?_set_self hk] at hy
  cases hy
  obtain ⟨v3,v4,hc,hat⟩:=h.2 i x hx
  refine ⟨u3,u4,⟨h3,h4⟩,fun j u hu => ?_⟩
  have hj:j<4:=by have:=(List.getElem?_eq_some_iff.1 hu).1;simpa using this
  match j,hj,hu with
  | 0,_,hu=>rw [List.getElem?_set_ne (by omega),List.getElem?_set_ne (by omega)];cases hu;rw [e0];exact hat 0 _ rfl
  | 1,_,hu=>rw [List.getElem?_set_ne (by omega),List.getElem?_set_ne (by omega)];cases hu;rw [e1];exact hat 1 _ rfl
  | 2,_,hu=>rw [List.getElem?_set_ne (by omega),List.getElem?_set_self (by omega)];exact hu
  | 3,_,hu=>rw [List.getElem?_set_self (by rw [List.length_set];omega)];exact hu
 ·rw [List.getElem?_set_ne (fun e=>hik e.symm)] at hy
  obtain ⟨v3,v4,hc,hat⟩:=h.2 i y hy
  refine ⟨v3,v4,hc,fun j u hu => ?_⟩
  have hj:j<4:=by have:=(List.getElem?_eq_some_iff.1 hu).1;simpa using this
  rw [List.getElem?_set_ne (by omega),List.getElem?_set_ne (by omega)]
  exact hat j u hu
end Go.Proofs.YtphmfillajagdaaGreat

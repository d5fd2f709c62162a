import Derived.Test.YtphmfillajagdaaGreatWc
import Derived.Test.YtphmfillajagdaaGreatGa
import Derived.Test.YtphmfillajagdaaGreatGc
import Derived.Test.YtphmfillajagdaaGreatRows
import Derived.WalkKit
import Derived.ProofKit
import Derived.OpenShut
import Derived.JoinedCond
import Derived.Test.YtphmfillajagdaaGreatEd
set_option maxRecDepth 100000
set_option linter.unusedVariables false
set_option linter.unusedSimpArgs false
set_option linter.unusedSimpArgs false
open Go Go.Ev Go.RowKit
namespace Go.Proofs.YtphmfillajagdaaGreat
theorem oD {w:World} {B e size g n cap:Nat} {xs:List Value} (h:w.ownsRow B e size (.slice (some ⟨g,0,none⟩) n cap) n xs) (j:Nat) (v:Value) (hj:j<xs.length) :
  (w.setCell ⟨g,j,none⟩ v).ownsRow B e size (.slice (some ⟨g,0,none⟩) n cap) n (xs.set j v):=by
 refine ⟨by rw [List.length_set];exact h.1,?_⟩
 rcases h.2 with ⟨hv,_⟩ | ⟨g',cap',cur,hv,hb,hg,hnc,hcm,hcs,ht⟩
 ·simp at hv
 ·cases hv
  refine .inr ⟨g,cap,cur.setIfInBounds j v,rfl,hb,?_,hnc,hcm,by rw [Array.size_setIfInBounds];exact hcs,?_⟩
  ·simp [World.setCell,Array.getElem?_modify,hg]
  ·rw [Array.toList_setIfInBounds,List.take_set,ht]
theorem tB {w:World} {B e size g n cap:Nat} {xs:List Value} (h:w.ownsRow B e size (.slice (some ⟨g,0,none⟩) n cap) n xs) {j:Nat} {v:Value} (hv:xs[j]?=some v):w.cell? ⟨g,j,none⟩=some v∧w.frozen? ⟨g,j,none⟩=false:=by
 have h1:=h.cells (g:=g) rfl j v hv
 rw [addN,Nat.zero_add] at h1
 refine ⟨h1,?_⟩
 rcases h.2 with ⟨hv,_⟩ | ⟨g',cap',cur,hv,hb,hg,_⟩
 ·simp at hv
 ·cases hv
  exact frozen_of_row _ _ _ _ _ hg
def OpAt (M:Mem) (l:List GOp) (ys:List Value):Prop:=ys.length=l.length*5∧∀ (i:Nat) (x:GOp),l[i]?=some x→∃ v2 v3 v4,OCV M x v2 v3 v4∧∀ (j:Nat) (u:Value),(aEs x v2 v3 v4)[j]?=some u→ys[i*5+j]?=some u
theorem OpRow.at' {M:Mem} {l:List GOp} {ys:List Value} (h:OpRow M l ys):OpAt M l ys:=⟨aPp h,aZN h⟩
theorem OpAt.mono {M M':Mem} {l:List GOp} {ys:List Value} (h:OpAt M l ys) (hM:∀ b i v,M b i=some v→M' b i=some v):OpAt M' l ys :=
 ⟨h.1,fun i x hx=>by obtain ⟨a,b,c,h1,h2⟩:=h.2 i x hx;exact ⟨a,b,c,h1.mono hM,h2⟩⟩
theorem aVw {M M':Mem} {B':Nat} {w:World} {l:List GOp} {ys:List Value} {v:Value} (h:OpAt M l ys) (ho:w.ownsRow B' 38 5 v l.length ys) (hm:∀ b i v,M b i=some v→M' b i=some v) (hM:∀ g arr T fz,v.ownBlock=some g→w.heap[g]?=some (.cells arr T fz)→∀ i,M' g i=arr[i]?):Rv M' noB (.slice (List.map aU l) [] false) v:=by
 refine aMt ho hM _ (by simp) ?_ ?_
 ·intro p hp
  obtain ⟨x,_,rfl⟩:=List.mem_map.1 hp
  rw [gQ]
  exact ⟨rfl,rfl,rfl,by decide⟩
 ·intro i p j c hp hcc
  rw [List.getElem?_map] at hp
  cases hx:l[i]? with
  | none=>rw [hx] at hp;simp at hp
  | some x =>
   rw [hx] at hp
   simp only [Option.map_some,Option.some.injEq] at hp
   subst hp
   obtain ⟨v2,v3,v4,hc,hat⟩:=h.2 i x hx
   have hc:=hc.mono hm
   have hj:j<5:=by
    have:=(List.getElem?_eq_some_iff.1 hcc).1
    rw [gQ] at this;exact this
   rw [gQ] at hcc
   match j,hj,hcc with
   | 0,_,hcc=>cases hcc;exact ⟨_,hat 0 _ rfl,.int _ _⟩
   | 1,_,hcc=>cases hcc;exact ⟨_,hat 1 _ rfl,.str _⟩
   | 2,_,hcc=>cases hcc;exact ⟨_,hat 2 _ rfl,hc.r2⟩
   | 3,_,hcc=>cases hcc;exact ⟨_,hat 3 _ rfl,hc.r3⟩
   | 4,_,hcc=>cases hcc;exact ⟨_,hat 4 _ rfl,hc.r4⟩
theorem OpAt.set {M:Mem} {l:List GOp} {ys:List Value} (h:OpAt M l ys) {k:Nat} {x x':GOp} (hx:l[k]?=some x) (e0:x'.kind=x.kind) (e1:x'.name=x.name) (e2:x'.vars=x.vars) {u3 u4:Value} (h3:Rv M noB (.slice (List.map aH x'.dirs) [] false) u3) (h4:Rv M noB (.slice (List.map aG x'.sels) [] false) u4) :
  OpAt M (l.set k x') ((ys.set (k*5+3) u3).set (k*5+4) u4):=by
 have hk:k<l.length:=(List.getElem?_eq_some_iff.1 hx).1
 refine ⟨by rw [List.length_set,List.length_set,List.length_set];exact h.1,fun i y hy => ?_⟩
 have hlen:=h.1
 by_cases hik:i=k
 ·subst hik
  rw [List.getElem?_set_self hk] at hy
  cases hy
  obtain ⟨v2,v3,v4,hc,hat⟩:=h.2 i x hx
  refine ⟨v2,u3,u4,⟨by rw [e2];exact hc.r2,h3,h4⟩,fun j u hu => ?_⟩
  have hj:j<5:=by have:=(List.getElem?_eq_some_iff.1 hu).1;simpa using this
  match j,hj,hu with
  | 0,_,hu=>rw [List.getElem?_set_ne (by omega),List.getElem?_set_ne (by omega)];cases hu;rw [e0];exact hat 0 _ rfl
  | 1,_,hu=>rw [List.getElem?_set_ne (by omega),List.getElem?_set_ne (by omega)];cases hu;rw [e1];exact hat 1 _ rfl
  | 2,_,hu=>rw [List.getElem?_set_ne (by omega),List.getElem?_set_ne (by omega)];cases hu;exact hat 2 _ rfl
  | 3,_,hu=>rw [List.getElem?_set_ne (by omega),List.getElem?_set_self (by omega)];exact hu
  | 4,_,hu=>rw [List.getElem?_set_self (by rw [List.length_set];omega)];exact hu
 ·rw [List.getElem?_set_ne (fun e=>hik e.symm)] at hy
  obtain ⟨v2,v3,v4,hc,hat⟩:=h.2 i y hy
  refine ⟨v2,v3,v4,hc,fun j u hu => ?_⟩
  have hj:j<5:=by have:=(List.getElem?_eq_some_iff.1 hu).1;simpa using this
  rw [List.getElem?_set_ne (by omega),List.getElem?_set_ne (by omega)]
  exact hat j u hu
def FrAt (M:Mem) (l:List GFrag) (ys:List Value):Prop:=ys.length=l.length*4∧∀ (i:Nat) (x:GFrag),l[i]?=some x→∃ v2 v3,FCV M x v2 v3∧∀ (j:Nat) (u:Value),(aEt x v2 v3)[j]?=some u→ys[i*4+j]?=some u
theorem FrRow.at' {M:Mem} {l:List GFrag} {ys:List Value} (h:FrRow M l ys):FrAt M l ys:=⟨aPq h,aZO h⟩
theorem FrAt.mono {M M':Mem} {l:List GFrag} {ys:List Value} (h:FrAt M l ys) (hM:∀ b i v,M b i=some v→M' b i=some v):FrAt M' l ys :=
 ⟨h.1,fun i x hx=>by obtain ⟨a,b,h1,h2⟩:=h.2 i x hx;exact ⟨a,b,h1.mono hM,h2⟩⟩
theorem aVx {M M':Mem} {B':Nat} {w:World} {l:List GFrag} {ys:List Value} {v:Value} (h:FrAt M l ys) (ho:w.ownsRow B' 68 4 v l.length ys) (hm:∀ b i v,M b i=some v→M' b i=some v) (hM:∀ g arr T fz,v.ownBlock=some g→w.heap[g]?=some (.cells arr T fz)→∀ i,M' g i=arr[i]?):Rv M' noB (.slice (List.map aF l) [] false) v:=by
 refine aMt ho hM _ (by simp) ?_ ?_
 ·intro p hp
  obtain ⟨x,_,rfl⟩:=List.mem_map.1 hp
  rw [dF]
  exact ⟨rfl,rfl,rfl,by decide⟩
 ·intro i p j c hp hcc
  rw [List.getElem?_map] at hp
  cases hx:l[i]? with
  | none=>rw [hx] at hp;simp at hp
  | some x =>
   rw [hx] at hp
   simp only [Option.map_some,Option.some.injEq] at hp
   subst hp
   obtain ⟨v2,v3,hc,hat⟩:=h.2 i x hx
   have hc:=hc.mono hm
   have hj:j<4:=by
    have:=(List.getElem?_eq_some_iff.1 hcc).1
    rw [dF] at this;exact this
   rw [dF] at hcc
   match j,hj,hcc with
   | 0,_,hcc=>cases hcc;exact ⟨_,hat 0 _ rfl,.str _⟩
   | 1,_,hcc=>cases hcc;exact ⟨_,hat 1 _ rfl,.str _⟩
   | 2,_,hcc=>cases hcc;exact ⟨_,hat 2 _ rfl,hc.r2⟩
   | 3,_,hcc=>cases hcc;exact ⟨_,hat 3 _ rfl,hc.r3⟩
theorem FrAt.set {M:Mem} {l:List GFrag} {ys:List Value} (h:FrAt M l ys) {k:Nat} {x x':GFrag} (hx:l[k]?=some x) (e0:x'.name=x.name) (e1:x'.on_=x.on_) {u3 u4:Value} (h3:Rv M noB (.slice (List.map aH x'.dirs) [] false) u3) (h4:Rv M noB (.slice (List.map aG x'.sels) [] false) u4) :
  FrAt M (l.set k x') ((ys.set (k*4+2) u3).set (k*4+3) u4):=by
 have hk:k<l.length:=(List.getElem?_eq_some_iff.1 hx).1
 refine ⟨by rw [List.length_set,List.length_set,List.length_set];exact h.1,fun i y hy => ?_⟩
 have hlen:=h.1
 by_cases hik:i=k
 ·subst hik
  rw [List.getElem?_set_self hk] at hy
  cases hy
  obtain ⟨v3,v4,hc,hat⟩:=h.2 i x hx
  refine ⟨u3,u4,⟨h3,h4⟩,fun j u hu => ?_⟩
  have hj:j<4:=by have:=(List.getElem?_eq_some_iff.1 hu).1;simpa using this
  match j,hj,hu with
  | 0,_,hu=>rw [List.getElem?_set_ne (by omega),List.getElem?_set_ne (by omega)];cases hu;rw [e0];exact hat 0 _ rfl
  | 1,_,hu=>rw [List.getElem?_set_ne (by omega),List.getElem?_set_ne (by omega)];cases hu;rw [e1];exact hat 1 _ rfl
  | 2,_,hu=>rw [List.getElem?_set_ne (by omega),List.getElem?_set_self (by omega)];exact hu
  | 3,_,hu=>rw [List.getElem?_set_self (by rw [List.length_set];omega)];exact hu
 ·rw [List.getElem?_set_ne (fun e=>hik e.symm)] at hy
  obtain ⟨v3,v4,hc,hat⟩:=h.2 i y hy
  refine ⟨v3,v4,hc,fun j u hu => ?_⟩
  have hj:j<4:=by have:=(List.getElem?_eq_some_iff.1 hu).1;simpa using this
  rw [List.getElem?_set_ne (by omega),List.getElem?_set_ne (by omega)]
  exact hat j u hu
structure BI (M:Mem) (w:World) (M1:Mem) (wr:World) (Z:Nat) (la:List GOp) (lf:List GFrag) (va:Value) (ys:List Value) (vf:Value) (zs:List Value):Prop where
 boxr:wr.heap[w.heap.size+1]?=some (.cells #[.slice none 0 0,.slice none 0 0] 28 (0,0))
 out:wr.heap[Z]?=some (.cells #[va,vf] 28 (0,0))
 zb:w.heap.size+2≤Z
 ownA:wr.ownsRow (w.heap.size+2) 38 5 va la.length ys
 own:wr.ownsRow (w.heap.size+2) 68 4 vf lf.length zs
 rowsA:OpAt M1 la ys
 rows:FrAt M1 lf zs
 cons:Cons M1 wr
 frm:From w.heap.size M w M1 wr
 fr:∀ i,M1 (w.heap.size+1) i=none
 fz:∀ i,M1 Z i=none
 foA:∀ g,va.ownBlock=some g→∀ i,M1 g i=none
 fo:∀ g,vf.ownBlock=some g→∀ i,M1 g i=none
 ne:∀ g,va.ownBlock=some g→vf.ownBlock≠some g
 nzA:va.ownBlock≠some Z
 nz:vf.ownBlock≠some Z
theorem BI.quiet {M M1 M2:Mem} {w wr w2:World} {Z:Nat} {la:List GOp} {lf:List GFrag} {va vf:Value} {ys zs:List Value} (h:BI M w M1 wr Z la lf va ys vf zs) (q:Quiet M1 wr.drew M2 w2) (hc:Cons M2 w2):BI M w M2 w2 Z la lf va ys vf zs:=by
 have hZ:Z<wr.heap.size:=(Array.getElem?_eq_some_iff.1 h.out).1
 have hR:w.heap.size+1<wr.heap.size:=(Array.getElem?_eq_some_iff.1 h.boxr).1
 refine ⟨(q.old _ hR).1.trans h.boxr,(q.old _ hZ).1.trans h.out,h.zb,gE h.ownA fun g hg=>(q.old g (h.ownA.lt g hg).2).1,gE h.own fun g hg=>(q.old g (h.own.lt g hg).2).1,h.rowsA.mono q.mem,h.rows.mono q.mem,hc,?_,fun i=>((q.old _ hR).2 i).trans (h.fr i),fun i=>((q.old _ hZ).2 i).trans (h.fz i),fun g hg i=>((q.old g (h.ownA.lt g hg).2).2 i).trans (h.foA g hg i),fun g hg i=>((q.old g (h.own.lt g hg).2).2 i).trans (h.fo g hg i),h.ne,h.nzA,h.nz⟩
 have hb:w.heap.size≤wr.heap.size:=by omega
 exact h.frm.trans ⟨q.mem,fun b hb2 i=>(q.old b (Nat.lt_of_lt_of_le hb2 hb)).2 i,q.os,q.tape,q.output,q.size,fun k hk=>(q.old k (Nat.lt_of_lt_of_le hk hb)).1⟩
theorem BI.setA {M M1:Mem} {w wr:World} {Z g n gc:Nat} {la:List GOp} {lf:List GFrag} {vf:Value} {ys zs:List Value} (h:BI M w M1 wr Z la lf (.slice (some ⟨g,0,none⟩) n gc) ys vf zs) (hn:n=la.length) {k:Nat} {x x':GOp} (hx:la[k]?=some x) (e0:x'.kind=x.kind) (e1:x'.name=x.name) (e2:x'.vars=x.vars) {u3 u4:Value} (h3:Rv M1 noB (.slice (List.map aH x'.dirs) [] false) u3) (h4:Rv M1 noB (.slice (List.map aG x'.sels) [] false) u4) :
  BI M w M1 ((wr.setCell ⟨g,k*5+3,none⟩ u3).setCell ⟨g,k*5+4,none⟩ u4) Z (la.set k x') lf (.slice (some ⟨g,0,none⟩) n gc) ((ys.set (k*5+3) u3).set (k*5+4) u4) vf zs:=by
 subst hn
 have hk:k<la.length:=(List.getElem?_eq_some_iff.1 hx).1
 have hyl:=h.rowsA.1
 have hg:w.heap.size+2≤g:=(h.ownA.lt g rfl).1
 have hgz:Z≠g:=fun e=>h.nzA (by rw [e];rfl)
 have hb:∀ b,b≠g→((wr.setCell ⟨g,k*5+3,none⟩ u3).setCell ⟨g,k*5+4,none⟩ u4).heap[b]?=wr.heap[b]?:=fun b hb=>(Below.heap_setCell _ _ _ _ hb).trans (Below.heap_setCell _ _ _ _ hb)
 refine ⟨(hb _ (by omega)).trans h.boxr,(hb _ hgz).trans h.out,h.zb,?_,gE h.own fun b hb2=>hb b fun e=>h.ne g rfl (by rw [← e];exact hb2),h.rowsA.set hx e0 e1 e2 h3 h4,h.rows,?_,?_,h.fr,h.fz,h.foA,h.fo,h.ne,h.nzA,h.nz⟩
 ·have:=oD (oD h.ownA (k*5+3) u3 (by omega)) (k*5+4) u4 (by rw [List.length_set];omega)
  rw [List.length_set]
  exact this
 ·exact iB h.cons fun b hbl ⟨i,hi⟩=>hb b fun e=>hi (by rw [e];exact h.foA g rfl i)
 ·exact h.frm.trans (From.of_below (((Below.refl _ _).setCell (by simp;omega) u3).setCell (by simp;omega) u4))
theorem BI.setF {M M1:Mem} {w wr:World} {Z g n gc:Nat} {la:List GOp} {lf:List GFrag} {va:Value} {ys zs:List Value} (h:BI M w M1 wr Z la lf va ys (.slice (some ⟨g,0,none⟩) n gc) zs) (hn:n=lf.length) {k:Nat} {x x':GFrag} (hx:lf[k]?=some x) (e0:x'.name=x.name) (e1:x'.on_=x.on_) {u3 u4:Value} (h3:Rv M1 noB (.slice (List.map aH x'.dirs) [] false) u3) (h4:Rv M1 noB (.slice (List.map aG x'.sels) [] false) u4) :
  BI M w M1 ((wr.setCell ⟨g,k*4+2,none⟩ u3).setCell ⟨g,k*4+3,none⟩ u4) Z la (lf.set k x') va ys (.slice (some ⟨g,0,none⟩) n gc) ((zs.set (k*4+2) u3).set (k*4+3) u4):=by
 subst hn
 have hk:k<lf.length:=(List.getElem?_eq_some_iff.1 hx).1
 have hyl:=h.rows.1
 have hg:w.heap.size+2≤g:=(h.own.lt g rfl).1
 have hgz:Z≠g:=fun e=>h.nz (by rw [e];rfl)
 have hb:∀ b,b≠g→((wr.setCell ⟨g,k*4+2,none⟩ u3).setCell ⟨g,k*4+3,none⟩ u4).heap[b]?=wr.heap[b]?:=fun b hb=>(Below.heap_setCell _ _ _ _ hb).trans (Below.heap_setCell _ _ _ _ hb)
 refine ⟨(hb _ (by omega)).trans h.boxr,(hb _ hgz).trans h.out,h.zb,gE h.ownA fun b hb2=>hb b fun e=>h.ne b hb2 (by rw [e];rfl),?_,h.rowsA,h.rows.set hx e0 e1 h3 h4,?_,?_,h.fr,h.fz,h.foA,h.fo,h.ne,h.nzA,h.nz⟩
 ·have:=oD (oD h.own (k*4+2) u3 (by omega)) (k*4+3) u4 (by rw [List.length_set];omega)
  rw [List.length_set]
  exact this
 ·exact iB h.cons fun b hbl ⟨i,hi⟩=>hb b fun e=>hi (by rw [e];exact h.fo g rfl i)
 ·exact h.frm.trans (From.of_below (((Below.refl _ _).setCell (by simp;omega) u3).setCell (by simp;omega) u4))
theorem aPt (l:List GSel) (hl:bJ l<1073741824) {M:Mem} {w:World} (v:Value) (hc:Cons M w) (hr:Rv M noB (.slice (List.map aG l) [] false) v) :
  Calls Tryz.prog 43 #[v] w fun e w'=>∃ a n p M',e = .returned (.slice a n p)∧Rv M' noB (.slice (List.map aG (uI l)) [] false) (.slice a n p)∧Cons M' w'∧Quiet M w M' w':=by
 have hk:=yJ l hl
 unfold eP at hk
 have hs:O 43 [.slice (List.map aG l) [] false] []=some (.slice (List.map aG (uI l)) [] false,[]):=bM (enc:=fun r=>(qF r,[])) hk
 have key:=aEK pokX xok hs (M:=M) (w:=w) (vals := #[v]) rfl hc ⟨rfl,fun i p hp=>by
  match i,hp with
  | 0,hp=>cases hp;exact ⟨hr,bR rfl⟩
  | i+1,hp=>simp at hp⟩
 refine key.mono ?_
 rintro e w' ⟨v,M',rfl,hv,hc',hq⟩
 obtain ⟨a,n,p,rfl⟩:=nB hv
 exact ⟨a,n,p,M',rfl,hv,hc',hq⟩
open Go Go.Ev Go.RowKit
noncomputable def bA (c:Code):Code:=fstC (sndC (sndC c))
noncomputable def bB (c:Code):Code:=fstC (sndC (sndC (sndC c)))
noncomputable def s5C:Code:=inC (sndC (bA (bY Tryz.f16)))
noncomputable def s9C:Code:=inC (sndC (bB (bY Tryz.f16)))
set_option maxHeartbeats 8000000 in
theorem bBw {M M1:Mem} {w wr:World} {Z g n gc:Nat} {la:List GOp} {lf:List GFrag} {vf:Value} {ys zs:List Value} (h:BI M w M1 wr Z la lf (.slice (some ⟨g,0,none⟩) n gc) ys vf zs) (hn:n=la.length) (k:Nat) (x:GOp) (hx:la[k]?=some x) (hs:bJ x.sels<1073741824) (hn2:n≤1048576) (Q:Exit→Act→World→Prop) (v0 v1 v2 v5 v6 v7 v8 v9 v10 v11 v12 v13 v14 v15 v16 v17 v18 v19 v20 v21 v22 v23 v24 v25 v26 v27 v28 v29 v30 v31 v32 v33 v34 v35 v36 v37 v38 v39 v40 v41 v42 v43 v44 v45 v46 v47 v48 v49 v50 v51 v52 v53 v54 v55 v56:Value)
  (hC:∀ (w':World) (M':Mem) (ys':List Value) (z15 z16 z17 z18 z19 z20 z21 z22 z23 z24 z25 z26 z27 z28 z29 z30 z31:Value),BI M w M' w' Z (la.set k (aEQ x)) lf (.slice (some ⟨g,0,none⟩) n gc) ys' vf zs→Q .normal ⟨#[v0,v1,v2,.pointer (some ⟨Z,0,none⟩),.int .i64 k,v5,v6,v7,v8,v9,v10,v11,v12,v13,v14,z15,z16,z17,z18,z19,z20,z21,z22,z23,z24,z25,z26,z27,z28,z29,z30,z31,v32,v33,v34,v35,v36,v37,v38,v39,v40,v41,v42,v43,v44,v45,v46,v47,v48,v49,v50,v51,v52,v53,v54,v55,v56],[]⟩ w') :
  Code.wp Tryz.prog s5C Q ⟨#[v0,v1,v2,.pointer (some ⟨Z,0,none⟩),.int .i64 k,v5,v6,v7,v8,v9,v10,v11,v12,v13,v14,v15,v16,v17,v18,v19,v20,v21,v22,v23,v24,v25,v26,v27,v28,v29,v30,v31,v32,v33,v34,v35,v36,v37,v38,v39,v40,v41,v42,v43,v44,v45,v46,v47,v48,v49,v50,v51,v52,v53,v54,v55,v56],[]⟩ wr:=by
 have hkl:k<n:=by rw [hn];exact (List.getElem?_eq_some_iff.1 hx).1
 obtain ⟨e2v,e3v,e4v,hcv,hat⟩:=h.rowsA.2 k x hx
 obtain ⟨a3,l3,p3,rfl⟩:=nB hcv.r3
 obtain ⟨a4,l4,p4,rfl⟩:=nB hcv.r4
 have y3:=hat 3 _ rfl
 have y4:=hat 4 _ rfl
 have ho:=h.ownA
 rw [← hn] at ho
 obtain ⟨c3,f3⟩:=tB ho y3
 obtain ⟨c4,f4⟩:=tB ho y4
 have cz:wr.cell? ⟨Z,0,none⟩=some (.slice (some ⟨g,0,none⟩) n gc):=by rw [cell_of_row wr Z 0 _ _ _ h.out];rfl
 have h43:=aPt x.sels hs (M:=M1) (w:=wr.drew) (.slice a4 l4 p4) (aEu h.cons) hcv.r4
 have hyl:=h.rowsA.1
 have hgz:Z≠g:=fun e=>h.nzA (by rw [e];rfl)
 have hst:Hid (∀ (M2:Mem) (w2:World),Quiet M1 wr.drew M2 w2→Cons M2 w2→w2.cell? ⟨Z,0,none⟩=some (.slice (some ⟨g,0,none⟩) n gc)∧w2.cell? ⟨g,k*5+3,none⟩=some (.slice a3 l3 p3)∧w2.frozen? ⟨g,k*5+3,none⟩=false∧(w2.setCell ⟨g,k*5+3,none⟩ (.slice none 0 0)).cell? ⟨Z,0,none⟩=some (.slice (some ⟨g,0,none⟩) n gc)∧(w2.setCell ⟨g,k*5+3,none⟩ (.slice none 0 0)).cell? ⟨g,k*5+4,none⟩=some (.slice a4 l4 p4)∧(w2.setCell ⟨g,k*5+3,none⟩ (.slice none 0 0)).frozen? ⟨g,k*5+4,none⟩=false):=by
  intro M2 w2 hq2 hc2
  have h2:=h.quiet hq2 hc2
  have ho2:=h2.ownA
  rw [← hn] at ho2
  obtain ⟨d3,e3⟩:=tB ho2 y3
  have o2:=oD ho2 (k*5+3) (.slice none 0 0) (by have:=(List.getElem?_eq_some_iff.1 y3).1;exact this)
  obtain ⟨d4,e4⟩:=tB o2 (j:=k*5+4) (v := .slice a4 l4 p4) (by rw [List.getElem?_set_ne (by omega)];exact y4)
  have dz:w2.cell? ⟨Z,0,none⟩=some (.slice (some ⟨g,0,none⟩) n gc):=by rw [cell_of_row w2 Z 0 _ _ _ h2.out];rfl
  exact ⟨dz,d3,e3,(World.cell?_of_block (a:=⟨Z,0,none⟩) (Below.heap_setCell _ _ _ _ hgz)).trans dz,d4,e4⟩
 have fin:Hid (∀ (w2:World) (M2:Mem) (b4:Option Addr) (m4 q4:Nat) (z15 z16 z17 z18 z19 z20 z21 z22 z23 z24 z25 z26 z27 z28 z29 z30 z31:Value),Quiet M1 wr.drew M2 w2→Cons M2 w2→Rv M2 noB (.slice (List.map aG (uI x.sels)) [] false) (.slice b4 m4 q4)→Q .normal ⟨#[v0,v1,v2,.pointer (some ⟨Z,0,none⟩),.int .i64 k,v5,v6,v7,v8,v9,v10,v11,v12,v13,v14,z15,z16,z17,z18,z19,z20,z21,z22,z23,z24,z25,z26,z27,z28,z29,z30,z31,v32,v33,v34,v35,v36,v37,v38,v39,v40,v41,v42,v43,v44,v45,v46,v47,v48,v49,v50,v51,v52,v53,v54,v55,v56],[]⟩ ((w2.setCell ⟨g,k*5+3,none⟩ (.slice none 0 0)).setCell ⟨g,k*5+4,none⟩ (.slice b4 m4 q4))):=by
  intro w2 M2 b4 m4 q4 z15 z16 z17 z18 z19 z20 z21 z22 z23 z24 z25 z26 z27 z28 z29 z30 z31 hq2 hc2 hv4
  exact hC _ _ _ _ _ _ _ _ _ _ _ _ _ _ _ _ _ _ _ _ ((h.quiet hq2 hc2).setA hn hx (x':=aEQ x) rfl rfl rfl (.nil false) hv4)
 replace hgz:=(id hgz:Hid _)
 replace hn:=(id hn:Hid _)
 replace hat:=(id hat:Hid _)
 clear hC
 unfold s5C
 simp only [Tryz.f16,bY,inC,bA,bB,blkC,lopC,fstC,sndC]
 refine Code.wp_mono (Q:=Exit.then (Q .normal) (fun _ _ _=>False)) (fun e a w h=>by cases e<;>first | exact h | exact h.elim) ?_
 go_wp2
 go_region_with (go_at_call 43;refine h43.mono ?_;rintro e' w2 ⟨b4,m4,q4,M2,rfl,hv4,hc2,hq2⟩;obtain ⟨i1,i2,i3,i4,i5,i6⟩:=hst.out M2 w2 hq2 hc2)
 all_goals exact fin.out w2 M2 b4 m4 q4 _ _ _ _ _ _ _ _ _ _ _ _ _ _ _ _ _ hq2 hc2 hv4
set_option maxHeartbeats 8000000 in
theorem bBx {M M1:Mem} {w wr:World} {Z g n gc:Nat} {la:List GOp} {lf:List GFrag} {va:Value} {ys zs:List Value} (h:BI M w M1 wr Z la lf va ys (.slice (some ⟨g,0,none⟩) n gc) zs) (hn:n=lf.length) (k:Nat) (x:GFrag) (hx:lf[k]?=some x) (hs:bJ x.sels<1073741824) (hn2:n≤1048576) (Q:Exit→Act→World→Prop) (v0 v1 v2 v4 v6 v7 v8 v9 v10 v11 v12 v13 v14 v15 v16 v17 v18 v19 v20 v21 v22 v23 v24 v25 v26 v27 v28 v29 v30 v31 v32 v33 v34 v35 v36 v37 v38 v39 v40 v41 v42 v43 v44 v45 v46 v47 v48 v49 v50 v51 v52 v53 v54 v55 v56:Value)
  (hC:∀ (w':World) (M':Mem) (ys':List Value) (z39 z40 z41 z42 z43 z44 z45 z46 z47 z48 z49 z50 z51 z52 z53 z54 z55:Value),BI M w M' w' Z la (lf.set k (aER x)) va ys (.slice (some ⟨g,0,none⟩) n gc) ys'→Q .normal ⟨#[v0,v1,v2,.pointer (some ⟨Z,0,none⟩),v4,.int .i64 k,v6,v7,v8,v9,v10,v11,v12,v13,v14,v15,v16,v17,v18,v19,v20,v21,v22,v23,v24,v25,v26,v27,v28,v29,v30,v31,v32,v33,v34,v35,v36,v37,v38,z39,z40,z41,z42,z43,z44,z45,z46,z47,z48,z49,z50,z51,z52,z53,z54,z55,v56],[]⟩ w') :
  Code.wp Tryz.prog s9C Q ⟨#[v0,v1,v2,.pointer (some ⟨Z,0,none⟩),v4,.int .i64 k,v6,v7,v8,v9,v10,v11,v12,v13,v14,v15,v16,v17,v18,v19,v20,v21,v22,v23,v24,v25,v26,v27,v28,v29,v30,v31,v32,v33,v34,v35,v36,v37,v38,v39,v40,v41,v42,v43,v44,v45,v46,v47,v48,v49,v50,v51,v52,v53,v54,v55,v56],[]⟩ wr:=by
 have hkl:k<n:=by rw [hn];exact (List.getElem?_eq_some_iff.1 hx).1
 obtain ⟨e3v,e4v,hcv,hat⟩:=h.rows.2 k x hx
 obtain ⟨a3,l3,p3,rfl⟩:=nB hcv.r2
 obtain ⟨a4,l4,p4,rfl⟩:=nB hcv.r3
 have y3:=hat 2 _ rfl
 have y4:=hat 3 _ rfl
 have ho:=h.own
 rw [← hn] at ho
 obtain ⟨c3,f3⟩:=tB ho y3
 obtain ⟨c4,f4⟩:=tB ho y4
 have cz:wr.cell? ⟨Z,1,none⟩=some (.slice (some ⟨g,0,none⟩) n gc):=by rw [cell_of_row wr Z 1 _ _ _ h.out];rfl
 have h43:=aPt x.sels hs (M:=M1) (w:=wr.drew) (.slice a4 l4 p4) (aEu h.cons) hcv.r3
 have hyl:=h.rows.1
 have hgz:Z≠g:=fun e=>h.nz (by rw [e];rfl)
 have hst:Hid (∀ (M2:Mem) (w2:World),Quiet M1 wr.drew M2 w2→Cons M2 w2→w2.cell? ⟨Z,1,none⟩=some (.slice (some ⟨g,0,none⟩) n gc)∧w2.cell? ⟨g,k*4+2,none⟩=some (.slice a3 l3 p3)∧w2.frozen? ⟨g,k*4+2,none⟩=false∧(w2.setCell ⟨g,k*4+2,none⟩ (.slice none 0 0)).cell? ⟨Z,1,none⟩=some (.slice (some ⟨g,0,none⟩) n gc)∧(w2.setCell ⟨g,k*4+2,none⟩ (.slice none 0 0)).cell? ⟨g,k*4+3,none⟩=some (.slice a4 l4 p4)∧(w2.setCell ⟨g,k*4+2,none⟩ (.slice none 0 0)).frozen? ⟨g,k*4+3,none⟩=false):=by
  intro M2 w2 hq2 hc2
  have h2:=h.quiet hq2 hc2
  have ho2:=h2.own
  rw [← hn] at ho2
  obtain ⟨d3,e3⟩:=tB ho2 y3
  have o2:=oD ho2 (k*4+2) (.slice none 0 0) (by have:=(List.getElem?_eq_some_iff.1 y3).1;exact this)
  obtain ⟨d4,e4⟩:=tB o2 (j:=k*4+3) (v := .slice a4 l4 p4) (by rw [List.getElem?_set_ne (by omega)];exact y4)
  have dz:w2.cell? ⟨Z,1,none⟩=some (.slice (some ⟨g,0,none⟩) n gc):=by rw [cell_of_row w2 Z 1 _ _ _ h2.out];rfl
  exact ⟨dz,d3,e3,(World.cell?_of_block (a:=⟨Z,1,none⟩) (Below.heap_setCell _ _ _ _ hgz)).trans dz,d4,e4⟩
 have fin:Hid (∀ (w2:World) (M2:Mem) (b4:Option Addr) (m4 q4:Nat) (z39 z40 z41 z42 z43 z44 z45 z46 z47 z48 z49 z50 z51 z52 z53 z54 z55:Value),Quiet M1 wr.drew M2 w2→Cons M2 w2→Rv M2 noB (.slice (List.map aG (uI x.sels)) [] false) (.slice b4 m4 q4)→Q .normal ⟨#[v0,v1,v2,.pointer (some ⟨Z,0,none⟩),v4,.int .i64 k,v6,v7,v8,v9,v10,v11,v12,v13,v14,v15,v16,v17,v18,v19,v20,v21,v22,v23,v24,v25,v26,v27,v28,v29,v30,v31,v32,v33,v34,v35,v36,v37,v38,z39,z40,z41,z42,z43,z44,z45,z46,z47,z48,z49,z50,z51,z52,z53,z54,z55,v56],[]⟩ ((w2.setCell ⟨g,k*4+2,none⟩ (.slice none 0 0)).setCell ⟨g,k*4+3,none⟩ (.slice b4 m4 q4))):=by
  intro w2 M2 b4 m4 q4 z39 z40 z41 z42 z43 z44 z45 z46 z47 z48 z49 z50 z51 z52 z53 z54 z55 hq2 hc2 hv4
  exact hC _ _ _ _ _ _ _ _ _ _ _ _ _ _ _ _ _ _ _ _ ((h.quiet hq2 hc2).setF hn hx (x':=aER x) rfl rfl (.nil false) hv4)
 replace hgz:=(id hgz:Hid _)
 replace hn:=(id hn:Hid _)
 replace hat:=(id hat:Hid _)
 clear hC
 unfold s9C
 simp only [Tryz.f16,bY,inC,bA,bB,blkC,lopC,fstC,sndC]
 refine Code.wp_mono (Q:=Exit.then (Q .normal) (fun _ _ _=>False)) (fun e a w h=>by cases e<;>first | exact h | exact h.elim) ?_
 go_wp2
 go_region_with (go_at_call 43;refine h43.mono ?_;rintro e' w2 ⟨b4,m4,q4,M2,rfl,hv4,hc2,hq2⟩;obtain ⟨i1,i2,i3,i4,i5,i6⟩:=hst.out M2 w2 hq2 hc2)
 all_goals exact fin.out w2 M2 b4 m4 q4 _ _ _ _ _ _ _ _ _ _ _ _ _ _ _ _ _ hq2 hc2 hv4
theorem aTP {α:Type} (f:α→α) (l:List α) (k:Nat) (x:α) (hx:l[k]?=some x):((l.take k).map f++l.drop k).set k (f x)=(l.take (k+1)).map f++l.drop (k+1):=by
 obtain ⟨hk,rfl⟩:=List.getElem?_eq_some_iff.1 hx
 have hl:((l.take k).map f).length=k:=by simp;omega
 rw [List.drop_eq_getElem_cons hk,List.set_append_right _ _ (by omega),hl,Nat.sub_self,List.set_cons_zero,List.take_succ_eq_append_getElem hk,List.map_append,List.append_assoc]
 rfl
theorem aID {α:Type} (f:α→α) (l:List α) (k:Nat) (x:α) (hx:l[k]?=some x):((l.take k).map f++l.drop k)[k]?=some x:=by
 obtain ⟨hk,rfl⟩:=List.getElem?_eq_some_iff.1 hx
 have hl:((l.take k).map f).length=k:=by simp;omega
 rw [List.getElem?_append_right (by omega),hl,Nat.sub_self,List.drop_eq_getElem_cons hk]
 rfl
theorem aF8 {α:Type} (f:α→α) (l:List α) (k:Nat):((l.take k).map f++l.drop k).length=l.length:=by
 rw [List.length_append,List.length_map,← List.length_append,List.take_append_drop]
noncomputable def bAcC:Code:=fstC (lopC (blkC (sndC (bA (bY Tryz.f16)))))
noncomputable def bArC:Code:=sndC (sndC (lopC (blkC (sndC (bA (bY Tryz.f16))))))
set_option maxHeartbeats 4000000 in
theorem aXN (l:List GOp) (N:Nat) (hln:l.length=N) (oa:Option Addr) (gc:Nat) (M:Mem) (w:World) (Z:Nat) {lf:List GFrag} {vf:Value} {zs:List Value} (hN:N≤1048576) (hsm:∀ x∈l,bJ x.sels<1073741824)
  (hat:l≠[]→∃ g,oa=some ⟨g,0,none⟩)
  (M0:Mem) (w0:World) (xs:List Value) (h0:BI M w M0 w0 Z l lf (.slice oa N gc) xs vf zs) (Q:Exit→Act→World→Prop) (v0 v1 v2 v4 v5 v6 v7 v8 v9 v10 v11 v12 v13 v14 v15 v16 v17 v18 v19 v20 v21 v22 v23 v24 v25 v26 v27 v28 v29 v30 v31 v32 v33 v34 v35 v36 v37 v38 v39 v40 v41 v42 v43 v44 v45 v46 v47 v48 v49 v50 v51 v52 v53 v54 v55 v56:Value)
  (hC:∀ (w':World) (M':Mem) (xs':List Value) (z4 z8 z9 z10 z11 z12 z13 z14 z15 z16 z17 z18 z19 z20 z21 z22 z23 z24 z25 z26 z27 z28 z29 z30 z31:Value),BI M w M' w' Z (l.map aEQ) lf (.slice oa N gc) xs' vf zs→Q .normal ⟨#[v0,v1,v2,.pointer (some ⟨Z,0,none⟩),z4,v5,v6,v7,z8,z9,z10,z11,z12,z13,z14,z15,z16,z17,z18,z19,z20,z21,z22,z23,z24,z25,z26,z27,z28,z29,z30,z31,v32,v33,v34,v35,v36,v37,v38,v39,v40,v41,v42,v43,v44,v45,v46,v47,v48,v49,v50,v51,v52,v53,v54,v55,v56],[]⟩ w') :
  Code.wp Tryz.prog (bA (bY Tryz.f16)) Q ⟨#[v0,v1,v2,.pointer (some ⟨Z,0,none⟩),v4,v5,v6,v7,v8,v9,v10,v11,v12,v13,v14,v15,v16,v17,v18,v19,v20,v21,v22,v23,v24,v25,v26,v27,v28,v29,v30,v31,v32,v33,v34,v35,v36,v37,v38,v39,v40,v41,v42,v43,v44,v45,v46,v47,v48,v49,v50,v51,v52,v53,v54,v55,v56],[]⟩ w0:=by
 replace hC:=(id hC:Hid _)
 have cz0:w0.cell? ⟨Z,0,none⟩=some (.slice oa N gc):=by rw [cell_of_row w0 Z 0 _ _ _ h0.out];rfl
 simp only [bA,Tryz.f16,bY,blkC,lopC,fstC,sndC]
 go_wp2
 by_cases h0N:N=0
 ·subst h0N
  have he:l=[]:=List.length_eq_zero_iff.1 hln
  subst he
  refine wp_loop_rounds 1 ?_;rw [rounds_succ];go_wp2
  exact hC.out _ _ _ _ _ _ _ _ _ _ _ _ _ _ _ _ _ _ _ _ _ _ _ _ _ _ _ _ h0
 obtain ⟨g,rfl⟩:=hat (by intro e;rw [e] at hln;simp at hln;omega)
 go_loopw [4] (fun t4 wr=>∃ (k:Nat) (M1:Mem) (xs:List Value),k≤N∧t4 = .int .i64 k∧BI M w M1 wr Z ((l.take k).map aEQ++l.drop k) lf (.slice (some ⟨g,0,none⟩) N gc) xs vf zs) (fun t4 _=>N-(intOf t4).toNat)
 case atStart=>exact ⟨0,M0,xs,Nat.zero_le _,rfl,h0⟩
 case round =>
  obtain ⟨k,M1,xs1,hk,rfl,hD⟩:=hrel
  have cz:wr.cell? ⟨Z,0,none⟩=some (.slice (some ⟨g,0,none⟩) N gc):=by rw [cell_of_row wr Z 0 _ _ _ hD.out];rfl
  change Code.wp Tryz.prog (.seq bAcC (.seq (.block 1 s5C) bArC)) _ _ _
  unfold bAcC bArC
  simp only [bA,Tryz.f16,bY,blkC,lopC,fstC,sndC]
  go_wp2
  ·rename_i hkN K0 hK0
   have hxk:=List.getElem?_eq_getElem (l:=l) (i:=k) (by omega)
   have hat1:=aID aEQ l k _ hxk
   have hlen:=aF8 aEQ l k
   refine bBw (M1:=M1) hD (by omega) k _ hat1 (hsm _ (List.mem_of_getElem? hxk)) hN _ _ _ _ _ _ _ _ _ _ _ _ _ _ _ _ _ _ _ _ _ _ _ _ _ _ _ _ _ _ _ _ _ _ _ _ _ _ _ _ _ _ _ _ _ _ _ _ _ _ _ _ _ _ _ _ (fun w4 M4 xs4 z15 z16 z17 z18 z19 z20 z21 z22 z23 z24 z25 z26 z27 z28 z29 z30 z31 hn => ?_)
   rw [aTP aEQ l k _ hxk] at hn
   replace hn:=(id hn:Hid _)
   refine hK0 _ _ ?_
   clear hK0
   go_wp2
   go_roundw
   case rel=>exact ⟨k+1,M4,_,by omega,by go_num,hn.out⟩
   case measure=>simp [intOf];omega
  ·rename_i K0 hK0 hkN
   have e:k=N:=by omega
   subst e
   have e2:(l.take k).map aEQ++l.drop k=l.map aEQ:=by rw [← hln,List.take_length,List.drop_length,List.append_nil]
   rw [e2] at hD
   exact hC.out _ _ _ _ _ _ _ _ _ _ _ _ _ _ _ _ _ _ _ _ _ _ _ _ _ _ _ _ hD
noncomputable def bBcC:Code:=fstC (lopC (blkC (sndC (bB (bY Tryz.f16)))))
noncomputable def bBrC:Code:=sndC (sndC (lopC (blkC (sndC (bB (bY Tryz.f16))))))
set_option maxHeartbeats 4000000 in
theorem aXO (l:List GFrag) (N:Nat) (hln:l.length=N) (oa:Option Addr) (gc:Nat) (M:Mem) (w:World) (Z:Nat) {la:List GOp} {va:Value} {ys:List Value} (hN:N≤1048576) (hsm:∀ x∈l,bJ x.sels<1073741824)
  (hat:l≠[]→∃ g,oa=some ⟨g,0,none⟩)
  (M0:Mem) (w0:World) (xs:List Value) (h0:BI M w M0 w0 Z la l va ys (.slice oa N gc) xs) (Q:Exit→Act→World→Prop) (v0 v1 v2 v4 v5 v6 v7 v8 v9 v10 v11 v12 v13 v14 v15 v16 v17 v18 v19 v20 v21 v22 v23 v24 v25 v26 v27 v28 v29 v30 v31 v32 v33 v34 v35 v36 v37 v38 v39 v40 v41 v42 v43 v44 v45 v46 v47 v48 v49 v50 v51 v52 v53 v54 v55 v56:Value)
  (hC:∀ (w':World) (M':Mem) (xs':List Value) (z5 z32 z33 z34 z35 z36 z37 z38 z39 z40 z41 z42 z43 z44 z45 z46 z47 z48 z49 z50 z51 z52 z53 z54 z55:Value),BI M w M' w' Z la (l.map aER) va ys (.slice oa N gc) xs'→Q .normal ⟨#[v0,v1,v2,.pointer (some ⟨Z,0,none⟩),v4,z5,v6,v7,v8,v9,v10,v11,v12,v13,v14,v15,v16,v17,v18,v19,v20,v21,v22,v23,v24,v25,v26,v27,v28,v29,v30,v31,z32,z33,z34,z35,z36,z37,z38,z39,z40,z41,z42,z43,z44,z45,z46,z47,z48,z49,z50,z51,z52,z53,z54,z55,v56],[]⟩ w') :
  Code.wp Tryz.prog (bB (bY Tryz.f16)) Q ⟨#[v0,v1,v2,.pointer (some ⟨Z,0,none⟩),v4,v5,v6,v7,v8,v9,v10,v11,v12,v13,v14,v15,v16,v17,v18,v19,v20,v21,v22,v23,v24,v25,v26,v27,v28,v29,v30,v31,v32,v33,v34,v35,v36,v37,v38,v39,v40,v41,v42,v43,v44,v45,v46,v47,v48,v49,v50,v51,v52,v53,v54,v55,v56],[]⟩ w0:=by
 replace hC:=(id hC:Hid _)
 have cz0:w0.cell? ⟨Z,1,none⟩=some (.slice oa N gc):=by rw [cell_of_row w0 Z 1 _ _ _ h0.out];rfl
 simp only [bB,Tryz.f16,bY,blkC,lopC,fstC,sndC]
 go_wp2
 by_cases h0N:N=0
 ·subst h0N
  have he:l=[]:=List.length_eq_zero_iff.1 hln
  subst he
  refine wp_loop_rounds 1 ?_;rw [rounds_succ];go_wp2
  exact hC.out _ _ _ _ _ _ _ _ _ _ _ _ _ _ _ _ _ _ _ _ _ _ _ _ _ _ _ _ h0
 obtain ⟨g,rfl⟩:=hat (by intro e;rw [e] at hln;simp at hln;omega)
 go_loopw [5] (fun t4 wr=>∃ (k:Nat) (M1:Mem) (xs:List Value),k≤N∧t4 = .int .i64 k∧BI M w M1 wr Z la ((l.take k).map aER++l.drop k) va ys (.slice (some ⟨g,0,none⟩) N gc) xs) (fun t4 _=>N-(intOf t4).toNat)
 case atStart=>exact ⟨0,M0,xs,Nat.zero_le _,rfl,h0⟩
 case round =>
  obtain ⟨k,M1,xs1,hk,rfl,hD⟩:=hrel
  have cz:wr.cell? ⟨Z,1,none⟩=some (.slice (some ⟨g,0,none⟩) N gc):=by rw [cell_of_row wr Z 1 _ _ _ hD.out];rfl
  change Code.wp Tryz.prog (.seq bBcC (.seq (.block 3 s9C) bBrC)) _ _ _
  unfold bBcC bBrC
  simp only [bB,Tryz.f16,bY,blkC,lopC,fstC,sndC]
  go_wp2
  ·rename_i hkN K0 hK0
   have hxk:=List.getElem?_eq_getElem (l:=l) (i:=k) (by omega)
   have hat1:=aID aER l k _ hxk
   have hlen:=aF8 aER l k
   refine bBx (M1:=M1) hD (by omega) k _ hat1 (hsm _ (List.mem_of_getElem? hxk)) hN _ _ _ _ _ _ _ _ _ _ _ _ _ _ _ _ _ _ _ _ _ _ _ _ _ _ _ _ _ _ _ _ _ _ _ _ _ _ _ _ _ _ _ _ _ _ _ _ _ _ _ _ _ _ _ _ (fun w4 M4 xs4 z39 z40 z41 z42 z43 z44 z45 z46 z47 z48 z49 z50 z51 z52 z53 z54 z55 hn => ?_)
   rw [aTP aER l k _ hxk] at hn
   replace hn:=(id hn:Hid _)
   refine hK0 _ _ ?_
   clear hK0
   go_wp2
   go_roundw
   case rel=>exact ⟨k+1,M4,_,by omega,by go_num,hn.out⟩
   case measure=>simp [intOf];omega
  ·rename_i K0 hK0 hkN
   have e:k=N:=by omega
   subst e
   have e2:(l.take k).map aER++l.drop k=l.map aER:=by rw [← hln,List.take_length,List.drop_length,List.append_nil]
   rw [e2] at hD
   exact hC.out _ _ _ _ _ _ _ _ _ _ _ _ _ _ _ _ _ _ _ _ _ _ _ _ _ _ _ _ hD
noncomputable def b0C:Code:=fstC (bY Tryz.f16)
noncomputable def b1C:Code:=fstC (sndC (bY Tryz.f16))
noncomputable def b2C:Code:=bA (bY Tryz.f16)
noncomputable def b3C:Code:=bB (bY Tryz.f16)
noncomputable def b10C:Code:=sndC (sndC (sndC (sndC (bY Tryz.f16))))
theorem bCo:Tryz.f16.body=some (.seq b0C (.seq b1C (.seq b2C (.seq b3C b10C)))):=by kernel_rfl
theorem From.le {B B':Nat} {M M':Mem} {w w':World} (h:From B M w M' w') (hB:B'≤B):From B' M w M' w' :=
 ⟨h.mem,fun b hb i=>h.old b (by omega) i,h.below.os,h.below.tape,h.below.output,h.below.size,fun k hk=>h.below.block k (by omega)⟩
theorem BI.start {M M1:Mem} {w wx wy:World} {ops:List GOp} {frags:List GFrag} {va vf:Value} {ys zs:List Value} {o1:Obj} (hc:Cons M w) (hwx:wx=(w.alloc o1).alloc (.cells #[.slice none 0 0,.slice none 0 0] 28)) (h:DR M wx M1 wy ops frags va ys vf zs) :
  BI M w M1 (wy.alloc (.cells #[va,vf] 28)) wy.heap.size ops frags va ys vf zs:=by
 have hs:wx.heap.size=w.heap.size+2:=by rw [hwx];simp
 have hle:=h.frm.below.size
 have hb:∀ b,b<wy.heap.size→(wy.alloc (.cells #[va,vf] 28)).heap[b]?=wy.heap[b]?:=fun b hb=>heap_alloc_old _ _ hb
 have hbe:Below w.heap.size w wx:=by
  rw [hwx]
  exact ((Below.refl _ _).alloc (Nat.le_refl _) _).alloc (by simp) _
 have hfr:From w.heap.size M w M1 wy:=(From.of_below (M:=M) hbe).trans (h.frm.le (by omega))
 refine ⟨?_,?_,by omega,?_,?_,h.rowsA.at',h.rows.at',iB h.cons fun k hk _=>hb k hk,?_,?_,fun i=>xQ h.cons (Nat.le_refl _) i,h.foA,h.fo,h.ne,fun e => ?_,fun e => ?_⟩
 ·rw [hb _ (by omega),h.frm.below.block _ (by omega),hwx]
  have:=heap_alloc_new (w.alloc o1) (.cells #[.slice none 0 0,.slice none 0 0] 28)
  simpa using this
 ·exact heap_alloc_new _ _
 ·have:=gE h.ownA fun g hg=>hb g (h.ownA.lt g hg).2
  rwa [hs] at this
 ·have:=gE h.own fun g hg=>hb g (h.own.lt g hg).2
  rwa [hs] at this
 ·exact hfr.trans (From.of_below ⟨rfl,rfl,rfl,by simp,fun k hk=>hb k (by have:=hbe.size;omega)⟩)
 ·intro i
  rw [h.frm.old _ (by omega)]
  exact xQ hc (by omega) i
 ·have:=(h.ownA.lt _ e).2;omega
 ·have:=(h.own.lt _ e).2;omega
theorem BI.done {M M1:Mem} {w wr:World} {Z:Nat} {la:List GOp} {lf:List GFrag} {va vf:Value} {ys zs:List Value} (h:BI M w M1 wr Z la lf va ys vf zs) (u0 u1:Value) :
  ∃ M',Rv M' noB (.agg [(.slice (List.map aU la) [] false),(.slice (List.map aF lf) [] false)]) (.agg #[va,vf])∧Cons M' ((wr.setCell ⟨w.heap.size+1,0,none⟩ u0).setCell ⟨w.heap.size+1,1,none⟩ u1)∧Quiet M w M' ((wr.setCell ⟨w.heap.size+1,0,none⟩ u0).setCell ⟨w.heap.size+1,1,none⟩ u1):=by
 generalize hw:(wr.setCell ⟨w.heap.size+1,0,none⟩ u0).setCell ⟨w.heap.size+1,1,none⟩ u1=w3
 have hb:∀ k,k≠w.heap.size+1→w3.heap[k]?=wr.heap[k]?:=fun k hk=>by rw [← hw];exact (Below.heap_setCell _ _ _ _ hk).trans (Below.heap_setCell _ _ _ _ hk)
 have hsz:w3.heap.size=wr.heap.size:=by rw [← hw];simp [World.setCell]
 have hcons:Cons M1 w3:=iB h.cons fun k _ ⟨i,hi⟩=>hb k fun e=>hi (by rw [e];exact h.fr i)
 have oA:w3.ownsRow (w.heap.size+2) 38 5 va la.length ys:=gE h.ownA fun g hg=>hb g (by have:=(h.ownA.lt g hg).1;omega)
 have oF:w3.ownsRow (w.heap.size+2) 68 4 vf lf.length zs:=gE h.own fun g hg=>hb g (by have:=(h.own.lt g hg).1;omega)
 have rA:=aVw h.rowsA oA (aIB (B:=w.heap.size) hcons) (aPo oA (by omega))
 have rF:=aVx h.rows oF (aIB (B:=w.heap.size) hcons) (aPo oF (by omega))
 refine ⟨frzM w.heap.size M1 w3,.agg _ _ (fun i=>(#[va,vf]:Array Value).getD i undef) rfl (fun i hi => ?_) (fun i c hc => ?_),aXK hcons,?_⟩
 ·match i,hi with
  | 0,_=>rfl
  | 1,_=>rfl
 ·match i,hc with
  | 0,hc=>cases hc;exact rA
  | 1,hc=>cases hc;exact rF
 ·refine ⟨fun b i v hv=>aIB hcons b i v (h.frm.mem b i v hv),fun b hbl=>⟨?_,fun i => ?_⟩,?_,?_,?_,?_⟩
  ·rw [hb b (by omega)];exact h.frm.below.block b hbl
  ·rw [aZM hbl];exact h.frm.old b hbl i
  ·rw [hsz];exact h.frm.below.size
  ·rw [← hw];exact h.frm.below.os
  ·rw [← hw];exact h.frm.below.tape
  ·rw [← hw];exact h.frm.below.output
set_option maxHeartbeats 4000000 in
theorem aXP (d:GDoc) (M:Mem) (w:World) (a' b':Value) (hd:kO d≤1048576) (hc:Cons M w) (hra:Rv M noB (.slice (List.map aU d.ops) [] false) a') (hrb:Rv M noB (.slice (List.map aF d.frags) [] false) b') :
  Calls Tryz.prog 16 #[.agg #[a',b']] w fun e w'=>∃ v M',e = .returned v∧Rv M' noB (.agg [(.slice (List.map aU (aBH d).ops) [] false),(.slice (List.map aF (aBH d).frags) [] false)]) v∧Cons M' w'∧Quiet M w M' w':=by
 have hde:=vV d
 have hlo:=cZ (f:=bkOp) (fun o=>by rw [mO];omega) d.ops
 have hlf:=cZ (f:=dT) (fun o=>by rw [dY];omega) d.frags
 have hso:∀ x∈d.ops,bJ x.sels<1073741824:=by
  intro x hx
  have h1:=dW (f:=bkOp) hx
  rw [mO] at h1
  have e:bkSl eU x.sels=bJ x.sels+1:=by rw [cK];rfl
  omega
 have hsf:∀ x∈d.frags,bJ x.sels<1073741824:=by
  intro x hx
  have h1:=dW (f:=dT) hx
  rw [dY] at h1
  have e:bkSl eU x.sels=bJ x.sels+1:=by rw [cK];rfl
  omega
 obtain ⟨xa,la,pa,rfl⟩:=nB hra
 obtain ⟨xb,lb,pb,rfl⟩:=nB hrb
 have hcx:Cons M ((w.alloc (.cells #[.slice xa la pa,.slice xb lb pb] 28)).alloc (.cells #[.slice none 0 0,.slice none 0 0] 28)) :=
  aKr hc (((Below.refl _ _).alloc (Nat.le_refl _) _).alloc (by simp) _)
 have h13:=aZX d M _ (.slice xa la pa) (.slice xb lb pb) hd hcx hra hrb
 have hst:Hid (∀ (M1:Mem) (wy:World) (va vf:Value) (ys zs:List Value),DR M ((w.alloc (.cells #[.slice xa la pa,.slice xb lb pb] 28)).alloc (.cells #[.slice none 0 0,.slice none 0 0] 28)) M1 wy d.ops d.frags va ys vf zs→BI M w M1 (wy.alloc (.cells #[va,vf] 28)) wy.heap.size d.ops d.frags va ys vf zs) :=
  fun M1 wy va vf ys zs h=>BI.start hc rfl h
 refine calls_of_wp Tryz.func16 bCo ?_
 simp only [Tryz.ntmps16,List.size_toArray,List.length_cons,List.length_nil,Nat.reduceAdd,Nat.reduceSub,Array.replicate_succ,
   Array.replicate_zero,List.push_toArray,List.append_toArray,List.nil_append,List.cons_append]
 replace hso:=(id hso:Hid _)
 replace hsf:=(id hsf:Hid _)
 generalize hQ:bodyPost Tryz.prog Tryz.f16 _=Q
 replace hQ:=(id hQ:Hid _)
 unfold b0C b1C
 simp only [Tryz.f16,bY,fstC,sndC]
 go_wp2_with (go_at_call 13;refine h13.mono ?_;rintro e' wy ⟨M1,ga,gc,ys,gb,gd,zs,rfl,hDR⟩)
 have hB0:=hst.out _ _ _ _ _ _ hDR
 have oA:=hDR.ownA
 have oF:=hDR.own
 have atA:d.ops≠[]→∃ g,ga=some ⟨g,0,none⟩:=fun hne=>by
  rcases oA.2 with ⟨e,h0⟩ | ⟨g,cap,cur,e,_⟩
  ·exact absurd (List.length_eq_zero_iff.1 h0) hne
  ·injection e with e1 e2 e3;exact ⟨g,e1⟩
 have atF:d.frags≠[]→∃ g,gb=some ⟨g,0,none⟩:=fun hne=>by
  rcases oF.2 with ⟨e,h0⟩ | ⟨g,cap,cur,e,_⟩
  ·exact absurd (List.length_eq_zero_iff.1 h0) hne
  ·injection e with e1 e2 e3;exact ⟨g,e1⟩
 replace oA:=(id oA:Hid _)
 replace oF:=(id oF:Hid _)
 clear hDR h13 hst
 rename_i K0 hK0
 refine aXN d.ops d.ops.length rfl ga gc M w wy.heap.size (by omega) hso.out atA M1 _ ys hB0 _ _ _ _ _ _ _ _ _ _ _ _ _ _ _ _ _ _ _ _ _ _ _ _ _ _ _ _ _ _ _ _ _ _ _ _ _ _ _ _ _ _ _ _ _ _ _ _ _ _ _ _ _ _ _ _ _ (fun w1 M2 ys1 z4 z8 z9 z10 z11 z12 z13 z14 z15 z16 z17 z18 z19 z20 z21 z22 z23 z24 z25 z26 z27 z28 z29 z30 z31 hD => ?_)
 refine hK0 _ _ ?_
 refine wp_seq ?_
 refine aXO d.frags d.frags.length rfl gb gd M w wy.heap.size (by omega) hsf.out atF M2 _ zs hD _ _ _ _ _ _ _ _ _ _ _ _ _ _ _ _ _ _ _ _ _ _ _ _ _ _ _ _ _ _ _ _ _ _ _ _ _ _ _ _ _ _ _ _ _ _ _ _ _ _ _ _ _ _ _ _ _ (fun w2 M3 zs1 y5 y32 y33 y34 y35 y36 y37 y38 y39 y40 y41 y42 y43 y44 y45 y46 y47 y48 y49 y50 y51 y52 y53 y54 y55 hG => ?_)
 have q3:w2.cell? ⟨wy.heap.size,0,none⟩=some (.slice ga d.ops.length gc):=by rw [cell_of_row w2 _ 0 _ _ _ hG.out];rfl
 have q4:w2.cell? ⟨wy.heap.size,1,none⟩=some (.slice gb d.frags.length gd):=by rw [cell_of_row w2 _ 1 _ _ _ hG.out];rfl
 have q5:w2.cell? ⟨w.heap.size+1,0,none⟩=some (.slice none 0 0):=by rw [cell_of_row w2 (w.heap.size+1) 0 _ _ _ hG.boxr];rfl
 have q6:w2.cell? ⟨w.heap.size+1,1,none⟩=some (.slice none 0 0):=by rw [cell_of_row w2 (w.heap.size+1) 1 _ _ _ hG.boxr];rfl
 have q7:w2.frozen? ⟨w.heap.size+1,0,none⟩=false:=frozen_of_row w2 (w.heap.size+1) 0 _ _ hG.boxr
 have q8:w2.frozen? ⟨w.heap.size+1,1,none⟩=false:=frozen_of_row w2 (w.heap.size+1) 1 _ _ hG.boxr
 have hdone:=hG.done (.slice ga d.ops.length gc) (.slice gb d.frags.length gd)
 replace hdone:=(id hdone:Hid _)
 have hrow:Hid (((w2.setCell ⟨w.heap.size+1,0,none⟩ (.slice ga d.ops.length gc)).setCell ⟨w.heap.size+1,1,none⟩ (.slice gb d.frags.length gd)).heap[w.heap.size+1]?=some (.cells #[.slice ga d.ops.length gc,.slice gb d.frags.length gd] 28 (0,0))):=heap_setCell_same _ _ _ _ _ _ (heap_setCell_same _ _ _ _ _ _ hG.boxr)
 replace hG:=(id hG:Hid _)
 replace hD:=(id hD:Hid _)
 replace hB0:=(id hB0:Hid _)
 clear hK0 atA atF
 unfold b10C
 simp only [Tryz.f16,bY,sndC]
 show Code.wp _ _ _ _ _
 go_wp2
 rw [← hQ.out]
 try simp only [Exit.inBlock,Exit.then]
 refine bodyPost_ret (results_cell_row rfl _ _ (w.heap.size+1) 28 _ (0,0) _ rfl hrow.out Tryz.underlying28 rfl (by kernel_rfl)) rfl ?_
 obtain ⟨M',k1,k2,k3⟩:=hdone.out
 exact ⟨_,M',rfl,k1,k2,k3⟩
theorem aZY:∀ a b:GDoc,barA a=barA b→a=b:=by
 intro a b h
 have h1:jX a=jX b:=by
  have:=List.head_eq_of_cons_eq h
  exact this
 exact aSO _ _ h1
theorem aVy (args:List PV) (d r:GDoc) (ha:args.map PV.plain=barA d) (hown:∀ p∈args,∀ v,dV p v) (hsol:∀ p∈args,p.solid=true) (h:barF d=some r):aYp Tryz.prog (fun _ _=>none) 16 args (barR r):=by
 unfold barF at h
 split at h
 ·rename_i hb
  cases h
  refine aIL hown hsol rfl rfl (fun vals w=>rfl) ?_
  intro M w vals hc hsz hrel
  have hlen:args.length=1:=by have:=congrArg List.length ha;simpa [barA] using this
  have e0:Rv M noB (.agg [(.slice (List.map aU d.ops) [] false),(.slice (List.map aF d.frags) [] false)]) (vals.getD 0 undef):=by
   have hp:(barA d)[0]?=some (.agg [(.slice (List.map aU d.ops) [] false),(.slice (List.map aF d.frags) [] false)]):=rfl
   rw [← ha,List.getElem?_map] at hp
   cases h2:args[0]? with
   | none=>rw [h2] at hp;simp at hp
   | some p' =>
    rw [h2] at hp
    simp only [Option.map_some,Option.some.injEq] at hp
    rw [← hp]
    exact hrel 0 p' h2
  obtain ⟨l0,k0,m0⟩:=bCi e0
  cases m0 with | cons r0 m0 =>
  cases m0 with | cons r1 m0 =>
  cases m0
  rename_i a' b'
  have hv:vals = #[.agg #[a',b']]:=by
   apply Array.ext
   ·simp [hsz,hlen]
   ·intro i h1 h2
    have hi:i=0:=by simp at h2;omega
    subst hi
    have hg:vals[0]=vals.getD 0 undef:=by simp [h1]
    rw [hg,k0]
    rfl
  rw [hv]
  exact aXP d M w a' b' hb hc r0 r1
 ·simp at h
theorem aEv (d:GDoc) (h:kO d≤1048576):mP d=some (aBH d):=by
 unfold mP
 refine aP4 (aA9 aES) ?_
 refine bBK (g:=aUi Tryz.prog (fun _ _=>none) 16 barA barR barF) rfl ?_
 have hF:barF d=some (aBH d):=by unfold barF;rw [if_pos h]
 refine aYr aZY (x:=d) rfl hF (aVy _ d (aBH d) rfl ?_ ?_ hF)
 ·intro p hp v
  apply bR
  simp only [List.mem_cons,List.not_mem_nil,or_false] at hp
  rcases hp with rfl
  rfl
 ·intro p hp
  simp only [List.mem_cons,List.not_mem_nil,or_false] at hp
  rcases hp with rfl
  rfl
open Go Go.Ev
open Go.ChangeShapes Go.WideShapes Go.ChangeAt Go.RowKit
theorem mixed:Tryz.prog.follows .mixedOrders=true:=by kernel_rfl
theorem bCE : (Tryz.prog.funcs.toList.all fun fn => !fn.body.isSome || !(fn.name == "runtime.NumGoroutine")) = true := by kernel_rfl
theorem laid:laidOutB Tryz.prog=true:=by kernel_rfl
theorem pok:POk Tryz.prog:=by
 refine ⟨mixed,fun f fn hf hb => ?_⟩
 have hm:fn∈Tryz.prog.funcs.toList:=by
  have:=Array.mem_of_getElem? hf
  simpa using this
 have:=List.all_eq_true.1 bCE fn hm
 rw [hb] at this
 simpa using this
theorem blOk {H:Type}:BlOk (H:=H) Rows.uptoBulk Rows.uptoBulkAll:=by
 refine ⟨fun l => ?_,fun s => ?_,?_,fun es sp => ?_,fun ps => ?_,fun d r => ?_⟩
 ·cases l<;>simp [Rows.uptoBulk]
 ·simp [Rows.uptoBulk]
 ·simp [Rows.uptoBulk]
 ·simp only [Rows.uptoBulk];omega
 ·simp only [Rows.uptoBulk];omega
 ·simp [Rows.uptoBulkAll]
theorem own:ownKnob Tryz.prog.godebug=none:=by kernel_rfl
end Go.Proofs.YtphmfillajagdaaGreat

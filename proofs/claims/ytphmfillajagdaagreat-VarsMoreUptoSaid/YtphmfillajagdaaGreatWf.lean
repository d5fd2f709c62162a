import Derived.Test.YtphmfillajagdaaGreatWe
import Derived.Maps.AppendAt
import Derived.Test.YtphmfillajagdaaGreatGa
import Derived.Test.YtphmfillajagdaaGreatWa
import Derived.KernelRfl
import Derived.Test.YtphmfillajagdaaGreatGd
import Derived.Test.YtphmfillajagdaaGreatRows
import Derived.WalkKit
import Derived.ProofKit
import Derived.OpenShut
import Derived.JoinedCond
import Derived.Test.YtphmfillajagdaaGreatEd
set_option maxHeartbeats 4000000
noncomputable section
set_option maxRecDepth 100000
set_option linter.unusedVariables false
set_option linter.unusedSimpArgs false
set_option linter.unusedSimpArgs false
open Go Go.Ev Go.RowKit
namespace Go.Proofs.YtphmfillajagdaaGreat
theorem aOS {P:Program} {w:World} {ops:Array Oper} {o:Oper} {a:Act} {K:Act->World->Prop} {Q:Exit->Act->World->Prop} {E:Prop} (hgd:o.guard=none) (s x:Operand) (t:TypeId)
  (ho:o.op = .call {callee := .builtin .append,args := #[s,x],argTypes := #[t,t]})
  (base:Nat) (e:TypeId) (i:TypeInfo) (z:Value) (size bytes:Nat) (ht:P.underlying t=some (.slice e)) (hi:P.info? e=some i) (hz:i.zero=some z)
  (hsize:i.size=size) (hby:i.bytes=bytes) (hzs:z.cells.size=size) (hsz:0<size)
  (v:Value) (n:Nat) (xs:List Value) (hs:a.eval s=v) (hown:w.ownsRow base e size v n xs)
  (ad:Addr) (m c:Nat) (news:List Value) (hx:a.eval x = .slice (some ad) m c) (hl:news.length=m*size) (hnews:∀ j u,news[j]?=some u->w.cell? (ad.add j)=some u) (h1:∀ u∈news,u.oneCell'=true)
  (h63:n+m<=maxLen) (hbytes:(n+m)*bytes<=140737488355328) (hbase:base<=w.heap.size)
  (h:∀ v' w',w'.ownsRow base e size v' (n+m) (xs++news)->w.grownBy w' v.ownBlock->(v'.ownBlock=v.ownBlock∨v'.ownBlock=some w.heap.size)->K (a.put o.dst v') w') :
  if Region.wanted o (yielded ops a.tmps)=true then Oper.wp P o a w K Q else E:=by
 have hw:Region.wanted o (yielded ops a.tmps)=true:=by simp [Region.wanted,hgd]
 rw [if_pos hw]
 obtain ⟨v',w',hr,h2,h3,_,h5⟩:=run_append_own_at (P:=P) w base t o.type e i z size bytes ht hi hz hsize hby hzs hsz v n xs hown ad m c news hl hnews h1 h63 hbytes hbase
 unfold Oper.wp execOp
 simp only [ho,resolve,invoke,builtin,Sem.run_bind,Sem.run_pure,Result.andThen_ok,List.map_toArray,List.map_cons,List.map_nil,hs,hx,hr]
 exact h v' w' h2 h3 h5
theorem bJI {M:Mem} {B:BM} {es:List PV} {o:Bool} {ad:Addr} {n p:Nat} (h:Rv M B (.slice es [] o) (.slice (some ad) n p)):n<=p:=by
 cases h with
 | slice es bs o ad cap s f ha hcp _ _ _ _=>simpa using hcp
theorem tk3 {P:Program} {ops:Array Oper} {Q:Exit->Act->World->Prop} {md:Region.Mode} {S:World->Prop} {b:Nat->Bool} (i:Nat) {oi:Oper} {v:Value} {n:Nat} {l:Array Bool} {a a':Act} {w:World} (hSw:S w) (h:wpB P md ops Q S b n (l.setIfInBounds i true) a' w) (hi:ops[i]?=some oi:=by rfl)
  (hy:YieldsIf P ops S oi v a:=by exact Or.inl ⟨by rfl,by intro w' hS';obtain ⟨q1,q2,q3⟩:=hS';go_simp;try with_reducible rfl⟩)
  (ha:a.put oi.dst v=a':=by first | (simp only [Act.put,List.getElem_toArray,List.getElem_cons_succ,List.getElem_cons_zero,List.setIfInBounds_toArray,List.set_cons_zero,List.set_cons_succ];done) | (simp only [Act.put,List.getElem_toArray,List.getElem_cons_succ,List.getElem_cons_zero,List.setIfInBounds_toArray,List.set_cons_zero,List.set_cons_succ];rfl) | rfl)
  (hs:Region.noSelect ops=true:=by kernel_rfl) (hf:Region.free md ops l i=true:=by kernel_rfl) (hr:(Region.ready md ops l).contains i=true:=by kernel_rfl) (hb:aOw md ops b i=true:=by kernel_rfl)
  (hQ:∀ c a w,Q (.panic c) (a.put oi.dst v) w->Q (.panic c) a w:=by exact fun _ _ _ h=>h):wpB P md ops Q S b (n+1) l a w :=
 aPF i hy hSw hi hs hf hr hb hQ (by rw [ha];exact h)
theorem bGC {B k:Nat} {M:Mem} {wf:World} {vars:List GVarDef} {news:List Value} {t2:Value} (hk:k<vars.length) (hnl:news.length=vars.length*10)
  (hnr:∀ (i:Nat) (p:PV) (j:Nat) (c:PV),(List.map aB vars)[i]?=some p->p.cells[j]?=some c->∃ u,news[i*10+j]?=some u/\Rv M noB c u)
  (ho:wf.ownsRow B 54 10 t2 (vars.length-1) (news.take (k*10)++news.drop ((k+1)*10))) (hf:∀ g,t2.ownBlock=some g->∀ i,M g i=none) :
  OwnL B M wf 54 10 (List.map aB (vars.take k++vars.drop (k+1))) t2:=by
 have hlen:(List.map aB (vars.take k++vars.drop (k+1))).length=vars.length-1:=by simp;omega
 refine ⟨⟨_,by rw [hlen];exact ho,fun i p j c hp hc => ?_⟩,fun p hp=>by obtain ⟨y,_,rfl⟩:=List.mem_map.1 hp;exact aOO y,hf⟩
 rw [List.getElem?_map] at hp
 have hj:j<10:=by
  cases hq:(vars.take k++vars.drop (k+1))[i]? with
  | none=>rw [hq] at hp;cases hp
  | some y =>
   rw [hq] at hp;cases hp
   have:=(List.getElem?_eq_some_iff.1 hc).1
   rw [(aOO y).2.2.1] at this;exact this
 have htl:(news.take (k*10)).length=k*10:=by rw [List.length_take];omega
 rcases Nat.lt_or_ge i k with h | h
 ·rw [List.getElem?_append_left (by rw [List.length_take];omega),List.getElem?_take,if_pos h] at hp
  obtain ⟨u,h1,h2⟩:=hnr i p j c (by rw [List.getElem?_map];exact hp) hc
  exact ⟨u,by rw [List.getElem?_append_left (by omega),List.getElem?_take,if_pos (by omega)];exact h1,h2⟩
 ·have hvl:(vars.take k).length=k:=by rw [List.length_take];omega
  rw [List.getElem?_append_right (by omega),hvl,List.getElem?_drop,show k+1+(i-k)=i+1 by omega] at hp
  obtain ⟨u,h1,h2⟩:=hnr (i+1) p j c (by rw [List.getElem?_map];exact hp) hc
  exact ⟨u,by rw [List.getElem?_append_right (by omega),htl,List.getElem?_drop,show (k+1)*10+(i*10+j-k*10)=(i+1)*10+j by omega];exact h1,h2⟩
def q17C:Code:=fstC (sndC (sndC (sndC (sndC (sndC (sndC (sndC (sndC (sndC (sndC (sndC (bZ Tryz.f8))))))))))))
set_option maxHeartbeats 16000000 in
theorem putB {B E:Nat} {M:Mem} {w:World} {ops:List GOp} {frags:List GFrag} {Z gA n capA:Nat} {vf:Value} {ys zs:List Value} {u2 u3 u4:Value} (h:DB B E M w ops frags Z gA n capA vf ys zs u2 u3 u4) {x:GOp} (hx:ops[0]?=some x) (hs:x.vars.length<1073741824) (hc:Cons M w)
  (blk off l p:Nat) (b:Option Addr) (q r:Nat) (v2 v3 v4:Value) (Y k:Nat) (hY:w.heap[Y]?=some (.cells #[.slice (some ⟨blk,off,none⟩) l p,.slice b q r] 28 (0,0))) (hl:0<l) (ho:∀ j v,(tF x v2 v3 v4)[j]?=some v->M blk (off+j)=some v) (hr:Rv M noB (.slice (List.map aB x.vars) [] false) v2) (hk:k<x.vars.length) (Q:Exit->Act->World->Prop) (fr:List Value) (hlen:fr.length=188) (e3 e13:Value) (g:FV fr [(3,e3),(4,ptr Y),(11,.int .i64 k),(12,ptr Z),(13,e13)])
  (hC:∀ (M':Mem) (w':World) (l':List Value),l'.length=188->Put B E M w M' w'->Rv M' noB (pvD ⟨bBE ops x (x.vars.take k++x.vars.drop (k+1)),frags⟩) (.agg #[.slice (some ⟨gA,0,none⟩) n capA,vf])->FV l' [(3,e3),(4,ptr Y),(11,.int .i64 k),(12,ptr Z),(13,e13)]->Q .normal ⟨l'.toArray,[]⟩ w') :
  Code.wp Tryz.prog q17C Q ⟨fr.toArray,[]⟩ w:=by
 obtain ⟨a2,p2,ys2,rfl,hn0,hyl,hcl,h2g,h2Z,hBs,all⟩:=h.form hx
 have hnz:(0:Int)<(n:Int):=by omega
 obtain ⟨oa,N,cap,rfl⟩:=lW hr
 obtain ⟨rfl,hnews⟩:=aKi hr
 obtain ⟨bv,ov,news,rfl,hnl,hcell,hone,hnr⟩:=hnews (by intro e;rw [e] at hk;simp at hk)
 have hcap:x.vars.length<=cap:=bJI hr
 have kz:=(all w.drew ((Below.refl _ _).drew)).1
 have kY:w.drew.cell? ⟨Y,0,none⟩=some (.slice (some ⟨blk,off,none⟩) l p):=by rw [cell_of_row w.drew Y 0 _ _ _ hY];rfl
 have kv:w.drew.cell? ⟨blk,off+2,none⟩=some (.slice (some ⟨bv,ov,none⟩) x.vars.length cap):=dS (qG hc) (ho 2 _ rfl)
 have hlz:(0:Int)<(l:Int):=by omega
 have hk2:k<=cap:=by omega
 have hkz:(0:Int)<=(k:Int):=by omega
 have hw16:IntKind.i64.wrap ((k:Int)+1)=(k:Int)+1:=wi (by omega)
 have hb17:(0:Int)<=(k:Int)+1/\(k:Int)+1<=(x.vars.length:Int):=by omega
 obtain ⟨o17,c17,h17⟩:∃ o c:Nat,(cap=k+1/\o=ov/\c=0)∨(¬ cap=k+1/\o=ov+(k+1)*10/\c=cap-(k+1)):=by
  by_cases e:cap=k+1
  ·exact ⟨_,_,.inl ⟨e,rfl,rfl⟩⟩
  ·exact ⟨_,_,.inr ⟨e,rfl,rfl⟩⟩
 have hl1:(news.take (k*10)).length=k*10:=by rw [List.length_take];omega
 have hl2:(news.drop ((k+1)*10)).length=(x.vars.length-(k+1))*10:=by rw [List.length_drop];omega
 have hn1:Hid (∀ j u,(news.take (k*10))[j]?=some u->w.drew.cell? ((⟨bv,ov,none⟩:Addr).add j)=some u):=fun j u hu=>by
  rw [addN]
  rw [List.getElem?_take] at hu
  split at hu
  ·exact dS (qG hc) (hcell j u hu)
  ·cases hu
 have ho1:Hid (∀ u∈news.take (k*10),u.oneCell'=true):=fun u hu=>hone u (List.mem_of_mem_take hu)
 have ho2:Hid (∀ u∈news.drop ((k+1)*10),u.oneCell'=true):=fun u hu=>hone u (List.mem_of_mem_drop hu)
 have hm1:0+k<=maxLen:=by unfold maxLen;omega
 have hm2:0+k+(x.vars.length-(k+1))<=maxLen:=by unfold maxLen;omega
 have hb1:(0+k)*136<=140737488355328:=by omega
 have hb2:(0+k+(x.vars.length-(k+1)))*136<=140737488355328:=by omega
 have hYl:Y<w.heap.size:=(Array.getElem?_eq_some_iff.1 hY).1
 obtain ⟨_,_,_,hZl,hgl,_⟩:=all w (Below.refl _ _)
 have hS:∀ w':World,(∀ b,b<w.heap.size->w'.heap[b]?=w.heap[b]?)->(w'.cell? ⟨Z,0,none⟩=some (.slice (some ⟨gA,0,none⟩) n capA)/\w'.cell? ⟨Y,0,none⟩=some (.slice (some ⟨blk,off,none⟩) l p)/\w'.cell? ⟨blk,off+2,none⟩=some (.slice (some ⟨bv,ov,none⟩) x.vars.length cap))/\Cons M w':=by
  intro w' hw
  have hc':Cons M w':=kL hc fun k hk _=>hw k hk
  refine ⟨⟨?_,?_,dS hc' (ho 2 _ rfl)⟩,hc'⟩
  ·exact (World.cell?_of_block (a:=⟨Z,0,none⟩) (w:=w) (hw Z hZl)).trans (all w (Below.refl _ _)).1
  ·rw [cell_of_row w' Y 0 _ _ _ ((hw Y hYl).trans hY)];rfl
 have hkeep1:Hid (∀ (w1:World) (v1:Value),w1.ownsRow B 54 10 v1 (0+k) ([]++news.take (k*10))->w.drew.grownBy w1 (Value.slice none 0 0).ownBlock->(v1.ownBlock=(Value.slice none 0 0).ownBlock∨v1.ownBlock=some w.drew.heap.size)->(w1.cell? ⟨Z,0,none⟩=some (.slice (some ⟨gA,0,none⟩) n capA)/\w1.cell? ⟨Y,0,none⟩=some (.slice (some ⟨blk,off,none⟩) l p)/\w1.cell? ⟨blk,off+2,none⟩=some (.slice (some ⟨bv,ov,none⟩) x.vars.length cap))/\(∀ j u,(news.drop ((k+1)*10))[j]?=some u->w1.cell? ((⟨bv,o17,none⟩:Addr).add j)=some u)/\B<=w1.heap.size):=by
  intro w1 v1 k1 k2 k3
  obtain ⟨h1,h2⟩:=hS w1 (fun b hb=>k2.block b hb (by simp [Value.ownBlock]))
  refine ⟨h1,fun j u hu => ?_,Nat.le_trans hBs k2.size⟩
  rw [addN]
  rw [List.getElem?_drop] at hu
  rcases h17 with ⟨e1,e2,e3⟩ | ⟨e1,e2,e3⟩
  ·have:=(List.getElem?_eq_some_iff.1 hu).1
   omega
  ·rw [e2,show ov+(k+1)*10+j=ov+((k+1)*10+j) by omega]
   exact dS h2 (hcell _ u hu)
 have hfar:∀ (w1:World) (v1:Value) (w2:World) (v2:Value),w.drew.grownBy w1 (Value.slice none 0 0).ownBlock->(v1.ownBlock=(Value.slice none 0 0).ownBlock∨v1.ownBlock=some w.drew.heap.size)->w1.grownBy w2 v1.ownBlock->(v2.ownBlock=v1.ownBlock∨v2.ownBlock=some w1.heap.size)->(∀ b,b<w.heap.size->w2.heap[b]?=w.heap[b]?)/\(∀ g,v2.ownBlock=some g->w.heap.size<=g)/\w.heap.size<=w2.heap.size/\w2.os=w.os/\w2.tape=w.drew.tape/\w2.output=w.output:=by
  intro w1 v1 w2 v2 k2 k3 k5 k6
  have e0:(Value.slice none 0 0).ownBlock=none:=rfl
  have z1:w.heap.size<=w1.heap.size:=k2.size
  have z2:=k5.size
  have hv1:∀ g,v1.ownBlock=some g->w.heap.size<=g:=fun g hg=>by
   rcases k3 with e | e
   ·rw [e,e0] at hg;cases hg
   ·rw [e] at hg;cases hg;exact Nat.le_refl _
  refine ⟨fun b hb => ?_,fun g hg => ?_,by omega,k5.os.trans k2.os,k5.tape.trans k2.tape,k5.output.trans k2.output⟩
  ·exact (k5.block b (by omega) (fun e=>by have:=hv1 b e.symm;omega)).trans (k2.block b hb (by rw [e0];simp))
  ·rcases k6 with e | e
   ·rw [e] at hg;exact hv1 g hg
   ·rw [e] at hg;cases hg;exact z1
 have hkeep2:Hid (∀ (w1:World) (v1:Value) (w2:World) (v2:Value),w.drew.grownBy w1 (Value.slice none 0 0).ownBlock->(v1.ownBlock=(Value.slice none 0 0).ownBlock∨v1.ownBlock=some w.drew.heap.size)->w1.grownBy w2 v1.ownBlock->(v2.ownBlock=v1.ownBlock∨v2.ownBlock=some w1.heap.size)->(w2.cell? ⟨Z,0,none⟩=some (.slice (some ⟨gA,0,none⟩) n capA)/\w2.cell? ⟨Y,0,none⟩=some (.slice (some ⟨blk,off,none⟩) l p)/\w2.cell? ⟨blk,off+2,none⟩=some (.slice (some ⟨bv,ov,none⟩) x.vars.length cap))/\w2.cell? ⟨gA,2,none⟩=some (.slice a2 x.vars.length p2)/\w2.frozen? ⟨gA,2,none⟩=false):=by
  intro w1 v1 w2 v2 k2 k3 k5 k6
  obtain ⟨f1,_⟩:=hfar w1 v1 w2 v2 k2 k3 k5 k6
  obtain ⟨_,g2,g3,_⟩:=all w (Below.refl _ _)
  exact ⟨(hS w2 f1).1,(World.cell?_of_block (a:=⟨gA,2,none⟩) (w:=w) (f1 gA hgl)).trans g2,(World.frozen?_of_block (a:=⟨gA,2,none⟩) (w:=w) (f1 gA hgl)).trans g3⟩
 have fin:Hid (∀ (w1:World) (v1:Value) (w2:World) (v2:Value) (l':List Value),w.drew.grownBy w1 (Value.slice none 0 0).ownBlock->(v1.ownBlock=(Value.slice none 0 0).ownBlock∨v1.ownBlock=some w.drew.heap.size)->w2.ownsRow B 54 10 v2 (0+k+(x.vars.length-(k+1))) ([]++news.take (k*10)++news.drop ((k+1)*10))->w1.grownBy w2 v1.ownBlock->(v2.ownBlock=v1.ownBlock∨v2.ownBlock=some w1.heap.size)->l'.length=188->FV l' [(3,e3),(4,ptr Y),(11,.int .i64 k),(12,ptr Z),(13,e13)]->Q .normal ⟨l'.toArray,[]⟩ (w2.setCell ⟨gA,2,none⟩ v2)):=by
  intro w1 v1 w2 v2 l' k2 k3 k4 k5 k6 k7 k8
  obtain ⟨f1,f2,f3,f4,f5,f6⟩:=hfar w1 v1 w2 v2 k2 k3 k5 k6
  have hgA:=h.ds.hi gA (.inl rfl)
  have hE:=h.le
  obtain ⟨hm,hm2⟩:=h.ds.mrk x hx
  have hgw:∀ b,b<w.heap.size->b≠gA->(Value.slice a2 x.vars.length p2).ownBlock≠some b->(w2.setCell ⟨gA,2,none⟩ v2).heap[b]?=w.heap[b]?:=fun b hb e1 e2=>(Below.heap_setCell _ _ _ _ e1).trans (f1 b hb)
  have hcf:Cons M (w2.setCell ⟨gA,2,none⟩ v2):=kL hc fun b hb ⟨i,hi⟩=>(Below.heap_setCell _ _ _ _ (fun e=>hi (by rw [e];exact h.ds.foA gA rfl i))).trans (f1 b hb)
  obtain ⟨gA',n',cap'',eva,hnl',_⟩:=h.ds.at_
  obtain rfl:ops.length=n:=by injection eva with e1 e2 e3;omega
  have hwA:w2.ownsRow B 38 5 (.slice (some ⟨gA,0,none⟩) ops.length capA) _ ys:=jG h.ds.ownA fun b hb=>f1 b (by have:=(h.ds.hi b (.inl hb)).2;omega)
  have hyA:=h.ds.ownA.1
  have hA:=aMH hwA 2 v2 (by omega)
  have own2:w2.ownsRow B 54 10 v2 (x.vars.length-1) (news.take (k*10)++news.drop ((k+1)*10)):=by
   have e:0+k+(x.vars.length-(k+1))=x.vars.length-1:=by omega
   rw [e,List.nil_append] at k4;exact k4
  have oS:OwnL B M (w2.setCell ⟨gA,2,none⟩ v2) 54 10 (List.map aB (x.vars.take k++x.vars.drop (k+1))) v2:=bGC hk hnl hnr (ownsRow_setCell_other own2 (a:=⟨gA,2,none⟩) (fun e=>by have:=f2 gA e;omega) _) (fun g hg i=>rR hc (f2 g hg) i)
  obtain ⟨q1,q2⟩:=aZB h.ds hE hx _ (fun _ _ _ h=>h) (fun _ _ _=>rfl) hcf hgw hA oS (fun k hk => .inr (f2 k hk)) f4 f5 f6 (by simp only [World.setCell,Array.size_modify];exact f3)
  obtain ⟨M',r1,r2⟩:=aZC q1 hcf q2
  exact hC M' _ l' k7 r1 r2 k8
 obtain ⟨i0,z0,hi,hz0,hz1,hz2,hzc⟩:=aIs Tryz.i54
 clear hC hS hfar hcell hone hnr hnews hr all ho hcl h hx
 generalize hN:x.vars.length=NN at *
 revert g
 refine tZ 188 (fun fr=>FV fr _->Code.wp Tryz.prog _ _ ⟨fr.toArray,[]⟩ _) ?_ fr hlen
 simp only [AllL]
 iterate 188 intro _
 rintro ⟨g3,g4,g11,g12,g13,_⟩
 simp only [at_] at g3 g4 g11 g12 g13
 subst g3 g4 g11 g12 g13
 unfold q17C
 simp only [Tryz.f8,bZ,sndC,fstC]
 refine Code.wp_mono (Q:=Exit.then (Q .normal) (fun _ _ _=>False)) (fun e a w h=>by cases e<;>first | exact h | exact h.elim) ?_
 refine vR (fun w'=>w'.cell? ⟨Z,0,none⟩=some (.slice (some ⟨gA,0,none⟩) n capA)/\w'.cell? ⟨Y,0,none⟩=some (.slice (some ⟨blk,off,none⟩) l p)/\w'.cell? ⟨blk,off+2,none⟩=some (.slice (some ⟨bv,ov,none⟩) NN cap)) (fun j=>j==21) (by kernel_rfl) ?_
 have hS0:w.drew.cell? ⟨Z,0,none⟩=some (.slice (some ⟨gA,0,none⟩) n capA)/\w.drew.cell? ⟨Y,0,none⟩=some (.slice (some ⟨blk,off,none⟩) l p)/\w.drew.cell? ⟨blk,off+2,none⟩=some (.slice (some ⟨bv,ov,none⟩) NN cap):=⟨kz,kY,kv⟩
 try simp only [Act.put,List.setIfInBounds_toArray,List.set_cons_zero,List.set_cons_succ]
 refine tk3 0 hS0 ?_
 refine tk3 1 hS0 ?_
 refine tk3 2 hS0 ?_
 refine tk3 3 hS0 ?_
 refine tk3 4 hS0 ?_
 refine tk3 5 hS0 ?_
 refine tk3 6 hS0 ?_
 refine tk3 7 hS0 ?_
 refine tk3 8 hS0 ?_
 refine tk3 10 hS0 ?_
 refine tk3 11 hS0 ?_
 refine tk3 12 hS0 ?_
 refine tk3 13 hS0 ?_
 refine tk3 14 hS0 ?_
 refine tk3 15 hS0 ?_
 refine tk3 (v := .int .i64 ((k:Int)+1)) 16 hS0 ?_ (hi:=rfl) (hy:=Or.inl ⟨by rfl,by intro w' hS';obtain ⟨q1,q2,q3⟩:=hS';go_simp⟩)
 refine tk3 (v := .slice (some ⟨bv,o17,none⟩) (NN-(k+1)) c17) 17 hS0 ?_ (hi:=rfl) (hy:=Or.inl ⟨by rfl,by intro w' hS';obtain ⟨q1,q2,q3⟩:=hS';rcases h17 with ⟨e1,rfl,rfl⟩ | ⟨e1,rfl,rfl⟩<;>go_simp⟩)
 try simp only [Act.put,List.setIfInBounds_toArray,List.set_cons_zero,List.set_cons_succ]
 refine on1 9 ?_
 intro K9 hK9
 show (if Region.wanted {dst:=some 144,op:=Op.call {callee:=Callee.builtin Builtin.append,args:=_,argTypes:=_},type:=_,pos:=_,after:=_,guard:=_} _=true then _ else _)
 refine aOS rfl (.const (.slice none 0 0)) (.tmp 143) 35 rfl B 54 i0 _ 10 136 Tryz.u35 hi hz0 hz1 hz2 hzc (by decide) (.slice none 0 0) 0 [] rfl (World.ownsRow_nil _ _ _ _) ⟨bv,ov,none⟩ k cap (news.take (k*10)) rfl hl1 hn1.out ho1.out hm1 hb1 hBs ?_
 intro v1 w1 own1 grow1 at1
 obtain ⟨s1,s2,s3⟩:=hkeep1.out w1 v1 own1 grow1 at1
 refine hK9.out _ _ s1 (fun hS1 => ?_)
 clear hK9 K9
 try simp only [Act.put,List.setIfInBounds_toArray,List.set_cons_zero,List.set_cons_succ]
 refine on1 18 ?_
 intro K18 hK18
 show (if Region.wanted {dst:=some 153,op:=Op.call {callee:=Callee.builtin Builtin.append,args:=_,argTypes:=_},type:=_,pos:=_,after:=_,guard:=_} _=true then _ else _)
 refine aOS rfl (.tmp 144) (.tmp 152) 35 rfl B 54 i0 _ 10 136 Tryz.u35 hi hz0 hz1 hz2 hzc (by decide) v1 (0+k) ([]++news.take (k*10)) rfl own1 ⟨bv,o17,none⟩ (NN-(k+1)) c17 (news.drop ((k+1)*10)) rfl hl2 s2 ho2.out hm2 hb2 s3 ?_
 intro v2 w2 own2 grow2 at2
 obtain ⟨t1,t2,t3⟩:=hkeep2.out w1 v1 w2 v2 grow1 at1 grow2 at2
 obtain ⟨av,cv,rfl⟩:=aBs own2
 refine hK18.out _ _ t1 (fun hS2 => ?_)
 clear hK18 K18
 try simp only [Act.put,List.setIfInBounds_toArray,List.set_cons_zero,List.set_cons_succ]
 refine on1 19 ?_
 intro K19 hK19
 go_simp
 refine hK19.out _ _ hS2 (fun hS2 => ?_)
 clear hK19 K19
 try simp only [Act.put,List.setIfInBounds_toArray,List.set_cons_zero,List.set_cons_succ]
 refine tk3 20 hS2 ?_
 refine onL 21 ?_
 intro K21 hK21
 go_simp
 refine hK21.out _ _ ?_
 clear hK21 K21
 try simp only [Act.put,List.setIfInBounds_toArray,List.set_cons_zero,List.set_cons_succ]
 refine aGq (by kernel_rfl) ?_ _
 rw [show k+(NN-(k+1))=0+k+(NN-(k+1)) from by rw [Nat.zero_add]]
 refine fin.out w1 v1 w2 _ _ grow1 at1 own2 grow2 at2 ?_ ?_
 ·rfl
 ·exact ⟨rfl,rfl,rfl,rfl,rfl,trivial⟩
open Go Go.Ev Go.RowKit
abbrev nA (y:GVarDef) (v8 v9:Value):List Value:=[.string ⟨y.name.toArray⟩,.string ⟨y.t.name.toArray⟩,.int .i64 y.t.lists,.int .i64 y.t.musts,.bool y.has,.int .i64 y.default.kind,.int .i64 y.default.n,.string ⟨y.default.s.toArray⟩,v8,v9]
theorem bEi {M:Mem} {vars:List GVarDef} {news:List Value} (hnr:∀ (i:Nat) (p:PV) (j:Nat) (c:PV),(List.map aB vars)[i]?=some p->p.cells[j]?=some c->∃ u,news[i*10+j]?=some u/\Rv M noB c u) {k:Nat} {y:GVarDef} (hy:vars[k]?=some y) :
  ∃ a8 n8 c8 a9 n9 c9,(∀ j u,(nA y (.slice a8 n8 c8) (.slice a9 n9 c9))[j]?=some u->news[k*10+j]?=some u)/\∀ (j:Nat) (c:PV),(aB y).cells[j]?=some c->∃ u,(nA y (.slice a8 n8 c8) (.slice a9 n9 c9))[j]?=some u/\Rv M noB c u:=by
 have hp:(List.map aB vars)[k]?=some (aB y):=by rw [List.getElem?_map,hy];rfl
 have at_j:=fun j c h=>hnr k _ j c hp h
 rw [dV] at at_j ⊢
 obtain ⟨u0,e0,r0⟩:=at_j 0 _ rfl
 obtain ⟨u1,e1,r1⟩:=at_j 1 _ rfl
 obtain ⟨u2,e2,r2⟩:=at_j 2 _ rfl
 obtain ⟨u3,e3,r3⟩:=at_j 3 _ rfl
 obtain ⟨u4,e4,r4⟩:=at_j 4 _ rfl
 obtain ⟨u5,e5,r5⟩:=at_j 5 _ rfl
 obtain ⟨u6,e6,r6⟩:=at_j 6 _ rfl
 obtain ⟨u7,e7,r7⟩:=at_j 7 _ rfl
 obtain ⟨u8,e8,r8⟩:=at_j 8 _ rfl
 obtain ⟨u9,e9,r9⟩:=at_j 9 _ rfl
 obtain ⟨a8,n8,c8,rfl⟩:=lW r8
 obtain ⟨a9,n9,c9,rfl⟩:=lW r9
 cases r0;cases r1;cases r2;cases r3;cases r4;cases r5;cases r6;cases r7
 refine ⟨a8,n8,c8,a9,n9,c9,fun j u hu => ?_,fun j c hcj => ?_⟩
 ·have hj:j<10:=by have:=(List.getElem?_eq_some_iff.1 hu).1;simpa using this
  match j,hj,hu with
  | 0,_,hu=>cases hu;exact e0
  | 1,_,hu=>cases hu;exact e1
  | 2,_,hu=>cases hu;exact e2
  | 3,_,hu=>cases hu;exact e3
  | 4,_,hu=>cases hu;exact e4
  | 5,_,hu=>cases hu;exact e5
  | 6,_,hu=>cases hu;exact e6
  | 7,_,hu=>cases hu;exact e7
  | 8,_,hu=>cases hu;exact e8
  | 9,_,hu=>cases hu;exact e9
 ·have hj:j<10:=by have:=(List.getElem?_eq_some_iff.1 hcj).1;simpa [PV.cells] using this
  match j,hj,hcj with
  | 0,_,h=>cases h;exact ⟨_,rfl,.str _⟩
  | 1,_,h=>cases h;exact ⟨_,rfl,.str _⟩
  | 2,_,h=>cases h;exact ⟨_,rfl,.int _ _⟩
  | 3,_,h=>cases h;exact ⟨_,rfl,.int _ _⟩
  | 4,_,h=>cases h;exact ⟨_,rfl,.bool _⟩
  | 5,_,h=>cases h;exact ⟨_,rfl,.int _ _⟩
  | 6,_,h=>cases h;exact ⟨_,rfl,.int _ _⟩
  | 7,_,h=>cases h;exact ⟨_,rfl,.str _⟩
  | 8,_,h=>cases h;exact ⟨_,rfl,r8⟩
  | 9,_,h=>cases h;exact ⟨_,rfl,r9⟩
theorem tk4 {P:Program} {ops:Array Oper} {Q:Exit->Act->World->Prop} {md:Region.Mode} {S:World->Prop} {b:Nat->Bool} (i:Nat) {oi:Oper} {v:Value} {n:Nat} {l:Array Bool} {a a':Act} {w:World} (hSw:S w) (h:wpB P md ops Q S b n (l.setIfInBounds i true) a' w) (hi:ops[i]?=some oi:=by rfl)
  (hy:YieldsIf P ops S oi v a:=by exact Or.inl ⟨by rfl,by intro w' hS';obtain ⟨q1,q2,q3,q4,q5⟩:=hS';go_simp;try with_reducible rfl⟩)
  (ha:a.put oi.dst v=a':=by first | (simp only [Act.put,List.getElem_toArray,List.getElem_cons_succ,List.getElem_cons_zero,List.setIfInBounds_toArray,List.set_cons_zero,List.set_cons_succ];done) | (simp only [Act.put,List.getElem_toArray,List.getElem_cons_succ,List.getElem_cons_zero,List.setIfInBounds_toArray,List.set_cons_zero,List.set_cons_succ];rfl) | rfl)
  (hs:Region.noSelect ops=true:=by kernel_rfl) (hf:Region.free md ops l i=true:=by kernel_rfl) (hr:(Region.ready md ops l).contains i=true:=by kernel_rfl) (hb:aOw md ops b i=true:=by kernel_rfl)
  (hQ:∀ c a w,Q (.panic c) (a.put oi.dst v) w->Q (.panic c) a w:=by exact fun _ _ _ h=>h):wpB P md ops Q S b (n+1) l a w :=
 aPF i hy hSw hi hs hf hr hb hQ (by rw [ha];exact h)
def q18C:Code:=fstC (sndC (sndC (sndC (sndC (sndC (sndC (sndC (sndC (sndC (sndC (sndC (sndC (bZ Tryz.f8)))))))))))))
set_option maxHeartbeats 16000000 in
theorem putC {B E:Nat} {M:Mem} {w:World} {ops:List GOp} {frags:List GFrag} {Z gA n capA:Nat} {vf:Value} {ys zs:List Value} {u2 u3 u4:Value} (h:DB B E M w ops frags Z gA n capA vf ys zs u2 u3 u4) {x:GOp} (hx:ops[0]?=some x) (hs:x.vars.length<1073741824) (hc:Cons M w)
  (blk off l p:Nat) (b:Option Addr) (q r:Nat) (v2 v3 v4:Value) (Y k:Nat) (hY:w.heap[Y]?=some (.cells #[.slice (some ⟨blk,off,none⟩) l p,.slice b q r] 28 (0,0))) (hl:0<l) (ho:∀ j v,(tF x v2 v3 v4)[j]?=some v->M blk (off+j)=some v) (hr:Rv M noB (.slice (List.map aB x.vars) [] false) v2) {y:GVarDef} (hy:x.vars[k]?=some y) (hYB:Y<B) (Q:Exit->Act->World->Prop) (fr:List Value) (hlen:fr.length=188) (e3 e12:Value) (g:FV fr [(3,e3),(4,ptr Y),(11,.int .i64 k),(12,e12),(13,ptr Z)])
  (hC:∀ (M':Mem) (w':World) (l':List Value),l'.length=188->Put B E M w M' w'->Rv M' noB (pvD ⟨bBE ops x (x.vars++[y]),frags⟩) (.agg #[.slice (some ⟨gA,0,none⟩) n capA,vf])->FV l' [(3,e3),(4,ptr Y),(12,e12),(13,ptr Z)]->Q .normal ⟨l'.toArray,[]⟩ w') :
  Code.wp Tryz.prog q18C Q ⟨fr.toArray,[]⟩ w:=by
 obtain ⟨a2,p2,ys2,rfl,hn0,hyl,hcl,h2g,h2Z,hBs,all⟩:=h.form hx
 have hk:k<x.vars.length:=(List.getElem?_eq_some_iff.1 hy).1
 have hnz:(0:Int)<(n:Int):=by omega
 obtain ⟨oa,N,cap,rfl⟩:=lW hr
 obtain ⟨rfl,hnews⟩:=aKi hr
 obtain ⟨bv,ov,news,rfl,hnl,hcell,hone,hnr⟩:=hnews (by intro e;rw [e] at hk;simp at hk)
 obtain ⟨a8,n8,c8,a9,n9,c9,hat8,hcy⟩:=bEi hnr hy
 have aft:Hid (∀ (W w4:World),_->_->_):=h.aft h2g h2Z all
 obtain ⟨kz,k2,kf,hZl,hgl,ho2⟩:=all w.drew ((Below.refl _ _).drew)
 have hYl:Y<w.heap.size:=(Array.getElem?_eq_some_iff.1 hY).1
 have hkz:(0:Int)<=(k:Int):=by omega
 have hlz:(0:Int)<(l:Int):=by omega
 have hrest:∀ w':World,Cons M w'->w'.heap[Y]?=w.heap[Y]?->w'.cell? ⟨Y,0,none⟩=some (.slice (some ⟨blk,off,none⟩) l p)/\w'.cell? ⟨blk,off+2,none⟩=some (.slice (some ⟨bv,ov,none⟩) x.vars.length cap)/\∀ j u,(nA y (.slice a8 n8 c8) (.slice a9 n9 c9))[j]?=some u->w'.cell? ⟨bv,ov+k*10+j,none⟩=some u:=by
  intro w' hc' hY'
  refine ⟨?_,dS hc' (ho 2 _ rfl),fun j u hu => ?_⟩
  ·rw [cell_of_row w' Y 0 _ _ _ (hY'.trans hY)];rfl
  ·rw [Nat.add_assoc];exact dS hc' (hcell _ u (hat8 j u hu))
 have hSB:Hid (∀ w':World,Below w.heap.size w w'->(w'.cell? ⟨Z,0,none⟩=some (.slice (some ⟨gA,0,none⟩) n capA)/\w'.cell? ⟨gA,2,none⟩=some (.slice a2 x.vars.length p2)/\w'.cell? ⟨Y,0,none⟩=some (.slice (some ⟨blk,off,none⟩) l p)/\w'.cell? ⟨blk,off+2,none⟩=some (.slice (some ⟨bv,ov,none⟩) x.vars.length cap)/\∀ j u,(nA y (.slice a8 n8 c8) (.slice a9 n9 c9))[j]?=some u->w'.cell? ⟨bv,ov+k*10+j,none⟩=some u)):=by
  intro w' hb
  obtain ⟨g1,g2,_⟩:=all w' hb
  exact ⟨g1,g2,hrest w' (vC hc hb) (hb.block Y hYl)⟩
 have haft:Hid (∀ (w4:World),(w.alloc (.cells (nA y (.slice a8 n8 c8) (.slice a9 n9 c9)).toArray 54)).drew.grownBy w4 (Value.slice a2 x.vars.length p2).ownBlock->(w4.cell? ⟨Z,0,none⟩=some (.slice (some ⟨gA,0,none⟩) n capA)/\w4.cell? ⟨gA,2,none⟩=some (.slice a2 x.vars.length p2)/\w4.cell? ⟨Y,0,none⟩=some (.slice (some ⟨blk,off,none⟩) l p)/\w4.cell? ⟨blk,off+2,none⟩=some (.slice (some ⟨bv,ov,none⟩) x.vars.length cap)/\∀ j u,(nA y (.slice a8 n8 c8) (.slice a9 n9 c9))[j]?=some u->w4.cell? ⟨bv,ov+k*10+j,none⟩=some u)/\w4.frozen? ⟨gA,2,none⟩=false):=by
  intro w4 hg
  have hb:Below w.heap.size w (w.alloc (.cells (nA y (.slice a8 n8 c8) (.slice a9 n9 c9)).toArray 54)).drew:=((Below.refl _ _).alloc (Nat.le_refl _) _).drew
  obtain ⟨g1,g2,g3⟩:=aft.out _ w4 hb hg
  have hm:=(h.ds.mrk x hx).1
  have h2:∀ k,(Value.slice a2 x.vars.length p2).ownBlock=some k->B<=k:=fun k hk=>(h.ds.hi k (.inr (.inr hk))).1
  have hz:=hb.size
  have hc4:Cons M w4:=kL hc fun b hb' ⟨i,hi⟩=>(hg.block b (by omega) (fun e=>hi (hm.o2.free b e.symm i))).trans (hb.block b hb')
  exact ⟨⟨g1,g2,hrest w4 hc4 ((hg.block Y (by omega) (fun e=>by have:=h2 Y e.symm;omega)).trans (hb.block Y hYl))⟩,g3⟩
 have fin:Hid (∀ (w4:World) (g cap':Nat) (l':List Value),w4.ownsRow B 54 10 (.slice (some ⟨g,0,none⟩) (x.vars.length+1) cap') (x.vars.length+1) (ys2++nA y (.slice a8 n8 c8) (.slice a9 n9 c9))->(w.alloc (.cells (nA y (.slice a8 n8 c8) (.slice a9 n9 c9)).toArray 54)).drew.grownBy w4 (Value.slice a2 x.vars.length p2).ownBlock->((Value.slice a2 x.vars.length p2).ownBlock=some g∨g=(w.alloc (.cells (nA y (.slice a8 n8 c8) (.slice a9 n9 c9)).toArray 54)).drew.heap.size)->l'.length=188->FV l' [(3,e3),(4,ptr Y),(12,e12),(13,ptr Z)]->Q .normal ⟨l'.toArray,[]⟩ (w4.setCell ⟨gA,2,none⟩ (.slice (some ⟨g,0,none⟩) (x.vars.length+1) cap'))):=by
  intro w4 g cap' l' k1 k2 k3 k4 k5
  obtain ⟨M',p1,p2⟩:=aZD h.ds h.le hx hc (((Below.refl _ _).alloc (Nat.le_refl _) _).drew) hcl hyl y (nA y (.slice a8 n8 c8) (.slice a9 n9 c9)) hcy k1 k2 k3
  exact hC M' _ l' k4 p1 p2 k5
 obtain ⟨rY,rv,rc⟩:=hrest w.drew (qG hc) rfl
 have r0:=rc 0 _ rfl
 have r1:=rc 1 _ rfl
 have r2:=rc 2 _ rfl
 have r3:=rc 3 _ rfl
 have r4:=rc 4 _ rfl
 have r5:=rc 5 _ rfl
 have r6:=rc 6 _ rfl
 have r7:=rc 7 _ rfl
 have r8:=rc 8 _ rfl
 have r9:=rc 9 _ rfl
 have hm1:x.vars.length+1<=maxLen:=by unfold maxLen;omega
 have hb1:(x.vars.length+1)*136<=140737488355328:=by omega
 have hBz:B<=(w.alloc (.cells (nA y (.slice a8 n8 c8) (.slice a9 n9 c9)).toArray 54)).drew.heap.size:=by
  have:=(((Below.refl w.heap.size w).alloc (Nat.le_refl _) (.cells (nA y (.slice a8 n8 c8) (.slice a9 n9 c9)).toArray 54)).drew).size
  omega
 obtain ⟨i0,z0,hi,hz0,hz1,hz2,hzc⟩:=aIs Tryz.i54
 have hall:Hid (∀ (w':World),_->_):=all
 replace hrest:=(id hrest:Hid _)
 replace rc:=(id rc:Hid _)
 clear hC h hcl hx all hnews hcell hone hnr hat8 hcy ho hr
 generalize hN:x.vars.length=NN at *
 revert g
 refine tZ 188 (fun fr=>FV fr _->Code.wp Tryz.prog _ _ ⟨fr.toArray,[]⟩ _) ?_ fr hlen
 simp only [AllL]
 iterate 188 intro _
 rintro ⟨g3,g4,g11,g12,g13,_⟩
 simp only [at_] at g3 g4 g11 g12 g13
 subst g3 g4 g11 g12 g13
 unfold q18C
 simp only [Tryz.f8,bZ,sndC,fstC]
 refine Code.wp_mono (Q:=Exit.then (Q .normal) (fun _ _ _=>False)) (fun e a w h=>by cases e<;>first | exact h | exact h.elim) ?_
 refine vR (fun w'=>w'.cell? ⟨Z,0,none⟩=some (.slice (some ⟨gA,0,none⟩) n capA)/\w'.cell? ⟨gA,2,none⟩=some (.slice a2 NN p2)/\w'.cell? ⟨Y,0,none⟩=some (.slice (some ⟨blk,off,none⟩) l p)/\w'.cell? ⟨blk,off+2,none⟩=some (.slice (some ⟨bv,ov,none⟩) NN cap)/\∀ j u,(nA y (.slice a8 n8 c8) (.slice a9 n9 c9))[j]?=some u->w'.cell? ⟨bv,ov+k*10+j,none⟩=some u) (fun j=>j==19) (by kernel_rfl) ?_
 have hS0:w.drew.cell? ⟨Z,0,none⟩=some (.slice (some ⟨gA,0,none⟩) n capA)/\w.drew.cell? ⟨gA,2,none⟩=some (.slice a2 NN p2)/\w.drew.cell? ⟨Y,0,none⟩=some (.slice (some ⟨blk,off,none⟩) l p)/\w.drew.cell? ⟨blk,off+2,none⟩=some (.slice (some ⟨bv,ov,none⟩) NN cap)/\∀ j u,(nA y (.slice a8 n8 c8) (.slice a9 n9 c9))[j]?=some u->w.drew.cell? ⟨bv,ov+k*10+j,none⟩=some u:=⟨kz,k2,rY,rv,rc.out⟩
 try simp only [Act.put,List.setIfInBounds_toArray,List.set_cons_zero,List.set_cons_succ]
 refine tk4 0 hS0 ?_
 refine tk4 1 hS0 ?_
 refine tk4 2 hS0 ?_
 refine tk4 3 hS0 ?_
 refine tk4 4 hS0 ?_
 refine tk4 5 hS0 ?_
 refine tk4 6 hS0 ?_
 refine tk4 7 hS0 ?_
 refine tk4 8 hS0 ?_
 refine tk4 9 hS0 ?_
 refine tk4 10 hS0 ?_
 refine tk4 11 hS0 ?_
 refine tk4 12 hS0 ?_
 refine tk4 13 hS0 ?_
 refine tk4 (v := .agg (nA y (.slice a8 n8 c8) (.slice a9 n9 c9)).toArray) 14 hS0 ?_ (hi:=rfl) (hy:=Or.inl ⟨by rfl,by
  intro w' hS';obtain ⟨q1,q2,q3,q4,q5⟩:=hS'
  have s0:w'.cell? ⟨bv,ov+k*10,none⟩=_:=q5 0 _ rfl;have s1:=q5 1 _ rfl;have s2:=q5 2 _ rfl;have s3:=q5 3 _ rfl;have s4:=q5 4 _ rfl
  have s5:=q5 5 _ rfl;have s6:=q5 6 _ rfl;have s7:=q5 7 _ rfl;have s8:=q5 8 _ rfl;have s9:=q5 9 _ rfl
  clear q5
  go_simp⟩)
 refine on1 15 ?_
 intro K15 hK15
 go_simp
 have hS1:=hSB.out _ (((Below.refl w.heap.size w).alloc (Nat.le_refl _) (.cells (nA y (.slice a8 n8 c8) (.slice a9 n9 c9)).toArray 54)).drew)
 refine hK15.out _ _ hS1 (fun hS2 => ?_)
 clear hK15 K15
 try simp only [Act.put,List.getElem_toArray,List.getElem_cons_succ,List.getElem_cons_zero,List.setIfInBounds_toArray,List.set_cons_zero,List.set_cons_succ]
 refine on1 16 ?_
 intro K16 hK16
 show (if Region.wanted {dst:=some 172,op:=Op.call {callee:=Callee.builtin Builtin.append,args:=_,argTypes:=_},type:=_,pos:=_,after:=_,guard:=_} _=true then _ else _)
 obtain ⟨_,_,_,_,_,ho3⟩:=hall.out _ (((Below.refl w.heap.size w).alloc (Nat.le_refl _) (.cells (nA y (.slice a8 n8 c8) (.slice a9 n9 c9)).toArray 54)).drew)
 refine aJa rfl (.tmp 162) (.tmp 171) 35 rfl B 54 i0 _ 10 136 Tryz.u35 hi hz0 hz1 hz2 hzc (by decide) (.slice a2 NN p2) NN ys2 rfl ho3 ⟨w.heap.size,0,none⟩ 1 1 (nA y (.slice a8 n8 c8) (.slice a9 n9 c9)) rfl rfl (World.news_of_block (cs:=(nA y (.slice a8 n8 c8) (.slice a9 n9 c9)).toArray) (heap_alloc_new w _)) (by intro u hu;simp only [nA,List.mem_cons,List.not_mem_nil,or_false] at hu;rcases hu with rfl | rfl | rfl | rfl | rfl | rfl | rfl | rfl | rfl | rfl<;>rfl) (by decide) hm1 hb1 hBz _ rfl ?_
 intro g cap2 w4 hown4 hgrow hat hlt
 obtain ⟨t1,t2⟩:=haft.out w4 hgrow
 refine hK16.out _ _ t1 (fun hS3 => ?_)
 clear hK16 K16
 try simp only [Act.put,List.getElem_toArray,List.getElem_cons_succ,List.getElem_cons_zero,List.setIfInBounds_toArray,List.set_cons_zero,List.set_cons_succ]
 refine on1 17 ?_
 intro K17 hK17
 obtain ⟨n1,n2,_⟩:=hS3
 go_simp
 refine hK17.out _ _ t1 (fun hS3 => ?_)
 clear hK17 K17
 try simp only [Act.put,List.getElem_toArray,List.getElem_cons_succ,List.getElem_cons_zero,List.setIfInBounds_toArray,List.set_cons_zero,List.set_cons_succ]
 refine tk4 18 hS3 ?_
 refine onL 19 ?_
 intro K19 hK19
 go_simp
 refine hK19.out _ _ ?_
 clear hK19 K19
 try simp only [Act.put,List.getElem_toArray,List.getElem_cons_succ,List.getElem_cons_zero,List.setIfInBounds_toArray,List.set_cons_zero,List.set_cons_succ]
 refine aGq (by kernel_rfl) ?_ _
 refine fin.out w4 g cap2 _ hown4 hgrow hat ?_ ?_
 ·rfl
 ·exact ⟨rfl,rfl,rfl,rfl,trivial⟩
def qRC:Code:=sndC (sndC (sndC (sndC (sndC (sndC (sndC (sndC (sndC (sndC (sndC (sndC (sndC (bZ Tryz.f8)))))))))))))
theorem bJ5 {M w} X Z Z' xs ls ps (sq sm:Str) u0 u1 z0 z1 (hc:Cons M w) (hX:w.heap[X]?=some (.cells #[.slice xs ls ps,.string ⟨sq.toArray⟩,.string ⟨sm.toArray⟩] 24 (0,0))) (hZ:w.heap[Z]?=some (.cells #[u0,u1] 28 (0,0))) (hZ':w.heap[Z']?=some (.cells #[z0,z1] 28 (0,0)))
  (D:∃ a n c,u0 = .slice a n c) (H:∃ a n c,u1 = .slice a n c) (v:∃ a n c,z0 = .slice a n c) (E:∃ a n c,z1 = .slice a n c)
  (h20:Hid (∀ M' w',Cl M w M' w'->Calls Tryz.prog 27 #[.agg #[.slice xs ls ps,.string ⟨sq.toArray⟩,.string ⟨sm.toArray⟩],.agg #[u0,u1],.int .i64 20] w' fun e w''=>∃ M'',e = .returned (.bool false)/\Cons M'' w''/\Quiet M' w' M'' w''))
  (h18:Hid (∀ M' w',Cl M w M' w'->Calls Tryz.prog 27 #[.agg #[.slice xs ls ps,.string ⟨sq.toArray⟩,.string ⟨sm.toArray⟩],.agg #[z0,z1],.int .i64 18] w' fun e w''=>∃ M'',e = .returned (.bool false)/\Cons M'' w''/\Quiet M' w' M'' w''))
  (h26:Hid (∀ M' w',Cl M w M' w'->Calls Tryz.prog 26 #[] w' fun e w''=>∃ M'',e = .returned (.bool true)/\Cons M'' w''/\Quiet M' w' M'' w''))
  Q fr (hlen:fr.length=188) (g:FV fr [(3,ptr X),(12,ptr Z),(13,ptr Z')])
  (hC:∀ M' w' l',l'.length=188->Cl M w M' w'->FV l' [(6,.bool true)]->Q .ret ⟨l'.toArray,[]⟩ w') :
  Code.wp Tryz.prog qRC Q ⟨fr.toArray,[]⟩ w:=by
 obtain ⟨y,L,G,rfl⟩:=D;obtain ⟨N,K,J,rfl⟩:=H;obtain ⟨z,C,O,rfl⟩:=v;obtain ⟨A,u,I,rfl⟩:=E;have hbx:Hid (∀ w',Below w.heap.size w w'->w'.cell? ⟨X,0,none⟩=some (.slice xs ls ps)/\w'.cell? ⟨X,1,none⟩=some (.string ⟨sq.toArray⟩)/\w'.cell? ⟨X,2,none⟩=some (.string ⟨sm.toArray⟩)/\w'.cell? ⟨Z,0,none⟩=some (.slice y L G)/\w'.cell? ⟨Z,1,none⟩=some (.slice N K J)/\w'.cell? ⟨Z',0,none⟩=some (.slice z C O)/\w'.cell? ⟨Z',1,none⟩=some (.slice A u I)):=by
  intro w' B;have hl:∀ b o,w.heap[b]?=some o->w'.heap[b]?=some o:=fun b o h=>(B.block b (Array.getElem?_eq_some_iff.1 h).1).trans h;exact ⟨by rw [cell_of_row w' X 0 _ _ _ (hl _ _ hX)];rfl,by rw [cell_of_row w' X 1 _ _ _ (hl _ _ hX)];rfl,by rw [cell_of_row w' X 2 _ _ _ (hl _ _ hX)];rfl,by rw [cell_of_row w' Z 0 _ _ _ (hl _ _ hZ)];rfl,by rw [cell_of_row w' Z 1 _ _ _ (hl _ _ hZ)];rfl,by rw [cell_of_row w' Z' 0 _ _ _ (hl _ _ hZ')];rfl,by rw [cell_of_row w' Z' 1 _ _ _ (hl _ _ hZ')];rfl⟩
 obtain ⟨U,T,V,S,R,k5,P⟩:=hbx.out w (Below.refl _ _);replace hC:=(id hC:Hid _);have cl0:Hid (Cl M w M w):=⟨Below.refl _ _,fun _ _ _ h=>h,fun _ _ _=>rfl,hc⟩;clear hX hZ hZ' hc;revert g;refine tZ 188 (fun fr=>FV fr _->Code.wp Tryz.prog _ _ ⟨fr.toArray,[]⟩ _) ?_ fr hlen;simp only [AllL];iterate 188 intro _
 rintro ⟨g3,g12,g13,_⟩;simp [at_] at g3 g12 g13;subst g3 g12 g13;unfold qRC;simp [Tryz.f8,bZ,sndC];go_wp2_with (first | (go_at_call_of 27 (.int .i64 20:Value);refine (h20.out _ _ cl0.out).mono ?_;rintro r Y ⟨M1,rfl,hc1,hq1⟩;have cl1:Hid _:=cl0.out.q hq1 hc1;obtain ⟨s,j,k1_2,m,k1_4,l,k1_6⟩:=hbx.out _ cl1.out.b;clear hq1 hc1) | (go_at_call_of 27 (.int .i64 18:Value);refine (h18.out _ _ cl1.out).mono ?_;rintro r w2 ⟨W,rfl,hc2,hq2⟩;have cl2:Hid _:=cl1.out.q hq2 hc2;obtain ⟨p,t,k,i,f,k2_5,d⟩:=hbx.out _ cl2.out.b;clear hq2 hc2) | (go_at_call 26;refine (h26.out _ _ cl2.out).mono ?_;rintro r F ⟨x,rfl,hc3,hq3⟩;have cl3:Hid _:=cl2.out.q hq3 hc3));refine hC.out x F _ ?_ cl3.out ?_;· rfl
 exact ⟨rfl,trivial⟩
theorem Put.frm {B E n M M' w w'} (h:Put B E M w M' w') (c:n<=B) (d:n<=w.heap.size):From n M w M' w' :=
 ⟨h.mem,fun b a i=>(h.nx b (by omega) (by omega)).2 i,h.os,h.tape,h.output,h.size,fun b a=>(h.nx b (by omega) (by omega)).1⟩
theorem DB.put {B E e c M M' w w' b frags Z m n a s ys t l j o} (h:DB e c M w b frags Z m n a s ys t l j o) (p:Put B E M w M' w') (v:E<=e∨c<=B) (u:E<=Z∨Z<B):DB e c M' w' b frags Z m n a s ys t l j o:=by
 have r  := (Array.getElem?_eq_some_iff.1 h.box).1;have g:=h.le;have q:∀ k,e<=k->k<c->w'.heap[k]?=w.heap[k]?/\∀ i,M' k i=M k i:=fun k f d=>p.nx k (by omega) (by omega);exact ⟨h.ds.move p.mem (fun k f d=>(q k f d).1) (fun k f d=>(q k f d).2),Nat.le_trans g p.size,(p.nx Z r (by omega)).1.trans h.box,h.out,fun i=>((p.nx Z r (by omega)).2 i).trans (h.fz i),h.vfs⟩
theorem Cl.frm {n M M' w w'} (h:Cl M w M' w') (a:n<=w.heap.size):From n M w M' w':=aXQ h.b h.m h.o a
theorem Cl.box {M M' w w'} {b:Nat} {o} (h:Cl M w M' w') (a:w.heap[b]?=some o):w'.heap[b]?=some o:=(h.b.block b (Array.getElem?_eq_some_iff.1 a).1).trans a
theorem Put.box {B E M M' w w' b o} (h:Put B E M w M' w') (a:w.heap[b]?=some o) (c:b<B∨E<=b):w'.heap[b]?=some o:=(h.nx b (Array.getElem?_eq_some_iff.1 a).1 c).1.trans a
theorem From.box {n M M' w w' b o} (h:From n M w M' w') (c:w.heap[b]?=some o) (a:b<n):w'.heap[b]?=some o:=(h.below.block b a).trans c
theorem From.of_le {n m M M' w w'} (h:From m M w M' w') (c:n<=m):From n M w M' w' :=
 ⟨h.mem,fun b a i=>h.old b (by omega) i,h.below.os,h.below.tape,h.below.output,h.below.size,fun b a=>h.below.block b (by omega)⟩
theorem bEj {d x} (a:d.ops[0]?=some x) (h:fO d<=1048576):x.vars.length<1073741824/\(nmV x.vars [118]).length<1073741824:=by
 have g:=pQ d;have b:=fM (f:=bkOp) (List.mem_of_getElem? a);rw [lI] at b;have c:=dD (f:=dZ) (fun o=>by rw [fE];omega) x.vars;rw [aRo];have:(x.vars.map fun x=>x.name.length).sum<=bkSl dZ x.vars:=by
  have:∀ l,(l.map fun x=>x.name.length).sum<=sumL dZ l:=by
   intro l;induction l with
   | nil=>simp
   | cons y l e =>
    have:=fE y;simp [dM] at this;simp [sumL];omega
  have:=this x.vars;unfold bkSl;omega
 grind
abbrev docM (d:GDoc) (x:GOp) (a:List GVarDef):GDoc:=⟨bBE d.ops x a,d.frags⟩
def q0C:Code:=fstC (bZ Tryz.f8)
theorem bJ6:Tryz.f8.body=some (.seq q0C (.seq aXT (.seq q3C (.seq q4C (.seq q5C (.seq q9C (.seq q10C (.seq q11C (.seq q13C (.seq q15C (.seq q16C (.seq q17C (.seq q18C qRC))))))))))))):=by kernel_rfl
structure Law (s:GSchema) (d:GDoc) (x:GOp) (u:List Str) (hb:Bool):Prop where
 uses:pR d x.sels=some u
 has:xJ u (nmV x.vars [118])=some hb
 r18:hb=false->mV s (docM d x (x.vars++[varY (nmV x.vars [118])])) 18=some true
 r19:hb=false->mV s (docM d x (x.vars++[varY (nmV x.vars [118])])) 19=some true
 r20:hb=false->mV s (docM d x (x.vars++[varY (nmV x.vars [118])])) 20=some true
 r21:hb=false->mV s (docM d x (x.vars++[varY (nmV x.vars [118])])) 21=some false
 nil:x.vars.length=0->u.length=0
 less:∀ k,k<x.vars.length->mV s (docM d x (x.vars.take k++x.vars.drop (k+1))) 20=some false
 twice:∀ (k:Nat) (y:GVarDef),x.vars[k]?=some y->mV s (docM d x (x.vars++[y])) 18=some false
theorem bEk s d at' b9 W U {M w} xs G ps a b p q r (hc:Cons M w) (hd:fO d<=1048576)
  (hS:Rv M noB (pvS s) (.agg #[.slice xs G ps,.string ⟨s.query.toArray⟩,.string ⟨s.mutation.toArray⟩])) (hD:Rv M noB (pvD d) (.agg #[.slice a d.ops.length p,.slice b q r])) (V:Rv M noB (.slice (List.map aR d.ops) [] false) (.slice a d.ops.length p)) (hrb:Rv M noB (.slice (List.map aH d.frags) [] false) (.slice b q r))
  (h9:Hid (∀ M' w',Cons M' w'->(∀ b i v,M b i=some v->M' b i=some v)->Calls Tryz.prog 25 #[.agg #[.slice xs G ps,.string ⟨s.query.toArray⟩,.string ⟨s.mutation.toArray⟩],.agg #[.slice a d.ops.length p,.slice b q r]] w' fun e A=>∃ C,e = .returned (.bool b9)/\Cons C A/\Quiet M' w' C A))
  (h10:Hid (∀ M' w',Cons M' w'->(∀ b i v,M b i=some v->M' b i=some v)->Calls Tryz.prog 10 #[.agg #[.slice xs G ps,.string ⟨s.query.toArray⟩,.string ⟨s.mutation.toArray⟩]] w' fun e A=>∃ C,e = .returned (.int .i64 W)/\Cons C A/\Quiet M' w' C A))
  (h11:Hid (∀ M' w',Cons M' w'->(∀ b i v,M b i=some v->M' b i=some v)->Calls Tryz.prog 11 #[.agg #[.slice xs G ps,.string ⟨s.query.toArray⟩,.string ⟨s.mutation.toArray⟩],.agg #[.slice a d.ops.length p,.slice b q r],.int .i64 22] w' fun e A=>∃ C,e = .returned (.bool U)/\Cons C A/\Quiet M' w' C A))
  (P:b9=true->W=0->U=true->∀ x,d.ops[0]?=some x->∃ u hb,Law s d x u hb) :
  Calls Tryz.prog 8 #[.agg #[.slice xs G ps,.string ⟨s.query.toArray⟩,.string ⟨s.mutation.toArray⟩],.agg #[.slice a d.ops.length p,.slice b q r],.int .i64 at'] w fun e w'=>∃ v M',e = .returned v/\Rv M' noB (.bool true) v/\Cons M' w'/\Quiet M w M' w':=by
 have X:Below w.heap.size w ((w.alloc (.cells #[.slice xs G ps,.string ⟨s.query.toArray⟩,.string ⟨s.mutation.toArray⟩] 24)).alloc (.cells #[.slice a d.ops.length p,.slice b q r] 28)):=((Below.refl _ _).alloc (Nat.le_refl _) _).alloc (by simp) _;have hX:((w.alloc (.cells #[.slice xs G ps,.string ⟨s.query.toArray⟩,.string ⟨s.mutation.toArray⟩] 24)).alloc (.cells #[.slice a d.ops.length p,.slice b q r] 28)).heap[w.heap.size]?=some (.cells #[.slice xs G ps,.string ⟨s.query.toArray⟩,.string ⟨s.mutation.toArray⟩] 24 (0,0)):=bJZ _ (heap_alloc_new w _);have hY:((w.alloc (.cells #[.slice xs G ps,.string ⟨s.query.toArray⟩,.string ⟨s.mutation.toArray⟩] 24)).alloc (.cells #[.slice a d.ops.length p,.slice b q r] 28)).heap[w.heap.size+1]?=some (.cells #[.slice a d.ops.length p,.slice b q r] 28 (0,0)):=bIt w _ _;have hc1:=vC hc X;have S:From w.heap.size M w M _:=From.of_below X;have hsz1:w.heap.size+2<=((w.alloc (.cells #[.slice xs G ps,.string ⟨s.query.toArray⟩,.string ⟨s.mutation.toArray⟩] 24)).alloc (.cells #[.slice a d.ops.length p,.slice b q r] 28)).heap.size:=by simp
 obtain ⟨oa,cap,ea,_,hoa,K⟩:=aRn hc V;obtain ⟨rfl,rfl⟩:a=oa/\p=cap:=by injection ea with e1 e2 e3;exact ⟨e1,e3⟩
 refine calls_of_wp Tryz.func8 bJ6 ?_;simp only [Tryz.ntmps8,List.size_toArray,List.length_cons,List.length_nil,Nat.reduceAdd,Nat.reduceSub,Array.replicate_succ,
   Array.replicate_zero]
 generalize hQ:bodyPost Tryz.prog Tryz.f8 _=Q;replace hQ:=(id hQ:Hid _);have fin:Hid (∀ z J fr,Cons J z->From w.heap.size M w J z->at_ fr 6 = .bool true->Q .ret ⟨fr.toArray,[]⟩ z):=by
  intro z J fr k1 H k3;rw [<- hQ.out];refine bodyPost_ret (results_tmp (by rfl) _ _ _) rfl ?_;exact ⟨_,J,rfl,by rw [aUK,k3];exact .bool true,k1,H.mem,fun b hb=>⟨H.below.block b hb,fun i=>H.old b hb i⟩,H.below.size,H.below.os,H.below.tape,H.below.output⟩
 clear hQ;have rest:Hid (b9=true->d.ops.length≠0->W=0->U=true->∀ z J l,l.length=188->Cons J z->From w.heap.size M w J z->w.heap.size+2<=z.heap.size->z.heap[w.heap.size]?=some (.cells #[.slice xs G ps,.string ⟨s.query.toArray⟩,.string ⟨s.mutation.toArray⟩] 24 (0,0))->z.heap[w.heap.size+1]?=some (.cells #[.slice a d.ops.length p,.slice b q r] 28 (0,0))->at_ l 2 = .int .i64 at'->at_ l 3=ptr w.heap.size->at_ l 4=ptr (w.heap.size+1)->Code.wp Tryz.prog (.seq q3C (.seq q4C (.seq q5C (.seq q9C (.seq q10C (.seq q11C (.seq q13C (.seq q15C (.seq q16C (.seq q17C (.seq q18C qRC))))))))))) Q ⟨l.toArray,[]⟩ z):=by
  intro e1 e2 e3 e4 z J l t hc2 F2 hsz2 hX2 hY2 s2 s3 s4;have f:0<d.ops.length:=by omega
  obtain ⟨x,hx⟩:∃ x,d.ops[0]?=some x:=⟨_,List.getElem?_eq_getElem f⟩;obtain ⟨u,hb,L⟩:=P e1 e3 e4 x hx;obtain ⟨blk,off,ea2⟩:=hoa (by intro e;rw [e] at hx;simp at hx);subst ea2;obtain ⟨v2,v3,v4,O,D⟩:=K blk off rfl 0 x hx;have D:∀ j v,(tF x v2 v3 v4)[j]?=some v->M blk (off+j)=some v:=fun j v h=>by have:=D j v h;rwa [show off+0*5+j=off+j by omega] at this
  obtain ⟨N,hnm⟩:=bEj hx hd;have hXw:w.heap.size<z.heap.size:=by omega
  have hYw:w.heap.size+1<z.heap.size:=by omega
  clear P K hoa ea;refine wp_seq ?_;refine cpA d w.heap.size (w.heap.size+1) J z _ _ _ _ _ _ hd f hc2 (V.mono F2.mem (fun _ _ _ h=>h)) (hrb.mono F2.mem (fun _ _ _ h=>h)) hY2 _ l t _ s2 s3 s4 (fun M3 w3 B E Z gA n capA vf ys zs u2 u3 u4 l t D3 hc3 f3 hB hZ s2 s3 s4 s7 => ?_);show Code.wp _ _ _ _ _;have F3:From w.heap.size M w M3 w3:=F2.trans (From.of_le f3 (by omega));have hX3:=f3.box hX2 hXw;have hY3:=f3.box hY2 hYw;have hz3:=f3.below.size;refine bJ0 M3 w3 none _ blk off _ _ _ _ x v2 v3 v4 _ hc3 hY3 f (fun j v h=>F3.mem _ _ _ (D j v h)) (O.r2.mono F3.mem (fun _ _ _ h=>h)) hnm N Q l t _ _ _ ⟨s2,s3,s4,s7,trivial⟩ (fun l t g => ?_);refine wp_seq ?_;refine putA (nmV x.vars [118]) D3 hx N hc3 _ l t _ _ _ g (fun M4 Y l t P4 F g => ?_);show Code.wp _ _ _ _ _;have F4  := F3.trans (P4.frm (by omega) (by omega));have hX4:=P4.box hX3 (.inl (by omega));have hY4:=P4.box hY3 (.inl (by omega));have hZ4:=P4.box D3.box D3.out.symm;have hvf:=D3.vfs;clear D3 hX3 hY3;refine wp_seq ?_;refine bJ1 d u M4 Y none _ blk off _ _ _ _ x v2 v3 v4 _ P4.cons hY4 f (fun j v h=>F4.mem _ _ _ (D j v h)) (hD.mono F4.mem (fun _ _ _ h=>h)) (O.r4.mono F4.mem (fun _ _ _ h=>h)) L.uses _ l t _ _ _ _ g (fun M5 w5 ua un up l t hc5 q5 hun rv5 g => ?_);show Code.wp _ _ _ _ _;have hz4:=P4.size;have F5  := F4.trans ((From.of_below ((Below.refl w.heap.size Y).drew)).trans (From.of_quiet q5 (show w.heap.size<=Y.drew.heap.size by show w.heap.size<=Y.heap.size;omega)));have hX5:=at_q q5 (show Y.drew.heap[w.heap.size]?=_ from hX4);have hY5:=at_q q5 (show Y.drew.heap[w.heap.size+1]?=_ from hY4);have hZ5:=at_q q5 (show Y.drew.heap[Z]?=_ from hZ4);have hz5:Y.heap.size<=w5.heap.size:=q5.size;have F:=F.mono q5.mem (fun _ _ _ h=>h);obtain ⟨g2,g3,g4,g7,g8,g10,_⟩:=g;have R:=hS.mono F5.mem (fun _ _ _ h=>h);refine wp_seq ?_;refine askA w.heap.size Z xs G ps s.query s.mutation _ _ ua un up (nmV x.vars [118]) hb hc5 hX5 hZ5 ⟨_,_,_,rfl⟩ hvf (fun M' w' o=>bEd u _ hb L.has _ o.c (rv5.mono o.m (fun _ _ _ h=>h))) (fun e M' w' o=>vD s _ 18 true (L.r18 e) _ _ o.c (R.mono o.m (fun _ _ _ h=>h)) (F.mono o.m (fun _ _ _ h=>h))) (fun e M' w' o=>vD s _ 19 true (L.r19 e) _ _ o.c (R.mono o.m (fun _ _ _ h=>h)) (F.mono o.m (fun _ _ _ h=>h))) (fun e M' w' o=>vD s _ 20 true (L.r20 e) _ _ o.c (R.mono o.m (fun _ _ _ h=>h)) (F.mono o.m (fun _ _ _ h=>h))) (fun e M' w' o=>vD s _ 21 false (L.r21 e) _ _ o.c (R.mono o.m (fun _ _ _ h=>h)) (F.mono o.m (fun _ _ _ h=>h))) _ l t _ _ ⟨g2,g3,g4,g7,g8,g10,trivial⟩ (fun M6 w6 l t I g => ?_);show Code.wp _ _ _ _ _;have F6  := F5.trans (I.frm (by omega));have hX6:=I.box hX5;have hY6:=I.box hY5;have hz6:=I.b.size;have hc6:=I.c;clear R F rv5 hX5 hY5 hZ5 hX4 hY4 hZ4 P4 I;refine lenL M6 w6 none _ blk off _ _ _ _ x v2 v3 v4 _ at' ua un up hc6 hY6 f (fun j v h=>F6.mem _ _ _ (D j v h)) (O.r2.mono F6.mem (fun _ _ _ h=>h)) N (fun e=>by rw [hun];exact L.nil e) Q l t _ g (fun M7 w7 l t cl7 g => ?_) (fun k l hk t g => ?_);· exact fin.out w7 M7 l cl7.c (F6.trans (cl7.frm (by omega))) g.1
  refine wp_seq ?_;refine bJ4 d _ M6 w6 _ _ _ _ _ _ hd f hc6 (V.mono F6.mem (fun _ _ _ h=>h)) (hrb.mono F6.mem (fun _ _ _ h=>h)) hY6 _ l t _ _ g ?_;intro M7 w7 B0 E0 B1 E1 Z0 gA0 n0 cA0 vf0 ys0 zs0 u20 u30 u40 Z1 gA1 n1 cA1 vf1 ys1 zs1 u21 u31 u41 l hc7 f7 hB0 hB1 hZ0 hZ1 o1 o2 o3 D0 D1 t g;show Code.wp _ _ _ _ _;have F7  := F6.trans (From.of_le f7 (by omega));have hX7:=f7.box hX6 (by omega);have hY7:=f7.box hY6 (by omega);have hz7:=f7.below.size;refine wp_seq ?_;refine putB D0 hx N hc7 blk off _ _ _ _ _ v2 v3 v4 _ k hY7 f (fun j v h=>F7.mem _ _ _ (D j v h)) (O.r2.mono F7.mem (fun _ _ _ h=>h)) hk _ l t _ _ g (fun M8 w8 l t P8 rv8 g => ?_);show Code.wp _ _ _ _ _;have F8  := F7.trans (P8.frm (by omega) (by omega));have hX8:=P8.box hX7 (.inl (by omega));have hY8:=P8.box hY7 (.inl (by omega));have hZ8:=P8.box D0.box D0.out.symm;have D1':=D1.put P8 o1 o2;have hz8:=P8.size;have hvf0:=D0.vfs;have hvf1:=D1.vfs;clear D0 D1 hX7 hY7;obtain ⟨y,hy⟩:∃ y,x.vars[k]?=some y:=⟨_,List.getElem?_eq_getElem hk⟩;refine wp_seq ?_;refine putC D1' hx N P8.cons blk off _ _ _ _ _ v2 v3 v4 _ k hY8 f (fun j v h=>F8.mem _ _ _ (D j v h)) (O.r2.mono F8.mem (fun _ _ _ h=>h)) hy (by omega) _ l t _ _ g (fun M9 w9 l t P9 rv9 g => ?_);show Code.wp _ _ _ _ _;have F9  := F8.trans (P9.frm (by omega) (by omega));have hX9:=P9.box hX8 (.inl (by omega));have hZ9:=P9.box hZ8 o3.symm;have hZ9':=P9.box D1'.box D1'.out.symm;have rv8:=rv8.mono P9.mem (fun _ _ _ h=>h);have hS9:=hS.mono F9.mem (fun _ _ _ h=>h);obtain ⟨g3,_,g12,g13,_⟩:=g;refine bJ5 w.heap.size Z0 Z1 xs G ps s.query s.mutation _ _ _ _ P9.cons hX9 hZ9 hZ9' ⟨_,_,_,rfl⟩ hvf0 ⟨_,_,_,rfl⟩ hvf1 (fun M' w' o=>vD s _ 20 false (L.less k hk) _ _ o.c (hS9.mono o.m (fun _ _ _ h=>h)) (rv8.mono o.m (fun _ _ _ h=>h))) (fun M' w' o=>vD s _ 18 false (L.twice k y hy) _ _ o.c (hS9.mono o.m (fun _ _ _ h=>h)) (rv9.mono o.m (fun _ _ _ h=>h))) (fun M' w' o=>rS o.c) Q l t ⟨g3,g12,g13,trivial⟩ (fun M10 w10 l t cl10 g => ?_);exact fin.out w10 M10 l cl10.c (F9.trans (cl10.frm (by have:=P9.size;omega))) g.1
 replace hX:=(id hX:Hid _);replace hY:=(id hY:Hid _);replace X:=(id X:Hid _);replace hc1:=(id hc1:Hid _);replace S:=(id S:Hid _);clear P hc K hoa ea hS hD V hrb;generalize (.seq q3C (.seq q4C (.seq q5C (.seq q9C (.seq q10C (.seq q11C (.seq q13C (.seq q15C (.seq q16C (.seq q17C (.seq q18C qRC)))))))))):Code)=T at rest ⊢;unfold q0C;simp [Tryz.f8,bZ,fstC];go_wp2;rename_i K0 hK0;refine bJv w.heap.size (w.heap.size+1) xs G ps s.query s.mutation a b d.ops.length p q r b9 W U hc1.out hX.out hY.out h9 h10 h11 _ _ rfl _ rfl rfl rfl (fun z J fr hfl k1 H k3 k4 s6 => ?_) (fun e1 e2 e3 e4 z J fr hfl k1 H k3 k4 s2 s3 s4 => ?_);· exact fin.out z J fr k1 (S.out.trans (aXQ H k3 k4 (by omega))) s6
 refine hK0 _ _ ?_;exact rest.out e1 e2 e3 e4 z J fr hfl k1 (S.out.trans (aXQ H k3 k4 (by omega))) (Nat.le_trans hsz1 H.size) ((H.block _ (Array.getElem?_eq_some_iff.1 hX.out).1).trans hX.out) ((H.block _ (Array.getElem?_eq_some_iff.1 hY.out).1).trans hY.out) s2 s3 s4
open Go Go.Ev Go.Ev.PV
theorem bGD o1 o2 fr l (o:fO ⟨o1,fr⟩+aV l<200000000) (s:fO ⟨o2,fr⟩+aV l<200000000):oZ ⟨o1,fr⟩ l=oZ ⟨o2,fr⟩ l:=by
 obtain ⟨i,k,hr1,_,d,hm1,hin1,hcl1,hmin1⟩:=aBo ⟨o1,fr⟩ l (by omega);obtain ⟨g,m,f,_,b,hm2,hin2,hcl2,hmin2⟩:=aBo ⟨o2,fr⟩ l (by omega);obtain ⟨q,hu1,hR1,a⟩:=aIm ⟨o1,fr⟩ l i hr1 d (fun n hn=>((hm1 n).1 hn).2) (by omega);obtain ⟨r,c,e,hx2⟩:=aIm ⟨o2,fr⟩ l g f b (fun n hn=>((hm2 n).1 hn).2) (by omega);have p:∀ n,n∈i↔n∈g:=by
  intro n;rw [hm1,hm2];exact ⟨fun h=>⟨hmin1 (· ∈ m) hin2 hcl2 n h.1,h.2⟩,fun h=>⟨hmin2 (· ∈ k) hin1 hcl1 n h.1,h.2⟩⟩
 have j  := aQ4 _ _ hR1 e fun x=>by
  rw [a,hx2];constructor
  ·rintro (h | ⟨n,hn,h⟩);· exact .inl h
   exact .inr ⟨n,by grind,h⟩
  rintro (h | ⟨n,hn,h⟩);· exact .inl h
  exact .inr ⟨n,by grind,h⟩
 unfold oZ;rw [hu1,c,j]
theorem aMI x:∀ l a,dupA a (l++[x])=(dupA a l||(a++l).contains x)
 | [],a=>by simp [dupA]
 | y::l,a=>by
  simp [dupA,aMI x l (a++[y]),Bool.or_assoc]
theorem aOT:∀ l a,dupA a l=false->l.Nodup/\∀ x∈l,x∉a
 | [],a,_=>⟨List.nodup_nil,fun x h=>by cases h⟩
 | y::l,a,h=>by
  simp [dupA] at h;obtain ⟨d,c⟩:=aOT l _ h.2;refine ⟨by grind,fun x b => ?_⟩;grind
theorem aZE {α} (f:α->Nat):∀ l k,sumL f (l.take k++l.drop (k+1))<=sumL f l
 | [],k=>by simp
 | x::l,0=>by simp [sumL]
 | x::l,k+1=>by have:=aZE f l k;simp [sumL];omega
theorem aRp {α} (f:α->Nat) y:∀ l,sumL f (l++[y])=sumL f l+f y
 | []=>by simp [sumL]
 | x::l=>by simp [sumL,aRp f y l];omega
theorem aMJ:∀ (l:List Nat) x,x∈l->x<=l.sum
 | y::l,x,h=>by
  rcases List.mem_cons.1 h with rfl | h;· simp
  have:=aMJ l x h;grind
theorem aZF {d:GDoc} {x} (a:d.ops[0]?=some x):∃ r,d.ops=x::r:=by
 cases h:d.ops with
 | nil=>grind
 | cons y r=>grind
theorem aAx s d x (y:SOk s) (D:fO d<=1048576) (p:d.ops[0]?=some x) n (l:18<=n/\n<=21) (C:d.ops.all (opOk s d n)=true) a (hv:sumL dZ a<=4000000) :
  mV s (docM d x a) n=some (opOk s d n ⟨x.kind,x.name,a,x.dirs,x.sels⟩):=by
 obtain ⟨r,j⟩:=aZF p;have i:=pQ d;have u:=lI x;have v:=lI ⟨x.kind,x.name,a,x.dirs,x.sels⟩;have h:=pQ (docM d x a);have b:(docM d x a).ops=⟨x.kind,x.name,a,x.dirs,x.sels⟩::r:=by show d.ops.set 0 _=_;rw [j];rfl
 have g:(docM d x a).frags=d.frags:=rfl;rw [b,g] at h;rw [j] at i;simp [bkSl,sumL] at i u v h;have t  := by
  have:=dD (f:=dZ) (fun o=>by rw [fE];omega) a;simp [bkSl] at this;omega
 have k  := by omega
 have e:∀ o∈(docM d x a).ops,aV o.sels<=2000000/\o.vars.length<=4000000:=by
  intro o c;rw [b] at c;rcases List.mem_cons.1 c with rfl | c;· have:=cH x.sels;exact ⟨by show aV x.sels<=_;omega,by show a.length<=_;omega⟩
  have B:=fR bkOp c;have z:=lI o;have q:=cH o.sels;have m:=dD (f:=dZ) (fun o=>by rw [fE];omega) o.vars;simp [bkSl] at z q m;omega
 rw [aUl s (docM d x a) n l (fun o c=>⟨y,by have:=e o c;omega,by have:=e o c;omega⟩) (by
  rw [b];show (r.length+1)<_;have:=dD (f:=bkOp) (fun o=>by rw [lI];omega) r;simp [bkSl] at this;omega)]
 have A:∀ o∈(docM d x a).ops,opOk s (docM d x a) n o=opOk s d n o:=by
  intro o c;have:=e o c;have w  := bGD (bBE d.ops x a) d.ops d.frags o.sels (by show fO (docM d x a)+_<_;omega) (by show fO d+_<_;omega);unfold opOk;rw [w]
 grind
theorem bJJ s d x (hs:SOk s) (hd:fO d<=1048576) (hx:d.ops[0]?=some x) (h18:d.ops.all (opOk s d 18)=true) (h19:d.ops.all (opOk s d 19)=true) (h20:d.ops.all (opOk s d 20)=true) (h21:d.ops.all (opOk s d 21)=true):∃ u hb,Law s d x u hb:=by
 obtain ⟨r,p⟩:=aZF hx;have e1:=pQ d;have w:=lI x;rw [p] at e1;simp only [bkSl,sumL] at e1 w;have G:=cH x.sels;obtain ⟨z,I,D⟩:=aRc d x.sels (by omega);have q:∀ n,d.ops.all (opOk s d n)=true->opOk s d n x=true:=fun n h=>by grind
 have k18:=q 18 h18;have k19:=q 19 h19;have k20:=q 20 h20;have k21:=q 21 h21;simp only [opOk] at k18 k19 k20 k21;have k18:dupA [] (bW x.vars)=false:=by simpa using k18
 have k19:(x.vars.all fun v=>tA s v.t.name [0,4,5])=true:=k19;have k20:((oZ d x.sels).all fun y=>(bW x.vars).contains y)=true:=k20;have k21:((bW x.vars).all fun y=>(oZ d x.sels).contains y)=true:=k21;obtain ⟨a,_⟩:=aOT _ _ k18;have o:(nmV x.vars [118]).length=1+(x.vars.map fun x=>x.name.length).sum:=by rw [aRo];rfl
 have B:(x.vars.map fun x=>x.name.length).sum<=sumL dZ x.vars:=by
  generalize x.vars=l;induction l with
  | nil=>simp
  | cons y l E =>
   have:=fE y;simp only [dM] at this;simp only [List.map_cons,List.sum_cons,sumL];omega
 have hnew:nmV x.vars [118]∉bW x.vars:=by
  intro hm;obtain ⟨v,hv,A⟩:=List.mem_map.1 hm;have:v.name.length<=(x.vars.map fun x=>x.name.length).sum:=aMJ _ _ (by grind);rw [A] at this;omega
 have f:sumL dZ x.vars<=1048576:=by omega
 have F:dZ (varY (nmV x.vars [118]))<=1100000:=by
  rw [fE];simp only [varY,dM,lH,bk1,cL,bkSl,sumL,List.length_cons,List.length_nil];omega
 have hput:sumL dZ (x.vars++[varY (nmV x.vars [118])])<=4000000:=by rw [aRp];omega
 have hvn:bW (x.vars++[varY (nmV x.vars [118])])=bW x.vars++[nmV x.vars [118]]:=by simp [bW,varY]
 refine ⟨oZ d x.sels,(oZ d x.sels).contains (nmV x.vars [118]),z,mY _ _ (by show (oZ d x.sels).length<_;omega),fun _ => ?_,fun _ => ?_,fun _ => ?_,fun hb => ?_,fun H => ?_,fun k j => ?_,fun k y b => ?_⟩;· rw [aAx s d x hs hd hx 18 (by decide) h18 _ hput];simp [opOk,hvn,aMI,k18];simpa using hnew
 ·rw [aAx s d x hs hd hx 19 (by decide) h19 _ hput];show some ((x.vars++[varY (nmV x.vars [118])]).all fun v=>tA s v.t.name [0,4,5])=_;rw [List.all_append,k19];rfl
 ·rw [aAx s d x hs hd hx 20 (by decide) h20 _ hput];show some ((oZ d x.sels).all fun y=>(bW (x.vars++[varY (nmV x.vars [118])])).contains y)=_;rw [hvn];refine congrArg some (List.all_eq_true.2 fun y b => ?_);have:=List.all_eq_true.1 k20 y b;simp [List.contains_iff_mem,List.mem_append] at this ⊢;exact .inl this
 ·rw [aAx s d x hs hd hx 21 (by decide) h21 _ hput];show some ((bW (x.vars++[varY (nmV x.vars [118])])).all fun y=>(oZ d x.sels).contains y)=_;rw [hvn,List.all_append,List.all_cons,hb];simp
 ·cases C:oZ d x.sels with
  | nil=>rfl
  | cons y l =>
   rw [C] at k20;have hvx:x.vars=[]:=by grind
   rw [hvx] at k20;simp [bW] at k20
 ·rw [aAx s d x hs hd hx 20 (by decide) h20 _ (by have:=aZE dZ x.vars k;omega)];show some ((oZ d x.sels).all fun y=>(bW (x.vars.take k++x.vars.drop (k+1))).contains y)=_;have hsp:bW x.vars=bW (x.vars.take k)++(x.vars[k].name::bW (x.vars.drop (k+1))):=by
   have e:x.vars=x.vars.take k++(x.vars[k]::x.vars.drop (k+1)):=by rw [<- List.drop_eq_getElem_cons j,List.take_append_drop]
   exact (congrArg bW e).trans (by simp only [bW,List.map_append,List.map_cons])
  have i  := by
   have:=List.all_eq_true.1 k21 x.vars[k].name (by rw [hsp];simp);simpa using this
  have m:x.vars[k].name∉bW (x.vars.take k++x.vars.drop (k+1)):=by
   rw [hsp,List.nodup_append] at a;obtain ⟨_,c,g⟩:=a;rw [List.nodup_cons] at c;intro hm;simp only [bW,List.map_append,List.mem_append] at hm;rcases hm with hm | hm;· exact g _ hm _ (by simp) rfl
   exact c.1 hm
  refine congrArg some ?_;rw [<- Bool.not_eq_true,List.all_eq_true];intro h;exact by grind
 have hm:y∈x.vars:=by grind
 rw [aAx s d x hs hd hx 18 (by decide) h18 _ (by rw [aRp];have:=fR dZ hm;omega)];have hvy:bW (x.vars++[y])=bW x.vars++[y.name]:=by simp [bW]
 have:(bW x.vars).contains y.name=true:=List.contains_iff_mem.2 (List.mem_map.2 ⟨y,hm,rfl⟩);simp only [opOk,hvy,aMI,k18,List.nil_append,this];rfl
open Go Go.Ev Go.Ev.PV Go.RowKit
theorem aRq {τ:Tb} {v:PV} (h:RsOk τ [⟨false,[.bool]⟩] v):∃ b,v = .bool b:=by
 unfold RsOk at h;cases h with | one h=>exact aQ7 h
theorem bIy (s:GSchema) (d:GDoc) (n:Int) (hs:jT s<=1048576) (hd:fO d<=1048576) (hn:0<=n/\n<=21):∃ b,yG s d n=some b:=by
 have hp:=aGY s
 have hq:=bDT d
 unfold Nr at hp hq
 obtain ⟨r,hr,ho⟩:=bIp [dG s,mU d,.int .i64 n] (.cons (aQ6 s hs) (.cons (bHU d hd) (.cons (.one (.rng hn)) .nil))) (.inr fun v hv=>by
  show _<=2097152
  rcases List.mem_cons.1 hv with rfl | hv
  ·omega
  ·rcases List.mem_cons.1 hv with rfl | hv
   ·omega
   ·rw [List.mem_singleton.1 hv];simp [bS])
 obtain ⟨b,rfl⟩:=aRq ho
 simp only [tys] at hr
 exact ⟨b,aMP (uI aE) hr⟩
theorem bBI (d:GDoc) (hd:fO d<=1048576):∃ b,aYI d=some b:=by
 have hq:=bDT d
 unfold Nr at hq
 obtain ⟨r,hr,ho⟩:=bF0 [mU d] (.cons (bHU d hd) .nil) (.inr fun v hv=>by rw [List.mem_singleton.1 hv];show _<=2097152;omega)
 obtain ⟨b,rfl⟩:=aRq ho
 simp only [tys] at hr
 exact ⟨b,aMP (uI aE) hr⟩
theorem bEl (s:GSchema) (d:GDoc) (hs:jT s<=1048576) (hd:fO d<=1048576):∀ (m k:Nat),22-k=m->k<=22->∃ t,aX (nM s d 22) (k:Int)=some t/\(t = .inl ()->∀ j:Nat,k<=j->j<22->yG s d j=some true):=by
 intro m
 induction m with
 | zero =>
  intro k hk hle
  have:k=22:=by omega
  subst this
  exact ⟨.inl (),cK rfl,fun _ j h1 h2=>by omega⟩
 | succ m ih =>
  intro k hk hle
  obtain ⟨b,hb⟩:=bIy s d k hs hd (by omega)
  have h1:decide ((k:Int)<22)=true:=by simp;omega
  have h3:IntKind.wrap .i64 ((k:Int)+1)=((k+1:Nat):Int):=by rw [wi (by omega)];omega
  cases b with
  | false=>exact ⟨.inr (),cK (by simp only [nM,h1,fC,hb,bV];rfl),fun h=>by cases h⟩
  | true =>
   obtain ⟨t,h4,h5⟩:=ih (k+1) (by omega) (by omega)
   refine ⟨t,?_,fun ht j h6 h7 => ?_⟩
   ·rw [aDp (s':=((k+1:Nat):Int)) (by simp only [nM,h1,fC,hb,bV,h3];rfl)]
    exact h4
   ·rcases Nat.lt_or_ge k j with h8 | h8
    ·exact h5 ht j h8 h7
    ·have:j=k:=by omega
     subst this;exact hb
theorem bIz (s:GSchema) (d:GDoc) (hs:jT s<=1048576) (hd:fO d<=1048576):∃ b,aVH s d 22=some b/\(b=true->∀ j:Nat,1<=j->j<22->yG s d j=some true):=by
 obtain ⟨r,hr⟩:=bBI d hd
 obtain ⟨t,h1,h2⟩:=bEl s d hs hd 21 1 rfl (by omega)
 have h1:aX (nM s d 22) 1=some t:=h1
 cases r with
 | false=>exact ⟨false,aE4 (by simp only [aAj,hr,bV];rfl),fun h=>by cases h⟩
 | true =>
  cases t with
  | inl u=>exact ⟨true,aE4 (by simp only [aAj,hr,bV,h1];rfl),fun _=>h2 rfl⟩
  | inr u=>exact ⟨false,aE4 (by simp only [aAj,hr,bV,h1];rfl),fun h=>by cases h⟩
theorem aRr {b c:Bool} (h:some b=some c):b=c:=by cases h;rfl
theorem bEm (s:GSchema) (h:jT s<=1048576):∃ b,aCp s=some b:=by
 obtain ⟨r,hr,ho⟩:=bGl [dG s] (.cons (aQ6 s h) .nil) (.inl rfl)
 obtain ⟨b,rfl⟩:=aRq ho
 simp only [tys] at hr
 exact ⟨b,aMP (uI aE) hr⟩
theorem bEn (d:GDoc) (h:fO d<=1048576):∃ b,aCq d=some b:=by
 obtain ⟨r,hr,ho⟩:=bGj [mU d] (.cons (bHU d h) .nil) (.inl rfl)
 obtain ⟨b,rfl⟩:=aRq ho
 simp only [tys] at hr
 exact ⟨b,aMP (uI aE) hr⟩
theorem bGE (s:GSchema) (h:jT s<=1048576):∃ b,aYE s=some b:=by
 have hp:=aGY s
 unfold Nr at hp
 obtain ⟨r,hr,ho⟩:=bGc [dG s] (.cons (aQ6 s h) .nil) (.inr fun v hv=>by rw [List.mem_singleton.1 hv];show _<=2097152;omega)
 have:∃ n,r = .int .i64 n:=by
  have ho:RsOk tτ [⟨false,[.int .i64]⟩] r:=ho
  unfold RsOk at ho;cases ho with | one h=>exact oU h
 obtain ⟨n,rfl⟩:=this
 simp only [tys] at hr
 exact ⟨n,aMP (uI iZ) hr⟩
theorem bGF (s:GSchema) (d:GDoc) (hs:jT s<=1048576) (hd:fO d<=1048576):∃ b,tM s d=some b:=by
 obtain ⟨b8,h8⟩:=bEm s hs
 obtain ⟨b7,h7⟩:=bEn d hd
 refine ⟨bif b8 then b7 else false,?_⟩
 apply aD9
 simp only [kU,h8,h7,bV]
 cases b8<;>rfl
theorem aD6 (s:GSchema) (d:GDoc) (h:SOk s) (hd:fO d<=1048576) (hk:∀ j:Nat,1<=j->j<22->yG s d j=some true) (n:Int) (hn:n=18∨n=19∨n=20∨n=21):d.ops.all (opOk s d n)=true:=by
 have e:=pQ d
 have hsl:∀ o∈d.ops,OOk s d o:=by
  intro o ho
  have h1:=fM (f:=bkOp) ho
  have h2:=lI o
  have h3:=cH o.sels
  have h4:=dD (f:=dZ) (fun o=>by rw [fE];omega) o.vars
  simp only [bkSl] at h1 h2 h4 e
  exact ⟨h,by omega,by omega⟩
 have hl:Sm d.ops:=by
  have:=dD (f:=bkOp) (fun o=>by rw [lI];omega) d.ops
  show d.ops.length<_
  omega
 have key:=bBr s d n (by omega) hsl hl
 rcases hn with rfl | rfl | rfl | rfl
 ·have k:yG s d 18=some (d.ops.all (opOk s d 18)):=aD3 .a s d _ key
  exact aRr (k.symm.trans (hk 18 (by omega) (by omega)))
 ·have k:yG s d 19=some (d.ops.all (opOk s d 19)):=aD3 .b s d _ key
  exact aRr (k.symm.trans (hk 19 (by omega) (by omega)))
 ·have k:yG s d 20=some (d.ops.all (opOk s d 20)):=aD3 .c s d _ key
  exact aRr (k.symm.trans (hk 20 (by omega) (by omega)))
 ·have k:yG s d 21=some (d.ops.all (opOk s d 21)):=aD3 .d s d _ key
  exact aRr (k.symm.trans (hk 21 (by omega) (by omega)))
theorem bIA (s:GSchema) (d:GDoc) (at':Int) (hs:jT s<=1048576) (hd:fO d<=1048576) {M:Mem} {w:World} (S D:Value) (hc:Cons M w) (hS:Rv M noB (pvS s) S) (hD:Rv M noB (pvD d) D) :
  Calls Tryz.prog 8 #[S,D,.int .i64 at'] w fun e w'=>∃ v M',e = .returned v/\Rv M' noB (.bool true) v/\Cons M' w'/\Quiet M w M' w':=by
 obtain ⟨bl,hl⟩:=bGF s d hs hd
 obtain ⟨c,hck⟩:=bGE s hs
 obtain ⟨k,hkp,hk2⟩:=bIz s d hs hd
 have hSk:SOk s:=⟨by have:=nK s;omega⟩
 have hq1:=hS
 obtain ⟨l1,rfl,hL⟩:=bG8 hS
 cases hL with | cons q0 hL =>
 cases hL with | cons q1 hL =>
 cases hL with | cons q2 hL =>
 cases hL
 have hq2:=hD
 obtain ⟨l2,rfl,hL⟩:=bG8 hD
 cases hL with | cons r0 hL =>
 cases hL with | cons r1 hL =>
 cases hL
 obtain ⟨xs,ls,ps,rfl⟩:=lW q0
 cases q1
 cases q2
 obtain ⟨oa,cap,rfl,_⟩:=aRn hc r0
 obtain ⟨b,q,r,rfl⟩:=lW r1
 have H9:Hid (∀ (M':Mem) (w':World),Cons M' w'->(∀ b i v,M b i=some v->M' b i=some v)->Calls Tryz.prog 25 _ w' _):=fun M' w' hc' hm=>aXR s d _ hl _ _ hc' (hq1.mono hm (fun _ _ _ h=>h)) (hq2.mono hm (fun _ _ _ h=>h))
 have H10:Hid (∀ (M':Mem) (w':World),Cons M' w'->(∀ b i v,M b i=some v->M' b i=some v)->Calls Tryz.prog 10 _ w' _):=fun M' w' hc' hm=>aXS s _ hck _ hc' (hq1.mono hm (fun _ _ _ h=>h))
 have H11:Hid (∀ (M':Mem) (w':World),Cons M' w'->(∀ b i v,M b i=some v->M' b i=some v)->Calls Tryz.prog 11 _ w' _):=fun M' w' hc' hm=>bBC s d _ hkp _ _ hc' (hq1.mono hm (fun _ _ _ h=>h)) (hq2.mono hm (fun _ _ _ h=>h))
 exact bEk s d at' _ c k xs ls ps oa b cap q r hc hd hq1 hq2 r0 r1 H9 H10 H11 (fun _ _ e3 x hx=>bJJ s d x hSk hd hx (aD6 s d hSk hd (hk2 e3) 18 (by omega)) (aD6 s d hSk hd (hk2 e3) 19 (by omega)) (aD6 s d hSk hd (hk2 e3) 20 (by omega)) (aD6 s d hSk hd (hk2 e3) 21 (by omega)))
theorem bGG:∀ a b:aYD,morA a=morA b->a=b:=by
 rintro ⟨s,d,b⟩ ⟨s',d',b'⟩ h
 have h1:dG s=dG s':=List.head_eq_of_cons_eq h
 have h2:=List.tail_eq_of_cons_eq h
 have h3:mU d=mU d':=List.head_eq_of_cons_eq h2
 have h4:=List.head_eq_of_cons_eq (List.tail_eq_of_cons_eq h2)
 cases aVC _ _ h1
 cases bE8 _ _ h3
 cases h4
 rfl
theorem bBJ (args:List PV) (x:aYD) (r:Bool) (ha:args.map PV.plain=morA x) (hown:∀ p∈args,∀ v,fL p v) (hsol:∀ p∈args,p.solid=true) (h:morF x=some r):bE2 Tryz.prog (fun _ _=>none) 8 args (morR r):=by
 unfold morF at h
 split at h
 ·rename_i hb
  cases h
  refine aMS hown hsol rfl rfl (fun vals w=>rfl) ?_
  intro M w vals hc hsz hrel
  have hlen:args.length=3:=by have:=congrArg List.length ha;simpa [morA] using this
  have hr:∀ (i:Nat) (p:PV),(morA x)[i]?=some p->Rv M noB p (vals.getD i undef):=by
   intro i p hp
   rw [<- ha,List.getElem?_map] at hp
   cases h2:args[i]? with
   | none=>rw [h2] at hp;simp at hp
   | some p' =>
    rw [h2] at hp
    simp only [Option.map_some,Option.some.injEq] at hp
    rw [<- hp]
    exact hrel i p' h2
  have e0:=hr 0 _ rfl
  have e1:=hr 1 _ rfl
  have e2:=hr 2 _ rfl
  have e2':vals.getD 2 undef = .int .i64 x.2.2:=by
   generalize vals.getD 2 undef=u at e2
   cases e2;rfl
  have hv:vals = #[vals.getD 0 undef,vals.getD 1 undef,.int .i64 x.2.2]:=by
   apply Array.ext
   ·simp [hsz,hlen]
   ·intro i h1 h2
    have hi:i<3:=by simpa using h2
    have hg:vals[i]=vals.getD i undef:=by simp [h1]
    rw [hg]
    match i,hi with
    | 0,_=>rfl
    | 1,_=>rfl
    | 2,_=>exact e2'
  rw [hv]
  exact bIA x.1 x.2.1 x.2.2 hb.1 hb.2 _ _ hc e0 e1
 ·simp at h
theorem aBH (s:GSchema) (d:GDoc) (b:Int) (hs:jT s<=1048576) (hd:fO d<=1048576):vU s d b=some true:=by
 unfold vU
 refine aMP (uI aE) ?_
 refine bGN (g:=aZ7 Tryz.prog (fun _ _=>none) 8 morA morR morF) rfl ?_
 have hF:morF (s,d,b)=some true:=by unfold morF;rw [if_pos ⟨hs,hd⟩]
 refine bE4 bGG (x:=(s,d,b)) rfl hF (bBJ _ (s,d,b) true rfl ?_ ?_ hF)
 ·intro p hp v
  apply aS
  simp only [List.mem_cons,List.not_mem_nil,or_false] at hp
  rcases hp with rfl | rfl | rfl<;>rfl
 ·intro p hp
  simp only [List.mem_cons,List.not_mem_nil,or_false] at hp
  rcases hp with rfl | rfl | rfl<;>rfl
open Go Go.Ev
open Go.ChangeShapes Go.WideShapes Go.ChangeAt Go.RowKit
theorem mixed:Tryz.prog.follows .mixedOrders=true:=by kernel_rfl
theorem bJ7 : (Tryz.prog.funcs.toList.all fun fn => !fn.body.isSome || !(fn.name == "runtime.NumGoroutine")) = true := by kernel_rfl
theorem laid:laidOutB Tryz.prog=true:=by kernel_rfl
theorem pok:POk Tryz.prog:=by
 refine ⟨mixed,fun f fn hf hb => ?_⟩
 have hm:fn∈Tryz.prog.funcs.toList:=by
  have:=Array.mem_of_getElem? hf
  simpa using this
 have:=List.all_eq_true.1 bJ7 fn hm
 rw [hb] at this
 simpa using this
theorem blOk {H:Type}:BlOk (H:=H) Rows.uptoBulk Rows.uptoBulkAll:=by
 refine ⟨fun l => ?_,fun s => ?_,?_,fun es sp => ?_,fun ps => ?_,fun d r => ?_⟩
 ·cases l<;>simp [Rows.uptoBulk]
 ·simp [Rows.uptoBulk]
 ·simp [Rows.uptoBulk]
 ·simp only [Rows.uptoBulk];omega
 ·simp only [Rows.uptoBulk];omega
 ·simp [Rows.uptoBulkAll]
theorem own:ownKnob Tryz.prog.godebug=none:=by kernel_rfl
end Go.Proofs.YtphmfillajagdaaGreat

import Derived.Test.YtphmfillajagdaaGreatEc
import Derived.LoopN
import Derived.Scope
import Derived.Below
import Derived.ChangeSame
import Derived.ChangeArms
import Derived.DataReads
import Derived.Carry
import Derived.RowKit
import Derived.OpenShut
import Derived.IntWalk
set_option linter.unusedVariables false
set_option linter.unusedSimpArgs false
set_option linter.unusedSimpArgs false
namespace Go.Ev
open PV
section cps
variable {P : Program} {mt : Hints} {nt : Nat} {O : Orc} {LP : bL → bL}
theorem nK {ops:Array Oper} {R:Type}:∀ (os:List Oper) (st:St) (K:St→Option R),iI P mt nt O ops os st K=bnd (iI P mt nt O ops os st some) K
 | [],st,K=>rfl
 | o::os,st,K=>by
  simp only [iI]
  rw [gN,gN (R:=St),bC]
  apply eN
  rintro ⟨b,s⟩
  cases b with
  | true =>
   simp only
   rw [eZ,eZ (R:=St),bC]
   apply eN
   intro e;exact nK os _ K
  | false=>exact nK os _ K
theorem aX6 {R S:Type} (e:Ex) (w:Option Nat) (x y:Option R) (g:R→Option S):bnd (exIs e w x y) g=exIs e w (bnd x g) (bnd y g):=by
 cases e<;>cases w<;>simp only [exIs]<;>split<;>rfl
theorem aHg {R:Type} (e:Ex) (s:St) (K:Ex→St→Option R):∀ l,pI e (fun e=>K e s) l=bnd (pI e (fun e=>some (e,s)) l) fun x=>K x.1 x.2
 | []=>rfl
 | w::l=>by simp only [pI];rw [aX6,aHg e s K l];rfl
theorem aA5 {R:Type} (kp:List Nat) (sh:List (Nat×Nat)) (st:St) (K:List PV→UP→Option R):pack kp sh st K=bnd (pack kp sh st fun s u=>some (s,u)) fun x=>K x.1 x.2:=by
 unfold pack
 split
 ·rfl
 ·rw [nJ];rfl
 ·rfl
theorem bS {R:Type}:∀ (c:Code) (st:St) (K:Ex→St→Option R),aR P mt nt O LP c st K=bnd (aR P mt nt O LP c st fun e s=>some (e,s)) fun x=>K x.1 x.2
 | .skip,st,K=>rfl
 | .label _,st,K=>rfl
 | .region id ops draw,st,K=>by
  cases draw with
  | false =>
   simp only [aR]
   rw [iX,iX (R:=Ex×St),bC]
   apply eN
   intro st
   rw [nK,nK (R:=Ex×St),bC];rfl
  | true =>
   simp only [aR]
   rw [iX,iX (R:=Ex×St),bC]
   apply eN
   intro st
   split
   ·rw [iW,iW (R:=Ex×St),bC]
    apply eN
    rintro ⟨l,s⟩
    simp only
    split<;>rfl
   ·rfl
 | .seq a b,st,K=>by
  simp only [aR]
  conv=>lhs;rw [bS]
  conv=>rhs;rw [bS,bC]
  apply eN
  rintro ⟨e,s⟩
  cases e with
  | nrm=>exact bS b s K
  | brk i=>rfl
  | ret=>rfl
 | .cond c a b,st,K=>by
  simp only [aR]
  rw [aV4]
  apply aV5
  intro t
  cases t with
  | true=>exact bS a _ K
  | false=>exact bS b _ K
 | .block id b,st,K=>by
  simp only [aR]
  conv=>lhs;rw [bS]
  conv=>rhs;rw [bS,bC]
  apply eN
  rintro ⟨e,s⟩
  cases e with
  | nrm=>rfl
  | brk i=>simp only;split<;>rfl
  | ret=>rfl
 | .scope b,st,K=>bS b st K
 | .exit id,st,K=>rfl
 | .ret,st,K=>rfl
 | .loop b,st,K=>by
  simp only [aR]
  rw [iX,iX (R:=Ex×St),bC]
  apply eN
  intro st
  rw [aA5,aA5 (R:=Ex×St),bC]
  apply eN
  rintro ⟨s,u⟩
  simp only [bC]
  apply eN
  intro r
  exact aHg r.1 (cH (yM mt b) (nF st.bx) r.2.1 r.2.2) K _
 | .rangeFunc _ _ _ _,st,K=>rfl
 | .goto _,st,K=>rfl
 | .refuse _,st,K=>rfl
end cps
def toX:Ex→Exit
 | .nrm => .normal
 | .brk i => .exit i
 | .ret => .ret
section
variable {P : Program} {mt : Hints} {O : Orc} {ops : Array Oper}
theorem aM1 {base:Base} (hO:aKD P base.g O):∀ (os:List Oper) (i:Nat) (st st':St) (a:Act) (w:World) (M:Mem) (B:BM),(∀ k,os[k]?=ops[i+k]?) →
  iI P mt a.tmps.size O ops os st some=some st'→SR base M B st a.tmps w →
  ∀ Q:Exit→Act→World→Prop,(∀ a' w',Rch base M B st a.tmps w st' a'.tmps w'→a'.defers=a.defers→Q .normal a' w')→wpOps P ops Q ((List.range os.length).map (i + ·)) a w
 | [],i,st,st',a,w,M,B,_,h,hsr,Q,hQ=>by
  cases h
  exact hQ a w (Rch.refl hsr) rfl
 | o::os,i,st,st',a,w,M,B,hos,h,hsr,Q,hQ=>by
  simp only [iI] at h
  obtain ⟨b,fr',hg,hfr,h⟩:=aA4 _ _ _ _ _ h
  have hoi:ops[i]?=some o:=by have:=hos 0;simpa using this.symm
  have heq:Eqv st {st with fr:=fr'}:=⟨fun j=>(hfr j).symm,fun _ _=>rfl,rfl⟩
  have hsr':SR base M B {st with fr:=fr'} a.tmps w:=hsr.eqv heq hsr.box.nodup
  have hrng:(List.range (o::os).length).map (i + ·)=i::(List.range os.length).map ((i+1) + ·):=by
   rw [List.length_cons,List.range_succ_eq_map]
   simp [Function.comp_def]
   intro k _;omega
  rw [hrng,wpOps_cons]
  unfold wpOp
  rw [hoi]
  simp only
  rw [aHd hsr _ _ _ hg]
  have step:∀ (e:Eff) (a1:Act) (w1:World),a1.defers=a.defers→Rch base M B {st with fr:=fr'} a.tmps w (e.app {st with fr:=fr'}) a1.tmps w1→iI P mt a.tmps.size O ops os (e.app {st with fr:=fr'}) some=some st' →
    wpOps P ops Q ((List.range os.length).map ((i+1) + ·)) a1 w1:=by
   intro e a1 w1 hd hr hev
   obtain ⟨r1,M',B',r2,r3⟩:=hr
   rw [← r1] at hev
   refine aM1 hO os (i+1) _ st' a1 w1 M' B' (fun k => ?_) hev r2 Q ?_
   ·have:=hos (k+1)
    rw [show i+1+k=i+(k+1) by omega,← this];simp
   ·intro a' w' h2 hd'
    obtain ⟨q1,M3,B3,q2,q3⟩:=h2
    exact hQ a' w' (Rch.of_eqv ⟨q1.trans r1,M3,B3,q2,r3.trans q3⟩ heq hsr.box.nodup hsr'.box.nodup) (hd'.trans hd)
  cases b with
  | true =>
   simp only at h
   rw [eZ] at h
   obtain ⟨e,hev,h⟩:=aB h
   simp only [if_true]
   left
   unfold Oper.wp
   exact yY hO hsr' hev fun tm' w' ha=>step e ⟨tm',a.defers⟩ w' rfl ha h
  | false =>
   simp only at h
   simp only [Bool.false_eq_true,if_false]
   have happ:(undE a.tmps.size o).app {st with fr:=fr'}={st with fr:=dstW a.tmps.size o.dst .und++fr'}:=xU _ _
   refine step (undE a.tmps.size o) _ _ (aJK _ _ _) ?_ (by rw [happ];exact h)
   rw [aSa]
   exact jL (dst:=o.dst) hsr' (p := .und) (v:=undef) .und (nG _)
end
open PV
theorem aBS {l m:List PV} {i:Nat} (h:i<l.length):gt (l++m) i=gt l i:=by
 rw [aBF,aBF,List.getElem?_append_left h]
theorem zO {l m:List PV} {i:Nat} (h:l.length≤i):gt (l++m) i=gt m (i-l.length):=by
 rw [aBF,aBF,List.getElem?_append_right h]
theorem zP (g:Nat→PV) (s:List PV):∀ (kp:List Nat) (k:Nat),(∀ p i,kp[p]?=some i→gt s (k+p)=g i)→∀ i,gets (jS s k kp) i=if i∈kp then g i else .bot
 | [],k,_,i=>by simp [jS,gets,look]
 | j::kp,k,h,i=>by
  simp only [jS]
  rw [dM]
  by_cases e:j=i
  ·subst e;simp;have:=h 0 j rfl;simpa using this
  ·rw [if_neg e,zP g s kp (k+1) (fun p i hp=>by have:=h (p+1) i (by simpa using hp);rw [← this];congr 1;omega) i]
   have:i≠j:=fun x=>e x.symm
   simp [this]
theorem tI {x:Nat×Nat} {l:List (Nat×Nat)} {f:aV} (h:iU (x::l) f=true):(∃ cs,look f x.1=some cs∧cs.length=x.2)∧iU l f=true:=by
 simp only [iU,List.all_cons,Bool.and_eq_true] at h
 refine ⟨?_,h.2⟩
 have:=h.1
 split at this
 ·rename_i cs hcs;exact ⟨cs,hcs,by simpa using this⟩
 ·simp at this
theorem aHh (f:aV) (s:List PV):∀ (sh:List (Nat×Nat)) (k:Nat),iU sh f=true→(∀ j,j<(flat f sh).length→gt s (k+j)=gt (flat f sh) j) →
  aGV s k sh=sh.map fun x=>(x.1,(look f x.1).getD [])
 | [],k,_,_=>rfl
 | (i,n)::sh,k,hs,h=>by
  obtain ⟨⟨cs,hcs,hlen⟩,hs'⟩:=tI hs
  simp only at hcs hlen
  have hflat:flat f ((i,n)::sh)=cs++flat f sh:=by
   simp only [flat,hcs]
   congr 1
   rw [← hlen];exact sA cs
  rw [hflat] at h
  simp only [aGV,List.map_cons]
  congr 1
  ·congr 1
   rw [hcs]
   simp only [Option.getD_some]
   conv=>rhs;rw [← sA cs,hlen]
   apply List.map_congr_left
   intro j hj
   have hj:=List.mem_range.1 hj
   rw [h j (by rw [List.length_append];omega),aBS (by omega)]
  ·refine aHh f s sh (k+n) hs' fun j hj => ?_
   have:=h (n+j) (by rw [List.length_append];omega)
   rw [zO (by omega)] at this
   rw [show k+n+j=k+(n+j) by omega,this]
   congr 1;omega
theorem aDD (f:aV):∀ (sh:List (Nat×Nat)) (i:Nat),iU sh f=true→look (sh.map fun x=>(x.1,(look f x.1).getD [])) i=if i∈sh.map (·.1) then look f i else none
 | [],i,_=>by simp [look]
 | x::sh,i,h=>by
  obtain ⟨⟨cs,hcs,_⟩,h'⟩:=tI h
  simp only [List.map_cons,look]
  by_cases e:x.1=i
  ·subst e;simp [hcs]
  ·have:i≠x.1:=fun y=>e y.symm
   rw [if_neg e,aDD f sh i h']
   by_cases hm:i∈sh.map (·.1)
   ·rw [if_pos hm,if_pos (List.mem_cons_of_mem _ hm)]
   ·rw [if_neg hm,if_neg]
    intro h
    rcases List.mem_cons.1 h with h | h
    ·exact this h
    ·exact hm h
def jU (ids:List Nat) (B:BM):BM:=fun d id=>if d=0∧id∉ids then none else B d id
theorem aDE {ids:List Nat} {B:BM} {d id b:Nat} (h:jU ids B d id=some b):B d id=some b:=by
 unfold jU at h;split at h
 ·simp at h
 ·exact h
theorem Rv.insideN {M:Mem} {B:BM} {sh:List (Nat×Nat)}:∀ (n:Nat) {p:PV} {v:Value},Rv M B p v→insideN sh n p=true→Rv M (jU (sh.map (·.1)) B) p v:=by
 intro n
 induction n with
 | zero =>
  intro p v h hi
  cases h with
  | bot v=>exact .bot v
  | und=>simp [Ev.insideN,PV.solid1] at hi
  | bool b=>exact .bool b
  | int k n=>exact .int k n
  | str s=>exact .str s
  | agg cs vs f hl hf hr=>exact (Rv.agg cs vs f hl hf hr).anyB _ (by simpa [Ev.insideN,PV.solid] using hi)
  | tuple=>simp [Ev.insideN,PV.solid1] at hi
  | nil o=>exact .nil o
  | slice es bs o a cap s f ha hc ho hel hm hr=>exact (Rv.slice es bs o a cap s f ha hc ho hel hm hr).anyB _ rfl
  | mk0 sz a cap ha=>exact .mk0 sz a cap ha
  | ref e a s f ha hel hm hr=>exact .ref e a s f ha hel hm (fun j c hc=>(hr j c hc).anyB1 _ (hel.cell hc))
  | ptr d id off b hb =>
   refine .ptr d id off b ?_
   unfold jU
   rw [if_neg]
   ·exact hb
   ·rintro ⟨rfl,hn⟩
    apply hn
    simp only [Ev.insideN,List.any_eq_true,beq_iff_eq] at hi
    obtain ⟨x,hx,rfl⟩:=hi
    exact List.mem_map.2 ⟨x,hx,rfl⟩
  | rsl d id n sz b cap hb hc =>
   refine .rsl d id n sz b cap ?_ hc
   unfold jU
   rw [if_neg]
   ·exact hb
   ·rintro ⟨rfl,hn⟩
    apply hn
    simp only [Ev.insideN,List.any_eq_true,beq_iff_eq] at hi
    obtain ⟨x,hx,rfl⟩:=hi
    exact List.mem_map.2 ⟨x,hx,rfl⟩
  | rslNil d id sz oa=>exact .rslNil d id sz oa
  | nilptr=>exact .nilptr
  | func fn first caps vf vc f g hp hl hf hrf hl' hg hrg=>exact (Rv.func fn first caps vf vc f g hp hl hf hrf hl' hg hrg).anyBfree _ (by simpa [Ev.insideN,PV.free] using hi)
  | vec sz E b cap hne hc h0 hE hm=>exact .vec sz E b cap hne hc h0 hE hm
  | vecNil sz oa=>exact .vecNil sz oa
  | nilFunc=>exact .nilFunc
 | succ n ih =>
  intro p v h hi
  cases h with
  | bot v=>exact .bot v
  | und=>simp [Ev.insideN,PV.solid1] at hi
  | bool b=>exact .bool b
  | int k n=>exact .int k n
  | str s=>exact .str s
  | agg cs vs f hl hf hr=>exact (Rv.agg cs vs f hl hf hr).anyB _ (by simpa [Ev.insideN,PV.solid] using hi)
  | tuple=>simp [Ev.insideN,PV.solid1] at hi
  | nil o=>exact .nil o
  | slice es bs o a cap s f ha hc ho hel hm hr=>exact (Rv.slice es bs o a cap s f ha hc ho hel hm hr).anyB _ rfl
  | mk0 sz a cap ha=>exact .mk0 sz a cap ha
  | ref e a s f ha hel hm hr=>exact .ref e a s f ha hel hm (fun j c hc=>(hr j c hc).anyB1 _ (hel.cell hc))
  | ptr d id off b hb =>
   refine .ptr d id off b ?_
   unfold jU
   rw [if_neg]
   ·exact hb
   ·rintro ⟨rfl,hn⟩
    apply hn
    simp only [Ev.insideN,List.any_eq_true,beq_iff_eq] at hi
    obtain ⟨x,hx,rfl⟩:=hi
    exact List.mem_map.2 ⟨x,hx,rfl⟩
  | rsl d id n sz b cap hb hc =>
   refine .rsl d id n sz b cap ?_ hc
   unfold jU
   rw [if_neg]
   ·exact hb
   ·rintro ⟨rfl,hn⟩
    apply hn
    simp only [Ev.insideN,List.any_eq_true,beq_iff_eq] at hi
    obtain ⟨x,hx,rfl⟩:=hi
    exact List.mem_map.2 ⟨x,hx,rfl⟩
  | rslNil d id sz oa=>exact .rslNil d id sz oa
  | nilptr=>exact .nilptr
  | func fn first caps vf vc f g hp hl hf hrf hl' hg hrg =>
   simp only [Ev.insideN,Bool.and_eq_true,List.all_eq_true] at hi
   exact .func fn first caps vf vc f g hp hl hf (fun i c hc=>ih (hrf i c hc) (hi.1 c (List.mem_of_getElem? hc))) hl' hg (fun i c hc=>ih (hrg i c hc) (hi.2 c (List.mem_of_getElem? hc)))
  | vec sz E b cap hne hc h0 hE hm=>exact .vec sz E b cap hne hc h0 hE hm
  | vecNil sz oa=>exact .vecNil sz oa
  | nilFunc=>exact .nilFunc
theorem Rv.inside {M:Mem} {B:BM} {p:PV} {v:Value} {sh:List (Nat×Nat)} (h:Rv M B p v) (hi:inside sh p=true):Rv M (jU (sh.map (·.1)) B) p v:=Rv.insideN 3 h hi
section
variable {base : Base} {M : Mem} {B : BM} {st : St} {tm : Array Value} {w : World}
theorem nL (bx:List aV) (d id:Nat):aX bx (d+1) id=aX (gJ bx) d id:=by
 cases bx with
 | nil=>simp [qS,gJ]
 | cons f r=>rw [dR];rfl
theorem zQ (v:Value):dV .bot v:=by
 intro x hx
 have:atoms .bot v=[(.bot,v)]:=by cases v<;>rfl
 rw [this] at hx;simp at hx;subst hx
 cases v<;>rfl
theorem aJU (h:SR base M B st tm w) {kp:List Nat} {sh:List (Nat×Nat)} {s:List PV} {u:UP} (hsh:(sh.map (·.1)).Nodup)
  (hp:pack kp sh st (fun s u=>some (s,u))=some (s,u)):Rch base M B st tm w (cH kp sh s u) tm w:=by
 have core:iU sh (lW st.bx)=true→s=nC kp sh st→u=gJ st.bx→(∀ v∈nC kp sh st,∀ x,Rv M B v x→Rv M (jU (sh.map (·.1)) B) v x)→Rch base M B st tm w (cH kp sh s u) tm w:=by
  intro hh hs hu hin
  subst hs;subst hu
  have hfr:∀ i,gets (cH kp sh (nC kp sh st) (gJ st.bx)).fr i=if i∈kp then gets st.fr i else .bot:=by
   intro i
   refine zP (gets st.fr) _ kp 0 (fun p i hp => ?_) i
   have hlt:=(List.getElem?_eq_some_iff.1 hp).1
   rw [Nat.zero_add,nC,aBS (by simpa using hlt),aBF,List.getElem?_map,hp];rfl
  have hhd:aGV (nC kp sh st) kp.length sh=sh.map fun x=>(x.1,(look (lW st.bx) x.1).getD []):=by
   refine aHh _ _ sh kp.length hh fun j hj => ?_
   rw [nC,zO (by simp)]
   congr 1;simp
  have hbx:(cH kp sh (nC kp sh st) (gJ st.bx)).bx=(sh.map fun x=>(x.1,(look (lW st.bx) x.1).getD []))::gJ st.bx:=by
   simp only [cH,hhd]
  have hb0:∀ id,aX (cH kp sh (nC kp sh st) (gJ st.bx)).bx 0 id=if id∈sh.map (·.1) then aX st.bx 0 id else none:=by
   intro id;rw [hbx,bD,aDD _ _ _ hh,uD]
  have hbd:∀ d id,aX (cH kp sh (nC kp sh st) (gJ st.bx)).bx (d+1) id=aX st.bx (d+1) id:=by
   intro d id;rw [hbx,dR,nL]
  have hsub:∀ d id cs,aX (cH kp sh (nC kp sh st) (gJ st.bx)).bx d id=some cs→aX st.bx d id=some cs∧jU (sh.map (·.1)) B d id=B d id:=by
   intro d id cs hc
   cases d with
   | zero =>
    rw [hb0] at hc
    split at hc
    ·rename_i hm;exact ⟨hc,by unfold jU;rw [if_neg];rintro ⟨_,hn⟩;exact hn hm⟩
    ·simp at hc
   | succ d=>rw [hbd] at hc;exact ⟨hc,by unfold jU;rw [if_neg];rintro ⟨h0,_⟩;omega⟩
  have hmem:∀ id cs,aX (cH kp sh (nC kp sh st) (gJ st.bx)).bx 0 id=some cs→∀ c∈cs,c∈nC kp sh st:=by
   intro id cs hc c hcm
   rw [hb0] at hc
   split at hc
   ·rename_i hm
    rw [uD] at hc
    refine List.mem_append.2 (.inr ?_)
    have:∀ (sh:List (Nat×Nat)),iU sh (lW st.bx)=true→id∈sh.map (·.1)→c∈flat (lW st.bx) sh:=by
     intro sh
     induction sh with
     | nil=>intro _ hm;simp at hm
     | cons x l ih =>
      intro hh hm
      obtain ⟨⟨cs',hcs',hlen⟩,h'⟩:=tI hh
      obtain ⟨i,n⟩:=x
      simp only at hcs' hlen
      simp only [flat,hcs']
      rcases List.mem_cons.1 hm with e | hm
      ·simp only at e;subst e
       rw [hc] at hcs';cases hcs'
       rw [← hlen,sA];exact List.mem_append.2 (.inl hcm)
      ·exact List.mem_append.2 (.inr (ih h' hm))
    exact this sh hh hm
   ·simp at hc
  have hup:∀ d,0<d→upB d (jU (sh.map (·.1)) B)=upB d B:=by
   intro d hd;funext e id;unfold upB jU;rw [if_neg];rintro ⟨h0,_⟩;omega
  have hh1:∀ c v,h1 M w base B c v→h1 M w base (jU (sh.map (·.1)) B) c v:=fun c v hc=>hc.world (fun _ _ _ hx=>hx) fun b _ _=>⟨rfl,fun _=>rfl,fun d id hb=>aDE hb⟩
  have hslot:∀ i,Rv M (jU (sh.map (·.1)) B) (gets (cH kp sh (nC kp sh st) (gJ st.bx)).fr i) (tm.getD i undef):=by
   intro i;rw [hfr]
   split
   ·rename_i hm
    exact hin _ (List.mem_append.2 (.inl (List.mem_map.2 ⟨i,hm,rfl⟩))) _ (h.slot i)
   ·exact .bot _
  have hnew:SR base M (jU (sh.map (·.1)) B) (cH kp sh (nC kp sh st) (gJ st.bx)) tm w→(∀ b,tot (cH kp sh (nC kp sh st) (gJ st.bx)).fr tm w (jU (sh.map (·.1)) B) (cH kp sh (nC kp sh st) (gJ st.bx)).bx b≤tot st.fr tm w B st.bx b) →
    Rch base M B st tm w (cH kp sh (nC kp sh st) (gJ st.bx)) tm w:=by
   intro h1 h2
   refine ⟨rfl,M,jU (sh.map (·.1)) B,h1,rfl,rfl,rfl,Nat.le_refl _,fun _ _ _ hx=>hx,fun _ _ _=>⟨rfl,fun _=>rfl⟩,fun b _=>h2 b,fun d id b hb _=>⟨d,id,aDE hb⟩,?_⟩
   intro d id;unfold jU;rw [if_neg];rintro ⟨h0,_⟩;omega
  have htot:∀ b,tot (cH kp sh (nC kp sh st) (gJ st.bx)).fr tm w (jU (sh.map (·.1)) B) (cH kp sh (nC kp sh st) (gJ st.bx)).bx b≤tot st.fr tm w B st.bx b:=by
   intro b
   have e1:cF (cH kp sh (nC kp sh st) (gJ st.bx)).fr tm b≤cF st.fr tm b:=by
    apply aDp
    intro i _
    rw [hfr]
    split
    ·exact Nat.le_refl _
    ·rw [(zQ _).c];omega
   have e2:cBx w (jU (sh.map (·.1)) B) (cH kp sh (nC kp sh st) (gJ st.bx)).bx b≤cBx w B st.bx b:=by
    have etail:∀ (r:List aV),fZ (fun d id cs=>cBox w (jU (sh.map (·.1)) B d id) cs b) 1 r=fZ (fun d id cs=>cBox w (B d id) cs b) 1 r:=by
     intro r
     apply qT
     intro d f _
     apply eM
     intro id cs _
     have:jU (sh.map (·.1)) B (1+d) id=B (1+d) id:=by unfold jU;rw [if_neg];rintro ⟨h0,_⟩;omega
     rw [this]
    have ehead:dH (fun id cs=>cBox w (jU (sh.map (·.1)) B 0 id) cs b) (sh.map fun x=>(x.1,(look (lW st.bx) x.1).getD []))≤dH (fun id cs=>cBox w (B 0 id) cs b) (lW st.bx):=by
     have hk:((sh.map fun x=>(x.1,(look (lW st.bx) x.1).getD [])).map (·.1))=sh.map (·.1):=by simp [Function.comp_def]
     have hin':∀ x∈(sh.map fun x=>(x.1,(look (lW st.bx) x.1).getD [])),x∈lW st.bx∧x.1∈sh.map (·.1):=by
      intro x hx
      obtain ⟨y,hy,rfl⟩:=List.mem_map.1 hx
      simp only [iU,List.all_eq_true] at hh
      have:=hh y hy
      split at this
      ·rename_i cs hcs
       refine ⟨?_,List.mem_map.2 ⟨y,hy,rfl⟩⟩
       have hcs':look (lW st.bx) y.1=some cs:=hcs
       simp only [hcs',Option.getD_some]
       exact kC hcs'
      ·simp at this
     rw [eM (g':=fun id cs=>cBox w (B 0 id) cs b) _ (fun id cs hm=>by
      have:=(hin' _ hm).2
      have:jU (sh.map (·.1)) B 0 id=B 0 id:=by unfold jU;rw [if_neg];rintro ⟨_,hn⟩;exact hn this
      rw [this])]
     exact zJ _ _ (mE (by rw [hk];exact hsh)) fun x hx=>(hin' x hx).1
    unfold cBx
    rw [hbx]
    simp only [fZ]
    cases hb:st.bx with
    | nil=>rw [hb] at ehead;simp only [lW,dH] at ehead;simp only [lW,gJ,fZ];omega
    | cons f r =>
     rw [hb] at ehead
     simp only [lW,gJ,fZ] at ehead ⊢
     rw [Nat.zero_add,etail r];omega
   simp only [tot];omega
  refine hnew ⟨h.cons,hslot,?_,⟨?_,?_,?_,?_⟩,fun b=>Nat.le_trans (htot b) (h.one b),h.glob,h.base⟩ htot
  ·intro i
   rw [hfr]
   split
   ·intro x hx;exact hh1 _ _ (h.slotH i x hx)
   ·exact (zQ _).h _ _ _ _
  ·intro d f hf
   rw [hbx] at hf
   cases d with
   | zero=>simp at hf;subst hf;simpa [Function.comp_def] using hsh
   | succ d =>
    simp at hf
    cases hb:st.bx with
    | nil=>rw [hb] at hf;simp [gJ] at hf
    | cons f0 r=>rw [hb] at hf;exact h.box.nodup (d+1) f (by rw [hb];simpa [gJ] using hf)
  ·intro d id hn
   cases d with
   | zero =>
    unfold jU
    rw [hb0] at hn
    split at hn
    ·split
     ·rfl
     ·exact h.box.dom 0 id hn
    ·rename_i hm;rw [if_pos ⟨rfl,hm⟩]
   | succ d =>
    rw [hbd] at hn
    unfold jU;rw [if_neg (by rintro ⟨h0,_⟩;omega)];exact h.box.dom (d+1) id hn
  ·intro d id cs hc
   obtain ⟨h1,h2⟩:=hsub d id cs hc
   obtain ⟨hv,hbk⟩:=h.box.ok d id cs h1
   refine ⟨hv,?_⟩
   rcases hbk with ⟨blk,hB,ok⟩ | hno
   rotate_left
   ·exact .inr ⟨by rw [h2];exact hno.1,hno.2⟩
   refine .inl ⟨blk,by rw [h2];exact hB,ok.old,ok.row,ok.free,?_⟩
   intro j c hj
   obtain ⟨r1,r2,r3⟩:=ok.rel j c hj
   refine ⟨?_,hh1 _ _ r2,r3⟩
   cases d with
   | zero =>
    rw [aKt] at r1 ⊢
    unfold phys at hj
    split at hj
    ·rename_i sz2 E2
     have hsol:c.solid1=true:=by
      obtain ⟨x,hx,hc'⟩:=List.mem_flatMap.1 (List.mem_of_getElem? hj)
      exact (fU (hv.2 x hx)).2 c hc'
     exact r1.anyB1 _ hsol
    ·exact hin c (hmem id cs hc c (List.mem_of_getElem? hj)) _ r1
   | succ d=>rw [hup (d+1) (by omega)];exact r1
  ·intro d id d' id' blk h1 h2
   exact h.box.inj d id d' id' blk (aDE h1) (aDE h2)
 unfold pack at hp
 split at hp
 ·rename_i hh hall
  simp only [Option.some.injEq,Prod.mk.injEq] at hp
  refine core hh hp.1.symm hp.2.symm fun v _ x hx => ?_
  have:jU (sh.map (·.1)) B=B:=by
   funext d id
   unfold jU
   split
   ·rename_i hc
    obtain ⟨rfl,hn⟩:=hc
    symm
    apply h.box.dom
    rw [uD]
    rw [yN]
    intro hm
    obtain ⟨y,hy,rfl⟩:=List.mem_map.1 hm
    rw [List.all_eq_true] at hall
    have:=hall y hy
    rw [List.any_eq_true] at this
    obtain ⟨z,hz,he⟩:=this
    apply hn
    rw [← beq_iff_eq.1 he]
    exact List.mem_map.2 ⟨z,hz,rfl⟩
   ·rfl
  rw [this];exact hx
 ·rename_i hh hall
  rcases aZ hp with ⟨hin,hp⟩ | ⟨_,hp⟩
  ·simp only [Option.some.injEq,Prod.mk.injEq] at hp
   rw [List.all_eq_true] at hin
   exact core hh hp.1.symm hp.2.symm fun v hv x hx=>hx.inside (hin v hv)
  ·simp at hp
 ·simp at hp
end
def aM2 (LP:bL→bL):Prop:=∀ body s u r,LP body s u=some r→∃ n,oP n body s u=some r
theorem zS {R:Type} {e:Ex} {K:Ex→Option R} {r:R}:∀ {l},pI e K l=some r→K e=some r
 | [],h=>by simp [pI] at h
 | w::l,h=>by
  simp only [pI] at h
  unfold exIs at h
  split at h
  ·split at h
   ·rename_i i j hij;subst hij;exact h
   ·exact zS h
  ·exact h
  ·exact zS h
section
variable {P : Program} {mt : Hints} {O : Orc} {LP : bL → bL}
def aZ5 (P:Program) (G:Mem) (mt:Hints) (O:Orc) (LP:bL→bL) (c:Code):Prop :=
 ∀ (st:St) (e:Ex) (st':St) (base:Nat) (M:Mem) (B:BM) (a:Act) (w:World),aR P mt a.tmps.size O LP c st (fun e s=>some (e,s))=some (e,st')→SR ⟨base,G⟩ M B st a.tmps w →
 ∀ Q:Exit→Act→World→Prop,(∀ a' w',Rch ⟨base,G⟩ M B st a.tmps w st' a'.tmps w'→a'.defers=a.defers→Q (toX e) a' w')→c.wp P Q a w
theorem aX7 {c:Operand} {b:Bool} {st:St} (h:xR (opd st.fr c)=some b):Eqv st (xT c b st):=by
 cases c with
 | tmp t =>
  refine ⟨fun i => ?_,fun _ _=>rfl,rfl⟩
  show gets st.fr i=gets ((t,.bool b)::st.fr) i
  rw [dM]
  split
  ·rename_i e;subst e
   unfold xR at h
   split at h
   ·rename_i b' he;cases h;exact he
   ·simp at h
  ·rfl
 | _=>exact Eqv.refl _
theorem bAG {c:Operand} {b:Bool} {st:St}:(xT c b st).bx=st.bx:=by cases c<;>rfl
theorem aJV {b:Code} {G:Mem} (hb:aZ5 P G mt O LP b) (kp:List Nat) (sh:List (Nat×Nat)) (hsh:(sh.map (·.1)).Nodup) {base:Nat}:∀ (n:Nat) (s:List PV) (u:UP) (r:Ex×List PV×UP) (M:Mem) (B:BM) (a:Act) (w:World),
  oP n (fun s u=>aR P mt a.tmps.size O LP b (cH kp sh s u) fun e st'=>pack kp sh st' fun s u=>some (e,s,u)) s u=some r →
  SR ⟨base,G⟩ M B (cH kp sh s u) a.tmps w →
  ∀ Q:Exit→Act→World→Prop,(∀ a' w',Rch ⟨base,G⟩ M B (cH kp sh s u) a.tmps w (cH kp sh r.2.1 r.2.2) a'.tmps w'→a'.defers=a.defers→Q (toX r.1) a' w')→Code.rounds P b Q n a w
 | 0,_,_,_,_,_,_,_,h,_,_,_=>by simp [oP] at h
 | n+1,s,u,r,M,B,a,w,h,hsr,Q,hQ=>by
  simp only [oP] at h
  obtain ⟨⟨e1,s1,u1⟩,hbody,h⟩:=aB h
  rw [bS] at hbody
  obtain ⟨⟨e2,st2⟩,hev,hpk⟩:=aB hbody
  simp only at hpk
  rw [aA5] at hpk
  obtain ⟨⟨s2,u2⟩,hpk2,heq⟩:=aB hpk
  simp only [Option.some.injEq,Prod.mk.injEq] at heq
  obtain ⟨rfl,rfl,rfl⟩:=heq
  have reach:∀ (a':Act) (w':World),Rch ⟨base,G⟩ M B (cH kp sh s u) a.tmps w st2 a'.tmps w'→Rch ⟨base,G⟩ M B (cH kp sh s u) a.tmps w (cH kp sh s2 u2) a'.tmps w' :=
   fun a' w' hr=>hr.trans fun M' B' hs=>aJU hs hsh hpk2
  rw [rounds_succ]
  refine hb _ _ _ base M B a w hev hsr _ fun a' w' hr hd => ?_
  have hr2:=reach a' w' hr
  cases e2 with
  | nrm =>
   simp only at h
   obtain ⟨r1,M',B',r2,r3⟩:=hr2
   show Code.rounds P b Q n a' w'
   rw [← r1] at h
   refine aJV hb kp sh hsh n s2 u2 r M' B' a' w' h r2 Q fun a'' w'' h2 hd' => ?_
   obtain ⟨q1,M3,B3,q2,q3⟩:=h2
   exact hQ a'' w'' ⟨q1.trans r1,M3,B3,q2,r3.trans q3⟩ (hd'.trans hd)
  | brk i=>cases h;exact hQ a' w' hr2 hd
  | ret=>cases h;exact hQ a' w' hr2 hd
theorem lC {G:Mem} (hm:P.follows .mixedOrders=true) (hO:aKD P G O) (hL:aM2 LP):∀ c:Code,aZ5 P G mt O LP c
 | .skip=>fun st e st' base M B a w h hsr Q hQ=>by cases h;exact wp_skip (hQ a w (Rch.refl hsr) rfl)
 | .label _=>fun st e st' base M B a w h hsr Q hQ=>by cases h;exact wp_label (hQ a w (Rch.refl hsr) rfl)
 | .exit id=>fun st e st' base M B a w h hsr Q hQ=>by cases h;exact wp_exit (hQ a w (Rch.refl hsr) rfl)
 | .ret=>fun st e st' base M B a w h hsr Q hQ=>by cases h;exact wp_ret (hQ a w (Rch.refl hsr) rfl)
 | .region id ops draw=>fun st e st' base M B a w h hsr Q hQ=>by
  simp only [aR] at h
  rw [iX] at h
  obtain ⟨sf,hf,h⟩:=aB h
  obtain ⟨rf1,Mf,Bf,rf2,rf3⟩:=aHf hsr hf
  have hQ:∀ a' w',Rch ⟨base,G⟩ Mf Bf sf a.tmps w st' a'.tmps w'→a'.defers=a.defers→Q (toX e) a' w':=fun a' w' hr hd=>by
   obtain ⟨q1,M3,B3,q2,q3⟩:=hr
   exact hQ a' w' ⟨q1,M3,B3,q2,rf3.trans q3⟩ hd
  clear hsr
  have hsr:=rf2
  clear rf2
  generalize sf=st at h hsr hQ
  generalize Mf=M at hsr hQ
  generalize Bf=B at hsr hQ
  cases draw with
  | false =>
   simp only at h
   rw [nK] at h
   obtain ⟨s1,hev,h⟩:=aB h
   cases h
   refine wp_region ?_
   have:=aM1 (base:=⟨base,G⟩) hO ops.toList 0 st st' a w M B (by simp) hev hsr Q hQ
   simpa using this
  | true =>
   simp only at h
   split at h
   ·rename_i hs
    have h':bW P mt a.tmps.size O ops 0 ops.toList [] st (fun log st=>match nE (Region.before ops) log with | true=>(fun s=>some (Ex.nrm,s)) st | false=>none)=some (e,st'):=by
     exact h
    obtain ⟨s1,hK,hwp⟩:=aT8 (base:=⟨base,G⟩) hm hO (id:=id) hs h' hsr
    cases hK
    exact hwp Q hQ
   ·simp at h
 | .seq x y=>fun st e st' base M B a w h hsr Q hQ=>by
  simp only [aR] at h
  rw [bS] at h
  obtain ⟨⟨e1,s1⟩,hev,h⟩:=aB h
  refine wp_seq (lC hm hO hL x _ _ _ base M B a w hev hsr _ fun a' w' hr hd => ?_)
  cases e1 with
  | nrm =>
   simp only at h
   obtain ⟨r1,M',B',r2,r3⟩:=hr
   show y.wp P Q a' w'
   rw [← r1] at h
   refine lC hm hO hL y _ _ _ base M' B' a' w' h r2 Q fun a'' w'' h2 hd' => ?_
   obtain ⟨q1,M3,B3,q2,q3⟩:=h2
   exact hQ a'' w'' ⟨q1.trans r1,M3,B3,q2,r3.trans q3⟩ (hd'.trans hd)
  | brk i=>cases h;exact hQ a' w' hr hd
  | ret=>cases h;exact hQ a' w' hr hd
 | .cond c x y=>fun st e st' base M B a w h hsr Q hQ=>by
  simp only [aR] at h
  unfold brB at h
  obtain ⟨b,hb,h⟩:=aB h
  have he:=aX7 hb
  have hnd:Nd (xT c b st).bx:=by rw [bAG];exact hsr.box.nodup
  have hsr':=hsr.eqv he hnd
  have hc:a.eval c = .bool b:=by
   have:=hsr.opd a.defers c
   unfold xR at hb
   split at hb
   ·rename_i b' he';cases hb;rw [he'] at this;exact this.bool_inv
   ·simp at hb
  have hQ':∀ a' w',Rch ⟨base,G⟩ M B (xT c b st) a.tmps w st' a'.tmps w'→a'.defers=a.defers→Q (toX e) a' w':=fun a' w' hr hd=>hQ a' w' (Rch.of_eqv hr he hsr.box.nodup hnd) hd
  rcases aZ h with ⟨rfl,h⟩ | ⟨rfl,h⟩
  ·exact wp_cond_true hc (lC hm hO hL x _ _ _ base M B a w h hsr' Q hQ')
  ·exact wp_cond_false hc (lC hm hO hL y _ _ _ base M B a w h hsr' Q hQ')
 | .block id b=>fun st e st' base M B a w h hsr Q hQ=>by
  simp only [aR] at h
  rw [bS] at h
  obtain ⟨⟨e1,s1⟩,hev,h⟩:=aB h
  refine wp_block (lC hm hO hL b _ _ _ base M B a w hev hsr _ fun a' w' hr hd => ?_)
  cases e1 with
  | nrm=>cases h;exact hQ a' w' hr hd
  | brk i =>
   simp only at h
   show (if i=id then Q .normal a' w' else Q (.exit i) a' w')
   split at h
   ·rename_i hi;cases h;rw [if_pos hi];exact hQ a' w' hr hd
   ·rename_i hi;cases h;rw [if_neg hi];exact hQ a' w' hr hd
  | ret=>cases h;exact hQ a' w' hr hd
 | .scope b=>fun st e st' base M B a w h hsr Q hQ=>by
  refine wp_scope_straight (lC hm hO hL b _ _ _ base M B a w h hsr _ fun a' w' hr hd => ?_)
  have:=hQ a' w' hr hd
  cases e<;>exact this
 | .loop b=>fun st e st' base M B a w h hsr Q hQ=>by
  simp only [aR] at h
  rw [iX] at h
  obtain ⟨sf,hf,h⟩:=aB h
  obtain ⟨rf1,Mf,Bf,rf2,rf3⟩:=aHf hsr hf
  have hQ:∀ a' w',Rch ⟨base,G⟩ Mf Bf sf a.tmps w st' a'.tmps w'→a'.defers=a.defers→Q (toX e) a' w':=fun a' w' hr hd=>by
   obtain ⟨q1,M3,B3,q2,q3⟩:=hr
   exact hQ a' w' ⟨q1,M3,B3,q2,rf3.trans q3⟩ hd
  clear hsr
  have hsr:=rf2
  clear rf2
  generalize sf=st at h hsr hQ
  generalize Mf=M at hsr hQ
  generalize Bf=B at hsr hQ
  rw [aA5] at h
  obtain ⟨⟨s,u⟩,hpk,h⟩:=aB h
  obtain ⟨r,hr,h⟩:=aB h
  have:=zS h
  cases this
  have hsh:((nF st.bx).map (·.1)).Nodup:=by
   unfold nF
   split
   ·rename_i f r' hb
    have:=hsr.box.nodup 0 f (by rw [hb];rfl)
    simpa [Function.comp_def] using this
   ·simp
  obtain ⟨r1,M',B',r2,r3⟩:=aJU hsr hsh hpk
  obtain ⟨n,hn⟩:=hL _ _ _ _ hr
  refine wp_loop_rounds n (aJV (lC hm hO hL b) _ _ hsh n s u r M' B' a w hn r2 Q fun a' w' h2 hd => ?_)
  obtain ⟨q1,M3,B3,q2,q3⟩:=h2
  exact hQ a' w' ⟨q1,M3,B3,q2,r3.trans q3⟩ hd
 | .rangeFunc _ _ _ _=>fun st e st' base M B a w h hsr Q hQ=>by simp [aR] at h
 | .goto _=>fun st e st' base M B a w h hsr Q hQ=>by simp [aR] at h
 | .refuse _=>fun st e st' base M B a w h hsr Q hQ=>by simp [aR] at h
end
def iY (B:BM):BM:=fun d id=>B (d+1) id
theorem h1.boxes {M:Mem} {w:World} {base:Base} {B B':BM} {p:PV} {v:Value} (h:h1 M w base B p v) (hb:∀ b,(∀ d id,B d id≠some b)→∀ d id,B' d id≠some b):h1 M w base B' p v:=by
 unfold h1 at h ⊢
 split at h
 ·exact ⟨h.old,hb _ h.nobox,h.row,h.free⟩
 ·exact ⟨h.old,hb _ h.nobox,h.row,h.free⟩
 ·exact ⟨⟨h.1.old,hb _ h.1.nobox,h.1.row,h.1.free⟩,h.2⟩
 ·trivial
theorem hV.boxes {M:Mem} {w:World} {base:Base} {B B':BM} {p:PV} {v:Value} (h:hV M w base B p v) (hb:∀ b,(∀ d id,B d id≠some b)→∀ d id,B' d id≠some b):hV M w base B' p v :=
 fun x hx=>(h x hx).boxes hb
theorem aKM {B:BM}:∀ b,(∀ d id,B d id≠some b)→∀ d id,iY B d id≠some b:=fun b h d id=>h (d+1) id
theorem aV7 {B:BM}:∀ b,(∀ d id,B d id≠some b)→∀ d id,nI B d id≠some b:=by
 intro b h d id
 cases d with
 | zero=>simp [nI]
 | succ d=>exact h d id
theorem aFD {p q:PV} (h:jK p=some q) (v:Value):own1 q v=own1 p v:=by
 unfold jK at h
 split at h
 ·simp at h
 ·cases h;cases v<;>rfl
 ·simp at h
 ·cases h;cases v<;>rfl
 ·cases h;rfl
 ·cases h;rfl
 ·split at h
  ·cases h;rfl
  ·simp at h
theorem aHi {M:Mem} {w:World} {base:Base} {B:BM} {p q:PV} (h:jK p=some q) {v:Value} (hh:h1 M w base B p v):h1 M w base B q v:=by
 unfold jK at h
 split at h
 ·simp at h
 ·cases h;cases v<;>trivial
 ·simp at h
 ·cases h;cases v<;>trivial
 ·cases h;exact hh
 ·cases h;exact hh
 ·split at h
  ·cases h;exact hh
  ·simp at h
theorem aFE {M:Mem} {B:BM} {p q:PV} {v:Value} (h:jK p=some q) (hr:Rv M B p v):Rv M (iY B) q v:=by
 unfold jK at h
 split at h
 ·simp at h
 ·cases h
  cases hr with
  | ptr d id off b hb=>exact .ptr _ _ _ b hb
 ·simp at h
 ·cases h
  cases hr with
  | rsl d id n s b cap hb hc=>exact .rsl _ _ _ _ b cap hb hc
  | rslNil d id s oa=>exact .rslNil _ _ _ oa
 ·cases h
  cases hr with
  | ref e a s f ha hel hm hr=>exact .ref _ a s f ha hel hm (fun j c hc=>(hr j c hc).anyB1 _ (hel.cell hc))
 ·cases h;cases hr;exact .nilptr
 ·split at h
  ·rename_i hf;cases h;exact hr.anyBfree _ hf
  ·simp at h
theorem zU:∀ {cs ds:List PV},oE cs=some ds→ds.length=cs.length∧∀ (i:Nat) (d:PV),ds[i]?=some d→∃ c,cs[i]?=some c∧jK c=some d
 | [],ds,h=>by simp [oE] at h;subst h;simp
 | c::cs,ds,h=>by
  simp only [oE] at h
  split at h
  ·rename_i y r hy hr
   cases h
   obtain ⟨h1,h2⟩:=zU hr
   refine ⟨by simp [h1],fun i d hd => ?_⟩
   cases i with
   | zero=>simp at hd;subst hd;exact ⟨c,rfl,hy⟩
   | succ i=>simp at hd;simpa using h2 i d hd
  ·simp at h
theorem aHj {M:Mem} {B:BM} {p q:PV} {v:Value} (h:tE p=some q) (hr:Rv M B p v):Rv M (iY B) q v:=by
 unfold tE at h
 split at h
 ·obtain ⟨ds,hd,h⟩:=aB h
  cases h
  obtain ⟨h1,h2⟩:=zU hd
  cases hr with
  | agg cs vs f hl hf hrr =>
   refine .agg _ vs f (by omega) (fun i hi=>hf i (by omega)) fun i d hd => ?_
   obtain ⟨c,hc,hu⟩:=h2 i d hd
   exact aFE hu (hrr i c hc)
 ·exact aFE h hr
theorem aII {p q:PV} (h:jK p=some q):(∀ cs,p ≠ .agg cs)→(∀ cs,p ≠ .tuple cs)→(∀ cs,q ≠ .agg cs)∧(∀ cs,q ≠ .tuple cs):=by
 intro h1 h2
 unfold jK at h
 split at h
 ·simp at h
 ·cases h;exact ⟨by simp,by simp⟩
 ·simp at h
 ·cases h;exact ⟨by simp,by simp⟩
 ·cases h;exact ⟨by simp,by simp⟩
 ·cases h;exact ⟨by simp,by simp⟩
 ·split at h
  ·cases h;exact ⟨h1,h2⟩
  ·simp at h
theorem aPY {M:Mem} {w:World} {base:Base} {B:BM} {p q:PV} {v:Value} (h:tE p=some q):(∀ b,cV q v b=cV p v b)∧(hV M w base B p v→hV M w base B q v):=by
 unfold tE at h
 split at h
 ·rename_i cs
  obtain ⟨ds,hd,h⟩:=aB h
  cases h
  obtain ⟨hl1,hl2⟩:=zU hd
  cases v with
  | agg vs =>
   -- cells one by one
   have key:∀ (cs ds:List PV) (l:List Value),oE cs=some ds→(∀ b,sumL (fun x=>c1 x.1 x.2 b) (ds.zip l)=sumL (fun x=>c1 x.1 x.2 b) (cs.zip l))∧((∀ x∈cs.zip l,h1 M w base B x.1 x.2)→∀ x∈ds.zip l,h1 M w base B x.1 x.2):=by
    intro cs
    induction cs with
    | nil=>intro ds l h;simp [oE] at h;subst h;exact ⟨fun _=>rfl,fun h=>h⟩
    | cons c cs ih =>
     intro ds l h
     simp only [oE] at h
     split at h
     ·rename_i y r hy hr
      cases h
      cases l with
      | nil=>exact ⟨fun _=>rfl,fun _=>by simp⟩
      | cons x l =>
       obtain ⟨i1,i2⟩:=ih r l hr
       refine ⟨fun b=>by simp only [List.zip_cons_cons,sumL];rw [i1 b];simp only [c1,aFD hy],fun hh z hz => ?_⟩
       rw [List.zip_cons_cons] at hz hh
       rcases List.mem_cons.1 hz with rfl | hz
       ·exact aHi hy (hh (c,x) (by simp))
       ·exact i2 (fun z hz=>hh z (by simp [hz])) z hz
     ·simp at h
   obtain ⟨k1,k2⟩:=key cs ds vs.toList hd
   exact ⟨fun b=>k1 b,fun hh=>k2 hh⟩
  | _ =>
   refine ⟨fun b => ?_,fun _ => ?_⟩
   ·rw [dV.c (p := .agg ds),dV.c (p := .agg cs)]<;>(intro x hx;simp only [atoms,zipA,List.mem_singleton] at hx;subst hx;exact rX _ _)
   ·apply dV.h;intro x hx;simp only [atoms,zipA,List.mem_singleton] at hx;subst hx;exact rX _ _
 ·rename_i hna
  cases p with
  | tuple ts=>simp [jK,PV.free,PV.solid,PV.solid1] at h
  | agg cs=>exact absurd rfl (hna cs)
  | _ =>
   obtain ⟨q1,q2⟩:=aII h (by simp) (by simp)
   refine ⟨fun b => ?_,fun hh => ?_⟩
   ·rw [yQ q1 q2,yQ (by simp) (by simp)];simp only [c1,aFD h]
   ·rw [aDu q1 q2];rw [aDu (by simp) (by simp)] at hh;exact aHi h hh
theorem aFF:∀ {cs ds:List PV},rU cs=some ds→ds.length=cs.length∧∀ (i:Nat) (d:PV),ds[i]?=some d→∃ c,cs[i]?=some c∧tE c=some d
 | [],ds,h=>by simp [rU] at h;subst h;simp
 | c::cs,ds,h=>by
  simp only [rU] at h
  split at h
  ·rename_i y r hy hr
   cases h
   obtain ⟨h1,h2⟩:=aFF hr
   refine ⟨by simp [h1],fun i d hd => ?_⟩
   cases i with
   | zero=>simp at hd;subst hd;exact ⟨c,rfl,hy⟩
   | succ i=>simp at hd;simpa using h2 i d hd
  ·simp at h
section
variable {P : Program} {base : Base} {M : Mem} {B : BM} {st : St} {tm : Array Value} {w : World}
theorem pZ (b:Nat) (bx:List aV):cBx w B bx b=dH (fun id cs=>cBox w (B 0 id) cs b) (lW bx)+cBx w (iY B) (gJ bx) b:=by
 have sh:∀ (l:List aV) (g:Nat→Nat→List PV→Nat) (d0:Nat),fZ g (d0+1) l=fZ (fun d=>g (d+1)) d0 l:=by
  intro l
  induction l with
  | nil=>intro g d0;rfl
  | cons f r ih=>intro g d0;simp only [fZ];rw [ih]
 cases bx with
 | nil=>rfl
 | cons f r =>
  simp only [cBx,fZ,lW,gJ,Nat.zero_add]
  have:=sh r (fun d id cs=>cBox w (B d id) cs b) 0
  rw [Nat.zero_add] at this
  rw [this];rfl
def aJW (tm:Array Value) (r:ResultVar):Sem Value :=
 match r with
 | .tmp t=>pure (tm.getD t undef)
 | .cell a t=>do loadVar t (← asAddr (tm.getD a undef))
theorem aJX (h:SR base M B st tm w) {own:Bool} {r:ResultVar} {R:Type} {K:PV→Option R} {x:R} (hr:aFy P own st r K=some x) :
  ∃ p v,K p=some x∧(aJW tm r).run P w = .ok v w∧Rv M B p v∧hV M w base B p v ∧
   ∀ b,cV p v b+cBx w (iY B) (gJ st.bx) b≤tot st.fr tm w B st.bx b:=by
 cases r with
 | tmp t =>
  simp only [aFy] at hr
  have hle:∀ b,cV (gets st.fr t) (tm.getD t undef) b≤cF st.fr tm b:=by
   intro b
   by_cases ht:t<tm.size
   ·exact aDr (f:=fun i=>cV (gets st.fr i) (tm.getD i undef) b) tm.size ht
   ·have:tm.getD t undef=undef:=by simp [Array.getD,ht]
    rw [this,(nG _).c];omega
  cases own with
  | true =>
   refine ⟨_,tm.getD t undef,hr,rfl,h.slot t,h.slotH t,fun b => ?_⟩
   have:=hle b
   simp only [tot];rw [pZ b st.bx];omega
  | false =>
   refine ⟨_,tm.getD t undef,hr,rfl,(h.slot t).plain,(bT _ _).h _ _ _ _,fun b => ?_⟩
   rw [(bT _ _).c]
   simp only [tot];rw [pZ b st.bx];omega
 | cell a t =>
  simp only [aFy] at hr
  split at hr
  ·rename_i n ag hsz hag
   split at hr
   ·rename_i d id off hptr
    split at hr
    ·rename_i hn
     obtain ⟨cs,hcs,hr⟩:=aB hr
     rcases aZ hr with ⟨_,hr⟩ | ⟨hnv,hr⟩
     ·simp at hr
     obtain ⟨v,hv,hr⟩:=aB hr
     have hslot:=h.slot a
     rw [hptr] at hslot
     obtain ⟨blk,hB,hav⟩:∃ blk,B d id=some blk∧tm.getD a undef = .pointer (some ⟨blk,off,none⟩):=by
      generalize tm.getD a undef=va at hslot
      cases hslot with
      | ptr d id off b hb=>exact ⟨b,hb,rfl⟩
     have hph:=vJ hnv
     obtain ⟨arr,T,fz,hrow,hlen,hfz,ok,hcell⟩:=mC h hcs hB
     rw [hph] at hlen hcell
     have hn1:ag=false→n=1:=fun hf=>by simpa [hf] using hn.2
     obtain ⟨p1,p2,p3,p4,p5,p6⟩:=aKy ok hph hv hn1
     have hrun:(aJW tm (.cell a t)).run P w = .ok (if ag then .agg ((List.range n).map fun j=>bO w blk (off+j)).toArray else bO w blk off) w:=by
      have:=tG (P:=P) (w:=w) (blk:=blk) (off:=off) hsz hag (fun j hj=>hcell (off+j) (by omega)) (fun _=>hn.1)
      simp only [Instr.loadAt,Sem.run_bind,Instr.sureAddr,Sem.run_pure,Result.andThen_ok] at this
      simp only [aJW,hav,asAddr,Sem.run_bind,Sem.run_pure,Result.andThen_ok]
      exact this
     have plainCase:K (tC d v).plain=some x→∃ p v',K p=some x∧(aJW tm (.cell a t)).run P w = .ok v' w∧Rv M B p v'∧hV M w base B p v'∧∀ b,cV p v' b+cBx w (iY B) (gJ st.bx) b≤tot st.fr tm w B st.bx b:=by
      intro hr
      refine ⟨_,_,hr,hrun,p2.plain,(bT _ _).h _ _ _ _,fun b => ?_⟩
      rw [(bT _ _).c]
      simp only [tot];rw [pZ b st.bx];omega
     split at hr
     ·-- its own
      refine ⟨_,_,hr,hrun,p2,p3,fun b => ?_⟩
      have e1:=p4 b
      have e2:bV n (fun j=>c1 (cs.getD (off+j) .bot) (bO w blk (off+j)) b)≤cS w blk 0 cs b:=by
       rw [lA]
       have hs:cs.length=off+(n+(cs.length-off-n)):=by omega
       rw [hs,uB,uB]
       simp only [Nat.zero_add];omega
      have e3:cS w blk 0 cs b≤dH (fun id cs=>cBox w (B 0 id) cs b) (lW st.bx):=by
       have hm:(id,cs)∈lW st.bx:=by
        rw [uD] at hcs;exact kC hcs
       have:=yO (g:=fun id cs=>cBox w (B 0 id) cs b) (lW st.bx) hm
       simp only [hB,cBox,hph] at this
       exact this
      have e4:cV v (if ag then Value.agg ((List.range n).map fun j=>bO w blk (off+j)).toArray else bO w blk off) b=bV n (fun j=>c1 (cs.getD (off+j) .bot) (bO w blk (off+j)) b):=e1
      simp only [tot];rw [pZ b st.bx,e4];omega
     ·exact plainCase hr
    ·simp at hr
   ·simp at hr
  ·simp at hr
theorem aJY (h:SR base M B st tm w) {R:Type} {x:R}:∀ (l:List ResultVar) (K:List PV→Option R),aJH P st l K=some x →
  ∃ (ps:List PV) (vs:List Value),K ps=some x∧(l.mapM (aJW tm)).run P w = .ok vs w∧ps.length=l.length∧vs.length=l.length∧∀ (i:Nat) (p:PV),ps[i]?=some p→∃ v,vs[i]?=some v∧Rv M B p v
 | [],K,hr=>⟨[],[],hr,by simp,rfl,rfl,by simp⟩
 | r::l,K,hr=>by
  simp only [aJH] at hr
  obtain ⟨p,v,hr,hrun,hrel,_,_⟩:=aJX h hr
  obtain ⟨ps,vs,hK,hruns,h1,h2,h3⟩:=aJY h l _ hr
  refine ⟨p::ps,v::vs,hK,by simp [List.mapM_cons,hrun,hruns],by simp [h1],by simp [h2],fun i q hq => ?_⟩
  cases i with
  | zero=>simp at hq;subst hq;exact ⟨v,rfl,hrel⟩
  | succ i=>simp at hq;simpa using h3 i q hq
theorem aJZ (fn:Func) (tm:Array Value):results fn tm=(do let vs ← fn.results.mapM (aJW tm);pure (if h:vs.size=1 then vs[0] else .tuple vs)):=by
 unfold results
 congr 1
theorem aPZ (h:SR base M B st tm w) {fn:Func} {own:Bool} {r:PV} {u:UP} (hl:aKs P fn own st=some (r,u)) :
  ∃ v,(results fn tm).run P w = .ok v w∧Rv M (iY B) r v∧hV M w base (iY B) r v∧u=gJ st.bx ∧
   ∀ b,cV r v b+cBx w (iY B) u b≤tot st.fr tm w B st.bx b:=by
 unfold aKs at hl
 have harr:fn.results=fn.results.toList.toArray:=by simp
 split at hl
 ·rename_i rv hrs
  obtain ⟨p,v,hl,hrun,hrel,hh,hc⟩:=aJX h hl
  obtain ⟨q,hq,hl⟩:=aB hl
  cases hl
  obtain ⟨o1,o2⟩:=aPY (M:=M) (w:=w) (base:=base) (B:=B) (v:=v) hq
  refine ⟨v,?_,aHj hq hrel,(o2 hh).boxes aKM,rfl,fun b=>by rw [o1 b];exact hc b⟩
  rw [aJZ,harr,hrs]
  simp [Array.mapM_eq_mapM_toList,List.mapM_cons,hrun]
 ·rename_i rs hne
  obtain ⟨ps,vs,hl,hrun,h1,h2,h3⟩:=aJY h _ _ hl
  obtain ⟨qs,hq,hl⟩:=aB hl
  cases hl
  obtain ⟨u1,u2⟩:=aFF hq
  refine ⟨.tuple vs.toArray,?_,?_,(bT _ _).h _ _ _ _,rfl,fun b => ?_⟩
  ·rw [aJZ]
   have hs:vs.toArray.size≠1:=by
    intro h0
    simp only [List.size_toArray] at h0
    rw [h2] at h0
    obtain ⟨x,hx⟩:=List.length_eq_one_iff.1 h0
    exact hne x hx
   have hs':vs.length≠1:=by simpa using hs
   simp [Array.mapM_eq_mapM_toList,hrun,hs']
  ·refine Rv.plain (.tuple qs vs.toArray (fun i=>vs.getD i undef) (by simp;omega) ?_ ?_)
   ·intro i hi
    have:i<vs.length:=by omega
    simp [this]
   ·intro i d hd
    obtain ⟨c,hc,hu⟩:=u2 i d hd
    obtain ⟨v,hv,hr⟩:=h3 i c hc
    have:vs.getD i undef=v:=by simp [List.getD_eq_getElem?_getD,hv]
    rw [this];exact aHj hu hr
  ·rw [(bT _ _).c]
   simp only [tot];rw [pZ b st.bx];omega
end
structure POk (P : Program) : Prop where
 mixed : P.follows .mixedOrders = true
 name : ∀ (f : FuncId) (fn : Func), P.funcs[f]? = some fn → fn.body.isSome = true → (fn.name == "runtime.NumGoroutine") = false
section
variable {P : Program} {base : Base} {M : Mem} {B : BM} {w : World}
theorem bBG {args:List PV} {up:UP} {vals:Array Value} (h:CallPre base M B args up vals w) {nt:Nat} (hn:args.length≤nt) :
  SR base M (nI B) (pX args up) (vals++Array.replicate (nt-vals.size) undef) w ∧
  ∀ b,tot (pX args up).fr (vals++Array.replicate (nt-vals.size) undef) w (nI B) (pX args up).bx b=cA args vals b+cBx w B up b:=by
 have hsz:=h.size
 have hfr:∀ i,gets (pX args up).fr i=if i<args.length then gt args i else .bot:=by
  intro i
  have:=zP (gt args) args (List.range args.length) 0 (fun p i hp=>by
   have hlt:=(List.getElem?_eq_some_iff.1 hp).1
   simp only [List.length_range] at hlt
   rw [List.getElem?_range hlt] at hp
   cases hp;rw [Nat.zero_add]) i
  show gets (jS args 0 (List.range args.length)) i=_
  rw [this]
  simp
 have htm:∀ i,(vals++Array.replicate (nt-vals.size) undef).getD i undef=vals.getD i undef:=by
  intro i
  simp only [Array.getD_eq_getD_getElem?]
  by_cases hi:i<vals.size
  ·rw [Array.getElem?_append_left hi]
  ·rw [Array.getElem?_append_right (by omega),Array.getElem?_eq_none (by omega:vals.size≤i),Array.getElem?_replicate]
   split<;>rfl
 have hgt:∀ i,i<args.length→args[i]?=some (gt args i):=by
  intro i hi;rw [aBF,List.getElem?_eq_getElem hi];rfl
 have hslot:∀ i,Rv M (nI B) (gets (pX args up).fr i) ((vals++Array.replicate (nt-vals.size) undef).getD i undef)∧hV M w base (nI B) (gets (pX args up).fr i) ((vals++Array.replicate (nt-vals.size) undef).getD i undef):=by
  intro i
  rw [hfr,htm]
  split
  ·rename_i hi
   obtain ⟨r1,r2⟩:=h.rel i _ (hgt i hi)
   exact ⟨r1,r2.boxes aV7⟩
  ·exact ⟨.bot _,(zQ _).h _ _ _ _⟩
 have htot:∀ b,tot (pX args up).fr (vals++Array.replicate (nt-vals.size) undef) w (nI B) (pX args up).bx b=cA args vals b+cBx w B up b:=by
  intro b
  have e1:cBx w (nI B) (pX args up).bx b=cBx w B up b:=by
   rw [pZ b (pX args up).bx]
   have:iY (nI B)=B:=by funext d id;rfl
   rw [this]
   simp [pX,lW,gJ,dH]
  have e2:cF (pX args up).fr (vals++Array.replicate (nt-vals.size) undef) b=cA args vals b:=by
   unfold cF cA
   have hs:(vals++Array.replicate (nt-vals.size) undef).size=args.length+(nt-args.length):=by simp;omega
   rw [hs,uB]
   rw [gA (f:=fun i=>cV (gets (pX args up).fr (args.length+i)) ((vals++Array.replicate (nt-vals.size) undef).getD (args.length+i) undef) b) _ (fun i _=>by
    rw [hfr,if_neg (by omega),(zQ _).c])]
   rw [Nat.add_zero]
   apply cR
   intro i hi
   rw [hfr,if_pos hi,htm]
   congr 1
   rw [List.getD_eq_getElem?_getD,hgt i hi];rfl
  simp only [tot,e1,e2]
 refine ⟨⟨h.cons,fun i=>(hslot i).1,fun i=>(hslot i).2,⟨?_,?_,?_,?_⟩,fun b=>by rw [htot];exact h.one b,h.glob,h.base⟩,htot⟩
 ·intro d f hf
  cases d with
  | zero=>simp [pX] at hf;subst hf;simp
  | succ d=>exact h.box.nodup d f (by simpa [pX] using hf)
 ·intro d id hn'
  cases d with
  | zero=>rfl
  | succ d=>exact h.box.dom d id (by simpa [pX,dR] using hn')
 ·intro d id cs hc
  cases d with
  | zero=>simp [pX,bD,look] at hc
  | succ d =>
   obtain ⟨hv,hbk⟩:=h.box.ok d id cs (by simpa [pX,dR] using hc)
   refine ⟨hv,?_⟩
   rcases hbk with ⟨blk,hB,ok⟩ | hno
   rotate_left
   ·exact .inr hno
   refine .inl ⟨blk,hB,ok.old,ok.row,ok.free,fun j c hj => ?_⟩
   obtain ⟨r1,r2,r3⟩:=ok.rel j c hj
   have:upB (d+1) (nI B)=upB d B:=by
    funext e id;simp only [upB];rw [show d+1+e=(d+e)+1 by omega];rfl
   rw [this]
   exact ⟨r1,r2.boxes aV7,r3⟩
 ·intro d id d' id' blk h1 h2
  cases d with
  | zero=>simp [nI] at h1
  | succ d =>
   cases d' with
   | zero=>simp [nI] at h2
   | succ d' =>
    have:=h.box.inj d id d' id' blk h1 h2
    exact ⟨by omega,this.2⟩
theorem aT9 (hP : POk P) {O : Orc} {LP : bL → bL} (hO : aKD P base.g O) (hL : aM2 LP) {f : FuncId} {fn : Func} (hf : P.funcs[f]? = some fn) {mt : Hints} {args : List PV} {up : UP} {r : PV} {up' : UP}
  (h : kB P mt fn.ntmps O LP fn args up = some (r, up')) {vals : Array Value} (hpre : CallPre base M B args up vals w) : tH P f vals w (gM base M B args up vals w r up') := by
 unfold kB at h
 split at h
 ·rename_i c hc
  split at h
  ·rename_i hle
   left
   refine ⟨f, vals, ?_, ?_⟩
   ·have hn := hP.name f fn hf (by rw [hc]; rfl)
    have hn' : ¬ fn.name = "runtime.NumGoroutine" := by intro e; rw [e] at hn; simp at hn
    simp [callFunc, hf, hn', hc]
   ·refine calls_of_wp hf hc ?_
    obtain ⟨hsr, htot⟩ := bBG hpre hle
    have hsize : (vals ++ Array.replicate (fn.ntmps - vals.size) undef).size = fn.ntmps := by
     have := hpre.size; simp; omega
    rw [bS] at h
    obtain ⟨⟨e, st'⟩, hev, h⟩ := aB h
    rw [← hsize] at hev
    have main : aKs P fn mt.own st' = some (r, up') → ∀ (a' : Act) (w' : World), Rch base M (nI B) (pX args up) (vals ++ Array.replicate (fn.ntmps - vals.size) undef) w st' a'.tmps w' → a'.defers = [] →
      a'.defers = [] ∧ ∃ v, (results fn a'.tmps).run P w' = .ok v w' ∧ ∃ v', Ending.returned v = .returned v' ∧ gM base M B args up vals w r up' v' w' := by
     intro hl a' w' hr hd
     obtain ⟨q1, M', B', q2, q3⟩ := hr
     obtain ⟨v, hrun, hrel, hh, hu, hc'⟩ := aPZ q2 hl
     have hB : iY B' = B := by
      funext d id; exact q3.outer d id
     rw [hB] at hrel hh hc'
     refine ⟨hd, v, hrun, v, rfl, M', hrel, hh, ?_, q2.cons, fun b => Nat.le_trans (hc' b) (q2.one b), ?_⟩
     ·subst hu
      refine ⟨?_, ?_, ?_, ?_⟩
      ·intro d f hf
       cases hb : st'.bx with
       | nil => rw [hb] at hf; simp [gJ] at hf
       | cons f0 r0 => rw [hb] at hf; exact q2.box.nodup (d + 1) f (by rw [hb]; simpa [gJ] using hf)
      ·intro d id hn
       rw [← nL] at hn
       have := q2.box.dom (d + 1) id hn
       rw [← hB]; exact this
      ·intro d id cs hcs
       rw [← nL] at hcs
       obtain ⟨hv, hbk⟩ := q2.box.ok (d + 1) id cs hcs
       refine ⟨hv, ?_⟩
       rcases hbk with ⟨blk, hb, ok⟩ | hno
       rotate_left
       ·exact .inr ⟨by rw [← hB]; exact hno.1, hno.2⟩
       refine .inl ⟨blk, by rw [← hB]; exact hb, ok.old, ok.row, ok.free, fun j c hj => ?_⟩
       obtain ⟨r1, r2, r3⟩ := ok.rel j c hj
       have : upB (d + 1) B' = upB d B := by
        rw [← hB]; funext e id; simp only [upB, iY]; rw [show d + 1 + e = d + e + 1 by omega]
       rw [this] at r1
       exact ⟨r1, by rw [← hB]; exact r2.boxes aKM, r3⟩
      ·intro d id d' id' blk h1 h2
       rw [← hB] at h1 h2
       have := q2.box.inj (d + 1) id (d' + 1) id' blk h1 h2
       exact ⟨by omega, this.2⟩
     ·have ht0 : tot (pX args up).fr (vals ++ Array.replicate (fn.ntmps - vals.size) undef) w (nI B) (pX args up).bx = fun b => cA args vals b + cBx w B up b := funext htot
      rw [ht0] at q3
      refine ⟨q3.os, q3.tape, q3.output, q3.size, q3.mono, ?_, ?_, fun d id b hb _ => ⟨d, id, hb⟩, fun _ _ => rfl⟩
      ·intro b hb hn
       refine q3.keep b hb ?_
       rintro (h1 | ⟨d, id, h2⟩)
       ·exact hn (.inl h1)
       ·cases d with
        | zero => simp [nI] at h2
        | succ d => exact hn (.inr ⟨d, id, h2⟩)
      ·intro b hb
       have := q3.tle b hb
       exact Nat.le_trans (hc' b) this
    refine lC hP.mixed hO hL c _ _ _ base.n M (nI B) ⟨vals ++ Array.replicate (fn.ntmps - vals.size) undef, []⟩ w hev hsr _ fun a' w' hr hd => ?_
    cases e with
    | nrm => exact main h a' w' hr hd
    | brk i => simp at h
    | ret => exact main h a' w' hr hd
  ·simp at h
 ·simp at h
theorem aX8 (n:Nat):aM2 (oP n):=fun _ _ _ _ h=>⟨n,h⟩
end
def low1:PV→PV
 | .ptr (d+2) id o => .ptr (d+1) id o
 | v=>v
def low:PV→PV
 | .func f first caps => .func f (first.map low1) (caps.map low1)
 | .agg cs => .agg (cs.map low1)
 | v=>low1 v
def lD:PV→Bool
 | .ptr 0 _ _=>false
 | .ptr 1 _ _=>false
 | .ptr (_+2) _ _=>true
 | .ref _ | .nilptr | .nilFunc | .bot | .und=>true
 | .func _ first caps=>first.all solid&&caps.all solid
 | v=>v.solid
def zW:PV→Bool
 | .func _ first caps=>first.all lD&&caps.all lD
 | .agg cs=>cs.all lD
 | v=>lD v
theorem aV8 (p:PV) (v:Value):own1 (low1 p) v=own1 p v:=by
 unfold low1;split
 ·cases v<;>rfl
 ·rfl
theorem bAH {M:Mem} {w:World} {base:Base} {B:BM} (p:PV) (v:Value):h1 M w base B (low1 p) v↔h1 M w base B p v:=by
 unfold low1;split
 ·cases v<;>exact Iff.rfl
 ·exact Iff.rfl
theorem aX9 (d id o:Nat):∃ d',low1 (.ptr d id o) = .ptr d' id o:=by
 cases d with
 | zero=>exact ⟨0,rfl⟩
 | succ d=>cases d with
  | zero=>exact ⟨1,rfl⟩
  | succ d=>exact ⟨d+1,rfl⟩
theorem aM3 (p:PV) (v:Value) (ht:∀ cs,p ≠ .tuple cs):(∃ g:List (PV×Value),atoms (low p) v=g.map (fun x=>(low1 x.1,x.2))∧atoms p v=g)∨(dV (low p) v∧dV p v):=by
 cases p with
 | agg cs =>
  cases v with
  | agg vs=>left;exact ⟨cs.zip vs.toList,by simp only [low,atoms,zipA];exact yX _ _ _,rfl⟩
  | _ =>
   right
   constructor
   ·intro x hx;simp only [low,atoms,zipA,List.mem_singleton] at hx;subst hx;exact rX _ _
   ·intro x hx;simp only [atoms,zipA,List.mem_singleton] at hx;subst hx;exact rX _ _
 | tuple cs=>exact absurd rfl (ht cs)
 | func f a b=>right;exact ⟨qH _ _ _ _,qH _ _ _ _⟩
 | ptr d i o =>
  right
  obtain ⟨d',hd⟩:=aX9 d i o
  refine ⟨?_,mB _ _ _ _⟩
  show dV (low1 (.ptr d i o)) v
  rw [hd];exact mB _ _ _ _
 | slice es bs o=>left;exact ⟨[(.slice es bs o,v)],by cases v<;>rfl,by cases v<;>rfl⟩
 | mk0 sz=>left;exact ⟨[(.mk0 sz,v)],by cases v<;>rfl,by cases v<;>rfl⟩
 | bot=>left;exact ⟨[(.bot,v)],by cases v<;>rfl,by cases v<;>rfl⟩
 | und=>left;exact ⟨[(.und,v)],by cases v<;>rfl,by cases v<;>rfl⟩
 | bool b=>left;exact ⟨[(.bool b,v)],by cases v<;>rfl,by cases v<;>rfl⟩
 | int k n=>left;exact ⟨[(.int k n,v)],by cases v<;>rfl,by cases v<;>rfl⟩
 | str s=>left;exact ⟨[(.str s,v)],by cases v<;>rfl,by cases v<;>rfl⟩
 | ref e=>left;exact ⟨[(.ref e,v)],by cases v<;>rfl,by cases v<;>rfl⟩
 | nilptr=>left;exact ⟨[(.nilptr,v)],by cases v<;>rfl,by cases v<;>rfl⟩
 | nilFunc=>left;exact ⟨[(.nilFunc,v)],by cases v<;>rfl,by cases v<;>rfl⟩
 | rsl d i n z=>left;exact ⟨[(.rsl d i n z,v)],by cases v<;>rfl,by cases v<;>rfl⟩
 | vec z E=>left;exact ⟨[(.vec z E,v)],by cases v<;>rfl,by cases v<;>rfl⟩
theorem aSm {p:PV} (h:zW p=true):∀ cs,p ≠ .tuple cs:=by
 intro cs e;subst e;simp [zW,lD,PV.solid,PV.solid1] at h
theorem bBH {p:PV} (hs:zW p=true) (v:Value) (b:Nat):cV (low p) v b=cV p v b:=by
 rcases aM3 p v (aSm hs) with ⟨g,h1,h2⟩ | ⟨h1,h2⟩
 ·simp only [cV,h1,h2,aGz,c1,aV8]
 ·rw [h1.c,h2.c]
theorem bBI {M:Mem} {w:World} {base:Base} {B:BM} {p:PV} (hs:zW p=true) (v:Value) (h:hV M w base B p v):hV M w base B (low p) v:=by
 rcases aM3 p v (aSm hs) with ⟨g,h1,h2⟩ | ⟨h1,h2⟩
 ·intro x hx
  rw [h1] at hx
  obtain ⟨y,hy,rfl⟩:=List.mem_map.1 hx
  exact (bAH _ _).2 (h y (by rw [h2];exact hy))
 ·exact h1.h M w base B
section
variable {M : Mem} {B : BM}
theorem Rv.low0 {p:PV} {v:Value} (h:Rv M (nI B) p v) (hs:lD p=true):Rv M (nI (iY B)) (low1 p) v:=by
 cases h with
 | ptr d id off b hb =>
  cases d with
  | zero=>simp [lD] at hs
  | succ d=>cases d with
   | zero=>simp [lD] at hs
   | succ d=>exact .ptr (d+1) id off b (by simpa [nI,iY] using hb)
 | bot v=>exact .bot v
 | und=>exact .und
 | nilptr=>exact .nilptr
 | vec=>simp [lD,PV.solid,PV.solid1] at hs
 | vecNil=>simp [lD,PV.solid,PV.solid1] at hs
 | nilFunc=>exact .nilFunc
 | ref e a s f ha hel hm hr=>exact .ref e a s f ha hel hm (fun j c hc=>(hr j c hc).anyB1 _ (hel.cell hc))
 | func fn first caps vf vc f g hp hl hf hrf hl' hg hrg=>exact (Rv.func fn first caps vf vc f g hp hl hf hrf hl' hg hrg).anyBfree _ (by simpa [PV.free,lD] using hs)
 | bool b=>exact .bool b
 | int k n=>exact .int k n
 | str s=>exact .str s
 | agg cs vs f hl hf hr=>exact (Rv.agg cs vs f hl hf hr).anyB _ (by simpa [lD] using hs)
 | tuple cs vs f hl hf hr=>simp [lD,PV.solid,PV.solid1] at hs
 | rsl=>simp [lD,PV.solid,PV.solid1] at hs
 | rslNil=>simp [lD,PV.solid,PV.solid1] at hs
 | nil o=>exact .nil o
 | slice es bs o a cap s f ha hc ho hel hm hr=>exact (Rv.slice es bs o a cap s f ha hc ho hel hm hr).anyB _ rfl
 | mk0 sz a cap ha=>exact .mk0 sz a cap ha
theorem aUa {c:PV} (h:c.plain=c):(low1 c).plain=low1 c:=by
 unfold low1;split
 ·rfl
 ·exact h
theorem Rv.low {p:PV} {v:Value} (h:Rv M (nI B) p v) (hs:zW p=true):Rv M (nI (iY B)) (Ev.low p) v:=by
 cases h with
 | func fn first caps vf vc f g hp hl hf hrf hl' hg hrg =>
  simp only [zW,Bool.and_eq_true,List.all_eq_true] at hs
  refine .func fn _ _ vf vc f g ?_ (by simpa using hl) (by simpa using hf) ?_ (by simpa using hl') (by simpa using hg) ?_
  ·intro c hc
   rw [← List.map_append] at hc
   obtain ⟨x,hx,rfl⟩:=List.mem_map.1 hc
   exact aUa (hp x hx)
  ·intro i c hc
   rw [List.getElem?_map,Option.map_eq_some_iff] at hc
   obtain ⟨x,hx,rfl⟩:=hc
   exact (hrf i x hx).low0 (hs.1 x (List.mem_of_getElem? hx))
  ·intro i c hc
   rw [List.getElem?_map,Option.map_eq_some_iff] at hc
   obtain ⟨x,hx,rfl⟩:=hc
   exact (hrg i x hx).low0 (hs.2 x (List.mem_of_getElem? hx))
 | agg cs vs f hl hf hr =>
  simp only [zW,List.all_eq_true] at hs
  refine .agg _ vs f (by simpa using hl) (by simpa using hf) ?_
  intro i c hc
  rw [List.getElem?_map,Option.map_eq_some_iff] at hc
  obtain ⟨x,hx,rfl⟩:=hc
  exact (hr i x hx).low0 (hs x (List.mem_of_getElem? hx))
 | ptr d id off b hb=>exact (Rv.ptr d id off b hb).low0 hs
 | bot v=>exact .bot v
 | und=>exact .und
 | nilptr=>exact .nilptr
 | vec=>simp [zW,lD,PV.solid,PV.solid1] at hs
 | vecNil=>simp [zW,lD,PV.solid,PV.solid1] at hs
 | nilFunc=>exact .nilFunc
 | ref e a s f ha hel hm hr=>exact (Rv.ref e a s f ha hel hm hr).low0 rfl
 | bool b=>exact .bool b
 | int k n=>exact .int k n
 | str s=>exact .str s
 | tuple cs vs f hl hf hr=>simp [zW,lD,PV.solid,PV.solid1] at hs
 | rsl=>simp [zW,lD,PV.solid,PV.solid1] at hs
 | rslNil=>simp [zW,lD,PV.solid,PV.solid1] at hs
 | nil o=>exact .nil o
 | slice es bs o a cap s f ha hc ho hel hm hr=>exact (Rv.slice es bs o a cap s f ha hc ho hel hm hr).low0 rfl
 | mk0 sz a cap ha=>exact .mk0 sz a cap ha
end
section
variable {base : Base} {M : Mem} {B : BM} {w : World}
theorem aM4 {args:List PV} {vals:Array Value} (hd:args.all zW=true) (b:Nat):cA (args.map low) vals b=cA args vals b:=by
 unfold cA
 rw [List.length_map]
 apply cR
 intro i hi
 have e1:(args.map low).getD i .bot=low (args.getD i .bot):=by
  simp only [List.getD_eq_getElem?_getD,List.getElem?_map,List.getElem?_eq_getElem hi,Option.map_some,Option.getD_some]
 rw [e1]
 apply bBH
 apply List.all_eq_true.1 hd
 simp only [List.getD_eq_getElem?_getD,List.getElem?_eq_getElem hi,Option.getD_some]
 exact List.getElem_mem hi
theorem aSn (d:Nat) (B:BM):upB d (iY B)=upB (d+1) B:=by
 funext e id;simp only [upB,iY];rw [show d+e+1=d+1+e by omega]
theorem aYa {args:List PV} {f0:aV} {up:UP} {vals:Array Value} (h:CallPre base M B args (f0::up) vals w) (hd:args.all zW=true):CallPre base M (iY B) (args.map low) up vals w:=by
 refine ⟨h.cons,by rw [List.length_map];exact h.size,?_,⟨?_,?_,?_,?_⟩,?_,h.glob,h.base⟩
 ·intro i p hp
  rw [List.getElem?_map,Option.map_eq_some_iff] at hp
  obtain ⟨q,hq,rfl⟩:=hp
  obtain ⟨r1,r2⟩:=h.rel i q hq
  have hq':=List.all_eq_true.1 hd q (List.mem_of_getElem? hq)
  exact ⟨r1.low hq',(bBI hq' _ r2).boxes aKM⟩
 ·intro d f hf
  exact h.box.nodup (d+1) f (by simpa using hf)
 ·intro d id hn
  exact h.box.dom (d+1) id (by rw [nL];exact hn)
 ·intro d id cs hcs
  obtain ⟨hv,hbk⟩:=h.box.ok (d+1) id cs (by rw [nL];exact hcs)
  refine ⟨hv,?_⟩
  rcases hbk with ⟨blk,hB,ok⟩ | hno
  rotate_left
  ·exact .inr hno
  refine .inl ⟨blk,hB,ok.old,ok.row,ok.free,fun j c hj => ?_⟩
  obtain ⟨r1,r2,r3⟩:=ok.rel j c hj
  exact ⟨by rw [aSn];exact r1,r2.boxes aKM,r3⟩
 ·intro d id d' id' blk h1 h2
  have:=h.box.inj (d+1) id (d'+1) id' blk h1 h2
  exact ⟨by omega,this.2⟩
 ·intro b
  rw [aM4 hd]
  have e1:=h.one b
  have e2:=pZ (w:=w) (B:=B) b (f0::up)
  simp only [gJ] at e2
  omega
end
theorem aM5 (w:World) (blk b:Nat):∀ (l:List PV) (k j:Nat) (c:PV),l[j]?=some c→c1 c (bO w blk (k+j)) b≤cS w blk k l b:=by
 intro l
 induction l with
 | nil=>intro k j c hj;simp at hj
 | cons a l ih =>
  intro k j c hj
  cases j with
  | zero=>simp at hj;subst hj;simp [cS]
  | succ j=>simp at hj;have:=ih (k+1) j c hj;simp only [cS];rw [show k+(j+1)=k+1+j by omega];omega
theorem bAI {w:World} {B:BM} {bx:List aV} {d id blk:Nat} {cs:List PV} (hb:aX bx d id=some cs) (hB:B d id=some blk) {j:Nat} {c:PV} (hj:(phys cs)[j]?=some c) (b:Nat):c1 c (bO w blk j) b≤cBx w B bx b:=by
 have k2:=aM5 w blk b (phys cs) 0 j c hj
 rw [Nat.zero_add] at k2
 have gen:∀ (bx:List aV) (d0 d:Nat),aX bx d id=some cs→cBox w (B (d0+d) id) cs b≤fZ (fun d id cs=>cBox w (B d id) cs b) d0 bx:=by
  intro bx
  induction bx with
  | nil=>intro d0 d hh;simp [aX,nth] at hh
  | cons f r ih =>
   intro d0 d hh
   simp only [fZ]
   cases d with
   | zero =>
    simp only [aX,nth] at hh
    have:=yO (g:=fun id cs=>cBox w (B d0 id) cs b) f (kC hh)
    simp only [Nat.add_zero];omega
   | succ d =>
    have:=ih (d0+1) d (by simpa [aX,nth] using hh)
    rw [show d0+(d+1)=d0+1+d by omega];omega
 have:=gen bx 0 d hb
 rw [Nat.zero_add,hB] at this
 unfold cBx
 simp only [cBox] at this ⊢
 omega
section
variable {base : Base} {M : Mem} {B : BM} {w : World}
theorem CallPre.sr {args:List PV} {up:UP} {vals:Array Value} (h:CallPre base M B args up vals w):SR base M B ⟨[],up⟩ #[] w:=by
 refine ⟨h.cons,fun i => .bot _,fun i=>(zQ _).h _ _ _ _,h.box,fun b => ?_,h.glob,h.base⟩
 have:=h.one b
 have e:tot [] #[] w B up b=cBx w B up b:=by simp [tot,cF,bV]
 show tot [] #[] w B up b≤1
 rw [e];omega
theorem CallPre.own {args:List PV} {up:UP} {vals:Array Value} (h:CallPre base M B args up vals w) {b:Nat} (hb:1≤cA args vals b+cBx w B up b):b<w.heap.size∧∀ d id,B d id≠some b:=by
 by_cases ha:1≤cA args vals b
 ·obtain ⟨i,p,hp,hcv⟩:=aSh ha
  have:=aSi (h.rel i p hp).2 hcv
  exact ⟨this.2.1,this.1⟩
 ·have e:tot [] #[] w B up b=cBx w B up b:=by simp [tot,cF,bV]
  have:=h.sr.tot_own (b:=b) (by show 1≤tot [] #[] w B up b;rw [e];omega)
  exact ⟨this.1,this.2.1⟩
theorem aV9 {args:List PV} {f0:aV} {up up':UP} {vals:Array Value} {r:PV} {v:Value} {w':World} (h:CallPre base M B args (f0::up) vals w) (hd:args.all zW=true) (hf:r.free=true)
  (hp:gM base M (iY B) (args.map low) up vals w r up' v w'):gM base M B args (f0::up) vals w r (f0::up') v w':=by
 obtain ⟨M',hr,hh,hbx,hc,hone,evo⟩:=hp
 have hsr:=h.sr
 have hsplit:∀ b,cBx w B (f0::up) b=dH (fun id cs=>cBox w (B 0 id) cs b) f0+cBx w (iY B) up b:=fun b=>pZ (w:=w) (B:=B) b (f0::up)
 -- what lies in the frame that is left out is not touched
 have hown:∀ b,1≤cA args vals b+cBx w (iY B) up b→b<w.heap.size∧∀ d id,B d id≠some b:=fun b hb=>h.own (by rw [hsplit];omega)
 have hkeep:∀ b,b<w.heap.size→cA args vals b+cBx w (iY B) up b=0→(∀ d id,B (d+1) id≠some b)→w'.heap[b]?=w.heap[b]?∧∀ i,M' b i=M b i:=by
  intro b hb hz hn
  refine evo.keep b hb ?_
  rintro (h1 | ⟨d,id,h2⟩)
  ·have h1':1≤cA (args.map low) vals b+cBx w (iY B) up b:=h1
   rw [aM4 hd] at h1';omega
  ·exact hn d id h2
 have hblk:∀ id blk,B 0 id=some blk→w'.heap[blk]?=w.heap[blk]?∧∀ i,M' blk i=M blk i:=by
  intro id blk hB
  refine hkeep blk (hsr.box_lt hB).1 ?_ ?_
  ·cases hx:cA args vals blk+cBx w (iY B) up blk with
   | zero=>rfl
   | succ n=>exact absurd hB ((hown blk (by omega)).2 0 id)
  ·intro d id' h2
   have:=h.box.inj 0 id (d+1) id' blk hB h2
   omega
 have hcell:∀ id blk j,B 0 id=some blk→bO w' blk j=bO w blk j:=by
  intro id blk j hB
  simp [bO,World.cell?,(hblk id blk hB).1]
 have hfr:∀ b,dH (fun id cs=>cBox w' (B 0 id) cs b) f0=dH (fun id cs=>cBox w (B 0 id) cs b) f0:=by
  intro b
  apply eM
  intro id cs _
  unfold cBox
  cases hB:B 0 id with
  | none=>rfl
  | some blk =>
   have:∀ (cs:List PV) (j:Nat),cS w' blk j cs b=cS w blk j cs b:=by
    intro cs
    induction cs with
    | nil=>intro j;rfl
    | cons c cs ih=>intro j;simp only [cS,hcell id blk j hB,ih]
   exact this (phys cs) 0
 have hsplit':∀ b,cBx w' B (f0::up') b=dH (fun id cs=>cBox w (B 0 id) cs b) f0+cBx w' (iY B) up' b:=by
  intro b
  rw [pZ (w:=w') (B:=B) b (f0::up')]
  simp only [lW,gJ,hfr b]
 -- what is owned behind the call is no variable
 have hnew:∀ b,1≤cV r v b+cBx w' (iY B) up' b→∀ d id,B d id≠some b:=by
  intro b hb d id hB
  have hlt:=(hsr.box_lt hB).1
  have:=evo.tle b hlt
  have h2:1≤cA (args.map low) vals b+cBx w (iY B) up b:=Nat.le_trans hb this
  rw [aM4 hd] at h2
  exact (hown b h2).2 d id hB
 have hlift:∀ p x,(∀ b,own1 p x=some b→∀ d id,B d id≠some b)→h1 M' w' base (iY B) p x→h1 M' w' base B p x:=by
  intro p x hn h1p
  exact h1p.world (fun _ _ _ hx=>hx) fun b ho _=>⟨rfl,fun _=>rfl,fun d id hB=>absurd hB (hn b ho d id)⟩
 refine ⟨M',hr.anyBfree _ hf,?_,⟨?_,?_,?_,h.box.inj⟩,hc,?_,?_⟩
 ·intro x hx
  refine hlift _ _ (fun b ho=>hnew b ?_) (hh x hx)
  have e1:c1 x.1 x.2 b=1:=by simp [c1,ho]
  have e2:c1 x.1 x.2 b≤cV r v b:=aGW (f:=fun y=>c1 y.1 y.2 b) _ hx
  omega
 ·intro d f hf'
  cases d with
  | zero=>exact h.box.nodup 0 f (by simpa using hf')
  | succ d=>exact hbx.nodup d f (by simpa using hf')
 ·intro d id hn
  cases d with
  | zero=>exact h.box.dom 0 id hn
  | succ d=>exact hbx.dom d id (by rw [nL] at hn;exact hn)
 ·intro d id cs hcs
  cases d with
  | zero =>
   obtain ⟨hv,hbk⟩:=h.box.ok 0 id cs hcs
   refine ⟨hv,?_⟩
   rcases hbk with ⟨blk,hB,⟨o,⟨arr,T,fz,hr1,hsz⟩,fr,rel⟩⟩ | hno
   rotate_left
   ·exact .inr hno
   obtain ⟨g1,g2⟩:=hblk id blk hB
   refine .inl ⟨blk,hB,o,⟨arr,T,fz,by rw [g1];exact hr1,hsz⟩,fun i=>by rw [g2];exact fr i,fun j c hj => ?_⟩
   rw [hcell id blk j hB]
   obtain ⟨r1,r2,r3⟩:=rel j c hj
   refine ⟨r1.mono evo.mono (fun _ _ _ hx=>hx),r2.world evo.mono fun b ho hlt => ?_,r3⟩
   have e1:c1 c (bO w blk j) b=1:=by simp [c1,ho]
   have e3:=h.one b
   have e4:dH (fun id cs=>cBox w (B 0 id) cs b) f0≥1:=by
    have k1:(id,cs)∈f0:=kC (by simpa [aX,nth] using hcs)
    have k2:=yO (g:=fun id cs=>cBox w (B 0 id) cs b) f0 k1
    have k3:=aM5 w blk b (phys cs) 0 j c hj
    rw [Nat.zero_add] at k3
    refine Nat.le_trans ?_ k2
    show 1≤cBox w (B 0 id) cs b
    rw [hB]
    show 1≤cS w blk 0 (phys cs) b
    omega
   have e5:=hsplit b
   obtain ⟨x1,x2⟩:=hkeep b hlt (by omega) (fun d' id' h2=>(r2.nobox ho).1 (d'+1) id' h2)
   exact ⟨x1,x2,fun _ _ hx=>hx⟩
  | succ d =>
   rw [nL] at hcs
   obtain ⟨hv,hbk⟩:=hbx.ok d id cs hcs
   refine ⟨hv,?_⟩
   rcases hbk with ⟨blk,hB,ok⟩ | hno
   rotate_left
   ·exact .inr hno
   refine .inl ⟨blk,hB,ok.old,ok.row,ok.free,fun j c hj => ?_⟩
   obtain ⟨r1,r2,r3⟩:=ok.rel j c hj
   refine ⟨by rw [← aSn];exact r1,hlift _ _ (fun b ho=>hnew b ?_) r2,r3⟩
   have e1:c1 c (bO w' blk j) b=1:=by simp [c1,ho]
   have e2:=bAI (w:=w') (B:=iY B) (bx:=up') hcs hB hj b
   omega
 ·intro b
  rw [hsplit' b]
  have e1:=h.one b
  have e2:=hsplit b
  have e3:=hone b
  by_cases hb:b<w.heap.size
  ·have e4:=evo.tle b hb
   have e4':cV r v b+cBx w' (iY B) up' b≤cA (args.map low) vals b+cBx w (iY B) up b:=e4
   rw [aM4 hd] at e4'
   omega
  ·have:dH (fun id cs=>cBox w (B 0 id) cs b) f0=0:=by
    cases hx:dH (fun id cs=>cBox w (B 0 id) cs b) f0 with
    | zero=>rfl
    | succ n=>exact absurd (h.own (b:=b) (by rw [hsplit];omega)).1 hb
   omega
 ·refine ⟨evo.os,evo.tape,evo.output,evo.size,evo.mono,?_,?_,fun d id b hb _=>⟨d,id,hb⟩,fun _ _=>rfl⟩
  ·intro b hb hn
   refine hkeep b hb ?_ (fun d id h2=>hn (.inr ⟨d+1,id,h2⟩))
   cases hx:cA args vals b+cBx w (iY B) up b with
   | zero=>rfl
   | succ n =>
    refine absurd (Or.inl ?_) hn
    show 1≤cA args vals b+cBx w B (f0::up) b
    rw [hsplit];omega
  ·intro b hb
   have e4:=evo.tle b hb
   have e4':cV r v b+cBx w' (iY B) up' b≤cA (args.map low) vals b+cBx w (iY B) up b:=e4
   rw [aM4 hd] at e4'
   show cV r v b+cBx w' B (f0::up') b≤cA args vals b+cBx w B (f0::up) b
   rw [hsplit' b,hsplit b];omega
end
def OLe (O O':Orc):Prop:=∀ f a u r,O f a u=some r→O' f a u=some r
def BLe (x y:bL):Prop:=∀ s u r,x s u=some r→y s u=some r
def LLe (L L':bL→bL):Prop:=∀ x y,BLe x y→BLe (L x) (L' y)
section
variable {P : Program} {mt : Hints} {nt : Nat} {O O' : Orc} {LP LP' : bL → bL}
theorem aHk (hO:OLe O O') {o:Oper} {st:St} {e:Eff} (h:aS P mt nt O o st some=some e):aS P mt nt O' o st some=some e:=by
 cases ho:o.op with
 | call c =>
  simp only [aS,ho,gI] at h ⊢
  cases hc:c.callee with
  | value f =>
   simp only [hc] at h ⊢
   split at h
   ·rename_i g first caps hf
    split at h
    ·simp at h
    ·rcases aZ h with ⟨hs,h⟩ | ⟨_,h⟩
     ·obtain ⟨r,hr,h⟩:=aB h
      rw [hs,hO _ _ _ _ hr];exact h
     ·simp at h
    ·split at h
     ·rcases aZ h with ⟨hb,h⟩ | ⟨_,h⟩
      ·unfold aT at h ⊢
       rcases aZ h with ⟨hs,h⟩ | ⟨_,h⟩
       ·obtain ⟨r,hr,h⟩:=aB h
        rw [hb,hs,hO _ _ _ _ hr];exact h
       ·simp at h
      ·simp at h
     ·simp at h
     ·unfold aT at h ⊢
      rcases aZ h with ⟨hs,h⟩ | ⟨_,h⟩
      ·obtain ⟨r,hr,h⟩:=aB h
       rw [hs,hO _ _ _ _ hr];exact h
      ·simp at h
     ·unfold aT at h ⊢
      rcases aZ h with ⟨hs,h⟩ | ⟨_,h⟩
      ·obtain ⟨r,hr,h⟩:=aB h
       rw [hs,hO _ _ _ _ hr];exact h
      ·simp at h
   ·simp at h
  | invoke r n=>simp only [hc] at h ⊢;exact h
  | builtin b=>cases b<;>simp only [hc] at h ⊢ <;> exact h
 | _=>simp only [aS,ho] at h ⊢ <;> exact h
theorem zY (hO:OLe O O') {ops:Array Oper}:∀ (os:List Oper) {st st':St},iI P mt nt O ops os st some=some st'→iI P mt nt O' ops os st some=some st'
 | [],_,_,h=>h
 | o::os,st,st',h=>by
  simp only [iI] at h ⊢
  rw [gN] at h ⊢
  obtain ⟨⟨b,s⟩,hg,h⟩:=aB h
  rw [hg]
  simp only [bnd] at h ⊢
  cases b with
  | true =>
   simp only at h ⊢
   rw [eZ] at h ⊢
   obtain ⟨e,he,h⟩:=aB h
   rw [aHk hO he]
   exact zY hO os h
  | false=>exact zY hO os h
theorem qA (hO:OLe O O') {ops:Array Oper}:∀ (os:List Oper) (i:Nat) (log:List (Nat×Foot)) {st:St} {r:List (Nat×Foot)×St},bW P mt nt O ops i os log st (fun l s=>some (l,s))=some r →
  bW P mt nt O' ops i os log st (fun l s=>some (l,s))=some r
 | [],_,_,_,_,h=>h
 | o::os,i,log,st,r,h=>by
  simp only [bW] at h ⊢
  rw [gN] at h ⊢
  obtain ⟨⟨b,s⟩,hg,h⟩:=aB h
  rw [hg]
  simp only [bnd] at h ⊢
  cases b with
  | true =>
   simp only at h ⊢
   rw [eZ] at h ⊢
   obtain ⟨e,he,h⟩:=aB h
   rw [aHk hO he]
   simp only [bnd]
   cases hu:e.up with
   | some u =>
    rw [hu] at h;simp only at h ⊢
    split at h
    ·exact qA hO os _ _ h
    ·simp at h
   | none=>rw [hu] at h;exact qA hO os _ _ h
  | false=>exact qA hO os _ _ h
theorem fC (hO:OLe O O') (hL:LLe LP LP'):∀ (c:Code) {st:St} {r:Ex×St},aR P mt nt O LP c st (fun e s=>some (e,s))=some r→aR P mt nt O' LP' c st (fun e s=>some (e,s))=some r
 | .skip,_,_,h=>h
 | .label _,_,_,h=>h
 | .exit _,_,_,h=>h
 | .ret,_,_,h=>h
 | .region id ops draw,st,r,h=>by
  simp only [aR] at h ⊢
  rw [iX] at h ⊢
  obtain ⟨sf,hf,h⟩:=aB h
  rw [hf]
  simp only [bK]
  cases draw with
  | false =>
   simp only at h ⊢
   rw [nK] at h ⊢
   obtain ⟨s,hs,h⟩:=aB h
   rw [zY hO _ hs];exact h
  | true =>
   simp only at h ⊢
   split at h
   ·rw [iW] at h ⊢
    obtain ⟨s,hs,h⟩:=aB h
    rw [qA hO _ _ _ hs];exact h
   ·simp at h
 | .seq a b,st,r,h=>by
  simp only [aR] at h ⊢
  rw [bS] at h ⊢
  obtain ⟨⟨e,s⟩,hs,h⟩:=aB h
  rw [fC hO hL a hs]
  simp only [bnd] at h ⊢
  cases e with
  | nrm=>exact fC hO hL b h
  | brk i=>exact h
  | ret=>exact h
 | .cond c a b,st,r,h=>by
  simp only [aR,brB] at h ⊢
  obtain ⟨t,ht,h⟩:=aB h
  rw [ht]
  simp only [bnd]
  cases t with
  | true=>exact fC hO hL a h
  | false=>exact fC hO hL b h
 | .block id b,st,r,h=>by
  simp only [aR] at h ⊢
  rw [bS] at h ⊢
  obtain ⟨⟨e,s⟩,hs,h⟩:=aB h
  rw [fC hO hL b hs];exact h
 | .scope b,st,r,h=>fC hO hL b h
 | .loop b,st,r,h=>by
  simp only [aR] at h ⊢
  rw [iX] at h ⊢
  obtain ⟨sf,hf,h⟩:=aB h
  rw [hf]
  simp only [bK]
  rw [aA5] at h ⊢
  obtain ⟨⟨s,u⟩,hp,h⟩:=aB h
  obtain ⟨q,hq,h⟩:=aB h
  rw [hp]
  simp only [bK]
  rw [hL _ _ (fun s u r hr=>by
   rw [bS] at hr ⊢
   obtain ⟨x,hx,hr⟩:=aB hr
   rw [fC hO hL b hx];exact hr) _ _ _ hq]
  exact h
 | .rangeFunc _ _ _ _,_,_,h=>by simp [aR] at h
 | .goto _,_,_,h=>by simp [aR] at h
 | .refuse _,_,_,h=>by simp [aR] at h
theorem aDF (hO:OLe O O') (hL:LLe LP LP') {fn:Func} {args:List PV} {up:UP} {r:PV×UP} (h:kB P mt nt O LP fn args up=some r):kB P mt nt O' LP' fn args up=some r:=by
 unfold kB at h ⊢
 split at h
 ·split at h
  ·rename_i hle
   rw [bS] at h
   obtain ⟨x,hx,h⟩:=aB h
   rw [if_pos hle,bS,fC hO hL _ hx];exact h
  ·simp at h
 ·simp at h
end
theorem aEB:∀ (n:Nat) {x y:bL},BLe x y→BLe (oP n x) (oP n y)
 | 0,_,_,_,_,_,_,h=>by simp [oP] at h
 | n+1,x,y,hb,s,u,r,h=>by
  simp only [oP] at h ⊢
  obtain ⟨q,hq,h⟩:=aB h
  rw [hb _ _ _ hq]
  simp only [bnd]
  split at h
  ·exact aEB n hb _ _ _ h
  ·exact h
theorem aEC:∀ (n m:Nat) {x:bL},n≤m→BLe (oP n x) (oP m x)
 | 0,_,_,_,_,_,_,h=>by simp [oP] at h
 | n+1,0,_,hnm,_,_,_,_=>by omega
 | n+1,m+1,x,hnm,s,u,r,h=>by
  simp only [oP] at h ⊢
  obtain ⟨q,hq,h⟩:=aB h
  rw [hq]
  simp only [bnd]
  split at h
  ·exact aEC n m (by omega) _ _ _ h
  ·exact h
open Classical in
noncomputable def aE (body:bL):bL:=fun s u=>if h:∃ n r,oP n body s u=some r then oP (Classical.choose h) body s u else none
theorem eA {body:bL} {s:List PV} {u:UP} {r:Ex×List PV×UP}:aE body s u=some r↔∃ n,oP n body s u=some r:=by
 unfold aE
 constructor
 ·intro h
  split at h
  ·exact ⟨_,h⟩
  ·simp at h
 ·rintro ⟨n,hn⟩
  have hex:∃ n r,oP n body s u=some r:=⟨n,r,hn⟩
  rw [dif_pos hex]
  obtain ⟨r',hr'⟩:=Classical.choose_spec hex
  have h1:=aEC n (max n (Classical.choose hex)) (x:=body) (Nat.le_max_left _ _) _ _ _ hn
  have h2:=aEC (Classical.choose hex) (max n (Classical.choose hex)) (x:=body) (Nat.le_max_right _ _) _ _ _ hr'
  rw [h1] at h2
  rw [hr',← h2]
theorem aUb:aM2 aE:=fun _ _ _ _ h=>eA.1 h
theorem aFG:LLe aE aE:=fun x y hb s u r h=>by
 obtain ⟨n,hn⟩:=eA.1 h
 exact eA.2 ⟨n,aEB n hb _ _ _ hn⟩
theorem aWa (n:Nat):LLe (oP n) aE:=fun x y hb s u r h=>eA.2 ⟨n,aEB n hb _ _ _ h⟩
theorem zZ (body:bL) (s:List PV) (u:UP):aE body s u=bnd (body s u) fun r=>match r.1 with | .nrm=>aE body r.2.1 r.2.2 | e=>some (e,r.2.1,r.2.2):=by
 have key:∀ r,aE body s u=some r↔(bnd (body s u) fun r=>match r.1 with | .nrm=>aE body r.2.1 r.2.2 | e=>some (e,r.2.1,r.2.2))=some r:=by
  intro r
  constructor
  ·intro h
   obtain ⟨n,hn⟩:=eA.1 h
   cases n with
   | zero=>simp [oP] at hn
   | succ n =>
    simp only [oP] at hn
    obtain ⟨⟨e,s',u'⟩,hq,hn⟩:=aB hn
    rw [hq]
    simp only [bnd]
    cases e with
    | nrm=>exact eA.2 ⟨n,hn⟩
    | brk i=>exact hn
    | ret=>exact hn
  ·intro h
   obtain ⟨⟨e,s',u'⟩,hq,h⟩:=aB h
   cases e with
   | nrm =>
    obtain ⟨n,hn⟩:=eA.1 h
    exact eA.2 ⟨n+1,by simp only [oP,hq,bnd];exact hn⟩
   | brk i=>exact eA.2 ⟨1,by simp only [oP,hq,bnd];exact h⟩
   | ret=>exact eA.2 ⟨1,by simp only [oP,hq,bnd];exact h⟩
 cases h1:aE body s u with
 | some r=>exact ((key r).1 h1).symm
 | none =>
  cases h2:(bnd (body s u) fun r=>match r.1 with | .nrm=>aE body r.2.1 r.2.2 | e=>some (e,r.2.1,r.2.2)) with
  | none=>rfl
  | some r=>rw [(key r).2 h2] at h1;simp at h1
abbrev Ext:=FuncId→Option (List PV→UP→Option (PV×UP))
def kF (mt:Hints) (a:List PV) (u:UP):Bool :=
 match mt.drop with
 | true=>match u with
  | []=>false
  | _::_=>a.all zW
 | false=>false
inductive Does (P:Program) (Mt:FuncId→Hints) (X:Ext):FuncId→List PV→UP→PV×UP→Prop
 | ext {f:FuncId} {g:List PV→UP→Option (PV×UP)} {a:List PV} {u:UP} {r:PV×UP} (hx:X f=some g) (h:g a u=some r):Does P Mt X f a u r
 | run {f:FuncId} {fn:Func} {a:List PV} {u:UP} {r:PV×UP} (hx:X f=none) (hd:kF (Mt f) a u=false) (hf:P.funcs[f]?=some fn) (O:Orc) (LP:bL→bL) (hO:∀ f a u r,O f a u=some r→Does P Mt X f a u r)
   (hL:aM2 LP) (hl:LLe LP aE) (h:kB P (Mt f) fn.ntmps O LP fn a u=some r):Does P Mt X f a u r
 | drop {f:FuncId} {a:List PV} {b:aV} {u u':UP} {r:PV} (hx:X f=none) (hd:kF (Mt f) a (b::u)=true) (hr:r.free=true) (h:Does P Mt X f (a.map low) u (r,u')):Does P Mt X f a (b::u) (r,b::u')
def aP0 (P:Program) (G:Mem) (X:Ext):Prop :=
 ∀ f g,X f=some g→∀ args up r up',g args up=some (r,up')→∀ (n:Nat) w M B vals,CallPre ⟨n,G⟩ M B args up vals w→tH P f vals w (gM ⟨n,G⟩ M B args up vals w r up')
theorem aM6 {mt:Hints} {a:List PV} {b:aV} {u:UP} (h:kF mt a (b::u)=true):a.all zW=true:=by
 unfold kF at h
 split at h
 ·exact h
 ·simp at h
section
variable {P : Program} {Mt : FuncId → Hints} {X : Ext}
theorem Does.sound {G:Mem} (hP:POk P) (hX:aP0 P G X) {f:FuncId} {a:List PV} {u:UP} {r:PV×UP} (h:Does P Mt X f a u r) :
  ∀ (n:Nat) w M B vals,CallPre ⟨n,G⟩ M B a u vals w→tH P f vals w (gM ⟨n,G⟩ M B a u vals w r.1 r.2):=by
 induction h with
 | ext hx h=>exact hX _ _ hx _ _ _ _ h
 | run hx hd hf O LP hO hL hl h ih =>
  intro base w M B vals hpre
  exact aT9 (base:=⟨base,G⟩) hP (fun f a u r u' hr base w M B vals hp=>ih f a u (r,u') hr base w M B vals hp) hL hf h hpre
 | drop hx hd hr h ih =>
  intro base w M B vals hpre
  have hd':=aM6 hd
  exact (ih base w M (iY B) vals (aYa hpre hd')).mono fun v w' hp=>aV9 hpre hd' hr hp
theorem Does.det {f:FuncId} {a:List PV} {u:UP} {r:PV×UP} (h:Does P Mt X f a u r):∀ {r'},Does P Mt X f a u r'→r=r':=by
 induction h with
 | ext hx h =>
  intro r' h'
  cases h' with
  | ext hx' h2=>rw [hx] at hx';cases hx';rw [h] at h2;exact Option.some.inj h2
  | run hx'=>rw [hx] at hx';simp at hx'
  | drop hx'=>rw [hx] at hx';simp at hx'
 | drop hx hd hr h ih =>
  intro r' h'
  cases h' with
  | ext hx'=>rw [hx] at hx';simp at hx'
  | run hx' hd'=>rw [hd] at hd';simp at hd'
  | drop hx' hd' hr' h' =>
   have:=ih h'
   cases this;rfl
 | run hx hd hf O LP hO hL hl h ih =>
  intro r' h'
  cases h' with
  | ext hx'=>rw [hx] at hx';simp at hx'
  | drop hx' hd'=>rw [hd] at hd';simp at hd'
  | run hx' hd' hf' O' LP' hO' hL' hl' h2 =>
   rw [hf] at hf';cases hf'
   -- both oracles in one
   have l1:OLe O (fun f a u=>match O f a u with | some r=>some r | none=>O' f a u):=by
    intro f a u r hr;simp only [hr]
   have l2:OLe O' (fun f a u=>match O f a u with | some r=>some r | none=>O' f a u):=by
    intro f a u r hr
    simp only
    cases ho:O f a u with
    | none=>exact hr
    | some r1=>rw [ih f a u r1 ho (hO' f a u r hr)]
   have e1:=aDF l1 hl h
   have e2:=aDF l2 hl' h2
   rw [e1] at e2
   exact Option.some.inj e2
open Classical in
noncomputable def OL (P:Program) (Mt:FuncId→Hints) (X:Ext):Orc:=fun f a u=>if h:∃ r,Does P Mt X f a u r then some (Classical.choose h) else none
theorem aCg {f:FuncId} {a:List PV} {u:UP} {r:PV×UP}:OL P Mt X f a u=some r↔Does P Mt X f a u r:=by
 unfold OL
 constructor
 ·intro h
  split at h
  ·rename_i hex;cases h;exact Classical.choose_spec hex
  ·simp at h
 ·intro h
  have hex:∃ r,Does P Mt X f a u r:=⟨r,h⟩
  rw [dif_pos hex,(Classical.choose_spec hex).det h]
theorem bBJ {G:Mem} (hP:POk P) (hX:aP0 P G X):aKD P G (OL P Mt X):=fun f a u r u' h base w M B vals hp=>(aCg.1 h).sound hP hX base w M B vals hp
theorem aWb {f:FuncId} {fn:Func} {a:List PV} {u:UP} {r:PV×UP} (hx:X f=none) (hd:kF (Mt f) a u=false) (hf:P.funcs[f]?=some fn) (h:kB P (Mt f) fn.ntmps (OL P Mt X) aE fn a u=some r):OL P Mt X f a u=some r :=
 aCg.2 (.run hx hd hf _ _ (fun _ _ _ _ hr=>aCg.1 hr) aUb aFG h)
theorem iJ {f:FuncId} {a:List PV} {b:aV} {u u':UP} {r:PV} (hx:X f=none) (hd:kF (Mt f) a (b::u)=true) (hr:r.free=true) (h:OL P Mt X f (a.map low) u=some (r,u')):OL P Mt X f a (b::u)=some (r,b::u') :=
 aCg.2 (.drop hx hd hr (aCg.1 h))
theorem bBK {f:FuncId} {g:List PV→UP→Option (PV×UP)} {a:List PV} {u:UP} {r:PV×UP} (hx:X f=some g) (h:g a u=some r):OL P Mt X f a u=some r:=aCg.2 (.ext hx h)
end
def bBL (O:Orc) (f:FuncId) (a:List PV):UP→Option (PV×UP)
 | []=>none
 | b::u=>bnd (O f (a.map low) u) fun r=>cnd r.1.free (some (r.1,b::r.2)) none
def runK (P:Program) (M:FuncId→Hints) (O:Orc) (n:Nat) (f:FuncId) (a:List PV) (u:UP):Option (PV×UP) :=
 match P.funcs[f]? with
 | some fn=>kB P (M f) fn.ntmps O (oP n) fn a u
 | none=>none
def aM7 (P:Program) (M:FuncId→Hints) (X:Ext):Nat→Orc
 | 0,_,_,_=>none
 | n+1,f,a,u =>
  match X f with
  | some g=>g a u
  | none =>
   match kF (M f) a u with
   | true=>bBL (aM7 P M X n) f a u
   | false=>runK P M (aM7 P M X n) n f a u
theorem aED {P:Program} {Mt:FuncId→Hints} {X:Ext}:∀ (n:Nat) (f:FuncId) (a:List PV) (u:UP) (r:PV×UP),aM7 P Mt X n f a u=some r→Does P Mt X f a u r
 | 0,_,_,_,_,h=>by simp [aM7] at h
 | n+1,f,a,u,r,h=>by
  simp only [aM7] at h
  cases hX:X f with
  | some g =>
   rw [hX] at h
   exact .ext hX h
  | none =>
  rw [hX] at h
  simp only at h
  cases hd:kF (Mt f) a u with
  | true =>
   rw [hd] at h
   simp only [bBL] at h
   cases u with
   | nil=>simp at h
   | cons b u =>
    simp only at h
    obtain ⟨x,hx,h⟩:=aB h
    rcases aZ h with ⟨hf,h⟩ | ⟨_,h⟩
    ·cases h
     exact .drop hX hd hf (aED n _ _ _ _ hx)
    ·simp at h
  | false =>
   rw [hd] at h
   simp only [runK] at h
   split at h
   ·rename_i fn hfn
    exact .run hX hd hfn (aM7 P Mt X n) (oP n) (fun f a u r h=>aED n f a u r h) (aX8 n) (aWa n) h
   ·simp at h
theorem aYb {P:Program} {Mt:FuncId→Hints} {X:Ext} (n:Nat) {f:FuncId} {a:List PV} {u:UP} {r:PV×UP} (h:aM7 P Mt X n f a u=some r):OL P Mt X f a u=some r:=aCg.2 (aED n f a u r h)
def memW (W:World):Mem:=fun b i =>
 match W.heap[b]? with
 | some (.cells arr _ _)=>arr[i]?
 | _=>none
theorem aWc (W:World):Cons (memW W) W:=by
 intro b i v h
 unfold memW at h
 split at h
 ·rename_i arr T fz hb;exact ⟨arr,T,fz,hb,h⟩
 ·simp at h
structure ArgsOk (W:World) (args:List PV) (vals:Array Value):Prop where
 size:vals.size=args.length
 rel:∀ (i:Nat) (p:PV),args[i]?=some p→Rv (memW W) noB p (vals.getD i undef)∧dV p (vals.getD i undef)
theorem bBM {G:Mem} {W:World} {args:List PV} {vals:Array Value} (hG:∀ b i v,G b i=some v→memW W b i=some v) (h:ArgsOk W args vals):CallPre ⟨W.heap.size,G⟩ (memW W) noB args [] vals W:=by
 refine ⟨aWc W,h.size,?_,⟨by simp,fun _ _ _=>rfl,by simp [qS],by simp [noB]⟩,?_,hG,Nat.le_refl _⟩
 ·intro i p hp
  obtain ⟨r1,r2⟩:=h.rel i p hp
  rw [aG7]
  exact ⟨r1,r2.h _ _ _ _⟩
 ·intro b
  have:cA args vals b=0:=by
   apply gA
   intro i hi
   have:=(h.rel i _ (List.getElem?_eq_getElem hi)).2.c b
   rw [List.getD_eq_getElem?_getD,List.getElem?_eq_getElem hi];exact this
  rw [this]
  have:cBx W noB [] b=0:=rfl
  omega
theorem aP1 {P : Program} {Mt : FuncId → Hints} {X : Ext} {G : Mem} (hP : POk P) (hX : aP0 P G X) {f : FuncId} {fn : Func} (hf : P.funcs[f]? = some fn) (hb : fn.body.isSome = true) {W : World} {args : List PV} {vals : Array Value}
  (hG : ∀ b i v, G b i = some v → memW W b i = some v) (h : ArgsOk W args vals) {b : Bool} (ho : OL P Mt X f args [] = some (.bool b, [])) :
  Calls P f vals W fun e w' => e = .returned (.bool b) ∧ RowKit.Below W.heap.size W w' := by
 have hpre := bBM hG h
 have hi := bBJ (Mt := Mt) hP hX f args [] _ _ ho W.heap.size W (memW W) noB vals hpre
 have hcf : (callFunc f vals).run P W = .ok (.enter f vals) W := by
  have hn := hP.name f fn hf hb
  have hn' : ¬ fn.name = "runtime.NumGoroutine" := by intro e; rw [e] at hn; simp at hn
  cases hbd : fn.body with
  | none => rw [hbd] at hb; simp at hb
  | some c => simp [callFunc, hf, hn', hbd]
 have post : ∀ v w', gM ⟨W.heap.size, G⟩ (memW W) noB args [] vals W (.bool b) [] v w' → v = .bool b ∧ RowKit.Below W.heap.size W w' := by
  rintro v w' ⟨M', hr, hh, hbx, hc, hone, evo⟩
  refine ⟨hr.bool_inv, evo.os, evo.tape, evo.output, evo.size, fun k hk => (evo.keep k hk ?_).1⟩
  rintro (h1 | ⟨d, id, h2⟩)
  ·have := hpre
   have hz : cA args vals k = 0 := by
    apply gA
    intro i hi
    have := (h.rel i _ (List.getElem?_eq_getElem hi)).2.c k
    rw [List.getD_eq_getElem?_getD, List.getElem?_eq_getElem hi]; exact this
   have h1' : 1 ≤ cA args vals k + cBx W noB [] k := h1
   have : cBx W noB [] k = 0 := rfl
   omega
  ·simp [noB] at h2
 rcases hi with ⟨g, gs, h1, h2⟩ | ⟨v, w', h1, h2⟩
 ·rw [hcf] at h1
  cases h1
  refine h2.mono ?_
  rintro e w' ⟨v, rfl, hp⟩
  obtain ⟨rfl, hbl⟩ := post v w' hp
  exact ⟨rfl, hbl⟩
 ·rw [hcf] at h1; cases h1
inductive Ty where
 | bool
 | int (k:IntKind)
 | str
 | sl (e:Ty)
 | st (fs:Ty)
 | fnil
 | fcons (t r:Ty)
 | ext (i:Nat)
structure RecTy where
 D:Type
 en:D→PV
 sz:Nat
 bk:D→Nat
 gd:D→Prop
 wf:∀ x,(en x).cells.length=sz∧(∀ c∈(en x).cells,c.solid1=true∧c.plain1=c)∧(en x).solid=true∧(en x).plain=en x
abbrev REnv:=Nat→RecTy
@[reducible] def Ty.den (ρ:REnv):Ty→Type
 | .bool=>Bool
 | .int _=>Int
 | .str=>List UInt8
 | .sl e=>List (e.den ρ)
 | .st fs=>fs.den ρ
 | .fnil=>Unit
 | .fcons t r=>t.den ρ×r.den ρ
 | .ext i=>(ρ i).D
def enc (ρ:REnv):(t:Ty)→t.den ρ→PV
 | .bool,b => .bool b
 | .int k,n => .int k n
 | .str,s => .str s
 | .sl e,l => .slice (l.map (enc ρ e)) [] false
 | .st fs,x=>enc ρ fs x
 | .fnil,_ => .agg []
 | .fcons t r,x => .agg ((enc ρ t x.1).cells++(enc ρ r x.2).cells)
 | .ext i,x=>(ρ i).en x
def Ty.size (ρ:REnv):Ty→Nat
 | .bool | .int _ | .str | .sl _=>1
 | .st fs=>fs.size ρ
 | .fnil=>0
 | .fcons t r=>t.size ρ+r.size ρ
 | .ext i=>(ρ i).sz
def bulk (ρ:REnv):(t:Ty)→t.den ρ→Nat
 | .bool,_=>1
 | .int _,_=>1
 | .str,s=>s.length+1
 | .sl e,l=>sumL (bulk ρ e) l+1
 | .st fs,x=>bulk ρ fs x+1
 | .fnil,_=>0
 | .fcons t r,x=>bulk ρ t x.1+bulk ρ r x.2
 | .ext i,x=>(ρ i).bk x
def good (ρ:REnv):(t:Ty)→t.den ρ→Prop
 | .bool,_=>True
 | .int k,n=>(Lit.int k n).wf=true
 | .str,_=>True
 | .sl e,l=>∀ x∈l,good ρ e x
 | .st fs,x=>good ρ fs x
 | .fnil,_=>True
 | .fcons t r,x=>good ρ t x.1∧good ρ r x.2
 | .ext i,x=>(ρ i).gd x
theorem jV (ρ:REnv):∀ (t:Ty) (x:t.den ρ),(enc ρ t x).cells.length=t.size ρ∧(∀ c∈(enc ρ t x).cells,c.solid1=true∧c.plain1=c)∧(enc ρ t x).solid=true∧(enc ρ t x).plain=enc ρ t x
 | .bool,b=>⟨rfl,by intro c hc;simp [enc,cells] at hc;subst hc;exact ⟨rfl,rfl⟩,rfl,rfl⟩
 | .int k,n=>⟨rfl,by intro c hc;simp [enc,cells] at hc;subst hc;exact ⟨rfl,rfl⟩,rfl,rfl⟩
 | .str,s=>⟨rfl,by intro c hc;simp [enc,cells] at hc;subst hc;exact ⟨rfl,rfl⟩,rfl,rfl⟩
 | .sl e,l=>⟨rfl,by intro c hc;simp [enc,cells] at hc;subst hc;exact ⟨rfl,rfl⟩,rfl,rfl⟩
 | .st fs,x=>jV ρ fs x
 | .fnil,_=>⟨rfl,by intro c hc;simp [enc,cells] at hc,rfl,rfl⟩
 | .ext i,x=>(ρ i).wf x
 | .fcons t r,x=>by
  obtain ⟨h1,h2,_,_⟩:=jV ρ t x.1
  obtain ⟨k1,k2,_,_⟩:=jV ρ r x.2
  have key:∀ c∈(enc ρ t x.1).cells++(enc ρ r x.2).cells,c.solid1=true∧c.plain1=c:=by
   intro c hc
   rcases List.mem_append.1 hc with hc | hc
   ·exact h2 c hc
   ·exact k2 c hc
  refine ⟨?_,key,?_,?_⟩
  ·show ((enc ρ t x.1).cells++(enc ρ r x.2).cells).length=t.size ρ+r.size ρ
   rw [List.length_append,h1,k1]
  ·simp only [enc,PV.solid,List.all_eq_true];exact fun c hc=>(key c hc).1
  ·simp only [enc,PV.plain,PV.plainA,PV.agg.injEq]
   apply List.ext_getElem?
   intro i
   rw [List.getElem?_map]
   cases hc:((enc ρ t x.1).cells++(enc ρ r x.2).cells)[i]? with
   | none=>rfl
   | some c=>simp [(key c (List.mem_of_getElem? hc)).2]
def flds (ρ:REnv) (P:Program) (ok:TypeId→Ty→Bool):List Field→Nat→Ty→Bool
 | [],_,.fnil=>true
 | f::F,off,.fcons t r=>f.offset==off&&P.cellsOf f.type==t.size ρ&&ok f.type t&&flds ρ P ok F (off+t.size ρ) r
 | _,_,_=>false
def tyOk (ρ:REnv) (τ:Nat→TypeId) (P:Program):Nat→TypeId→Ty→Bool
 | 0,_,_=>false
 | n+1,t,ty =>
  match ty,P.underlying t with
  | .bool,some .bool=>true
  | .int k,some (.int k')=>decide (k=k')
  | .str,some .string=>true
  | .sl e,some (.slice u)=>tyOk ρ τ P n u e&&P.cellsOf u==e.size ρ&&decide (0<e.size ρ)
  | .st fs,some (.struct F)=>P.cellsOf t==fs.size ρ&&flds ρ P (tyOk ρ τ P n) F.toList 0 fs
  | .ext i,_=>t==τ i
  | _,_=>false
structure BlOk {H:Type} (bl:DataW H→Nat) (bla:List (DataW H)→Nat):Prop where
 lit:∀ l,1≤bl (.lit l)
 str:∀ s,s.length+1≤bl (.lit (.string s))
 nil:1≤bl .nil
 slice:∀ es sp,bla es+1≤bl (.slice es sp)
 agg:∀ ps,bla ps+1≤bl (.agg ps)
 cons:∀ d r,bla (d::r)=bl d+bla r
theorem cells?_get {W:World} {a:Addr} {n:Nat} {cs:List Value} (h:W.cells? 0 a n=some cs):cs.length=n∧∀ j,j<n→W.cell? (a.add j)=some (cs.getD j undef):=by
 unfold World.cells? at h
 rw [if_pos (Nat.zero_le _)] at h
 have hl:cs.length=n:=by simpa using Go.mapM_some_length h
 refine ⟨hl,fun j hj => ?_⟩
 have:=Go.mapM_some_get h j j (by rw [List.getElem?_range hj])
 rw [this]
 simp [List.getD_eq_getElem?_getD,List.getElem?_eq_getElem (show j<cs.length by omega)]
theorem aSo {W:World} {a:Addr} {v:Value} (h:W.cell? a=some v):a.spot=none∧memW W a.block a.off=some v:=by
 unfold World.cell? at h
 unfold memW
 split at h
 ·rename_i c T fz hb
  split at h
  ·simp at h
  ·rename_i hs
   rw [hb]
   exact ⟨by simpa using hs,h⟩
 ·simp at h
section
variable {ρ : REnv} {τ : Nat → TypeId} {H : Type} {e : TypeId × Value → H} {P : Program} {W : World} {bl : DataW H → Nat} {bla : List (DataW H) → Nat}
def aWd (ρ:REnv) (e:TypeId×Value→H) (P:Program) (W:World) (bl:DataW H→Nat) (k:Nat) (t:TypeId) (ty:Ty):Prop :=
 ∀ (fuel:Nat),fuel≤k→∀ (cs:List Value) (x:DataW H×List MemPlace),DataW.trod e P W 0 (fun _=>true) true fuel t cs=some x →
 ∃ v:ty.den ρ,good ρ ty v∧bulk ρ ty v≤bl x.1∧cs.length=ty.size ρ∧∀ (j:Nat) (c:PV),(enc ρ ty v).cells[j]?=some c→Rv (memW W) noB c (cs.getD j undef)
theorem aHl (hb:BlOk bl bla) {n:Nat} {cs:List Value} {k:Nat} (ok:∀ t ty,tyOk ρ τ P n t ty=true→aWd ρ e P W bl k t ty):∀ (F:List Field) (off:Nat) (fs:Ty) (fuel:Nat) (xs:List (DataW H×List MemPlace)),fuel≤k→flds ρ P (tyOk ρ τ P n) F off fs=true→xs.length=F.length →
  (∀ (i:Nat) (f:Field),F[i]?=some f→DataW.trod e P W 0 (fun _=>true) true fuel f.type ((cs.drop f.offset).take (P.cellsOf f.type))=xs[i]?) →
  ∃ v:fs.den ρ,good ρ fs v∧bulk ρ fs v≤bla (xs.map (·.1))∧∀ (j:Nat) (c:PV),(enc ρ fs v).cells[j]?=some c→Rv (memW W) noB c (cs.getD (off+j) undef)
 | [],off,fs,fuel,xs,hfk,h,hl,hx=>by
  cases fs with
  | fnil=>exact ⟨(),trivial,Nat.zero_le _,by intro j c hc;simp [enc,cells] at hc⟩
  | _=>simp [flds] at h
 | f::F,off,fs,fuel,xs,hfk,h,hl,hx=>by
  cases fs with
  | fcons t r =>
   simp only [flds,Bool.and_eq_true,beq_iff_eq] at h
   obtain ⟨⟨⟨h1,h2⟩,h3⟩,h4⟩:=h
   cases xs with
   | nil=>simp at hl
   | cons x xs =>
    have h0:=hx 0 f rfl
    simp only [List.getElem?_cons_zero] at h0
    obtain ⟨v1,g1,b1,l1,r1⟩:=ok _ _ h3 _ hfk _ _ h0
    obtain ⟨v2,g2,b2,r2⟩:=aHl hb ok F (off+t.size ρ) r fuel xs hfk h4 (by simpa using hl) (fun i f' hf=>by
     have:=hx (i+1) f' (by simpa using hf)
     simpa using this)
    refine ⟨(v1,v2),⟨g1,g2⟩,?_,?_⟩
    ·simp only [List.map_cons,hb.cons,bulk];omega
    ·intro j c hc
     have hc':((enc ρ t v1).cells++(enc ρ r v2).cells)[j]?=some c:=hc
     have hlen:=(jV ρ t v1).1
     by_cases hj:j<t.size ρ
     ·rw [List.getElem?_append_left (by omega)] at hc'
      have:=r1 j c hc'
      rw [h1,h2] at this
      simp only [List.getD_eq_getElem?_getD,List.getElem?_take,if_pos hj,List.getElem?_drop] at this
      simpa [List.getD_eq_getElem?_getD] using this
     ·rw [List.getElem?_append_right (by omega),hlen] at hc'
      have:=r2 (j-t.size ρ) c hc'
      rw [show off+t.size ρ+(j-t.size ρ)=off+j by omega] at this
      exact this
  | _=>simp [flds] at h
end
section
variable {ρ : REnv} {τ : Nat → TypeId} {H : Type} {e : TypeId × Value → H} {P : Program} {W : World} {bl : DataW H → Nat} {bla : List (DataW H) → Nat}
theorem aWe (hb:BlOk bl bla):∀ (l:List (DataW H)),sumL bl l≤bla l
 | []=>by simp [sumL]
 | d::l=>by simp only [sumL,hb.cons];have:=aWe hb l;omega
theorem aM8 {α β:Type} (f:α→Nat) (g:β→Nat):∀ (l:List α) (m:List β),l.length=m.length→(∀ (i:Nat) (x:α) (y:β),l[i]?=some x→m[i]?=some y→f x≤g y)→sumL f l≤sumL g m
 | [],[],_,_=>Nat.le_refl _
 | [],_::_,h,_=>by simp at h
 | _::_,[],h,_=>by simp at h
 | a::l,b::m,h,hx=>by
  simp only [sumL]
  have:=hx 0 a b rfl rfl
  have:=aM8 f g l m (by simpa using h) (fun i x y h1 h2=>hx (i+1) x y (by simpa using h1) (by simpa using h2))
  omega
theorem aKN (hb : BlOk bl bla) {k : Nat} (hρ : ∀ i, aWd ρ e P W bl k (τ i) (.ext i)) : ∀ (n : Nat) (t : TypeId) (ty : Ty), tyOk ρ τ P n t ty = true → aWd ρ e P W bl k t ty
 | 0, t, ty, h => by simp [tyOk] at h
 | n + 1, t, ty, h => by
  intro fuel hfk cs x hx
  simp only [tyOk] at h
  split at h
  ·rename_i ht
   obtain ⟨b, rfl, rfl⟩ := DataW.trod_bool ht hx
   refine ⟨b, trivial, hb.lit _, rfl, ?_⟩
   intro j c hc
   cases j with
   | zero => simp [enc, cells] at hc; subst hc; exact .bool b
   | succ j => simp [enc, cells] at hc
  ·rename_i k k' ht
   have hk : k = k' := of_decide_eq_true h
   subst hk
   obtain ⟨m, rfl, rfl, hw⟩ := DataW.trod_int ht hx
   refine ⟨m, hw, hb.lit _, rfl, ?_⟩
   intro j c hc
   cases j with
   | zero => simp [enc, cells] at hc; subst hc; exact .int k m
   | succ j => simp [enc, cells] at hc
  ·rename_i ht
   obtain ⟨s, rfl, rfl, hs⟩ := DataW.trod_string ht hx
   refine ⟨s.data.toList, trivial, hb.str _, rfl, ?_⟩
   intro j c hc
   cases j with
   | zero =>
    simp [enc, cells] at hc; subst hc
    have := Rv.str (M := memW W) (B := noB) s.data.toList
    simpa using this
   | succ j => simp [enc, cells] at hc
  ·-- a slice
   rename_i ey u ht
   simp only [Bool.and_eq_true, beq_iff_eq, decide_eq_true_eq] at h
   obtain ⟨⟨h1, h2⟩, h3⟩ := h
   have ih := aKN hb hρ n u ey h1
   rcases DataW.trod_slice ht hx with ⟨rfl, rfl⟩ | ⟨a, len, cap, elems, rest, m, hfm, rfl, rfl, _, hlc, _, hel, hget, hsp, _⟩
   ·refine ⟨[], by intro x hx; simp at hx, by simp only [bulk, sumL]; exact hb.nil, rfl, ?_⟩
    intro j c hc
    cases j with
    | zero => simp [enc, cells] at hc; subst hc; exact .nil false
    | succ j => simp [enc, cells] at hc
   ·rw [h2] at hget hsp
    have key : ∀ i, i < len → ∃ (v : ey.den ρ), good ρ ey v ∧ (∀ y, elems[i]? = some y → bulk ρ ey v ≤ bl y.1) ∧ ∀ (j : Nat) (c : PV), (enc ρ ey v).cells[j]? = some c → ∃ val, W.cell? ((a.add (i * (ey.size ρ))).add j) = some val ∧ Rv (memW W) noB c val := by
     intro i hi
     have hg := hget i hi
     obtain ⟨y, hy⟩ : ∃ y, elems[i]? = some y := ⟨elems[i], List.getElem?_eq_getElem (by omega)⟩
     rw [hy] at hg
     cases hc : W.cells? 0 (a.add (i * (ey.size ρ))) (ey.size ρ) with
     | none => rw [hc] at hg; simp at hg
     | some cs' =>
      rw [hc] at hg
      simp only [Option.bind_some] at hg
      obtain ⟨v, g, b, l, r⟩ := ih _ (by omega) _ _ hg
      obtain ⟨c1, c2⟩ := cells?_get hc
      refine ⟨v, g, fun y' hy' => by rw [hy] at hy'; cases hy'; exact b, fun j c hj => ?_⟩
      have hjl : j < (ey.size ρ) := by rw [← (jV ρ ey v).1]; exact (List.getElem?_eq_some_iff.1 hj).1
      exact ⟨_, c2 j hjl, r j c hj⟩
    have hspot : 0 < cap → a.spot = none := by
     intro hcap
     have first : (∃ cs', W.cells? 0 (a.add (0 * (ey.size ρ))) (ey.size ρ) = some cs') := by
      by_cases h0 : 0 < len
      ·have hg := hget 0 h0
       cases hc : W.cells? 0 (a.add (0 * (ey.size ρ))) (ey.size ρ) with
       | some cs' => exact ⟨cs', rfl⟩
       | none =>
        rw [hc] at hg
        have : elems[0]? = some elems[0] := List.getElem?_eq_getElem (by omega)
        rw [this] at hg; simp at hg
      ·obtain ⟨hr1, hr2⟩ := hsp rfl
       have hl0 : len = 0 := by omega
       subst hl0
       have hg := hr2 0 (by omega)
       cases hc : W.cells? 0 (a.add (0 * (ey.size ρ))) (ey.size ρ) with
       | some cs' => exact ⟨cs', rfl⟩
       | none =>
        simp only [Nat.zero_add] at hg
        rw [hc] at hg
        have : rest[0]? = some rest[0] := List.getElem?_eq_getElem (by omega)
        rw [this] at hg; simp at hg
     obtain ⟨cs', hc⟩ := first
     obtain ⟨_, c2⟩ := cells?_get hc
     have := c2 0 h3
     simp only [Nat.zero_mul, Addr.add, if_true] at this
     exact (aSo this).1
    refine ⟨List.ofFn fun i : Fin len => Classical.choose (key i.1 i.2), ?_, ?_, rfl, ?_⟩
    ·intro x hx
     obtain ⟨i, hi⟩ := List.mem_iff_getElem?.1 hx
     rw [List.getElem?_ofFn] at hi
     split at hi
     ·rename_i hlt; cases hi; exact (Classical.choose_spec (key i hlt)).1
     ·simp at hi
    ·have hs : sumL (bulk ρ ey) (List.ofFn fun i : Fin len => Classical.choose (key i.1 i.2)) ≤ sumL (fun y : DataW H × List MemPlace => bl y.1) elems := by
      refine aM8 _ _ _ _ (by simp [hel]) fun i x y h1 h2 => ?_
      rw [List.getElem?_ofFn] at h1
      split at h1
      ·rename_i hi
       cases h1
       exact (Classical.choose_spec (key i hi)).2.1 y h2
      ·simp at h1
     have h2' := aWe hb (elems.map (·.1))
     rw [aGz] at h2'
     have h3' := hb.slice (elems.map (·.1)) (rest.map (·.1))
     simp only [bulk]
     omega
    ·intro j c hc
     cases j with
     | succ j => simp [enc, cells] at hc
     | zero =>
      simp only [enc, cells, List.getElem?_cons_zero, Option.some.injEq] at hc
      subst hc
      have hlen : ((List.ofFn fun i : Fin len => Classical.choose (key i.1 i.2)).map (enc ρ ey)).length = len := by simp
      have hat : ∀ (i : Nat) (p : PV), ((List.ofFn fun i : Fin len => Classical.choose (key i.1 i.2)).map (enc ρ ey) ++ [])[i]? = some p → ∃ hi : i < len, p = enc ρ ey (Classical.choose (key i hi)) := by
       intro i p hp
       rw [List.append_nil, List.getElem?_map, List.getElem?_ofFn] at hp
       split at hp
       ·rename_i hi; simp only [Option.map_some, Option.some.injEq] at hp; exact ⟨hi, hp.symm⟩
       ·simp at hp
      have cell : ∀ (i : Nat) (hi : i < len) (j : Nat) (c : PV), (enc ρ ey (Classical.choose (key i hi))).cells[j]? = some c → ∃ val, memW W a.block (a.off + i * (ey.size ρ) + j) = some val ∧ Rv (memW W) noB c val := by
       intro i hi j c hc
       obtain ⟨val, h1, h2⟩ := (Classical.choose_spec (key i hi)).2.2 j c hc
       have hsp0 := hspot (by omega)
       have e1 : (a.add (i * (ey.size ρ))).add j = ⟨a.block, a.off + i * (ey.size ρ) + j, none⟩ := by
        rw [Addr.add_none a _ hsp0, Addr.add_none _ _ rfl]
       rw [e1] at h1
       exact ⟨val, (aSo h1).2, h2⟩
      have := Rv.slice (M := memW W) (B := noB) ((List.ofFn fun i : Fin len => Classical.choose (key i.1 i.2)).map (enc ρ ey)) [] false a cap (ey.size ρ) (fun i j => (memW W a.block (a.off + i * (ey.size ρ) + j)).getD undef) hspot
       (by rw [hlen]; simpa using hlc) (by simp) (fun i p hp => by
        obtain ⟨hi, rfl⟩ := hat i p hp
        obtain ⟨k1, k2, k3, k4⟩ := jV ρ ey (Classical.choose (key i hi))
        exact ⟨k3, k4, k1, h3⟩) (fun i p j hp hj => by
        obtain ⟨hi, rfl⟩ := hat i p hp
        have hjl : j < (enc ρ ey (Classical.choose (key i hi))).cells.length := by rw [(jV ρ ey _).1]; exact hj
        obtain ⟨val, h1, h2⟩ := cell i hi j _ (List.getElem?_eq_getElem hjl)
        rw [h1]; rfl) (fun i p j c hp hc => by
        obtain ⟨hi, rfl⟩ := hat i p hp
        obtain ⟨val, h1, h2⟩ := cell i hi j c hc
        rw [h1]; exact h2)
      rw [hlen] at this
      exact this
  ·-- a struct
   rename_i fs F ht
   simp only [Bool.and_eq_true, beq_iff_eq] at h
   obtain ⟨xs, m, hfm, rfl, hlen, hxl, hget⟩ := DataW.trod_struct ht hx
   obtain ⟨v, g, b, r⟩ := aHl hb (k := k) (fun t ty h => aKN hb hρ n t ty h) F.toList 0 fs m xs (by omega) h.2 (by simpa using hxl) (fun i f hf => hget i f (by simpa using hf))
   refine ⟨v, g, ?_, by rw [hlen]; exact h.1, fun j c hc => by simpa using r j c hc⟩
   have := hb.agg (xs.map (·.1))
   simp only [bulk]; omega
  ·rename_i i
   have : t = τ i := by simpa using h
   subst this
   exact hρ i fuel hfk cs x hx
  ·simp at h
end
open PV Go.ChangeShapes Go.WideShapes Go.RowKit
def encL (ρ:REnv):(fs:Ty)→fs.den ρ→List PV
 | .fcons t r,x=>enc ρ t x.1::encL ρ r x.2
 | .bool,_=>[]
 | .int _,_=>[]
 | .str,_=>[]
 | .sl _,_=>[]
 | .st _,_=>[]
 | .fnil,_=>[]
 | .ext _,_=>[]
def aUc (ρ:REnv):(fs:Ty)→fs.den ρ→Nat
 | .fcons t r,x=>bulk ρ t x.1+aUc ρ r x.2
 | .bool,_=>0
 | .int _,_=>0
 | .str,_=>0
 | .sl _,_=>0
 | .st _,_=>0
 | .fnil,_=>0
 | .ext _,_=>0
def aBT (ρ:REnv) (τ:Nat→TypeId) (P:Program) (n:Nat):List TypeId→Ty→Bool
 | [],.fnil=>true
 | t::ts,.fcons ty r=>tyOk ρ τ P n t ty&&P.readableRec t&&decide (t<P.types.size)&&aBT ρ τ P n ts r
 | _,_=>false
section
variable {ρ : REnv} {τ : Nat → TypeId} {H : Type} {e : TypeId × Value → H} {P : Program} {W : World} {bl : DataW H → Nat} {bla : List (DataW H) → Nat}
structure ROk (ρ:REnv) (τ:Nat→TypeId) (e:TypeId×Value→H) (P:Program) (W:World) (bl:DataW H→Nat):Prop where
 op:∀ k i,aWd ρ e P W bl k (τ i) (.ext i)
 ag:∀ i x,∃ ps,(ρ i).en x = .agg ps
 st:∀ i,∃ F,P.underlying (τ i)=some (.struct F)
theorem aYc (hb:BlOk bl bla) (hρ:ROk ρ τ e P W bl) {n:Nat} {t:TypeId} {ty:Ty} (h:tyOk ρ τ P n t ty=true) {v:Value} {d:DataW H} {ps:List MemPlace} {b0:Nat} (hok:Value.okWide P W .any b0 t v)
  (ht:DataW.Trod e P W 0 (fun _=>true) true t v d ps):∃ x:ty.den ρ,good ρ ty x∧bulk ρ ty x≤bl d∧Rv (memW W) noB (enc ρ ty x) v:=by
 obtain ⟨fuel,hf⟩:=ht
 obtain ⟨x,g,b,l,r⟩:=aKN hb (hρ.op fuel) n t ty h fuel (Nat.le_refl _) _ _ hf
 refine ⟨x,g,b,?_⟩
 cases n with
 | zero=>simp [tyOk] at h
 | succ n =>
  simp only [tyOk] at h
  have one:∀ (p:PV),enc ρ ty x=p→p.cells=[p]→ty.size ρ=1→(∀ cs,v ≠ .agg cs)→Rv (memW W) noB (enc ρ ty x) v:=by
   intro p hp hc hs hv
   have hvc:v.cells = #[v]:=by cases v<;>first | rfl | exact absurd rfl (hv _)
   have:=r 0 p (by rw [hp,hc];rfl)
   rw [hvc] at this
   rw [hp];exact this
  have agg:∀ (ps':List PV),enc ρ ty x = .agg ps'→∀ cs,v = .agg cs→Rv (memW W) noB (enc ρ ty x) v:=by
   intro ps' hps cs hv
   subst hv
   have hlen:=(jV ρ ty x).1
   have hcells:(enc ρ ty x).cells=ps':=by rw [hps];rfl
   rw [hcells] at hlen r
   rw [hps]
   have hl':cs.size=ps'.length:=by
    have:(Value.agg cs).cells.toList.length=cs.size:=by simp [Value.cells]
    omega
   refine .agg ps' cs (fun i=>cs.getD i undef) hl' (fun i hi=>by simp [show i<cs.size by omega]) fun i c hc => ?_
   have:=r i c hc
   have e1:(Value.agg cs).cells.toList.getD i undef=cs.getD i undef:=by simp [Value.cells,List.getD_eq_getElem?_getD,Array.getD_eq_getD_getElem?]
   rw [e1] at this;exact this
  split at h
  ·rename_i hu
   refine one (.bool x) rfl rfl rfl ?_
   rintro cs rfl
   simp [Value.okWide,hu,Cell.okWide,Cell.ok] at hok
  ·rename_i k k' hu
   refine one (.int k x) rfl rfl rfl ?_
   rintro cs rfl
   simp [Value.okWide,hu,Cell.okWide,Cell.ok] at hok
  ·rename_i hu
   refine one (.str x) rfl rfl rfl ?_
   rintro cs rfl
   simp [Value.okWide,hu,Cell.okWide,Cell.ok] at hok
  ·rename_i ey u hu
   refine one (.slice (x.map (enc ρ ey)) [] false) rfl rfl rfl ?_
   rintro cs rfl
   simp [Value.okWide,hu,Cell.okWide,Cell.ok] at hok
  ·rename_i fs F hu
   simp only [Value.okWide,hu] at hok
   obtain ⟨cs,rfl,hsz,_⟩:=hok
   have hag:∃ ps,enc ρ fs x = .agg ps:=by
    have h2:=h
    simp only [Bool.and_eq_true] at h2
    cases fs with
    | fnil=>exact ⟨_,rfl⟩
    | fcons t r=>exact ⟨_,rfl⟩
    | _=>cases hF:F.toList<;>rw [hF] at h2<;>simp [flds] at h2
   obtain ⟨ps',hps⟩:=hag
   exact agg ps' hps cs rfl
  ·rename_i i
   have ht':t=τ i:=by simpa using h
   subst ht'
   obtain ⟨F,hu⟩:=hρ.st i
   simp only [Value.okWide,hu] at hok
   obtain ⟨cs,rfl,hsz,_⟩:=hok
   obtain ⟨ps',hps⟩:=hρ.ag i x
   exact agg ps' hps cs rfl
  ·simp at h
end
section
variable {ρ : REnv} {τ : Nat → TypeId} {H : Type} {e : TypeId × Value → H} {P : Program} {W : World} {bl : DataW H → Nat} {bla : List (DataW H) → Nat}
theorem aM9 (hb:BlOk bl bla) (hρ:ROk ρ τ e P W bl) {n:Nat} {b0:Nat}:∀ (ts:List TypeId) (fs:Ty) (vs:List Value) (ds:List (DataW H)) (ps:List MemPlace),aBT ρ τ P n ts fs=true →
  (∀ (j:Nat) (t:TypeId) (v:Value),ts[j]?=some t→vs[j]?=some v→Value.okWide P W .any b0 t v)→DataW.TrodAll e P W 0 (fun _=>true) true ts vs ds ps →
  ∃ x:fs.den ρ,good ρ fs x∧aUc ρ fs x≤bla ds∧vs.length=(encL ρ fs x).length∧∀ (i:Nat) (p:PV),(encL ρ fs x)[i]?=some p→∃ v,vs[i]?=some v∧Rv (memW W) noB p v∧p.plain=p
 | [],fs,vs,ds,ps,h,hok,ht=>by
  cases fs with
  | fnil =>
   obtain ⟨rfl,rfl,rfl⟩:=trodAll_nil ht
   exact ⟨(),trivial,Nat.zero_le _,rfl,by intro i p hp;simp [encL] at hp⟩
  | _=>simp [aBT] at h
 | t::ts,fs,vs,ds,ps,h,hok,ht=>by
  cases fs with
  | fcons ty r =>
   simp only [aBT,Bool.and_eq_true,decide_eq_true_eq] at h
   obtain ⟨⟨⟨h1,_⟩,_⟩,h4⟩:=h
   obtain ⟨v,vs',d,ds',p,q,rfl,rfl,rfl,ht1,ht2⟩:=trodAll_cons ht
   obtain ⟨x,g,b,rv⟩:=aYc hb hρ h1 (hok 0 t v rfl rfl) ht1
   obtain ⟨y,g2,b2,l2,r2⟩:=aM9 hb hρ ts r vs' ds' q h4 (fun j t' v' h1 h2=>hok (j+1) t' v' (by simpa using h1) (by simpa using h2)) ht2
   refine ⟨(x,y),⟨g,g2⟩,?_,?_,?_⟩
   ·simp only [aUc,hb.cons];omega
   ·simp [encL,l2]
   ·intro i c hc
    cases i with
    | zero=>simp [encL] at hc;subst hc;exact ⟨v,rfl,rv,(jV ρ ty x).2.2.2⟩
    | succ i=>simp [encL] at hc;simpa using r2 i c hc
  | _=>simp [aBT] at h
end
section
variable {ρ : REnv} {τ : Nat → TypeId} {H : Type} {e : TypeId × Value → H} {P : Program} {bl : DataW H → Nat} {bla : List (DataW H) → Nat}
theorem aDG (hl:laidOutB P=true) {n:Nat} {W W':World} (hb:RowKit.Below W.heap.size W W'):∀ (ts:List TypeId) (fs:Ty) (vs:List Value) (ds:List (DataW H)) (ps:List MemPlace),aBT ρ τ P n ts fs=true →
  DataW.TrodAll e P W 0 (fun _=>true) true ts vs ds ps→(∀ x∈ps,x.block<W.heap.size)→DataW.TrodAll e P W' 0 (fun b=>decide (b<W.heap.size)) true ts vs ds ps
 | [],fs,vs,ds,ps,h,ht,hlt=>by
  obtain ⟨rfl,rfl,rfl⟩:=trodAll_nil ht
  exact trodAll_mk0
 | t::ts,fs,vs,ds,ps,h,ht,hlt=>by
  cases fs with
  | fcons ty r =>
   simp only [aBT,Bool.and_eq_true,decide_eq_true_eq] at h
   obtain ⟨⟨⟨h1,h2⟩,h3⟩,h4⟩:=h
   obtain ⟨v,vs',d,ds',p,q,rfl,rfl,rfl,ht1,ht2⟩:=trodAll_cons ht
   refine ⟨p,q,Below.trod hl h2 h3 ht1 hb (fun x hx=>hlt x (List.mem_append.2 (.inl hx))),aDG hl hb ts r vs' ds' q h4 ht2 (fun x hx=>hlt x (List.mem_append.2 (.inr hx))),rfl⟩
  | _=>simp [aBT] at h
theorem aKO (hP:POk P) {Mt:FuncId→Hints} {X:Ext} {G:Mem} (hX:aP0 P G X) (hlaid:laidOutB P=true) (hb:BlOk bl bla) {f:FuncId} {fn:Func} (hf:P.funcs[f]?=some fn) (hbody:fn.body.isSome=true)
  {n:Nat} {fs:Ty} (hpars:aBT ρ τ P n fn.params.toList fs=true) {tb:TypeId} (hres:fn.resultTypes.toList=[tb]) (htb:P.underlying tb=some .bool) {s:ChangeSpec} (hvars:s.vars=[])
  {W:World} (hG:∀ b i v,G b i=some v→memW W b i=some v) {b0:Nat} {args:Array Value} {ds gs:List (DataW H)} {before:List MemPlace}
  (hρ:ROk ρ τ e P W bl) (hs:(s.fn H (ds++gs)).results=[.lit (.bool true)]∧(s.fn H (ds++gs)).args=ds∧(s.fn H (ds++gs)).vars=[])
  (hval:∀ (j:Nat) (t:TypeId) (v:Value),fn.params[j]?=some t→args[j]?=some v→Value.okWide P W .any b0 t v)
  (hW:DataW.Whole e P fn.params.toList s.vars false W args.toList ds gs before) (hk:bla ds≤1048576)
  (law:∀ x:fs.den ρ,good ρ fs x→aUc ρ fs x≤1048576→OL P Mt X f (encL ρ fs x) []=some (.bool true,[])) :
  Calls P f args W fun en W'=>∃ v,en = .returned v∧s.post e P fn false true false false W args v W':=by
 have hW':=hW
 obtain ⟨p,q,hA,hV,rfl,hfz,hnd⟩:=hW
 rw [hvars] at hV
 obtain ⟨rfl,rfl⟩:=trodVars_none hV
 obtain ⟨x,g,b,hl,hr⟩:=aM9 hb hρ _ _ _ _ _ hpars (fun j t v h1 h2=>hval j t v (by simpa using h1) (by simpa using h2)) hA
 have hargs:ArgsOk W (encL ρ fs x) args:=by
  refine ⟨by simpa using hl,fun i pv hp => ?_⟩
  obtain ⟨v,hv,rv,hpl⟩:=hr i pv hp
  have e1:args.getD i undef=v:=by
   have hv':args[i]?=some v:=by simpa using hv
   simp [Array.getD_eq_getD_getElem?,hv']
  rw [e1];exact ⟨rv,bR hpl⟩
 refine (aP1 hP hX hf hbody hG hargs (law x g (by omega))).mono ?_
 rintro en W' ⟨rfl,hbel⟩
 refine ⟨_,rfl,ds,[],p++[],[],p,[],hW',?_,?_,?_,?_,fun h=>by simp at h⟩
 ·rw [hs.1,hres]
  have hsz:fn.resultTypes.size=1:=by
   have:=congrArg List.length hres
   simpa using this
  rw [hsz]
  exact trodAll_mk1 ⟨1,by simp [Value.cells,DataW.trod,htb]⟩
 ·rw [hs.2.1]
  exact aDG hlaid hbel _ _ _ _ _ hpars hA (fun y hy=>hW'.lt y (by simpa using hy))
 ·rw [hs.2.2,hvars];rfl
 ·exact hbel.frame _
theorem aKP (hP:POk P) {Mt:FuncId→Hints} {X:Ext} (hX:aP0 P (fun _ _=>none) X) (hlaid:laidOutB P=true) (hb:BlOk bl bla) {f:FuncId} {fn:Func} (hf:P.funcs[f]?=some fn) (hbody:fn.body.isSome=true)
  {n:Nat} {fs:Ty} (hpars:aBT ρ τ P n fn.params.toList fs=true) {tb:TypeId} (hres:fn.resultTypes.toList=[tb]) (htb:P.underlying tb=some .bool) {s:ChangeSpec} (hvars:s.vars=[])
  {W:World} {b0:Nat} {args:Array Value} {ds gs:List (DataW H)} {before:List MemPlace}
  (hρ:ROk ρ τ e P W bl) (hs:(s.fn H (ds++gs)).results=[.lit (.bool true)]∧(s.fn H (ds++gs)).args=ds∧(s.fn H (ds++gs)).vars=[])
  (hval:∀ (j:Nat) (t:TypeId) (v:Value),fn.params[j]?=some t→args[j]?=some v→Value.okWide P W .any b0 t v)
  (hW:DataW.Whole e P fn.params.toList s.vars false W args.toList ds gs before) (hk:bla ds≤1048576)
  (law:∀ x:fs.den ρ,good ρ fs x→aUc ρ fs x≤1048576→OL P Mt X f (encL ρ fs x) []=some (.bool true,[])) :
  Calls P f args W fun en W'=>∃ v,en = .returned v∧s.post e P fn false true false false W args v W' :=
 aKO hP hX hlaid hb hf hbody hpars hres htb hvars (by intro b i v h;simp at h) hρ hs hval hW hk law
end
inductive Sh where
 | bool
 | int (k:IntKind)
 | str
 | sl (own:Bool)
 | slb (own:Bool)
 | agg (fs:List Sh)
 | tup (fs:List Sh)
 | ref (s:Sh)
 | ptr (d id off:Nat)
 | ptx (d id:Nat)
 | rsl (d id sz:Nat)
 | vec (sz:Nat)
 | nilptr
 | func (f:FuncId) (fs cs:List Sh)
 | bot
 | any
def bP:PV→Bool
 | .bool b=>b
 | _=>false
def intV:PV→Int
 | .int _ n=>n
 | _=>0
def strV:PV→List UInt8
 | .str s=>s
 | _=>[]
def esV:PV→List PV
 | .slice es _ _=>es
 | _=>[]
def bsV:PV→List PV
 | .slice _ bs _=>bs
 | _=>[]
def aggV:PV→List PV
 | .agg cs=>cs
 | _=>[]
def tupV:PV→List PV
 | .tuple cs=>cs
 | _=>[]
def refV:PV→PV
 | .ref v=>v
 | v=>v
def fstV:PV→List PV
 | .func _ a _=>a
 | _=>[]
def capV:PV→List PV
 | .func _ _ b=>b
 | _=>[]
def offV:PV→Nat
 | .ptr _ _ o=>o
 | _=>0
def rlnV:PV→Nat
 | .rsl _ _ n _=>n
 | _=>0
def vecV:PV→List PV
 | .vec _ E=>E
 | _=>[]
mutual
def chk:Sh→PV→Bool
 | .bool,.bool _=>true
 | .int k,.int k' _=>decide (k=k')
 | .str,.str _=>true
 | .sl o,.slice _ [] o'=>o==o'
 | .slb o,.slice _ _ o'=>o==o'
 | .agg fs,.agg cs=>chkL fs cs
 | .tup fs,.tuple cs=>chkL fs cs
 | .ref s,.ref v=>chk s v
 | .ptr d i o,.ptr d' i' o'=>Nat.beq d d'&&Nat.beq i i'&&Nat.beq o o'
 | .ptx d i,.ptr d' i' _=>Nat.beq d d'&&Nat.beq i i'
 | .rsl d i s,.rsl d' i' _ s'=>Nat.beq d d'&&Nat.beq i i'&&Nat.beq s s'
 | .vec s,.vec s' _=>Nat.beq s s'
 | .nilptr,.nilptr=>true
 | .func f a b,.func (.func g) a' b'=>Nat.beq f g&&chkL a a'&&chkL b b'
 | .bot,.bot=>true
 | .any,_=>true
 | _,_=>false
def chkL:List Sh→List PV→Bool
 | [],[]=>true
 | s::ss,c::cs=>chk s c&&chkL ss cs
 | _,_=>false
end
mutual
def norm:Sh→PV→PV
 | .bool,v => .bool (bP v)
 | .int k,v => .int k (intV v)
 | .str,v => .str (strV v)
 | .sl o,v => .slice (esV v) [] o
 | .slb o,v => .slice (esV v) (bsV v) o
 | .agg fs,v => .agg (aHm fs (aggV v) 0)
 | .tup fs,v => .tuple (aHm fs (tupV v) 0)
 | .ref s,v => .ref (norm s (refV v))
 | .ptr d i o,_ => .ptr d i o
 | .ptx d i,v => .ptr d i (offV v)
 | .rsl d i s,v => .rsl d i (rlnV v) s
 | .vec s,v => .vec s (vecV v)
 | .nilptr,_ => .nilptr
 | .func f a b,v => .func (.func f) (aHm a (fstV v) 0) (aHm b (capV v) 0)
 | .bot,_ => .bot
 | .any,v=>v
def aHm:List Sh→List PV→Nat→List PV
 | [],_,_=>[]
 | s::ss,cs,i=>norm s (gt cs i)::aHm ss cs (i+1)
end
mutual
theorem aP2:∀ (s:Sh) (v:PV),chk s v=true→norm s v=v
 | .bool,v,h=>by cases v<;>simp_all [chk,norm,bP]
 | .int k,v,h=>by cases v<;>simp_all [chk,norm,intV]
 | .str,v,h=>by cases v<;>simp_all [chk,norm,strV]
 | .sl o,v,h=>by
  cases v with
  | slice es bs o'=>cases bs<;>simp_all [chk,norm,esV]
  | _=>simp_all [chk]
 | .slb o,v,h=>by cases v<;>simp_all [chk,norm,esV,bsV]
 | .agg fs,v,h=>by
  cases v with
  | agg cs =>
   simp only [chk] at h
   simp only [norm,aggV]
   exact congrArg PV.agg (aA6 fs cs [] h)
  | _=>simp_all [chk]
 | .tup fs,v,h=>by
  cases v with
  | tuple cs =>
   simp only [chk] at h
   simp only [norm,tupV]
   exact congrArg PV.tuple (aA6 fs cs [] h)
  | _=>simp_all [chk]
 | .ref s,v,h=>by
  cases v with
  | ref v=>simp only [chk] at h;simp only [norm,refV,aP2 s v h]
  | _=>simp_all [chk]
 | .ptr d i o,v,h=>by
  cases v with
  | ptr d' i' o' =>
   simp only [chk,Bool.and_eq_true] at h
   obtain ⟨⟨h1,h2⟩,h3⟩:=h
   cases Nat.eq_of_beq_eq_true h1;cases Nat.eq_of_beq_eq_true h2;cases Nat.eq_of_beq_eq_true h3;rfl
  | _=>simp_all [chk]
 | .ptx d i,v,h=>by
  cases v with
  | ptr d' i' o' =>
   simp only [chk,Bool.and_eq_true] at h
   obtain ⟨h1,h2⟩:=h
   cases Nat.eq_of_beq_eq_true h1;cases Nat.eq_of_beq_eq_true h2;rfl
  | _=>simp_all [chk]
 | .rsl d i s,v,h=>by
  cases v with
  | rsl d' i' n s' =>
   simp only [chk,Bool.and_eq_true] at h
   obtain ⟨⟨h1,h2⟩,h3⟩:=h
   cases Nat.eq_of_beq_eq_true h1;cases Nat.eq_of_beq_eq_true h2;cases Nat.eq_of_beq_eq_true h3;rfl
  | _=>simp_all [chk]
 | .vec s,v,h=>by
  cases v with
  | vec s' E =>
   simp only [chk] at h
   cases Nat.eq_of_beq_eq_true h;rfl
  | _=>simp_all [chk]
 | .nilptr,v,h=>by cases v<;>simp_all [chk,norm]
 | .func f a b,v,h=>by
  cases v with
  | func g a' b' =>
   cases g with
   | func g =>
    simp only [chk,Bool.and_eq_true] at h
    obtain ⟨⟨h0,h1⟩,h2⟩:=h
    cases Nat.eq_of_beq_eq_true h0
    simp only [norm,fstV,capV]
    exact congr (congrArg (PV.func (.func f)) (aA6 a a' [] h1)) (aA6 b b' [] h2)
   | _=>simp_all [chk]
  | _=>simp_all [chk]
 | .bot,v,h=>by cases v<;>simp_all [chk,norm]
 | .any,v,h=>rfl
theorem aA6:∀ (ss:List Sh) (cs pre:List PV),chkL ss cs=true→aHm ss (pre++cs) pre.length=cs
 | [],[],_,_=>rfl
 | [],_::_,_,h=>by simp [chkL] at h
 | _::_,[],_,h=>by simp [chkL] at h
 | s::ss,c::cs,pre,h=>by
  simp only [chkL,Bool.and_eq_true] at h
  have h2:=aA6 ss cs (pre++[c]) h.2
  simp only [List.append_assoc,List.singleton_append,List.length_append,List.length_singleton] at h2
  simp only [aHm,h2]
  have:gt (pre++c::cs) pre.length=c:=by
   rw [aBF];simp
  rw [this,aP2 s c h.1]
end
theorem aKQ {ss:List Sh} {cs:List PV} (h:chkL ss cs=true):aHm ss cs 0=cs:=aA6 ss cs [] h
abbrev USh:=List (List (Nat×List Sh))
def chkB:List (Nat×List Sh)→aV→Bool
 | [],[]=>true
 | s::ss,c::cs=>Nat.beq s.1 c.1&&chkL s.2 c.2&&chkB ss cs
 | _,_=>false
def chkU:USh→UP→Bool
 | [],[]=>true
 | s::ss,c::cs=>chkB s c&&chkU ss cs
 | _,_=>false
def boxI (b:aV) (i:Nat):List PV :=
 match nth b i with
 | some x=>x.2
 | none=>[]
def frI (u:UP) (i:Nat):aV :=
 match nth u i with
 | some x=>x
 | none=>[]
def aWf:List (Nat×List Sh)→aV→Nat→aV
 | [],_,_=>[]
 | s::ss,b,i=>(s.1,aHm s.2 (boxI b i) 0)::aWf ss b (i+1)
def aP3:USh→UP→Nat→UP
 | [],_,_=>[]
 | s::ss,u,i=>aWf s (frI u i) 0::aP3 ss u (i+1)
theorem aJ0 {α:Type} (a:List α) (x:α) (b:List α):nth (a++x::b) a.length=some x:=by
 induction a with
 | nil=>rfl
 | cons y a ih=>exact ih
theorem aSp:∀ (ss:List (Nat×List Sh)) (cs pre:aV),chkB ss cs=true→aWf ss (pre++cs) pre.length=cs
 | [],[],_,_=>rfl
 | [],_::_,_,h=>by simp [chkB] at h
 | _::_,[],_,h=>by simp [chkB] at h
 | s::ss,c::cs,pre,h=>by
  simp only [chkB,Bool.and_eq_true] at h
  have h2:=aSp ss cs (pre++[c]) h.2
  simp only [List.append_assoc,List.singleton_append,List.length_append,List.length_singleton] at h2
  simp only [aWf,h2,boxI,aJ0,aKQ h.1.2,Nat.eq_of_beq_eq_true h.1.1]
theorem aSq:∀ (ss:USh) (cs pre:UP),chkU ss cs=true→aP3 ss (pre++cs) pre.length=cs
 | [],[],_,_=>rfl
 | [],_::_,_,h=>by simp [chkU] at h
 | _::_,[],_,h=>by simp [chkU] at h
 | s::ss,c::cs,pre,h=>by
  simp only [chkU,Bool.and_eq_true] at h
  have h2:=aSq ss cs (pre++[c]) h.2
  simp only [List.append_assoc,List.singleton_append,List.length_append,List.length_singleton] at h2
  simp only [aP3,h2,frI,aJ0]
  have h3:=aSp s c [] h.1
  rw [show aWf s c 0=c from h3]
theorem aHn {ss:USh} {u:UP} (h:chkU ss u=true):aP3 ss u 0=u:=aSq ss u [] h
structure LSh where
 head:List Sh
 headU:USh
 exits:List (Option Nat×List Sh×USh)
structure Decs where
 decs:List (Nat×Sh):=[]
 ups:List (Nat×USh):=[]
 loops:List (Nat×List (Nat×Nat)×LSh):=[]
def aZ6:List (Nat×Nat)→List (Nat×Nat)→Bool
 | [],[]=>true
 | a::l,b::m=>Nat.beq a.1 b.1&&Nat.beq a.2 b.2&&aZ6 l m
 | _,_=>false
def aZ7:List (Nat×List (Nat×Nat)×LSh)→Nat→List (Nat×Nat)→Option LSh
 | [],_,_=>none
 | (i,sh,x)::l,j,t=>match Nat.beq i j&&aZ6 sh t with
  | true=>some x
  | false=>aZ7 l j t
section
variable {R : Type}
def decW (ds:Decs) (d:Option Nat) (e:Eff) (K:Eff→Option R):Option R :=
 match d with
 | some d=>match look ds.decs d with
  | some sh=>match e.ws with
   | x::ws=>cnd (chk sh x.2) (K {e with ws:=(x.1,norm sh x.2)::ws}) none
   | []=>K e
  | none=>K e
 | none=>K e
def decE (ds:Decs) (d:Option Nat) (e:Eff) (K:Eff→Option R):Option R :=
 match e.up with
 | none=>decW ds d e K
 | some u=>match d with
  | some i=>match look ds.ups i with
   | some us=>cnd (chkU us u) (decW ds d {e with up:=some (aP3 us u 0)} K) none
   | none=>none
  | none=>none
end
theorem aSr {R:Type} {ds:Decs} {d:Option Nat} {e:Eff} {K' K:Eff→Option R} (hK:∀ e r,K' e=some r→K e=some r) {r:R} (h:decW ds d e K'=some r):K e=some r:=by
 unfold decW at h
 split at h
 ·split at h
  ·split at h
   ·rename_i sh _ x ws hw
    rcases aZ h with ⟨hc,h⟩ | ⟨_,h⟩
    ·rw [aP2 _ _ hc] at h
     have:{e with ws:=(x.1,x.2)::ws}=e:=by
      cases e;simp_all
     rw [this] at h;exact hK _ _ h
    ·simp at h
   ·exact hK _ _ h
  ·exact hK _ _ h
 ·exact hK _ _ h
theorem aSs {R:Type} {ds:Decs} {d:Option Nat} {e:Eff} {K' K:Eff→Option R} (hK:∀ e r,K' e=some r→K e=some r) {r:R} (h:decE ds d e K'=some r):K e=some r:=by
 unfold decE at h
 split at h
 ·exact aSr hK h
 ·rename_i u hu
  split at h
  ·split at h
   ·rcases aZ h with ⟨hc,h⟩ | ⟨_,h⟩
    ·rw [aHn hc] at h
     have:{e with up:=some u}=e:=by cases e;simp_all
     rw [this] at h;exact aSr hK h
    ·simp at h
   ·simp at h
  ·simp at h
section
variable (P : Program) (mt : Hints) (ds : Decs) (nt : Nat) (O : Orc) (LP : bL → bL)
def aA7 {R:Type} (ops:Array Oper):List Oper→St→(St→Option R)→Option R
 | [],st,K=>K st
 | o::os,st,K=>iT ops (ops.size+1) o st fun b st =>
  match b with
  | true=>aS P mt nt O o st fun e=>decE ds o.dst e fun e=>aA7 ops os (e.app st) K
  | false=>aA7 ops os {st with fr:=dstW nt o.dst .und++st.fr} K
def uE {R:Type} (ops:Array Oper):Nat→List Oper→List (Nat×Foot)→St→(List (Nat×Foot)→St→Option R)→Option R
 | _,[],log,st,K=>K log st
 | i,o::os,log,st,K=>iT ops (ops.size+1) o st fun b st =>
  match b with
  | true=>aS P mt nt O o st fun e=>decE ds o.dst e fun e =>
   match e.up with
   | some _ =>
    match aPw (Region.before ops) ops.size i with
    | true=>uE ops (i+1) os log (e.app st) K
    | false=>none
   | none=>uE ops (i+1) os ((i,e.foot)::log) (e.app st) K
  | false=>uE ops (i+1) os log {st with fr:=dstW nt o.dst .und++st.fr} K
def aZ8:List (Option Nat×List Sh×USh)→Option Nat→Option (List Sh×USh)
 | [],_=>none
 | (w,x)::l,v=>if w==v then some x else aZ8 l v
def aDH {R:Type} (xs:List (Option Nat×List Sh×USh)) (r:Ex×List PV×UP) (K:Ex→List PV→UP→Option R):List (Option Nat)→Option R
 | []=>none
 | w::l=>exIs r.1 w (match aZ8 xs w with
  | some (ss,us)=>cnd (chkL ss r.2.1) (cnd (chkU us r.2.2) (K (exOf w) (aHm ss r.2.1 0) (aP3 us r.2.2 0)) none) none
  | none=>none) (aDH xs r K l)
def dN {R:Type}:Code→St→(Ex→St→Option R)→Option R
 | .skip,st,K=>K .nrm st
 | .label _,st,K=>K .nrm st
 | .region rid ops draw,st,K=>aDo mt.frz rid st fun st =>
  match draw with
  | false=>aA7 P mt ds nt O ops ops.toList st (K .nrm)
  | true =>
   match vH mt ops (Region.before ops) with
   | true=>uE P mt ds nt O ops 0 ops.toList [] st fun log st =>
    match nE (Region.before ops) log with
    | true=>K .nrm st
    | false=>none
   | false=>none
 | .seq a b,st,K=>dN a st fun e st =>
  match e with
  | .nrm=>dN b st K
  | .brk i=>K (.brk i) st
  | .ret=>K .ret st
 | .cond c a b,st,K=>brB (opd st.fr c) fun t =>
  match t with
  | true=>dN a (xT c true st) K
  | false=>dN b (xT c false st) K
 | .block id b,st,K=>dN b st fun e st =>
  match e with
  | .nrm=>K .nrm st
  | .brk i=>if i=id then K .nrm st else K (.brk i) st
  | .ret=>K .ret st
 | .scope b,st,K=>dN b st K
 | .exit id,st,K=>K (.brk id) st
 | .ret,st,K=>K .ret st
 | .loop b,st,K=>aDo mt.frl (fM b) st fun st =>
  match aZ7 ds.loops (fM b) (nF st.bx) with
  | none=>none
  | some h =>
   pack (yM mt b) (nF st.bx) st fun s u =>
    bnd (LP (fun s u=>cnd (chkL h.head s) (cnd (chkU h.headU u) (dN b (cH (yM mt b) (nF st.bx) (aHm h.head s 0) (aP3 h.headU u 0)) fun e st'=>pack (yM mt b) (nF st.bx) st' fun s u=>some (e,s,u)) none) none) s u) fun r =>
     aDH h.exits r (fun e s u=>K e (cH (yM mt b) (nF st.bx) s u)) (kJ b)
 | _,_,_=>none
def aAa (fn:Func) (args:List PV) (up:UP):Option (PV×UP) :=
 match fn.body with
 | some c=>if args.length≤nt then dN P mt ds nt O LP c (pX args up) fun e st =>
   match e with
   | .brk _=>none
   | .nrm=>aKs P fn mt.own st
   | .ret=>aKs P fn mt.own st
  else none
 | none=>none
end
section
variable {P : Program} {mt : Hints} {ds : Decs} {nt : Nat} {O : Orc} {LP : bL → bL}
theorem bAJ {R:Type} {v:PV} {K' K:Bool→Option R} (hK:∀ b r,K' b=some r→K b=some r) {r:R} (h:brB v K'=some r):brB v K=some r:=by
 unfold brB at h ⊢
 obtain ⟨b,hb,h⟩:=aB h
 rw [hb]
 cases b with
 | true=>exact hK _ _ h
 | false=>exact hK _ _ h
theorem aHo {ops:Array Oper} {R:Type}:∀ (n:Nat) (o:Oper) (st:St) {K' K:Bool→St→Option R},(∀ b s r,K' b s=some r→K b s=some r)→∀ {r},iT ops n o st K'=some r→iT ops n o st K=some r:=by
 intro n o st K' K hK r h
 rw [gN] at h ⊢
 obtain ⟨x,hx,h⟩:=aB h
 rw [hx];exact hK _ _ _ h
theorem aJ1 {R:Type} {o:Oper} {st:St} {K' K:Eff→Option R} (hK:∀ e r,K' e=some r→K e=some r) {r:R} (h:aS P mt nt O o st K'=some r):aS P mt nt O o st K=some r:=by
 rw [eZ] at h ⊢
 obtain ⟨x,hx,h⟩:=aB h
 rw [hx];exact hK _ _ h
theorem aAb {R:Type} {ops:Array Oper}:∀ (os:List Oper) (st:St) {K' K:St→Option R},(∀ s r,K' s=some r→K s=some r)→∀ {r},aA7 P mt ds nt O ops os st K'=some r→iI P mt nt O ops os st K=some r
 | [],st,K',K,hK,r,h=>hK _ _ h
 | o::os,st,K',K,hK,r,h=>by
  simp only [aA7] at h
  simp only [iI]
  refine aHo _ _ _ (fun b s r h => ?_) h
  cases b with
  | true =>
   simp only at h ⊢
   refine aJ1 (fun e r h => ?_) h
   exact aSs (ds:=ds) (d:=o.dst) (K':=fun e=>aA7 P mt ds nt O ops os (e.app s) K') (K:=fun e=>iI P mt nt O ops os (e.app s) K) (fun e r h=>aAb os _ hK h) h
  | false=>exact aAb os _ hK h
theorem qB {R:Type} {ops:Array Oper}:∀ (os:List Oper) (i:Nat) (log:List (Nat×Foot)) (st:St) {K' K:List (Nat×Foot)→St→Option R},(∀ l s r,K' l s=some r→K l s=some r)→∀ {r},uE P mt ds nt O ops i os log st K'=some r→bW P mt nt O ops i os log st K=some r
 | [],i,log,st,K',K,hK,r,h=>hK _ _ _ h
 | o::os,i,log,st,K',K,hK,r,h=>by
  simp only [uE] at h
  simp only [bW]
  refine aHo _ _ _ (fun b s r h => ?_) h
  cases b with
  | true =>
   simp only at h ⊢
   refine aJ1 (fun e r h => ?_) h
   refine aSs (ds:=ds) (d:=o.dst) (K:=fun e=>match e.up with | some _=>(match aPw (Region.before ops) ops.size i with | true=>bW P mt nt O ops (i+1) os log (e.app s) K | false=>none) | none=>bW P mt nt O ops (i+1) os ((i,e.foot)::log) (e.app s) K) (fun e r h => ?_) h
   cases hu:e.up with
   | some u =>
    rw [hu] at h;simp only at h ⊢
    split at h
    ·exact qB os _ _ _ hK h
    ·simp at h
   | none=>rw [hu] at h;exact qB os _ _ _ hK h
  | false=>exact qB os _ _ _ hK h
theorem aYd {R:Type} {e:Ex} {w:Option Nat} {x x' y y':Option R} (hx:e=exOf w→∀ r,x'=some r→x=some r) (hy:∀ r,y'=some r→y=some r) {r:R} (h:exIs e w x' y'=some r):exIs e w x y=some r:=by
 cases e with
 | nrm=>cases w<;>exact hy _ h
 | ret=>cases w with
  | none=>exact hx rfl _ h
  | some j=>exact hy _ h
 | brk i=>cases w with
  | none=>exact hy _ h
  | some j =>
   simp only [exIs] at h ⊢
   split
   ·rename_i hij;rw [if_pos hij] at h;subst hij;exact hx rfl _ h
   ·rename_i hij;rw [if_neg hij] at h;exact hy _ h
theorem aFH {R:Type} {xs:List (Option Nat×List Sh×USh)} {q:Ex×List PV×UP} {K':Ex→List PV→UP→Option R} {K:Ex→Option R} (hK:∀ e r,K' e q.2.1 q.2.2=some r→K e=some r):∀ (l:List (Option Nat)) {r:R},aDH xs q K' l=some r→pI q.1 K l=some r
 | [],r,h=>by simp [aDH] at h
 | w::l,r,h=>by
  simp only [aDH] at h
  simp only [pI]
  refine aYd (fun he r h => ?_) (fun r h=>aFH hK l h) h
  split at h
  ·rcases aZ h with ⟨h1,h⟩ | ⟨_,h⟩
   ·rcases aZ h with ⟨h2,h⟩ | ⟨_,h⟩
    ·rw [aKQ h1,aHn h2] at h
     exact hK _ _ h
    ·simp at h
   ·simp at h
  ·simp at h
theorem aYe {R:Type} {kp:List Nat} {sh:List (Nat×Nat)} {st:St} {K' K:List PV→UP→Option R} (hK:∀ s u r,K' s u=some r→K s u=some r) {r:R} (h:pack kp sh st K'=some r):pack kp sh st K=some r:=by
 rw [aA5] at h ⊢
 obtain ⟨x,hx,h⟩:=aB h
 rw [hx];exact hK _ _ _ h
theorem aNa {R:Type} {l:List (Nat×List Nat)} {i:Nat} {st:St} {K' K:St→Option R} (hK:∀ s r,K' s=some r→K s=some r) {r:R} (h:aDo l i st K'=some r):aDo l i st K=some r:=by
 rw [iX] at h ⊢
 obtain ⟨x,hx,h⟩:=aB h
 rw [hx];exact hK _ _ h
theorem fD (hL:LLe LP LP):∀ {R:Type} (c:Code) (st:St) {K' K:Ex→St→Option R},(∀ e s r,K' e s=some r→K e s=some r)→∀ {r},dN P mt ds nt O LP c st K'=some r→aR P mt nt O LP c st K=some r
 | _,.skip,_,_,_,hK,_,h=>hK _ _ _ h
 | _,.label _,_,_,_,hK,_,h=>hK _ _ _ h
 | _,.exit _,_,_,_,hK,_,h=>hK _ _ _ h
 | _,.ret,_,_,_,hK,_,h=>hK _ _ _ h
 | _,.region id ops draw,st,K',K,hK,r,h=>by
  simp only [dN] at h
  simp only [aR]
  refine aNa (fun st r h => ?_) h
  cases draw with
  | false=>exact aAb _ _ (fun s r h=>hK _ _ _ h) h
  | true =>
   simp only at h ⊢
   split at h
   ·rename_i hs
    rw [hs]
    refine qB _ _ _ _ (fun l s r h => ?_) h
    split at h
    ·rename_i hf
     rw [hf];exact hK _ _ _ h
    ·simp at h
   ·simp at h
 | _,.seq a b,st,K',K,hK,r,h=>by
  simp only [dN] at h
  simp only [aR]
  refine fD hL a st (fun e s r h => ?_) h
  cases e with
  | nrm=>exact fD hL b s hK h
  | brk i=>exact hK _ _ _ h
  | ret=>exact hK _ _ _ h
 | _,.cond c a b,st,K',K,hK,r,h=>by
  simp only [dN] at h
  simp only [aR]
  refine bAJ (fun t r h => ?_) h
  cases t with
  | true=>exact fD hL a _ hK h
  | false=>exact fD hL b _ hK h
 | _,.block id b,st,K',K,hK,r,h=>by
  simp only [dN] at h
  simp only [aR]
  refine fD hL b st (fun e s r h => ?_) h
  cases e with
  | nrm=>exact hK _ _ _ h
  | brk i =>
   simp only at h ⊢
   split
   ·rename_i hi;rw [if_pos hi] at h;exact hK _ _ _ h
   ·rename_i hi;rw [if_neg hi] at h;exact hK _ _ _ h
  | ret=>exact hK _ _ _ h
 | _,.scope b,st,K',K,hK,r,h=>fD hL b st hK h
 | _,.loop b,st,K',K,hK,r,h=>by
  simp only [dN] at h
  simp only [aR]
  refine aNa (fun st r h => ?_) h
  split at h
  ·simp at h
  ·rename_i hsh _
   refine aYe (fun s u r h => ?_) h
   obtain ⟨q,hq,h⟩:=aB h
   rw [hL _ _ (fun s u r hr=>by
    rcases aZ hr with ⟨h1,hr⟩ | ⟨_,hr⟩
    ·rcases aZ hr with ⟨h2,hr⟩ | ⟨_,hr⟩
     ·rw [aKQ h1,aHn h2] at hr
      exact fD hL b _ (fun e s r h=>h) hr
     ·simp at hr
    ·simp at hr) _ _ _ hq]
   simp only [bnd]
   exact aFH (fun e r h=>hK _ _ _ h) _ h
 | _,.rangeFunc _ _ _ _,_,_,_,_,_,h=>by simp [dN] at h
 | _,.goto _,_,_,_,_,_,h=>by simp [dN] at h
 | _,.refuse _,_,_,_,_,_,h=>by simp [dN] at h
theorem aKR (hL:LLe LP LP) {fn:Func} {args:List PV} {up:UP} {r:PV×UP} (h:aAa P mt ds nt O LP fn args up=some r):kB P mt nt O LP fn args up=some r:=by
 unfold aAa at h
 unfold kB
 split at h
 ·rename_i hb
  rw [hb]
  split at h
  ·rename_i hle
   simp only [if_pos hle]
   refine fD hL _ _ (fun e s r h => ?_) h
   cases e<;>first | exact h | simp at h
  ·simp at h
 ·simp at h
theorem bAK {Mt:FuncId→Hints} {X:Ext} {f:FuncId} {fn:Func} {a:List PV} {u:UP} {r:PV×UP} (ds:Decs) (hx:X f=none) (hd:kF (Mt f) a u=false) (hf:P.funcs[f]?=some fn)
  (h:aAa P (Mt f) ds fn.ntmps (OL P Mt X) aE fn a u=some r):OL P Mt X f a u=some r :=
 aWb hx hd hf (aKR aFG h)
end
abbrev Str:=List UInt8
def nthI {α:Type} (l:List α) (i:Int):Option α:=if i<0 then none else l[i.toNat]?
def tapp {α:Type} (l m:List α):Option (List α):=if l.length+m.length≤lim then some (l++m) else none
def tslc {α:Type} (l:List α) (lo hi:Int):Option (List α):=if 0≤lo∧lo≤hi∧hi≤l.length then some ((l.take hi.toNat).drop lo.toNat) else none
def tshl (k:IntKind) (a b:Int):Option Int:=if b<0 then none else some (k.wrap (a*2 ^ min b.toNat k.bits))
def hJ {α:Type} (f:α→PV) (l:List α):PV := .slice (l.map f) [] false
def elim {α β γ:Type} (x:α⊕β) (f:α→γ) (g:β→γ):γ :=
 match x with
 | .inl a=>f a
 | .inr b=>g b
@[simp] theorem aO {α β γ:Type} (a:α) (f:α→γ) (g:β→γ):elim (.inl a) f g=f a:=rfl
@[simp] theorem aP {α β γ:Type} (b:β) (f:α→γ) (g:β→γ):elim (.inr b) f g=g b:=rfl
def pV {σ ρ:Type} (b:σ→Option (σ⊕ρ)):Nat→σ→Option ρ
 | 0,_=>none
 | n+1,s=>bnd (b s) fun x=>elim x (pV b n) some
theorem aCh {σ ρ:Type} {b:σ→Option (σ⊕ρ)}:∀ (n m:Nat) {s:σ} {r:ρ},n≤m→pV b n s=some r→pV b m s=some r
 | 0,_,_,_,_,h=>by simp [pV] at h
 | n+1,0,_,_,hnm,_=>by omega
 | n+1,m+1,s,r,hnm,h=>by
  simp only [pV] at h ⊢
  obtain ⟨x,hx,h⟩:=aB h
  rw [hx]
  cases x with
  | inl s'=>exact aCh n m (by omega) h
  | inr r'=>exact h
open Classical in
noncomputable def bG {σ ρ:Type} (b:σ→Option (σ⊕ρ)) (s:σ):Option ρ:=if h:∃ n r,pV b n s=some r then pV b (Classical.choose h) s else none
theorem aA8 {σ ρ:Type} {b:σ→Option (σ⊕ρ)} {s:σ} {r:ρ}:bG b s=some r↔∃ n,pV b n s=some r:=by
 unfold bG
 constructor
 ·intro h
  split at h
  ·exact ⟨_,h⟩
  ·simp at h
 ·rintro ⟨n,hn⟩
  have hex:∃ n r,pV b n s=some r:=⟨n,r,hn⟩
  rw [dif_pos hex]
  obtain ⟨r',hr'⟩:=Classical.choose_spec hex
  have h1:=aCh n (max n (Classical.choose hex)) (Nat.le_max_left _ _) hn
  have h2:=aCh (Classical.choose hex) (max n (Classical.choose hex)) (Nat.le_max_right _ _) hr'
  rw [h1] at h2
  rw [hr',← h2]
theorem aEE {σ ρ:Type} {b:σ→Option (σ⊕ρ)} {s s':σ} (h:b s=some (.inl s')):bG b s=bG b s':=by
 have key:∀ r,bG b s=some r↔bG b s'=some r:=by
  intro r
  rw [aA8,aA8]
  constructor
  ·rintro ⟨n,hn⟩
   cases n with
   | zero=>simp [pV] at hn
   | succ n=>simp only [pV,h,bnd,aO] at hn;exact ⟨n,hn⟩
  ·rintro ⟨n,hn⟩
   exact ⟨n+1,by simp only [pV,h,bnd,aO];exact hn⟩
 cases h1:bG b s' with
 | some r=>exact (key r).2 h1
 | none =>
  cases h2:bG b s with
  | none=>rfl
  | some r=>rw [(key r).1 h2] at h1;simp at h1
theorem cM {σ ρ:Type} {b:σ→Option (σ⊕ρ)} {s:σ} {r:ρ} (h:b s=some (.inr r)):bG b s=some r :=
 aA8.2 ⟨1,by simp only [pV,h,bnd,aP]⟩
def Imp {α β:Type} (x:Option α) (X:Option β) (R:α→β→Prop):Prop:=∀ a,x=some a→∃ v,X=some v∧R a v
section
variable {α β γ δ : Type} {R : α → β → Prop}
theorem Imp.none {X:Option β}:Imp (none:Option α) X R:=by intro a h;simp at h
theorem Imp.some {a:α} {v:β} (h:R a v):Imp (some a) (some v) R:=by intro b hb;cases hb;exact ⟨v,rfl,h⟩
theorem Imp.cnd {c:Bool} {a b:Option α} {A B:Option β} (h1:Imp a A R) (h2:Imp b B R):Imp (Ev.cnd c a b) (Ev.cnd c A B) R:=by cases c<;>assumption
theorem Imp.bnd {x:Option γ} {X:Option δ} {S:γ→δ→Prop} {k:γ→Option α} {K:δ→Option β} (h:Imp x X S) (hk:∀ a v,S a v→Imp (k a) (K v) R):Imp (Ev.bnd x k) (Ev.bnd X K) R:=by
 intro r hr
 obtain ⟨a,ha,hr⟩:=aB hr
 obtain ⟨v,hv,hs⟩:=h a ha
 rw [hv];exact hk a v hs r hr
theorem Imp.op {x:Option γ} {X:Option PV} {sh:Sh} {f:γ→PV} {k:γ→Option α} {K:PV→Option β} (h:∀ a,x=Option.some a→X=Option.some (f a)) (hc:∀ a,chk sh (f a)=true) (hk:∀ a,x=Option.some a→Imp (k a) (K (f a)) R) :
  Imp (Ev.bnd x k) (Ev.bnd X fun v=>Ev.cnd (chk sh v) (K v) Option.none) R:=by
 intro r hr
 obtain ⟨a,ha,hr⟩:=aB hr
 rw [h a ha]
 simp only [Ev.bnd,hc a]
 exact hk a ha r hr
theorem Imp.op2 {ε:Type} {x:Option γ} {X:Option PV} {sh:Sh} {f:γ→ε→PV} {k:γ→Option α} {K:PV→Option β} (h:∀ a,x=Option.some a→∃ e,X=Option.some (f a e)) (hc:∀ a e,chk sh (f a e)=true) (hk:∀ a e,x=Option.some a→Imp (k a) (K (f a e)) R) :
  Imp (Ev.bnd x k) (Ev.bnd X fun v=>Ev.cnd (chk sh v) (K v) Option.none) R:=by
 intro r hr
 obtain ⟨a,ha,hr⟩:=aB hr
 obtain ⟨e,he⟩:=h a ha
 rw [he]
 simp only [Ev.bnd,hc a e]
 exact hk a e ha r hr
theorem Imp.call {O:Orc} {g:FuncId} {args:List PV} {x:Option γ} {sh:Sh} {f:γ→PV} {k:γ→Option α} {K:PV→Option β} (ha:args.all free=true) (h:∀ a,x=Option.some a→O g args []=Option.some (f a,[])) (hc:∀ a,chk sh (f a)=true) (hk:∀ a,x=Option.some a→Imp (k a) (K (f a)) R) :
  Imp (Ev.bnd x k) (aT O g args fun v=>Ev.cnd (chk sh v) (K v) Option.none) R:=by
 intro r hr
 obtain ⟨a,hx,hr⟩:=aB hr
 unfold aT
 rw [ha,h a hx]
 simp only [Ev.cnd,Ev.bnd,hc a]
 exact hk a hx r hr
theorem Imp.gcall {O:Orc} {g:FuncId} {args:List PV} {up:UP} {x:Option γ} {sh:Sh} {us:USh} {f:γ→PV} {fu:γ→UP} {k:γ→Option α} {K:PV×UP→Option β} (h:∀ a,x=Option.some a→O g args up=Option.some (f a,fu a)) (hc:∀ a,chk sh (f a)=true)
  (hu:∀ a,chkU us (fu a)=true) (hk:∀ a,x=Option.some a→Imp (k a) (K (f a,fu a)) R) :
  Imp (Ev.bnd x k) (Ev.bnd (O g args up) fun v=>Ev.cnd (chkU us v.2) (Ev.cnd (chk sh v.1) (K v) Option.none) Option.none) R:=by
 intro r hr
 obtain ⟨a,hx,hr⟩:=aB hr
 rw [h a hx]
 simp only [Ev.cnd,Ev.bnd,hc a,hu a]
 exact hk a hx r hr
theorem Imp.chk {c:Bool} {x:Option α} {X:Option β} (hc:c=true) (h:Imp x X R):Imp x (Ev.cnd c X Option.none) R:=by rw [hc];exact h
theorem Imp.mono {x:Option α} {X:Option β} {S:α→β→Prop} (h:Imp x X R) (hs:∀ a v,R a v→S a v):Imp x X S:=fun a ha=>by
 obtain ⟨v,hv,hr⟩:=h a ha
 exact ⟨v,hv,hs _ _ hr⟩
def mH {σ ρ:Type} (RS:σ→List PV→UP→Prop) (RX:ρ→Ex×List PV×UP→Prop) (o:σ⊕ρ) (r:Ex×List PV×UP):Prop :=
 elim o (fun s=>r.1 = .nrm∧RS s r.2.1 r.2.2) (fun p=>r.1 ≠ .nrm∧RX p r)
theorem Imp.loop {σ ρ:Type} {RS:σ→List PV→UP→Prop} {RX:ρ→Ex×List PV×UP→Prop} {tb:σ→Option (σ⊕ρ)} {body:bL} (hb:∀ s l u,RS s l u→Imp (tb s) (body l u) (mH RS RX)) {s:σ} {l:List PV} {u:UP} (hs:RS s l u) :
  Imp (bG tb s) (aE body l u) RX:=by
 have key:∀ (n:Nat) (s:σ) (l:List PV) (u:UP),RS s l u→Imp (pV tb n s) (aE body l u) RX:=by
  intro n
  induction n with
  | zero=>intro s l u hs r hr;simp [pV] at hr
  | succ n ih =>
   intro s l u hs r hr
   simp only [pV] at hr
   obtain ⟨o,ho,hr⟩:=aB hr
   obtain ⟨q,hq,hS⟩:=hb s l u hs o ho
   rw [zZ,hq]
   simp only [Ev.bnd]
   cases o with
   | inl s' =>
    obtain ⟨h1,h2⟩:=hS
    rw [h1]
    exact ih s' _ _ h2 r hr
   | inr p =>
    obtain ⟨h1,h2⟩:=hS
    simp only [aP,Option.some.injEq] at hr
    subst hr
    obtain ⟨e,q1,q2⟩:=q
    cases e with
    | nrm=>exact absurd rfl h1
    | brk i=>exact ⟨_,rfl,h2⟩
    | ret=>exact ⟨_,rfl,h2⟩
 intro r hr
 obtain ⟨n,hn⟩:=aA8.1 hr
 exact key n s l u hs r hn
end
theorem aCi? {α:Type}:∀ (l:List α) (i:Nat),nth l i=l[i]?
 | [],i=>by simp [nth]
 | a::l,0=>rfl
 | a::l,i+1=>by simpa [nth] using aCi? l i
theorem aWg {α:Type} {enc:α→PV} {l:List α} {E bs:List PV} {o:Bool} {k:IntKind} {i:Int} {n:Nat} {a:α} (hE:E=l.map enc) (hn:((enc a).cells.length=n)∧0<n) (h:nthI l i=some a):ix n (.slice E bs o) (.int k i)=some (.ref (enc a)):=by
 unfold nthI at h
 split at h
 ·simp at h
 ·rename_i hi
  simp only [ix,if_neg hi,aCi?,hE,List.getElem?_map,h,Option.map_some,bnd,if_pos hn]
theorem gO {s:Str} {k:IntKind} {i:Int} {b:UInt8} (h:nthI s i=some b):tD (.str s) (.int k i)=some (.int .u8 b.toNat):=by
 unfold nthI at h
 split at h
 ·simp at h
 ·rename_i hi
  simp only [tD,if_neg hi,aCi?,h,bnd]
theorem aSt {α:Type} {enc:α→PV} {n:Nat} (hn:∀ a,(enc a).cells.length=n) (l:List α):szOk n (l.map enc)=true:=by
 cases l<;>simp [szOk,hn]
theorem sD {α:Type} {enc:α→PV} {l m r:List α} {A B bs bs':List PV} {o:Bool} {n:Nat} (hA:A=l.map enc) (hB:B=m.map enc) (hn:∀ a,(enc a).cells.length=n) (h:tapp l m=some r) :
  apd n (.slice A bs true) (.slice B bs' o)=some (.slice (r.map enc) [] true):=by
 unfold tapp at h
 split at h
 ·rename_i hl
  cases h
  subst hA hB
  simp only [apd,List.length_map,aSt hn,hl,and_self,if_true,List.map_append]
 ·simp at h
theorem bBN {α:Type} {enc:α→PV} {l b r:List α} {E bs:List PV} {o:Bool} {n:Nat} {lo hi:Int} (hE:E=l.map enc) (hb:bs=b.map enc) (hn:∀ a,(enc a).cells.length=n+1) (h:tslc l lo hi=some r) :
  ∃ c:List α,aEw (n+1) (.slice E bs o) lo.toNat hi.toNat=some (.slice (r.map enc) (c.map enc) false):=by
 unfold tslc at h
 split at h
 ·rename_i hl
  cases h
  subst hE hb
  refine ⟨(l++b).drop hi.toNat,?_⟩
  have h1:lo.toNat≤hi.toNat:=by omega
  have h2:hi.toNat≤l.length:=by omega
  have h3:hi.toNat≤(l.map enc).length+(b.map enc).length:=by simp;omega
  have hz:=aSt hn (l++b)
  rw [List.map_append] at hz
  simp only [aEw,h1,h3,hz,and_self,if_true]
  simp only [← List.map_append,← List.map_take,← List.map_drop,List.take_append_of_le_length h2]
 ·simp at h
theorem aWh {k:IntKind} {n:Int} (h:0≤n):yK (.int k n)=some n.toNat:=by
 simp only [yK];rw [if_neg (by omega)]
theorem bAL {α:Type} {l r:List α} {lo hi:Int} (h:tslc l lo hi=some r):0≤lo∧0≤hi:=by
 unfold tslc at h
 split at h
 ·omega
 ·simp at h
theorem aYf {α:Type} {enc:α→PV} {l b r:List α} {E bs:List PV} {o:Bool} {n:Nat} {k':IntKind} {hi:Int} (hE:E=l.map enc) (hb:bs=b.map enc) (hn:∀ a,(enc a).cells.length=n+1) (h:tslc l 0 hi=some r) :
  ∃ c:List α,aTQ (n+1) (.slice E bs o) (.int k' hi)=some (.slice (r.map enc) (c.map enc) false):=by
 obtain ⟨h1,h2⟩:=bAL h
 simp only [aTQ,aWh h2,bnd]
 exact bBN hE hb hn h
theorem bBO {k k':IntKind} {a b r:Int} (h:tshl k a b=some r):bin .shl (.int k a) (.int k' b)=some (.int k r):=by
 unfold tshl at h
 split at h
 ·simp at h
 ·rename_i hb;cases h;simp only [bin,if_neg hb]
open Classical in
noncomputable def tO {α:Type} (O:Orc) (f:FuncId) (args:List PV) (up:UP) (enc:α→PV×UP):Option α:=if h:∃ r,O f args up=some (enc r) then some (Classical.choose h) else none
theorem bM {α:Type} {O:Orc} {f:FuncId} {args:List PV} {up:UP} {enc:α→PV×UP} {r:α} (h:tO O f args up enc=some r):O f args up=some (enc r):=by
 unfold tO at h
 split at h
 ·rename_i hex;cases h;exact Classical.choose_spec hex
 ·simp at h
theorem aP4 {α:Type} {O:Orc} {f:FuncId} {args:List PV} {up:UP} {enc:α→PV×UP} (inj:∀ a b,enc a=enc b→a=b) {r:α} (h:O f args up=some (enc r)):tO O f args up enc=some r:=by
 unfold tO
 have hex:∃ r,O f args up=some (enc r):=⟨r,h⟩
 rw [dif_pos hex]
 have h2:=Classical.choose_spec hex
 exact congrArg some (inj _ _ (Option.some.inj (h2.symm.trans h)))
theorem cL {α:Type} {f:α→PV} (hf:∀ a b,f a=f b→a=b):∀ {l m:List α},l.map f=m.map f→l=m
 | [],[],_=>rfl
 | [],_::_,h=>by simp at h
 | _::_,[],h=>by simp at h
 | a::l,b::m,h=>by
  simp only [List.map,List.cons.injEq] at h
  rw [hf _ _ h.1,cL hf h.2]
theorem encSl_inj {α:Type} {f:α→PV} (hf:∀ a b,f a=f b→a=b) (l m:List α) (h:hJ f l=hJ f m):l=m:=by
 simp only [hJ,PV.slice.injEq,and_true] at h
 exact cL hf h
theorem str_inj (a b:Str) (h:PV.str a=PV.str b):a=b:=by cases h;rfl
theorem int_inj (k:IntKind) (a b:Int) (h:PV.int k a=PV.int k b):a=b:=by cases h;rfl
theorem bool_inj (a b:Bool) (h:PV.bool a=PV.bool b):a=b:=by cases h;rfl
theorem aA9 {α:Type} {f:α→PV} (hf:∀ a b,f a=f b→a=b) (a b:α) (h:((f a,[]):PV×UP)=(f b,[])):a=b:=hf _ _ (Prod.mk.inj h).1
def hit (e:Ex) (w:Option Nat):Bool :=
 match e,w with
 | .brk i,some j=>Nat.beq i j
 | .ret,none=>true
 | _,_=>false
theorem aYg {β:Type} {e:Ex} {w:Option Nat} {X Y:Option β} (h:hit e w=true):exIs e w X Y=X:=by
 cases e<;>cases w<;>simp_all [hit,exIs]
theorem aWi {β:Type} {e:Ex} {w:Option Nat} {X Y:Option β} (h:hit e w=false):exIs e w X Y=Y:=by
 cases e with
 | nrm=>cases w<;>rfl
 | ret=>cases w with
  | none=>simp [hit] at h
  | some j=>rfl
 | brk i=>cases w with
  | none=>rfl
  | some j =>
   simp only [hit] at h
   simp only [exIs]
   rw [if_neg]
   intro hij
   subst hij
   simp at h
section
variable {α β : Type} {R : α → β → Prop}
theorem Imp.exHit {e:Ex} {w:Option Nat} {x:Option α} {X Y:Option β} (h:hit e w=true) (hx:Imp x X R):Imp x (exIs e w X Y) R:=by
 rw [aYg h];exact hx
theorem Imp.exMiss {e:Ex} {w:Option Nat} {x:Option α} {X Y:Option β} (h:hit e w=false) (hx:Imp x Y R):Imp x (exIs e w X Y) R:=by
 rw [aWi h];exact hx
end
section
variable {σ ρ : Type} {RS : σ → List PV → UP → Prop} {RX : ρ → Ex × List PV × UP → Prop}
theorem mH.next {s:σ} {l:List PV} {u:UP} (h:RS s l u):mH RS RX (.inl s) (.nrm,l,u):=⟨rfl,h⟩
theorem mH.brk {p:ρ} {i:Nat} {l:List PV} {u:UP} (h:RX p (.brk i,l,u)):mH RS RX (.inr p) (.brk i,l,u):=⟨by simp,h⟩
theorem mH.ret {p:ρ} {l:List PV} {u:UP} (h:RX p (.ret,l,u)):mH RS RX (.inr p) (.ret,l,u):=⟨by simp,h⟩
end
theorem encSlO_inj {α:Type} {f:α→PV} (hf:∀ a b,f a=f b→a=b) (l m:List α) (h:PV.slice (l.map f) [] true=PV.slice (m.map f) [] true):l=m:=by
 simp only [PV.slice.injEq,and_true] at h
 exact cL hf h
theorem evs:(∀ v,refV (.ref v)=v)∧(∀ cs,aggV (.agg cs)=cs)∧(∀ cs,tupV (.tuple cs)=cs)∧(∀ k n,intV (.int k n)=n)∧(∀ s,strV (.str s)=s)∧(∀ b,bP (.bool b)=b) ∧
  (∀ a b o,esV (.slice a b o)=a)∧(∀ a b o,bsV (.slice a b o)=b)∧(∀ f a b,fstV (.func f a b)=a)∧(∀ f a b,capV (.func f a b)=b)∧(∀ a l,gt (a::l) 0=a)∧(∀ a l n,gt (a::l) (n+1)=gt l n) ∧
  (∀ a l,boxI (a::l) 0=a.2)∧(∀ a l n,boxI (a::l) (n+1)=boxI l n)∧(∀ a l,frI (a::l) 0=a)∧(∀ a l n,frI (a::l) (n+1)=frI l n) ∧
  (∀ (α β:Type) (f:α→β) (l:List α),(List.map f l).length=l.length)∧(∀ (β:Type) (x y:Option β),cnd true x y=x)∧(∀ (β:Type) (x y:Option β),cnd false x y=y)∧(∀ (α:Type) (f:α→PV) (l:List α),hJ f l = .slice (List.map f l) [] false) ∧
  (∀ d i o,offV (.ptr d i o)=o)∧(∀ d i n z,rlnV (.rsl d i n z)=n)∧(∀ z E,vecV (.vec z E)=E)∧(∀ (α β:Type) (f:α→β) (l:List α) (n:Nat),List.take n (List.map f l)=List.map f (List.take n l)):=by
 refine ⟨?_,?_,?_,?_,?_,?_,?_,?_,?_,?_,?_,?_,?_,?_,?_,?_,?_,?_,?_,?_,?_,?_,?_,?_⟩<;>intros<;>first | rfl | exact List.length_map _ | exact (List.map_take).symm
theorem evl:(∀ (α β:Type) (f:α→β),List.map f []=[])∧(∀ (α β:Type) (f:α→β) (a:α) (l:List α),List.map f (a::l)=f a::List.map f l)∧(∀ (α:Type) (f:α→PV) (l:List α),hJ f l = .slice (List.map f l) [] false) :=
 ⟨fun _ _ _=>rfl,fun _ _ _ _ _=>rfl,fun _ _ _=>rfl⟩
theorem evc:(∀ v,cells (.agg v)=v)∧(∀ (a:PV) l,(a::l).length=l.length+1)∧([]:List PV).length=0:=⟨fun _=>rfl,fun _ _=>rfl,rfl⟩
theorem evk:(∀ a b,chk (.agg a) (.agg b)=chkL a b)∧(∀ a b,chk (.tup a) (.tuple b)=chkL a b)∧chkL [] []=true∧(∀ s v ss vs,chkL (s::ss) (v::vs)=(chk s v&&chkL ss vs))∧(∀ b,chk .bool (.bool b)=true)∧(∀ k n,chk (.int k) (.int k n)=true)∧(∀ s,chk .str (.str s)=true) ∧
  (∀ l o,chk (.sl o) (.slice l [] o)=true)∧(∀ v s,chk (.ref s) (.ref v)=chk s v)∧(true&&true)=true:=by
 refine ⟨fun _ _=>rfl,fun _ _=>rfl,rfl,fun _ _ _ _=>rfl,fun _=>rfl,fun k n=>by simp [chk],fun _=>rfl,fun l o=>by simp [chk],fun _ _=>rfl,rfl⟩
theorem zI {p:Prop} (h:p:=by first | rfl | simp only [evs,tys,evl]):p:=h
theorem zE {p:Prop} (h:p:=by first | rfl | simp only [evs,tys,evl,aO,aP]):p:=h
theorem zF {p:Prop} (h:p:=by first | rfl | simp only [zes,evs,tys,evl]):p:=h
theorem zA {p:Prop} (h:p:=by first | rfl | simp only [evs,tys,evc]):p:=h
section
variable {α β γ δ : Type} {R : α → β → Prop}
theorem zC {O:Orc} {g:FuncId} {args args':List PV} {x:Option γ} {sh:Sh} {f:γ→PV} {k:γ→Option α} {K:PV→Option β} (h:x=tO O g args' [] fun r=>(f r,[])) (hk:∀ a,x=Option.some a→Imp (k a) (K (f a)) R)
  (he:args=args':=by first | rfl | simp only [evs,tys,evl]) (ha:args.all free=true:=by rfl) (hc:∀ a,chk sh (f a)=true:=by intro a;first | rfl | simp only [zes,evk,chks]) :
  Imp (Ev.bnd x k) (aT O g args fun v=>Ev.cnd (chk sh v) (K v) Option.none) R :=
 Imp.call ha (fun a h'=>by rw [he];exact bM (enc:=fun r=>(f r,[])) (h ▸ h')) hc hk
theorem zK {sh:Sh} {f:γ→PV} (h:∀ a,chk sh (f a)=true:=by intro a;first | rfl | simp only [zes,evk,chks]):∀ a,chk sh (f a)=true:=h
theorem zX (enc:γ→PV) {l:List γ} {E bs:List PV} {o:Bool} {kd:IntKind} {i:Int} {n:Nat} {sh:Sh} {k:γ→Option α} {K:PV→Option β} (hc:∀ a,chk sh (.ref (enc a))=true) (hk:∀ a,nthI l i=Option.some a→Imp (k a) (K (.ref (enc a))) R)
  (hE:E=l.map enc:=by first | rfl | simp only [evs,tys,evl]) (hn:∀ a,(enc a).cells.length=n:=by intro a;first | rfl | simp only [evs,tys,evc]) (h0:0<n:=by decide) :
  Imp (Ev.bnd (nthI l i) k) (Ev.bnd (ix n (.slice E bs o) (.int kd i)) fun v=>Ev.cnd (chk sh v) (K v) Option.none) R :=
 Imp.op (fun a h=>aWg hE ⟨hn a,h0⟩ h) hc hk
theorem zH {e:Ex} {w:Option Nat} {c d:Bool} {x:Option α} {X Y:Option β} (hx:Imp x X R) (h:hit e w=true:=by rfl) (hc:c=true:=by first | rfl | (cases w<;>rfl)) (hd:d=true:=by first | rfl | (cases w<;>rfl)):Imp x (exIs e w (Ev.cnd c (Ev.cnd d X Option.none) Option.none) Y) R :=
 Imp.exHit h (Imp.chk hc (Imp.chk hd hx))
theorem zG {c d:Bool} {x:Option α} {X:Option β} (hx:Imp x X R) (hc:c=true:=by first | rfl | (cases w<;>rfl)) (hd:d=true:=by first | rfl | (cases w<;>rfl)):Imp x (Ev.cnd c (Ev.cnd d X Option.none) Option.none) R :=
 Imp.chk hc (Imp.chk hd hx)
theorem zR {a:α} {v:β} (h:R a v:=by first | rfl | simp only [zes,evs,tys,evl] | (show _=_;simp only [zes,evs,tys,evl])):Imp (some a) (some v) R:=Imp.some h
end
section
variable {α β σ ρ : Type} {R : α → β → Prop} {RS : σ → List PV → UP → Prop} {RX : ρ → Ex × List PV × UP → Prop}
def Lok (RS:σ→List PV→UP→Prop) (tb:σ→Option (σ⊕ρ)) (body:bL) (RX:ρ→Ex×List PV×UP→Prop):Prop:=∀ s l u,RS s l u→Imp (tb s) (body l u) (mH RS RX)
theorem zL {tb:σ→Option (σ⊕ρ)} {body:bL} {s:σ} {l:List PV} {u:UP} {k:ρ→Option α} {K:Ex×List PV×UP→Option β} (hb:Lok RS tb body RX) (hk:∀ a v,RX a v→Imp (k a) (K v) R) (hs:RS s l u:=by exact ⟨by first | rfl | simp only [evs,tys,evl],rfl⟩) :
  Imp (Ev.bnd (bG tb s) k) (Ev.bnd (aE body l u) K) R:=Imp.bnd (Imp.loop hb hs) hk
theorem zN {s:σ} {l:List PV} {u:UP} (h:RS s l u:=by exact ⟨by first | rfl | simp only [evs,tys,evl],rfl⟩):Imp (some (Sum.inl s)) (some ((Ex.nrm,l,u):Ex×List PV×UP)) (mH RS RX):=Imp.some (mH.next h)
theorem zB {p:ρ} {i:Nat} {l:List PV} {u:UP} (h:RX p (.brk i,l,u)):Imp (some (Sum.inr p)) (some ((Ex.brk i,l,u):Ex×List PV×UP)) (mH RS RX):=Imp.some (mH.brk h)
theorem zT {p:ρ} {l:List PV} {u:UP} (h:RX p (.ret,l,u)):Imp (some (Sum.inr p)) (some ((Ex.ret,l,u):Ex×List PV×UP)) (mH RS RX):=Imp.some (mH.ret h)
end
theorem zV {P:Program} {Mt:FuncId→Hints} {X:Ext} {f:FuncId} {fn:Func} {args:List PV} {up:UP} {α:Type} {x b:Option α} {e:α→PV} {ue:α→UP} {T:Option (PV×UP)} {ds:Decs} {r:α} (hinj:∀ a b,e a=e b→a=b) (imp:Imp b T (fun r v=>v=(e r,ue r)))
  (hf:P.funcs[f]?=some fn) (t1:aAa P (Mt f) ds fn.ntmps (OL P Mt X) aE fn args up=T) (h:b=some r) (hx:X f=none:=by rfl) (hd:kF (Mt f) args up=false:=by rfl) (hq:x=tO (OL P Mt X) f args up (fun r=>(e r,ue r)):=by rfl):x=some r:=by
 obtain ⟨v,hv,rfl⟩:=imp r h
 rw [hq]
 exact aP4 (fun a b h=>hinj a b (Prod.mk.inj h).1) (bAK ds hx hd hf (t1.trans hv))
def zs (s:List PV) (i:Nat):PV := .slice (esV (gt s i)) [] false
def zo (s:List PV) (i:Nat):PV := .slice (esV (gt s i)) [] true
def zn (s:List PV) (i:Nat):PV := .int .i64 (intV (gt s i))
def zb (s:List PV) (i:Nat):PV := .bool (bP (gt s i))
def zt (s:List PV) (i:Nat):PV := .str (strV (gt s i))
def iv (s:List PV) (i:Nat):Int:=intV (gt s i)
def ev (s:List PV) (i:Nat):List PV:=esV (gt s i)
def av (s:List PV) (i:Nat):List PV:=aggV (gt s i)
def tv (s:PV) (i:Nat):PV:=gt (tupV s) i
def rf (s:PV):List PV:=aggV (refV s)
def tg (s:PV) (i:Nat):List PV:=aggV (gt (tupV s) i)
def bx (u:UP) (i j:Nat):List PV:=boxI (frI u i) j
def sv (s:List PV) (i:Nat):Str:=strV (gt s i)
def bv (s:List PV) (i:Nat):Bool:=bP (gt s i)
def w6 (i:Int):Int:=IntKind.wrap .i64 i
theorem zd:(∀ s i,zs s i = .slice (esV (gt s i)) [] false)∧(∀ s i,zo s i = .slice (esV (gt s i)) [] true)∧(∀ s i,zn s i = .int .i64 (intV (gt s i)))∧(∀ s i,zb s i = .bool (bP (gt s i)))∧(∀ s i,zt s i = .str (strV (gt s i))) ∧
  (∀ s i,iv s i=intV (gt s i))∧(∀ s i,ev s i=esV (gt s i))∧(∀ s i,av s i=aggV (gt s i))∧(∀ s i,tv s i=gt (tupV s) i)∧(∀ s,rf s=aggV (refV s))∧(∀ s i,tg s i=aggV (gt (tupV s) i))∧(∀ u i j,bx u i j=boxI (frI u i) j)∧(∀ s i,sv s i=strV (gt s i))∧(∀ s i,bv s i=bP (gt s i))∧(∀ i,w6 i=IntKind.wrap .i64 i) :=
 ⟨fun _ _=>rfl,fun _ _=>rfl,fun _ _=>rfl,fun _ _=>rfl,fun _ _=>rfl,fun _ _=>rfl,fun _ _=>rfl,fun _ _=>rfl,fun _ _=>rfl,fun _=>rfl,fun _ _=>rfl,fun _ _ _=>rfl,fun _ _=>rfl,fun _ _=>rfl,fun _=>rfl⟩
def rb1:Sh→List PV→Nat→PV
 | .sl o,s,i => .slice (esV (gt s i)) [] o
 | .int k,s,i => .int k (intV (gt s i))
 | .bool,s,i => .bool (bP (gt s i))
 | .str,s,i => .str (strV (gt s i))
 | .ptr a b c,_,_ => .ptr a b c
 | _,s,i=>gt s i
def rb':List Sh→List PV→Nat→List PV
 | [],_,_=>[]
 | a::l,s,i=>rb1 a s i::rb' l s (i+1)
def rb (l:List Sh) (s:List PV):List PV:=rb' l s 0
def pu:List PV→Nat→PV→List PV
 | [],_,_=>[]
 | _::l,0,v=>v::l
 | a::l,n+1,v=>a::pu l n v
theorem zr:(∀ l s,rb l s=rb' l s 0)∧(∀ s i,rb' [] s i=[])∧(∀ a l s i,rb' (a::l) s i=rb1 a s i::rb' l s (i+1))∧(∀ o s i,rb1 (.sl o) s i = .slice (esV (gt s i)) [] o)∧(∀ k s i,rb1 (.int k) s i = .int k (intV (gt s i)))∧(∀ s i,rb1 .bool s i = .bool (bP (gt s i))) ∧
  (∀ s i,rb1 .str s i = .str (strV (gt s i)))∧(∀ a b c s i,rb1 (.ptr a b c) s i = .ptr a b c)∧(∀ a l v,pu (a::l) 0 v=v::l)∧(∀ a l n v,pu (a::l) (n+1) v=a::pu l n v) :=
 ⟨fun _ _=>rfl,fun _ _=>rfl,fun _ _ _ _=>rfl,fun _ _ _=>rfl,fun _ _ _=>rfl,fun _ _=>rfl,fun _ _=>rfl,fun _ _ _ _ _=>rfl,fun _ _ _=>rfl,fun _ _ _ _=>rfl⟩
abbrev zq {α:Type} (f:α→PV) (l:List α):PV := .slice (List.map f l) [] false
abbrev zp {α:Type} (f:α→PV) (l:List α):PV := .slice (List.map f l) [] true
abbrev i6 (i:Int):PV := .int .i64 i
abbrev sf:Sh := .sl false
abbrev st':Sh := .sl true
abbrev n6:Sh := .int .i64
section
variable {α β γ δ : Type} {R : α → β → Prop}
end
def jn {γ δ:Type} (r:γ) (b:γ→δ):δ:=b r
theorem Imp.jn {α β γ γ':Type} {R:α→β→Prop} {r2:γ} {r1:γ'} {b2:γ→Option α} {b1:γ'→Option β} (Q:(Option α→Option β→Prop)→γ→γ'→Prop) (h:Q (fun x X=>Imp x X R) r2 r1)
  (hb:∀ k2 k1,Q (fun x X=>Imp x X R) k2 k1→Imp (b2 k2) (b1 k1) R):Imp (Ev.jn r2 b2) (Ev.jn r1 b1) R:=hb _ _ h
section
variable {ρ : REnv} {τ : Nat → TypeId} {H : Type} {e : TypeId × Value → H} {P : Program} {W : World} {bl : DataW H → Nat} {bla : List (DataW H) → Nat}
theorem aYh (hb:BlOk bl bla) (n:Nat) (bd:Nat→Ty) (hty:∀ i,∃ F,P.underlying (τ i)=some (.struct F)∧P.cellsOf (τ i)=(bd i).size ρ∧flds ρ P (tyOk ρ τ P n) F.toList 0 (bd i)=true)
  (hcv:∀ i (x:(bd i).den ρ),∃ y:(ρ i).D,(ρ i).en y=enc ρ (bd i) x∧(ρ i).bk y≤bulk ρ (bd i) x+1∧(good ρ (bd i) x→(ρ i).gd y)) :
  ∀ k i,aWd ρ e P W bl k (τ i) (.ext i):=by
 intro k
 induction k with
 | zero =>
  intro i fuel hf cs x hx
  obtain ⟨F,h1,_,_⟩:=hty i
  obtain ⟨xs,m,hfm,_⟩:=DataW.trod_struct h1 hx
  omega
 | succ k ih =>
  intro i fuel hf cs x hx
  obtain ⟨F,h1,h2,h3⟩:=hty i
  obtain ⟨xs,m,hfm,rfl,hlen,hxl,hget⟩:=DataW.trod_struct h1 hx
  obtain ⟨v,g,b,r⟩:=aHl hb (k:=k) (fun t ty h=>aKN hb ih n t ty h) F.toList 0 (bd i) m xs (by omega) h3 (by simpa using hxl) (fun i f hf=>hget i f (by simpa using hf))
  obtain ⟨y,y1,y2,y3⟩:=hcv i v
  have hs:(bd i).size ρ=(ρ i).sz:=by
   have e1:=(jV ρ (bd i) v).1
   have e2:=((ρ i).wf y).1
   rw [y1,e1] at e2;exact e2
  refine ⟨y,y3 g,?_,?_,?_⟩
  ·have:=hb.agg (xs.map (·.1))
   simp only [bulk];omega
  ·simp only [Ty.size];rw [hlen,h2,hs]
  ·intro j c hc
   have hc':((ρ i).en y).cells[j]?=some c:=hc
   rw [y1] at hc'
   have:=r j c hc'
   rwa [Nat.zero_add] at this
end
def okc:PV→Bool
 | .bool _ | .int _ _ | .str _=>true
 | .slice _ [] false=>true
 | _=>false
theorem bBP {c:PV} (h:okc c=true):c.solid1=true∧c.plain1=c:=by
 unfold okc at h
 split at h
 ·exact ⟨rfl,rfl⟩
 ·exact ⟨rfl,rfl⟩
 ·exact ⟨rfl,rfl⟩
 ·exact ⟨rfl,rfl⟩
 ·simp at h
theorem qX {v:PV} (cs:List PV) (hv:v = .agg cs) (h:cs.all okc=true) {n:Nat} (hn:cs.length=n):v.cells.length=n∧(∀ c∈v.cells,c.solid1=true∧c.plain1=c)∧v.solid=true∧v.plain=v:=by
 subst hv
 have key:∀ c∈cs,c.solid1=true∧c.plain1=c:=fun c hc=>bBP (List.all_eq_true.1 h c hc)
 refine ⟨hn,key,?_,?_⟩
 ·simp only [PV.solid,List.all_eq_true];exact fun c hc=>(key c hc).1
 ·simp only [PV.plain,PV.plainA,PV.agg.injEq]
  have:cs.map PV.plain1=cs.map id:=List.map_congr_left fun c hc=>(key c hc).2
  rw [this,List.map_id]
def bk1 {α:Type} (_:α):Nat:=1
def dA (s:Str):Nat:=s.length+1
def bkSl {α:Type} (f:α→Nat) (l:List α):Nat:=sumL f l+1
def gd1 {α:Type} (_:α):Prop:=True
def gdI (k:IntKind) (n:Int):Prop:=(Lit.int k n).wf=true
def gdSl {α:Type} (f:α→Prop) (l:List α):Prop:=∀ x∈l,f x
@[simp] theorem bQ {α β:Type} (a:α) (k:α→Option β):bnd (some a) k=k a:=rfl
@[simp] theorem bCF {α β:Type} (k:α→Option β):bnd none k=none:=rfl
@[simp] theorem fT {β:Type} (x y:Option β):cnd true x y=x:=rfl
@[simp] theorem pK {β:Type} (x y:Option β):cnd false x y=y:=rfl
theorem aWj {β:Type} (c:Bool) (x y:Option β):cnd c x y=if c=true then x else y:=by cases c<;>rfl
theorem aBa {β:Type} (c:Bool) (x:Option β):cnd c x x=x:=by cases c<;>rfl
theorem wi {n:Int} (h : -9223372036854775808≤n∧n≤9223372036854775807):IntKind.wrap .i64 n=n:=by rw [IntKind.wrap_i64];omega
theorem wu (n:Int):IntKind.wrap .u64 n=n % 18446744073709551616:=by simp [IntKind.wrap,IntKind.bits,IntKind.signed]
theorem wadd {n:Nat} (h:n<9223372036854775807):IntKind.wrap .i64 ((n:Int)+1)=((n+1:Nat):Int):=by rw [wi (by omega)];omega
theorem sE {α:Type} (l:List α) (k:Nat):nthI l (k:Int)=l[k]?:=by
 unfold nthI
 rw [if_neg (by omega)]
 simp
theorem aNb {α:Type} {l:List α} {i:Int} {a:α} (h:nthI l i=some a):0≤i∧i<l.length∧l[i.toNat]?=some a:=by
 unfold nthI at h
 split at h
 ·simp at h
 ·have:=(List.getElem?_eq_some_iff.1 h).1
  exact ⟨by omega,by omega,h⟩
theorem tJ {α:Type} {l m:List α} (h:l.length+m.length≤lim):tapp l m=some (l++m):=if_pos h
theorem aJ2 {σ ρ α β:Type} {b:σ→Option (σ⊕ρ)} (l:List α) (S:Nat→β→σ) (G:List α→β→ρ) (I:Nat→β→Prop)
  (hnil:∀ a,I l.length a→b (S l.length a)=some (.inr (G [] a)))
  (hcons:∀ k x r a,k<l.length→l[k]?=some x→l.drop k=x::r→I k a→b (S k a)=some (.inr (G (x::r) a))∨∃ a',b (S k a)=some (.inl (S (k+1) a'))∧I (k+1) a'∧G (x::r) a=G r a') :
  ∀ k a,k≤l.length→I k a→bG b (S k a)=some (G (l.drop k) a):=by
 have key:∀ (n k:Nat) (a:β),l.length-k≤n→k≤l.length→I k a→bG b (S k a)=some (G (l.drop k) a):=by
  intro n
  induction n with
  | zero =>
   intro k a hn hk hI
   have:k=l.length:=by omega
   subst this
   rw [cM (hnil a hI),List.drop_length]
  | succ n ih =>
   intro k a hn hk hI
   by_cases hkl:k=l.length
   ·subst hkl;rw [cM (hnil a hI),List.drop_length]
   ·have hlt:k<l.length:=by omega
    have hd:l.drop k=l[k]::l.drop (k+1):=List.drop_eq_getElem_cons hlt
    rw [hd]
    rcases hcons k _ _ a hlt (List.getElem?_eq_getElem hlt) hd hI with h1 | ⟨a',h1,h2,h3⟩
    ·exact cM h1
    ·rw [aEE h1,ih (k+1) a' (by omega) (by omega) h2,h3]
 exact fun k a hk hI=>key (l.length-k) k a (Nat.le_refl _) hk hI
theorem fE {α:Type} (f:α→Nat) {x:α}:∀ {l:List α},x∈l→f x≤sumL f l
 | a::l,h=>by
  rcases List.mem_cons.1 h with rfl | h
  ·simp only [sumL];omega
  ·have:=fE f h;simp only [sumL];omega
theorem gP {α:Type} (f:α→Nat) (h:∀ x,1≤f x):∀ (l:List α),l.length≤sumL f l
 | []=>by simp [sumL]
 | a::l=>by have:=gP f h l;have:=h a;simp only [sumL,List.length_cons];omega
theorem tK:lim=274877906944:=rfl
abbrev Sm {α:Type} (l:List α):Prop:=l.length<4611686018427387904
theorem fF {σ ρ α β : Type} {b : σ → Option (σ ⊕ ρ)} (l : List α) (S : Nat → β → σ) (G : List α → β → ρ) (I : Nat → β → Prop) (hl : Sm l)
  (hnil : ∀ a, I l.length a → b (S l.length a) = some (.inr (G [] a)))
  (hcons : ∀ (k : Nat) x r a, x ∈ l → k < l.length → l.drop k = x :: r → decide ((k : Int) < (l.length : Int)) = true → nthI l (k : Int) = some x → IntKind.wrap .i64 ((k : Int) + 1) = ((k + 1 : Nat) : Int) → I k a →
   b (S k a) = some (.inr (G (x :: r) a)) ∨ ∃ a', b (S k a) = some (.inl (S (k + 1) a')) ∧ I (k + 1) a' ∧ G (x :: r) a = G r a') {s : σ} {a : β} (hs : s = S 0 a) (hI : I 0 a) : bG b s = some (G l a) := by
 have := aJ2 (b := b) l S G I hnil (fun k x r a hk hx hd hI => hcons k x r a (List.mem_of_getElem? hx) hk hd (by simp; omega) (by rw [sE]; exact hx) (wadd (by have := hl; unfold Sm at this; omega)) hI) 0 a (by omega) hI
 rw [List.drop_zero] at this
 rw [hs]; exact this
theorem vO {ρ α : Type} {b : Int → Option (Int ⊕ ρ)} (l : List α) (F : List α → ρ) (hl : Sm l) (hnil : b (l.length : Int) = some (.inr (F [])))
  (hcons : ∀ (k : Nat) x r, x ∈ l → decide ((k : Int) < (l.length : Int)) = true → nthI l (k : Int) = some x → IntKind.wrap .i64 ((k : Int) + 1) = ((k + 1 : Nat) : Int) →
   b k = some (.inr (F (x :: r))) ∨ (b k = some (.inl ((k + 1 : Nat) : Int)) ∧ F (x :: r) = F r)) : bG b 0 = some (F l) :=
 fF (b := b) l (fun k (_ : Unit) => (k : Int)) (fun r _ => F r) (fun _ _ => True) hl (fun _ _ => hnil) (fun k x r a hm hk hd h1 h2 h3 _ => by
  rcases hcons k x r hm h1 h2 h3 with h | ⟨h, h'⟩
  ·exact .inl h
  ·exact .inr ⟨(), h, trivial, h'⟩) (s := 0) (a := ()) rfl trivial
theorem aDI {σ ρ α β : Type} {b : σ → Option (σ ⊕ ρ)} (l : List α) (S : Nat → β → σ) (g : β → α → β) (R : β → ρ) (I : Nat → β → Prop) (hl : Sm l)
  (hnil : ∀ a, I l.length a → b (S l.length a) = some (.inr (R a)))
  (hcons : ∀ (k : Nat) x a, x ∈ l → k < l.length → decide ((k : Int) < (l.length : Int)) = true → nthI l (k : Int) = some x → IntKind.wrap .i64 ((k : Int) + 1) = ((k + 1 : Nat) : Int) → I k a →
   b (S k a) = some (.inl (S (k + 1) (g a x))) ∧ I (k + 1) (g a x)) {s : σ} {a : β} (hs : s = S 0 a) (hI : I 0 a) : bG b s = some (R (l.foldl g a)) :=
 fF (b := b) l S (fun r a => R (r.foldl g a)) I hl (fun a ha => hnil a ha) (fun k x r a hm hk hd h1 h2 h3 hi => by
  obtain ⟨h4, h5⟩ := hcons k x a hm hk h1 h2 h3 hi
  exact .inr ⟨g a x, h4, h5, rfl⟩) hs hI
theorem aAc {ρ α : Type} {b : Int → Option (Int ⊕ ρ)} (l : List α) (f : α → Option ρ) (e : ρ) (hl : Sm l) (hnil : b (l.length : Int) = some (.inr e))
  (hcons : ∀ (k : Nat) x, x ∈ l → decide ((k : Int) < (l.length : Int)) = true → nthI l (k : Int) = some x → IntKind.wrap .i64 ((k : Int) + 1) = ((k + 1 : Nat) : Int) →
   b k = some (match f x with | some r => .inr r | none => .inl ((k + 1 : Nat) : Int))) : bG b 0 = some ((l.findSome? f).getD e) :=
 vO l (fun r => (r.findSome? f).getD e) hl hnil (fun k x r hm h1 h2 h3 => by
  have := hcons k x hm h1 h2 h3
  cases hf : f x with
  | none => rw [hf] at this; exact .inr ⟨this, by simp [List.findSome?_cons, hf]⟩
  | some y => rw [hf] at this; exact .inl (by rw [this]; simp [List.findSome?_cons, hf]))
theorem aDJ {n:Nat}:decide ((n:Int)<(n:Int))=false:=by simp
theorem aHp {σ α:Type} {b:σ→Option (σ⊕List α)} (l:List α) (S:Nat→List α→σ) (hl:l.length<1073741824)
  (hnil:∀ a,b (S l.length a)=some (.inr a))
  (hcons:∀ (k:Nat) x a,x∈l→decide ((k:Int)<(l.length:Int))=true→nthI l (k:Int)=some x→IntKind.wrap .i64 ((k:Int)+1)=((k+1:Nat):Int)→(∀ y:α,tapp a [y]=some (a++[y]))→b (S k a)=some (.inl (S (k+1) (a++[x])))) {s:σ} (hs:s=S 0 []):bG b s=some l:=by
 have:=aDI (b:=b) l S (fun a x=>a++[x]) id (fun k a=>a.length=k) (by show l.length<_;omega) (fun a _=>hnil a) (fun k x a hm hk h1 h2 h3 hi=>⟨hcons k x a hm h1 h2 h3 (fun y=>tJ (by simp only [List.length_singleton,tK];omega)),by simp [hi]⟩) hs rfl
 rw [this]
 have:∀ (l a:List α),l.foldl (fun a x=>a++[x]) a=a++l:=by
  intro l
  induction l with
  | nil=>simp
  | cons x l ih=>intro a;rw [List.foldl_cons,ih];simp
 rw [this];rfl
theorem cZ {α:Type} {f:α→Nat} (hf:∀ x,1≤f x) (l:List α):l.length+1≤bkSl f l:=by
 have:=gP f hf l;unfold bkSl;omega
theorem dW {α:Type} {f:α→Nat} {l:List α} {x:α} (h:x∈l):f x+1≤bkSl f l:=by
 have:=fE f h;unfold bkSl;omega
theorem aNc (s:Str):1≤dA s:=by unfold dA;omega
theorem aWk {σ ρ:Type} {b:σ→Option (σ⊕ρ)} (I:σ→Prop) (m:σ→Nat) (Q:ρ→Prop)
  (h:∀ s,I s→(∃ r,b s=some (.inr r)∧Q r)∨∃ s',b s=some (.inl s')∧I s'∧m s'<m s):∀ s,I s→∃ r,bG b s=some r∧Q r:=by
 have key:∀ (n:Nat) (s:σ),m s≤n→I s→∃ r,bG b s=some r∧Q r:=by
  intro n
  induction n with
  | zero =>
   intro s hm hI
   rcases h s hI with ⟨r,h1,h2⟩ | ⟨s',h1,h2,h3⟩
   ·exact ⟨r,cM h1,h2⟩
   ·omega
  | succ n ih =>
   intro s hm hI
   rcases h s hI with ⟨r,h1,h2⟩ | ⟨s',h1,h2,h3⟩
   ·exact ⟨r,cM h1,h2⟩
   ·rw [aEE h1];exact ih s' (by omega) h2
 exact fun s hI=>key (m s) s (Nat.le_refl _) hI
theorem aDK {α:Type} [DecidableEq α]:∀ (l u:List α),l.Nodup→(∀ x∈l,x∈u)→l.length≤u.length
 | [],u,_,_=>by simp
 | a::l,u,hn,hs=>by
  rw [List.nodup_cons] at hn
  have hm:=hs a (by simp)
  have:=aDK l (u.erase a) hn.2 (fun x hx=>by
   have hne:x≠a:=fun e=>hn.1 (e ▸ hx)
   exact (List.mem_erase_of_ne hne).2 (hs x (by simp [hx])))
  rw [List.length_erase_of_mem hm] at this
  have hp:=List.length_pos_of_mem hm
  simp only [List.length_cons];omega
def Tt {α:Type} (P:α→Prop) (x:Option α):Prop:=∃ a,x=some a∧P a
abbrev Te {α:Type} (x:Option α):Prop:=Tt (fun _=>True) x
section
variable {α β σ ρ : Type} {P : α → Prop} {Q : β → Prop}
theorem Tt.ret {a:α} (h:P a):Tt P (some a):=⟨a,rfl,h⟩
theorem Tt.mono {P':α→Prop} {x:Option α} (h:Tt P x) (hp:∀ a,P a→P' a):Tt P' x:=by obtain ⟨a,h,h'⟩:=h;exact ⟨a,h,hp a h'⟩
theorem Tt.cnd {c:Bool} {x y:Option α} (h1:c=true→Tt P x) (h2:c=false→Tt P y):Tt P (Ev.cnd c x y):=by cases c<;>first | exact h1 rfl | exact h2 rfl
theorem Tt.bnd {x:Option β} {k:β→Option α} (h:Tt Q x) (hk:∀ a,Q a→Tt P (k a)):Tt P (Ev.bnd x k):=by
 obtain ⟨a,rfl,ha⟩:=h;exact hk a ha
theorem Tt.eq {x:Option β} {b:β} {k:β→Option α} (h:x=some b) (hk:Tt P (k b)):Tt P (Ev.bnd x k):=by subst h;exact hk
theorem Tt.elim {γ:Type} {o:β⊕γ} {f:β→Option α} {g:γ→Option α} (h1:∀ a,o = .inl a→Tt P (f a)) (h2:∀ a,o = .inr a→Tt P (g a)):Tt P (Ev.elim o f g):=by
 cases o<;>first | exact h1 _ rfl | exact h2 _ rfl
theorem Tt.nth {l:List β} {i:Int} {k:β→Option α} (h:0≤i∧i<l.length) (hk:∀ a∈l,nthI l i=some a→Tt P (k a)):Tt P (Ev.bnd (nthI l i) k):=by
 obtain ⟨h1,h2⟩:=h
 have hlt:i.toNat<l.length:=by omega
 have e:nthI l i=some l[i.toNat]:=by
  have:=sE l i.toNat
  rw [show ((i.toNat:Nat):Int)=i by omega] at this
  rw [this];exact List.getElem?_eq_getElem hlt
 have:=hk _ (List.getElem_mem hlt) e
 rw [e];exact this
theorem Tt.app {l m:List β} {k:List β→Option α} (h:l.length+m.length≤274877906944) (hk:Tt P (k (l++m))):Tt P (Ev.bnd (tapp l m) k):=Tt.eq (tJ (by rw [tK];exact h)) hk
def Nx (I:σ→Prop) (m:σ→Nat) (s:σ) (R:ρ→Prop) (o:σ⊕ρ):Prop:=(∃ s',o = .inl s'∧I s'∧m s'<m s)∨∃ r,o = .inr r∧R r
theorem Nx.l {I:σ→Prop} {m:σ→Nat} {s s':σ} {R:ρ→Prop} (h:I s') (h':m s'<m s):Nx I m s R (.inl s') := .inl ⟨_,rfl,h,h'⟩
theorem Nx.r {I:σ→Prop} {m:σ→Nat} {s:σ} {R:ρ→Prop} {r:ρ} (h:R r):Nx I m s R (.inr r) := .inr ⟨_,rfl,h⟩
theorem Tt.loop {b:σ→Option (σ⊕ρ)} (I:σ→Prop) (m:σ→Nat) {R:ρ→Prop} (hb:∀ s,I s→Tt (Nx I m s R) (b s)) {s:σ} (hs:I s):Tt R (bG b s):=by
 have key:∀ (n:Nat) (s:σ),m s≤n→I s→Tt R (bG b s):=by
  intro n
  induction n with
  | zero =>
   intro s hm hs
   obtain ⟨o,ho,⟨s',rfl,h1,h2⟩ | ⟨r,rfl,h1⟩⟩:=hb s hs
   ·omega
   ·exact ⟨r,cM ho,h1⟩
  | succ n ih =>
   intro s hm hs
   obtain ⟨o,ho,⟨s',rfl,h1,h2⟩ | ⟨r,rfl,h1⟩⟩:=hb s hs
   ·rw [aEE ho];exact ih s' (by omega) h1
   ·exact ⟨r,cM ho,h1⟩
 exact key _ s (Nat.le_refl _) hs
def Ix (n:Nat) (k:Int) (R:ρ→Prop) (o:Int⊕ρ):Prop:=(o = .inl (IntKind.wrap .i64 (k+1))∧k<n)∨∃ r,o = .inr r∧R r
theorem Ix.r {n:Nat} {k:Int} {R:ρ→Prop} {r:ρ} (h:R r):Ix n k R (.inr r) := .inr ⟨_,rfl,h⟩
theorem Ix.l {n:Nat} {k:Int} {R:ρ→Prop} (h:decide (k<(n:Int))=true):Ix n k R (.inl (IntKind.wrap .i64 (k+1))) := .inl ⟨rfl,by simpa using h⟩
theorem Tt.idx {b:Int→Option (Int⊕ρ)} (n:Nat) {R:ρ→Prop} (hn:n<4611686018427387904) (hb:∀ k:Int,0≤k→k≤n→Tt (Ix n k R) (b k)):Tt R (bG b 0) :=
 Tt.loop (fun k:Int=>0≤k∧k≤n) (fun k:Int=>((n:Int)-k).toNat) (fun k hk=>(hb k hk.1 hk.2).mono fun o ho=>by
  rcases ho with ⟨rfl,h⟩ | h
  ·have e:IntKind.wrap .i64 (k+1)=k+1:=wi (by omega)
   rw [e]
   exact Nx.l ⟨by omega,by omega⟩ (by omega)
  ·exact .inr h) ⟨by omega,by omega⟩
theorem Tt.jn {κ:Type} {K:κ} {F:κ→Option α} (Q:κ→Prop) (hK:Q K) (hF:∀ k,Q k→Tt P (F k)):Tt P (Ev.jn K F):=hF K hK
theorem vP {i n:Int} (h:decide (i<n)=true):i<n:=by simpa using h
end
end Go.Ev

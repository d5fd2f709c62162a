import Derived.Test.YtphmfillajagdaaGreatEc
import Derived.LoopN
import Derived.Scope
import Derived.Below
import Derived.ChangeSame
import Derived.ChangeArms
import Derived.DataReads
import Derived.Carry
import Derived.RowKit
import Derived.OpenShut
import Derived.IntWalk
set_option linter.unusedVariables false
set_option linter.unusedSimpArgs false
set_option linter.unusedSimpArgs false
namespace Go.Ev
open PV
section cps
variable {P : Program} {mt : Hints} {nt : Nat} {O : Orc} {LP : cG → cG}
theorem nI {a R}:∀ c st (K:St→Option R),jP P mt nt O a c st K=bnd (jP P mt nt O a c st some) K
 | [],st,K=>rfl
 | o::c,st,K=>by
  simp [jP];rw [gQ,gQ (R:=St),bD];apply fC;rintro ⟨b,s⟩;cases b with
  | true =>
   rw [eZ,eZ (R:=St),bD];apply fC;intro e;exact nI c _ K
  | false=>exact nI c _ K
theorem aXz {R S} e w x y (g:R→Option S):bnd (exIs e w x y) g=exIs e w (bnd x g) (bnd y g):=by
 cases e<;>cases w<;>simp [exIs]<;>split<;>rfl
theorem aGD {R} e s (K:Ex→St→Option R):∀ l,qP e (fun e=>K e s) l=bnd (qP e (fun e=>some (e,s)) l) fun x=>K x.1 x.2
 | []=>rfl
 | w::l=>by simp [qP];rw [aXz,aGD e s K l];rfl
theorem aAs {R} kp sh st (K:List PV→UP→Option R):pack kp sh st K=bnd (pack kp sh st fun s u=>some (s,u)) fun x=>K x.1 x.2:=by
 unfold pack;split;· rfl
 ·rw [nH];rfl
 rfl
theorem bQ {R}:∀ c st (K:Ex→St→Option R),aS P mt nt O LP c st K=bnd (aS P mt nt O LP c st fun e s=>some (e,s)) fun x=>K x.1 x.2
 | .skip,st,K=>rfl
 | .label _,st,K=>rfl
 | .region id f d,st,K=>by
  cases d with
  | false =>
   simp [aS];rw [iR,iR (R:=Ex×St),bD];apply fC;intro st;rw [nI,nI (R:=Ex×St),bD];rfl
  | true =>
   simp [aS];rw [iR,iR (R:=Ex×St),bD];apply fC;intro st;split;· rw [iQ,iQ (R:=Ex×St),bD];apply fC;rintro ⟨l,s⟩;split<;>rfl
   rfl
 | .seq a b,st,K=>by
  simp [aS];conv=>lhs;rw [bQ]
  conv=>rhs;rw [bQ,bD]
  apply fC;rintro ⟨e,s⟩;cases e with
  | nrm=>exact bQ b s K
  | brk i=>rfl
  | ret=>rfl
 | .cond c a b,st,K=>by
  simp [aS];rw [aVr];apply aVs;intro t;cases t with
  | true=>exact bQ a _ K
  | false=>exact bQ b _ K
 | .block id b,st,K=>by
  simp [aS];conv=>lhs;rw [bQ]
  conv=>rhs;rw [bQ,bD]
  apply fC;rintro ⟨e,s⟩;cases e with
  | nrm=>rfl
  | brk i=>simp;split<;>rfl
  | ret=>rfl
 | .scope b,st,K=>bQ b st K
 | .exit id,st,K=>rfl
 | .ret,st,K=>rfl
 | .loop b,st,K=>by
  simp [aS];rw [iR,iR (R:=Ex×St),bD];apply fC;intro st;rw [aAs,aAs (R:=Ex×St),bD];apply fC;rintro ⟨s,u⟩;simp [bD];apply fC;intro r;exact aGD r.1 (cH (wX mt b) (nD st.bx) r.2.1 r.2.2) K _
 | .rangeFunc _ _ _ _,st,K=>rfl
 | .goto _,st,K=>rfl
 | .refuse _,st,K=>rfl
end cps
def toX:Ex→Exit
 | .nrm => .normal
 | .brk i => .exit i
 | .ret => .ret
section
variable {P : Program} {mt : Hints} {O : Orc} {ops : Array Oper}
theorem aL3 {base} (d:aJR P base.g O):∀ os i st st' a w M B,(∀ k,os[k]?=ops[i+k]?) →
  jP P mt a.tmps.size O ops os st some=some st'→SR base M B st a.tmps w →
  ∀ Q,(∀ a' w',Rch base M B st a.tmps w st' a'.tmps w'→a'.defers=a.defers→Q .normal a' w')→wpOps P ops Q ((List.range os.length).map (i + ·)) a w
 | [],i,st,st',a,w,M,B,_,h,hsr,Q,c=>by
  cases h;exact c a w (Rch.refl hsr) rfl
 | o::os,i,st,st',a,w,M,B,hos,h,hsr,Q,c=>by
  obtain ⟨b,fr',s,hfr,h⟩:=aAr _ _ _ _ _ h;have hoi  := by have:=hos 0;simpa using this.symm
  have heq:Eqv st {st with fr:=fr'}:=⟨fun j=>(hfr j).symm,fun _ _=>rfl,rfl⟩;have hsr'  := hsr.eqv heq hsr.box.nodup;have hrng:(List.range (o::os).length).map (i + ·)=i::(List.range os.length).map ((i+1) + ·):=by
   rw [List.length_cons,List.range_succ_eq_map];simp;omega
  rw [hrng,wpOps_cons];unfold wpOp;rw [hoi];simp;rw [aGA hsr _ _ _ s];have step:∀ (e:Eff) a1 w1,a1.defers=a.defers→Rch base M B {st with fr:=fr'} a.tmps w (e.app {st with fr:=fr'}) a1.tmps w1→jP P mt a.tmps.size O ops os (e.app {st with fr:=fr'}) some=some st' →
    wpOps P ops Q ((List.range os.length).map ((i+1) + ·)) a1 w1:=by
   intro e a1 w1 C n hev;obtain ⟨l,M',B',f,z⟩:=n;rw [← l] at hev;refine aL3 d os (i+1) _ st' a1 w1 M' B' (fun k => ?_) hev f Q ?_;· have:=hos (k+1);rw [show i+1+k=i+(k+1) by omega,← this];simp
   intro a' w' u m;obtain ⟨A,q,x,y,r⟩:=u;exact c a' w' (Rch.of_eqv ⟨by omega,q,x,y,z.trans r⟩ heq hsr.box.nodup hsr'.box.nodup) (by grind)
  cases b with
  | true =>
   rw [eZ] at h;obtain ⟨e,hev,h⟩:=aB h;left;exact xJ d hsr' hev fun tm' w' t=>step e ⟨tm',a.defers⟩ w' rfl t h
  | false =>
   refine step (undE a.tmps.size o) _ _ (aIQ _ _ _) ?_ (by exact h);rw [aRx];exact jG (dst:=o.dst) hsr' (p := .und) (v:=undef) .und (nF _)
end
open PV
theorem aBd {l m i} (h:i<l.length):gt (l++m) i=gt l i:=by
 rw [aBt,aBt,List.getElem?_append_left h]
theorem xO {l m i} (h:l.length≤i):gt (l++m) i=gt m (i-l.length):=by
 rw [aBt,aBt,List.getElem?_append_right h]
theorem xP (g:Nat→PV) s:∀ kp k,(∀ p i,kp[p]?=some i→gt s (k+p)=g i)→∀ i,gets (jQ s k kp) i=if i∈kp then g i else .bot
 | [],k,_,i=>by simp [jQ,gets,look]
 | j::kp,k,h,i=>by
  simp [jQ];rw [dL];by_cases e:j=i;· subst e;simp;have:=h 0 j rfl;omega
  rw [if_neg e,xP g s kp (k+1) (fun p i a=>by have:=h (p+1) i (by grind);grind) i];grind
theorem tE {x l f} (h:iO (x::l) f=true):(∃ cs,look f x.1=some cs∧cs.length=x.2)∧iO l f=true:=by
 simp only [iO,List.all_cons,Bool.and_eq_true] at h;refine ⟨?_,h.2⟩;grind
theorem aGE f s:∀ sh k,iO sh f=true→(∀ j,j<(flat f sh).length→gt s (k+j)=gt (flat f sh) j) →
  aIN s k sh=sh.map fun x=>(x.1,(look f x.1).getD [])
 | [],k,_,_=>rfl
 | (i,n)::sh,k,g,h=>by
  obtain ⟨⟨cs,b,a⟩,e⟩:=tE g;simp at b a;have c:flat f ((i,n)::sh)=cs++flat f sh:=by
   simp [flat,b];congr 1;rw [← a];exact rZ cs
  rw [c] at h;simp only [aIN];congr 1
  ·congr 1;rw [b];conv=>rhs;rw [← rZ cs,a]
   apply List.map_congr_left;intro j d;have d:=List.mem_range.1 d;rw [h j (by grind),aBd (by omega)]
  refine aGE f s sh (k+n) e fun j d => ?_;have:=h (n+j) (by grind);rw [xO (by omega)] at this;grind
theorem aCY f:∀ sh i,iO sh f=true→look (sh.map fun x=>(x.1,(look f x.1).getD [])) i=if i∈sh.map (·.1) then look f i else none
 | [],i,_=>by simp [look]
 | x::sh,i,h=>by
  obtain ⟨⟨cs,b,_⟩,a⟩:=tE h;simp [look];by_cases e:x.1=i;· grind
  rw [if_neg e,aCY f sh i a];grind
def jT (ids:List Nat) (B:BM):BM:=fun d id=>if d=0∧id∉ids then none else B d id
theorem aCZ {a B d id b} (h:jT a B d id=some b):B d id=some b:=by
 unfold jT at h;grind
theorem Rv.insideN {M B sh}:∀ n {p v},Rv M B p v→insideN sh n p=true→Rv M (jT (sh.map (·.1)) B) p v:=by
 intro n;induction n with
 | zero =>
  intro p v h r;cases h with
  | bot v=>exact .bot v
  | und=>simp [Ev.insideN,PV.solid1] at r
  | bool b=>exact .bool b
  | int k n=>exact .int k n
  | str s=>exact .str s
  | agg cs vs f A C u=>exact (Rv.agg cs vs f A C u).anyB _ (by simpa [Ev.insideN,PV.solid] using r)
  | tuple=>simp [Ev.insideN,PV.solid1] at r
  | nil o=>exact .nil o
  | slice es O o a cap s f w l J m x u=>exact (Rv.slice es O o a cap s f w l J m x u).anyB _ rfl
  | mk0 sz a cap w=>exact .mk0 sz a cap w
  | ref e a s f w m x u=>exact .ref e a s f w m x (fun j c l=>(u j c l).anyB1 _ (m.cell l))
  | ptr d id off b D =>
   refine .ptr d id off b ?_;unfold jT;rw [if_neg];· exact D
   rintro ⟨rfl,I⟩;simp [Ev.insideN] at r;grind
  | rsl d id n sz b cap D l =>
   refine .rsl d id n sz b cap ?_ l;unfold jT;rw [if_neg];· exact D
   rintro ⟨rfl,I⟩;simp [Ev.insideN] at r;grind
  | rslNil d id sz F=>exact .rslNil d id sz F
  | nilptr=>exact .nilptr
  | func K q t P R f g S A C H z N G=>exact (Rv.func K q t P R f g S A C H z N G).anyBfree _ (by simpa [Ev.insideN,PV.free] using r)
  | vec sz E b cap y l L Q x=>exact .vec sz E b cap y l L Q x
  | vecNil sz F=>exact .vecNil sz F
  | nilFunc=>exact .nilFunc
 | succ n T =>
  intro p v h r;cases h with
  | bot v=>exact .bot v
  | und=>simp [Ev.insideN,PV.solid1] at r
  | bool b=>exact .bool b
  | int k n=>exact .int k n
  | str s=>exact .str s
  | agg cs vs f A C u=>exact (Rv.agg cs vs f A C u).anyB _ (by simpa [Ev.insideN,PV.solid] using r)
  | tuple=>simp [Ev.insideN,PV.solid1] at r
  | nil o=>exact .nil o
  | slice es O o a cap s f w l J m x u=>exact (Rv.slice es O o a cap s f w l J m x u).anyB _ rfl
  | mk0 sz a cap w=>exact .mk0 sz a cap w
  | ref e a s f w m x u=>exact .ref e a s f w m x (fun j c l=>(u j c l).anyB1 _ (m.cell l))
  | ptr d id off b D =>
   refine .ptr d id off b ?_;unfold jT;rw [if_neg];· exact D
   rintro ⟨rfl,I⟩;simp [Ev.insideN] at r;grind
  | rsl d id n sz b cap D l =>
   refine .rsl d id n sz b cap ?_ l;unfold jT;rw [if_neg];· exact D
   rintro ⟨rfl,I⟩;simp [Ev.insideN] at r;grind
  | rslNil d id sz F=>exact .rslNil d id sz F
  | nilptr=>exact .nilptr
  | func K q t P R f g S A C H z N G =>
   simp [Ev.insideN] at r;exact .func K q t P R f g S A C (fun i c l=>by grind) z N (fun i c l=>by grind)
  | vec sz E b cap y l L Q x=>exact .vec sz E b cap y l L Q x
  | vecNil sz F=>exact .vecNil sz F
  | nilFunc=>exact .nilFunc
theorem Rv.inside {M B p v sh} (h:Rv M B p v) (a:inside sh p=true):Rv M (jT (sh.map (·.1)) B) p v:=Rv.insideN 3 h a
section
variable {base : Base} {M : Mem} {B : BM} {st : St} {tm : Array Value} {w : World}
theorem tX bx d id:bB bx (d+1) id=bB (iA bx) d id:=by
 cases bx with
 | nil=>simp [qQ,iA]
 | cons f r=>rfl
theorem xQ v:dU .bot v:=by
 intro x a;have:atoms .bot v=[(.bot,v)]:=by cases v<;>rfl
 rw [this] at a;simp at a;subst a;cases v<;>rfl
theorem aI0 (h:SR base M B st tm w) {kp sh s u} (D:(sh.map (·.1)).Nodup)
  (hp:pack kp sh st (fun s u=>some (s,u))=some (s,u)):Rch base M B st tm w (cH kp sh s u) tm w:=by
 have core:iO sh (oI st.bx)=true→s=mV kp sh st→u=iA st.bx→(∀ v∈mV kp sh st,∀ x,Rv M B v x→Rv M (jT (sh.map (·.1)) B) v x)→Rch base M B st tm w (cH kp sh s u) tm w:=by
  intro hh K O hin;subst K;subst O;have hfr:∀ i,gets (cH kp sh (mV kp sh st) (iA st.bx)).fr i=if i∈kp then gets st.fr i else .bot:=by
   intro i;refine xP (gets st.fr) _ kp 0 (fun p i hp => ?_) i;have q:=(List.getElem?_eq_some_iff.1 hp).1;rw [Nat.zero_add,mV,aBd (by simpa using q),aBt,List.getElem?_map,hp];rfl
  have E:aIN (mV kp sh st) kp.length sh=sh.map fun x=>(x.1,(look (oI st.bx) x.1).getD []):=by
   refine aGE _ _ sh kp.length hh fun j hj => ?_;rw [mV,xO (by simp)];congr 1;simp
  have hbx:(cH kp sh (mV kp sh st) (iA st.bx)).bx=(sh.map fun x=>(x.1,(look (oI st.bx) x.1).getD []))::iA st.bx:=by
   simp only [cH,E]
  have hb0:∀ id,bB (cH kp sh (mV kp sh st) (iA st.bx)).bx 0 id=if id∈sh.map (·.1) then bB st.bx 0 id else none:=by
   intro id;rw [hbx,bF,aCY _ _ _ hh,tW]
  have hbd:∀ d id,bB (cH kp sh (mV kp sh st) (iA st.bx)).bx (d+1) id=bB st.bx (d+1) id:=by
   intro d id;rw [hbx,fX,tX]
  have hsub:∀ d id cs,bB (cH kp sh (mV kp sh st) (iA st.bx)).bx d id=some cs→bB st.bx d id=some cs∧jT (sh.map (·.1)) B d id=B d id:=by
   intro d id cs hc;cases d with
   | zero =>
    rw [hb0] at hc;split at hc;· rename_i hm;exact ⟨hc,by unfold jT;rw [if_neg];rintro ⟨_,hn⟩;exact hn hm⟩
    ·simp at hc
   | succ d=>rw [hbd] at hc;exact ⟨hc,by unfold jT;rw [if_neg];rintro ⟨g,_⟩;omega⟩
  have a:∀ id cs,bB (cH kp sh (mV kp sh st) (iA st.bx)).bx 0 id=some cs→∀ c∈cs,c∈mV kp sh st:=by
   intro id cs hc c P;rw [hb0] at hc;split at hc
   ·rename_i hm;rw [tW] at hc;refine List.mem_append.2 (.inr ?_);have:∀ sh,iO sh (oI st.bx)=true→id∈sh.map (·.1)→c∈flat (oI st.bx) sh:=by
     intro sh;induction sh with
     | nil=>intro _ hm;simp at hm
     | cons x l W =>
      intro hh hm;obtain ⟨⟨cs',hcs',hlen⟩,X⟩:=tE hh;obtain ⟨i,n⟩:=x;simp only at hcs' hlen;simp only [flat,hcs'];rcases List.mem_cons.1 hm with e | hm;· simp only at e;subst e;rw [hc] at hcs';cases hcs';rw [← hlen,rZ];exact by grind
      ·exact by grind
    exact by grind
   ·simp at hc
  have o:∀ d,0<d→upB d (jT (sh.map (·.1)) B)=upB d B:=by
   intro d T;funext e id;unfold upB jT;rw [if_neg];rintro ⟨g,_⟩;omega
  have hh1:∀ c v,h1 M w base B c v→h1 M w base (jT (sh.map (·.1)) B) c v:=fun c v hc=>hc.world (fun _ _ _ hx=>hx) fun b _ _=>⟨rfl,fun _=>rfl,fun d id hb=>aCZ hb⟩;have hslot:∀ i,Rv M (jT (sh.map (·.1)) B) (gets (cH kp sh (mV kp sh st) (iA st.bx)).fr i) (tm.getD i undef):=by
   intro i;rw [hfr];split;· rename_i hm;exact hin _ (List.mem_append.2 (.inl (List.mem_map.2 ⟨i,hm,rfl⟩))) _ (h.slot i)
   exact .bot _
  have hnew:SR base M (jT (sh.map (·.1)) B) (cH kp sh (mV kp sh st) (iA st.bx)) tm w→(∀ b,tot (cH kp sh (mV kp sh st) (iA st.bx)).fr tm w (jT (sh.map (·.1)) B) (cH kp sh (mV kp sh st) (iA st.bx)).bx b≤tot st.fr tm w B st.bx b) →
    Rch base M B st tm w (cH kp sh (mV kp sh st) (iA st.bx)) tm w:=by
   intro h1 h2;refine ⟨rfl,M,jT (sh.map (·.1)) B,h1,rfl,rfl,rfl,by omega,fun _ _ _ hx=>hx,fun _ _ _=>⟨rfl,fun _=>rfl⟩,fun b _=>h2 b,fun d id b hb _=>⟨d,id,aCZ hb⟩,?_⟩;intro d id;unfold jT;rw [if_neg];rintro ⟨g,_⟩;omega
  have htot:∀ b,tot (cH kp sh (mV kp sh st) (iA st.bx)).fr tm w (jT (sh.map (·.1)) B) (cH kp sh (mV kp sh st) (iA st.bx)).bx b≤tot st.fr tm w B st.bx b:=by
   intro b;have R:cF (cH kp sh (mV kp sh st) (iA st.bx)).fr tm b≤cF st.fr tm b:=by
    apply aCL;intro i _;rw [hfr];split;· exact by omega
    rw [(xQ _).c];omega
   have S:cBx w (jT (sh.map (·.1)) B) (cH kp sh (mV kp sh st) (iA st.bx)).bx b≤cBx w B st.bx b:=by
    have etail:∀ r,fW (fun d id cs=>cBox w (jT (sh.map (·.1)) B d id) cs b) 1 r=fW (fun d id cs=>cBox w (B d id) cs b) 1 r:=by
     intro r;apply qR;intro d f _;apply eM;intro id cs _;have:jT (sh.map (·.1)) B (1+d) id=B (1+d) id:=by unfold jT;rw [if_neg];rintro ⟨g,_⟩;omega
     rw [this]
    have ehead:dT (fun id cs=>cBox w (jT (sh.map (·.1)) B 0 id) cs b) (sh.map fun x=>(x.1,(look (oI st.bx) x.1).getD []))≤dT (fun id cs=>cBox w (B 0 id) cs b) (oI st.bx):=by
     have Y:((sh.map fun x=>(x.1,(look (oI st.bx) x.1).getD [])).map (·.1))=sh.map (·.1):=by simp [Function.comp_def]
     have hin':∀ x∈(sh.map fun x=>(x.1,(look (oI st.bx) x.1).getD [])),x∈oI st.bx∧x.1∈sh.map (·.1):=by
      intro x hx;obtain ⟨y,t,rfl⟩:=List.mem_map.1 hx;simp only [iO,List.all_eq_true] at hh;have:=hh y t;split at this;· rename_i cs F;refine ⟨?_,by grind⟩;have hcs'  := F;simp [hcs',Option.getD_some];exact kD hcs'
      simp at this
     rw [eM (g':=fun id cs=>cBox w (B 0 id) cs b) _ (fun id cs hm=>by
      have:=(hin' _ hm).2;have:jT (sh.map (·.1)) B 0 id=B 0 id:=by unfold jT;rw [if_neg];rintro ⟨_,hn⟩;exact hn this
      rw [this])]
     exact xM _ _ (by grind) fun x hx=>(hin' x hx).1
    unfold cBx;rw [hbx];simp [fW];cases hb:st.bx with
    | nil=>rw [hb] at ehead;simp [oI,dT] at ehead;simp [oI,iA,fW];omega
    | cons f r =>
     rw [hb] at ehead;simp only [oI,iA,fW] at ehead ⊢;rw [Nat.zero_add,etail r];omega
   simp [tot];omega
  refine hnew ⟨h.cons,hslot,?_,⟨?_,?_,?_,?_⟩,fun b=>Nat.le_trans (htot b) (h.one b),h.glob,h.base⟩ htot
  ·intro i;rw [hfr];split;· intro x hx;exact hh1 _ _ (h.slotH i x hx)
   exact (xQ _).h _ _ _ _
  ·intro d f hf;rw [hbx] at hf;cases d with
   | zero=>simp at hf;subst hf;simpa [Function.comp_def] using D
   | succ d =>
    simp at hf;cases hb:st.bx with
    | nil=>rw [hb] at hf;simp [iA] at hf
    | cons V r=>rw [hb] at hf;exact h.box.nodup (d+1) f (by rw [hb];simpa [iA] using hf)
  ·intro d id hn;cases d with
   | zero =>
    unfold jT;rw [hb0] at hn;split at hn
    ·split;· rfl
     exact h.box.dom 0 id hn
    rename_i hm;rw [if_pos ⟨rfl,hm⟩]
   | succ d =>
    rw [hbd] at hn;unfold jT;rw [if_neg (by rintro ⟨g,_⟩;omega)];exact h.box.dom (d+1) id hn
  ·intro d id cs hc;obtain ⟨h1,h2⟩:=hsub d id cs hc;obtain ⟨hv,G⟩:=h.box.ok d id cs h1;refine ⟨hv,?_⟩;rcases G with ⟨blk,H,m⟩ | hno;rotate_left;· exact .inr ⟨by rw [h2];exact hno.1,hno.2⟩
   refine .inl ⟨blk,by rw [h2];exact H,m.old,m.row,m.free,?_⟩;intro j c hj;obtain ⟨k,I,Q⟩:=m.rel j c hj;refine ⟨?_,hh1 _ _ I,Q⟩;cases d with
   | zero =>
    rw [aJH] at k ⊢;unfold phys at hj;split at hj
    ·rename_i L Z;have hsol:c.solid1=true:=by
      obtain ⟨x,hx,C⟩:=List.mem_flatMap.1 (List.mem_of_getElem? hj);exact (fT (hv.2 x hx)).2 c C
     exact k.anyB1 _ hsol
    exact hin c (a id cs hc c (by grind)) _ k
   | succ d=>rw [o (d+1) (by omega)];exact k
  ·intro d id J A blk h1 h2;exact h.box.inj d id J A blk (aCZ h1) (aCZ h2)
 unfold pack at hp;split at hp
 ·rename_i hh hall;simp at hp;refine core hh hp.1.symm hp.2.symm fun v _ x hx => ?_;have:jT (sh.map (·.1)) B=B:=by
   funext d id;unfold jT;split;· rename_i hc;obtain ⟨rfl,hn⟩:=hc;symm;apply h.box.dom;rw [tW,wZ];intro hm;obtain ⟨y,t,rfl⟩:=List.mem_map.1 hm;rw [List.all_eq_true] at hall;have:=hall y t;rw [List.any_eq_true] at this;obtain ⟨z,U,N⟩:=this;apply hn;rw [← beq_iff_eq.1 N];exact by grind
   rfl
  rw [this];exact hx
 ·rename_i hh hall;rcases bA hp with ⟨hin,hp⟩ | ⟨_,hp⟩;· simp at hp;rw [List.all_eq_true] at hin;exact core hh hp.1.symm hp.2.symm fun v hv x hx=>hx.inside (hin v hv)
  simp at hp
 ·simp at hp
end
def aL4 (LP:cG→cG):Prop:=∀ body s u r,LP body s u=some r→∃ n,pD n body s u=some r
theorem xR {R e} {K:Ex→Option R} {r}:∀ {l},qP e K l=some r→K e=some r
 | [],h=>by simp [qP] at h
 | w::l,h=>by
  simp [qP] at h;unfold exIs at h;split at h
  ·split at h;· rename_i i j a;subst a;exact h
   exact xR h
  ·exact h
  exact xR h
section
variable {P : Program} {mt : Hints} {O : Orc} {LP : cG → cG}
def aZL (P:Program) (G:Mem) (mt:Hints) (O:Orc) (LP:cG→cG) (c:Code):Prop :=
 ∀ st e st' base M B a w,aS P mt a.tmps.size O LP c st (fun e s=>some (e,s))=some (e,st')→SR ⟨base,G⟩ M B st a.tmps w →
 ∀ Q,(∀ a' w',Rch ⟨base,G⟩ M B st a.tmps w st' a'.tmps w'→a'.defers=a.defers→Q (toX e) a' w')→c.wp P Q a w
theorem aXA {c b st} (h:wS (opd st.fr c)=some b):Eqv st (wY c b st):=by
 cases c with
 | tmp t =>
  refine ⟨fun i => ?_,fun _ _=>rfl,rfl⟩;show gets st.fr i=gets ((t,.bool b)::st.fr) i;rw [dL];split
  ·rename_i e;subst e;unfold wS at h;split at h;· rename_i b' a;cases h;exact a
   grind
  rfl
 | _=>exact Eqv.refl _
theorem bAn {c b st}:(wY c b st).bx=st.bx:=by cases c<;>rfl
theorem aI1 {b G} (f:aZL P G mt O LP b) kp sh (hsh:(sh.map (·.1)).Nodup) {base}:∀ n s u r M B a w,
  pD n (fun s u=>aS P mt a.tmps.size O LP b (cH kp sh s u) fun e st'=>pack kp sh st' fun s u=>some (e,s,u)) s u=some r →
  SR ⟨base,G⟩ M B (cH kp sh s u) a.tmps w →
  ∀ Q,(∀ a' w',Rch ⟨base,G⟩ M B (cH kp sh s u) a.tmps w (cH kp sh r.2.1 r.2.2) a'.tmps w'→a'.defers=a.defers→Q (toX r.1) a' w')→Code.rounds P b Q n a w
 | 0,_,_,_,_,_,_,_,h,_,_,_=>by simp [pD] at h
 | n+1,s,u,r,M,B,a,w,h,hsr,Q,hQ=>by
  simp [pD] at h;obtain ⟨⟨z,y,C⟩,hbody,h⟩:=aB h;rw [bQ] at hbody;obtain ⟨⟨l,st2⟩,hev,hpk⟩:=aB hbody;rw [aAs] at hpk;obtain ⟨⟨s2,c⟩,hpk2,heq⟩:=aB hpk;simp at heq;obtain ⟨rfl,rfl,rfl⟩:=heq;have reach:∀ (a':Act) w',Rch ⟨base,G⟩ M B (cH kp sh s u) a.tmps w st2 a'.tmps w'→Rch ⟨base,G⟩ M B (cH kp sh s u) a.tmps w (cH kp sh s2 c) a'.tmps w' :=
   fun a' w' hr=>hr.trans fun M' B' p=>aI0 p hsh hpk2
  refine f _ _ _ base M B a w hev hsr _ fun a' w' hr d => ?_;have hr2:=reach a' w' hr;cases l with
  | nrm =>
   obtain ⟨j,M',B',g,x⟩:=hr2;rw [← j] at h;refine aI1 f kp sh hsh n s2 c r M' B' a' w' h g Q fun a'' w'' q k => ?_;obtain ⟨A,m,t,v,o⟩:=q;exact hQ a'' w'' ⟨by omega,m,t,v,x.trans o⟩ (by grind)
  | brk i=>cases h;exact hQ a' w' hr2 d
  | ret=>cases h;exact hQ a' w' hr2 d
theorem lD {G} (hm:P.follows .mixedOrders=true) (hO:aJR P G O) (hL:aL4 LP):∀ c,aZL P G mt O LP c
 | .skip=>fun st e st' base M B a w h hsr Q hQ=>by cases h;exact wp_skip (hQ a w (Rch.refl hsr) rfl)
 | .label _=>fun st e st' base M B a w h hsr Q hQ=>by cases h;exact wp_label (hQ a w (Rch.refl hsr) rfl)
 | .exit id=>fun st e st' base M B a w h hsr Q hQ=>by cases h;exact wp_exit (hQ a w (Rch.refl hsr) rfl)
 | .ret=>fun st e st' base M B a w h hsr Q hQ=>by cases h;exact wp_ret (hQ a w (Rch.refl hsr) rfl)
 | .region id m draw=>fun st e st' base M B a w h hsr Q hQ=>by
  simp [aS] at h;rw [iR] at h;obtain ⟨sf,C,h⟩:=aB h;obtain ⟨v,g,d,rf2,rf3⟩:=aGC hsr C;have hQ:∀ a' w',Rch ⟨base,G⟩ g d sf a.tmps w st' a'.tmps w'→a'.defers=a.defers→Q (toX e) a' w':=fun a' w' hr hd=>by
   obtain ⟨q1,M3,B3,q2,q3⟩:=hr;exact hQ a' w' ⟨q1,M3,B3,q2,rf3.trans q3⟩ hd
  clear hsr;have hsr:=rf2;clear rf2;generalize sf=st at h hsr hQ;generalize g=M at hsr hQ;generalize d=B at hsr hQ;cases draw with
  | false =>
   simp at h;rw [nI] at h;obtain ⟨j,hev,h⟩:=aB h;cases h;refine wp_region ?_;have:=aL3 (base:=⟨base,G⟩) hO m.toList 0 st st' a w M B (by simp) hev hsr Q hQ;simp_all
  | true =>
   simp at h;split at h
   ·rename_i J;have N  := by
     exact h
    obtain ⟨j,K,A⟩:=aTp (base:=⟨base,G⟩) hm hO (id:=id) J N hsr;cases K;exact A Q hQ
   grind
 | .seq x y=>fun st e st' base M B a w h hsr Q hQ=>by
  simp [aS] at h;rw [bQ] at h;obtain ⟨⟨l,j⟩,hev,h⟩:=aB h;refine wp_seq (lD hm hO hL x _ _ _ base M B a w hev hsr _ fun a' w' hr hd => ?_);cases l with
  | nrm =>
   simp at h;obtain ⟨H,M',B',k,E⟩:=hr;show y.wp P Q a' w';rw [← H] at h;refine lD hm hO hL y _ _ _ base M' B' a' w' h k Q fun q o D R => ?_;obtain ⟨q1,M3,B3,q2,q3⟩:=D;exact hQ q o ⟨by omega,M3,B3,q2,E.trans q3⟩ (by grind)
  | brk i=>cases h;exact hQ a' w' hr hd
  | ret=>cases h;exact hQ a' w' hr hd
 | .cond c x y=>fun st e st' base M B a w h hsr Q hQ=>by
  simp [aS] at h;unfold brB at h;obtain ⟨b,hb,h⟩:=aB h;have I:=aXA hb;have hnd:Nd (wY c b st).bx:=by rw [bAn];exact hsr.box.nodup
  have hsr':=hsr.eqv I hnd;have F  := by
   have:=hsr.opd a.defers c;unfold wS at hb;split at hb;· rename_i b' p;cases hb;rw [p] at this;exact this.bool_inv
   grind
  have hQ'  := fun a' w' hr hd=>hQ a' w' (Rch.of_eqv hr I hsr.box.nodup hnd) hd;rcases bA h with ⟨rfl,h⟩ | ⟨rfl,h⟩;· exact wp_cond_true F (lD hm hO hL x _ _ _ base M B a w h hsr' Q hQ')
  exact wp_cond_false F (lD hm hO hL y _ _ _ base M B a w h hsr' Q hQ')
 | .block id b=>fun st e st' base M B a w h hsr Q hQ=>by
  simp [aS] at h;rw [bQ] at h;obtain ⟨⟨l,j⟩,hev,h⟩:=aB h;refine wp_block (lD hm hO hL b _ _ _ base M B a w hev hsr _ fun a' w' hr hd => ?_);cases l with
  | nrm=>cases h;exact hQ a' w' hr hd
  | brk i =>
   simp at h;show (if i=id then Q .normal a' w' else Q (.exit i) a' w');split at h;· rename_i z;cases h;rw [if_pos z];exact hQ a' w' hr hd
   rename_i z;cases h;rw [if_neg z];exact hQ a' w' hr hd
  | ret=>cases h;exact hQ a' w' hr hd
 | .scope b=>fun st e st' base M B a w h hsr Q hQ=>by
  refine wp_scope_straight (lD hm hO hL b _ _ _ base M B a w h hsr _ fun a' w' hr hd => ?_);have:=hQ a' w' hr hd;cases e<;>exact this
 | .loop b=>fun st e st' base M B a w h hsr Q hQ=>by
  simp [aS] at h;rw [iR] at h;obtain ⟨sf,C,h⟩:=aB h;obtain ⟨v,g,d,rf2,rf3⟩:=aGC hsr C;have hQ:∀ a' w',Rch ⟨base,G⟩ g d sf a.tmps w st' a'.tmps w'→a'.defers=a.defers→Q (toX e) a' w':=fun a' w' hr hd=>by
   obtain ⟨q1,M3,B3,q2,q3⟩:=hr;exact hQ a' w' ⟨q1,M3,B3,q2,rf3.trans q3⟩ hd
  have hsr:=rf2;generalize sf=st at h hsr hQ;rw [aAs] at h;obtain ⟨⟨s,u⟩,t,h⟩:=aB h;obtain ⟨r,hr,h⟩:=aB h;have:=xR h;cases this;have hsh:((nD st.bx).map (·.1)).Nodup:=by
   unfold nD;split;· rename_i f S hb;have:=hsr.box.nodup 0 f (by grind);grind
   simp
  obtain ⟨H,M',B',k,E⟩:=aI0 hsr hsh t;obtain ⟨n,L⟩:=hL _ _ _ _ hr;refine wp_loop_rounds n (aI1 (lD hm hO hL b) _ _ hsh n s u r M' B' a w L k Q fun a' w' D hd => ?_);obtain ⟨q1,M3,B3,q2,q3⟩:=D;exact hQ a' w' ⟨q1,M3,B3,q2,E.trans q3⟩ hd
 | .rangeFunc _ _ _ _=>fun st e st' base M B a w h hsr Q hQ=>by simp [aS] at h
 | .goto _=>fun st e st' base M B a w h hsr Q hQ=>by simp [aS] at h
 | .refuse _=>fun st e st' base M B a w h hsr Q hQ=>by simp [aS] at h
end
def lZ (B:BM):BM:=fun d id=>B (d+1) id
theorem h1.boxes {M w base B B' p v} (h:h1 M w base B p v) (a:∀ b,(∀ d id,B d id≠some b)→∀ d id,B' d id≠some b):h1 M w base B' p v:=by
 unfold h1 at h ⊢;split at h;· exact ⟨h.old,a _ h.nobox,h.row,h.free⟩
 ·exact ⟨h.old,a _ h.nobox,h.row,h.free⟩
 ·exact ⟨⟨h.1.old,a _ h.1.nobox,h.1.row,h.1.free⟩,h.2⟩
 trivial
theorem hV.boxes {M w base B B' p v} (h:hV M w base B p v) (c:∀ b,(∀ d id,B d id≠some b)→∀ d id,B' d id≠some b):hV M w base B' p v :=
 fun x a=>(h x a).boxes c
theorem aJZ {B}:∀ b,(∀ d id,B d id≠some b)→∀ d id,lZ B d id≠some b:=fun b h d id=>h (d+1) id
theorem aVu {B}:∀ b,(∀ d id,B d id≠some b)→∀ d id,nG B d id≠some b:=by
 intro b h d id;cases d with
 | zero=>simp [nG]
 | succ d=>exact h d id
theorem aE3 {p q} (h:jF p=some q) v:own1 q v=own1 p v:=by
 unfold jF at h;split at h;· grind
 ·cases h;cases v<;>rfl
 ·grind
 ·cases h;cases v<;>rfl
 all_goals grind
theorem aGF {M w base B p q} (h:jF p=some q) {v} (a:h1 M w base B p v):h1 M w base B q v:=by
 unfold jF at h;split at h;· grind
 ·cases h;cases v<;>trivial
 ·grind
 ·cases h;cases v<;>trivial
 all_goals grind
theorem aE4 {M B p q v} (h:jF p=some q) (g:Rv M B p v):Rv M (lZ B) q v:=by
 unfold jF at h;split at h;· grind
 ·cases h;cases g with
  | ptr d id off b l=>exact .ptr _ _ _ b l
 ·grind
 ·cases h;cases g with
  | rsl d id n s b cap l k=>exact .rsl _ _ _ _ b cap l k
  | rslNil d id s m=>exact .rslNil _ _ _ m
 ·cases h;cases g with
  | ref e a s f t i r g=>exact .ref _ a s f t i r (fun j c k=>(g j c k).anyB1 _ (i.cell k))
 ·cases h;cases g;exact .nilptr
 split at h;· rename_i o;cases h;exact g.anyBfree _ o
 grind
theorem xS:∀ {cs ds},oB cs=some ds→ds.length=cs.length∧∀ (i:Nat) d,ds[i]?=some d→∃ c,cs[i]?=some c∧jF c=some d
 | [],ds,h=>by simp [oB] at h;grind
 | c::cs,ds,h=>by
  simp [oB] at h;split at h;· rename_i y r b a;obtain ⟨f,e⟩:=xS a;grind
  grind
theorem aGG {M B p q v} (h:tA p=some q) (e:Rv M B p v):Rv M (lZ B) q v:=by
 unfold tA at h;split at h
 ·obtain ⟨ds,a,h⟩:=aB h;cases h;obtain ⟨m,k⟩:=xS a;cases e with
  | agg cs vs f o l b =>
   refine .agg _ vs f (by omega) (fun i n=>by grind) fun i d a => ?_;obtain ⟨c,j,g⟩:=k i d a;exact aE4 g (b i c j)
 exact aE4 h e
theorem aH3 {p q} (h:jF p=some q):(∀ cs,p ≠ .agg cs)→(∀ cs,p ≠ .tuple cs)→(∀ cs,q ≠ .agg cs)∧(∀ cs,q ≠ .tuple cs):=by
 unfold jF at h;grind
theorem aOX {M w base B p q v} (h:tA p=some q):(∀ b,cV q v b=cV p v b)∧(hV M w base B p v→hV M w base B q v):=by
 unfold tA at h;split at h
 ·rename_i cs;obtain ⟨ds,i,h⟩:=aB h;cases h;obtain ⟨t,A⟩:=xS i;cases v with
  | agg vs =>
   -- cells one by one
   have key:∀ cs ds l,oB cs=some ds→(∀ b,sumL (fun x=>c1 x.1 x.2 b) (ds.zip l)=sumL (fun x=>c1 x.1 x.2 b) (cs.zip l))∧((∀ x∈cs.zip l,h1 M w base B x.1 x.2)→∀ x∈ds.zip l,h1 M w base B x.1 x.2):=by
    intro cs;induction cs with
    | nil=>intro ds l h;simp [oB] at h;grind
    | cons c cs s =>
     intro ds l h;simp [oB] at h;split at h
     ·rename_i y r f n;cases h;cases l with
      | nil=>simp
      | cons x l =>
       obtain ⟨u,D⟩:=s r l n;refine ⟨fun b=>by simp [sumL];rw [u b];simp [c1,aE3 f],fun a z e => ?_⟩;rw [List.zip_cons_cons] at e a;rcases List.mem_cons.1 e with rfl | e;· exact aGF f (a (c,x) (by simp))
       grind
     grind
   obtain ⟨o,k⟩:=key cs ds vs.toList i;exact ⟨fun b=>o b,fun a=>k a⟩
  | _ =>
   refine ⟨fun b => ?_,fun _ => ?_⟩;· rw [dU.c (p := .agg ds),dU.c (p := .agg cs)]<;>(intro x d;simp [atoms,zipA] at d;subst d;exact rX _ _)
   apply dU.h;intro x d;simp [atoms,zipA] at d;subst d;exact rX _ _
 rename_i m;cases p with
 | tuple C=>simp [jF,PV.free,PV.solid,PV.solid1] at h
 | agg cs=>grind
 | _ =>
  obtain ⟨g,j⟩:=aH3 h (by simp) (by simp);refine ⟨fun b => ?_,fun a => ?_⟩;· rw [xB g j,xB (by simp) (by simp)];simp [c1,aE3 h]
  rw [aCP g j];rw [aCP (by simp) (by simp)] at a;exact aGF h a
theorem aE5:∀ {cs ds},rV cs=some ds→ds.length=cs.length∧∀ (i:Nat) d,ds[i]?=some d→∃ c,cs[i]?=some c∧tA c=some d
 | [],ds,h=>by simp [rV] at h;grind
 | c::cs,ds,h=>by
  simp [rV] at h;split at h;· rename_i y r b a;obtain ⟨f,e⟩:=aE5 a;grind
  grind
section
variable {P : Program} {base : Base} {M : Mem} {B : BM} {st : St} {tm : Array Value} {w : World}
theorem pS b bx:cBx w B bx b=dT (fun id cs=>cBox w (B 0 id) cs b) (oI bx)+cBx w (lZ B) (iA bx) b:=by
 have sh:∀ l g d0,fW g (d0+1) l=fW (fun d=>g (d+1)) d0 l:=by
  intro l;induction l with
  | nil=>intro g d0;rfl
  | cons f r a=>intro g d0;simp [fW];rw [a]
 cases bx with
 | nil=>rfl
 | cons f r =>
  simp [cBx,fW];have:=sh r (fun d id cs=>cBox w (B d id) cs b) 0;rw [this];rfl
def aI2 (tm:Array Value) (r:ResultVar):Sem Value :=
 match r with
 | .tmp t=>pure (tm.getD t undef)
 | .cell a t=>do loadVar t (← asAddr (tm.getD a undef))
theorem aI3 (h:SR base M B st tm w) {own r R} {K:PV→Option R} {x} (hr:aEY P own st r K=some x) :
  ∃ p v,K p=some x∧(aI2 tm r).run P w = .ok v w∧Rv M B p v∧hV M w base B p v ∧
   ∀ b,cV p v b+cBx w (lZ B) (iA st.bx) b≤tot st.fr tm w B st.bx b:=by
 cases r with
 | tmp t =>
  simp [aEY] at hr;have hle:∀ b,cV (gets st.fr t) (tm.getD t undef) b≤cF st.fr tm b:=by
   intro b;by_cases ht:t<tm.size;· exact aCN (f:=fun i=>cV (gets st.fr i) (tm.getD i undef) b) tm.size ht
   have:tm.getD t undef=undef:=by simp [ht]
   rw [this,(nF _).c];omega
  cases own with
  | true =>
   refine ⟨_,tm.getD t undef,hr,rfl,h.slot t,h.slotH t,fun b => ?_⟩;have:=hle b;simp only [tot];rw [pS b st.bx];omega
  | false =>
   refine ⟨_,tm.getD t undef,hr,rfl,(h.slot t).plain,(bS _ _).h _ _ _ _,fun b => ?_⟩;rw [(bS _ _).c];simp [tot];rw [pS b st.bx];omega
 | cell a t =>
  simp [aEY] at hr;split at hr
  ·rename_i n ag hsz hag;split at hr
   ·rename_i d id off hptr;split at hr
    ·rename_i hn;obtain ⟨cs,hcs,hr⟩:=aB hr;rcases bA hr with ⟨_,hr⟩ | ⟨hnv,hr⟩;· simp at hr
     obtain ⟨v,hv,hr⟩:=aB hr;have hslot:=h.slot a;rw [hptr] at hslot;obtain ⟨blk,hB,hav⟩:∃ blk,B d id=some blk∧tm.getD a undef = .pointer (some ⟨blk,off,none⟩):=by
      generalize tm.getD a undef=va at hslot;cases hslot with
      | ptr d id off b hb=>exact ⟨b,hb,rfl⟩
     have hph:=uY hnv;obtain ⟨arr,T,fz,hrow,hlen,hfz,ok,hcell⟩:=mE h hcs hB;rw [hph] at hlen hcell;have hn1:ag=false→n=1:=fun hf=>by simpa [hf] using hn.2
     obtain ⟨p1,p2,p3,p4,p5,p6⟩:=aJM ok hph hv hn1;have hrun:(aI2 tm (.cell a t)).run P w = .ok (if ag then .agg ((List.range n).map fun j=>bN w blk (off+j)).toArray else bN w blk off) w:=by
      have:=tC (P:=P) (w:=w) (blk:=blk) (off:=off) hsz hag (fun j hj=>by grind) (fun _=>hn.1);simp [aI2,hav];exact this
     have plainCase:K (sY d v).plain=some x→∃ p v',K p=some x∧(aI2 tm (.cell a t)).run P w = .ok v' w∧Rv M B p v'∧hV M w base B p v'∧∀ b,cV p v' b+cBx w (lZ B) (iA st.bx) b≤tot st.fr tm w B st.bx b:=by
      intro hr;refine ⟨_,_,hr,hrun,p2.plain,(bS _ _).h _ _ _ _,fun b => ?_⟩;rw [(bS _ _).c];simp [tot];rw [pS b st.bx];omega
     split at hr
     ·-- its own
      refine ⟨_,_,hr,hrun,p2,p3,fun b => ?_⟩;have e1:=p4 b;have e2:bT n (fun j=>c1 (cs.getD (off+j) .bot) (bN w blk (off+j)) b)≤cR w blk 0 cs b:=by
       rw [lB];have hs:cs.length=off+(n+(cs.length-off-n)):=by omega
       rw [hs,tU,tU];simp;omega
      have e3:cR w blk 0 cs b≤dT (fun id cs=>cBox w (B 0 id) cs b) (oI st.bx):=by
       have hm  := by
        rw [tW] at hcs;exact kD hcs
       have:=xA (g:=fun id cs=>cBox w (B 0 id) cs b) (oI st.bx) hm;simp [hB,cBox,hph] at this;exact this
      have e4:cV v (if ag then Value.agg ((List.range n).map fun j=>bN w blk (off+j)).toArray else bN w blk off) b=bT n (fun j=>c1 (cs.getD (off+j) .bot) (bN w blk (off+j)) b):=e1;simp [tot];rw [pS b st.bx,e4];omega
     exact by grind
    simp at hr
   simp at hr
  simp at hr
theorem aI4 (h:SR base M B st tm w) {R} {x:R}:∀ l K,aLx P st l K=some x →
  ∃ (ps:List PV) (vs:List Value),K ps=some x∧(l.mapM (aI2 tm)).run P w = .ok vs w∧ps.length=l.length∧vs.length=l.length∧∀ (i:Nat) p,ps[i]?=some p→∃ v,vs[i]?=some v∧Rv M B p v
 | [],K,a=>⟨[],[],a,by simp,rfl,rfl,by simp⟩
 | r::l,K,a=>by
  obtain ⟨p,v,a,c,d,_,_⟩:=aI3 h a;obtain ⟨ps,vs,e,b,k,j,g⟩:=aI4 h l _ a;refine ⟨p::ps,v::vs,e,by simp_all,by grind,by grind,fun i q f => ?_⟩;grind
theorem aI5 a tm:results a tm=(do let vs ← a.results.mapM (aI2 tm);pure (if h:vs.size=1 then vs[0] else .tuple vs)):=by
 congr 1
theorem aOY (h:SR base M B st tm w) {k o r u} (a:aJF P k o st=some (r,u)) :
  ∃ v,(results k tm).run P w = .ok v w∧Rv M (lZ B) r v∧hV M w base (lZ B) r v∧u=iA st.bx ∧
   ∀ b,cV r v b+cBx w (lZ B) u b≤tot st.fr tm w B st.bx b:=by
 unfold aJF at a;have f:k.results=k.results.toList.toArray:=by simp
 split at a;· rename_i H n;obtain ⟨p,v,a,e,g,t,s⟩:=aI3 h a;obtain ⟨q,j,a⟩:=aB a;cases a;obtain ⟨N,z⟩:=aOX (M:=M) (w:=w) (base:=base) (B:=B) (v:=v) j;refine ⟨v,?_,aGG j g,(z t).boxes aJZ,rfl,fun b=>by grind⟩;rw [aI5,f,n];simp_all
 obtain ⟨ps,vs,a,e,I,G,A⟩:=aI4 h _ _ a;obtain ⟨y,j,a⟩:=aB a;cases a;obtain ⟨K,D⟩:=aE5 j;refine ⟨.tuple vs.toArray,?_,?_,(bS _ _).h _ _ _ _,rfl,fun b => ?_⟩
 ·rw [aI5];have L:vs.toArray.size≠1:=by
   intro m;simp at m;rw [G] at m;obtain ⟨x,J⟩:=List.length_eq_one_iff.1 m;grind
  have l:vs.length≠1:=by omega
  simp [Array.mapM_eq_mapM_toList,e,l]
 ·refine Rv.plain (.tuple y vs.toArray (fun i=>vs.getD i undef) (by grind) ?_ ?_);· grind
  intro i d F;obtain ⟨c,s,E⟩:=D i d F;obtain ⟨v,hv,C⟩:=A i c s;have:vs.getD i undef=v:=by grind
  rw [this];exact aGG E C
 rw [(bS _ _).c];simp [tot];rw [pS b st.bx];omega
end
structure POk (P : Program) : Prop where
 mixed : P.follows .mixedOrders = true
 name : ∀ (f : FuncId) (fn : Func), P.funcs[f]? = some fn → fn.body.isSome = true → (fn.name == "runtime.NumGoroutine") = false
section
variable {P : Program} {base : Base} {M : Mem} {B : BM} {w : World}
theorem bBr {args up vals} (h:CallPre base M B args up vals w) {nt} (hn:args.length≤nt) :
  SR base M (nG B) (pP args up) (vals++Array.replicate (nt-vals.size) undef) w ∧
  ∀ b,tot (pP args up).fr (vals++Array.replicate (nt-vals.size) undef) w (nG B) (pP args up).bx b=cA args vals b+cBx w B up b:=by
 have hsz:=h.size;have hfr:∀ i,gets (pP args up).fr i=if i<args.length then gt args i else .bot:=by
  intro i;have:=xP (gt args) args (List.range args.length) 0 (fun p i hp=>by
   grind) i
  show gets (jQ args 0 (List.range args.length)) i=_;rw [this];simp
 have htm:∀ i,(vals++Array.replicate (nt-vals.size) undef).getD i undef=vals.getD i undef:=by
  intro i;simp;grind
 have hgt:∀ i,i<args.length→args[i]?=some (gt args i):=by
  intro i hi;rw [aBt,List.getElem?_eq_getElem hi];rfl
 have hslot:∀ i,Rv M (nG B) (gets (pP args up).fr i) ((vals++Array.replicate (nt-vals.size) undef).getD i undef)∧hV M w base (nG B) (gets (pP args up).fr i) ((vals++Array.replicate (nt-vals.size) undef).getD i undef):=by
  intro i;rw [hfr,htm];split;· rename_i hi;obtain ⟨r1,r2⟩:=h.rel i _ (hgt i hi);exact ⟨r1,r2.boxes aVu⟩
  exact ⟨.bot _,(xQ _).h _ _ _ _⟩
 have htot:∀ b,tot (pP args up).fr (vals++Array.replicate (nt-vals.size) undef) w (nG B) (pP args up).bx b=cA args vals b+cBx w B up b:=by
  intro b;have e1:cBx w (nG B) (pP args up).bx b=cBx w B up b:=by
   rw [pS b (pP args up).bx];have:lZ (nG B)=B:=by funext d id;rfl
   rw [this];simp [pP,oI,iA,dT]
  have e2:cF (pP args up).fr (vals++Array.replicate (nt-vals.size) undef) b=cA args vals b:=by
   unfold cF cA;have hs:(vals++Array.replicate (nt-vals.size) undef).size=args.length+(nt-args.length):=by simp;omega
   rw [hs,tU,iG (f:=fun i=>cV (gets (pP args up).fr (args.length+i)) ((vals++Array.replicate (nt-vals.size) undef).getD (args.length+i) undef) b) _ (fun i _=>by
    rw [hfr,if_neg (by omega),(xQ _).c])]
   grind
  simp [tot,e1,e2]
 refine ⟨⟨h.cons,fun i=>(hslot i).1,fun i=>(hslot i).2,⟨?_,?_,?_,?_⟩,fun b=>by rw [htot];exact h.one b,h.glob,h.base⟩,htot⟩
 ·intro d f hf;cases d with
  | zero=>simp [pP] at hf;subst hf;simp
  | succ d=>exact h.box.nodup d f (by simpa [pP] using hf)
 ·intro d id hn';cases d with
  | zero=>rfl
  | succ d=>exact h.box.dom d id (by simpa [pP,fX] using hn')
 ·intro d id cs hc;cases d with
  | zero=>simp [pP,bF,look] at hc
  | succ d =>
   obtain ⟨hv,hbk⟩:=h.box.ok d id cs (by simpa [pP,fX] using hc);refine ⟨hv,?_⟩;rcases hbk with ⟨blk,hB,ok⟩ | hno;rotate_left;· exact .inr hno
   refine .inl ⟨blk,hB,ok.old,ok.row,ok.free,fun j c hj => ?_⟩;obtain ⟨r1,r2,r3⟩:=ok.rel j c hj;have:upB (d+1) (nG B)=upB d B:=by
    funext e id;simp [upB];rw [show d+1+e=(d+e)+1 by omega];rfl
   rw [this];exact ⟨r1,r2.boxes aVu,r3⟩
 intro d id d' id' blk h1 h2;cases d with
 | zero=>simp [nG] at h1
 | succ d =>
  cases d' with
  | zero=>simp [nG] at h2
  | succ d' =>
   have:=h.box.inj d id d' id' blk h1 h2;exact ⟨by omega,this.2⟩
theorem aTq (hP : POk P) {O LP} (hO : aJR P base.g O) (hL : aL4 LP) {f fn} (hf : P.funcs[f]? = some fn) {mt args up r up'}
  (h : kC P mt fn.ntmps O LP fn args up = some (r, up')) {vals} (hpre : CallPre base M B args up vals w) : tD P f vals w (gP base M B args up vals w r up') := by
 unfold kC at h;split at h
 ·rename_i c hc;split at h
  ·rename_i hle;left;refine ⟨f, vals, ?_, ?_⟩
   ·have hn := hP.name f fn hf (by rw [hc]; rfl);have hn' : ¬ fn.name = "runtime.NumGoroutine" := by intro e; rw [e] at hn; simp at hn
    simp [callFunc, hf, hn', hc]
   refine calls_of_wp hf hc ?_;obtain ⟨hsr, htot⟩ := bBr hpre hle;have hsize : (vals ++ Array.replicate (fn.ntmps - vals.size) undef).size = fn.ntmps := by
    have := hpre.size; simp; omega
   rw [bQ] at h;obtain ⟨⟨e, st'⟩, hev, h⟩ := aB h;rw [← hsize] at hev;have main : aJF P fn mt.own st' = some (r, up') → ∀ (a' : Act) w', Rch base M (nG B) (pP args up) (vals ++ Array.replicate (fn.ntmps - vals.size) undef) w st' a'.tmps w' → a'.defers = [] →
     a'.defers = [] ∧ ∃ v, (results fn a'.tmps).run P w' = .ok v w' ∧ ∃ v', Ending.returned v = .returned v' ∧ gP base M B args up vals w r up' v' w' := by
    intro hl a' w' hr hd;obtain ⟨q1, M', B', q2, q3⟩ := hr;obtain ⟨v, hrun, hrel, hh, hu, hc'⟩ := aOY q2 hl;have hB : lZ B' = B := by
     funext d id; exact q3.outer d id
    rw [hB] at hrel hh hc';refine ⟨hd, v, hrun, v, rfl, M', hrel, hh, ?_, q2.cons, fun b => Nat.le_trans (hc' b) (q2.one b), ?_⟩
    ·subst hu;refine ⟨?_, ?_, ?_, ?_⟩
     ·intro d f hf;cases hb : st'.bx with
      | nil => rw [hb] at hf; simp [iA] at hf
      | cons f0 r0 => rw [hb] at hf; exact q2.box.nodup (d + 1) f (by rw [hb]; simpa [iA] using hf)
     ·intro d id hn;rw [← tX] at hn;have := q2.box.dom (d + 1) id hn;rw [← hB]; exact this
     ·intro d id cs hcs;rw [← tX] at hcs;obtain ⟨hv, hbk⟩ := q2.box.ok (d + 1) id cs hcs;refine ⟨hv, ?_⟩;rcases hbk with ⟨blk, hb, ok⟩ | hno;rotate_left;· exact .inr ⟨by rw [← hB]; exact hno.1, hno.2⟩
      refine .inl ⟨blk, by rw [← hB]; exact hb, ok.old, ok.row, ok.free, fun j c hj => ?_⟩;obtain ⟨r1, r2, r3⟩ := ok.rel j c hj;have : upB (d + 1) B' = upB d B := by
       rw [← hB]; funext e id; simp [upB, lZ]; rw [show d + 1 + e = d + e + 1 by omega]
      rw [this] at r1;exact ⟨r1, by rw [← hB]; exact r2.boxes aJZ, r3⟩
     intro d id d' id' blk h1 h2;rw [← hB] at h1 h2;have := q2.box.inj (d + 1) id (d' + 1) id' blk h1 h2;exact ⟨by omega, this.2⟩
    have ht0 : tot (pP args up).fr (vals ++ Array.replicate (fn.ntmps - vals.size) undef) w (nG B) (pP args up).bx = fun b => cA args vals b + cBx w B up b := by grind
    rw [ht0] at q3;refine ⟨q3.os, q3.tape, q3.output, q3.size, q3.mono, ?_, ?_, fun d id b hb _ => ⟨d, id, hb⟩, fun _ _ => rfl⟩
    ·intro b hb hn;refine q3.keep b hb ?_;rintro (h1 | ⟨d, id, h2⟩);· exact hn (.inl h1)
     cases d with
     | zero => simp [nG] at h2
     | succ d => exact hn (.inr ⟨d, id, h2⟩)
    intro b hb;have := q3.tle b hb;exact by grind
   refine lD hP.mixed hO hL c _ _ _ base.n M (nG B) ⟨vals ++ Array.replicate (fn.ntmps - vals.size) undef, []⟩ w hev hsr _ fun a' w' hr hd => ?_;cases e with
   | nrm => exact main h a' w' hr hd
   | brk i => simp at h
   | ret => exact main h a' w' hr hd
  simp at h
 simp at h
theorem aXB n:aL4 (pD n):=fun _ _ _ _ h=>⟨n,h⟩
end
def low1:PV→PV
 | .ptr (d+2) id o => .ptr (d+1) id o
 | v=>v
def low:PV→PV
 | .func f first caps => .func f (first.map low1) (caps.map low1)
 | .agg cs => .agg (cs.map low1)
 | v=>low1 v
def lF:PV→Bool
 | .ptr 0 _ _=>false
 | .ptr 1 _ _=>false
 | .ptr (_+2) _ _=>true
 | .ref _ | .nilptr | .nilFunc | .bot | .und=>true
 | .func _ first caps=>first.all solid&&caps.all solid
 | v=>v.solid
def xT:PV→Bool
 | .func _ first caps=>first.all lF&&caps.all lF
 | .agg cs=>cs.all lF
 | v=>lF v
theorem aVv p v:own1 (low1 p) v=own1 p v:=by
 unfold low1;split;· cases v<;>rfl
 rfl
theorem bAo {M w base B} p v:h1 M w base B (low1 p) v↔h1 M w base B p v:=by
 unfold low1;split;· cases v<;>exact Iff.rfl
 simp
theorem aXC d id o:∃ a,low1 (.ptr d id o) = .ptr a id o:=by
 cases d with
 | zero=>exact ⟨0,rfl⟩
 | succ d=>cases d with
  | zero=>exact ⟨1,rfl⟩
  | succ d=>exact ⟨d+1,rfl⟩
theorem aL5 p v (l:∀ cs,p ≠ .tuple cs):(∃ g,atoms (low p) v=g.map (fun x=>(low1 x.1,x.2))∧atoms p v=g)∨(dU (low p) v∧dU p v):=by
 cases p with
 | agg cs =>
  cases v with
  | agg vs=>left;exact ⟨cs.zip vs.toList,by simp [low];exact xI _ _ _,rfl⟩
  | _ =>
   right;constructor;· intro x c;simp [low,atoms,zipA] at c;subst c;exact rX _ _
   intro x c;simp [atoms,zipA] at c;subst c;exact rX _ _
 | tuple cs=>grind
 | func f a b=>right;exact ⟨qC _ _ _ _,qC _ _ _ _⟩
 | ptr d i o =>
  right;obtain ⟨m,j⟩:=aXC d i o;refine ⟨?_,mD _ _ _ _⟩;show dU (low1 (.ptr d i o)) v;rw [j];exact mD _ _ _ _
 | slice es h o=>left;exact ⟨[(.slice es h o,v)],by cases v<;>rfl,by cases v<;>rfl⟩
 | mk0 sz=>left;exact ⟨[(.mk0 sz,v)],by cases v<;>rfl,by cases v<;>rfl⟩
 | bot=>left;exact ⟨[(.bot,v)],by cases v<;>rfl,by cases v<;>rfl⟩
 | und=>left;exact ⟨[(.und,v)],by cases v<;>rfl,by cases v<;>rfl⟩
 | bool b=>left;exact ⟨[(.bool b,v)],by cases v<;>rfl,by cases v<;>rfl⟩
 | int k n=>left;exact ⟨[(.int k n,v)],by cases v<;>rfl,by cases v<;>rfl⟩
 | str s=>left;exact ⟨[(.str s,v)],by cases v<;>rfl,by cases v<;>rfl⟩
 | ref e=>left;exact ⟨[(.ref e,v)],by cases v<;>rfl,by cases v<;>rfl⟩
 | nilptr=>left;exact ⟨[(.nilptr,v)],by cases v<;>rfl,by cases v<;>rfl⟩
 | nilFunc=>left;exact ⟨[(.nilFunc,v)],by cases v<;>rfl,by cases v<;>rfl⟩
 | rsl d i n z=>left;exact ⟨[(.rsl d i n z,v)],by cases v<;>rfl,by cases v<;>rfl⟩
 | vec z E=>left;exact ⟨[(.vec z E,v)],by cases v<;>rfl,by cases v<;>rfl⟩
theorem aRJ {p} (h:xT p=true):∀ cs,p ≠ .tuple cs:=by
 intro cs e;subst e;simp [xT,lF,PV.solid,PV.solid1] at h
theorem bBs {p} (e:xT p=true) v b:cV (low p) v b=cV p v b:=by
 rcases aL5 p v (aRJ e) with ⟨g,d,a⟩ | ⟨d,a⟩;· simp [cV,d,a,aFT,c1,aVv]
 rw [d.c,a.c]
theorem bBt {M w base B p} (d:xT p=true) v (h:hV M w base B p v):hV M w base B (low p) v:=by
 rcases aL5 p v (aRJ d) with ⟨g,a,c⟩ | ⟨a,c⟩;· intro x b;rw [a] at b;obtain ⟨y,e,rfl⟩:=List.mem_map.1 b;exact (bAo _ _).2 (h y (by grind))
 exact a.h M w base B
section
variable {M : Mem} {B : BM}
theorem Rv.low0 {p v} (h:Rv M (nG B) p v) (i:lF p=true):Rv M (nG (lZ B)) (low1 p) v:=by
 cases h with
 | ptr d id off b H =>
  cases d with
  | zero=>simp [lF] at i
  | succ d=>cases d with
   | zero=>simp [lF] at i
   | succ d=>exact .ptr (d+1) id off b (by simpa [nG,lZ] using H)
 | bot v=>exact .bot v
 | und=>exact .und
 | nilptr=>exact .nilptr
 | vec=>simp [lF,PV.solid,PV.solid1] at i
 | vecNil=>simp [lF,PV.solid,PV.solid1] at i
 | nilFunc=>exact .nilFunc
 | ref e a s f t l C q=>exact .ref e a s f t l C (fun j c x=>(q j c x).anyB1 _ (l.cell x))
 | func E m r I J f g K u w A y F z=>exact (Rv.func E m r I J f g K u w A y F z).anyBfree _ (by simpa [PV.free,lF] using i)
 | bool b=>exact .bool b
 | int k n=>exact .int k n
 | str s=>exact .str s
 | agg cs vs f u w q=>exact (Rv.agg cs vs f u w q).anyB _ (by simpa [lF] using i)
 | tuple cs vs f u w q=>simp [lF,PV.solid,PV.solid1] at i
 | rsl=>simp [lF,PV.solid,PV.solid1] at i
 | rslNil=>simp [lF,PV.solid,PV.solid1] at i
 | nil o=>exact .nil o
 | slice es G o a cap s f t x D l C q=>exact (Rv.slice es G o a cap s f t x D l C q).anyB _ rfl
 | mk0 sz a cap t=>exact .mk0 sz a cap t
theorem aTr {c} (h:c.plain=c):(low1 c).plain=low1 c:=by
 unfold low1;split;· rfl
 exact h
theorem Rv.low {p v} (h:Rv M (nG B) p v) (l:xT p=true):Rv M (nG (lZ B)) (Ev.low p) v:=by
 cases h with
 | func G A E K L f g N u w C y H z =>
  simp [xT] at l;refine .func G _ _ K L f g ?_ (by simpa using u) (by simpa using w) ?_ (by simpa using y) (by simpa using H) ?_;· intro c j;rw [← List.map_append] at j;obtain ⟨x,m,rfl⟩:=List.mem_map.1 j;exact aTr (N x m)
  ·intro i c j;rw [List.getElem?_map,Option.map_eq_some_iff] at j;obtain ⟨x,m,rfl⟩:=j;exact (C i x m).low0 (by grind)
  intro i c j;rw [List.getElem?_map,Option.map_eq_some_iff] at j;obtain ⟨x,m,rfl⟩:=j;exact (z i x m).low0 (by grind)
 | agg cs vs f u w r =>
  simp [xT] at l;refine .agg _ vs f (by simpa using u) (by simpa using w) ?_;intro i c j;rw [List.getElem?_map,Option.map_eq_some_iff] at j;obtain ⟨x,m,rfl⟩:=j;exact (r i x m).low0 (by grind)
 | ptr d id off b J=>exact (Rv.ptr d id off b J).low0 l
 | bot v=>exact .bot v
 | und=>exact .und
 | nilptr=>exact .nilptr
 | vec=>simp [xT,lF,PV.solid,PV.solid1] at l
 | vecNil=>simp [xT,lF,PV.solid,PV.solid1] at l
 | nilFunc=>exact .nilFunc
 | ref e a s f t q D r=>exact (Rv.ref e a s f t q D r).low0 rfl
 | bool b=>exact .bool b
 | int k n=>exact .int k n
 | str s=>exact .str s
 | tuple cs vs f u w r=>simp [xT,lF,PV.solid,PV.solid1] at l
 | rsl=>simp [xT,lF,PV.solid,PV.solid1] at l
 | rslNil=>simp [xT,lF,PV.solid,PV.solid1] at l
 | nil o=>exact .nil o
 | slice es I o a cap s f t j F q D r=>exact (Rv.slice es I o a cap s f t j F q D r).low0 rfl
 | mk0 sz a cap t=>exact .mk0 sz a cap t
end
section
variable {base : Base} {M : Mem} {B : BM} {w : World}
theorem aL6 {args vals} (d:args.all xT=true) b:cA (args.map low) vals b=cA args vals b:=by
 unfold cA;rw [List.length_map];apply eK;intro i c;have a:(args.map low).getD i .bot=low (args.getD i .bot):=by
  grind
 rw [a];apply bBs;grind
theorem aRK d B:upB d (lZ B)=upB (d+1) B:=by
 funext e id;simp [upB,lZ];grind
theorem aXD {args t} {o:UP} {vals} (h:CallPre base M B args (t::o) vals w) (u:args.all xT=true):CallPre base M (lZ B) (args.map low) o vals w:=by
 refine ⟨h.cons,by rw [List.length_map];exact h.size,?_,⟨?_,?_,?_,?_⟩,?_,h.glob,h.base⟩;· intro i p v;rw [List.getElem?_map,Option.map_eq_some_iff] at v;obtain ⟨q,s,rfl⟩:=v;obtain ⟨k,g⟩:=h.rel i q s;have a:=List.all_eq_true.1 u q (List.mem_of_getElem? s);exact ⟨k.low a,(bBt a _ g).boxes aJZ⟩
 ·intro d f H;exact h.box.nodup (d+1) f (by grind)
 ·intro d id z;exact h.box.dom (d+1) id (by exact z)
 ·intro d id cs l;obtain ⟨hv,n⟩:=h.box.ok (d+1) id cs (by exact l);refine ⟨hv,?_⟩;rcases n with ⟨blk,x,e⟩ | m;rotate_left;· exact .inr m
  refine .inl ⟨blk,x,e.old,e.row,e.free,fun j c y => ?_⟩;obtain ⟨k,g,F⟩:=e.rel j c y;exact ⟨by rw [aRK];exact k,g.boxes aJZ,F⟩
 ·intro d id C r blk A E;have:=h.box.inj (d+1) id (C+1) r blk A E;omega
 intro b;rw [aL6 u];have G:=h.one b;have D:=pS (w:=w) (B:=B) b (t::o);simp [iA] at D;omega
end
theorem aL7 w blk b:∀ l k j c,l[j]?=some c→c1 c (bN w blk (k+j)) b≤cR w blk k l b:=by
 intro l;induction l with
 | nil=>simp
 | cons a l e =>
  intro k j c d;cases j with
  | zero=>simp at d;subst d;simp [cR]
  | succ j=>have:=e (k+1) j c d;simp [cR];grind
theorem bAp {w B bx d id blk cs} (m:bB bx d id=some cs) (i:B d id=some blk) {j c} (k:(phys cs)[j]?=some c) b:c1 c (bN w blk j) b≤cBx w B bx b:=by
 have h:=aL7 w blk b (phys cs) 0 j c k;rw [Nat.zero_add] at h;have e:∀ bx d0 d,bB bx d id=some cs→cBox w (B (d0+d) id) cs b≤fW (fun d id cs=>cBox w (B d id) cs b) d0 bx:=by
  intro bx;induction bx with
  | nil=>intro d0 d a;simp [bB,nth] at a
  | cons f r l =>
   intro d0 d a;simp [fW];cases d with
   | zero =>
    have:=xA (g:=fun id cs=>cBox w (B d0 id) cs b) f (kD a);grind
   | succ d =>
    have:=l (d0+1) d (by simpa [bB,nth] using a);grind
 have:=e bx 0 d m;rw [Nat.zero_add,i] at this;unfold cBx;simp [cBox] at this ⊢;omega
section
variable {base : Base} {M : Mem} {B : BM} {w : World}
theorem CallPre.sr {args a vals} (h:CallPre base M B args a vals w):SR base M B ⟨[],a⟩ #[] w:=by
 refine ⟨h.cons,fun i => .bot _,fun i=>(xQ _).h _ _ _ _,h.box,fun b => ?_,h.glob,h.base⟩;have:=h.one b;have e:tot [] #[] w B a b=cBx w B a b:=by simp [tot,cF,bT]
 grind
theorem CallPre.own {args a vals} (h:CallPre base M B args a vals w) {b} (j:1≤cA args vals b+cBx w B a b):b<w.heap.size∧∀ d id,B d id≠some b:=by
 by_cases g:1≤cA args vals b;· obtain ⟨i,p,f,c⟩:=aRD g;have:=aRE (h.rel i p f).2 c;grind
 have e:tot [] #[] w B a b=cBx w B a b:=by simp [tot,cF,bT]
 have:=h.sr.tot_own (b:=b) (by grind);grind
theorem aVw {args f0} {up up':UP} {vals r v w'} (h:CallPre base M B args (f0::up) vals w) (hd:args.all xT=true) (hf:r.free=true)
  (hp:gP base M (lZ B) (args.map low) up vals w r up' v w'):gP base M B args (f0::up) vals w r (f0::up') v w':=by
 obtain ⟨M',hr,hh,hbx,hc,hone,evo⟩:=hp;have hsr:=h.sr;have hsplit:∀ b,cBx w B (f0::up) b=dT (fun id cs=>cBox w (B 0 id) cs b) f0+cBx w (lZ B) up b:=fun b=>pS (w:=w) (B:=B) b (f0::up)
 -- what lies in the frame that is left out is not touched
 have hown:∀ b,1≤cA args vals b+cBx w (lZ B) up b→b<w.heap.size∧∀ d id,B d id≠some b:=fun b hb=>h.own (by rw [hsplit];omega);have hkeep:∀ b,b<w.heap.size→cA args vals b+cBx w (lZ B) up b=0→(∀ d id,B (d+1) id≠some b)→w'.heap[b]?=w.heap[b]?∧∀ i,M' b i=M b i:=by
  intro b hb hz hn;refine evo.keep b hb ?_;rintro (h1 | ⟨d,id,h2⟩);· have h1':1≤cA (args.map low) vals b+cBx w (lZ B) up b:=h1;rw [aL6 hd] at h1';omega
  exact hn d id h2
 have hblk:∀ id blk,B 0 id=some blk→w'.heap[blk]?=w.heap[blk]?∧∀ i,M' blk i=M blk i:=by
  intro id blk hB;refine hkeep blk (hsr.box_lt hB).1 ?_ ?_
  ·cases hx:cA args vals blk+cBx w (lZ B) up blk with
   | zero=>rfl
   | succ n=>exact by grind
  intro d id' h2;have:=h.box.inj 0 id (d+1) id' blk hB h2;omega
 have hcell:∀ id blk j,B 0 id=some blk→bN w' blk j=bN w blk j:=by
  intro id blk j hB;simp [bN,World.cell?,(hblk id blk hB).1]
 have hfr:∀ b,dT (fun id cs=>cBox w' (B 0 id) cs b) f0=dT (fun id cs=>cBox w (B 0 id) cs b) f0:=by
  intro b;apply eM;intro id cs _;unfold cBox;cases hB:B 0 id with
  | none=>rfl
  | some blk =>
   have:∀ cs j,cR w' blk j cs b=cR w blk j cs b:=by
    intro cs;induction cs with
    | nil=>intro j;rfl
    | cons c cs ih=>intro j;simp [cR,hcell id blk j hB,ih]
   exact by grind
 have hsplit':∀ b,cBx w' B (f0::up') b=dT (fun id cs=>cBox w (B 0 id) cs b) f0+cBx w' (lZ B) up' b:=by
  intro b;rw [pS (w:=w') (B:=B) b (f0::up')];simp [oI,iA,hfr b]
 -- what is owned behind the call is no variable
 have hnew:∀ b,1≤cV r v b+cBx w' (lZ B) up' b→∀ d id,B d id≠some b:=by
  intro b hb d id hB;have hlt:=(hsr.box_lt hB).1;have:=evo.tle b hlt;have h2  := by omega
  rw [aL6 hd] at h2;exact by grind
 have hlift:∀ p x,(∀ b,own1 p x=some b→∀ d id,B d id≠some b)→h1 M' w' base (lZ B) p x→h1 M' w' base B p x:=by
  intro p x hn h1p;exact h1p.world (fun _ _ _ hx=>hx) fun b ho _=>⟨rfl,fun _=>rfl,fun d id hB=>by grind⟩
 refine ⟨M',hr.anyBfree _ hf,?_,⟨?_,?_,?_,h.box.inj⟩,hc,?_,?_⟩
 ·intro x hx;refine hlift _ _ (fun b ho=>hnew b ?_) (hh x hx);have e1:c1 x.1 x.2 b=1:=by simp [c1,ho]
  have e2:c1 x.1 x.2 b≤cV r v b:=aGh (f:=fun y=>c1 y.1 y.2 b) _ hx;omega
 ·intro d f hf';cases d with
  | zero=>exact h.box.nodup 0 f (by simpa using hf')
  | succ d=>exact hbx.nodup d f (by simpa using hf')
 ·intro d id hn;cases d with
  | zero=>exact h.box.dom 0 id hn
  | succ d=>exact hbx.dom d id (by rw [tX] at hn;exact hn)
 ·intro d id cs hcs;cases d with
  | zero =>
   obtain ⟨hv,hbk⟩:=h.box.ok 0 id cs hcs;refine ⟨hv,?_⟩;rcases hbk with ⟨blk,hB,⟨o,⟨arr,T,fz,hr1,hsz⟩,fr,rel⟩⟩ | hno;rotate_left;· exact .inr hno
   obtain ⟨g1,g2⟩:=hblk id blk hB;refine .inl ⟨blk,hB,o,⟨arr,T,fz,by rw [g1];exact hr1,hsz⟩,fun i=>by rw [g2];exact fr i,fun j c hj => ?_⟩;rw [hcell id blk j hB];obtain ⟨r1,r2,r3⟩:=rel j c hj;refine ⟨r1.mono evo.mono (fun _ _ _ hx=>hx),r2.world evo.mono fun b ho hlt => ?_,r3⟩;have e1:c1 c (bN w blk j) b=1:=by simp [c1,ho]
   have e3:=h.one b;have e4:dT (fun id cs=>cBox w (B 0 id) cs b) f0≥1:=by
    have k1  := kD (by simpa [bB,nth] using hcs);have k2:=xA (g:=fun id cs=>cBox w (B 0 id) cs b) f0 k1;have k3:=aL7 w blk b (phys cs) 0 j c hj;rw [Nat.zero_add] at k3;refine Nat.le_trans ?_ k2;show 1≤cBox w (B 0 id) cs b;rw [hB];show 1≤cR w blk 0 (phys cs) b;omega
   have e5:=hsplit b;obtain ⟨x1,x2⟩:=hkeep b hlt (by omega) (fun d' id' h2=>(r2.nobox ho).1 (d'+1) id' h2);exact ⟨x1,x2,fun _ _ hx=>hx⟩
  | succ d =>
   rw [tX] at hcs;obtain ⟨hv,hbk⟩:=hbx.ok d id cs hcs;refine ⟨hv,?_⟩;rcases hbk with ⟨blk,hB,ok⟩ | hno;rotate_left;· exact .inr hno
   refine .inl ⟨blk,hB,ok.old,ok.row,ok.free,fun j c hj => ?_⟩;obtain ⟨r1,r2,r3⟩:=ok.rel j c hj;refine ⟨by rw [← aRK];exact r1,hlift _ _ (fun b ho=>hnew b ?_) r2,r3⟩;have e1:c1 c (bN w' blk j) b=1:=by simp [c1,ho]
   have e2:=bAp (w:=w') (B:=lZ B) (bx:=up') hcs hB hj b;omega
 ·intro b;rw [hsplit' b];have e1:=h.one b;have e2:=hsplit b;have e3:=hone b;by_cases hb:b<w.heap.size;· have e4:=evo.tle b hb;have e4'  := e4;rw [aL6 hd] at e4';omega
  have:dT (fun id cs=>cBox w (B 0 id) cs b) f0=0:=by
   cases hx:dT (fun id cs=>cBox w (B 0 id) cs b) f0 with
   | zero=>rfl
   | succ n=>exact absurd (h.own (b:=b) (by omega)).1 hb
  omega
 refine ⟨evo.os,evo.tape,evo.output,evo.size,evo.mono,?_,?_,fun d id b hb _=>⟨d,id,hb⟩,fun _ _=>rfl⟩
 ·intro b hb hn;refine hkeep b hb ?_ (fun d id h2=>hn (.inr ⟨d+1,id,h2⟩));cases hx:cA args vals b+cBx w (lZ B) up b with
  | zero=>rfl
  | succ n =>
   refine absurd (Or.inl ?_) hn;show 1≤cA args vals b+cBx w B (f0::up) b;rw [hsplit];omega
 intro b hb;have e4:=evo.tle b hb;have e4'  := e4;rw [aL6 hd] at e4';show cV r v b+cBx w' B (f0::up') b≤cA args vals b+cBx w B (f0::up) b;rw [hsplit' b,hsplit b];omega
end
def OLe (O O':Orc):Prop:=∀ f a u r,O f a u=some r→O' f a u=some r
def BLe (x y:cG):Prop:=∀ s u r,x s u=some r→y s u=some r
def LLe (L L':cG→cG):Prop:=∀ x y,BLe x y→BLe (L x) (L' y)
section
variable {P : Program} {mt : Hints} {nt : Nat} {O O' : Orc} {LP LP' : cG → cG}
theorem aGH (i:OLe O O') {o st e} (h:aR P mt nt O o st some=some e):aR P mt nt O' o st some=some e:=by
 cases m:o.op with
 | call c =>
  simp [aR,m,gM] at h ⊢;cases j:c.callee with
  | value f =>
   simp [j] at h ⊢;split at h
   ·rename_i g k l q;split at h;· simp at h
    ·rcases bA h with ⟨d,h⟩ | ⟨_,h⟩;· obtain ⟨r,a,h⟩:=aB h;rw [d,i _ _ _ _ a];exact h
     simp at h
    split at h
    ·rcases bA h with ⟨p,h⟩ | ⟨_,h⟩
     ·unfold aM at h ⊢;rcases bA h with ⟨d,h⟩ | ⟨_,h⟩;· obtain ⟨r,a,h⟩:=aB h;rw [p,d,i _ _ _ _ a];exact h
      simp at h
     simp at h
    ·simp at h
    ·unfold aM at h ⊢;rcases bA h with ⟨d,h⟩ | ⟨_,h⟩;· obtain ⟨r,a,h⟩:=aB h;rw [d,i _ _ _ _ a];exact h
     simp at h
    unfold aM at h ⊢;rcases bA h with ⟨d,h⟩ | ⟨_,h⟩;· obtain ⟨r,a,h⟩:=aB h;rw [d,i _ _ _ _ a];exact h
    simp at h
   simp at h
  | invoke r n=>simp only [j] at h ⊢;exact h
  | builtin b=>cases b<;>simp [j] at h ⊢ <;> exact h
 | _=>simp [aR,m] at h ⊢ <;> exact h
theorem xU (f:OLe O O') {c}:∀ d {st a},jP P mt nt O c d st some=some a→jP P mt nt O' c d st some=some a
 | [],_,_,h=>h
 | o::d,st,a,h=>by
  simp [jP] at h ⊢;rw [gQ] at h ⊢;obtain ⟨⟨b,s⟩,i,h⟩:=aB h;rw [i];simp [bnd] at h ⊢;cases b with
  | true =>
   rw [eZ] at h ⊢;obtain ⟨e,g,h⟩:=aB h;rw [aGH f g];exact xU f d h
  | false=>exact xU f d h
theorem pT (f:OLe O O') {d}:∀ c i a {st r},cI P mt nt O d i c a st (fun l s=>some (l,s))=some r →
  cI P mt nt O' d i c a st (fun l s=>some (l,s))=some r
 | [],_,_,_,_,h=>h
 | o::c,i,a,st,r,h=>by
  simp [cI] at h ⊢;rw [gQ] at h ⊢;obtain ⟨⟨b,s⟩,k,h⟩:=aB h;rw [k];simp [bnd] at h ⊢;cases b with
  | true =>
   rw [eZ] at h ⊢;obtain ⟨e,j,h⟩:=aB h;rw [aGH f j];simp [bnd];cases g:e.up with
   | some u =>
    rw [g] at h;simp at h ⊢;split at h;· exact pT f c _ _ h
    omega
   | none=>rw [g] at h;exact pT f c _ _ h
  | false=>exact pT f c _ _ h
theorem fD (d:OLe O O') (f:LLe LP LP'):∀ c {st r},aS P mt nt O LP c st (fun e s=>some (e,s))=some r→aS P mt nt O' LP' c st (fun e s=>some (e,s))=some r
 | .skip,_,_,h=>h
 | .label _,_,_,h=>h
 | .exit _,_,_,h=>h
 | .ret,_,_,h=>h
 | .region id v j,st,r,h=>by
  simp [aS] at h ⊢;rw [iR] at h ⊢;obtain ⟨o,l,h⟩:=aB h;rw [l];simp [bO];cases j with
  | false =>
   rw [nI] at h ⊢;obtain ⟨s,g,h⟩:=aB h;rw [xU d _ g];exact h
  | true =>
   simp at h ⊢;split at h;· rw [iQ] at h ⊢;obtain ⟨s,g,h⟩:=aB h;rw [pT d _ _ _ g];exact h
   omega
 | .seq a b,st,r,h=>by
  simp [aS] at h ⊢;rw [bQ] at h ⊢;obtain ⟨⟨e,s⟩,g,h⟩:=aB h;rw [fD d f a g];cases e with
  | nrm=>exact fD d f b h
  | brk i=>exact h
  | ret=>exact h
 | .cond c a b,st,r,h=>by
  simp [aS,brB] at h ⊢;obtain ⟨t,p,h⟩:=aB h;rw [p];cases t with
  | true=>exact fD d f a h
  | false=>exact fD d f b h
 | .block id b,st,r,h=>by
  simp [aS] at h ⊢;rw [bQ] at h ⊢;obtain ⟨⟨e,s⟩,g,h⟩:=aB h;rw [fD d f b g];exact h
 | .scope b,st,r,h=>fD d f b h
 | .loop b,st,r,h=>by
  simp [aS] at h ⊢;rw [iR] at h ⊢;obtain ⟨o,l,h⟩:=aB h;rw [l];simp [bO];rw [aAs] at h ⊢;obtain ⟨⟨s,u⟩,w,h⟩:=aB h;obtain ⟨q,n,h⟩:=aB h;rw [w];simp [bO];rw [f _ _ (fun s u r k=>by
   rw [bQ] at k ⊢;obtain ⟨x,m,k⟩:=aB k;rw [fD d f b m];exact k) _ _ _ n]
  exact h
 | .rangeFunc _ _ _ _,_,_,h=>by simp [aS] at h
 | .goto _,_,_,h=>by simp [aS] at h
 | .refuse _,_,_,h=>by simp [aS] at h
theorem aC0 (e:OLe O O') (f:LLe LP LP') {c args b r} (h:kC P mt nt O LP c args b=some r):kC P mt nt O' LP' c args b=some r:=by
 unfold kC at h ⊢;split at h
 ·split at h;· rename_i a;rw [bQ] at h;obtain ⟨x,d,h⟩:=aB h;rw [if_pos a,bQ,fD e f _ d];exact h
  grind
 omega
end
theorem aDX:∀ n {x y},BLe x y→BLe (pD n x) (pD n y)
 | 0,_,_,_,_,_,_,h=>by simp [pD] at h
 | n+1,x,y,a,s,u,r,h=>by
  simp [pD] at h ⊢;obtain ⟨q,b,h⟩:=aB h;rw [a _ _ _ b];simp [bnd];split at h;· exact aDX n a _ _ _ h
  exact h
theorem aDY:∀ n m {x},n≤m→BLe (pD n x) (pD m x)
 | 0,_,_,_,_,_,_,h=>by simp [pD] at h
 | n+1,0,_,a,_,_,_,_=>by omega
 | n+1,m+1,x,a,s,u,r,h=>by
  simp [pD] at h ⊢;obtain ⟨q,b,h⟩:=aB h;rw [b];simp [bnd];split at h;· exact aDY n m (by omega) _ _ _ h
  exact h
open Classical in
noncomputable def aE (body:cG):cG:=fun s u=>if h:∃ n r,pD n body s u=some r then pD (Classical.choose h) body s u else none
theorem dX {a s u r}:aE a s u=some r↔∃ n,pD n a s u=some r:=by
 unfold aE;constructor;· intro h;split at h;all_goals grind
 rintro ⟨n,d⟩;have b:∃ n r,pD n a s u=some r:=⟨n,r,d⟩;obtain ⟨f,c⟩:=Classical.choose_spec b;have g:=aDY n (max n (Classical.choose b)) (x:=a) (by omega) _ _ _ d;have e:=aDY (Classical.choose b) (max n (Classical.choose b)) (x:=a) (by omega) _ _ _ c;grind
theorem aTs:aL4 aE:=fun _ _ _ _ h=>dX.1 h
theorem aE6:LLe aE aE:=fun x y a s u r h=>by
 obtain ⟨n,b⟩:=dX.1 h;exact dX.2 ⟨n,aDX n a _ _ _ b⟩
theorem aVx n:LLe (pD n) aE:=fun x y a s u r h=>dX.2 ⟨n,aDX n a _ _ _ h⟩
theorem xV a s u:aE a s u=bnd (a s u) fun r=>match r.1 with | .nrm=>aE a r.2.1 r.2.2 | e=>some (e,r.2.1,r.2.2):=by
 have key:∀ r,aE a s u=some r↔(bnd (a s u) fun r=>match r.1 with | .nrm=>aE a r.2.1 r.2.2 | e=>some (e,r.2.1,r.2.2))=some r:=by
  intro r;constructor
  ·intro h;obtain ⟨n,b⟩:=dX.1 h;cases n with
   | zero=>simp [pD] at b
   | succ n =>
    obtain ⟨⟨e,s',d⟩,c,b⟩:=aB b;rw [c];cases e with
    | nrm=>exact dX.2 ⟨n,b⟩
    | brk i=>exact b
    | ret=>exact b
  intro h;obtain ⟨⟨e,s',d⟩,c,h⟩:=aB h;cases e with
  | nrm =>
   obtain ⟨n,b⟩:=dX.1 h;exact dX.2 ⟨n+1,by simp [pD,c];exact b⟩
  | brk i=>exact dX.2 ⟨1,by simp only [pD,c];exact h⟩
  | ret=>exact dX.2 ⟨1,by simp only [pD,c];exact h⟩
 cases g:aE a s u with
 | some r=>grind
 | none =>
  cases f:(bnd (a s u) fun r=>match r.1 with | .nrm=>aE a r.2.1 r.2.2 | e=>some (e,r.2.1,r.2.2)) with
  | none=>rfl
  | some r=>grind
abbrev Ext:=FuncId→Option (List PV→UP→Option (PV×UP))
def kG (mt:Hints) (a:List PV) (u:UP):Bool :=
 match mt.drop with
 | true=>match u with
  | []=>false
  | _::_=>a.all xT
 | false=>false
inductive Does (P:Program) (Mt:FuncId→Hints) (X:Ext):FuncId→List PV→UP→PV×UP→Prop
 | ext {f:FuncId} {g:List PV→UP→Option (PV×UP)} {a:List PV} {u:UP} {r:PV×UP} (hx:X f=some g) (h:g a u=some r):Does P Mt X f a u r
 | run {f:FuncId} {fn:Func} {a:List PV} {u:UP} {r:PV×UP} (hx:X f=none) (hd:kG (Mt f) a u=false) (hf:P.funcs[f]?=some fn) (O:Orc) (LP:cG→cG) (hO:∀ f a u r,O f a u=some r→Does P Mt X f a u r)
   (hL:aL4 LP) (hl:LLe LP aE) (h:kC P (Mt f) fn.ntmps O LP fn a u=some r):Does P Mt X f a u r
 | drop {f:FuncId} {a:List PV} {b:fM} {u u':UP} {r:PV} (hx:X f=none) (hd:kG (Mt f) a (b::u)=true) (hr:r.free=true) (h:Does P Mt X f (a.map low) u (r,u')):Does P Mt X f a (b::u) (r,b::u')
def aOZ (P:Program) (G:Mem) (X:Ext):Prop :=
 ∀ f g,X f=some g→∀ args up r up',g args up=some (r,up')→∀ n w M B vals,CallPre ⟨n,G⟩ M B args up vals w→tD P f vals w (gP ⟨n,G⟩ M B args up vals w r up')
theorem aL8 {c a b} {u:UP} (h:kG c a (b::u)=true):a.all xT=true:=by
 unfold kG at h;grind
section
variable {P : Program} {Mt : FuncId → Hints} {X : Ext}
theorem Does.sound {G} (l:POk P) (o:aOZ P G X) {f a u r} (h:Does P Mt X f a u r) :
  ∀ n w M B vals,CallPre ⟨n,G⟩ M B a u vals w→tD P f vals w (gP ⟨n,G⟩ M B a u vals w r.1 r.2):=by
 induction h with
 | ext d h=>exact o _ _ d _ _ _ _ h
 | run d g k O s p m t h i =>
  intro base w M B vals b;exact aTq (base:=⟨base,G⟩) l (fun f a u r q e base w M B vals j=>by grind) m k h b
 | drop d g e h i =>
  intro base w M B vals b;have c:=aL8 g;exact (i base w M (lZ B) vals (aXD b c)).mono fun v w' j=>aVw b c e j
theorem Does.det {f a u r} (h:Does P Mt X f a u r):∀ {e},Does P Mt X f a u e→r=e:=by
 induction h with
 | ext j h =>
  intro e d;cases d with
  | ext b l=>grind
  | run b=>grind
  | drop b=>grind
 | drop j t k h n =>
  intro e d;cases d with
  | ext b=>grind
  | run b c=>grind
  | drop b c p d =>
   grind
 | run j t C O z B D q h n =>
  intro e d;cases d with
  | ext b=>grind
  | drop b c=>grind
  | run b c m i s v o g l =>
   have w:OLe O (fun f a u=>match O f a u with | some r=>some r | none=>i f a u):=by
    intro f a u r k;grind
   have x:OLe i (fun f a u=>match O f a u with | some r=>some r | none=>i f a u):=by
    intro f a u r k;grind
   have y:=aC0 w q h;have A:=aC0 x g l;grind
open Classical in
noncomputable def OL (P:Program) (Mt:FuncId→Hints) (X:Ext):Orc:=fun f a u=>if h:∃ r,Does P Mt X f a u r then some (Classical.choose h) else none
theorem aBB {f a u r}:OL P Mt X f a u=some r↔Does P Mt X f a u r:=by
 unfold OL;constructor;· intro h;split at h;all_goals grind
 intro h;have b:∃ r,Does P Mt X f a u r:=⟨r,h⟩;rw [dif_pos b,(Classical.choose_spec b).det h]
theorem bBu {G} (b:POk P) (c:aOZ P G X):aJR P G (OL P Mt X):=fun f a u r e h base w M B vals d=>(aBB.1 h).sound b c base w M B vals d
theorem aVy {f b a u r} (c:X f=none) (g:kG (Mt f) a u=false) (e:P.funcs[f]?=some b) (h:kC P (Mt f) b.ntmps (OL P Mt X) aE b a u=some r):OL P Mt X f a u=some r :=
 aBB.2 (.run c g e _ _ (fun _ _ _ _ d=>aBB.1 d) aTs aE6 h)
theorem tF {f a b} {u c:UP} {r} (d:X f=none) (g:kG (Mt f) a (b::u)=true) (e:r.free=true) (h:OL P Mt X f (a.map low) u=some (r,c)):OL P Mt X f a (b::u)=some (r,b::c) :=
 aBB.2 (.drop d g e (aBB.1 h))
theorem bBv {f g a u r} (b:X f=some g) (h:g a u=some r):OL P Mt X f a u=some r:=aBB.2 (.ext b h)
end
def bBw (O:Orc) (f:FuncId) (a:List PV):UP→Option (PV×UP)
 | []=>none
 | b::u=>bnd (O f (a.map low) u) fun r=>cnd r.1.free (some (r.1,b::r.2)) none
def runK (P:Program) (M:FuncId→Hints) (O:Orc) (n:Nat) (f:FuncId) (a:List PV) (u:UP):Option (PV×UP) :=
 match P.funcs[f]? with
 | some fn=>kC P (M f) fn.ntmps O (pD n) fn a u
 | none=>none
def aL9 (P:Program) (M:FuncId→Hints) (X:Ext):Nat→Orc
 | 0,_,_,_=>none
 | n+1,f,a,u =>
  match X f with
  | some g=>g a u
  | none =>
   match kG (M f) a u with
   | true=>bBw (aL9 P M X n) f a u
   | false=>runK P M (aL9 P M X n) n f a u
theorem aDZ {P Mt X}:∀ n f a u r,aL9 P Mt X n f a u=some r→Does P Mt X f a u r
 | 0,_,_,_,_,h=>by simp [aL9] at h
 | n+1,f,a,u,r,h=>by
  simp [aL9] at h;cases c:X f with
  | some g =>
   rw [c] at h;exact .ext c h
  | none =>
  rw [c] at h;cases d:kG (Mt f) a u with
  | true =>
   rw [d] at h;simp [bBw] at h;cases u with
   | nil=>grind
   | cons b u =>
    obtain ⟨x,i,h⟩:=aB h;rcases bA h with ⟨j,h⟩ | ⟨_,h⟩;· cases h;exact .drop c d j (aDZ n _ _ _ _ i)
    grind
  | false =>
   rw [d] at h;simp [runK] at h;split at h;· rename_i k e;exact .run c d e (aL9 P Mt X n) (pD n) (fun f a u r h=>aDZ n f a u r h) (aXB n) (aVx n) h
   grind
theorem aXE {P Mt X} n {f a u r} (h:aL9 P Mt X n f a u=some r):OL P Mt X f a u=some r:=aBB.2 (aDZ n f a u r h)
def memW (W:World):Mem:=fun b i =>
 match W.heap[b]? with
 | some (.cells arr _ _)=>arr[i]?
 | _=>none
theorem aVz W:Cons (memW W) W:=by
 intro b i v h;unfold memW at h;grind
structure ArgsOk (W:World) (args:List PV) (vals:Array Value):Prop where
 size:vals.size=args.length
 rel:∀ (i:Nat) (p:PV),args[i]?=some p→Rv (memW W) noB p (vals.getD i undef)∧dU p (vals.getD i undef)
theorem bBx {G W args vals} (d:∀ b i v,G b i=some v→memW W b i=some v) (h:ArgsOk W args vals):CallPre ⟨W.heap.size,G⟩ (memW W) noB args [] vals W:=by
 refine ⟨aVz W,h.size,?_,⟨by simp,fun _ _ _=>rfl,by simp [qQ],by simp [noB]⟩,?_,d,Nat.le_refl _⟩;· intro i p f;obtain ⟨g,e⟩:=h.rel i p f;rw [aGu];exact ⟨g,e.h _ _ _ _⟩
 intro b;have:cA args vals b=0:=by
  apply iG;intro i a;have:=(h.rel i _ (List.getElem?_eq_getElem a)).2.c b;grind
 have:cBx W noB [] b=0:=rfl;omega
theorem aO0 {P Mt X G} (t : POk P) (B : aOZ P G X) {f m} (w : P.funcs[f]? = some m) (E : m.body.isSome = true) {W args vals}
  (x : ∀ b i v, G b i = some v → memW W b i = some v) (h : ArgsOk W args vals) {b} (C : OL P Mt X f args [] = some (.bool b, [])) :
  Calls P f vals W fun e w' => e = .returned (.bool b) ∧ RowKit.Below W.heap.size W w' := by
 have j := bBx x h;have p := bBu (Mt := Mt) t B f args [] _ _ C W.heap.size W (memW W) noB vals j;have q : (callFunc f vals).run P W = .ok (.enter f vals) W := by
  have I := t.name f m w E;have r : ¬ m.name = "runtime.NumGoroutine" := by grind
  cases o : m.body with
  | none => grind
  | some c => simp [callFunc, w, r, o]
 have s : ∀ v w', gP ⟨W.heap.size, G⟩ (memW W) noB args [] vals W (.bool b) [] v w' → v = .bool b ∧ RowKit.Below W.heap.size W w' := by
  rintro v w' ⟨M', D, F, y, J, u, a⟩;refine ⟨D.bool_inv, a.os, a.tape, a.output, a.size, fun k A => (a.keep k A ?_).1⟩;rintro (l | ⟨d, id, n⟩)
  ·have H : cA args vals k = 0 := by
    apply iG;intro i p;have := (h.rel i _ (List.getElem?_eq_getElem p)).2.c k;grind
   have z : 1 ≤ cA args vals k + cBx W noB [] k := l;have : cBx W noB [] k = 0 := rfl;omega
  simp [noB] at n
 rcases p with ⟨g, gs, l, n⟩ | ⟨v, w', l, n⟩;· rw [q] at l;cases l;refine n.mono ?_;grind
 grind
inductive Ty where
 | bool
 | int (k:IntKind)
 | str
 | sl (e:Ty)
 | st (fs:Ty)
 | fnil
 | fcons (t r:Ty)
 | ext (i:Nat)
structure RecTy where
 D:Type
 en:D→PV
 sz:Nat
 bk:D→Nat
 gd:D→Prop
 wf:∀ x,(en x).cells.length=sz∧(∀ c∈(en x).cells,c.solid1=true∧c.plain1=c)∧(en x).solid=true∧(en x).plain=en x
abbrev REnv:=Nat→RecTy
@[reducible] def Ty.den (ρ:REnv):Ty→Type
 | .bool=>Bool
 | .int _=>Int
 | .str=>List UInt8
 | .sl e=>List (e.den ρ)
 | .st fs=>fs.den ρ
 | .fnil=>Unit
 | .fcons t r=>t.den ρ×r.den ρ
 | .ext i=>(ρ i).D
def enc ρ:(t:Ty)→t.den ρ→PV
 | .bool,b => .bool b
 | .int k,n => .int k n
 | .str,s => .str s
 | .sl e,l => .slice (l.map (enc ρ e)) [] false
 | .st fs,x=>enc ρ fs x
 | .fnil,_ => .agg []
 | .fcons t r,x => .agg ((enc ρ t x.1).cells++(enc ρ r x.2).cells)
 | .ext i,x=>(ρ i).en x
def Ty.size (ρ:REnv):Ty→Nat
 | .bool | .int _ | .str | .sl _=>1
 | .st fs=>fs.size ρ
 | .fnil=>0
 | .fcons t r=>t.size ρ+r.size ρ
 | .ext i=>(ρ i).sz
def bulk ρ:(t:Ty)→t.den ρ→Nat
 | .bool,_=>1
 | .int _,_=>1
 | .str,s=>s.length+1
 | .sl e,l=>sumL (bulk ρ e) l+1
 | .st fs,x=>bulk ρ fs x+1
 | .fnil,_=>0
 | .fcons t r,x=>bulk ρ t x.1+bulk ρ r x.2
 | .ext i,x=>(ρ i).bk x
def good ρ:(t:Ty)→t.den ρ→Prop
 | .bool,_=>True
 | .int k,n=>(Lit.int k n).wf=true
 | .str,_=>True
 | .sl e,l=>∀ x∈l,good ρ e x
 | .st fs,x=>good ρ fs x
 | .fnil,_=>True
 | .fcons t r,x=>good ρ t x.1∧good ρ r x.2
 | .ext i,x=>(ρ i).gd x
theorem jU ρ:∀ t x,(enc ρ t x).cells.length=t.size ρ∧(∀ c∈(enc ρ t x).cells,c.solid1=true∧c.plain1=c)∧(enc ρ t x).solid=true∧(enc ρ t x).plain=enc ρ t x
 | .bool,b=>⟨rfl,by intro c a;simp [enc,cells] at a;subst a;exact ⟨rfl,rfl⟩,rfl,rfl⟩
 | .int k,n=>⟨rfl,by intro c a;simp [enc,cells] at a;subst a;exact ⟨rfl,rfl⟩,rfl,rfl⟩
 | .str,s=>⟨rfl,by intro c a;simp [enc,cells] at a;subst a;exact ⟨rfl,rfl⟩,rfl,rfl⟩
 | .sl e,l=>⟨rfl,by intro c a;simp [enc,cells] at a;subst a;exact ⟨rfl,rfl⟩,rfl,rfl⟩
 | .st fs,x=>jU ρ fs x
 | .fnil,_=>⟨rfl,by intro c a;simp [enc,cells] at a,rfl,rfl⟩
 | .ext i,x=>(ρ i).wf x
 | .fcons t r,x=>by
  obtain ⟨h,g,_,_⟩:=jU ρ t x.1;obtain ⟨f,d,_,_⟩:=jU ρ r x.2;have key:∀ c∈(enc ρ t x.1).cells++(enc ρ r x.2).cells,c.solid1=true∧c.plain1=c:=by
   grind
  refine ⟨?_,key,?_,?_⟩;· show ((enc ρ t x.1).cells++(enc ρ r x.2).cells).length=t.size ρ+r.size ρ;grind
  ·simp [enc,PV.solid];grind
  simp [enc,PV.plain,PV.plainA];apply List.ext_getElem?;grind
def flds (ρ:REnv) (P:Program) (ok:TypeId→Ty→Bool):List Field→Nat→Ty→Bool
 | [],_,.fnil=>true
 | f::F,off,.fcons t r=>f.offset==off&&P.cellsOf f.type==t.size ρ&&ok f.type t&&flds ρ P ok F (off+t.size ρ) r
 | _,_,_=>false
def tyOk (ρ:REnv) (τ:Nat→TypeId) (P:Program):Nat→TypeId→Ty→Bool
 | 0,_,_=>false
 | n+1,t,ty =>
  match ty,P.underlying t with
  | .bool,some .bool=>true
  | .int k,some (.int k')=>decide (k=k')
  | .str,some .string=>true
  | .sl e,some (.slice u)=>tyOk ρ τ P n u e&&P.cellsOf u==e.size ρ&&decide (0<e.size ρ)
  | .st fs,some (.struct F)=>P.cellsOf t==fs.size ρ&&flds ρ P (tyOk ρ τ P n) F.toList 0 fs
  | .ext i,_=>t==τ i
  | _,_=>false
structure BlOk {H:Type} (bl:DataW H→Nat) (bla:List (DataW H)→Nat):Prop where
 lit:∀ l,1≤bl (.lit l)
 str:∀ s,s.length+1≤bl (.lit (.string s))
 nil:1≤bl .nil
 slice:∀ es sp,bla es+1≤bl (.slice es sp)
 agg:∀ ps,bla ps+1≤bl (.agg ps)
 cons:∀ d r,bla (d::r)=bl d+bla r
theorem cells?_get {W:World} {a n cs} (h:W.cells? 0 a n=some cs):cs.length=n∧∀ j,j<n→W.cell? (a.add j)=some (cs.getD j undef):=by
 have b  := by simpa using Go.mapM_some_length h
 refine ⟨b,fun j c => ?_⟩;have:=Go.mapM_some_get h j j (by grind);grind
theorem aRL {W a v} (h:W.cell? a=some v):a.spot=none∧memW W a.block a.off=some v:=by
 unfold World.cell? at h;unfold memW;split at h;all_goals simp_all
section
variable {ρ : REnv} {τ : Nat → TypeId} {H : Type} {e : TypeId × Value → H} {P : Program} {W : World} {bl : DataW H → Nat} {bla : List (DataW H) → Nat}
def aVA (ρ:REnv) (e:TypeId×Value→H) (P:Program) (W:World) (bl:DataW H→Nat) (k:Nat) (t:TypeId) (ty:Ty):Prop :=
 ∀ fuel,fuel≤k→∀ cs x,DataW.trod e P W 0 (fun _=>true) true fuel t cs=some x →
 ∃ v,good ρ ty v∧bulk ρ ty v≤bl x.1∧cs.length=ty.size ρ∧∀ j c,(enc ρ ty v).cells[j]?=some c→Rv (memW W) noB c (cs.getD j undef)
theorem aGI (p:BlOk bl bla) {n} {cs:List Value} {k} (o:∀ t ty,tyOk ρ τ P n t ty=true→aVA ρ e P W bl k t ty):∀ F off fs a (xs:List (DataW H×List MemPlace)),a≤k→flds ρ P (tyOk ρ τ P n) F off fs=true→xs.length=F.length →
  (∀ (i:Nat) f,F[i]?=some f→DataW.trod e P W 0 (fun _=>true) true a f.type ((cs.drop f.offset).take (P.cellsOf f.type))=xs[i]?) →
  ∃ v,good ρ fs v∧bulk ρ fs v≤bla (xs.map (·.1))∧∀ j c,(enc ρ fs v).cells[j]?=some c→Rv (memW W) noB c (cs.getD (off+j) undef)
 | [],off,fs,a,xs,b,h,w,d=>by
  cases fs with
  | fnil=>exact ⟨(),trivial,Nat.zero_le _,by intro j c g;simp [enc,cells] at g⟩
  | _=>simp [flds] at h
 | f::F,off,fs,a,xs,b,h,w,d=>by
  cases fs with
  | fcons t r =>
   simp [flds] at h;obtain ⟨⟨⟨E,I⟩,y⟩,u⟩:=h;cases xs with
   | nil=>grind
   | cons x xs =>
    have z:=d 0 f rfl;obtain ⟨l,g1,B,J,D⟩:=o _ _ y _ b _ _ z;obtain ⟨m,g2,A,C⟩:=aGI p o F (off+t.size ρ) r a xs b u (by grind) (fun i f' G=>by
     have:=d (i+1) f' (by grind);simpa using this)
    refine ⟨(l,m),⟨g1,g2⟩,?_,?_⟩;· simp [p.cons,bulk];omega
    intro j c g;have s:((enc ρ t l).cells++(enc ρ r m).cells)[j]?=some c:=g;have q:=(jU ρ t l).1;grind
  | _=>simp [flds] at h
end
section
variable {ρ : REnv} {τ : Nat → TypeId} {H : Type} {e : TypeId × Value → H} {P : Program} {W : World} {bl : DataW H → Nat} {bla : List (DataW H) → Nat}
theorem aVB (a:BlOk bl bla):∀ l,sumL bl l≤bla l
 | []=>by simp [sumL]
 | d::l=>by simp [sumL,a.cons];have:=aVB a l;omega
theorem aMa {α β} (f:α→Nat) (g:β→Nat):∀ l m,l.length=m.length→(∀ (i:Nat) x y,l[i]?=some x→m[i]?=some y→f x≤g y)→sumL f l≤sumL g m
 | [],[],_,_=>Nat.le_refl _
 | [],_::_,h,_=>by grind
 | _::_,[],h,_=>by grind
 | a::l,b::m,h,c=>by
  simp [sumL];have:=c 0 a b rfl rfl;have:=aMa f g l m (by grind) (fun i x y e d=>c (i+1) x y (by grind) (by grind));omega
theorem aJ0 (hb : BlOk bl bla) {k} (hρ : ∀ i, aVA ρ e P W bl k (τ i) (.ext i)) : ∀ n t ty, tyOk ρ τ P n t ty = true → aVA ρ e P W bl k t ty
 | 0, t, ty, h => by simp [tyOk] at h
 | n + 1, t, ty, h => by
  intro fuel d cs x hx;simp only [tyOk] at h;split at h
  ·rename_i ht;obtain ⟨b, rfl, rfl⟩ := DataW.trod_bool ht hx;refine ⟨b, trivial, hb.lit _, rfl, ?_⟩;intro j c hc;cases j with
   | zero => simp [enc, cells] at hc; subst hc; exact .bool b
   | succ j => simp [enc, cells] at hc
  ·rename_i k k' ht;have X : k = k' := by grind
   subst X;obtain ⟨m, rfl, rfl, K⟩ := DataW.trod_int ht hx;refine ⟨m, K, hb.lit _, rfl, ?_⟩;intro j c hc;cases j with
   | zero => simp [enc, cells] at hc; subst hc; exact .int k m
   | succ j => simp [enc, cells] at hc
  ·rename_i ht;obtain ⟨s, rfl, rfl, T⟩ := DataW.trod_string ht hx;refine ⟨s.data.toList, trivial, hb.str _, rfl, ?_⟩;intro j c hc;cases j with
   | zero =>
    simp [enc, cells] at hc; subst hc;have := Rv.str (M := memW W) (B := noB) s.data.toList;simpa using this
   | succ j => simp [enc, cells] at hc
  ·-- a slice
   rename_i ey u ht;simp only [Bool.and_eq_true, beq_iff_eq, decide_eq_true_eq] at h;obtain ⟨⟨h1, h2⟩, J⟩ := h;have V := aJ0 hb hρ n u ey h1;rcases DataW.trod_slice ht hx with ⟨rfl, rfl⟩ | ⟨a, len, cap, elems, rest, m, A, rfl, rfl, _, o, _, w, hget, hsp, _⟩
   ·refine ⟨[], by intro x hx; simp at hx, by simp [bulk, sumL]; exact hb.nil, rfl, ?_⟩;intro j c hc;cases j with
    | zero => simp [enc, cells] at hc; subst hc; exact .nil false
    | succ j => simp [enc, cells] at hc
   rw [h2] at hget hsp;have key : ∀ i, i < len → ∃ (v : ey.den ρ), good ρ ey v ∧ (∀ y, elems[i]? = some y → bulk ρ ey v ≤ bl y.1) ∧ ∀ j c, (enc ρ ey v).cells[j]? = some c → ∃ val, W.cell? ((a.add (i * (ey.size ρ))).add j) = some val ∧ Rv (memW W) noB c val := by
    intro i hi;have hg := hget i hi;obtain ⟨y, I⟩ : ∃ y, elems[i]? = some y := ⟨elems[i], by simp⟩;rw [I] at hg;cases hc : W.cells? 0 (a.add (i * (ey.size ρ))) (ey.size ρ) with
    | none => rw [hc] at hg; simp at hg
    | some cs' =>
     rw [hc] at hg;simp [Option.bind_some] at hg;obtain ⟨v, g, b, l, r⟩ := V _ (by omega) _ _ hg;obtain ⟨c1, E⟩ := cells?_get hc;refine ⟨v, g, fun y' hy' => by rw [I] at hy'; cases hy'; exact b, fun j c hj => ?_⟩;have hjl : j < (ey.size ρ) := by rw [← (jU ρ ey v).1]; exact (List.getElem?_eq_some_iff.1 hj).1
     exact ⟨_, E j hjl, r j c hj⟩
   have hspot : 0 < cap → a.spot = none := by
    intro G;have first : (∃ cs', W.cells? 0 (a.add (0 * (ey.size ρ))) (ey.size ρ) = some cs') := by
     by_cases S : 0 < len
     ·have hg := hget 0 S;cases hc : W.cells? 0 (a.add (0 * (ey.size ρ))) (ey.size ρ) with
      | some cs' => exact ⟨cs', rfl⟩
      | none =>
       rw [hc] at hg;have : elems[0]? = some elems[0] := by simp
       rw [this] at hg; simp at hg
     obtain ⟨L, C⟩ := hsp rfl;have z : len = 0 := by omega
     subst z;have hg := C 0 (by omega);cases hc : W.cells? 0 (a.add (0 * (ey.size ρ))) (ey.size ρ) with
     | some cs' => exact ⟨cs', rfl⟩
     | none =>
      simp only [Nat.zero_add] at hg;rw [hc] at hg;have : rest[0]? = some rest[0] := by simp
      rw [this] at hg; simp at hg
    obtain ⟨cs', hc⟩ := first;obtain ⟨_, E⟩ := cells?_get hc;have := E 0 J;simp [Nat.zero_mul, Addr.add, if_true] at this;exact (aRL this).1
   refine ⟨List.ofFn fun i : Fin len => Classical.choose (key i.1 i.2), ?_, ?_, rfl, ?_⟩
   ·intro x hx;obtain ⟨i, hi⟩ := List.mem_iff_getElem?.1 hx;rw [List.getElem?_ofFn] at hi;split at hi;· rename_i hlt; cases hi; exact (Classical.choose_spec (key i hlt)).1
    simp at hi
   ·have T : sumL (bulk ρ ey) (List.ofFn fun i : Fin len => Classical.choose (key i.1 i.2)) ≤ sumL (fun y : DataW H × List MemPlace => bl y.1) elems := by
     refine aMa _ _ _ _ (by simp [w]) fun i x y h1 h2 => ?_;rw [List.getElem?_ofFn] at h1;split at h1;· rename_i hi;cases h1;exact by grind
     simp at h1
    have D := aVB hb (elems.map (·.1));rw [aFT] at D;have R := hb.slice (elems.map (·.1)) (rest.map (·.1));simp only [bulk];omega
   intro j c hc;cases j with
   | succ j => simp [enc, cells] at hc
   | zero =>
    simp only [enc, cells, List.getElem?_cons_zero, Option.some.injEq] at hc;subst hc;have hlen : ((List.ofFn fun i  => Classical.choose (key i.1 i.2)).map (enc ρ ey)).length = len := by simp
    have hat : ∀ i p, ((List.ofFn fun i  => Classical.choose (key i.1 i.2)).map (enc ρ ey) ++ [])[i]? = some p → ∃ hi, p = enc ρ ey (Classical.choose (key i hi)) := by
     intro i p hp;rw [List.append_nil, List.getElem?_map, List.getElem?_ofFn] at hp;split at hp;· rename_i hi; simp only [Option.map_some, Option.some.injEq] at hp; exact ⟨hi, hp.symm⟩
     simp at hp
    have cell : ∀ i hi j c, (enc ρ ey (Classical.choose (key i hi))).cells[j]? = some c → ∃ val, memW W a.block (a.off + i * (ey.size ρ) + j) = some val ∧ Rv (memW W) noB c val := by
     intro i hi j c hc;obtain ⟨val, h1, h2⟩ := (Classical.choose_spec (key i hi)).2.2 j c hc;have hsp0 := hspot (by omega);have O : (a.add (i * (ey.size ρ))).add j = ⟨a.block, a.off + i * (ey.size ρ) + j, none⟩ := by
      rw [Addr.add_none a _ hsp0, Addr.add_none _ _ rfl]
     rw [O] at h1;exact ⟨val, (aRL h1).2, h2⟩
    have := Rv.slice (M := memW W) (B := noB) ((List.ofFn fun i  => Classical.choose (key i.1 i.2)).map (enc ρ ey)) [] false a cap (ey.size ρ) (fun i j => (memW W a.block (a.off + i * (ey.size ρ) + j)).getD undef) hspot
     (by rw [hlen]; simpa using o) (by simp) (fun i p hp => by
      obtain ⟨hi, rfl⟩ := hat i p hp;obtain ⟨U, Z, Q, N⟩ := jU ρ ey (Classical.choose (key i hi));exact ⟨Q, N, U, J⟩) (fun i p j hp hj => by
      obtain ⟨hi, rfl⟩ := hat i p hp;have hjl : j < (enc ρ ey (Classical.choose (key i hi))).cells.length := by rw [(jU ρ ey _).1]; exact hj
      obtain ⟨val, h1, h2⟩ := cell i hi j _ (List.getElem?_eq_getElem hjl);rw [h1]; rfl) (fun i p j c hp hc => by
      obtain ⟨hi, rfl⟩ := hat i p hp;obtain ⟨val, h1, h2⟩ := cell i hi j c hc;rw [h1]; exact h2)
    rw [hlen] at this;exact this
  ·-- a struct
   rename_i fs F ht;simp at h;obtain ⟨xs, m, A, rfl, hlen, q, hget⟩ := DataW.trod_struct ht hx;obtain ⟨v, g, b, r⟩ := aGI hb (k := k) (fun t ty h => aJ0 hb hρ n t ty h) F.toList 0 fs m xs (by omega) h.2 (by simpa using q) (fun i f Y => hget i f (by simpa using Y));refine ⟨v, g, ?_, by rw [hlen]; exact h.1, fun j c hc => by simpa using r j c hc⟩;have := hb.agg (xs.map (·.1));simp [bulk]; omega
  ·rename_i i;have  := by simpa using h
   subst this;exact hρ i fuel d cs x hx
  simp at h
end
open PV Go.ChangeShapes Go.WideShapes Go.RowKit
def encL ρ:(fs:Ty)→fs.den ρ→List PV
 | .fcons t r,x=>enc ρ t x.1::encL ρ r x.2
 | .bool,_=>[]
 | .int _,_=>[]
 | .str,_=>[]
 | .sl _,_=>[]
 | .st _,_=>[]
 | .fnil,_=>[]
 | .ext _,_=>[]
def aTt ρ:(fs:Ty)→fs.den ρ→Nat
 | .fcons t r,x=>bulk ρ t x.1+aTt ρ r x.2
 | .bool,_=>0
 | .int _,_=>0
 | .str,_=>0
 | .sl _,_=>0
 | .st _,_=>0
 | .fnil,_=>0
 | .ext _,_=>0
def aBe (ρ:REnv) (τ:Nat→TypeId) (P:Program) (n:Nat):List TypeId→Ty→Bool
 | [],.fnil=>true
 | t::ts,.fcons ty r=>tyOk ρ τ P n t ty&&P.readableRec t&&decide (t<P.types.size)&&aBe ρ τ P n ts r
 | _,_=>false
section
variable {ρ : REnv} {τ : Nat → TypeId} {H : Type} {e : TypeId × Value → H} {P : Program} {W : World} {bl : DataW H → Nat} {bla : List (DataW H) → Nat}
structure ROk (ρ:REnv) (τ:Nat→TypeId) (e:TypeId×Value→H) (P:Program) (W:World) (bl:DataW H→Nat):Prop where
 op:∀ k i,aVA ρ e P W bl k (τ i) (.ext i)
 ag:∀ i x,∃ ps,(ρ i).en x = .agg ps
 st:∀ i,∃ F,P.underlying (τ i)=some (.struct F)
theorem aXF (L:BlOk bl bla) (w:ROk ρ τ e P W bl) {n t ty} (h:tyOk ρ τ P n t ty=true) {v d ps M} (f:Value.okWide P W .any M t v)
  (H:DataW.Trod e P W 0 (fun _=>true) true t v d ps):∃ x,good ρ ty x∧bulk ρ ty x≤bl d∧Rv (memW W) noB (enc ρ ty x) v:=by
 obtain ⟨s,K⟩:=H;obtain ⟨x,g,b,l,r⟩:=aJ0 L (w.op s) n t ty h s (by omega) _ _ K;refine ⟨x,g,b,?_⟩;cases n with
 | zero=>simp [tyOk] at h
 | succ n =>
  simp [tyOk] at h;have o:∀ p,enc ρ ty x=p→p.cells=[p]→ty.size ρ=1→(∀ cs,v ≠ .agg cs)→Rv (memW W) noB (enc ρ ty x) v:=by
   intro p R D Q hv;have I:v.cells = #[v]:=by cases v<;>first | rfl | grind
   have:=r 0 p (by grind);grind
  have agg:∀ a,enc ρ ty x = .agg a→∀ cs,v = .agg cs→Rv (memW W) noB (enc ρ ty x) v:=by
   intro a j cs hv;subst hv;have y:=(jU ρ ty x).1;have q:(enc ρ ty x).cells=a:=by rw [j];rfl
   rw [q] at y r;rw [j];have A:cs.size=a.length:=by
    have:(Value.agg cs).cells.toList.length=cs.size:=by simp [Value.cells]
    omega
   refine .agg a cs (fun i=>cs.getD i undef) A (fun i O=>by simp_all) fun i c D => ?_;have:=r i c D;have N:(Value.agg cs).cells.toList.getD i undef=cs.getD i undef:=by simp [Value.cells]
   grind
  split at h;· rename_i m;refine o (.bool x) rfl rfl rfl ?_;rintro cs rfl;simp [Value.okWide,m,Cell.okWide,Cell.ok] at f
  ·rename_i k k' m;refine o (.int k x) rfl rfl rfl ?_;rintro cs rfl;simp [Value.okWide,m,Cell.okWide,Cell.ok] at f
  ·rename_i m;refine o (.str x) rfl rfl rfl ?_;rintro cs rfl;simp [Value.okWide,m,Cell.okWide,Cell.ok] at f
  ·rename_i G u m;refine o (.slice (x.map (enc ρ G)) [] false) rfl rfl rfl ?_;rintro cs rfl;simp [Value.okWide,m,Cell.okWide,Cell.ok] at f
  ·rename_i fs F m;simp [Value.okWide,m] at f;obtain ⟨cs,rfl,z,_⟩:=f;have B:∃ ps,enc ρ fs x = .agg ps:=by
    have E:=h;cases fs with
    | fnil=>exact ⟨_,rfl⟩
    | fcons t r=>exact ⟨_,rfl⟩
    | _=>cases J:F.toList<;>rw [J] at E<;>simp [flds] at E
   obtain ⟨a,j⟩:=B;exact agg a j cs rfl
  ·rename_i i;have C:t=τ i:=by grind
   subst C;obtain ⟨F,m⟩:=w.st i;simp [Value.okWide,m] at f;obtain ⟨cs,rfl,z,_⟩:=f;obtain ⟨a,j⟩:=w.ag i x;exact agg a j cs rfl
  grind
end
section
variable {ρ : REnv} {τ : Nat → TypeId} {H : Type} {e : TypeId × Value → H} {P : Program} {W : World} {bl : DataW H → Nat} {bla : List (DataW H) → Nat}
theorem aMb (z:BlOk bl bla) (k:ROk ρ τ e P W bl) {n F}:∀ f fs vs ds ps,aBe ρ τ P n f fs=true →
  (∀ (j:Nat) t v,f[j]?=some t→vs[j]?=some v→Value.okWide P W .any F t v)→DataW.TrodAll e P W 0 (fun _=>true) true f vs ds ps →
  ∃ x,good ρ fs x∧aTt ρ fs x≤bla ds∧vs.length=(encL ρ fs x).length∧∀ (i:Nat) p,(encL ρ fs x)[i]?=some p→∃ v,vs[i]?=some v∧Rv (memW W) noB p v∧p.plain=p
 | [],fs,vs,ds,ps,h,a,m=>by
  cases fs with
  | fnil =>
   obtain ⟨rfl,rfl,rfl⟩:=trodAll_nil m;exact ⟨(),trivial,Nat.zero_le _,rfl,by intro i p H;simp [encL] at H⟩
  | _=>simp [aBe] at h
 | t::f,fs,vs,ds,ps,h,a,m=>by
  cases fs with
  | fcons ty r =>
   simp [aBe] at h;obtain ⟨⟨⟨A,_⟩,_⟩,D⟩:=h;obtain ⟨v,s,d,o,p,q,rfl,rfl,rfl,l,u⟩:=trodAll_cons m;obtain ⟨x,g,b,C⟩:=aXF z k A (a 0 t v rfl rfl) l;obtain ⟨y,g2,I,G,J⟩:=aMb z k f r s o q D (fun j B E A K=>a (j+1) B E (by grind) (by grind)) u;refine ⟨(x,y),⟨g,g2⟩,?_,?_,?_⟩;· simp [aTt,z.cons];omega
   ·simp [encL,G]
   intro i c w;cases i with
   | zero=>simp [encL] at w;subst w;exact ⟨v,rfl,C,(jU ρ ty x).2.2.2⟩
   | succ i=>simp [encL] at w;grind
  | _=>simp [aBe] at h
end
section
variable {ρ : REnv} {τ : Nat → TypeId} {H : Type} {e : TypeId × Value → H} {P : Program} {bl : DataW H → Nat} {bla : List (DataW H) → Nat}
theorem aC1 (o:laidOutB P=true) {n W l} (m:RowKit.Below W.heap.size W l):∀ a fs vs ds ps,aBe ρ τ P n a fs=true →
  DataW.TrodAll e P W 0 (fun _=>true) true a vs ds ps→(∀ x∈ps,x.block<W.heap.size)→DataW.TrodAll e P l 0 (fun b=>decide (b<W.heap.size)) true a vs ds ps
 | [],fs,vs,ds,ps,h,k,j=>by
  obtain ⟨rfl,rfl,rfl⟩:=trodAll_nil k;exact trodAll_mk0
 | t::a,fs,vs,ds,ps,h,k,j=>by
  cases fs with
  | fcons ty r =>
   simp [aBe] at h;obtain ⟨⟨⟨z,y⟩,u⟩,w⟩:=h;obtain ⟨v,g,d,c,p,q,rfl,rfl,rfl,i,f⟩:=trodAll_cons k;refine ⟨p,q,Below.trod o y u i m (fun x s=>by grind),aC1 o m a r g c q w f (fun x s=>by grind),rfl⟩
  | _=>simp [aBe] at h
theorem aJ1 (C:POk P) {Mt X G} (r:aOZ P G X) (hlaid:laidOutB P=true) (w:BlOk bl bla) {f fn} (E:P.funcs[f]?=some fn) (hbody:fn.body.isSome=true)
  {n fs} (hpars:aBe ρ τ P n fn.params.toList fs=true) {tb} (hres:fn.resultTypes.toList=[tb]) (htb:P.underlying tb=some .bool) {s:ChangeSpec} (hvars:s.vars=[])
  {W} (k:∀ b i v,G b i=some v→memW W b i=some v) {z args ds gs before}
  (hρ:ROk ρ τ e P W bl) (hs:(s.fn H (ds++gs)).results=[.lit (.bool true)]∧(s.fn H (ds++gs)).args=ds∧(s.fn H (ds++gs)).vars=[])
  (hval:∀ (j:Nat) t v,fn.params[j]?=some t→args[j]?=some v→Value.okWide P W .any z t v)
  (hW:DataW.Whole e P fn.params.toList s.vars false W args.toList ds gs before) (K:bla ds≤1048576)
  (law:∀ x,good ρ fs x→aTt ρ fs x≤1048576→OL P Mt X f (encL ρ fs x) []=some (.bool true,[])) :
  Calls P f args W fun c a=>∃ v,c = .returned v∧s.post e P fn false true false false W args v a:=by
 have hW':=hW;obtain ⟨p,q,d,hV,rfl,o,D⟩:=hW;rw [hvars] at hV;obtain ⟨rfl,rfl⟩:=trodVars_none hV;obtain ⟨x,g,b,L,u⟩:=aMb w hρ _ _ _ _ _ hpars (fun j t v J M=>hval j t v (by grind) (by grind)) d;have hargs:ArgsOk W (encL ρ fs x) args:=by
  refine ⟨by omega,fun i m F => ?_⟩;obtain ⟨v,hv,B,hpl⟩:=u i m F;have l:args.getD i undef=v:=by
   simp_all
  rw [l];exact ⟨B,aT hpl⟩
 refine (aO0 C r E hbody k hargs (law x g (by omega))).mono ?_;rintro c a ⟨rfl,hbel⟩;refine ⟨_,rfl,ds,[],p++[],[],p,[],hW',?_,?_,?_,?_,fun h=>by grind⟩
 ·rw [hs.1,hres];have hsz:fn.resultTypes.size=1:=by
   have:=congrArg List.length hres;omega
  rw [hsz];exact trodAll_mk1 ⟨1,by simp [Value.cells,DataW.trod,htb]⟩
 ·rw [hs.2.1];exact aC1 hlaid hbel _ _ _ _ _ hpars d (fun y I=>hW'.lt y (by grind))
 ·rw [hs.2.2,hvars];rfl
 exact hbel.frame _
theorem aJ2 (q:POk P) {Mt X} (u:aOZ P (fun _ _=>none) X) (h:laidOutB P=true) (B:BlOk bl bla) {f c} (y:P.funcs[f]?=some c) (d:c.body.isSome=true)
  {n fs} (g:aBe ρ τ P n c.params.toList fs=true) {tb} (k:c.resultTypes.toList=[tb]) (m:P.underlying tb=some .bool) {s:ChangeSpec} (b:s.vars=[])
  {W C args ds gs a}
  (l:ROk ρ τ e P W bl) (z:(s.fn H (ds++gs)).results=[.lit (.bool true)]∧(s.fn H (ds++gs)).args=ds∧(s.fn H (ds++gs)).vars=[])
  (i:∀ (j:Nat) t v,c.params[j]?=some t→args[j]?=some v→Value.okWide P W .any C t v)
  (p:DataW.Whole e P c.params.toList s.vars false W args.toList ds gs a) (r:bla ds≤1048576)
  (o:∀ x,good ρ fs x→aTt ρ fs x≤1048576→OL P Mt X f (encL ρ fs x) []=some (.bool true,[])) :
  Calls P f args W fun w A=>∃ v,w = .returned v∧s.post e P c false true false false W args v A :=
 aJ1 q u h B y d g k m b (by simp) l z i p r o
end
inductive Sh where
 | bool
 | int (k:IntKind)
 | str
 | sl (own:Bool)
 | slb (own:Bool)
 | agg (fs:List Sh)
 | tup (fs:List Sh)
 | ref (s:Sh)
 | ptr (d id off:Nat)
 | ptx (d id:Nat)
 | rsl (d id sz:Nat)
 | vec (sz:Nat)
 | nilptr
 | func (f:FuncId) (fs cs:List Sh)
 | bot
 | any
def aV:PV→Bool
 | .bool b=>b
 | _=>false
def intV:PV→Int
 | .int _ n=>n
 | _=>0
def strV:PV→List UInt8
 | .str s=>s
 | _=>[]
def esV:PV→List PV
 | .slice es _ _=>es
 | _=>[]
def bsV:PV→List PV
 | .slice _ bs _=>bs
 | _=>[]
def aggV:PV→List PV
 | .agg cs=>cs
 | _=>[]
def tupV:PV→List PV
 | .tuple cs=>cs
 | _=>[]
def refV:PV→PV
 | .ref v=>v
 | v=>v
def fstV:PV→List PV
 | .func _ a _=>a
 | _=>[]
def capV:PV→List PV
 | .func _ _ b=>b
 | _=>[]
def offV:PV→Nat
 | .ptr _ _ o=>o
 | _=>0
def rlnV:PV→Nat
 | .rsl _ _ n _=>n
 | _=>0
def vecV:PV→List PV
 | .vec _ E=>E
 | _=>[]
mutual
def chk:Sh→PV→Bool
 | .bool,.bool _=>true
 | .int k,.int k' _=>decide (k=k')
 | .str,.str _=>true
 | .sl o,.slice _ [] o'=>o==o'
 | .slb o,.slice _ _ o'=>o==o'
 | .agg fs,.agg cs=>chkL fs cs
 | .tup fs,.tuple cs=>chkL fs cs
 | .ref s,.ref v=>chk s v
 | .ptr d i o,.ptr d' i' o'=>Nat.beq d d'&&Nat.beq i i'&&Nat.beq o o'
 | .ptx d i,.ptr d' i' _=>Nat.beq d d'&&Nat.beq i i'
 | .rsl d i s,.rsl d' i' _ s'=>Nat.beq d d'&&Nat.beq i i'&&Nat.beq s s'
 | .vec s,.vec s' _=>Nat.beq s s'
 | .nilptr,.nilptr=>true
 | .func f a b,.func (.func g) a' b'=>Nat.beq f g&&chkL a a'&&chkL b b'
 | .bot,.bot=>true
 | .any,_=>true
 | _,_=>false
def chkL:List Sh→List PV→Bool
 | [],[]=>true
 | s::ss,c::cs=>chk s c&&chkL ss cs
 | _,_=>false
end
mutual
def norm:Sh→PV→PV
 | .bool,v => .bool (aV v)
 | .int k,v => .int k (intV v)
 | .str,v => .str (strV v)
 | .sl o,v => .slice (esV v) [] o
 | .slb o,v => .slice (esV v) (bsV v) o
 | .agg fs,v => .agg (aGJ fs (aggV v) 0)
 | .tup fs,v => .tuple (aGJ fs (tupV v) 0)
 | .ref s,v => .ref (norm s (refV v))
 | .ptr d i o,_ => .ptr d i o
 | .ptx d i,v => .ptr d i (offV v)
 | .rsl d i s,v => .rsl d i (rlnV v) s
 | .vec s,v => .vec s (vecV v)
 | .nilptr,_ => .nilptr
 | .func f a b,v => .func (.func f) (aGJ a (fstV v) 0) (aGJ b (capV v) 0)
 | .bot,_ => .bot
 | .any,v=>v
def aGJ:List Sh→List PV→Nat→List PV
 | [],_,_=>[]
 | s::ss,cs,i=>norm s (gt cs i)::aGJ ss cs (i+1)
end
mutual
theorem aO1:∀ (s:Sh) (v:PV),chk s v=true→norm s v=v
 | .bool,v,h=>by cases v<;>simp_all [chk,norm,aV]
 | .int k,v,h=>by cases v<;>simp_all [chk,norm,intV]
 | .str,v,h=>by cases v<;>simp_all [chk,norm,strV]
 | .sl o,v,h=>by
  cases v with
  | slice es u r=>cases u<;>simp_all [chk,norm,esV]
  | _=>simp_all [chk]
 | .slb o,v,h=>by cases v<;>simp_all [chk,norm,esV,bsV]
 | .agg fs,v,h=>by
  cases v with
  | agg cs =>
   simp [chk] at h;simp only [norm,aggV];exact congrArg PV.agg (aAt fs cs [] h)
  | _=>simp_all [chk]
 | .tup fs,v,h=>by
  cases v with
  | tuple cs =>
   simp [chk] at h;simp only [norm,tupV];exact congrArg PV.tuple (aAt fs cs [] h)
  | _=>simp_all [chk]
 | .ref s,v,h=>by
  cases v with
  | ref v=>simp [chk] at h;simp [norm,refV,aO1 s v h]
  | _=>simp_all [chk]
 | .ptr d i o,v,h=>by
  cases v with
  | ptr p q r =>
   simp only [chk,Bool.and_eq_true] at h;obtain ⟨⟨j,e⟩,m⟩:=h;cases Nat.eq_of_beq_eq_true j;cases Nat.eq_of_beq_eq_true e;cases Nat.eq_of_beq_eq_true m;rfl
  | _=>simp_all [chk]
 | .ptx d i,v,h=>by
  cases v with
  | ptr p q r =>
   simp only [chk,Bool.and_eq_true] at h;obtain ⟨j,e⟩:=h;cases Nat.eq_of_beq_eq_true j;cases Nat.eq_of_beq_eq_true e;rfl
  | _=>simp_all [chk]
 | .rsl d i s,v,h=>by
  cases v with
  | rsl p q n s' =>
   simp only [chk,Bool.and_eq_true] at h;obtain ⟨⟨j,e⟩,m⟩:=h;cases Nat.eq_of_beq_eq_true j;cases Nat.eq_of_beq_eq_true e;cases Nat.eq_of_beq_eq_true m;rfl
  | _=>simp_all [chk]
 | .vec s,v,h=>by
  cases v with
  | vec s' E =>
   cases Nat.eq_of_beq_eq_true h;rfl
  | _=>simp_all [chk]
 | .nilptr,v,h=>by cases v<;>simp_all [chk,norm]
 | .func f a b,v,h=>by
  cases v with
  | func g w b' =>
   cases g with
   | func g =>
    simp only [chk,Bool.and_eq_true] at h;obtain ⟨⟨t,j⟩,e⟩:=h;cases Nat.eq_of_beq_eq_true t;exact congr (congrArg (PV.func (.func f)) (aAt a w [] j)) (aAt b b' [] e)
   | _=>simp_all [chk]
  | _=>simp_all [chk]
 | .bot,v,h=>by cases v<;>simp_all [chk,norm]
 | .any,v,h=>rfl
theorem aAt:∀ (l:List Sh) (cs pre:List PV),chkL l cs=true→aGJ l (pre++cs) pre.length=cs
 | [],[],_,_=>rfl
 | [],_::_,_,h=>by simp [chkL] at h
 | _::_,[],_,h=>by simp [chkL] at h
 | s::l,c::cs,pre,h=>by
  simp only [chkL,Bool.and_eq_true] at h;have e:=aAt l cs (pre++[c]) h.2;simp only [List.append_assoc,List.singleton_append,List.length_append,List.length_singleton] at e;simp only [aGJ,e];have:gt (pre++c::cs) pre.length=c:=by
   rw [aBt];simp
  rw [this,aO1 s c h.1]
end
theorem aJ3 {a cs} (h:chkL a cs=true):aGJ a cs 0=cs:=aAt a cs [] h
abbrev USh:=List (List (Nat×List Sh))
def chkB:List (Nat×List Sh)→fM→Bool
 | [],[]=>true
 | s::ss,c::cs=>Nat.beq s.1 c.1&&chkL s.2 c.2&&chkB ss cs
 | _,_=>false
def chkU:USh→UP→Bool
 | [],[]=>true
 | s::ss,c::cs=>chkB s c&&chkU ss cs
 | _,_=>false
def boxI (b:fM) (i:Nat):List PV :=
 match nth b i with
 | some x=>x.2
 | none=>[]
def frI (u:UP) (i:Nat):fM :=
 match nth u i with
 | some x=>x
 | none=>[]
def aXG:List (Nat×List Sh)→fM→Nat→fM
 | [],_,_=>[]
 | s::ss,b,i=>(s.1,aGJ s.2 (boxI b i) 0)::aXG ss b (i+1)
def aO2:USh→UP→Nat→UP
 | [],_,_=>[]
 | s::ss,u,i=>aXG s (frI u i) 0::aO2 ss u (i+1)
theorem aI6 {α} (a:List α) x b:nth (a++x::b) a.length=some x:=by
 induction a with
 | nil=>rfl
 | cons y a c=>exact c
theorem aRM:∀ a cs pre,chkB a cs=true→aXG a (pre++cs) pre.length=cs
 | [],[],_,_=>rfl
 | [],_::_,_,h=>by simp [chkB] at h
 | _::_,[],_,h=>by simp [chkB] at h
 | s::a,c::cs,pre,h=>by
  simp only [chkB,Bool.and_eq_true] at h;have b:=aRM a cs (pre++[c]) h.2;simp at b;simp [aXG,b,boxI,aI6,aJ3 h.1.2,Nat.eq_of_beq_eq_true h.1.1]
theorem aRN:∀ a cs pre,chkU a cs=true→aO2 a (pre++cs) pre.length=cs
 | [],[],_,_=>rfl
 | [],_::_,_,h=>by simp [chkU] at h
 | _::_,[],_,h=>by simp [chkU] at h
 | s::a,c::cs,pre,h=>by
  simp [chkU] at h;have d:=aRN a cs (pre++[c]) h.2;simp [aO2,frI,aI6];have b:=aRM s c [] h.1;grind
theorem aGK {a u} (h:chkU a u=true):aO2 a u 0=u:=aRN a u [] h
structure LSh where
 head:List Sh
 headU:USh
 exits:List (Option Nat×List Sh×USh)
structure Decs where
 decs:List (Nat×Sh):=[]
 ups:List (Nat×USh):=[]
 loops:List (Nat×List (Nat×Nat)×LSh):=[]
def aZM:List (Nat×Nat)→List (Nat×Nat)→Bool
 | [],[]=>true
 | a::l,b::m=>Nat.beq a.1 b.1&&Nat.beq a.2 b.2&&aZM l m
 | _,_=>false
def aZN:List (Nat×List (Nat×Nat)×LSh)→Nat→List (Nat×Nat)→Option LSh
 | [],_,_=>none
 | (i,sh,x)::l,j,t=>match Nat.beq i j&&aZM sh t with
  | true=>some x
  | false=>aZN l j t
section
variable {R : Type}
def decW (ds:Decs) (d:Option Nat) (e:Eff) (K:Eff→Option R):Option R :=
 match d with
 | some d=>match look ds.decs d with
  | some sh=>match e.ws with
   | x::ws=>cnd (chk sh x.2) (K {e with ws:=(x.1,norm sh x.2)::ws}) none
   | []=>K e
  | none=>K e
 | none=>K e
def decE (ds:Decs) (d:Option Nat) (e:Eff) (K:Eff→Option R):Option R :=
 match e.up with
 | none=>decW ds d e K
 | some u=>match d with
  | some i=>match look ds.ups i with
   | some us=>cnd (chkU us u) (decW ds d {e with up:=some (aO2 us u 0)} K) none
   | none=>none
  | none=>none
end
theorem aRO {R ds d e} {K' K:Eff→Option R} (c:∀ e r,K' e=some r→K e=some r) {r} (h:decW ds d e K'=some r):K e=some r:=by
 unfold decW at h;split at h
 ·split at h
  ·split at h
   ·rename_i sh _ x ws b;rcases bA h with ⟨a,h⟩ | ⟨_,h⟩
    ·rw [aO1 _ _ a] at h;have:{e with ws:=(x.1,x.2)::ws}=e:=by
      cases e;simp_all
     grind
    grind
   grind
  grind
 grind
theorem aRP {R ds d e} {K' K:Eff→Option R} (a:∀ e r,K' e=some r→K e=some r) {r} (h:decE ds d e K'=some r):K e=some r:=by
 unfold decE at h;split at h;· exact aRO a h
 rename_i u c;split at h
 ·split at h
  ·rcases bA h with ⟨b,h⟩ | ⟨_,h⟩
   ·rw [aGK b] at h;have:{e with up:=some u}=e:=by cases e;simp_all
    rw [this] at h;exact aRO a h
   grind
  grind
 grind
section
variable (P : Program) (mt : Hints) (ds : Decs) (nt : Nat) (O : Orc) (LP : cG → cG)
def aC2 {R} (ops:Array Oper):List Oper→St→(St→Option R)→Option R
 | [],st,K=>K st
 | o::os,st,K=>iN ops (ops.size+1) o st fun b st =>
  match b with
  | true=>aR P mt nt O o st fun e=>decE ds o.dst e fun e=>aC2 ops os (e.app st) K
  | false=>aC2 ops os {st with fr:=dstW nt o.dst .und++st.fr} K
def xW {R} (ops:Array Oper):Nat→List Oper→List (Nat×Foot)→St→(List (Nat×Foot)→St→Option R)→Option R
 | _,[],log,st,K=>K log st
 | i,o::os,log,st,K=>iN ops (ops.size+1) o st fun b st =>
  match b with
  | true=>aR P mt nt O o st fun e=>decE ds o.dst e fun e =>
   match e.up with
   | some _ =>
    match aOv (Region.before ops) ops.size i with
    | true=>xW ops (i+1) os log (e.app st) K
    | false=>none
   | none=>xW ops (i+1) os ((i,e.foot)::log) (e.app st) K
  | false=>xW ops (i+1) os log {st with fr:=dstW nt o.dst .und++st.fr} K
def aZO:List (Option Nat×List Sh×USh)→Option Nat→Option (List Sh×USh)
 | [],_=>none
 | (w,x)::l,v=>if w==v then some x else aZO l v
def aFY {R} (xs:List (Option Nat×List Sh×USh)) (r:Ex×List PV×UP) (K:Ex→List PV→UP→Option R):List (Option Nat)→Option R
 | []=>none
 | w::l=>exIs r.1 w (match aZO xs w with
  | some (ss,us)=>cnd (chkL ss r.2.1) (cnd (chkU us r.2.2) (K (exOf w) (aGJ ss r.2.1 0) (aO2 us r.2.2 0)) none) none
  | none=>none) (aFY xs r K l)
def fY {R}:Code→St→(Ex→St→Option R)→Option R
 | .skip,st,K=>K .nrm st
 | .label _,st,K=>K .nrm st
 | .region rid ops draw,st,K=>aCK mt.frz rid st fun st =>
  match draw with
  | false=>aC2 P mt ds nt O ops ops.toList st (K .nrm)
  | true =>
   match uW mt ops (Region.before ops) with
   | true=>xW P mt ds nt O ops 0 ops.toList [] st fun log st =>
    match pC (Region.before ops) log with
    | true=>K .nrm st
    | false=>none
   | false=>none
 | .seq a b,st,K=>fY a st fun e st =>
  match e with
  | .nrm=>fY b st K
  | .brk i=>K (.brk i) st
  | .ret=>K .ret st
 | .cond c a b,st,K=>brB (opd st.fr c) fun t =>
  match t with
  | true=>fY a (wY c true st) K
  | false=>fY b (wY c false st) K
 | .block id b,st,K=>fY b st fun e st =>
  match e with
  | .nrm=>K .nrm st
  | .brk i=>if i=id then K .nrm st else K (.brk i) st
  | .ret=>K .ret st
 | .scope b,st,K=>fY b st K
 | .exit id,st,K=>K (.brk id) st
 | .ret,st,K=>K .ret st
 | .loop b,st,K=>aCK mt.frl (fN b) st fun st =>
  match aZN ds.loops (fN b) (nD st.bx) with
  | none=>none
  | some h =>
   pack (wX mt b) (nD st.bx) st fun s u =>
    bnd (LP (fun s u=>cnd (chkL h.head s) (cnd (chkU h.headU u) (fY b (cH (wX mt b) (nD st.bx) (aGJ h.head s 0) (aO2 h.headU u 0)) fun e st'=>pack (wX mt b) (nD st.bx) st' fun s u=>some (e,s,u)) none) none) s u) fun r =>
     aFY h.exits r (fun e s u=>K e (cH (wX mt b) (nD st.bx) s u)) (kK b)
 | _,_,_=>none
def xX (fn:Func) (args:List PV) (up:UP):Option (PV×UP) :=
 match fn.body with
 | some c=>if args.length≤nt then fY P mt ds nt O LP c (pP args up) fun e st =>
   match e with
   | .brk _=>none
   | .nrm=>aJF P fn mt.own st
   | .ret=>aJF P fn mt.own st
  else none
 | none=>none
end
section
variable {P : Program} {mt : Hints} {ds : Decs} {nt : Nat} {O : Orc} {LP : cG → cG}
theorem bAq {R v} {K' K:Bool→Option R} (a:∀ b r,K' b=some r→K b=some r) {r} (h:brB v K'=some r):brB v K=some r:=by
 unfold brB at h ⊢;obtain ⟨b,c,h⟩:=aB h;rw [c];cases b with
 | true=>exact a _ _ h
 | false=>exact a _ _ h
theorem aGL {a R}:∀ n o st {K' K:Bool→St→Option R},(∀ b s r,K' b s=some r→K b s=some r)→∀ {r},iN a n o st K'=some r→iN a n o st K=some r:=by
 intro n o st K' K d r h;rw [gQ] at h ⊢;obtain ⟨x,c,h⟩:=aB h;rw [c];exact d _ _ _ h
theorem aI7 {R o st} {K' K:Eff→Option R} (b:∀ e r,K' e=some r→K e=some r) {r} (h:aR P mt nt O o st K'=some r):aR P mt nt O o st K=some r:=by
 rw [eZ] at h ⊢;obtain ⟨x,a,h⟩:=aB h;rw [a];exact b _ _ h
theorem xY {R a}:∀ c st {K' K:St→Option R},(∀ s r,K' s=some r→K s=some r)→∀ {r},aC2 P mt ds nt O a c st K'=some r→jP P mt nt O a c st K=some r
 | [],st,K',K,f,r,h=>f _ _ h
 | o::c,st,K',K,f,r,h=>by
  refine aGL _ _ _ (fun b s r h => ?_) h;cases b with
  | true =>
   refine aI7 (fun e r h => ?_) h;exact aRP (ds:=ds) (d:=o.dst) (K':=fun e=>aC2 P mt ds nt O a c (e.app s) K') (K:=fun e=>jP P mt nt O a c (e.app s) K) (fun e r h=>xY c _ f h) h
  | false=>exact xY c _ f h
theorem pU {R a}:∀ f i c st {K' K:List (Nat×Foot)→St→Option R},(∀ l s r,K' l s=some r→K l s=some r)→∀ {r},xW P mt ds nt O a i f c st K'=some r→cI P mt nt O a i f c st K=some r
 | [],i,c,st,K',K,g,r,h=>g _ _ _ h
 | o::f,i,c,st,K',K,g,r,h=>by
  refine aGL _ _ _ (fun b s r h => ?_) h;cases b with
  | true =>
   refine aI7 (fun e r h => ?_) h;refine aRP (ds:=ds) (d:=o.dst) (K:=fun e=>match e.up with | some _=>(match aOv (Region.before a) a.size i with | true=>cI P mt nt O a (i+1) f c (e.app s) K | false=>none) | none=>cI P mt nt O a (i+1) f ((i,e.foot)::c) (e.app s) K) (fun e r h => ?_) h;cases j:e.up with
   | some u =>
    rw [j] at h;simp at h ⊢;split at h;· exact pU f _ _ _ g h
    omega
   | none=>rw [j] at h;exact pU f _ _ _ g h
  | false=>exact pU f _ _ _ g h
theorem aXH {R e w} {x x' y d:Option R} (c:e=exOf w→∀ r,x'=some r→x=some r) (b:∀ r,d=some r→y=some r) {r} (h:exIs e w x' d=some r):exIs e w x y=some r:=by
 cases e with
 | nrm=>cases w<;>exact b _ h
 | ret=>cases w with
  | none=>exact c rfl _ h
  | some j=>exact b _ h
 | brk i=>cases w with
  | none=>exact b _ h
  | some j =>
   simp [exIs] at h ⊢;split;· rename_i a;rw [if_pos a] at h;subst a;exact c rfl _ h
   grind
theorem aE7 {R xs q} {K':Ex→List PV→UP→Option R} {K} (c:∀ e r,K' e q.2.1 q.2.2=some r→K e=some r):∀ l {r},aFY xs q K' l=some r→qP q.1 K l=some r
 | [],r,h=>by simp [aFY] at h
 | w::l,r,h=>by
  refine aXH (fun d r h => ?_) (fun r h=>aE7 c l h) h;split at h
  ·rcases bA h with ⟨b,h⟩ | ⟨_,h⟩
   ·rcases bA h with ⟨a,h⟩ | ⟨_,h⟩;· rw [aJ3 b,aGK a] at h;grind
    grind
   grind
  grind
theorem aXI {R kp sh st} {K' K:List PV→UP→Option R} (b:∀ s u r,K' s u=some r→K s u=some r) {r} (h:pack kp sh st K'=some r):pack kp sh st K=some r:=by
 rw [aAs] at h ⊢;obtain ⟨x,a,h⟩:=aB h;rw [a];exact b _ _ _ h
theorem aMc {R l i st} {K' K:St→Option R} (b:∀ s r,K' s=some r→K s=some r) {r} (h:aCK l i st K'=some r):aCK l i st K=some r:=by
 rw [iR] at h ⊢;obtain ⟨x,a,h⟩:=aB h;rw [a];exact b _ _ h
theorem fE (g:LLe LP LP):∀ {R} c st {K' K:Ex→St→Option R},(∀ e s r,K' e s=some r→K e s=some r)→∀ {r},fY P mt ds nt O LP c st K'=some r→aS P mt nt O LP c st K=some r
 | _,.skip,_,_,_,d,_,h=>d _ _ _ h
 | _,.label _,_,_,_,d,_,h=>d _ _ _ h
 | _,.exit _,_,_,_,d,_,h=>d _ _ _ h
 | _,.ret,_,_,_,d,_,h=>d _ _ _ h
 | _,.region id n j,st,K',K,d,r,h=>by
  simp [fY] at h;simp [aS];refine aMc (fun st r h => ?_) h;cases j with
  | false=>exact xY _ _ (fun s r h=>d _ _ _ h) h
  | true =>
   simp at h ⊢;split at h;· rename_i m;rw [m];refine pU _ _ _ _ (fun l s r h => ?_) h;grind
   grind
 | _,.seq a b,st,K',K,d,r,h=>by
  refine fE g a st (fun e s r h => ?_) h;cases e with
  | nrm=>exact fE g b s d h
  | brk i=>grind
  | ret=>grind
 | _,.cond c a b,st,K',K,d,r,h=>by
  refine bAq (fun t r h => ?_) h;cases t with
  | true=>exact fE g a _ d h
  | false=>exact fE g b _ d h
 | _,.block id b,st,K',K,d,r,h=>by
  refine fE g b st (fun e s r h => ?_) h;grind
 | _,.scope b,st,K',K,d,r,h=>fE g b st d h
 | _,.loop b,st,K',K,d,r,h=>by
  refine aMc (fun st r h => ?_) h;split at h;· grind
  refine aXI (fun s u r h => ?_) h;obtain ⟨q,k,h⟩:=aB h;rw [g _ _ (fun s u r f=>by
   rcases bA f with ⟨p,f⟩ | ⟨_,f⟩
   ·rcases bA f with ⟨o,f⟩ | ⟨_,f⟩;· rw [aJ3 p,aGK o] at f;exact fE g b _ (fun e s r h=>h) f
    grind
   grind) _ _ _ k]
  exact aE7 (fun e r h=>d _ _ _ h) _ h
 | _,.rangeFunc _ _ _ _,_,_,_,_,_,h=>by simp [fY] at h
 | _,.goto _,_,_,_,_,_,h=>by simp [fY] at h
 | _,.refuse _,_,_,_,_,_,h=>by simp [fY] at h
theorem aJ4 (d:LLe LP LP) {c args b r} (h:xX P mt ds nt O LP c args b=some r):kC P mt nt O LP c args b=some r:=by
 unfold xX at h;unfold kC;split at h
 ·rename_i f;rw [f];split at h;· rename_i a;simp [if_pos a];refine fE d _ _ (fun e s r h => ?_) h;omega
  grind
 grind
theorem bAr {Mt X f b a u r} ds (c:X f=none) (e:kG (Mt f) a u=false) (d:P.funcs[f]?=some b)
  (h:xX P (Mt f) ds b.ntmps (OL P Mt X) aE b a u=some r):OL P Mt X f a u=some r :=
 aVy c e d (aJ4 aE6 h)
end
abbrev Str:=List UInt8
def nthI {α:Type} (l:List α) (i:Int):Option α:=if i<0 then none else l[i.toNat]?
def tapp {α:Type} (l m:List α):Option (List α):=if l.length+m.length≤lim then some (l++m) else none
def tshl (k:IntKind) (a b:Int):Option Int:=if b<0 then none else some (k.wrap (a*2 ^ min b.toNat k.bits))
def xZ {α:Type} (f:α→PV) (l:List α):PV := .slice (l.map f) [] false
def elim {α β γ:Type} (x:α⊕β) (f:α→γ) (g:β→γ):γ :=
 match x with
 | .inl a=>f a
 | .inr b=>g b
@[simp] theorem aO {α β γ} (a:α) f (g:β→γ):elim (.inl a) f g=f a:=rfl
@[simp] theorem aP {α β γ} (b:β) (f:α→γ) g:elim (.inr b) f g=g b:=rfl
def qV {σ ρ} (b:σ→Option (σ⊕ρ)):Nat→σ→Option ρ
 | 0,_=>none
 | n+1,s=>bnd (b s) fun x=>elim x (qV b n) some
theorem aBC {σ ρ} {b:σ→Option (σ⊕ρ)}:∀ n m {s r},n≤m→qV b n s=some r→qV b m s=some r
 | 0,_,_,_,_,h=>by simp [qV] at h
 | n+1,0,_,_,a,_=>by omega
 | n+1,m+1,s,r,a,h=>by
  simp [qV] at h ⊢;obtain ⟨x,c,h⟩:=aB h;rw [c];cases x with
  | inl s'=>exact aBC n m (by omega) h
  | inr d=>exact h
open Classical in
noncomputable def bJ {σ ρ} (b:σ→Option (σ⊕ρ)) (s:σ):Option ρ:=if h:∃ n r,qV b n s=some r then qV b (Classical.choose h) s else none
theorem aAu {σ ρ} {b:σ→Option (σ⊕ρ)} {s r}:bJ b s=some r↔∃ n,qV b n s=some r:=by
 unfold bJ;constructor;· intro h;split at h;all_goals grind
 rintro ⟨n,d⟩;have a:∃ n r,qV b n s=some r:=⟨n,r,d⟩;obtain ⟨f,c⟩:=Classical.choose_spec a;have g:=aBC n (max n (Classical.choose a)) (by omega) d;have e:=aBC (Classical.choose a) (max n (Classical.choose a)) (by omega) c;grind
theorem tY {σ ρ} {b:σ→Option (σ⊕ρ)} {s s'} (h:b s=some (.inl s')):bJ b s=bJ b s':=by
 have key:∀ r,bJ b s=some r↔bJ b s'=some r:=by
  intro r;rw [aAu,aAu];constructor
  ·rintro ⟨n,a⟩;cases n with
   | zero=>simp [qV] at a
   | succ n=>simp [qV,h,bnd] at a;grind
  rintro ⟨n,a⟩;exact ⟨n+1,by simp [qV,h];exact a⟩
 cases d:bJ b s' with
 | some r=>grind
 | none =>
  cases c:bJ b s with
  | none=>rfl
  | some r=>grind
theorem cC {σ ρ} {b:σ→Option (σ⊕ρ)} {s r} (h:b s=some (.inr r)):bJ b s=some r :=
 aAu.2 ⟨1,by simp [qV,h,bnd]⟩
def Imp {α β:Type} (x:Option α) (X:Option β) (R:α→β→Prop):Prop:=∀ a,x=some a→∃ v,X=some v∧R a v
section
variable {α β γ δ : Type} {R : α → β → Prop}
theorem Imp.none {X}:Imp none X R:=by intro a h;grind
theorem Imp.some {a v} (h:R a v):Imp (some a) (some v) R:=by intro b c;grind
theorem Imp.cnd {c a b A B} (e:Imp a A R) (d:Imp b B R):Imp (Ev.cnd c a b) (Ev.cnd c A B) R:=by cases c<;>assumption
theorem Imp.bnd {x:Option γ} {X:Option δ} {S k K} (h:Imp x X S) (c:∀ a v,S a v→Imp (k a) (K v) R):Imp (Ev.bnd x k) (Ev.bnd X K) R:=by
 intro r b;obtain ⟨a,e,b⟩:=aB b;obtain ⟨v,hv,d⟩:=h a e;rw [hv];exact c a v d r b
theorem Imp.op {x X sh} {f:γ→PV} {k} {K:PV→Option β} (h:∀ a,x=Option.some a→X=Option.some (f a)) (e:∀ a,chk sh (f a)=true) (d:∀ a,x=Option.some a→Imp (k a) (K (f a)) R) :
  Imp (Ev.bnd x k) (Ev.bnd X fun v=>Ev.cnd (chk sh v) (K v) Option.none) R:=by
 intro r b;obtain ⟨a,c,b⟩:=aB b;rw [h a c];simp [Ev.bnd,e a];exact d a c r b
theorem Imp.call {O:Orc} {g args x sh} {f:γ→PV} {k} {K:PV→Option β} (i:args.all free=true) (h:∀ a,x=Option.some a→O g args []=Option.some (f a,[])) (e:∀ a,chk sh (f a)=true) (d:∀ a,x=Option.some a→Imp (k a) (K (f a)) R) :
  Imp (Ev.bnd x k) (aM O g args fun v=>Ev.cnd (chk sh v) (K v) Option.none) R:=by
 intro r b;obtain ⟨a,c,b⟩:=aB b;unfold aM;rw [i,h a c];simp [Ev.bnd,e a];exact d a c r b
theorem Imp.gcall {O:Orc} {g args d x sh us} {f:γ→PV} {fu:γ→UP} {k} {K:PV×UP→Option β} (h:∀ a,x=Option.some a→O g args d=Option.some (f a,fu a)) (j:∀ a,chk sh (f a)=true)
  (i:∀ a,chkU us (fu a)=true) (e:∀ a,x=Option.some a→Imp (k a) (K (f a,fu a)) R) :
  Imp (Ev.bnd x k) (Ev.bnd (O g args d) fun v=>Ev.cnd (chkU us v.2) (Ev.cnd (chk sh v.1) (K v) Option.none) Option.none) R:=by
 intro r b;obtain ⟨a,c,b⟩:=aB b;rw [h a c];simp [Ev.bnd,j a,i a];exact e a c r b
theorem Imp.chk {c x X} (a:c=true) (h:Imp x X R):Imp x (Ev.cnd c X Option.none) R:=by rw [a];exact h
theorem Imp.mono {x X S} (h:Imp x X R) (d:∀ a v,R a v→S a v):Imp x X S:=fun a b=>by
 obtain ⟨v,hv,c⟩:=h a b;grind
def pF {σ ρ} (RS:σ→List PV→UP→Prop) (RX:ρ→Ex×List PV×UP→Prop) (o:σ⊕ρ) (r:Ex×List PV×UP):Prop :=
 elim o (fun s=>r.1 = .nrm∧RS s r.2.1 r.2.2) (fun p=>r.1 ≠ .nrm∧RX p r)
theorem Imp.loop {σ ρ} {d:σ→List PV→UP→Prop} {e:ρ→Ex×List PV×UP→Prop} {tb a} (m:∀ s l u,d s l u→Imp (tb s) (a l u) (pF d e)) {s l u} (c:d s l u) :
  Imp (bJ tb s) (aE a l u) e:=by
 have key:∀ n s l u,d s l u→Imp (qV tb n s) (aE a l u) e:=by
  intro n;induction n with
  | zero=>intro s l u c r b;simp [qV] at b
  | succ n k =>
   intro s l u c r b;obtain ⟨o,t,b⟩:=aB b;obtain ⟨q,i,h⟩:=m s l u c o t;rw [xV,i];simp only [Ev.bnd];cases o with
   | inl s' =>
    obtain ⟨g,f⟩:=h;rw [g];exact k s' _ _ f r b
   | inr p =>
    obtain ⟨g,f⟩:=h;simp_all
 intro r b;obtain ⟨n,j⟩:=aAu.1 b;exact key n s l u c r j
end
theorem aBD? {α}:∀ (l:List α) i,nth l i=l[i]?
 | [],i=>by simp [nth]
 | a::l,0=>rfl
 | a::l,i+1=>by simpa [nth] using aBD? l i
theorem bBy {α} {enc:α→PV} {l E b o k i n a} (d:E=l.map enc) (e:((enc a).cells.length=n)∧0<n) (h:nthI l i=some a):ix n (.slice E b o) (.int k i)=some (.ref (enc a)):=by
 unfold nthI at h;split at h;· grind
 rename_i c;simp [ix,if_neg c,aBD?,d,h,bnd,if_pos e]
theorem gR {s:Str} {k i b} (h:nthI s i=some b):sZ (.str s) (.int k i)=some (.int .u8 b.toNat):=by
 unfold nthI at h;split at h;· grind
 rename_i a;simp [sZ,if_neg a,aBD?,h,bnd]
theorem aXJ {α:Type} {enc n} (b:∀ a,(enc a).cells.length=n) (l:List α):szOk n (l.map enc)=true:=by
 cases l<;>simp [szOk,b]
theorem wK {α} {enc:α→PV} {l m r A B c b o n} (g:A=l.map enc) (d:B=m.map enc) (f:∀ a,(enc a).cells.length=n) (h:tapp l m=some r) :
  apd n (.slice A c true) (.slice B b o)=some (.slice (r.map enc) [] true):=by
 unfold tapp at h;split at h;· rename_i e;cases h;subst g d;simp [apd,aXJ f,e]
 grind
theorem bBz {k k' a b r} (h:tshl k a b=some r):bin .shl (.int k a) (.int k' b)=some (.int k r):=by
 unfold tshl at h;split at h;· grind
 rename_i c;cases h;simp [bin,if_neg c]
open Classical in
noncomputable def tO {α:Type} (O:Orc) (f:FuncId) (args:List PV) (up:UP) (enc:α→PV×UP):Option α:=if h:∃ r,O f args up=some (enc r) then some (Classical.choose h) else none
theorem bU {α} {O f args a} {enc:α→PV×UP} {r} (h:tO O f args a enc=some r):O f args a=some (enc r):=by
 unfold tO at h;split at h;all_goals grind
theorem aH4 {α} {O f args c} {enc:α→PV×UP} (e:∀ a b,enc a=enc b→a=b) {r} (h:O f args c=some (enc r)):tO O f args c enc=some r:=by
 unfold tO;have d:∃ r,O f args c=some (enc r):=⟨r,h⟩;grind
theorem cJ {α:Type} {f:α→PV} (c:∀ a b,f a=f b→a=b):∀ {l m:List α},l.map f=m.map f→l=m
 | [],[],_=>rfl
 | [],_::_,h=>by grind
 | _::_,[],h=>by grind
 | a::l,b::m,h=>by
  simp at h;rw [c _ _ h.1,cJ c h.2]
theorem encSl_inj {α} {f:α→PV} (c:∀ a b,f a=f b→a=b) l m (h:xZ f l=xZ f m):l=m:=by
 simp [xZ] at h;exact cJ c h
theorem str_inj (a b:Str) (h:PV.str a=PV.str b):a=b:=by grind
theorem int_inj k a b (h:PV.int k a=PV.int k b):a=b:=by grind
theorem bool_inj a b (h:PV.bool a=PV.bool b):a=b:=by grind
theorem pV {α:Type} {f:α→PV} (c:∀ a b,f a=f b→a=b) a b (h:((f a,[]):PV×UP)=(f b,[])):a=b:=by grind
def hit (e:Ex) (w:Option Nat):Bool :=
 match e,w with
 | .brk i,some j=>Nat.beq i j
 | .ret,none=>true
 | _,_=>false
theorem aXK {β} {e w} {X Y:Option β} (h:hit e w=true):exIs e w X Y=X:=by
 cases e<;>cases w<;>simp_all [hit,exIs]
theorem aVC {β} {e w} {X Y:Option β} (h:hit e w=false):exIs e w X Y=Y:=by
 cases e with
 | nrm=>cases w<;>rfl
 | ret=>cases w with
  | none=>simp [hit] at h
  | some j=>rfl
 | brk i=>cases w with
  | none=>rfl
  | some j =>
   simp [hit] at h;simp only [exIs];rw [if_neg];intro a;simp_all
section
variable {α β : Type} {R : α → β → Prop}
theorem Imp.exHit {e w x X Y} (h:hit e w=true) (a:Imp x X R):Imp x (exIs e w X Y) R:=by
 rw [aXK h];exact a
theorem Imp.exMiss {e w x X Y} (h:hit e w=false) (a:Imp x Y R):Imp x (exIs e w X Y) R:=by
 rw [aVC h];exact a
end
section
variable {σ ρ : Type} {RS : σ → List PV → UP → Prop} {RX : ρ → Ex × List PV × UP → Prop}
theorem pF.next {s l u} (h:RS s l u):pF RS RX (.inl s) (.nrm,l,u):=⟨rfl,h⟩
theorem pF.brk {p i l u} (h:RX p (.brk i,l,u)):pF RS RX (.inr p) (.brk i,l,u):=⟨by simp,h⟩
theorem pF.ret {p l u} (h:RX p (.ret,l,u)):pF RS RX (.inr p) (.ret,l,u):=⟨by simp,h⟩
end
theorem encSlO_inj {α:Type} {f} (c:∀ a b,f a=f b→a=b) (l m:List α) (h:PV.slice (l.map f) [] true=PV.slice (m.map f) [] true):l=m:=by
 simp at h;exact cJ c h
theorem evs:(∀ v,refV (.ref v)=v)∧(∀ cs,aggV (.agg cs)=cs)∧(∀ cs,tupV (.tuple cs)=cs)∧(∀ k n,intV (.int k n)=n)∧(∀ s,strV (.str s)=s)∧(∀ b,aV (.bool b)=b) ∧
  (∀ a b o,esV (.slice a b o)=a)∧(∀ a b o,bsV (.slice a b o)=b)∧(∀ f a b,fstV (.func f a b)=a)∧(∀ f a b,capV (.func f a b)=b)∧(∀ a l,gt (a::l) 0=a)∧(∀ a l n,gt (a::l) (n+1)=gt l n) ∧
  (∀ a l,boxI (a::l) 0=a.2)∧(∀ a l n,boxI (a::l) (n+1)=boxI l n)∧(∀ a l,frI (a::l) 0=a)∧(∀ a l n,frI (a::l) (n+1)=frI l n) ∧
  (∀ (α β:Type) (f:α→β) l,(List.map f l).length=l.length)∧(∀ β (x y:Option β),cnd true x y=x)∧(∀ β (x y:Option β),cnd false x y=y)∧(∀ α (f:α→PV) l,xZ f l = .slice (List.map f l) [] false) ∧
  (∀ d i o,offV (.ptr d i o)=o)∧(∀ d i n z,rlnV (.rsl d i n z)=n)∧(∀ z E,vecV (.vec z E)=E)∧(∀ (α β:Type) (f:α→β) l n,List.take n (List.map f l)=List.map f (List.take n l)):=by
 refine ⟨?_,?_,?_,?_,?_,?_,?_,?_,?_,?_,?_,?_,?_,?_,?_,?_,?_,?_,?_,?_,?_,?_,?_,?_⟩<;>intros<;>first | rfl | simp | simp
theorem evl:(∀ (α β:Type) (f:α→β),List.map f []=[])∧(∀ (α β:Type) (f:α→β) a l,List.map f (a::l)=f a::List.map f l)∧(∀ α (f:α→PV) l,xZ f l = .slice (List.map f l) [] false) :=
 ⟨fun _ _ _=>rfl,fun _ _ _ _ _=>rfl,fun _ _ _=>rfl⟩
theorem evc:(∀ v,cells (.agg v)=v)∧(∀ (a:PV) l,(a::l).length=l.length+1)∧([]:List PV).length=0:=⟨fun _=>rfl,fun _ _=>rfl,rfl⟩
theorem evk:(∀ a b,chk (.agg a) (.agg b)=chkL a b)∧(∀ a b,chk (.tup a) (.tuple b)=chkL a b)∧chkL [] []=true∧(∀ s v c vs,chkL (s::c) (v::vs)=(chk s v&&chkL c vs))∧(∀ b,chk .bool (.bool b)=true)∧(∀ k n,chk (.int k) (.int k n)=true)∧(∀ s,chk .str (.str s)=true) ∧
  (∀ l o,chk (.sl o) (.slice l [] o)=true)∧(∀ v s,chk (.ref s) (.ref v)=chk s v)∧(true&&true)=true:=by
 refine ⟨fun _ _=>rfl,fun _ _=>rfl,rfl,fun _ _ _ _=>rfl,fun _=>rfl,fun k n=>by simp [chk],fun _=>rfl,fun l o=>by simp [chk],fun _ _=>rfl,rfl⟩
theorem zI {p:Prop} (h:p:=by first | rfl | simp only [evs,tys,evl]):p:=h
theorem zE {p:Prop} (h:p:=by first | rfl | simp only [evs,tys,evl,aO,aP]):p:=h
theorem zF {p:Prop} (h:p:=by first | rfl | simp only [zes,evs,tys,evl]):p:=h
theorem zA {p:Prop} (h:p:=by first | rfl | simp only [evs,tys,evc]):p:=h
section
variable {α β γ δ : Type} {R : α → β → Prop}
theorem zC {O g args b x sh} {f:γ→PV} {k} {K:PV→Option β} (h:x=tO O g b [] fun r=>(f r,[])) (d:∀ a,x=Option.some a→Imp (k a) (K (f a)) R)
  (e:args=b:=by first | rfl | simp only [evs,tys,evl]) (j:args.all free=true:=by rfl) (i:∀ a,chk sh (f a)=true:=by intro a;first | rfl | simp only [zes,evk,chks]) :
  Imp (Ev.bnd x k) (aM O g args fun v=>Ev.cnd (chk sh v) (K v) Option.none) R :=
 Imp.call j (fun a c=>by rw [e];exact bU (enc:=fun r=>(f r,[])) (h ▸ c)) i d
theorem zK {sh} {f:γ→PV} (h:∀ a,chk sh (f a)=true:=by intro a;first | rfl | simp only [zes,evk,chks]):∀ a,chk sh (f a)=true:=h
theorem zX (enc:γ→PV) {l E b o c i n sh k} {K:PV→Option β} (f:∀ a,chk sh (.ref (enc a))=true) (e:∀ a,nthI l i=Option.some a→Imp (k a) (K (.ref (enc a))) R)
  (g:E=l.map enc:=by first | rfl | simp only [evs,tys,evl]) (j:∀ a,(enc a).cells.length=n:=by intro a;first | rfl | simp only [evs,tys,evc]) (d:0<n:=by decide) :
  Imp (Ev.bnd (nthI l i) k) (Ev.bnd (ix n (.slice E b o) (.int c i)) fun v=>Ev.cnd (chk sh v) (K v) Option.none) R :=
 Imp.op (fun a h=>bBy g ⟨j a,d⟩ h) f e
theorem zH {e w c d x X Y} (a:Imp x X R) (h:hit e w=true:=by rfl) (b:c=true:=by first | rfl | (cases w<;>rfl)) (f:d=true:=by first | rfl | (cases w<;>rfl)):Imp x (exIs e w (Ev.cnd c (Ev.cnd d X Option.none) Option.none) Y) R :=
 Imp.exHit h (Imp.chk b (Imp.chk f a))
theorem zG {c d x X} (a:Imp x X R) (b:c=true:=by first | rfl | (cases w<;>rfl)) (e:d=true:=by first | rfl | (cases w<;>rfl)):Imp x (Ev.cnd c (Ev.cnd d X Option.none) Option.none) R :=
 Imp.chk b (Imp.chk e a)
theorem zR {a v} (h:R a v:=by first | rfl | simp only [zes,evs,tys,evl] | (show _=_;simp only [zes,evs,tys,evl])):Imp (some a) (some v) R:=Imp.some h
end
section
variable {α β σ ρ : Type} {R : α → β → Prop} {RS : σ → List PV → UP → Prop} {RX : ρ → Ex × List PV × UP → Prop}
def Lok (RS:σ→List PV→UP→Prop) (tb:σ→Option (σ⊕ρ)) (body:cG) (RX:ρ→Ex×List PV×UP→Prop):Prop:=∀ s l u,RS s l u→Imp (tb s) (body l u) (pF RS RX)
theorem zL {tb b s l u k K} (d:Lok RS tb b RX) (c:∀ a v,RX a v→Imp (k a) (K v) R) (e:RS s l u:=by exact ⟨by first | rfl | simp only [evs,tys,evl],rfl⟩) :
  Imp (Ev.bnd (bJ tb s) k) (Ev.bnd (aE b l u) K) R:=Imp.bnd (Imp.loop d e) c
theorem zN {s l u} (h:RS s l u:=by exact ⟨by first | rfl | simp only [evs,tys,evl],rfl⟩):Imp (some (Sum.inl s)) (some ((Ex.nrm,l,u):Ex×List PV×UP)) (pF RS RX):=Imp.some (pF.next h)
theorem zB {p i l u} (h:RX p (.brk i,l,u)):Imp (some (Sum.inr p)) (some ((Ex.brk i,l,u):Ex×List PV×UP)) (pF RS RX):=Imp.some (pF.brk h)
theorem zT {p l u} (h:RX p (.ret,l,u)):Imp (some (Sum.inr p)) (some ((Ex.ret,l,u):Ex×List PV×UP)) (pF RS RX):=Imp.some (pF.ret h)
end
theorem zV {P Mt X f d args c} {α} {x b} {e:α→PV} {i:α→UP} {T ds r} (j:∀ a b,e a=e b→a=b) (g:Imp b T (fun r v=>v=(e r,i r)))
  (m:P.funcs[f]?=some d) (o:xX P (Mt f) ds d.ntmps (OL P Mt X) aE d args c=T) (h:b=some r) (k:X f=none:=by rfl) (n:kG (Mt f) args c=false:=by rfl) (l:x=tO (OL P Mt X) f args c (fun r=>(e r,i r)):=by rfl):x=some r:=by
 obtain ⟨v,hv,rfl⟩:=g r h;rw [l];exact aH4 (fun a b h=>by grind) (bAr ds k n m (by grind))
def zs (s:List PV) (i:Nat):PV := .slice (esV (gt s i)) [] false
def zo (s:List PV) (i:Nat):PV := .slice (esV (gt s i)) [] true
def zn (s:List PV) (i:Nat):PV := .int .i64 (intV (gt s i))
def zb (s:List PV) (i:Nat):PV := .bool (aV (gt s i))
def zt (s:List PV) (i:Nat):PV := .str (strV (gt s i))
def iv (s:List PV) (i:Nat):Int:=intV (gt s i)
def ev (s:List PV) (i:Nat):List PV:=esV (gt s i)
def av (s:List PV) (i:Nat):List PV:=aggV (gt s i)
def tv (s:PV) (i:Nat):PV:=gt (tupV s) i
def rf (s:PV):List PV:=aggV (refV s)
def tg (s:PV) (i:Nat):List PV:=aggV (gt (tupV s) i)
def bx (u:UP) (i j:Nat):List PV:=boxI (frI u i) j
def sv (s:List PV) (i:Nat):Str:=strV (gt s i)
def bv (s:List PV) (i:Nat):Bool:=aV (gt s i)
def w6 (i:Int):Int:=IntKind.wrap .i64 i
theorem zd:(∀ s i,zs s i = .slice (esV (gt s i)) [] false)∧(∀ s i,zo s i = .slice (esV (gt s i)) [] true)∧(∀ s i,zn s i = .int .i64 (intV (gt s i)))∧(∀ s i,zb s i = .bool (aV (gt s i)))∧(∀ s i,zt s i = .str (strV (gt s i))) ∧
  (∀ s i,iv s i=intV (gt s i))∧(∀ s i,ev s i=esV (gt s i))∧(∀ s i,av s i=aggV (gt s i))∧(∀ s i,tv s i=gt (tupV s) i)∧(∀ s,rf s=aggV (refV s))∧(∀ s i,tg s i=aggV (gt (tupV s) i))∧(∀ u i j,bx u i j=boxI (frI u i) j)∧(∀ s i,sv s i=strV (gt s i))∧(∀ s i,bv s i=aV (gt s i))∧(∀ i,w6 i=IntKind.wrap .i64 i) :=
 ⟨fun _ _=>rfl,fun _ _=>rfl,fun _ _=>rfl,fun _ _=>rfl,fun _ _=>rfl,fun _ _=>rfl,fun _ _=>rfl,fun _ _=>rfl,fun _ _=>rfl,fun _=>rfl,fun _ _=>rfl,fun _ _ _=>rfl,fun _ _=>rfl,fun _ _=>rfl,fun _=>rfl⟩
def rb1:Sh→List PV→Nat→PV
 | .sl o,s,i => .slice (esV (gt s i)) [] o
 | .int k,s,i => .int k (intV (gt s i))
 | .bool,s,i => .bool (aV (gt s i))
 | .str,s,i => .str (strV (gt s i))
 | .ptr a b c,_,_ => .ptr a b c
 | _,s,i=>gt s i
def rb':List Sh→List PV→Nat→List PV
 | [],_,_=>[]
 | a::l,s,i=>rb1 a s i::rb' l s (i+1)
def rb (l:List Sh) (s:List PV):List PV:=rb' l s 0
def pu:List PV→Nat→PV→List PV
 | [],_,_=>[]
 | _::l,0,v=>v::l
 | a::l,n+1,v=>a::pu l n v
theorem zr:(∀ l s,rb l s=rb' l s 0)∧(∀ s i,rb' [] s i=[])∧(∀ a l s i,rb' (a::l) s i=rb1 a s i::rb' l s (i+1))∧(∀ o s i,rb1 (.sl o) s i = .slice (esV (gt s i)) [] o)∧(∀ k s i,rb1 (.int k) s i = .int k (intV (gt s i)))∧(∀ s i,rb1 .bool s i = .bool (aV (gt s i))) ∧
  (∀ s i,rb1 .str s i = .str (strV (gt s i)))∧(∀ a b c s i,rb1 (.ptr a b c) s i = .ptr a b c)∧(∀ a l v,pu (a::l) 0 v=v::l)∧(∀ a l n v,pu (a::l) (n+1) v=a::pu l n v) :=
 ⟨fun _ _=>rfl,fun _ _=>rfl,fun _ _ _ _=>rfl,fun _ _ _=>rfl,fun _ _ _=>rfl,fun _ _=>rfl,fun _ _=>rfl,fun _ _ _ _ _=>rfl,fun _ _ _=>rfl,fun _ _ _ _=>rfl⟩
abbrev zq {α:Type} (f:α→PV) (l:List α):PV := .slice (List.map f l) [] false
abbrev zp {α:Type} (f:α→PV) (l:List α):PV := .slice (List.map f l) [] true
abbrev i6 (i:Int):PV := .int .i64 i
abbrev sf:Sh := .sl false
abbrev st':Sh := .sl true
abbrev n6:Sh := .int .i64
section
variable {α β γ δ : Type} {R : α → β → Prop}
end
def jn {γ δ:Type} (r:γ) (b:γ→δ):δ:=b r
theorem Imp.jn {α β γ a} {R f g c e} (Q:(Option α→Option β→Prop)→γ→a→Prop) (h:Q (fun x X=>Imp x X R) f g)
  (i:∀ b d,Q (fun x X=>Imp x X R) b d→Imp (c b) (e d) R):Imp (Ev.jn f c) (Ev.jn g e) R:=i _ _ h
section
variable {ρ : REnv} {τ : Nat → TypeId} {H : Type} {e : TypeId × Value → H} {P : Program} {W : World} {bl : DataW H → Nat} {bla : List (DataW H) → Nat}
theorem aXL (w:BlOk bl bla) n (a:Nat→Ty) (d:∀ i,∃ F,P.underlying (τ i)=some (.struct F)∧P.cellsOf (τ i)=(a i).size ρ∧flds ρ P (tyOk ρ τ P n) F.toList 0 (a i)=true)
  (s:∀ i x,∃ y,(ρ i).en y=enc ρ (a i) x∧(ρ i).bk y≤bulk ρ (a i) x+1∧(good ρ (a i) x→(ρ i).gd y)) :
  ∀ k i,aVA ρ e P W bl k (τ i) (.ext i):=by
 intro k;induction k with
 | zero =>
  intro i l z cs x q;obtain ⟨F,p,_,_⟩:=d i;obtain ⟨xs,m,u,_⟩:=DataW.trod_struct p q;omega
 | succ k D =>
  intro i l z cs x q;obtain ⟨F,p,M,E⟩:=d i;obtain ⟨xs,m,u,rfl,A,G,o⟩:=DataW.trod_struct p q;obtain ⟨v,g,b,r⟩:=aGI w (k:=k) (fun t ty h=>aJ0 w D n t ty h) F.toList 0 (a i) m xs (by omega) E (by omega) (fun i f z=>o i f (by grind));obtain ⟨y,L,N,C⟩:=s i v;have K:(a i).size ρ=(ρ i).sz:=by
   have I:=(jU ρ (a i) v).1;have J:=((ρ i).wf y).1;grind
  refine ⟨y,C g,?_,?_,?_⟩;· have:=w.agg (xs.map (·.1));simp [bulk];omega
  ·simp [Ty.size];omega
  intro j c H;have B:((ρ i).en y).cells[j]?=some c:=H;grind
end
def okc:PV→Bool
 | .bool _ | .int _ _ | .str _=>true
 | .slice _ [] false=>true
 | _=>false
theorem bBA {c} (h:okc c=true):c.solid1=true∧c.plain1=c:=by
 unfold okc at h;split at h;· exact ⟨rfl,rfl⟩
 ·exact ⟨rfl,rfl⟩
 ·exact ⟨rfl,rfl⟩
 ·exact ⟨rfl,rfl⟩
 grind
theorem qW {v:PV} cs (hv:v = .agg cs) (h:cs.all okc=true) {n} (b:cs.length=n):v.cells.length=n∧(∀ c∈v.cells,c.solid1=true∧c.plain1=c)∧v.solid=true∧v.plain=v:=by
 subst hv;have key:∀ c∈cs,c.solid1=true∧c.plain1=c:=fun c a=>bBA (by grind);refine ⟨b,key,?_,?_⟩;· simp [PV.solid];grind
 simp [PV.plain,PV.plainA];have  := List.map_congr_left fun c a=>(key c a).2;simp_all
def bk1 {α:Type} (_:α):Nat:=1
def dC (s:Str):Nat:=s.length+1
def bkSl {α} (f:α→Nat) (l:List α):Nat:=sumL f l+1
def gd1 {α:Type} (_:α):Prop:=True
def gdI (k:IntKind) (n:Int):Prop:=(Lit.int k n).wf=true
def gdSl {α:Type} (f:α→Prop) (l:List α):Prop:=∀ x∈l,f x
@[simp] theorem bP {α β} a (k:α→Option β):bnd (some a) k=k a:=rfl
@[simp] theorem bCt {α β} (k:α→Option β):bnd none k=none:=rfl
@[simp] theorem fZ {β} (x y:Option β):cnd true x y=x:=rfl
@[simp] theorem qX {β} (x y:Option β):cnd false x y=y:=rfl
theorem aVD {β} c (x y:Option β):cnd c x y=if c=true then x else y:=by cases c<;>rfl
theorem aAv {β} c (x:Option β):cnd c x x=x:=by cases c<;>rfl
theorem wi {n} (h : -9223372036854775808≤n∧n≤9223372036854775807):IntKind.wrap .i64 n=n:=by rw [IntKind.wrap_i64];omega
theorem wu n:IntKind.wrap .u64 n=n % 18446744073709551616:=by simp [IntKind.wrap,IntKind.bits,IntKind.signed]
theorem wadd {n:Nat} (h:n<9223372036854775807):IntKind.wrap .i64 (n+1)=((n+1:Nat):Int):=by rw [wi (by omega)];omega
theorem vD {α} (l:List α) (k:Nat):nthI l k=l[k]?:=by
 unfold nthI;grind
theorem yA {α} {l m:List α} (h:l.length+m.length≤lim):tapp l m=some (l++m):=if_pos h
theorem aI8 {σ ρ α β:Type} {b} (l:List α) (S:Nat→β→σ) (G:List α→β→ρ) (I:Nat→β→Prop)
  (g:∀ a,I l.length a→b (S l.length a)=some (.inr (G [] a)))
  (c:∀ k x r a,k<l.length→l[k]?=some x→l.drop k=x::r→I k a→b (S k a)=some (.inr (G (x::r) a))∨∃ e,b (S k a)=some (.inl (S (k+1) e))∧I (k+1) e∧G (x::r) a=G r e) :
  ∀ k a,k≤l.length→I k a→bJ b (S k a)=some (G (l.drop k) a):=by
 have key:∀ n k a,l.length-k≤n→k≤l.length→I k a→bJ b (S k a)=some (G (l.drop k) a):=by
  intro n;induction n with
  | zero =>
   intro k a p i f;have:k=l.length:=by omega
   subst this;rw [cC (g a f),List.drop_length]
  | succ n s =>
   intro k a p i f;by_cases o:k=l.length;· grind
   have d:k<l.length:=by omega
   have j:l.drop k=l[k]::l.drop (k+1):=by simp
   rw [j];rcases c k _ _ a d (List.getElem?_eq_getElem d) j f with h | ⟨e,h,q,m⟩;· exact cC h
   rw [tY h,s (k+1) e (by omega) (by omega) q,m]
 exact fun k a i f=>key (l.length-k) k a (by omega) i f
theorem gS {α} (f:α→Nat) {x}:∀ {l},x∈l→f x≤sumL f l
 | a::l,h=>by
  rcases List.mem_cons.1 h with rfl | h;· simp only [sumL];omega
  have:=gS f h;simp [sumL];omega
theorem mI {α} (f:α→Nat) (h:∀ x,1≤f x):∀ l,l.length≤sumL f l
 | []=>by simp
 | a::l=>by have:=mI f h l;have:=h a;simp [sumL];omega
theorem aBE:lim=274877906944:=rfl
abbrev Sm {α:Type} (l:List α):Prop:=l.length<4611686018427387904
theorem iC {σ ρ α β : Type} {b} l (S : Nat → β → σ) (G : List α → β → ρ) (I : Nat → β → Prop) (m : Sm l)
  (d : ∀ a, I l.length a → b (S l.length a) = some (.inr (G [] a)))
  (c : ∀ k x r a, x ∈ l → k < l.length → l.drop k = x :: r → decide ((k : Int) < l.length) = true → nthI l k = some x → IntKind.wrap .i64 (k + 1) = ((k + 1 : Nat) : Int) → I k a →
   b (S k a) = some (.inr (G (x :: r) a)) ∨ ∃ e, b (S k a) = some (.inl (S (k + 1) e)) ∧ I (k + 1) e ∧ G (x :: r) a = G r e) {s a} (j : s = S 0 a) (f : I 0 a) : bJ b s = some (G l a) := by
 have := aI8 (b := b) l S G I d (fun k x r a h g i f => c k x r a (by grind) h i (by grind) (by exact g) (wadd (by omega)) f) 0 a (by omega) f;grind
theorem sC {ρ α} {b : Int → Option (Int ⊕ ρ)} l (F : List α → ρ) (e : Sm l) (c : b l.length = some (.inr (F [])))
  (d : ∀ (k : Nat) x r, x ∈ l → decide ((k : Int) < l.length) = true → nthI l k = some x → IntKind.wrap .i64 (k + 1) = ((k + 1 : Nat) : Int) →
   b k = some (.inr (F (x :: r))) ∨ (b k = some (.inl ((k + 1 : Nat) : Int)) ∧ F (x :: r) = F r)) : bJ b 0 = some (F l) :=
 iC (b := b) l (fun k (_ : Unit) => k) (fun r _ => F r) (fun _ _ => True) e (fun _ _ => c) (fun k x r a m i j h g f _ => by
  simp_all) (s := 0) (a := ()) rfl trivial
theorem aC3 {σ ρ α β : Type} {b} (l : List α) (S : Nat → β → σ) g (R : β → ρ) (I : Nat → β → Prop) (i : Sm l)
  (c : ∀ a, I l.length a → b (S l.length a) = some (.inr (R a)))
  (d : ∀ k x a, x ∈ l → k < l.length → decide ((k : Int) < l.length) = true → nthI l k = some x → IntKind.wrap .i64 (k + 1) = ((k + 1 : Nat) : Int) → I k a →
   b (S k a) = some (.inl (S (k + 1) (g a x))) ∧ I (k + 1) (g a x)) {s a} (e : s = S 0 a) (h : I 0 a) : bJ b s = some (R (l.foldl g a)) :=
 iC (b := b) l S (fun r a => R (r.foldl g a)) I i (fun a f => c a f) (fun k x r a t q m p n j o => by
  grind) e h
theorem yB {ρ α} {b : Int → Option (Int ⊕ ρ)} (l : List α) f e (d : Sm l) (a : b l.length = some (.inr e))
  (c : ∀ (k : Nat) x, x ∈ l → decide ((k : Int) < l.length) = true → nthI l k = some x → IntKind.wrap .i64 (k + 1) = ((k + 1 : Nat) : Int) →
   b k = some (match f x with | some r => .inr r | none => .inl ((k + 1 : Nat) : Int))) : bJ b 0 = some ((l.findSome? f).getD e) :=
 sC l (fun r => (r.findSome? f).getD e) d a (fun k x r j i h g => by
  grind)
theorem aGM {n:Nat}:decide ((n:Int)<n)=false:=by simp
theorem aGN {σ α} {b} l (S:Nat→List α→σ) (o:l.length<1073741824)
  (d:∀ a,b (S l.length a)=some (.inr a))
  (c:∀ (k:Nat) x a,x∈l→decide ((k:Int)<l.length)=true→nthI l k=some x→IntKind.wrap .i64 (k+1)=((k+1:Nat):Int)→(∀ y,tapp a [y]=some (a++[y]))→b (S k a)=some (.inl (S (k+1) (a++[x])))) {s} (h:s=S 0 []):bJ b s=some l:=by
 have:=aC3 (b:=b) l S (fun a x=>a++[x]) id (fun k a=>a.length=k) (by omega) (fun a _=>d a) (fun k x a i n g f e m=>⟨c k x a i g f e (fun y=>yA (by simp [aBE];omega)),by grind⟩) h rfl;have:∀ (l a:List α),l.foldl (fun a x=>a++[x]) a=a++l:=by
  intro l;induction l with
  | nil=>simp
  | cons x l j=>grind
 grind
theorem cQ {α} {f:α→Nat} (a:∀ x,1≤f x) l:l.length+1≤bkSl f l:=by
 have:=mI f a l;unfold bkSl;omega
theorem dM {α} {f:α→Nat} {l x} (h:x∈l):f x+1≤bkSl f l:=by
 have:=gS f h;unfold bkSl;omega
theorem aMd s:1≤dC s:=by unfold dC;omega
theorem aVE {σ ρ} {b} (I:σ→Prop) (m:σ→Nat) (Q:ρ→Prop)
  (h:∀ s,I s→(∃ r,b s=some (.inr r)∧Q r)∨∃ s',b s=some (.inl s')∧I s'∧m s'<m s):∀ s,I s→∃ r,bJ b s=some r∧Q r:=by
 have key:∀ n s,m s≤n→I s→∃ r,bJ b s=some r∧Q r:=by
  intro n;induction n with
  | zero =>
   intro s f d;rcases h s d with ⟨r,a,c⟩ | ⟨s',a,c,e⟩;· exact ⟨r,cC a,c⟩
   omega
  | succ n g =>
   intro s f d;rcases h s d with ⟨r,a,c⟩ | ⟨s',a,c,e⟩;· exact ⟨r,cC a,c⟩
   rw [tY a];grind
 exact fun s d=>key (m s) s (by omega) d
theorem aC4 {α:Type} [DecidableEq α]:∀ (l u:List α),l.Nodup→(∀ x∈l,x∈u)→l.length≤u.length
 | [],u,_,_=>by simp
 | a::l,u,b,d=>by
  rw [List.nodup_cons] at b;have:=aC4 l (u.erase a) b.2 (fun x c=>by
   grind)
  grind
def Tt {α:Type} (P:α→Prop) (x:Option α):Prop:=∃ a,x=some a∧P a
abbrev Te {α} (x:Option α):Prop:=Tt (fun _=>True) x
section
variable {α β σ ρ : Type} {P : α → Prop} {Q : β → Prop}
theorem Tt.ret {a} (h:P a):Tt P (some a):=⟨a,rfl,h⟩
theorem Tt.mono {b x} (h:Tt P x) (d:∀ a,P a→b a):Tt b x:=by obtain ⟨a,h,c⟩:=h;exact ⟨a,h,d a c⟩
theorem Tt.cnd {c x y} (b:c=true→Tt P x) (a:c=false→Tt P y):Tt P (Ev.cnd c x y):=by cases c<;>first | simp_all | simp_all
theorem Tt.bnd {x k} (h:Tt Q x) (b:∀ a,Q a→Tt P (k a)):Tt P (Ev.bnd x k):=by
 obtain ⟨a,rfl,c⟩:=h;simp_all
theorem Tt.eq {x:Option β} {b k} (h:x=some b) (a:Tt P (k b)):Tt P (Ev.bnd x k):=by simp_all
theorem Tt.elim {γ} {o:β⊕γ} {f g} (c:∀ a,o = .inl a→Tt P (f a)) (b:∀ a,o = .inr a→Tt P (g a)):Tt P (Ev.elim o f g):=by
 cases o<;>first | simp_all | simp_all
theorem Tt.nth {l:List β} {i:Int} {k} (h:0≤i∧i<l.length) (b:∀ a∈l,nthI l i=some a→Tt P (k a)):Tt P (Ev.bnd (nthI l i) k):=by
 have e:nthI l i=some l[i.toNat]:=by
  have:=vD l i.toNat;grind
 simp_all
theorem Tt.app {l m:List β} {k} (h:l.length+m.length≤274877906944) (a:Tt P (k (l++m))):Tt P (Ev.bnd (tapp l m) k):=Tt.eq (yA (by exact h)) a
def Nx (I:σ→Prop) (m:σ→Nat) (s:σ) (R:ρ→Prop) (o:σ⊕ρ):Prop:=(∃ s',o = .inl s'∧I s'∧m s'<m s)∨∃ r,o = .inr r∧R r
theorem Nx.l {I:σ→Prop} {m s s'} {R:ρ→Prop} (h:I s') (a:m s'<m s):Nx I m s R (.inl s') := .inl ⟨_,rfl,h,a⟩
theorem Nx.r {I:σ→Prop} {m s} {R:ρ→Prop} {r} (h:R r):Nx I m s R (.inr r) := .inr ⟨_,rfl,h⟩
theorem Tt.loop {b:σ→Option (σ⊕ρ)} I m {R} (e:∀ s,I s→Tt (Nx I m s R) (b s)) {s} (c:I s):Tt R (bJ b s):=by
 have key:∀ n s,m s≤n→I s→Tt R (bJ b s):=by
  intro n;induction n with
  | zero =>
   intro s g c;obtain ⟨o,d,⟨s',rfl,a,f⟩ | ⟨r,rfl,a⟩⟩:=e s c;· omega
   exact ⟨r,cC d,a⟩
  | succ n h =>
   intro s g c;obtain ⟨o,d,⟨s',rfl,a,f⟩ | ⟨r,rfl,a⟩⟩:=e s c;· rw [tY d];grind
   exact ⟨r,cC d,a⟩
 exact key _ s (Nat.le_refl _) c
def Ix (n:Nat) (k:Int) (R:ρ→Prop) (o:Int⊕ρ):Prop:=(o = .inl (IntKind.wrap .i64 (k+1))∧k<n)∨∃ r,o = .inr r∧R r
theorem Ix.r {n k} {R:ρ→Prop} {r} (h:R r):Ix n k R (.inr r) := .inr ⟨_,rfl,h⟩
theorem Ix.l {n:Nat} {k:Int} {R:ρ→Prop} (h:decide (k<n)=true):Ix n k R (.inl (IntKind.wrap .i64 (k+1))) := .inl ⟨rfl,by grind⟩
theorem Tt.idx {b:Int→Option (Int⊕ρ)} (n:Nat) {R} (f:n<4611686018427387904) (c:∀ k:Int,0≤k→k≤n→Tt (Ix n k R) (b k)):Tt R (bJ b 0) :=
 Tt.loop (fun k:Int=>0≤k∧k≤n) (fun k  => (n-k).toNat) (fun k a=>(c k a.1 a.2).mono fun o d=>by
  rcases d with ⟨rfl,h⟩ | h;· have e:IntKind.wrap .i64 (k+1)=k+1:=wi (by omega);exact Nx.l ⟨by omega,by omega⟩ (by omega)
  exact .inr h) ⟨by omega,by omega⟩
theorem Tt.jn {κ} {K F} (Q:κ→Prop) (b:Q K) (a:∀ k,Q k→Tt P (F k)):Tt P (Ev.jn K F):=a K b
theorem vE {i n:Int} (h:decide (i<n)=true):i<n:=by grind
end
end Go.Ev

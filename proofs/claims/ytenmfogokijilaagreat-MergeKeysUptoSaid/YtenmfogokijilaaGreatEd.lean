import Derived.Test.YtenmfogokijilaaGreatEc
set_option linter.unusedVariables false
set_option linter.unusedSimpArgs false
set_option linter.unusedSimpArgs false
namespace Go.Ev
theorem abd:type_of% @List.drop_eq_getElem_cons:=@List.drop_eq_getElem_cons
end Go.Ev
namespace Go.Ev
open PV
variable {τ : Tb} {env l : List PV}
theorem aYc:∀ vs,(List.range vs.length).map (gt vs)=vs:=by
 intro vs;apply List.ext_getElem;· simp
 intro i b a;simp [aHp,aa4 a]
theorem bEK {a v} (h:Mt τ env a v) (b:a.isNm=true):v.solid1=true:=by
 cases h with
 | nm e c d=>cases c<;>first | rfl | simp at d
 | sl=>rfl
 | cn=>rfl
 | nil=>rfl
 | any=>simp [AV.isNm] at b
 | und=>simp [AV.isNm] at b
 | agg=>simp [AV.isNm] at b
 | tup=>simp [AV.isNm] at b
 | ref=>simp [AV.isNm] at b
 | ptr=>simp [AV.isNm] at b
theorem aMy:∀ {b vs},Mts τ env b vs->b.all AV.isNm=true->vs.all solid1=true
 | _,_,.nil,_=>rfl
 | _,_,.cons h c,a=>by
  simp only [aaL,aa0] at a ⊢;exact ⟨bEK h a.1,aMy c a.2⟩
theorem bB9 {a v} (h:Mt τ env a v) (b:a.fits=true):fits 0 v=true:=by
 cases h with
 | nm e c d=>cases c<;>first | rfl | simp at d
 | sl=>rfl
 | cn=>rfl
 | nil=>rfl
 | ref=>rfl
 | ptr=>simp [fits]
 | any=>simp [AV.fits,AV.isNm] at b
 | und=>simp [AV.fits,AV.isNm] at b
 | agg=>simp [AV.fits,AV.isNm] at b
 | tup=>simp [AV.fits,AV.isNm] at b
theorem aQF:∀ {b vs},Mts τ env b vs->b.all AV.fits=true->vs.all (fits 0)=true
 | _,_,.nil,_=>rfl
 | _,_,.cons h c,a=>by
  simp only [aaL,aa0] at a ⊢;exact ⟨bB9 h a.1,aQF c a.2⟩
theorem aHL {a v} (h:Mt τ env a v) (b:a.solid=true):v.solid=true:=by
 cases h with
 | agg c=>exact aMy c b
 | nm e d c=>cases d<;>first | rfl | simp at c
 | sl=>rfl
 | cn=>rfl
 | nil=>rfl
 | any=>simp [AV.solid,AV.isNm] at b
 | und=>simp [AV.solid,AV.isNm] at b
 | tup=>simp [AV.solid,AV.isNm] at b
 | ref=>simp [AV.solid,AV.isNm] at b
 | ptr=>simp [AV.solid,AV.isNm] at b
theorem aZL {v:PV} (h:v.solid=true):v.free=true:=by
 unfold PV.free;split;· simp [PV.solid,PV.solid1] at h
 all_goals grind
theorem aMz:∀ {b vs},Mts τ env b vs->b.all AV.solid=true->vs.all free=true
 | _,_,.nil,_=>rfl
 | _,_,.cons h c,a=>by
  simp only [aaL,aa0] at a ⊢;exact ⟨aZL (aHL h a.1),aMz c a.2⟩
theorem aMA {n i a g v} (h:aMt n i a=some g) (f:Mt τ env a v):∃ vs,sR n i v=some vs/\Mts τ env g vs:=by
 unfold aMt at h;split at h
 ·split at h
  ·rename_i d;cases h;cases f with
   | agg c =>
    rename_i vs;refine ⟨vs,?_,c⟩;have e:vs.length=n:=by rw [<- c.len,d]
    simp [sR,e];rw [<- e,aYc]
  grind
 ·grind
 split at h
 ·rename_i b;cases h;refine ⟨[v],?_,.one f⟩;cases f with
  | nm j d c=>cases d<;>first | rfl | simp at c
  | sl=>rfl
  | cn=>rfl
  | nil=>rfl
  | ref=>rfl
  | ptr=>rfl
  | any=>simp [AV.fits,AV.isNm] at b
  | und=>simp [AV.fits,AV.isNm] at b
  | agg=>simp [AV.fits,AV.isNm] at b
  | tup=>simp [AV.fits,AV.isNm] at b
 grind
theorem aVR {off n c a d vs} (h:apart off n c d=some a) (b:Mts τ env d vs):∃ v,part off n c vs=some v/\Mt τ env a v:=by
 unfold apart at h;cases c with
 | true =>
  simp only at h ⊢;split at h;· rename_i e;cases h;rw [b.len] at e;exact ⟨_,if_pos e,.agg ((b.drop off).take n)⟩
  grind
 | false=>exact b.nth h
theorem aQG {b vs} (h:bB1 b=true) (e:Mts τ env b vs):nW vs=false:=by
 cases e with
 | nil=>rfl
 | cons d c =>
  cases c with
  | nil =>
   have:=bB9 d (by simpa [bB1] using h);unfold nW;split;· rename_i a;cases a;simp [fits,solid1] at this
   ·rename_i a;cases a;simp [fits,solid1] at this
   rfl
  | cons f c=>unfold nW;simp
theorem aYd {place}:∀ {e f},FrOk τ env e f->∀ {a vs r},Mts τ env a vs->aX9 place e a=some r ->
  ∃ d,(∀ {R} (K:List PV->Option R),aGu place f vs K=K d)/\Mts τ env r d
 | _,_,.nil,a,vs,r,b,h=>by cases h;exact ⟨vs,fun K=>rfl,b⟩
 | _,_,.cons (i:=i) k j,a,vs,r,b,h=>by
  simp [aX9] at h;split at h
  ·rename_i off size n q;split at h
   ·rename_i ws g;split at h;· rename_i l;obtain ⟨us,m,c⟩:=aMA g k;obtain ⟨d,p,o⟩:=aYd j (Mts.putAt c off b) h;rw [b.len] at l;simp [aGu,bnd];grind
    grind
   grind
  grind
section
variable {P : Program} {mt : Hints} {nt : Nat} {C : Cfg} {O : Orc}
def uJ (P:Program) (mt:Hints) (nt:Nat) (O:Orc) (τ:Tb) (env:List PV) (o:Oper) (A:ASt) (st:St) (K:AK):Prop :=
 ∃ e a fs b l,aX P mt nt O o st some=some e/\Good τ (env++l) (a.app A fs b) (e.app st)/\e.up=none/\e.foot=a.foot/\K a fs b=true
variable {o : Oper} {A : ASt} {st : St} {K : AK}
theorem Good.ws {l} (d:Good τ env A st) {a ws fs e} (g:FrOk τ (env++l) a ws) (h:∀ f,f∈fs->gN (env++l) f) (i:e=(env++l).length) :
  Good τ (env++l) (AEff.app {ws:=a} A fs e) (Eff.app {ws:=ws} st):=by
 obtain ⟨b,j,c⟩:=d.bx;exact ⟨g.app (d.fr.mono l),⟨b,by show aDf (fC st.bx []) []=_;rw [j];rfl,c.mono l⟩,h,i⟩
theorem aF4 (d:Good τ env A st) {a ws} l {fs b} (e:aX P mt nt O o st some=some {ws:=ws}) (c:FrOk τ (env++l) a ws)
  (g:∀ f,f∈fs->gN (env++l) f) (h:b=(env++l).length) (i:K {ws:=a} fs b=true):uJ P mt nt O τ env o A st K :=
 ⟨_,_,fs,b,l,e,d.ws c g h,rfl,rfl,i⟩
theorem aQH (b:Good τ env A st) {a ws} (c:aX P mt nt O o st some=some {ws:=ws}) (e:FrOk τ env a ws) (d:K {ws:=a} A.fs A.nx=true):uJ P mt nt O τ env o A st K :=
 aF4 b [] c (by grind) (by simpa using b.fs) (by simpa using b.nx) d
theorem tA (b:Good τ env A st) {a v} (c:aX P mt nt O o st some=some {ws:=dstW nt o.dst v}) (d:Mt τ env a v) (e:K {ws:=adst nt o.dst a} A.fs A.nx=true):uJ P mt nt O τ env o A st K :=
 aQH b c (.dst d nt o.dst) e
theorem aMB (b:Good τ env A st) {a v} (c:aX P mt nt O o st some=some {ws:=dstW nt o.dst v}) (d:Mt τ (env++[v]) a v) (e:K {ws:=adst nt o.dst a} A.fs (A.nx+1)=true):uJ P mt nt O τ env o A st K :=
 aF4 b [v] c (.dst d nt o.dst) (fun f h=>(b.fs f h).mono _) (by simp [b.nx]) e
theorem aMC (a:Good τ env A st) v:den (env++[v]) (.root A.nx)=some v:=by
 rw [a.nx];exact aMx env v
theorem Mt.newInt (a:Good τ env A st) k n:Mt τ (env++[.int k n]) (.nm (.root A.nx) (.int k)) (.int k n) := .nm (aMC a _) (.int k n) rfl
theorem aPl (g:Good τ env A st) {n q v w lv j} (x:Mt τ env v w) (s:FrOk τ env lv j) (h:aQB nt o n q v lv A K=true)
  (t:aX P mt nt O o st some=newBox nt o n q w j st some):uJ P mt nt O τ env o A st K:=by
 obtain ⟨b,r,e⟩:=g.bx;unfold aQB at h;split at h
 ·rename_i id cs a k;split at h
  ·rename_i f;obtain ⟨vs,i,c⟩:=aMA k x;have u:lB nt st o.dst=some id:=by
    unfold aX8 at a;unfold lB;split at a
    ·rename_i d m;rw [r,m];split at a
     ·rename_i l;split at a;· cases a;show (match look b id with | none=>if id<nt then some id else none | some _=>none)=some id;rw [e.none l];grind
      grind
     grind
    grind
   have p:aX P mt nt O o st some=some {ws:=(id,.ptr 0 id 0)::j,nw:=[(id,vs)]}:=by
    rw [t];simp [newBox,u,i,bnd,cnd,aQF c f]
   refine ⟨_,_,A.fs,A.nx,[],p,?_,rfl,rfl,h⟩;simp;refine ⟨(FrOk.cons (.ptr id 0) s).app g.fr,⟨(id,vs)::b,?_,.cons c e⟩,g.fs,g.nx⟩;show aDf (fC st.bx []) [(id,vs)]=_;rw [r];rfl
  grind
 grind
theorem aVS {t z} (h:bB0 P t=some z):∃ v,aFX P t=some v/\Mt τ env z v:=by
 unfold bB0 at h;unfold aFX;split at h
 ·rename_i i b;cases a:i.zero with
  | none=>grind
  | some v =>
   rw [a] at h;cases h;exact ⟨ofValue v,by grind,.value v⟩
 grind
theorem aBK {b id}:bD [b] 0 id=look b id:=rfl
end
variable {τ : Tb} {env l : List PV}
theorem aLy {fs} (g:∀ f,f∈fs->gN env f) {l a v} (h:aSR fs l a=true) (b:Mt τ env a v):LfOk τ l v:=by
 unfold aSR at h;split at h;· cases b;exact .bool _
 ·rw [aa0,aa0,beq_iff_eq] at h;cases b with
  | sl c j o e =>
   obtain ⟨⟨rfl,i⟩,d⟩:=h;have:=aap i;subst this;split at d;· rename_i k p;have q:=aQE p g o;have r:=ab3 d;exact .sl j (by omega)
   grind
 ·rw [beq_iff_eq] at h;subst h;cases b;exact .sl (by simp) (by simp)
 ·rw [aa0,aa0,decide_eq_true_eq] at h;obtain ⟨⟨rfl,i⟩,d⟩:=h;cases b with
  | nm c e m =>
   cases e with
   | int k n=>exact .rng ⟨bGT i g ⟨_,c⟩,bGU d g ⟨_,c⟩⟩
 ·rw [decide_eq_true_eq] at h;subst h;cases b with
  | nm c e m=>exact e
 grind
theorem aSU {fs} (c:∀ f,f∈fs->gN env f):∀ {a b vs},aPj fs a b=true->Mts τ env b vs->CsOk τ a vs
 | [],_,_,h,.nil => .nil
 | _::_,_,_,h,.nil=>by simp [aPj] at h
 | [],_,_,h,.cons _ _=>by simp [aPj] at h
 | l::a,_,_,h,.cons d e=>by
  simp [aPj] at h;exact .cons (aLy c h.1 d) (aSU c h.2 e)
theorem aQI {fs} (c:∀ f,f∈fs->gN env f) {e a v} (h:aVN fs e a=true) (d:Mt τ env a v):ElOk τ e v:=by
 obtain ⟨ag,cs⟩:=e;unfold aVN at h;split at h
 ·rename_i b;cases b;cases d with
  | agg g=>exact .ag (aSU c h g)
 ·grind
 rename_i b;cases b;split at h;· rename_i l i;cases i;exact .one (aLy c h d)
 grind
inductive ElsOk (τ:Tb):List El->List PV->Prop
 | nil:ElsOk τ [] []
 | cons {e:El} {es:List El} {v:PV} {vs:List PV} (h:ElOk τ e v) (hs:ElsOk τ es vs):ElsOk τ (e::es) (v::vs)
theorem aD2 {fs} (b:∀ f,f∈fs->gN env f):∀ {es a vs},aHK fs es a=true->Mts τ env a vs->ElsOk τ es vs
 | [],_,_,h,.nil => .nil
 | _::_,_,_,h,.nil=>by simp [aHK] at h
 | [],_,_,h,.cons _ _=>by simp [aHK] at h
 | l::e,_,_,h,.cons c d=>by
  simp [aHK] at h;exact .cons (aQI b h.1 c) (aD2 b h.2 d)
theorem aVT {x l v} (a:den env x=some v) (h:LfOk τ l v):Mt τ env (ofLf x l) v:=by
 cases h with
 | bool b=>exact .nm a (.bool b) rfl
 | int k n=>exact .nm a (.int k n) rfl
 | rng _=>exact .nm a (.int _ _) rfl
 | str d=>exact .nm a (.str d) rfl
 | sl c e=>exact .sl (k := .i64) (z:=0) a c rfl (by omega)
theorem aYe {x cs} (d:∀ j,j<cs.length->den env (.cell x j)=nth cs j):∀ {b vs} j,cs.drop j=vs->CsOk τ b vs->Mts τ env (bHD x j b) vs
 | [],_,j,_,.nil => .nil
 | l::b,v::vs,j,e,.cons h g=>by
  have a:j<cs.length:=by
   rcases aaG j cs.length with h | h;· exact h
   rw [List.drop_eq_nil_of_le h] at e;grind
  have c:=e;rw [abd a] at c;obtain ⟨i,f⟩:=List.cons.inj c;refine .cons (aVT ?_ h) (aYe d (j+1) f g);rw [d j a,jU,aa4 a,i]
theorem aQJ {x e v} (a:den env x=some v) (h:ElOk τ e v):Mt τ env (ofEl x e) v:=by
 cases h with
 | ag b =>
  rename_i d vs;exact .agg (aYe (cs:=vs) (fun j c=>by simp [den,a,bnd,PV.cells]) 0 rfl b)
 | one h=>exact aVT a h
theorem CsOk.len:∀ {a vs},CsOk τ a vs->a.length=vs.length
 | _,_,.nil=>rfl
 | _,_,.cons _ b=>by simp [b.len]
theorem ElOk.cells {e v} (h:ElOk τ e v):v.cells.length=e.size:=by
 cases h with
 | ag a=>exact a.len.symm
 | one h=>cases h<;>rfl
theorem aQK {n sz es} (a:∀ e,e∈es->ElOk τ (elOf τ n) e) (b:(elOf τ n).size=sz):szOk sz es=true:=by
 cases es with
 | nil=>rfl
 | cons e es =>
  simp [szOk];rw [(a e (by simp)).cells,b]
theorem aPm:∀ {σ} {n w a},aMv σ n a=some w->n<=w/\∃ e,nth σ (w-n)=some e/\a.all (aVN [] e)=true
 | [],n,w,a,h=>by simp [aMv] at h
 | e::σ,n,w,a,h=>by
  simp [aMv] at h;split at h;· rename_i f;cases h;exact ⟨by omega,e,by simp [nth],f⟩
  obtain ⟨g,d,c,b⟩:=aPm h;refine ⟨by omega,d,?_,b⟩;rw [show w-n=(w-(n+1))+1 by omega];exact c
theorem aYf {e}:∀ {a vs},Mts τ env a vs->a.all (aVN [] e)=true->∀ v,v∈vs->ElOk τ e v
 | _,_,.nil,_,v,h=>by grind
 | _,_,.cons b c,h,v,hv=>by
  simp only [aaL,aa0] at h;rcases aa3.1 hv with rfl | hv;· exact aQI (fs:=[]) (by simp) h.1 b
  exact aYf c h.2 v hv
theorem aYg {sz} (f:0<sz) z:∀ {b g},FrOk τ env b g->∀ pre m,aMw sz b (pre.length+m) pre.length=true ->
  m=g.length/\∀ {R} (K:List PV->Option R),aDA sz g (pre++List.replicate m z) K=K (pre++g.map fun x=>x.2.plain)
 | _,_,.nil,pre,m,h=>by
  have:m=0:=by have:=aap h;omega
  subst this;exact ⟨rfl,fun K=>by simp [aDA]⟩
 | _,_,.cons (i:=i) (a:=a) (v:=v) (l:=b) (m:=g) r q,pre,m,h=>by
  simp only [aMw,aa0] at h;obtain ⟨⟨⟨o,d⟩,p⟩,y⟩:=h;have o:=aap o;have p:=aap p;have u:v.cells.length=sz:=by
   rw [<- p];cases r with
   | agg s=>exact s.len.symm
   | nm C t q=>cases t<;>first | rfl | simp at q
   | sl=>rfl
   | cn=>rfl
   | nil=>rfl
   | any=>simp [AV.solid,AV.isNm] at d
   | und=>simp [AV.solid,AV.isNm] at d
   | tup=>simp [AV.solid,AV.isNm] at d
   | ref=>simp [AV.solid,AV.isNm] at d
   | ptr=>simp [AV.solid,AV.isNm] at d
  have w:∃ c,m=c+1:=by
   cases m with
   | succ c=>simp
   | zero =>
    have key:∀ {b} {n k},n<k->aMw sz b n k=false:=by
     intro b;induction b with
     | nil=>intro n k j;simp [aMw];cases D:Nat.beq n k with
      | false=>rfl
      | true=>simp_all
     | cons x b A=>simp [aMw];grind
    grind
  obtain ⟨c,rfl⟩:=w;have E:=aYg f z q (pre++[v.plain]) c (by grind);have B:el sz v=some v.plain:=if_pos ⟨aHL r d,u,f⟩;have j:i<(pre++List.replicate (c+1) z).length:=by grind
  simp [aDA,bnd];have e:putNth (pre++List.replicate (c+1) z) i v.plain=(pre++[v.plain])++List.replicate c z:=by
   rw [lC,o,List.replicate_succ];simp
  grind
theorem aYh {ps:List (Nat×Operand)} {fr a} (h:FrOk τ env a fr):FrOk τ env (ps.map fun p=>(p.1,aopv a false p.2)) (ps.map fun p=>(p.1,opv fr false p.2)):=by
 induction ps with
 | nil=>exact .nil
 | cons p ps b=>exact .cons (.opv h false p.2) b
theorem FrOk.vals:∀ {a v},FrOk τ env a v->Mts τ env (a.map (·.2)) (v.map (·.2))
 | _,_,.nil => .nil
 | _,_,.cons h b => .cons h b.vals
section
variable {env : List PV} {P : Program} {mt : Hints} {nt : Nat} {C : Cfg} {O : Orc} {o : Oper} {A : ASt} {st : St} {K : AK}
theorem bEL {c a b} (e:Good C.τ env A st) (g:o.op = .pick c a b) (h:aOp P mt nt C o A K=true):uJ P mt nt O C.τ env o A st K:=by
 simp [aOp,g] at h;obtain ⟨t,fs,hv,f,j⟩:=bB8 h (Mt.opd e.fr c) e.fs;have d:∀ t,opd st.fr c = .bool t->aX P mt nt O o st some=some {ws:=dstW nt o.dst (opv st.fr false (match t with | true=>a | false=>b))}:=by
  intro t i;simp [aX,g];rw [i];cases t<;>rfl
 have d:=d t hv;cases t with
 | true=>exact aF4 e [] d (by simpa using FrOk.dst (Mt.opv e.fr false a) nt o.dst) (by grind) (by simpa using e.nx) f
 | false=>exact aF4 e [] d (by simpa using FrOk.dst (Mt.opv e.fr false b) nt o.dst) (by grind) (by simpa using e.nx) f
theorem bCa {t} (c:Good C.τ env A st) (a:o.op = .alloc t) (h:aOp P mt nt C o A K=true):uJ P mt nt O C.τ env o A st K:=by
 simp [aOp,a] at h;split at h;· rename_i n g z e d b;obtain ⟨v,hv,f⟩:=aVS (τ:=C.τ) (env:=env) b;exact aPl c f .nil h (by simp [aX,a,e,d,hv])
 grind
theorem bHF {t x} (a:Good C.τ env A st) (b:o.op = .box t x) (h:aOp P mt nt C o A K=true):uJ P mt nt O C.τ env o A st K:=by
 simp [aOp,b] at h;split at h;· rename_i n e d c;exact aPl a (Mt.opv a.fr true x) (a.fr.left true x) h (by simp [aX,b,d,c])
 grind
theorem bCb {t ps} (a:Good C.τ env A st) (b:o.op = .build t ps) (h:aOp P mt nt C o A K=true):uJ P mt nt O C.τ env o A st K:=by
 simp [aOp,b] at h;split at h
 ·rename_i fs z j g;split at h
  ·rename_i cs c f;obtain ⟨v,hv,l⟩:=aVS (τ:=C.τ) (env:=env) g;cases l with
   | agg d =>
    obtain ⟨i,k,e⟩:=aYd (aYh (ps:=ps.toList) a.fr) d f;exact tA a (v := .agg i) (by simp [aX,b,j,hv,c,k]) (.agg e) h
  grind
 grind
theorem aOk {t n ps} (f:Good C.τ env A st) (m:o.op = .buildSlice t n ps) (h:aOp P mt nt C o A K=true):uJ P mt nt O C.τ env o A st K:=by
 simp only [aOp,m] at h;split at h
 ·rename_i e E;split at h
  ·rename_i sz z L H;split at h
   ·rename_i q;simp only [aa0,decide_eq_true_eq] at q;obtain ⟨⟨⟨⟨⟨G,l⟩,a⟩,s⟩,D⟩,F⟩:=q;have l:=aap l;split at h
    ·rename_i w y;obtain ⟨v,hv,r⟩:=aVS (τ:=C.τ) (env:=env) H;have b:v.cells.length=sz:=by
      rw [<- l];cases r with
      | agg B=>exact B.len.symm
      | nm S g Q=>cases g<;>first | rfl | simp [isSl] at Q
      | sl=>rfl
      | cn=>rfl
      | nil=>rfl
      | any=>simp [AV.solid,AV.isNm] at a
      | und=>simp [AV.solid,AV.isNm] at a
      | tup=>simp [AV.solid,AV.isNm] at a
      | ref=>simp [AV.solid,AV.isNm] at a
      | ptr=>simp [AV.solid,AV.isNm] at a
     have I:el sz v=some v.plain:=if_pos ⟨aHL r a,b,s⟩;have c:=aYh (ps:=ps.toList) f.fr;obtain ⟨J,u⟩:=aYg s v.plain c [] n (by simpa using D);have g  := J.symm;obtain ⟨_,M,d,i⟩:=aPm y;have j:elOf C.τ w=M:=by unfold elOf;rw [show w=w-0 by omega,d]
     refine aMB f (v := .slice ((ps.toList.map fun p=>(p.1,opv st.fr false p.2)).map fun x=>x.2.plain) [] true) ?_ (.sl (k := .i64) (z:=0) (aMC f _) ?_ rfl ?_) h
     ·cases n with
      | zero=>simp at F
      | succ n =>
       simp [aX,m,E,L,hv,b,G,I,bnd];have:=u (R:=Eff) (fun es=>some {ws:=dstW nt o.dst (.slice es [] true)});simpa using this
     ·intro x N;rw [j];refine aYf (c.vals.map Mt.plain) i _ ?_;exact by grind
     have  := by simpa using g
     simp;omega
    simp at h
   simp at h
  simp at h
 simp at h
theorem bEM {t p} (hG:Good C.τ env A st) (g:o.op = .load t p) (h:aOp P mt nt C o A K=true):uJ P mt nt O C.τ env o A st K:=by
 simp [aOp,g] at h;obtain ⟨b,k,hbx⟩:=hG.bx;split at h
 ·rename_i n ag l m;have hp:=Mt.opd hG.fr p;split at h
  ·rename_i id off hpt;rw [hpt] at hp;generalize hpv:opd st.fr p=x at hp;cases hp;split at h
   ·rename_i cs e hlk;obtain ⟨ws,hws,hms⟩:=hbx.get hlk;have hcond:0<n/\(ag=true∨n=1):=by
     simp only [aa0,aay,decide_eq_true_eq] at e;exact ⟨e.1,e.2.imp (fun h=>h) aap⟩
    split at h
    ·rename_i v d f;obtain ⟨w,s,hmw⟩:=aVR f hms;have a:=aQG d hms;have hev:aX P mt nt O o st some=(match hasO mt.takes o.dst with
       | true=>some {cr:=[(0,id,off,n)],cw:=[(0,id,off,dN ag w)],ws:=dstW nt o.dst w}
       | false=>some {cr:=[(0,id,off,n)],ws:=dstW nt o.dst w.plain}):=by
      simp only [aX,g,l,m,hpv,hcond,if_true,k,aBK,hws,bnd];simp [and_self,if_true];split;· simp [nW] at a
      ·simp [nW] at a
      simp [s,bnd,aBg];cases hasO mt.takes o.dst<;>rfl
     split at h
     ·rename_i htk;rw [htk] at hev;split at h
      ·rename_i q hpc;have hpl:Mts C.τ env q (dN ag w):=by
        unfold aMu at hpc;split at hpc
        ·cases hpc;cases hmw with
         | agg r=>exact r.map Mt.plain1
        ·simp at hpc
        cases hpc;exact .one hmw.plain1
       refine ⟨_,_,A.fs,A.nx,[],hev,?_,rfl,?_,h⟩
       ·simp [aac];refine ⟨(FrOk.dst hmw nt o.dst).app hG.fr,⟨sP b id (putAt ws off (dN ag w)),?_,?_⟩,hG.fs,hG.nx⟩;· show aDf (fC st.bx [(0,id,off,dN ag w)]) []=_;simp [k,fC,aBK,hws,aDf];rfl
        show BxOk C.τ env (([]:List (Nat×List AV))++sZ A.bx [(0,id,off,q)]) _;simp [aai,sZ,hlk];exact BxOk.put (hpl.putAt off hms) id hbx
       simp [Eff.foot,AEff.foot,ab1,List.map_nil,hpl.len]
      simp at h
     rename_i htk;rw [htk] at hev;refine ⟨_,_,A.fs,A.nx,[],hev,?_,rfl,rfl,h⟩;simp [aac];refine ⟨(FrOk.dst hmw.plain nt o.dst).app hG.fr,⟨b,?_,hbx⟩,hG.fs,hG.nx⟩;show aDf (fC st.bx []) []=_;rw [k];rfl
    simp at h
   simp at h
  ·rename_i v hpt;rw [hpt] at hp;generalize hpv:opd st.fr p=x at hp;cases hp with
   | ref hv =>
    rename_i w;have hev:∀ {u},aU7 n ag w=some u->aX P mt nt O o st some=some {ws:=dstW nt o.dst u.plain}:=by
     intro u y;simp [aX,g,l,m,hpv,y,bnd]
    split at h
    ·rename_i cs;split at h
     ·rename_i hl;have hl:=aap hl;cases hv with
      | agg j =>
       rename_i vs;have i:aU7 n true (.agg vs)=some (.agg vs):=by
        simp only [aU7];rw [if_pos (by rw [<- j.len,hl])]
       exact tA hG (hev i) (Mt.agg j).plain h
     simp at h
    ·simp at h
    split at h
    ·rename_i c;have i:aU7 n false w=some w:=by
      cases hv with
      | nm z hl j=>cases hl<;>first | rfl | simp at j
      | sl=>rfl
      | cn=>rfl
      | nil=>rfl
      | ref=>rfl
      | ptr=>rfl
      | any=>simp [AV.fits,AV.isNm] at c
      | und=>simp [AV.fits,AV.isNm] at c
      | agg=>simp [AV.fits,AV.isNm] at c
      | tup=>simp [AV.fits,AV.isNm] at c
     exact tA hG (hev i) hv.plain h
    simp at h
  simp at h
 simp at h
theorem bCc {t p x} (c:Good C.τ env A st) (s:o.op = .store t p x) (h:aOp P mt nt C o A K=true):uJ P mt nt O C.τ env o A st K:=by
 simp [aOp,s] at h;obtain ⟨b,v,e⟩:=c.bx;split at h
 ·rename_i n H w D;have r:=Mt.opd c.fr p;split at h
  ·rename_i id off m B;rw [m] at r;generalize k:opd st.fr p=G at r;cases r;split at h
   ·rename_i cs vs f j;obtain ⟨ws,g,a⟩:=e.get f;obtain ⟨us,l,d⟩:=aMA j (Mt.opv c.fr true x);split at h
    ·rename_i u;simp only [aa0,decide_eq_true_eq] at u;obtain ⟨⟨⟨z,E⟩,y⟩,F⟩:=u;have i:=aQG z a;have q:aX P mt nt O o st some=some {cw:=[(0,id,off,us)],ws:=left st.fr true x}:=by
      simp [aX,s,w,D,k,B,v,aBK,g,l,bnd];split;· simp [nW] at i
      ·simp [nW] at i
      simp only [aQF d E];rw [if_pos ⟨by rw [<- a.len];exact y,F⟩];rfl
     refine ⟨_,_,A.fs,A.nx,[],q,?_,rfl,?_,h⟩
     ·simp;refine ⟨(c.fr.left true x).app c.fr,⟨sP b id (putAt ws off us),?_,?_⟩,c.fs,c.nx⟩;· show aDf (fC st.bx [(0,id,off,us)]) []=_;simp [v,fC,aBK,g];rfl
      show BxOk C.τ env (([]:List (Nat×List AV))++sZ A.bx [(0,id,off,vs)]) _;simp [sZ,f];exact BxOk.put (d.putAt off a) id e
     simp [Eff.foot,AEff.foot,d.len]
    simp at h
   simp at h
  simp at h
 simp at h
theorem aSV {x} (d:Good C.τ env A st) (e:o.op = .nilCheck x) (h:aOp P mt nt C o A K=true):uJ P mt nt O C.τ env o A st K:=by
 simp [aOp,e] at h;have c:=Mt.opd d.fr x;split at h;· rename_i id off b;rw [b] at c;generalize a:opd st.fr x=f at c;cases c;exact tA d (by simp [aX,e,a]) (.ptr id off) h
 ·rename_i v b;rw [b] at c;generalize a:opd st.fr x=f at c;cases c with
  | ref hv=>exact tA d (by simp [aX,e,a]) (.ref hv) h
 grind
theorem aQL {s x f} (i:Good C.τ env A st) (j:o.op = .fieldAddr s x f) (h:aOp P mt nt C o A K=true):uJ P mt nt O C.τ env o A st K:=by
 simp [aOp,j] at h;have c:=Mt.opd i.fr x;split at h
 ·rename_i fs l;split at h
  ·rename_i off n w k;split at h;· rename_i id t d b;rw [b] at c;generalize a:opd st.fr x=r at c;cases c;rw [decide_eq_true_eq] at d;exact tA i (by simp [aX,j,l,k,d,a,fad,bnd]) (.ptr id (t+off)) h
   ·rename_i v d b;rw [b] at c;generalize a:opd st.fr x=r at c;rw [decide_eq_true_eq] at d;cases c with
    | ref hv =>
     split at h
     ·rename_i q g;unfold afld at g;split at g
      ·cases hv with
       | agg p =>
        obtain ⟨u,m,e⟩:=aVR g p;exact tA i (v := .ref u) (by simp [aX,j,l,k,d,a,fad,fld,m,bnd]) (.ref e) h
      grind
     grind
   grind
  grind
 grind
end
variable {τ : Tb} {env : List PV}
theorem aD3 {k k' c n} (h:den env (.lit k c)=some (.int k' n)):n=c:=by
 simp [den] at h;omega
theorem Mt.int {x k v} (h:Mt τ env (.nm x (.int k)) v):∃ n,v = .int k n/\den env x=some (.int k n):=by
 cases h with
 | nm c a b=>cases a with | int k n=>grind
theorem Mt.str {x v} (h:Mt τ env (.nm x .str) v):∃ s,v = .str s/\den env x=some (.str s)/\s.length<=topL:=by
 cases h with
 | nm d a c=>cases a with | str b=>grind
theorem aSW {a v} (h:isB a=true) (c:Mt τ env a v):∃ b,v = .bool b:=by
 have:=aLy (τ:=τ) (env:=env) (fs:=[]) (by simp) h c;cases this with
 | bool b=>simp
theorem bGV {fs} (i:∀ f,f∈fs->gN env f):∀ {y k m},nn0 fs y=true->den env y=some (.int k m)->0<=m
 | .lit _ c,k,m,h,d=>by
  have:=aD3 d;simp [nn0] at h;omega
 | .root r,k,m,h,d=>by
  obtain ⟨a,b,g,e,j⟩:=zI (aGI h i);have:=g.lit;have:=e.inj ⟨_,d⟩;omega
 | .cell _ _,_,_,h,_=>by simp [nn0] at h
 | .elem _ _,_,_,h,_=>by simp [nn0] at h
 | .txt _,_,_,h,_=>by simp [nn0] at h
 | .len _,_,_,h,_=>by simp [nn0] at h
 | .suc _,_,_,h,_=>by simp [nn0] at h
theorem bHG {k:IntKind} (h:k.signed=false) n:0<=k.wrap n:=by
 cases k<;>simp [IntKind.signed] at h<;>simp [IntKind.wrap,IntKind.signed]<;>omega
theorem bHH {fs} (E:∀ f,f∈fs->gN env f) {q a b v w u x y} (h:abin fs q a b w=some (v,u)) (B:Mt τ env a x) (o:Mt τ env b y) (z:w=env.length) :
  ∃ r l,bin q x y=some r/\u=(env++l).length/\Mt τ (env++l) v r:=by
 have i:∀ {r} {v},bin q x y=some r->Mt τ env v r->∃ r l,bin q x y=some r/\w=(env++l).length/\Mt τ (env++l) v r :=
  fun A hv=>⟨_,[],A,by simpa using z,by simpa using hv⟩
 have g:∀ {r} {k} {n},bin q x y=some r->r = .int k n->∃ r l,bin q x y=some r/\w+1=(env++l).length/\Mt τ (env++l) (.nm (.root w) (.int k)) r:=by
  rintro _ k n A rfl;refine ⟨_,[.int k n],A,by simp [z],.nm ?_ (.int k n) rfl⟩;simp [den];rw [z];exact aMx env _
 unfold abin at h;split at h
 ·rename_i F k I k';obtain ⟨n,rfl,j⟩:=B.int;obtain ⟨m,rfl,d⟩:=o.int;split at h
  ·split at h;· rename_i p;cases h;have:=bGV E p d;exact g (by simp only [bin];rw [if_neg (by omega)]) rfl
   simp at h
  ·split at h;· rename_i p;cases h;have:=bGV E p d;exact g (by simp only [bin];rw [if_neg (by omega)]) rfl
   simp at h
  rename_i H J;split at h;· simp at h
  rename_i C;rw [decide_eq_true_eq] at C;subst C;split at h;· cases h;exact i (r := .bool (n==m)) (by simp [bin,sQ]) (.cn ⟨_,n,_,m,j,d,rfl⟩)
  ·cases h;exact i (r := .bool (n != m)) (by simp [bin,sQ]) (.cn ⟨_,n,_,m,j,d,by simp [CO.ev,bne]⟩)
  ·cases h;exact i (r := .bool (n<m)) (by simp [bin,sQ]) (.cn ⟨_,n,_,m,j,d,rfl⟩)
  ·cases h;exact i (r := .bool (n<=m)) (by simp [bin,sQ]) (.cn ⟨_,n,_,m,j,d,rfl⟩)
  ·cases h;exact i (r := .bool (n>m)) (by simp [bin,sQ]) (.cn ⟨_,m,_,n,d,j,rfl⟩)
  ·cases h;exact i (r := .bool (n≥m)) (by simp [bin,sQ]) (.cn ⟨_,m,_,n,d,j,rfl⟩)
  ·split at h;· cases h;have:=aD3 d;subst this;exact i (r := .int k (k.wrap (n+1))) (by simp [bin,sQ]) (.nm (by simp [den,j,bnd]) (.int _ _) rfl)
   cases h;exact g (r := .int k (k.wrap (n+m))) (by simp [bin,sQ]) rfl
  ·cases h;exact g (r := .int k (k.wrap (n-m))) (by simp [bin,sQ]) rfl
  ·cases h;exact g (r := .int k (k.wrap (n*m))) (by simp [bin,sQ]) rfl
  ·cases h;exact g (r := .int k (bits .and k n m)) (by simp [bin,sQ]) rfl
  ·cases h;exact g (r := .int k (bits .or k n m)) (by simp [bin,sQ]) rfl
  ·cases h;exact g (r := .int k (bits .xor k n m)) (by simp [bin,sQ]) rfl
  ·cases h;exact g (r := .int k (bits .andNot k n m)) (by simp [bin,sQ]) rfl
  ·split at h
   ·rename_i G c;split at h;· simp at h
    rename_i p;cases h;have:=aD3 d;subst this;exact g (r := .int k (k.wrap (n.tdiv m))) (by simp [bin,sQ,p]) rfl
   simp at h
  ·split at h
   ·rename_i G c;split at h;· simp at h
    rename_i p;cases h;have:=aD3 d;subst this;exact g (r := .int k (n.tmod m)) (by simp [bin,sQ,p]) rfl
   simp at h
  simp at h
 ·rename_i F;obtain ⟨s,rfl,j,_⟩:=B.str;obtain ⟨t,rfl,d,_⟩:=o.str;simp [den] at d;subst d;have e:(s==[])=decide ((s.length:Int)<=0):=by cases s<;>simp
  have D:den env (.len F)=some (.int .i64 s.length):=by simp [den,j,bnd,lenOf]
  split at h;· cases h;exact i (r := .bool (s==[])) rfl (.cn ⟨_,s.length,_,0,D,rfl,e⟩)
  ·cases h;exact i (r := .bool (!(s==[]))) rfl (.cn ⟨_,s.length,_,0,D,rfl,by rw [Bool.not_not];exact e⟩)
  simp at h
 ·obtain ⟨s,rfl,j,_⟩:=B.str;obtain ⟨t,rfl,d,_⟩:=o.str;split at h<;>first | (cases h;exact i (v := .cn .unk) (r := .bool _) rfl (.cn trivial)) | simp at h
 simp at h
theorem bCd:∀ {j xs ys vs ws},(j.all fun l=>match nth xs l.1,nth ys l.1 with | some a,some b=>aVO l.2 a b | _,_=>false)=true->Mts τ env xs vs->Mts τ env ys ws->∃ b,eqAt vs ws j=some b
 | [],_,_,_,_,_,_,_=>⟨true,rfl⟩
 | (i,k)::j,xs,ys,vs,ws,h,o,p=>by
  simp only [aaL,aa0] at h;obtain ⟨c,y⟩:=bCd h.2 o p;have e:=h.1;split at e
  ·rename_i a b A C;obtain ⟨v,hv,g⟩:=o.nth A;obtain ⟨w,r,f⟩:=p.nth C;have B:gt vs i=v:=by simp [gt,hv]
   have x:gt ws i=w:=by simp [gt,r]
   have:∃ d,aFV k v w=some d:=by
    unfold aVO at e;split at e;· rw [decide_eq_true_eq] at e;subst e;obtain ⟨n,rfl,_⟩:=g.int;obtain ⟨m,rfl,_⟩:=f.int;exact ⟨n==m,by simp [aFV]⟩
    ·obtain ⟨s,rfl,_,_⟩:=g.str;obtain ⟨t,rfl,_,_⟩:=f.str;exact ⟨s==t,rfl⟩
    ·rw [aa0] at e;obtain ⟨u,rfl⟩:=aSW e.1 g;obtain ⟨q,rfl⟩:=aSW e.2 f;exact ⟨u==q,rfl⟩
    grind
   obtain ⟨d,z⟩:=this;exact ⟨d&&c,by simp [eqAt,B,x,z,y]⟩
  grind
section
variable {P : Program} {mt : Hints} {nt : Nat} {C : Cfg} {O : Orc} {o : Oper} {A : ASt} {st : St} {K : AK}
theorem bHI {op t u x y} (hG:Good C.τ env A st) (i:o.op = .binOp op t x y u) (h:aOp P mt nt C o A K=true):uJ P mt nt O C.τ env o A st K:=by
 simp [aOp,i] at h;have hx:=Mt.opd hG.fr x;have hy:=Mt.opd hG.fr y;have hev:aX P mt nt O o st some=yT P nt o op t (opd st.fr x) (opd st.fr y) some:=by simp [aX,i]
 have prim:(yT P nt o op t (opd st.fr x) (opd st.fr y) some=bnd (bin op (opd st.fr x) (opd st.fr y)) fun v=>some ({ws:=dstW nt o.dst v}:Eff)) ->
   bB2 nt o op (aopd A.fr x) (aopd A.fr y) A K=true->uJ P mt nt O C.τ env o A st K:=by
  intro B h;unfold bB2 at h;split at h;· rename_i v I a;obtain ⟨r,l,w,q,G⟩:=bHH hG.fs a hx hy hG.nx;exact aF4 hG l (by rw [hev,B,w];rfl) (.dst G nt o.dst) (fun f D=>(hG.fs f D).mono l) q h
  simp at h
 have cmp:∀ (neg:Bool),(op=if neg then .neq else .eql)->aCmp P nt o op t (aopd A.fr x) (aopd A.fr y) A K=true->uJ P mt nt O C.τ env o A st K:=by
  intro neg hop h;unfold aCmp at h;split at h;· rename_i k hu;exact prim (by cases neg<;>subst hop<;>simp [yT,hu]<;>rfl) h
  ·rename_i hu;exact prim (by cases neg<;>subst hop<;>simp [yT,hu]<;>rfl) h
  ·rename_i hu;split at h;· rename_i hb;rw [aa0] at hb;obtain ⟨g,e1⟩:=aSW hb.1 hx;obtain ⟨e,e2⟩:=aSW hb.2 hy;refine tA hG (v := .bool (if neg then !(g==e) else (g==e))) ?_ (.cn (c := .unk) trivial) h;rw [hev,e1,e2];cases neg<;>subst hop<;>simp [yT,hu]<;>rfl
   simp at h
  ·rename_i fs hu;split at h
   ·rename_i n p xs ys e1 e2 z F hb;split at h
    ·rename_i j;simp only [aa0] at j;obtain ⟨⟨c1,b⟩,s⟩:=j;rw [F] at hx;rw [hb] at hy;generalize hxv:opd st.fr x=H at hx;generalize hyv:opd st.fr y=J at hy;cases hx with
     | agg hxs =>
      cases hy with
      | agg hys =>
       rename_i vs ws;obtain ⟨d,E⟩:=bCd s hxs hys;have c1:=aap c1;have b:=aap b;have m:eqs n p (.agg vs) (.agg ws)=some d:=by
        simp only [eqs];rw [if_pos ⟨by rw [<- hxs.len,c1],by rw [<- hys.len,b]⟩,E]
       refine tA hG (v := .bool (if neg then !d else d)) ?_ (.cn (c := .unk) trivial) h;rw [hev,hxv,hyv];cases neg<;>subst hop<;>simp [yT,hu,e1,e2,z,m]<;>rfl
    simp at h
   simp at h
  simp at h
 cases op;case eql=>exact cmp false rfl h
 case neq=>exact cmp true rfl h
 all_goals exact prim rfl h
theorem bJt {l t x} (e:Good C.τ env A st) (g:o.op = .unOp l t x) (h:aOp P mt nt C o A K=true):uJ P mt nt O C.τ env o A st K:=by
 simp [aOp,g] at h;have d:=Mt.opd e.fr x;split at h
 ·rename_i c f;rw [f] at d;generalize i:opd st.fr x=p at d;cases d with
  | cn j =>
   rename_i b;refine tA e (v := .bool (!b)) (by simp [aX,g,i,un,bnd]) (.cn ?_) h;show CnOk env c (!(!b));grind
 ·rename_i y f;rw [f] at d;obtain ⟨b,j⟩:=aSW (a := .nm y .bool) rfl d;exact tA e (v := .bool (!b)) (by simp [aX,g,j,un,bnd]) (.cn (c := .unk) trivial) h
 ·rename_i y k f;rw [f] at d;obtain ⟨n,m,_⟩:=d.int;exact aMB e (v := .int k (k.wrap (0-n))) (by simp [aX,g,m,un,bnd]) (Mt.newInt e _ _) h
 grind
theorem aVU {s d x} (a:Good C.τ env A st) (g:o.op = .convert s d x) (h:aOp P mt nt C o A K=true):uJ P mt nt O C.τ env o A st K:=by
 simp [aOp,g] at h;have e:=Mt.opd a.fr x;split at h
 ·rename_i r k y p m l i;rw [i] at e;obtain ⟨n,j,q⟩:=e.int;refine aF4 a [.int k (k.wrap n)] (ws:=dstW nt o.dst (.int k (k.wrap n))) (by simp [aX,g,aHn,m,l,j,bEb,bnd]) (.dst (Mt.newInt a _ _) nt o.dst) ?_ (by simp [a.nx]) h;intro f b;split at b;· exact (a.fs f b).mono _
  rename_i c;rcases aa3.1 b with rfl | b;· exact ⟨_,0,_,_,rfl,aMC a _,by simp only [CO.ev];symm;rw [decide_eq_true_eq];exact bHG c n⟩
  exact (a.fs f b).mono _
 grind
theorem aQM {t x i} (hG:Good C.τ env A st) (ho:o.op = .indexAddr t x i) (h:aOp P mt nt C o A K=true):uJ P mt nt O C.τ env o A st K:=by
 simp [aOp,ho] at h;have hx:=Mt.opd hG.fr x;have hi:=Mt.opd hG.fr i;split at h
 ·split at h
  ·rename_i n D;split at h
   ·rename_i v hv;unfold aIx at hv;split at hv
    ·rename_i p w c m s e j d f;rw [d] at hx;rw [f] at hi;obtain ⟨z,q,hdz⟩:=hi.int;generalize hxv:opd st.fr x=r at hx;cases hx with
     | sl hd a g u =>
      rename_i es F k' z';split at hv
      ·rename_i b;cases hv;obtain ⟨B,E,c3,k⟩:=b;have l:=bB6 c3 hG.fs hdz (.inl rfl);obtain ⟨n',y,g1,g2,g3⟩:=aYb k hG.fs;have:=g1.inj ⟨_,hdz⟩;subst this;rw [hd] at g2;cases g2;have hlt:n'.toNat<es.length:=by simp [lenOf] at g3;omega
       have hnth:nth es n'.toNat=some es[n'.toNat]:=by rw [jU];simp
       have hok:=a _ (aaK hlt);have hcl:=hok.cells;have hne  := by omega
       refine tA hG (v := .ref es[n'.toNat]) ?_ (.ref (aQJ ?_ hok)) h;· simp [aX,ix,bnd];grind
       simp [den,hd,hdz,bnd,bBW,hnth]
      grind
    grind
   grind
  grind
 grind
theorem bCe {t x i} (a:Good C.τ env A st) (k:o.op = .index t x i) (h:aOp P mt nt C o A K=true):uJ P mt nt O C.τ env o A st K:=by
 simp [aOp,k] at h;have l:=Mt.opd a.fr x;have g:=Mt.opd a.fr i;split at h
 ·rename_i p j q B r;split at h
  ·rename_i f;rw [aa0] at f;rw [B] at l;rw [r] at g;obtain ⟨s,w,y,E⟩:=l.str;obtain ⟨z,m,c⟩:=g.int;have D:=bB6 f.1 a.fs c (.inl rfl);obtain ⟨d,F,g1,g2,u⟩:=aYb f.2 a.fs;have:=g1.inj ⟨_,c⟩;subst this;rw [y] at g2;cases g2;have n  := by simp [lenOf] at u;omega
   have b:nth s d.toNat=some s[d.toNat]:=by rw [jU];simp
   have e:¬ d<0:=by omega
   exact aMB a (v := .int .u8 s[d.toNat].toNat) (by simp [aX,k,q,w,m,aU8,if_neg e,b,bnd]) (Mt.newInt a _ _) h
  grind
 grind
theorem bCf {t x e} (c:Good C.τ env A st) (m:o.op = .slice t x none (some e) none) (h:aOp P mt nt C o A K=true):uJ P mt nt O C.τ env o A st K:=by
 simp [aOp,m] at h;have g:=Mt.opd c.fr x;have f:=Mt.opd c.fr e;split at h
 ·rename_i p k n k' D w r;split at h
  ·rename_i i;rw [aa0,decide_eq_true_eq] at i;rw [w] at g;rw [r] at f;obtain ⟨s,G,H,E⟩:=g.str;obtain ⟨z,y,d⟩:=f.int;have:=aD3 d;obtain ⟨a,b,l,q,F⟩:=zI (aGI i.2 c.fs);have B:=l.lit;obtain ⟨v,hv,u⟩:=q.len;simp [lenOf] at u;have j  := by omega
   refine aMB c (v := .str ((s.take z.toNat).drop 0)) ?_ (.nm (aMC c _) (.str (by grind)) rfl) h;simp [aX,yS,aZg,aDx,bnd,aIZ];grind
  grind
 grind
theorem aVV {x i} (c:Good C.τ env A st) (d:o.op = .extract x i) (h:aOp P mt nt C o A K=true):uJ P mt nt O C.τ env o A st K:=by
 simp [aOp,d] at h;have a:=Mt.opd c.fr x;split at h
 ·rename_i vs g;rw [g] at a;generalize b:opd st.fr x=k at a;cases a with
  | tup f =>
   split at h;· rename_i v hv;obtain ⟨w,e,j⟩:=f.nth hv;exact tA c (v:=w.plain) (by simp [aX,d,b,ext,e,bnd]) j.plain h
   grind
 grind
end
mutual
def bX:PV->Nat
 | .slice es _ _=>1+gC es
 | .agg cs=>1+gC cs
 | .str s=>1+s.length
 | _=>1
def gC:List PV->Nat
 | []=>0
 | v::vs=>bX v+gC vs
end
theorem rY {v}:∀ {vs},v∈vs->bX v<=gC vs
 | w::vs,h=>by
  simp [gC];rcases aa3.1 h with rfl | h;· omega
  have:=rY h;omega
theorem aVW {α} {l:List α} {i x} (h:nth l i=some x):x∈l:=by
 rw [jU] at h;grind
theorem aFg {v w c} (h:nth v.cells c=some w):bX w<=bX v/\(∀ cs,v = .agg cs->bX w<bX v):=by
 have key:∀ cs,v = .agg cs->bX w<bX v:=by
  rintro cs rfl;have:=rY (aVW h);simp [bX];simp [PV.cells] at this;omega
 refine ⟨?_,key⟩;cases v with
 | agg cs=>grind
 | _ =>
  have:=aVW h;simp [PV.cells] at this;subst this;exact by omega
theorem aMD {v w c} (h:nth (bBW v) c=some w):bX w<bX v:=by
 cases v with
 | slice es a o =>
  have:=rY (aVW h);simp [bX];simp [bBW] at this;omega
 | _=>simp [bBW,nth] at h
def RsOk (τ:Tb) (outs:List El) (r:PV):Prop :=
 match outs with
 | [e]=>ElOk τ e r
 | es=>∃ vs,r = .tuple vs/\ElsOk τ es vs
def aVX (sm:Summ) (args:List PV):Prop:=sm.cap=0∨∀ v,v∈args->bX v<=sm.cap
structure Me (C:Cfg) (v0:PV) (env:List PV):Prop where
 me:C.recs≠[]->den env (.root C.me)=some v0
 cap:∀ r,r<C.np->∃ v,den env (.root r)=some v/\bX v<=C.cap
structure Hyp (C:Cfg) (O:Orc) (v0:PV):Prop where
 sums:∀ f sm,(f,sm)∈C.sums->∀ args,ElsOk C.τ sm.ins args->aVX sm args->∃ r,O f args []=some (r,[])/\RsOk C.τ sm.outs r
 recs:∀ f sm k,(f,sm,k)∈C.recs->∀ args a,ElsOk C.τ sm.ins args->aVX sm args->nth args k=some a->bX a<bX v0->∃ r,O f args []=some (r,[])/\RsOk C.τ sm.outs r
 ag:C.recs≠[]->C.meAg=true->∃ cs,v0 = .agg cs
variable {τ : Tb} {env : List PV}
theorem aQN {r v0} (d:den env (.root r)=some v0):∀ {x v},aSS r x=true->den env x=some v->bX v<=bX v0
 | .root e,v,h,a=>by
  have:=aap h;grind
 | .cell p c,v,h,a=>by
  obtain ⟨w,b,a⟩:=aB a;exact aa5 (aFg a).1 (aQN d (x:=p) h b)
 | .elem p i,v,h,a=>by
  obtain ⟨w,b,a⟩:=aB a;obtain ⟨j,f,a⟩:=aB a;split at a;· exact aa5 (Nat.le_of_lt (aMD a)) (aQN d (x:=p) h b)
  grind
 | .lit _ _,_,h,_=>by simp [aSS] at h
 | .txt _,_,h,_=>by simp [aSS] at h
 | .len _,_,h,_=>by simp [aSS] at h
 | .suc _,_,h,_=>by simp [aSS] at h
theorem aME {f r v0} (g:den env (.root r)=some v0) (d:f=true->∃ cs,v0 = .agg cs):∀ {x v},aAH f r x=true->den env x=some v->bX v<bX v0
 | .cell p c,v,h,a=>by
  obtain ⟨w,b,a⟩:=aB a;have k:(∃ e,p = .root e/\f=true/\e=r)∨aAH f r p=true:=by
   cases p with
   | root e =>
    simp [aAH] at h;simp_all
   | _=>exact .inr (by first | (simp [aAH] at h;done) | simpa [aAH] using h)
  rcases k with ⟨e,rfl,m,rfl⟩ | k;· rw [g] at b;cases b;obtain ⟨cs,l⟩:=d m;exact (aFg a).2 cs l
  exact Nat.lt_of_le_of_lt (aFg a).1 (aME g d k b)
 | .elem p i,v,h,a=>by
  obtain ⟨w,b,a⟩:=aB a;obtain ⟨j,n,a⟩:=aB a;split at a;· exact aaF (aMD a) (aQN g (by simpa [aAH] using h) b)
  grind
 | .root _,_,h,_=>by simp [aAH] at h
 | .lit _ _,_,h,_=>by simp [aAH] at h
 | .txt _,_,h,_=>by simp [aAH] at h
 | .len _,_,h,_=>by simp [aAH] at h
 | .suc _,_,h,_=>by simp [aAH] at h
theorem aQO {x l v} (h:Mt τ env (.nm x l) v):den env x=some v:=by
 cases h with
 | nm a c b=>exact a
theorem aLz {x i n c m a v} (h:Mt τ env (.sl x n c m i a) v):∃ w,den env x=some w/\bX v=bX w:=by
 cases h with
 | sl b e d f=>exact ⟨_,b,by simp [bX]⟩
theorem aI9 {q w} (g:den env q=some w):∀ {c vs} j,aGH q j c=true->Mts τ env c vs->gC vs<=gC (w.cells.drop j)/\(c≠[]->j+c.length<=w.cells.length)
 | [],[],j,_,.nil=>by simp [gC]
 | a::c,v::vs,j,h,.cons i l=>by
  simp [aGH] at h;obtain ⟨o,n⟩:=aI9 g (j+1) h.2 l;have k:∃ u,den env (.cell q j)=some u/\bX v=bX u:=by
   have d:=h.1;cases a<;>simp at d<;>first | (cases d;done) | skip
   ·subst d;exact ⟨_,aQO i,rfl⟩
   subst d;exact aLz i
  obtain ⟨u,f,e⟩:=k;simp [den,g,bnd] at f;rw [jU] at f;obtain ⟨m,p⟩:=aa2.1 f;rw [abd m];simp [gC];cases c with
  | nil=>grind
  | cons b c=>grind
theorem aGJ:∀ l j,gC (l.drop j)<=gC l
 | _,0=>by simp
 | [],j+1=>by simp
 | v::l,j+1=>by have:=aGJ l j;simp [gC];omega
theorem bCg {m r v0} (i:den env (.root r)=some v0) (c:m=true->∃ cs,v0 = .agg cs) {a v} (h:bBZ m r a=true) (n:Mt τ env a v):bX v<bX v0:=by
 unfold bBZ at h;split at h;· obtain ⟨w,f,e⟩:=aLz n;rw [e];exact aME i c h f
 ·rename_i q j l a y;rw [aa0] at h;cases n with
  | agg k =>
   have s:∃ u,den env (.cell q j)=some u:=by
    cases k with
    | cons x _=>exact ⟨_,aQO x⟩
   obtain ⟨u,p⟩:=s;obtain ⟨w,f,_⟩:=aB p;obtain ⟨t,o⟩:=aI9 f j h.2 k;have d:=o (by simp);have g:=aME i c h.1 f;have b:∃ cs,w = .agg cs:=by
    cases w with
    | agg cs=>simp
    | _=>simp [PV.cells] at d;omega
   obtain ⟨cs,rfl⟩:=b;have:=aGJ cs j;simp [PV.cells] at t;simp [bX] at g ⊢;omega
 grind
theorem aFh {d cap} (e:∀ r,r<d->∃ v,den env (.root r)=some v/\bX v<=cap):∀ {x v},aK4 d x=true->den env x=some v->bX v<=cap
 | .root r,v,h,a=>by
  simp [aK4] at h;grind
 | .cell p c,v,h,a=>by
  obtain ⟨w,b,a⟩:=aB a;exact aa5 (aFg a).1 (aFh e (x:=p) h b)
 | .elem p i,v,h,a=>by
  obtain ⟨w,b,a⟩:=aB a;obtain ⟨j,f,a⟩:=aB a;split at a;· exact aa5 (Nat.le_of_lt (aMD a)) (aFh e (x:=p) h b)
  grind
 | .lit _ _,_,h,_=>by simp [aK4] at h
 | .txt _,_,h,_=>by simp [aK4] at h
 | .len _,_,h,_=>by simp [aK4] at h
 | .suc _,_,h,_=>by simp [aK4] at h
theorem aSX {q j e a f vs u} (i:den env (.cell q j)=some u) (h:aGH q j (e::a::f)=true) (k:Mts τ env (e::a::f) vs):∃ w,den env q=some w/\bX (.agg vs)<=bX w:=by
 obtain ⟨w,d,_⟩:=aB i;obtain ⟨l,g⟩:=aI9 d j h k;have c:=g (by simp);have b:∃ cs,w = .agg cs:=by
  cases w with
  | agg cs=>simp
  | _=>simp [PV.cells] at c;omega
 obtain ⟨cs,rfl⟩:=b;refine ⟨_,d,?_⟩;have:=aGJ cs j;simp [PV.cells] at l;simp [bX];omega
theorem bHJ {y cap} (t:1<=cap) (p:∀ r,r<y->∃ v,den env (.root r)=some v/\bX v<=cap) {a v} (h:capA y a=true) (f:Mt τ env a v):bX v<=cap:=by
 unfold capA at h;split at h
 ·cases f with
  | nm g k b=>cases k<;>first | exact aFh p h g | (exact t) | simp [isSl] at b
 ·cases f;exact t
 ·cases f;exact t
 ·obtain ⟨w,d,e⟩:=aLz f;rw [e];exact aFh p h d
 ·rename_i q j l a z;rw [aa0] at h;cases f with
  | agg b =>
   have g:∃ u,den env (.cell q j)=some u:=by
    cases b with
    | cons x _=>exact ⟨_,aQO x⟩
   obtain ⟨u,s⟩:=g;obtain ⟨w,d,k⟩:=aSX s h.2 b;exact aa5 k (aFh p h.1 d)
 ·rename_i q j n c m i o a z;rw [aa0] at h;cases f with
  | agg b =>
   have g:∃ u,den env (.cell q j)=some u:=by
    cases b with
    | cons x _=>obtain ⟨w,d,_⟩:=aLz x;grind
   obtain ⟨u,s⟩:=g;obtain ⟨w,d,k⟩:=aSX s h.2 b;exact aa5 k (aFh p h.1 d)
 grind
theorem aYi {b cap} (d:1<=cap) (c:∀ r,r<b->∃ v,den env (.root r)=some v/\bX v<=cap):∀ {a vs},a.all (capA b)=true->Mts τ env a vs->∀ v,v∈vs->bX v<=cap
 | _,_,_,.nil,v,h=>by grind
 | _,_,h,.cons e f,v,hv=>by
  simp only [aaL,aa0] at h;rcases aa3.1 hv with rfl | hv;· exact bHJ d c h.1 e
  exact aYi d c h.2 f v hv
theorem bCh {C v0} (f:Me C v0 env) {d c vs} (h:capC C d c=true) (g:Mts τ env c vs):aVX d vs:=by
 unfold capC at h;rw [aay] at h;rcases h with h | h;· exact .inl (aap h)
 rw [aa0,aa0] at h;obtain ⟨⟨b,a⟩,e⟩:=h;have b:=ab3 b;have a:=ab3 a;exact .inr fun v hv=>aa5 (aYi b f.cap e g v hv) a
theorem aLA:∀ {es vs env},ElsOk τ es vs->Mts τ (env++vs) (bBY env.length es) vs
 | _,_,_,.nil => .nil
 | _,_,env,.cons (e:=e) (es:=es) (v:=v) (vs:=vs) h a=>by
  have b:env++v::vs=(env++[v])++vs:=by simp
  rw [b];refine .cons ((aQJ (show den (env++[v]) (.root env.length)=some v from aMx env v) h).mono vs) ?_;have:=aLA (env:=env++[v]) a;grind
theorem ElsOk.len:∀ {es vs},ElsOk τ es vs->es.length=vs.length
 | _,_,.nil=>rfl
 | _,_,.cons _ a=>by simp [a.len]
theorem bHK {a r} (h : RsOk τ a r) : ∃ l, l.length = a.length /\ Mt τ (env ++ l) (aRes a env.length) r := by
  unfold RsOk at h;unfold aRes;split at h;· exact ⟨[r], rfl, aQJ (show den (env ++ [r]) (.root env.length) = some r from aMx env r) h⟩
  obtain ⟨vs, rfl, b⟩ := h;refine ⟨vs, b.len.symm, ?_⟩;first
    | exact .tup (aLA b)
    | (split;· grind
       exact .tup (aLA b))
section
variable {P : Program} {mt : Hints} {nt : Nat} {C : Cfg} {O : Orc} {o : Oper} {A : ASt} {st : St} {K : AK}
theorem FrOk.lefts {a v} (h:FrOk τ env a v) b:∀ (xs:List Operand),FrOk τ env (xs.flatMap (aQA a b)) (xs.flatMap (Go.Ev.left v b))
 | [] => .nil
 | x::xs=>by
  exact (h.left b x).app (FrOk.lefts h b xs)
theorem Mts.opvs {a v} (h:FrOk τ env a v) b:∀ (xs:List Operand),Mts τ env (xs.map (aopv a b)) (xs.map (opv v b))
 | [] => .nil
 | x::xs => .cons (.opv h b x) (Mts.opvs h b xs)
theorem bEN {b vs} (h:Mts τ env b vs) {i a} (c:nth b i=some a):∃ v,nth vs i=some v/\Mt τ env a v:=h.nth c
theorem bEO {c v0} (hH:Hyp C O v0) (hme:Me C v0 env) (d:Good C.τ env A st) (ho:o.op = .call c) (h:aOp P mt nt C o A K=true):uJ P mt nt O C.τ env o A st K:=by
 simp only [aOp,ho] at h;have M:aX P mt nt O o st some=lW P mt nt O o c st some:=by simp only [aX,ho]
 unfold bJq at h;split at h
 ·rename_i g U;have N:=Mts.opvs d.fr (hasO mt.takes o.dst) c.args.toList;simp only at h;split at h;· simp at h
  ·rename_i D;simp only [aa0,Bool.not_eq_true',Option.isNone_iff_eq_none] at D;obtain ⟨⟨⟨⟨c1,c2⟩,c3⟩,c4⟩,c5⟩:=D;have L:∀ {sm:Summ} {r},O g (c.args.toList.map (opv st.fr (hasO mt.takes o.dst))) []=some (r,[])->RsOk C.τ sm.outs r ->
     K {ws:=adst nt o.dst (aRes sm.outs A.nx)++c.args.toList.flatMap (aQA A.fr (hasO mt.takes o.dst))} A.fs (A.nx+sm.outs.length)=true->uJ P mt nt O C.τ env o A st K:=by
    intro sm r hr Z hk;obtain ⟨l,S,H⟩:=bHK (env:=env) Z;have Y:=aMz N c5;refine aF4 d l (ws:=dstW nt o.dst r++c.args.toList.flatMap (left st.fr (hasO mt.takes o.dst))) ?_ ((FrOk.dst (by rw [d.nx];exact H) nt o.dst).app ((d.fr.lefts _ _).mono l)) (fun f I=>(d.fs f I).mono l) (by rw [d.nx];simp [S]) hk;rw [M];unfold lW;rw [U];simp only [opd,aai,aac,c1,c2,c3,c4,aBA,Y,cnd,hr,bnd]
   split at h
   ·rename_i f sm R;split at h;· rename_i j;rw [aa0] at j;have F:=abK R;have hp:=List.find?_some R;have:=aap hp;simp only at this;subst this;obtain ⟨r,hr,Z⟩:=hH.sums _ _ F _ (aD2 d.fs j.1 N) (bCh hme j.2 N);exact by grind
    ·simp at h
   ·split at h
    ·rename_i f sm k R;split at h
     ·rename_i j;rw [aa0,aa0] at j;have F:=abK R;have hp:=List.find?_some R;have:=aap hp;simp only at this;subst this;have J:=j.2;split at J
      ·rename_i a V;obtain ⟨v,hv,H⟩:=bEN N V;have hne:C.recs≠[]:=by intro e;rw [e] at F;simp at F
       obtain ⟨r,hr,Z⟩:=hH.recs _ _ _ F _ v (aD2 d.fs j.1.1 N) (bCh hme j.1.2 N) hv (bCg (hme.me hne) (hH.ag hne) J H);exact by grind
      ·simp at J
     ·simp at h
    ·simp at h
 ·rename_i U;split at h
  ·rename_i x t hx ht;have H:=Mt.opd d.fr x;dsimp only at h;split at h
   ·rename_i y hu V;rw [V] at H;obtain ⟨s,hs,Q,S⟩:=H.str;refine aF4 d [] (ws:=dstW nt o.dst (.int .i64 s.length)) ?_ (.dst (.nm ?_ (.int _ _) rfl) nt o.dst) ?_ (by simpa using d.nx) h;· rw [M];unfold lW;simp only [U,hx,ht,hu,hs,len,lenN,bnd]
    ·simp [aac,den,Q,bnd,lenOf]
    intro f I;simp [aac];rcases aa3.1 I with rfl | I;· exact ⟨.i64,s.length,.i64,topL,by simp [den,Q,bnd,lenOf],rfl,by simp [CO.ev];exact S⟩
    exact d.fs f I
   ·rename_i e y w c' m i own hu V;rw [V] at H;generalize W:opd st.fr x=xv at H;cases H with
    | sl Q X hi S =>
     rename_i es o1 k' z';refine aF4 d [] (ws:=dstW nt o.dst (.int .i64 es.length)) ?_ (.dst (.nm ?_ (.int _ _) rfl) nt o.dst) ?_ (by simpa using d.nx) h;· rw [M];unfold lW;simp [U,hx,ht,hu,W,len,lenN,bnd]
     ·simp [aac,den,Q,bnd,lenOf]
     intro f I;simp [aac];split at I
     ·rcases aa3.1 I with rfl | I;· exact ⟨.i64,es.length,.i64,c',by simp [den,Q,bnd,lenOf],rfl,by simp [CO.ev];omega⟩
      exact d.fs f I
     ·rename_i kk z _;rcases aa3.1 I with rfl | I;· have:=aD3 hi;subst this;exact ⟨.i64,es.length,.i64,_,by simp [den,Q,bnd,lenOf],rfl,by simp only [CO.ev];symm;rw [decide_eq_true_eq];exact_mod_cast S⟩
      exact d.fs f I
     exact d.fs f I
   ·rename_i e own hu V;rw [V] at H;generalize W:opd st.fr x=xv at H;cases H with
    | nil _ =>
     exact tA d (v := .int .i64 0) (by rw [M];unfold lW;simp only [U,hx,ht,hu,W,len,lenN,bnd,aaH];rfl) (.nm rfl (.int _ _) rfl) h
   ·simp at h
  ·simp at h
 ·rename_i U;split at h
  ·rename_i x y t u hx ht;split at h
   ·rename_i e e' hu1 hu2;split at h
    ·rename_i i hi;split at h
     ·rename_i D;obtain ⟨c1,c2,c3,c4⟩:=D;rw [Option.isNone_iff_eq_none] at c4;dsimp at h;split at h
      ·rename_i v nx b;have E:=Mt.opd d.fr x;have B:=Mt.opd d.fr y;have L:∀ {r} l,apd i.size (opd st.fr x) (opd st.fr y)=some r->Mt C.τ (env++l) v r->nx=(env++l).length->uJ P mt nt O C.τ env o A st K:=by
        intro r l hr H hn;refine aF4 d l (ws:=dstW nt o.dst r++left st.fr true x) ?_ ((FrOk.dst H nt o.dst).app ((d.fr.left true x).mono l)) (fun f I=>(d.fs f I).mono l) hn h;rw [M];unfold lW;simp [U,hx,ht,hu1,hu2,hi,c1,c2,c3,c4,and_self,if_true,hr,bnd]
       unfold aapd at b;generalize hxa:aopd A.fr x=xa at b E;generalize hya:aopd A.fr y=ya at b B;generalize W:opd st.fr x=xv at E L;generalize hyv:opd st.fr y=yv at B L;split at b
       ·cases b;cases E with
        | nil _ =>
         cases B with
         | nil _ =>
          refine L [] (r := .slice [] [] true) ?_ (.nil true) (by simpa using d.nx);simp [apd,szOk]
       ·split at b
        ·rename_i k hk;split at b
         ·rename_i S;cases b;cases E with
          | nil _ =>
           cases B with
           | sl Q X G T =>
            rename_i es o1 k' z';have h3:=aQE hk d.fs G;refine L [] (r := .slice es [] true) ?_ (by simpa using Mt.sl Q X G T) (by simpa using d.nx);simp only [apd,aai,aaH];rw [if_pos ⟨by omega,rfl,aQK X S.2⟩]
         simp at b
        simp at b
       ·split at b
        ·rename_i k hk;split at b
         ·rename_i S;cases b;cases B with
          | nil _ =>
           cases E with
           | sl Q X G T =>
            rename_i es o1 k' z';have h3:=aQE hk d.fs G;refine L [] (r := .slice es [] true) ?_ (by simpa using Mt.sl Q X G T) (by simpa using d.nx);simp only [apd,aac,aaH];rw [if_pos ⟨by omega,aQK X S.2,rfl⟩]
         simp at b
        simp at b
       ·split at b
        ·rename_i k hk;split at b
         ·rename_i S;obtain ⟨l1,l2,l3,l4⟩:=S;subst l3 l4;cases b;cases E with
          | sl Q X G T =>
           rename_i es o1 k' z';cases B with
           | sl hd' he' hii' hle' =>
            rename_i es' o3 k'' z'';have h3:=aQE hk d.fs G;refine L [.slice (es++es') [] true] (r := .slice (es++es') [] true) ?_ ?_ (by simp [d.nx]);· simp only [apd];rw [if_pos ⟨by omega,aQK X l2,aQK he' l2⟩]
            refine .sl (aMC d _) ?_ (iP _ G) ?_
            ·intro a V;rcases aa6.1 V with h | h;· exact X a h
             exact he' a h
            simp;omega
         simp at b
        simp at b
       simp at b
      simp at h
     simp at h
    simp at h
   simp at h
  simp at h
 ·rename_i U;split at h
  ·rename_i x y hx;have E:=Mt.opd d.fr x;have B:=Mt.opd d.fr y;dsimp at h;split at h;· rename_i p k q k' hp hq;rw [hp] at E;rw [hq] at B;obtain ⟨n,hn,_⟩:=E.int;obtain ⟨m,H,_⟩:=B.int;exact aMB d (v := .int k (if m>n then m else n)) (by rw [M];unfold lW;simp [U,hx,hn,H,mx,bnd]) (Mt.newInt d _ _) h
   simp at h
  simp at h
 ·simp at h
theorem bGW {v0} (r:Hyp C O v0) (j:Me C v0 env) (e:Good C.τ env A st) (h:aOp P mt nt C o A K=true):uJ P mt nt O C.τ env o A st K:=by
 cases g:o.op with
 | move x =>
  simp [aOp,g] at h;exact aQH e (by simp [aX,g]) ((FrOk.dst (Mt.opv e.fr _ x) nt o.dst).app (e.fr.left _ x)) h
 | assign x =>
  simp [aOp,g] at h;exact aQH e (by simp [aX,g]) ((FrOk.dst (Mt.opv e.fr _ x) nt o.dst).app (e.fr.left _ x)) h
 | pick c a b=>exact bEL e g h
 | alloc t=>exact bCa e g h
 | box t x=>exact bHF e g h
 | build t ps=>exact bCb e g h
 | buildSlice t n ps=>exact aOk e g h
 | load t p=>exact bEM e g h
 | store t p x=>exact bCc e g h
 | nilCheck x=>exact aSV e g h
 | binOp q t x y u=>exact bHI e g h
 | unOp q t x=>exact bJt e g h
 | convert s d x=>exact aVU e g h
 | fieldAddr s x f=>exact aQL e g h
 | indexAddr t x i=>exact aQM e g h
 | index t x i=>exact bCe e g h
 | slice t x l k m =>
  cases l<;>cases k<;>cases m<;>first | exact bCf e g h | (simp [aOp,g] at h)
 | extract x i=>exact aVV e g h
 | call c=>exact bEO r j e g h
 | _=>simp [aOp,g] at h
end
section
variable {P : Program} {mt : Hints} {nt : Nat} {C : Cfg} {O : Orc} {env : List PV}
theorem aJa {τ} {e}:∀ n {o A st K},aFe e n o A K=true->Good τ env A st ->
  ∃ b d p,(∀ {R} (i:Bool->St->Option R),nX e n o st i=i b d)/\Good τ env p d/\K b p=true
 | 0,_,_,_,_,h,_=>by simp [aFe] at h
 | n+1,o,A,st,K,h,m=>by
  simp [aFe] at h;split at h;· rename_i j;exact ⟨true,st,A,fun i=>by simp [nX,j],m,h⟩
  rename_i g f j;split at h
  ·rename_i q r;split at h
   ·rename_i s y;obtain ⟨w,c,B,u,a,k⟩:=aJa n h m;cases w with
    | true =>
     obtain ⟨b,fs,hv,v,x⟩:=bB8 k (a.fr.get s) a.fs;refine ⟨b==f,{c with fr:=(s,.bool b)::c.fr},_,fun i => ?_,?_,v⟩;· simp [nX,j,r,y];rw [u];simp only [hv];cases b<;>rfl
     exact ⟨.cons (.cn rfl) a.fr,a.bx,x,a.nx⟩
    | false =>
     simp at k;split at k;· rename_i z;have l:=a.fr.get s;rw [z] at l;generalize t:gets c.fr s=C at l;cases l;simp [nX];grind
     grind
   grind
  grind
theorem Good.und {τ} {A st} (a:Good τ env A st) nt d:Good τ env {A with fr:=adst nt d .und++A.fr} {st with fr:=dstW nt d .und++st.fr} :=
 ⟨(FrOk.dst .und nt d).app a.fr,a.bx,a.fs,a.nx⟩
theorem Me.mono {v0} (h:Me C v0 env) l:Me C v0 (env++l) :=
 ⟨fun a=>iP l (h.me a),fun r a=>by obtain ⟨v,hv,b⟩:=h.cap r a;exact ⟨v,iP l hv,b⟩⟩
theorem bCi {v0} (j:Hyp C O v0) {d}:∀ a {env A st K},Me C v0 env->aOps P mt nt C d a A K=true->Good C.τ env A st ->
  ∃ c r l,(∀ {R} (f:St->Option R),qC P mt nt O d a st f=f c)/\Good C.τ (env++l) r c/\K r=true
 | [],env,A,st,K,_,h,p=>⟨st,A,[],fun f=>rfl,by grind,h⟩
 | o::a,env,A,st,K,m,h,p=>by
  obtain ⟨b,w,D,x,i,t⟩:=aJa _ h p;cases b with
  | true =>
   obtain ⟨e,B,fs,E,l,z,n,_,_,y⟩:=bGW j m i t;obtain ⟨g,q,v,s,k,u⟩:=bCi j a (m.mono l) y n;refine ⟨g,q,l++v,fun f => ?_,by grind,u⟩;simp [qC];rw [x];rw [jQ,z];exact s f
  | false =>
   obtain ⟨g,q,v,s,k,u⟩:=bCi j a m t (i.und nt o.dst);simp [qC];grind
theorem aVY {v0} (n:Hyp C O v0) {g}:∀ d i a {env A st K},Me C v0 env->bEJ P mt nt C g i d a A K=true->Good C.τ env A st ->
  ∃ c f u l,(∀ {R} (m:List (Nat×Foot)->St->Option R),eF P mt nt O g i d a st m=m c f)/\Good C.τ (env++l) u f/\K c u=true
 | [],i,a,env,A,st,K,_,h,s=>⟨a,st,A,[],fun m=>rfl,by grind,h⟩
 | o::d,i,a,env,A,st,K,q,h,s=>by
  obtain ⟨b,B,J,D,k,w⟩:=aJa _ h s;cases b with
  | true =>
   obtain ⟨e,H,fs,L,l,F,r,I,G,E⟩:=bGW n q k w;obtain ⟨v,j,t,y,z,p,x⟩:=aVY n d (i+1) _ (q.mono l) E r;refine ⟨v,j,t,l++y,fun m => ?_,by grind,x⟩;simp [eF];rw [D];rw [jQ,F];simp [bnd];grind
  | false =>
   obtain ⟨v,j,t,y,z,p,x⟩:=aVY n d (i+1) a q w (k.und nt o.dst);simp [eF];grind
variable {τ : Tb}
theorem aYj:∀ {a b},BxOk τ env a b->aPk a=b.map fun x=>(x.1,x.2.length)
 | _,_,.nil=>rfl
 | _,_,.cons h c=>by
  have:=aYj c;simp [aPk] at this;simp [aPk,this,h.len]
theorem aMF {a b} (h:BxOk τ env a b):∀ {sh r},aZI a sh=some r->Mts τ env r (flat b sh)/\nY sh b=true
 | [],r,e=>by cases e;exact ⟨.nil,rfl⟩
 | (i,n)::sh,r,e=>by
  simp [aZI] at e;split at e
  ·rename_i cs o k j;split at e
   ·rename_i l;cases e;obtain ⟨f,g⟩:=aMF h j;obtain ⟨y,m,c⟩:=h.get k;have d:y.length=n:=by rw [<- c.len,l]
    refine ⟨?_,?_⟩;· simp [flat,m];refine Mts.app ?_ f;rw [<- d,aYc];exact c
    unfold nY at g ⊢;grind
   grind
  grind
theorem aQP:∀ {a b} (sh:List (Nat×Nat)),BxOk τ env a b->(a.all fun x=>sh.any fun y=>y.1==x.1)=(b.all fun x=>sh.any fun y=>y.1==x.1)
 | _,_,sh,.nil=>rfl
 | _,_,sh,.cons h c=>by simp [aQP sh c]
theorem bCj {sh a v} (h:aI6 sh a=true) (d:Mt τ env a v):inside sh v=true:=by
 cases d with
 | ptr id off=>exact h
 | agg b=>exact aMy b h
 | ref=>rfl
 | nm e c b=>cases c<;>first | rfl | simp at b
 | sl=>rfl
 | cn=>rfl
 | nil=>rfl
 | any=>simp [aI6,AV.isNm] at h
 | und=>simp [aI6,AV.isNm] at h
 | tup=>simp [aI6,AV.isNm] at h
theorem aPn {sh}:∀ {a vs},a.all (aI6 sh)=true->Mts τ env a vs->vs.all (inside sh)=true
 | _,_,_,.nil=>rfl
 | _,_,h,.cons b c=>by
  simp only [aaL,aa0] at h ⊢;exact ⟨bCj h.1 b,aPn h.2 c⟩
theorem aYk {a b} (h:FrOk τ env a b):∀ (kp:List Nat),Mts τ env (kp.map (aHJ a)) (kp.map (gets b))
 | [] => .nil
 | i::kp => .cons (h.get i) (aYk h kp)
theorem bCk {kp sh A st s} (h:aZJ kp sh A=some s) (g:Good τ env A st):∃ vs,(∀ {R} (d:List PV->UP->Option R),pack kp sh st d=d vs [])/\Mts τ env s vs:=by
 obtain ⟨b,f,c⟩:=g.bx;unfold aZJ at h;split at h
 ·rename_i r k;obtain ⟨m,i⟩:=aMF c k;have a:Mts τ env (kp.map (aHJ A.fr)++r) (tX kp sh st):=by
   unfold tX;rw [f];exact (aYk g.fr kp).app m
  have j:=aQP sh c;dsimp at h;split at h;· rename_i e;cases h;refine ⟨tX kp sh st,fun d => ?_,a⟩;unfold pack;rw [f];simp [uC,mQ,i,<- j,e]
  rename_i e;split at h;· rename_i l;cases h;refine ⟨tX kp sh st,fun d => ?_,a⟩;unfold pack;rw [f];simp [uC,mQ,i,<- j,e,aPn l a,cnd]
  grind
 grind
theorem aVZ:∀ {kp b vs} pre,Mts τ env b vs->b.length=kp.length->FrOk τ env (azip kp b) (qD (pre++vs) pre.length kp)
 | [],_,_,pre,h,d=>by
  cases h with
  | nil=>exact .nil
  | cons=>grind
 | i::kp,_,_,pre,h,d=>by
  cases h with
  | nil=>grind
  | cons h c =>
   rename_i a b v vs;simp [qD];have e:gt (pre++v::vs) pre.length=v:=by rw [aHp];simp
   rw [e];refine .cons h ?_;have:=aVZ (kp:=kp) (pre++[v]) c (by grind);grind
theorem bCl s t:∀ kp k,k+kp.length<=s.length->qD (s++t) k kp=qD s k kp
 | [],_,_=>rfl
 | i::kp,k,h=>by
  simp at h;simp [qD,bCl s t kp (k+1) (by omega)];have:gt (s++t) k=gt s k:=by rw [aHp,aHp,aaq (by omega)]
  grind
theorem aSY:∀ {sh a vs} pre,Mts τ env a vs->a.length=(sh.map (·.2)).sum->BxOk τ env (aVP a sh) (aOV (pre++vs) pre.length sh)
 | [],_,_,pre,h,c => .nil
 | (i,n)::sh,a,vs,pre,h,c=>by
  have b:=h.len;refine .cons ?_ ?_
  ·have e:(List.range n).map (fun j=>gt (pre++vs) (pre.length+j))=vs.take n:=by
    apply List.ext_getElem;· grind
    simp [aHp];grind
   rw [e];exact h.take n
  have:=aSY (sh:=sh) (pre++vs.take n) (h.drop n) (by grind);simp_all
theorem aSZ {a}:∀ {sh r},aZI a sh=some r->r.length=(sh.map (·.2)).sum
 | [],r,e=>by cases e;rfl
 | (i,n)::sh,r,e=>by
  simp [aZI] at e;split at e
  ·rename_i cs d f b;split at e;· rename_i c;cases e;simp [aSZ b,c]
   grind
  grind
theorem bEP {kp sh A s} (h:aZJ kp sh A=some s):s.length=kp.length+(sh.map (·.2)).sum:=by
 unfold aZJ at h;split at h;· rename_i r a;have:=aSZ a;grind
 grind
theorem aS0 {kp sh s vs fs a} (h:Mts τ env s vs) (g:s.length=kp.length+(sh.map (·.2)).sum) (c:∀ f,f∈fs->gN env f) (d:a=env.length) :
  Good τ env (aVQ kp sh s fs a) (dV kp sh vs []):=by
 have b:=h.len;refine ⟨?_,⟨_,rfl,?_⟩,c,d⟩
 ·have:=aVZ (kp:=kp) [] (h.take kp.length) (by grind);show FrOk τ env (azip kp (s.take kp.length)) (qD vs 0 kp);have e:qD vs 0 kp=qD (vs.take kp.length) 0 kp:=by
   have:=bCl (vs.take kp.length) (vs.drop kp.length) kp 0 (by grind);simp_all
  grind
 have:=aSY (sh:=sh) (vs.take kp.length) (h.drop kp.length) (by grind);rw [List.take_append_drop] at this;have e:(vs.take kp.length).length=kp.length:=by grind
 rw [e] at this;exact this
end
variable {τ : Tb} {env l : List PV}
mutual
theorem bCm:∀ {a b:AV},AV.beq a b=true->a=b
 | .any,b,h=>by cases b<;>first | rfl | simp [AV.beq] at h
 | .und,b,h=>by cases b<;>first | rfl | simp [AV.beq] at h
 | .nm x l,b,h=>by
  cases b<;>simp [AV.beq] at h;grind
 | .sl x n c m i o,b,h=>by
  cases b<;>simp [AV.beq] at h;simp_all
 | .cn c,b,h=>by
  cases b<;>simp [AV.beq] at h;rw [h]
 | .nil o,b,h=>by
  cases b<;>simp [AV.beq] at h;rw [h]
 | .agg a,b,h=>by
  cases b<;>simp [AV.beq] at h;rw [aV0 h]
 | .tup a,b,h=>by
  cases b<;>simp [AV.beq] at h;rw [aV0 h]
 | .ref a,b,h=>by
  cases b<;>simp [AV.beq] at h;rw [bCm h]
 | .ptr i o,b,h=>by
  cases b<;>simp [AV.beq] at h;simp_all
theorem aV0:∀ {a b:List AV},AV.beqs a b=true->a=b
 | [],[],_=>rfl
 | [],_::_,h=>by simp [AV.beqs] at h
 | _::_,[],h=>by simp [AV.beqs] at h
 | a::e,b::d,h=>by
  simp only [AV.beqs,aa0] at h;rw [bCm h.1,aV0 h.2]
end
theorem CnOk.back:∀ {c b b'},CnOk env c b->CnOk (env++l) c b'->CnOk env c b'
 | .k _,_,_,_,h=>h
 | .cmp o x y,b,b',⟨k,n,k',m,d,a,i⟩,⟨q,j,g,p,g1,g2,e⟩=>by
  rw [iP l d] at g1;rw [iP l a] at g2;cases g1;cases g2;exact ⟨_,_,_,_,d,a,e⟩
 | .not c,b,b',h,f=>CnOk.back (c:=c) (b := !b) (b' := !b') h f
 | .unk,_,_,_,_=>trivial
mutual
theorem Mt.back:∀ {a:AV} {v w:PV},Mt τ env a v->Mt τ (env++l) a w->Mt τ env a w
 | _,_,w,.any v,h => .any _
 | _,_,w,.und,h=>by cases h;exact .und
 | _,_,w,.nm f q d,h=>by
  cases h with
  | nm c g b =>
   rw [iP l f] at c;cases c;exact .nm f q d
 | _,_,w,.sl f t p q,h=>by
  cases h with
  | sl c m e g =>
   rw [iP l f] at c;rw [iP l p] at e;cases c;cases e;exact .sl f m p g
 | _,_,w,.cn r,h=>by
  cases h with
  | cn j=>exact .cn (r.back j)
 | _,_,w,.nil o,h=>by
  cases h;exact .nil o
 | _,_,w,.agg d,h=>by
  cases h with
  | agg b=>exact .agg (d.back b)
 | _,_,w,.tup d,h=>by
  cases h with
  | tup b=>exact .tup (d.back b)
 | _,_,w,.ref hv,h=>by
  cases h with
  | ref k=>exact .ref (hv.back k)
 | _,_,w,.ptr i o,h=>by cases h;exact .ptr i o
theorem Mts.back:∀ {a:List AV} {v w:List PV},Mts τ env a v->Mts τ (env++l) a w->Mts τ env a w
 | _,_,w,.nil,h=>by cases h;exact .nil
 | _,_,w,.cons s d,h=>by
  cases h with
  | cons n b=>exact .cons (s.back n) (d.back b)
end
def pick:List HV->List PV->List PV
 | .same::hs,_::ws=>pick hs ws
 | .any::hs,_::ws=>pick hs ws
 | _::hs,w::ws=>w::pick hs ws
 | _,_=>[]
theorem aV1 {α}:∀ (a b:List α) j,nth (a++b) (a.length+j)=nth b j
 | [],b,j=>by simp
 | x::a,b,j=>by
  rw [show (x::a).length+j=(a.length+j)+1 by grind];exact aV1 a b j
theorem aBL:∀ {hv f k g ws},aKe hv f k=some g->ws.length=hv.length->∃ j,g=f+j/\nth (pick hv ws) j=nth ws k
 | [],f,0,g,ws,h,_=>by simp [aKe] at h
 | [],f,k+1,g,ws,h,_=>by simp [aKe] at h
 | hv::e,f,0,g,ws,h,m=>by
  cases ws with
  | nil=>grind
  | cons w ws =>
   cases hv<;>simp [aKe] at h;subst h;exact ⟨0,rfl,rfl⟩
 | hv::e,f,k+1,g,ws,h,m=>by
  cases ws with
  | nil=>grind
  | cons w ws =>
   have d:ws.length=e.length:=by grind
   cases hv with
   | same=>exact aBL (hv:=e) h d
   | any=>exact aBL (hv:=e) h d
   | lf x =>
    obtain ⟨j,l,i⟩:=aBL (hv:=e) (ws:=ws) h d;exact ⟨j+1,by omega,i⟩
   | el x =>
    obtain ⟨j,l,i⟩:=aBL (hv:=e) (ws:=ws) h d;exact ⟨j+1,by omega,i⟩
   | acc a b c =>
    obtain ⟨j,l,i⟩:=aBL (hv:=e) (ws:=ws) h d;exact ⟨j+1,by omega,i⟩
theorem aHM {fs cx cx' k k' z z' E l' lE} (hf:∀ f,f∈fs->gN (env++l') f) (hE:E=env++lE) (hz:den E cx=some (.int k z)) (hz':den (env++l') cx'=some (.int k' z')) (hzz:z'<=z)
  (hsuc:∀ i',cx' = .suc i'->∀ k zi,den (env++l') i'=some (.int k zi)->z'=zi+1/\0<=zi) :
  ∀ {hv s s2 s1 vs ws nx nx1},aDq cx hv s nx=some (s1,nx1)->aAI fs cx' hv s s2=true->Mts τ env s vs->Mts τ (env++l') s2 ws->(∀ j,nth E (nx+j)=nth (pick hv ws) j) ->
   Mts τ E s1 ws/\nx1=nx+(pick hv ws).length/\ws.length=hv.length
 | [],[],s2,s1,vs,ws,nx,nx1,h,hfit,hs,hs2,hn=>by
  cases s2 with
  | nil=>cases hs2;cases h;exact ⟨.nil,rfl,rfl⟩
  | cons=>simp [aAI] at hfit
 | [],_::_,s2,s1,vs,ws,nx,nx1,h,hfit,hs,hs2,hn=>by simp [aDq] at h
 | _::_,[],s2,s1,vs,ws,nx,nx1,h,hfit,hs,hs2,hn=>by simp [aDq] at h
 | hv::hvs,a::s,s2,s1,vs,ws,nx,nx1,h,hfit,hs,hs2,hn=>by
  cases s2 with
  | nil=>simp [aAI] at hfit
  | cons b s2 =>
   simp [aAI] at hfit;obtain ⟨f1,f2⟩:=hfit;cases hs with
   | cons ha hs =>
    cases hs2 with
    | cons hb hs2 =>
     rename_i v vs w ws
     -- a place with no new name
     have old:∀ {x},(match aDq cx hvs s (nx+0) with | some (r,nx)=>some (x::r,nx) | none=>none)=some (s1,nx1)->Mt τ E x w->pick (hv::hvs) (w::ws)=pick hvs ws->Mts τ E s1 (w::ws)/\nx1=nx+(pick (hv::hvs) (w::ws)).length/\(w::ws).length=(hv::hvs).length:=by
      intro x h hx hp;split at h;· rename_i r nx2 hr;cases h;obtain ⟨g1,g2,g3⟩:=aHM hf hE hz hz' hzz hsuc hr f2 hs hs2 (by intro j;rw [<- hp];exact hn j);exact ⟨.cons hx g1,by rw [hp];exact g2,by simp [g3]⟩
      simp at h
     have new:∀ {x},(match aDq cx hvs s (nx+1) with | some (r,nx)=>some (x::r,nx) | none=>none)=some (s1,nx1)->Mt τ E x w->pick (hv::hvs) (w::ws)=w::pick hvs ws->Mts τ E s1 (w::ws)/\nx1=nx+(pick (hv::hvs) (w::ws)).length/\(w::ws).length=(hv::hvs).length:=by
      intro x h hx hp;split at h
      ·rename_i r nx2 hr;cases h;obtain ⟨g1,g2,g3⟩:=aHM hf hE hz hz' hzz hsuc hr f2 hs hs2 (by
        intro j;have:=hn (j+1);rw [hp] at this;rw [show nx+1+j=nx+(j+1) by omega,this];rfl)
       exact ⟨.cons hx g1,by rw [hp];simp;omega,by simp [g3]⟩
      simp at h
     have named:pick (hv::hvs) (w::ws)=w::pick hvs ws->den E (.root nx)=some w:=by
      intro hp;have:=hn 0;rw [hp] at this;exact this
     cases hv with
     | same =>
      have:=bCm f1;subst this;exact old h (by rw [hE];exact (ha.back hb).mono lE) rfl
     | any=>exact old h (.any w) rfl
     | lf x=>exact new h (aVT (named rfl) (aLy hf f1 hb)) rfl
     | el x=>exact new h (aQJ (named rfl) (aQI hf f1 hb)) rfl
     | acc n c m =>
      refine new h ?_ rfl;have hnm:=named rfl;simp [bJr] at f1;split at f1
      ·rename_i x n' c' m' i' own;simp only [aa0] at f1;obtain ⟨⟨f1,f3⟩,f4⟩:=f1;have:=aap f1;subst this;subst f3;cases hb with
       | sl hd he hi hl =>
        rename_i es o kk zi;refine .sl hnm he hz ?_;have hmul:∀ {p q},p<=q->m*p<=m*q:=fun h=>Nat.mul_le_mul_left m h;split at f4;· rw [decide_eq_true_eq] at f4;have:=aD3 hi;subst this;omega
        simp only [aay,aa0,decide_eq_true_eq] at f4;rcases f4 with ⟨⟨e1,e2⟩,e3⟩ | ⟨⟨e1,e2⟩,e3⟩;· have:=aap e2;subst this;have e3:=ab3 e3;obtain ⟨g1,g2⟩:=hsuc _ e1.symm _ _ hi;have g3:=hmul (p:=zi.toNat+1) (q:=z.toNat) (by omega);rw [Nat.mul_add,Nat.mul_one] at g3;omega
        have:=aap e2;subst this;have e3:=ab3 e3;subst e1;rw [hi] at hz';cases hz';have g3:=hmul (p:=z'.toNat) (q:=z.toNat) (by omega);omega
      ·subst f1;cases hb with
       | nil _=>exact .sl hnm (by simp) hz (by simp)
      simp at f1
theorem aQQ {R e} (K:Ex->Option R):∀ {l},aZK l e=true->yU e K l=K e/\∃ w,w∈l/\exOf w=e
 | [],h=>by simp [aZK] at h
 | w::l,h=>by
  have key:(exOf w=e/\∀ y,exIs e w (K (exOf w)) y=K e)∨((∀ y,exIs e w (K (exOf w)) y=y)/\aZK l e=true):=by
   unfold aZK at h;rw [List.any_cons,aay] at h;cases e with
   | nrm =>
    grind
   | ret =>
    cases w with
    | none=>left;exact ⟨rfl,fun y=>rfl⟩
    | some j =>
     right;rcases h with h | h;· grind
     exact ⟨fun y=>rfl,h⟩
   | brk i =>
    cases w with
    | none =>
     right;rcases h with h | h;· grind
     exact ⟨fun y=>rfl,h⟩
    | some j =>
     by_cases a:i=j;· subst a;left;exact ⟨rfl,fun y=>by simp [exIs,exOf]⟩
     right;rcases h with h | h;· simp_all
     exact ⟨fun y=>by simp [exIs,a],h⟩
  rcases key with ⟨c,b⟩ | ⟨c,b⟩;· exact ⟨b _,w,by simp,c⟩
  obtain ⟨g1,w',g2,d⟩:=aQQ K b;exact ⟨by simp [yU];grind,w',by grind,d⟩
section
variable {P : Program} {mt : Hints} {nt : Nat} {C : Cfg} {O : Orc}
theorem bCn {τ} {env c b a st} (h:FrOk τ env a st.fr):FrOk τ env (aCm.acond c b a) (aDC c b st).fr:=by
 cases c with
 | tmp t=>exact .cons (.cn rfl) h
 | const _=>exact h
 | global _=>exact h
 | func _=>exact h
theorem aYl {c b st}:(aDC c b st).bx=st.bx:=by cases c<;>rfl
def bHL (P:Program) (mt:Hints) (nt:Nat) (C:Cfg) (O:Orc) (env:List PV) (c:Code) (st:St) (K:Ex->ASt->Bool):Prop :=
 ∃ e st' A' l,(∀ {R} (KK:Ex->St->Option R),bC P mt nt O jM c st KK=KK e st')/\Good C.τ (env++l) A' st'/\K e A'=true
theorem aD4 {v0} (hH:Hyp C O v0):∀ c {env A st K},Me C v0 env->aCm P mt nt C c A K=true->Good C.τ env A st->bHL P mt nt C O env c st K
 | .skip,env,A,st,K,hM,h,hG=>⟨.nrm,st,A,[],fun KK=>rfl,by simpa using hG,h⟩
 | .label _,env,A,st,K,hM,h,hG=>⟨.nrm,st,A,[],fun KK=>rfl,by simpa using hG,h⟩
 | .exit id,env,A,st,K,hM,h,hG=>⟨.brk id,st,A,[],fun KK=>rfl,by simpa using hG,h⟩
 | .ret,env,A,st,K,hM,h,hG=>⟨.ret,st,A,[],fun KK=>rfl,by simpa using hG,h⟩
 | .region rid ops o,env,A,st,K,hM,h,hG=>by
  simp only [aCm] at h;split at h;· simp at h
  ·rename_i hfr;cases o with
   | false =>
    obtain ⟨st',A',l,h1,h2,h3⟩:=bCi hH ops.toList hM h hG;exact ⟨.nrm,st',A',l,fun KK=>by simp only [bC,aHo,hfr];exact h1 _,h2,h3⟩
   | true =>
    simp only at h;split at h
    ·rename_i hs;obtain ⟨lg,st',A',l,h1,h2,h3⟩:=aVY hH ops.toList 0 [] hM h hG;split at h3;· rename_i V;refine ⟨.nrm,st',A',l,fun KK => ?_,h2,h3⟩;simp only [bC,aHo,hfr,hs];rw [h1];simp only [V]
     ·simp at h3
    ·simp at h
 | .seq a b,env,A,st,K,hM,h,hG=>by
  simp only [aCm] at h;obtain ⟨e,st',A',l,h1,h2,h3⟩:=aD4 hH a hM h hG;cases e with
  | nrm =>
   obtain ⟨e2,st2,A2,p,g1,g2,g3⟩:=aD4 hH b (hM.mono l) h3 h2;exact ⟨e2,st2,A2,l++p,fun KK=>by simp only [bC];rw [h1];exact g1 KK,by simpa using g2,g3⟩
  | brk i=>exact ⟨.brk i,st',A',l,fun KK=>by simp only [bC];rw [h1],h2,h3⟩
  | ret=>exact ⟨.ret,st',A',l,fun KK=>by simp only [bC];rw [h1],h2,h3⟩
 | .cond c a b,env,A,st,K,hM,h,hG=>by
  simp only [aCm] at h;obtain ⟨t,fs,hv,hk,hf⟩:=bB8 h (Mt.opd hG.fr c) hG.fs;cases t with
  | true =>
   obtain ⟨e2,st2,A2,p,g1,g2,g3⟩:=aD4 hH a (st:=aDC c true st) hM hk ⟨bCn hG.fr,by rw [aYl];exact hG.bx,hf,hG.nx⟩;exact ⟨e2,st2,A2,p,fun KK=>by simp only [bC,brB,hv,aDy,bnd,cnd];exact g1 KK,g2,g3⟩
  | false =>
   obtain ⟨e2,st2,A2,p,g1,g2,g3⟩:=aD4 hH b (st:=aDC c false st) hM hk ⟨bCn hG.fr,by rw [aYl];exact hG.bx,hf,hG.nx⟩;exact ⟨e2,st2,A2,p,fun KK=>by simp only [bC,brB,hv,aDy,bnd,cnd];exact g1 KK,g2,g3⟩
 | .block id b,env,A,st,K,hM,h,hG=>by
  simp only [aCm] at h;obtain ⟨e,st',A',l,h1,h2,h3⟩:=aD4 hH b hM h hG;cases e with
  | nrm=>exact ⟨.nrm,st',A',l,fun KK=>by simp only [bC];rw [h1],h2,h3⟩
  | ret=>exact ⟨.ret,st',A',l,fun KK=>by simp only [bC];rw [h1],h2,h3⟩
  | brk i =>
   simp only at h3;by_cases hi:i=id;· rw [if_pos hi] at h3;exact ⟨.nrm,st',A',l,fun KK=>by simp only [bC];rw [h1];simp only [if_pos hi],h2,h3⟩
   ·rw [if_neg hi] at h3;exact ⟨.brk i,st',A',l,fun KK=>by simp only [bC];rw [h1];simp only [if_neg hi],h2,h3⟩
 | .scope b,env,A,st,K,hM,h,hG=>by
  simp only [aCm] at h;obtain ⟨e,st',A',l,h1,h2,h3⟩:=aD4 hH b hM h hG;exact ⟨e,st',A',l,fun KK=>by simp only [bC];exact h1 KK,h2,h3⟩
 | .loop b,env,A,st,K,hM,h,hG=>by
  simp only [aCm] at h;split at h
  ·rename_i H hfrl hlk;split at h
   ·rename_i s cn g F;split at h
    ·rename_i s1 S c0 hhv W;simp only [aa0] at h;obtain ⟨⟨⟨h1,h2⟩,h3⟩,h4⟩:=h;rw [decide_eq_true_eq] at h2;have htop:(H.top:Int)<=1073741824:=by have e:topL=1073741824:=rfl;omega
     obtain ⟨b0,hb0,hbx0⟩:=hG.bx;have hsh:rE st.bx=aPk A.bx:=by rw [hb0];exact (aYj hbx0).symm
     obtain ⟨vs,D,hms⟩:=bCk g hG;have hlen:=bEP g;generalize hshd:aPk A.bx=sh at *;generalize d:aBB mt b=kp at *
     -- the state at the head,with a count
     let body:aAv:=fun s u=>bC P mt nt O jM b (dV kp sh s u) fun e st'=>pack kp sh st' fun s u=>some (e,s,u);let Inv:Int->List PV->Prop:=fun z ws=>Mts C.τ (env++pick H.hv ws) s1 ws/\S=(env++pick H.hv ws).length/\ws.length=H.hv.length/\nth ws H.cnt=some (.int .i64 z)/\0<=z/\z<=H.top;let Post:Ex×List PV×UP->Prop:=fun r=>∃ w hx,w∈rG b/\exOf w=r.1/\aZK (rG b) r.1=true/\aST H.ex (exOf w)=some hx/\r.2.2=[]/\(∀ Z nx3,aDq (.lit .i64 H.top) hx s A.nx=some (Z,nx3)->Mts C.τ (env++pick hx r.2.1) Z r.2.1/\nx3=(env++pick hx r.2.1).length);have hnth:∀ (hv:List HV) (ws:List PV) (j:Nat),nth (env++pick hv ws) (A.nx+j)=nth (pick hv ws) j:=by
      intro hv ws j;rw [hG.nx];exact aV1 env _ j
     have hden:∀ (z:Int) (ws:List PV),ws.length=H.hv.length->nth ws H.cnt=some (.int .i64 z)->den (env++pick H.hv ws) (.root cn)=some (.int .i64 z):=by
      intro z ws hl hz;obtain ⟨j,e1,e2⟩:=aBL F hl;show nth (env++pick H.hv ws) cn=_;rw [e1,hnth,e2];exact hz
     have hstep:∀ z ws,Inv z ws->∃ e ws',body ws []=some (e,ws',[])/\((e = .nrm/\z<H.top/\Inv (z+1) ws')∨(e ≠ .nrm/\Post (e,ws',[]))):=by
      rintro z ws ⟨i1,i2,i3,i4,i5,i6⟩;have I:=hden z ws i3 i4;have U:s1.length=kp.length+(sh.map (·.2)).sum:=by
       have e1:=i1.len;rw [e1,i3];have:=hms.len;have key:∀ {cx:Sx} {hv:List HV} {s:List AV} {nx:Nat} {r:List AV×Nat},aDq cx hv s nx=some r->hv.length=s.length:=by
        intro cx hv;induction hv with
        | nil=>intro s nx r h;cases s with
         | nil=>rfl
         | cons=>simp [aDq] at h
        | cons x hv ih=>intro s nx r h;cases s with
         | nil=>simp [aDq] at h
         | cons y s =>
          have:∃ k r,aDq cx hv s (nx+k)=some r:=by
           cases x<;>simp only [aDq] at h<;>(split at h<;>first | (rename_i r' Q hr;exact ⟨_,_,hr⟩) | simp at h)
          obtain ⟨k,r,hr⟩:=this;simp [ih hr]
       rw [key hhv,hlen]
      have hfacts:∀ f,f∈((CO.le,Sx.lit .i64 0,Sx.root cn)::(CO.le,Sx.root cn,Sx.lit .i64 H.top)::A.fs)->gN (env++pick H.hv ws) f:=by
       intro f hf;rcases aa3.1 hf with rfl | hf;· exact ⟨_,0,_,z,rfl,I,by simp only [CO.ev];symm;rw [decide_eq_true_eq];exact i5⟩
       rcases aa3.1 hf with rfl | hf;· exact ⟨_,z,_,H.top,I,rfl,by simp only [CO.ev];symm;rw [decide_eq_true_eq];exact i6⟩
       exact (hG.fs f hf).mono _
      have N:=aS0 i1 U hfacts i2;obtain ⟨e,st',A',l,g1,g2,g3⟩:=aD4 hH b (hM.mono _) h3 N;simp only at g3;split at g3
      ·rename_i s2 hpk2;obtain ⟨ws',hpv',hms'⟩:=bCk hpk2 g2;refine ⟨e,ws',by show bC P mt nt O jM b (dV kp sh ws []) _=_;rw [g1,hpv'],?_⟩;rw [aax] at hms';have hf2:∀ f,f∈A'.fs->gN (env++(pick H.hv ws++l)) f:=by
        intro f hf;have:=g2.fs f hf;rwa [aax] at this
       have hd2:den (env++(pick H.hv ws++l)) (.root cn)=some (.int .i64 z):=by
        have:=iP l I;rwa [aax] at this
       split at g3
       ·left;split at g3
        ·rename_i x hcx;simp only [aa0,decide_eq_true_eq] at g3;obtain ⟨⟨rfl,v⟩,k3⟩:=g3;obtain ⟨n,hn,B⟩:=bGS v hf2;have:=hn.inj ⟨_,hd2⟩;subst this;have hw:IntKind.wrap .i64 (n+1)=n+1:=by simp [IntKind.wrap,IntKind.signed,IntKind.bits];omega
         have hds:den (env++(pick H.hv ws++l)) (.suc (.root cn))=some (.int .i64 (n+1)):=by
          simp only [den] at hd2 ⊢;rw [hd2];simp only [bnd,hw]
         obtain ⟨y,G,hmy⟩:=hms'.nth hcx;have hlast:∃ m,nth ws' H.cnt=some (.int .i64 m)/\den (env++(pick H.hv ws++l)) (.suc (.root cn))=some (.int .i64 m):=by
          obtain ⟨m,rfl,hm⟩:=hmy.int;exact ⟨m,G,hm⟩
         obtain ⟨m,hm1,hm2⟩:=hlast;rw [hds] at hm2;cases hm2;have hlw:ws'.length=H.hv.length:=by
          have e1:=hms'.len;have:∀ {fs:List Fact} {cx:Sx} {hv:List HV} {s s2:List AV},aAI fs cx hv s s2=true->hv.length=s2.length:=by
           intro fs cx hv;induction hv with
           | nil=>intro s s2 h;cases s<;>cases s2<;>simp [aAI] at h ⊢
           | cons x hv ih=>intro s s2 h;cases s<;>cases s2<;>simp [aAI] at h ⊢;exact ih h.2
          rw [<- e1,<- this k3]
         have hz2:=hden (n+1) ws' hlw hm1;obtain ⟨q1,q2,q⟩:=aHM (env:=env) (l':=pick H.hv ws++l) (E:=env++pick H.hv ws') hf2 rfl hz2 hds (by omega) (by
          rintro i' hi k zi hzi;cases hi;rw [hd2] at hzi;cases hzi;exact ⟨rfl,i5⟩) hhv k3 hms hms' (hnth H.hv ws')
         exact ⟨rfl,B,q1,by rw [q2,hG.nx];simp,q,hm1,by omega,by omega⟩
        simp at g3
       rename_i J;right;refine ⟨fun he=>J he,?_⟩;split at g3;· rename_i hx M;rw [aa0] at g3;obtain ⟨w,T,hw2⟩:=(aQQ (R:=Unit) (fun _=>none) g3.1).2;refine ⟨w,hx,T,hw2,g3.1,by rw [hw2];exact M,rfl,fun Z nx3 hhx => ?_⟩;obtain ⟨q1,q2,q⟩:=aHM (env:=env) (l':=pick H.hv ws++l) (E:=env++pick hx ws') hf2 rfl (show den (env++pick hx ws') (.lit .i64 H.top)=some (.int .i64 H.top) from rfl) hd2 i6 (by rintro i' hi;cases hi) hhx g3.2 hms hms' (hnth hx ws');exact ⟨q1,by rw [q2,hG.nx];simp⟩
       simp at g3
      simp at g3
     -- it ends
     have hloop:∀ (n:Nat) z ws,((H.top:Int)-z).toNat<=n->Inv z ws->∃ r,jM body ws []=some r/\Post r:=by
      intro n;induction n with
      | zero =>
       intro z ws hn hI;obtain ⟨e,ws',g1,g2⟩:=hstep z ws hI;rw [aAF,g1];simp only [bnd];rcases g2 with ⟨rfl,g2,g3⟩ | ⟨g2,g3⟩;· omega
       cases e with
       | nrm=>exact by grind
       | brk i=>exact ⟨_,rfl,g3⟩
       | ret=>exact ⟨_,rfl,g3⟩
      | succ n ih =>
       intro z ws hn hI;obtain ⟨e,ws',g1,g2⟩:=hstep z ws hI;rw [aAF,g1];simp only [bnd];rcases g2 with ⟨rfl,g2,g3⟩ | ⟨g2,g3⟩;· exact ih (z+1) ws' (by omega) g3
       cases e with
       | nrm=>exact by grind
       | brk i=>exact ⟨_,rfl,g3⟩
       | ret=>exact ⟨_,rfl,g3⟩
     -- at the beginning
     have hI0:∃ z,Inv z vs:=by
      split at h1
      ·rename_i kk z;simp [aa0,decide_eq_true_eq] at h1;obtain ⟨⟨⟨rfl,X⟩,z1⟩,hfit⟩:=h1;obtain ⟨y,G,hmy⟩:=hms.nth W;have hyz:nth vs H.cnt=some (.int .i64 z):=by
        obtain ⟨m,rfl,hm⟩:=hmy.int;have:=aD3 hm;subst this;exact G
       have hlw:vs.length=H.hv.length:=by
        have e1:=hms.len;have:∀ {fs:List Fact} {cx:Sx} {hv} {s s2},aAI fs cx hv s s2=true->hv.length=s2.length:=by
         intro fs cx hv;induction hv with
         | nil=>intro s s2 h;cases s<;>cases s2<;>simp [aAI] at h ⊢
         | cons x hv ih=>intro s s2 h;cases s<;>cases s2<;>simp [aAI] at h ⊢;exact ih h.2
        rw [<- e1,<- this hfit]
       have hz2:=hden z vs hlw hyz;obtain ⟨q1,q2,q⟩:=aHM (env:=env) (l':=[]) (E:=env++pick H.hv vs) (z':=z) (k' := .i64) (by simpa using hG.fs) rfl hz2 rfl (by omega) (by rintro i' hi;cases hi) hhv hfit hms (by simpa using hms) (hnth H.hv vs);exact ⟨z,q1,by rw [q2,hG.nx];simp,q,hyz,X,z1⟩
      simp at h1
     obtain ⟨X,hI0⟩:=hI0;obtain ⟨⟨e,ws,u⟩,g1,w,hx,k1,v,k3,k4,k5,k6⟩:=hloop _ X vs (aa1 _) hI0;simp only at v k3 k5 k6;subst k5;rw [aak] at h4;have h5:=h4 w k1;rw [k4] at h5;simp at h5;split at h5
     ·rename_i Y nx3' hhx;have L:Y.length=kp.length+(sh.map (·.2)).sum:=by
       have key:∀ {cx} {hv} {s} {nx} {r},aDq cx hv s nx=some r->r.1.length=s.length:=by
        intro cx hv;induction hv with
        | nil=>intro s nx r h;cases s with
         | nil=>cases h;rfl
         | cons=>simp [aDq] at h
        | cons x hv ih=>intro s nx r h;cases s with
         | nil=>simp [aDq] at h
         | cons y s =>
          cases x<;>simp [aDq] at h<;>(split at h<;>first | (rename_i r' Q hr;cases h;simp [ih hr]) | simp at h)
       rw [key hhx,hlen]
      obtain ⟨m4,n4⟩:=k6 _ _ hhx;refine ⟨exOf w,dV kp sh ws [],_,pick hx ws,fun KK => ?_,aS0 m4 L (fun f hf=>(hG.fs f hf).mono _) n4,h5⟩;simp [bC,aHo,hfrl,hsh,d];rw [D];show bnd (jM body vs []) _=_;rw [g1];simp [bnd];have:=(aQQ (fun e=>KK e (dV kp sh ws [])) k3).1;rw [this,v]
     ·simp at h5
    ·simp at h
   ·simp at h
  ·simp at h
 | .rangeFunc _ _ _ _,_,_,_,_,_,h,_=>by simp [aCm] at h
 | .goto _,_,_,_,_,_,h,_=>by simp [aCm] at h
 | .refuse _,_,_,_,_,_,h,_=>by simp [aCm] at h
end
theorem aOl {v} (h:v.solid1=true):pC v=some v:=by
 cases v<;>first | rfl | simp [solid1] at h
theorem aF5:∀ {cs},cs.all solid1=true->uX cs=some cs
 | [],_=>rfl
 | c::cs,h=>by
  simp only [aaL,aa0] at h;simp [uX,aOl h.1,aF5 h.2]
theorem aHN {v} (h:v.solid=true):aBh v=some v:=by
 cases v with
 | agg cs =>
  have  := h;simp [aBh,aF5 this,bnd]
 | _=>first | rfl | simp [PV.solid,solid1] at h
theorem aF6:∀ {cs},cs.all PV.solid=true->aAx cs=some cs
 | [],_=>rfl
 | c::cs,h=>by
  simp only [aaL,aa0] at h;simp [aAx,aHN h.1,aF6 h.2]
variable {τ : Tb} {env : List PV}
theorem aS1:∀ {b vs},Mts τ env b vs->b.all AV.solid=true->vs.all PV.solid=true
 | _,_,.nil,_=>rfl
 | _,_,.cons h c,a=>by
  simp only [aaL,aa0] at a ⊢;exact ⟨aHL h a.1,aS1 c a.2⟩
theorem ElsOk.nth:∀ {es vs},ElsOk τ es vs->∀ {i e},Go.Ev.nth es i=some e->∃ v,Go.Ev.nth vs i=some v/\ElOk τ e v
 | _,_,.nil,i,e,h=>by simp [Go.Ev.nth] at h
 | _,_,.cons h b,0,e,a=>by cases a;exact ⟨_,rfl,h⟩
 | _,_,.cons h b,i+1,e,a=>ElsOk.nth b (i:=i) a
section
variable {P : Program} {mt : Hints} {nt : Nat} {C : Cfg} {O : Orc}
theorem aS2 {d A st r a} (h:aQC P d A r=some a) (k:Good τ env A st):∃ v,(∀ {R} (K:PV->Option R),aJ4 P d st r K=K v)/\Mt τ env a v:=by
 obtain ⟨b,y,m⟩:=k.bx;unfold aQC at h;split at h
 ·rename_i t;cases h;cases d with
  | true=>exact ⟨_,fun K=>rfl,k.fr.get t⟩
  | false=>exact ⟨_,fun K=>rfl,(k.fr.get t).plain⟩
 rename_i x t;split at h
 ·rename_i n B id off s u z;have p:=k.fr.get x;rw [z] at p;generalize f:gets st.fr x=D at p;cases p;split at h
  ·rename_i cs C o;have c:0<n/\(B=true∨n=1):=by
    simp_all
   obtain ⟨ws,g,e⟩:=m.get o;split at h
   ·rename_i l;have j:=aQG l e;rw [aan] at h;obtain ⟨v,hv,rfl⟩:=h;obtain ⟨w,q,i⟩:=aVR hv e;cases d with
    | true =>
     refine ⟨w,fun K => ?_,i⟩;simp [aJ4,s,u,f];rw [if_pos c,y,aBK,g];simp [bnd,j,cnd,q]
    | false =>
     refine ⟨w.plain,fun K => ?_,i.plain⟩;simp [aJ4,s,u,f];rw [if_pos c,y,aBK,g];simp [bnd,j,cnd,q,aBg]
   grind
  grind
 grind
theorem aS3 {A st} (c:Good τ env A st):∀ {b a},aQD P A b=some a->∃ vs,(∀ {R} (K:List PV->Option R),aRZ P st b K=K vs)/\Mts τ env a vs
 | [],a,h=>by cases h;exact ⟨[],fun K=>rfl,.nil⟩
 | r::b,a,h=>by
  simp [aQD] at h;split at h;· rename_i v vs f e;cases h;obtain ⟨w,g1,g2⟩:=aS2 f c;obtain ⟨ws,g,d⟩:=aS3 c e;exact ⟨w::ws,fun K=>by simp [aRZ];grind,.cons g2 d⟩
  grind
theorem aYm {f a A st} (h:bB3 P mt f a A=true) (c:Good τ env A st):∃ r,aLU P f mt.own st=some (r,[])/\RsOk τ a r:=by
 obtain ⟨b,e,j⟩:=c.bx;unfold bB3 at h;unfold aLU;split at h
 ·rename_i r i;split at h
  ·rename_i v hv;rw [aa0] at h;obtain ⟨w,g1,g2⟩:=aS2 hv c;have d:=aD2 c.fs h.2 (.one g2);refine ⟨w,?_,?_⟩;· simp [i];rw [g1,aHN (aHL g2 h.1),e];rfl
   cases d with
   | cons k m=>cases m;exact k
  grind
 split at h
 ·rename_i vs hv;rw [aa0,aa0,decide_eq_true_eq] at h;obtain ⟨⟨g,l⟩,n⟩:=h;obtain ⟨ws,g1,g2⟩:=aS3 c hv;have d:=aD2 c.fs l (g2.map Mt.plainA);refine ⟨(PV.tuple ws).plain,?_,?_⟩
  ·split;· grind
   rw [g1,aF6 (aS1 g2 g),e];rfl
  unfold RsOk;split;· grind
  exact ⟨_,rfl,d⟩
 grind
theorem aMG {τ}:∀ {es vs pre},ElsOk τ es vs->∀ f,f∈aFf pre.length es->gN (pre++vs) f
 | _,_,pre,.nil,f,h=>by simp [aFf] at h
 | _,_,pre,.cons (e:=e) (es:=es) (v:=v) (vs:=vs) h g,f,a=>by
  simp [aFf] at a;have b  := by
   have:=aV1 pre (v::vs) 0;simpa [den,nth] using this
  rcases a with a | a
  ·split at a
   ·rename_i k d c;cases h with
    | one h =>
     cases h with
     | rng i =>
      simp at a;rcases a with rfl | rfl;· exact ⟨_,d,_,_,rfl,b,by simp [CO.ev];grind⟩
      exact ⟨_,_,_,c,b,rfl,by simp [CO.ev];grind⟩
   grind
  have:=aMG (pre:=pre++[v]) g f (by grind);grind
theorem bCo {v0} (p:Hyp C O v0) {k a args} (s:Me C v0 args) (h:aFun P mt nt C k a=true) (d:ElsOk C.τ a.ins args):∃ r,uY P mt nt O jM k args []=some (r,[])/\RsOk C.τ a.outs r:=by
 unfold aFun at h;split at h
 ·rename_i c q;rw [aa0,aa0,aa0,decide_eq_true_eq] at h;obtain ⟨⟨⟨v,_⟩,_⟩,t⟩:=h;have j:=d.len;have b  := by simpa using aLA (env:=[]) d
  have m:Good C.τ args {fr:=azip (List.range a.ins.length) (bBY 0 a.ins),bx:=[],fs:=aFf 0 a.ins,nx:=a.ins.length} (xI args []):=by
   refine ⟨?_,⟨[],rfl,.nil⟩,fun f n=>by simpa using aMG (pre:=[]) d f n,j⟩;have:=aVZ (kp:=List.range a.ins.length) [] b (by rw [b.len,List.length_range,j]);show FrOk C.τ args _ (qD args 0 (List.range args.length));grind
  obtain ⟨e,o,u,l,g1,g2,g⟩:=aD4 p c s t m;unfold uY;simp only [q];rw [if_pos (by omega),g1];cases e with
  | brk i=>grind
  | nrm=>exact aYm g g2
  | ret=>exact aYm g g2
 grind
end
section
variable {P : Program} {Mt : FuncId -> Hints} {X : Ext}
def aK5 (P:Program) (Mt:FuncId->Hints) (X:Ext) (τ:Tb) (f:FuncId) (b:Summ):Prop:=∀ args,ElsOk τ b.ins args->aVX b args->∃ r,OL P Mt X f args []=some (r,[])/\RsOk τ b.outs r
theorem bGX {C g j k c args} (h:aFun P g j C k c=true) (l:ElsOk C.τ c.ins args) (a:aVX c args):∀ r,r<C.np->∃ v,den args (.root r)=some v/\bX v<=C.cap:=by
 intro r m;unfold aFun at h;split at h
 ·rw [aa0,aa0,aa0,aay] at h;rcases h.1.1.2 with h | h;· simp_all
  rw [aa0,aa0] at h;obtain ⟨⟨f,e⟩,d⟩:=h;have f:=ab3 f;have e:=aap e;have d:=ab3 d;have n:=l.len;have b:r<args.length:=by omega
  refine ⟨args[r],by simp [den];rw [jU,aa4 b],?_⟩;rcases a with i | i;all_goals grind
 grind
theorem aYn {b a}:uZ b a []=false:=by unfold uZ;rw [aVH];unfold bBI;grind
theorem aYo {f b c C} (i:P.funcs[f]?=some b) (e:X f=none) (m:C.recs=[]) (j:∀ g s,(g,s)∈C.sums->aK5 P Mt X C.τ g s) (h:aFun P (Mt f) b.ntmps C b c=true):aK5 P Mt X C.τ f c:=by
 intro args d a;obtain ⟨r,l,k⟩:=bCo (v0 := .bot) (O:=OL P Mt X) ⟨j,by grind,by grind⟩ ⟨by grind,bGX h d a⟩ h d;exact ⟨r,bBJ e aYn i l,k⟩
theorem aCn {τ} {R} (cfg:FuncId×Summ×Nat->Cfg) (m:∀ x,x∈R->(cfg x).τ=τ/\(cfg x).recs=R/\(cfg x).me=x.2.2/\(∀ g s,(g,s)∈(cfg x).sums->aK5 P Mt X τ g s)/\X x.1=none/\∃ fn,P.funcs[x.1]?=some fn/\aFun P (Mt x.1) fn.ntmps (cfg x) fn x.2.1=true) :
  ∀ x,x∈R->aK5 P Mt X τ x.1 x.2.1:=by
 have key:∀ n x,x∈R->∀ args a,ElsOk τ x.2.1.ins args->aVX x.2.1 args->nth args x.2.2=some a->bX a<n->∃ r,OL P Mt X x.1 args []=some (r,[])/\RsOk τ x.2.1.outs r:=by
  intro n;induction n with
  | zero=>intro x hx args a _ _ _ h;omega
  | succ n w =>
   intro x hx args a hA hcap ha q;obtain ⟨rfl,c,c3,p,j,fn,o,c7⟩:=m x hx;have b:(cfg x).recs≠[]->(cfg x).meAg=true->∃ cs,a = .agg cs:=by
    intro u i;have h:=c7;unfold aFun at h;split at h
    ·rw [aa0,aa0,aa0,aay,aay] at h;rcases h.1.2 with h | h;· rw [List.isEmpty_iff] at h;exact by grind
     split at h
     ·rename_i e he;rw [beq_iff_eq] at h;obtain ⟨v,hv,d⟩:=hA.nth he;rw [c3,ha] at hv;cases hv;rw [i] at h;cases d with
      | ag B=>exact ⟨_,rfl⟩
      | one=>simp at h
     simp at h
    simp at h
   obtain ⟨r,y,A⟩:=bCo (v0:=a) (O:=OL P Mt X) ⟨p,by
    rw [c];intro f t k i args' z hA' hc' ha' l;exact w (f,t,k) i args' z hA' hc' ha' (by omega),b⟩ ⟨by
    intro _;rw [c3];exact ha,bGX c7 hA hcap⟩ c7 hA
   exact ⟨r,bBJ j aYn o y,A⟩
 intro x hx args hA hcap;obtain ⟨rfl,c,c3,p,j,fn,o,c7⟩:=m x hx;have hex:∃ a,nth args x.2.2=some a:=by
  have h:=c7;unfold aFun at h;split at h
  ·rw [aa0,aa0,aa0,aay,aay] at h;rcases h.1.2 with h | h;· rw [List.isEmpty_iff,c] at h;rw [h] at hx;simp at hx
   split at h;· rename_i e he;obtain ⟨v,hv,_⟩:=hA.nth he;rw [c3] at hv;exact ⟨v,hv⟩
   simp at h
  simp at h
 obtain ⟨a,ha⟩:=hex;exact key (bX a+1) x hx args a hA hcap ha (by omega)
end
section
variable {P : Program} {Mt : FuncId -> Hints} {X : Ext} {τ : Tb}
theorem sn':∀ g s,(g,s)∈([]:STb)->aK5 P Mt X τ g s:=by simp
theorem sc' {f a} {l:STb} (h:aK5 P Mt X τ f a) (b:∀ g s,(g,s)∈l->aK5 P Mt X τ g s):∀ g s,(g,s)∈(f,a)::l->aK5 P Mt X τ g s:=by
 grind
theorem aGK {α:Type} {p:α->Prop}:∀ x,x∈([]:List α)->p x:=by simp
theorem all_cons {α:Type} {p:α->Prop} {a l} (h:p a) (b:∀ x,x∈l->p x):∀ x,x∈a::l->p x:=by
 grind
end
def Tt {α:Type} (P:α->Prop) (x:Option α):Prop:=∃ a,x=some a/\P a
abbrev Te {α} (x:Option α):Prop:=Tt (fun _=>True) x
section
variable {α β σ ρ : Type} {P : α -> Prop} {Q : β -> Prop}
theorem Tt.ret {a} (h:P a):Tt P (some a):=⟨a,rfl,h⟩
theorem Tt.mono {b x} (h:Tt P x) (d:∀ a,P a->b a):Tt b x:=by obtain ⟨a,h,c⟩:=h;exact ⟨a,h,d a c⟩
theorem Tt.cnd {c x y} (b:c=true->Tt P x) (a:c=false->Tt P y):Tt P (Ev.cnd c x y):=by cases c<;>first | simp_all | simp_all
theorem Tt.bnd {x k} (h:Tt Q x) (b:∀ a,Q a->Tt P (k a)):Tt P (Ev.bnd x k):=by
 obtain ⟨a,rfl,c⟩:=h;simp_all
theorem Tt.eq {x:Option β} {b k} (h:x=some b) (a:Tt P (k b)):Tt P (Ev.bnd x k):=by simp_all
theorem Tt.elim {γ} {o:β⊕γ} {f g} (c:∀ a,o = .inl a->Tt P (f a)) (b:∀ a,o = .inr a->Tt P (g a)):Tt P (Ev.elim o f g):=by
 cases o<;>first | simp_all | simp_all
theorem Tt.nth {l:List β} {i:Int} {k} (h:0<=i/\i<l.length) (b:∀ a∈l,nthI l i=some a->Tt P (k a)):Tt P (Ev.bnd (nthI l i) k):=by
 have e:nthI l i=some l[i.toNat]:=by
  have:=dF l i.toNat;grind
 simp_all
theorem Tt.app {l m:List β} {k} (h:l.length+m.length<=274877906944) (a:Tt P (k (l++m))):Tt P (Ev.bnd (tapp l m) k):=Tt.eq (gM (by exact h)) a
def Nx (I:σ->Prop) (m:σ->Nat) (s:σ) (R:ρ->Prop) (o:σ⊕ρ):Prop:=(∃ s',o = .inl s'/\I s'/\m s'<m s)∨∃ r,o = .inr r/\R r
theorem Nx.lf {I:σ->Prop} {m s s'} {R:ρ->Prop} (h:I s') (a:m s'<m s):Nx I m s R (.inl s') := .inl ⟨_,rfl,h,a⟩
theorem Nx.r {I:σ->Prop} {m s} {R:ρ->Prop} {r} (h:R r):Nx I m s R (.inr r) := .inr ⟨_,rfl,h⟩
theorem Tt.loop {b:σ->Option (σ⊕ρ)} I m {R} (f:∀ s,I s->Tt (Nx I m s R) (b s)) {s} (c:I s):Tt R (cW b s):=by
 have e:∀ n s,m s<=n->I s->Tt R (cW b s):=by
  intro n;induction n with
  | zero =>
   intro s h c;obtain ⟨o,d,⟨s',rfl,a,g⟩ | ⟨r,rfl,a⟩⟩:=f s c;· omega
   exact ⟨r,cG d,a⟩
  | succ n i =>
   intro s h c;obtain ⟨o,d,⟨s',rfl,a,g⟩ | ⟨r,rfl,a⟩⟩:=f s c;· rw [fL d];grind
   exact ⟨r,cG d,a⟩
 exact e _ s (aa1 _) c
def Ix (n:Nat) (k:Int) (R:ρ->Prop) (o:Int⊕ρ):Prop:=(o = .inl (IntKind.wrap .i64 (k+1))/\k<n)∨∃ r,o = .inr r/\R r
theorem Ix.r {n k} {R:ρ->Prop} {r} (h:R r):Ix n k R (.inr r) := .inr ⟨_,rfl,h⟩
theorem Ix.lf {n:Nat} {k:Int} {R:ρ->Prop} (h:decide (k<n)=true):Ix n k R (.inl (IntKind.wrap .i64 (k+1))) := .inl ⟨rfl,by grind⟩
theorem Tt.idx {b:Int->Option (Int⊕ρ)} (n:Nat) {R} (f:n<4611686018427387904) (c:∀ k:Int,0<=k->k<=n->Tt (Ix n k R) (b k)):Tt R (cW b 0) :=
 Tt.loop (fun k:Int=>0<=k/\k<=n) (fun k  => (n-k).toNat) (fun k a=>(c k a.1 a.2).mono fun o d=>by
  rcases d with ⟨rfl,h⟩ | h;· have e:IntKind.wrap .i64 (k+1)=k+1:=wi (by omega);exact Nx.lf ⟨by omega,by omega⟩ (by omega)
  exact .inr h) ⟨by omega,by omega⟩
theorem pH {i n:Int} (h:decide (i<n)=true):i<n:=by grind
end
end Go.Ev

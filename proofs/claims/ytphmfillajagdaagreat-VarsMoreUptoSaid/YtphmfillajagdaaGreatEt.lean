import Derived.Test.YtphmfillajagdaaGreatEd
set_option linter.unusedVariables false
set_option linter.unusedSimpArgs false
namespace Go.Ev
open PV
inductive Sx where
 | root (r:Nat)
 | cell (p:Sx) (c:Nat)
 | elem (p i:Sx)
 | lit (k:IntKind) (n:Int)
 | txt (s:List UInt8)
 | len (p:Sx)
 | suc (x:Sx)
 deriving DecidableEq,Inhabited
def bCx:PV->List PV
 | .slice es _ _=>es
 | _=>[]
def lenOf:PV->Nat
 | .slice es _ _=>es.length
 | .str s=>s.length
 | _=>0
def den (env:List PV):Sx->Option PV
 | .root r=>nth env r
 | .cell p c=>bnd (den env p) fun v=>nth v.cells c
 | .elem p i=>bnd (den env p) fun v=>bnd (den env i) fun j=>match j with | .int _ n=>nth (bCx v) n.toNat | _=>none
 | .lit k n=>some (.int k n)
 | .txt s=>some (.str s)
 | .len p=>bnd (den env p) fun v=>some (.int .i64 (lenOf v))
 | .suc x=>bnd (den env x) fun v=>match v with | .int k n=>some (.int k (k.wrap (n+1))) | _=>none
inductive Lf where
 | bool
 | int (k:IntKind)
 | str
 | sl (n ub:Nat) (o:Bool)
 | rng (k:IntKind) (lo hi:Int)
 deriving DecidableEq,Inhabited
structure El where
 ag:Bool
 cs:List Lf
 deriving DecidableEq,Inhabited
def El.size (e:El):Nat:=e.cs.length
abbrev Tb:=List El
def elOf (τ:Tb) (n:Nat):El :=
 match nth τ n with
 | some e=>e
 | none=>⟨false,[]⟩
def topL:Nat:=1073741824
mutual
inductive LfOk (τ:Tb):Lf->PV->Prop
 | bool (b:Bool):LfOk τ .bool (.bool b)
 | int (k:IntKind) (n:Int):LfOk τ (.int k) (.int k n)
 | rng {k:IntKind} {lo hi n:Int} (h:lo<=n/\n<=hi):LfOk τ (.rng k lo hi) (.int k n)
 | str {s:List UInt8} (h:s.length<=topL):LfOk τ .str (.str s)
 | sl {n ub:Nat} {es:List PV} {o:Bool} (h:∀ e,e∈es->ElOk τ (elOf τ n) e) (hl:es.length<=ub):LfOk τ (.sl n ub o) (.slice es [] o)
inductive ElOk (τ:Tb):El->PV->Prop
 | ag {cs:List Lf} {vs:List PV} (h:CsOk τ cs vs):ElOk τ ⟨true,cs⟩ (.agg vs)
 | one {l:Lf} {v:PV} (h:LfOk τ l v):ElOk τ ⟨false,[l]⟩ v
inductive CsOk (τ:Tb):List Lf->List PV->Prop
 | nil:CsOk τ [] []
 | cons {l:Lf} {ls:List Lf} {v:PV} {vs:List PV} (h:LfOk τ l v) (hs:CsOk τ ls vs):CsOk τ (l::ls) (v::vs)
end
inductive CO where
 | lt
 | le
 | eq
 deriving DecidableEq
def CO.ev:CO->Int->Int->Bool
 | .lt,a,b=>decide (a<b)
 | .le,a,b=>decide (a<=b)
 | .eq,a,b=>a==b
inductive Cn where
 | k (b:Bool)
 | cmp (o:CO) (x y:Sx)
 | not (c:Cn)
 | unk
 deriving DecidableEq
def CnOk (env:List PV):Cn->Bool->Prop
 | .k c,b=>b=c
 | .cmp o x y,b=>∃ k n k' m,den env x=some (.int k n)/\den env y=some (.int k' m)/\b=o.ev n m
 | .not c,b=>CnOk env c (!b)
 | .unk,_=>True
abbrev Fact:=CO×Sx×Sx
def eQ (env:List PV) (f:Fact):Prop:=CnOk env (.cmp f.1 f.2.1 f.2.2) true
inductive AV where
 | any
 | und
 | nm (x:Sx) (l:Lf)
 | sl (x:Sx) (n c m:Nat) (i:Sx) (own:Bool)
 | cn (c:Cn)
 | nil (own:Bool)
 | agg (cs:List AV)
 | tup (vs:List AV)
 | ref (v:AV)
 | ptr (id off:Nat)
 deriving Inhabited
def isSl:Lf->Bool
 | .sl _ _ _=>true
 | _=>false
mutual
inductive Mt (τ:Tb) (env:List PV):AV->PV->Prop
 | any (v:PV):Mt τ env .any v
 | und:Mt τ env .und .und
 | nm {x:Sx} {l:Lf} {v:PV} (h:den env x=some v) (hl:LfOk τ l v) (hs:isSl l=false):Mt τ env (.nm x l) v
 | sl {x:Sx} {n c m:Nat} {i:Sx} {own:Bool} {es:List PV} {o:Bool} {k:IntKind} {z:Int} (h:den env x=some (.slice es [] o)) (he:∀ e,e∈es->ElOk τ (elOf τ n) e)
   (hi:den env i=some (.int k z)) (hl:es.length<=c+m*z.toNat):Mt τ env (.sl x n c m i own) (.slice es [] own)
 | cn {c:Cn} {b:Bool} (h:CnOk env c b):Mt τ env (.cn c) (.bool b)
 | nil (own:Bool):Mt τ env (.nil own) (.slice [] [] own)
 | agg {cs:List AV} {vs:List PV} (h:Mts τ env cs vs):Mt τ env (.agg cs) (.agg vs)
 | tup {cs:List AV} {vs:List PV} (h:Mts τ env cs vs):Mt τ env (.tup cs) (.tuple vs)
 | ref {a:AV} {v:PV} (h:Mt τ env a v):Mt τ env (.ref a) (.ref v)
 | ptr (id off:Nat):Mt τ env (.ptr id off) (.ptr 0 id off)
inductive Mts (τ:Tb) (env:List PV):List AV->List PV->Prop
 | nil:Mts τ env [] []
 | cons {a:AV} {as:List AV} {v:PV} {vs:List PV} (h:Mt τ env a v) (hs:Mts τ env as vs):Mts τ env (a::as) (v::vs)
end
inductive FrOk (τ:Tb) (env:List PV):List (Nat×AV)->List (Nat×PV)->Prop
 | nil:FrOk τ env [] []
 | cons {i:Nat} {a:AV} {v:PV} {l:List (Nat×AV)} {m:List (Nat×PV)} (h:Mt τ env a v) (hs:FrOk τ env l m):FrOk τ env ((i,a)::l) ((i,v)::m)
inductive BxOk (τ:Tb) (env:List PV):List (Nat×List AV)->iM->Prop
 | nil:BxOk τ env [] []
 | cons {i:Nat} {a:List AV} {v:List PV} {l:List (Nat×List AV)} {m:iM} (h:Mts τ env a v) (hs:BxOk τ env l m):BxOk τ env ((i,a)::l) ((i,v)::m)
structure ASt where
 fr:List (Nat×AV)
 bx:List (Nat×List AV)
 fs:List Fact
 nx:Nat
structure Good (τ:Tb) (env:List PV) (A:ASt) (st:St):Prop where
 fr:FrOk τ env A.fr st.fr
 bx:∃ b,st.bx=[b]/\BxOk τ env A.bx b
 fs:∀ f,f∈A.fs->eQ env f
 nx:A.nx=env.length
def AV.isNm:AV->Bool
 | .nm _ _ | .sl _ _ _ _ _ _ | .cn _ | .nil _=>true
 | _=>false
def AV.solid1 (a:AV):Bool:=a.isNm
def AV.solid:AV->Bool
 | .agg cs=>cs.all AV.solid1
 | a=>a.isNm
def AV.cells:AV->List AV
 | .agg cs=>cs
 | a=>[a]
def AV.plain1:AV->AV
 | .sl x n c m i _ => .sl x n c m i false
 | .nil _ => .nil false
 | a=>a
def AV.plainA:AV->AV
 | .agg cs => .agg (cs.map AV.plain1)
 | a=>a.plain1
def AV.plain:AV->AV
 | .tup vs => .tup (vs.map AV.plainA)
 | a=>a.plainA
def bCy:Value->AV
 | .bool b => .cn (.k b)
 | .int k n => .nm (.lit k n) (.int k)
 | .string s=>if s.data.toList.length<=topL then .nm (.txt s.data.toList) .str else .any
 | .slice none 0 0 => .nil true
 | _ => .any
def aYg:Value->AV
 | .agg cs => .agg (cs.toList.map bCy)
 | v=>bCy v
def aGl (fr:List (Nat×AV)) (i:Nat):AV :=
 match look fr i with
 | some v=>v
 | none => .any
def aopd (fr:List (Nat×AV)):Operand->AV
 | .tmp t=>aGl fr t
 | .const v=>aYg v
 | _ => .any
def aopv (fr:List (Nat×AV)) (tk:Bool):Operand->AV
 | .tmp t=>match tk with | true=>aGl fr t | false=>(aGl fr t).plain
 | x=>aopd fr x
def aPm (fr:List (Nat×AV)) (tk:Bool):Operand->List (Nat×AV)
 | .tmp t=>match tk with | true=>[(t,(aGl fr t).plain)] | false=>[]
 | _=>[]
def adst (nt:Nat) (d:Option Nat) (v:AV):List (Nat×AV) :=
 match d with
 | some d=>if d<nt then [(d,v)] else []
 | none=>[]
structure AEff where
 cr:List (Nat×Nat×Nat×Nat):=[]
 cw:List (Nat×Nat×Nat×List AV):=[]
 ws:List (Nat×AV):=[]
 nw:List (Nat×List AV):=[]
def pM (bx:List (Nat×List AV)):List (Nat×Nat×Nat×List AV)->List (Nat×List AV)
 | []=>bx
 | (_,id,o,vs)::l =>
  match look bx id with
  | some cs=>pM (aputBox bx id (putAt cs o vs)) l
  | none=>pM bx l
where aputBox:List (Nat×List AV)->Nat->List AV->List (Nat×List AV)
 | [],_,_=>[]
 | (i,c)::l,j,c'=>if i=j then (i,c')::l else (i,c)::aputBox l j c'
def AEff.foot (e:AEff):Foot:=⟨e.cr,e.cw.map fun c=>(c.1,c.2.1,c.2.2.1,c.2.2.2.length),e.nw.map (·.1)⟩
structure Summ where
 ins:List El
 outs:List El
 cap:Nat:=0
 deriving Inhabited
abbrev STb:=List (FuncId×Summ)
def aCg:Cn->Bool->List Fact->List Fact
 | .cmp .lt x y,true,fs=>(.lt,x,y)::fs
 | .cmp .lt x y,false,fs=>(.le,y,x)::fs
 | .cmp .le x y,true,fs=>(.le,x,y)::fs
 | .cmp .le x y,false,fs=>(.lt,y,x)::fs
 | .cmp .eq x y,true,fs=>(.le,x,y)::(.le,y,x)::fs
 | .cmp .eq _ _,false,fs=>fs
 | .not c,b,fs=>aCg c (!b) fs
 | _,_,fs=>fs
def hasF (fs:List Fact) (f:Fact):Bool:=fs.any fun g=>decide (g=f)
def leB (fs:List Fact) (p:Sx) (top:Nat):Bool:=fs.any fun f=>match f with
 | (.le,.len q,.lit _ b)=>decide (q=p)&&decide (b<=top)
 | _=>false
def ltB1 (fs:List Fact) (x:Sx) (top:Nat):Bool:=fs.any fun f=>match f with
 | (.lt,y,.len p)=>decide (y=x)&&leB fs p top
 | (.le,y,.lit _ b)=>decide (y=x)&&decide (b<top)
 | _=>false
def ltB (fs:List Fact) (x:Sx) (top:Nat):Bool:=ltB1 fs x top||fs.any fun f=>match f with
 | (.lt,y,z)=>decide (y=x)&&ltB1 fs z top
 | _=>false
def bET (fs:List Fact) (x p:Sx):Bool:=fs.any fun f=>match f with
 | (.lt,y,z)=>decide (y=x)&&(decide (z = .len p)||hasF fs (.le,z,.len p)||hasF fs (.lt,z,.len p))
 | _=>false
def capX (fs:List Fact) (m:Nat) (i:Sx):Option Nat :=
 match m with
 | 0=>some 0
 | m=>match i with
  | .lit _ z=>some (m*z.toNat)
  | i=>match fs.find? fun f=>match f with
    | (.le,y,.lit _ b)=>decide (y=i)
    | _=>false with
   | some (_,_,.lit _ b)=>some (m*b.toNat)
   | _=>none
def nnX (fs:List Fact):Sx->Bool
 | .lit _ n=>decide (0<=n)
 | .len _=>true
 | .suc x=>nnX fs x&&ltB fs x topL
 | x=>hasF fs (.le,.lit .i64 0,x)
def aKS:Cn->Option Bool
 | .k b=>some b
 | .not c=>match aKS c with | some b=>some (!b) | none=>none
 | _=>none
def loQ (fs:List Fact) (x:Sx) (lo:Int):Bool :=
 match x with
 | .lit _ n=>decide (lo<=n)
 | x=>fs.any fun f=>match f with
  | (.le,.lit _ a,y)=>decide (y=x)&&decide (lo<=a)
  | _=>false
def hiQ1 (fs:List Fact) (x:Sx) (hi:Int):Bool :=
 match x with
 | .lit _ n=>decide (n<=hi)
 | x=>fs.any fun f=>match f with
  | (.le,y,.lit _ a)=>decide (y=x)&&decide (a<=hi)
  | (.lt,y,.lit _ a)=>decide (y=x)&&decide (a<=hi+1)
  | _=>false
def hiQ (fs:List Fact) (x:Sx) (hi:Int):Bool:=hiQ1 fs x hi||fs.any fun f=>match f with
 | (.lt,y,z)=>decide (y=x)&&hiQ1 fs z (hi+1)
 | _=>false
def notQ (fs:List Fact):Cn->Bool
 | .cmp .eq x (.lit _ c)=>hiQ fs x (c-1)||loQ fs x (c+1)
 | _=>false
def aBr (a:AV) (fs:List Fact) (K:Bool->List Fact->Bool):Bool :=
 match a with
 | .cn c=>match aKS c with
  | some b=>K b fs
  | none=>match notQ fs c with
   | true=>K false fs
   | false=>K true (aCg c true fs)&&K false (aCg c false fs)
 | .nm _ .bool=>K true fs&&K false fs
 | _=>false
def ofLf (x:Sx):Lf->AV
 | .sl n ub o => .sl x n ub 0 (.lit .i64 0) o
 | .rng k _ _ => .nm x (.int k)
 | l => .nm x l
def bHz (x:Sx):Nat->List Lf->List AV
 | _,[]=>[]
 | j,l::ls=>ofLf (.cell x j) l::bHz x (j+1) ls
def ofEl (x:Sx) (e:El):AV :=
 match e.ag with
 | true => .agg (bHz x 0 e.cs)
 | false=>match e.cs with
  | [l]=>ofLf x l
  | _ => .any
def aSb (fs:List Fact) (l:Lf) (a:AV):Bool :=
 match l,a with
 | .bool,.cn _=>true
 | .sl n ub o,.sl _ n' c m i own=>(o==own)&&Nat.beq n n'&&(match capX fs m i with
  | some k=>Nat.ble (c+k) ub
  | none=>false)
 | .sl _ _ o,.nil own=>o==own
 | .rng k lo hi,.nm x (.int k')=>decide (k=k')&&loQ fs x lo&&hiQ fs x hi
 | l,.nm _ l'=>decide (l=l')
 | _,_=>false
def aOr (fs:List Fact):List Lf->List AV->Bool
 | [],[]=>true
 | l::ls,a::as=>aSb fs l a&&aOr fs ls as
 | _,_=>false
def aVl (fs:List Fact) (e:El) (a:AV):Bool :=
 match e.ag,a with
 | true,.agg cs=>aOr fs e.cs cs
 | true,_=>false
 | false,a=>match e.cs with
  | [l]=>aSb fs l a
  | _=>false
def aGm (fs:List Fact):List El->List AV->Bool
 | [],[]=>true
 | e::es,a::as=>aVl fs e a&&aGm fs es as
 | _,_=>false
def bCz (r:Nat):List El->List AV
 | []=>[]
 | e::es=>ofEl (.root r) e::bCz (r+1) es
inductive HV where
 | same
 | any
 | lf (l:Lf)
 | el (e:El)
 | acc (n c m:Nat)
structure LH where
 hv:List HV
 cnt:Nat
 top:Nat
 ex:List (Option Nat×List HV)
structure Cfg where
 τ:Tb
 sums:STb
 recs:List (FuncId×Summ×Nat)
 me:Nat
 meAg:Bool
 cap:Nat:=0
 np:Nat:=0
 loops:List (Nat×LH)
def aSc (r:Nat):Sx->Bool
 | .root r'=>Nat.beq r r'
 | .cell p _=>aSc r p
 | .elem p _=>aSc r p
 | _=>false
def xH (ag:Bool) (r:Nat):Sx->Bool
 | .cell (.root r') _=>ag&&Nat.beq r r'
 | .cell p _=>xH ag r p
 | .elem p _=>aSc r p
 | _=>false
def aEN (q:Sx):Nat->List AV->Bool
 | _,[]=>true
 | j,a::as=>(match a with
  | .nm x _=>decide (x = .cell q j)
  | .sl x _ _ _ _ _=>decide (x = .cell q j)
  | _=>false)&&aEN q (j+1) as
def aJb (np:Nat):Sx->Bool
 | .root r=>decide (r<np)
 | .cell p _=>aJb np p
 | .elem p _=>aJb np p
 | _=>false
def capA (np:Nat):AV->Bool
 | .nm x l=>(match l with | .str=>aJb np x | _=>true)
 | .cn _=>true
 | .nil _=>true
 | .sl x _ _ _ _ _=>aJb np x
 | .agg (.nm (.cell q j) l::a::as)=>aJb np q&&aEN q j (.nm (.cell q j) l::a::as)
 | .agg (.sl (.cell q j) n c m i o::a::as)=>aJb np q&&aEN q j (.sl (.cell q j) n c m i o::a::as)
 | _=>false
def capC (C:Cfg) (sm:Summ) (args:List AV):Bool:=Nat.beq sm.cap 0||(Nat.ble 1 C.cap&&Nat.ble C.cap sm.cap&&args.all (capA C.np))
def bCA (ag:Bool) (r:Nat):AV->Bool
 | .sl x _ _ _ _ _=>xH ag r x
 | .agg (.nm (.cell q j) l::a::as)=>xH ag r q&&aEN q j (.nm (.cell q j) l::a::as)
 | _=>false
section
variable (P : Program) (mt : Hints) (nt : Nat) (C : Cfg)
def bCB (t:TypeId):Option AV :=
 match P.info? t with
 | some i=>i.zero.map aYg
 | none=>none
def aYh (A:ASt) (d:Option Nat):Option Nat :=
 match d with
 | some d=>match look A.bx d with
  | none=>if d<nt then some d else none
  | some _=>none
 | none=>none
def AV.fits:AV->Bool
 | .ptr _ _=>true
 | .ref _=>true
 | a=>a.isNm
def aKT (size:Nat) (ag:Bool) (a:AV):Option (List AV) :=
 match ag,a with
 | true,.agg cs=>if cs.length=size then some cs else none
 | true,_=>none
 | false,a=>match a.fits,size with
  | true,1=>some [a]
  | _,_=>none
abbrev AK:=AEff->List Fact->Nat->Bool
def aPn (o:Oper) (n:Nat) (ag:Bool) (v:AV) (lv:List (Nat×AV)) (A:ASt) (K:AK):Bool :=
 match aYh nt A o.dst,aKT n ag v with
 | some id,some cs=>match cs.all AV.fits with
  | true=>K {ws:=(id,.ptr id 0)::lv,nw:=[(id,cs)]} A.fs A.nx
  | false=>false
 | _,_=>false
def apart (off size:Nat) (ag:Bool) (cs:List AV):Option AV :=
 match ag with
 | true=>if off+size<=cs.length then some (.agg ((cs.drop off).take size)) else none
 | false=>nth cs off
def afld (off size:Nat) (ag:Bool) (x:AV):Option AV :=
 match x with
 | .agg cs=>apart off size ag cs
 | _=>none
def bCC:List AV->Bool
 | [a]=>a.fits
 | _=>true
def aKU (ag:Bool) (v:AV):Option (List AV) :=
 match ag,v with
 | true,.agg cs=>some (cs.map AV.plain1)
 | true,_=>none
 | false,v=>some [v.plain1]
def aYi (place:Nat->Option (Nat×Nat×Bool)):List (Nat×AV)->List AV->Option (List AV)
 | [],cs=>some cs
 | (i,v)::rest,cs =>
  match place i with
  | some (off,size,ag)=>match aKT size ag v with
   | some vs=>if off+size<=cs.length then aYi place rest (putAt cs off vs) else none
   | none=>none
  | none=>none
def aKV:Tb->Nat->List AV->Option Nat
 | [],_,_=>none
 | e::τ,n,as=>match as.all (aVl [] e) with
  | true=>some n
  | false=>aKV τ (n+1) as
def aKW (sz:Nat) (l:List (Nat×AV)) (n k:Nat):Bool :=
 match l with
 | []=>Nat.beq n k
 | (i,a)::r=>Nat.beq i k&&a.solid&&Nat.beq a.cells.length sz&&aKW sz r n (k+1)
def aVm (k:Nat) (a b:AV):Bool :=
 match k,a,b with
 | 1,.nm _ (.int k),.nm _ (.int k')=>decide (k=k')
 | 2,.nm _ .str,.nm _ .str=>true
 | 0,a,b=>aSb [] .bool a&&aSb [] .bool b
 | _,_,_=>false
def isB (a:AV):Bool:=aSb [] .bool a
def nn0 (fs:List Fact):Sx->Bool
 | .lit _ c=>decide (0<=c)
 | .root r=>hasF fs (.le,.lit .i64 0,.root r)
 | _=>false
def abin (fs:List Fact) (op:BinOp) (a b:AV) (nx:Nat):Option (AV×Nat) :=
 match a,b with
 | .nm x (.int k),.nm y (.int k') =>
  match op with
  | .shl=>if nn0 fs y=true then some (.nm (.root nx) (.int k),nx+1) else none
  | .shr=>if nn0 fs y=true then some (.nm (.root nx) (.int k),nx+1) else none
  | op=>match decide (k=k') with
   | false=>none
   | true=>match op with
    | .eql=>some (.cn (.cmp .eq x y),nx)
    | .neq=>some (.cn (.not (.cmp .eq x y)),nx)
    | .lss=>some (.cn (.cmp .lt x y),nx)
    | .leq=>some (.cn (.cmp .le x y),nx)
    | .gtr=>some (.cn (.cmp .lt y x),nx)
    | .geq=>some (.cn (.cmp .le y x),nx)
    | .add=>match y with
     | .lit _ 1=>some (.nm (.suc x) (.int k),nx)
     | _=>some (.nm (.root nx) (.int k),nx+1)
    | .sub | .mul | .and | .or | .xor | .andNot=>some (.nm (.root nx) (.int k),nx+1)
    | .quo=>match y with | .lit _ c=>if c=0 then none else some (.nm (.root nx) (.int k),nx+1) | _=>none
    | .rem=>match y with | .lit _ c=>if c=0 then none else some (.nm (.root nx) (.int k),nx+1) | _=>none
    | _=>none
 | .nm x .str,.nm (.txt []) .str =>
  match op with
  | .eql=>some (.cn (.cmp .le (.len x) (.lit .i64 0)),nx)
  | .neq=>some (.cn (.not (.cmp .le (.len x) (.lit .i64 0))),nx)
  | _=>none
 | .nm _ .str,.nm _ .str =>
  match op with
  | .eql | .neq | .lss | .leq | .gtr | .geq=>some (.cn .unk,nx)
  | _=>none
 | _,_=>none
def bCD (o:Oper) (op:BinOp) (x y:AV) (A:ASt) (K:AK):Bool :=
 match abin A.fs op x y A.nx with
 | some (v,nx)=>K {ws:=adst nt o.dst v} A.fs nx
 | none=>false
def aCmp (o:Oper) (op:BinOp) (t:TypeId) (x y:AV) (A:ASt) (K:AK):Bool :=
 match P.underlying t with
 | some (.int _)=>bCD nt o op x y A K
 | some .string=>bCD nt o op x y A K
 | some .bool=>match isB x&&isB y with
  | true=>K {ws:=adst nt o.dst (.cn .unk)} A.fs A.nx
  | false=>false
 | some (.struct _) =>
  match szOf P t,aEi P 20 t 0,P.eqGuardType P.depth t,x,y with
  | some n,some ls,false,.agg xs,.agg ys=>match Nat.beq xs.length n&&Nat.beq ys.length n&&ls.all fun l=>match nth xs l.1,nth ys l.1 with | some a,some b=>aVm l.2 a b | _,_=>false with
   | true=>K {ws:=adst nt o.dst (.cn .unk)} A.fs A.nx
   | false=>false
  | _,_,_,_,_=>false
 | _=>false
def bJL (o:Oper) (op:BinOp) (t:TypeId) (x y:AV) (A:ASt) (K:AK):Bool :=
 match op with
 | .eql=>aCmp P nt o .eql t x y A K
 | .neq=>aCmp P nt o .neq t x y A K
 | op=>bCD nt o op x y A K
def aapd (size:Nat) (x y:AV) (fs:List Fact) (nx:Nat):Option (AV×Nat) :=
 match x,y with
 | .nil true,.nil _=>some (.nil true,nx)
 | .nil true,.sl x n c m i _ =>
  match capX fs m i with
  | some k=>if c+k<=lim/\(elOf C.τ n).size=size then some (.sl x n c m i true,nx) else none
  | none=>none
 | .sl x n c m i true,.nil _ =>
  match capX fs m i with
  | some k=>if c+k<=lim/\(elOf C.τ n).size=size then some (.sl x n c m i true,nx) else none
  | none=>none
 | .sl _ n c m i true,.sl _ n' c' m' _ _ =>
  match capX fs m i with
  | some k=>if c+k+c'<=lim/\(elOf C.τ n).size=size/\n=n'/\m'=0 then some (.sl (.root nx) n (c+c') m i true,nx+1) else none
  | none=>none
 | _,_=>none
def aRes (outs:List El) (nx:Nat):AV :=
 match outs with
 | [e]=>ofEl (.root nx) e
 | es => .tup (bCz nx es)
def bIT (o:Oper) (c:Call) (A:ASt) (K:AK):Bool :=
 let ρ:=aopd A.fr
 let tk:=hasO mt.takes o.dst
 match c.callee with
 | .value (.func g) =>
  let args:=c.args.toList.map (aopv A.fr tk)
  let lv:=c.args.toList.flatMap (aPm A.fr tk)
  match (!tk||xB (qS c.args.toList)) && !hasO mt.gens o.dst && !hasO mt.brw o.dst&&(bBM mt o.dst).isNone&&args.all AV.solid with
  | false=>false
  | true =>
   match C.sums.find? fun x=>Nat.beq x.1 g with
   | some (_,sm)=>match aGm A.fs sm.ins args&&capC C sm args with
    | true=>K {ws:=adst nt o.dst (aRes sm.outs A.nx)++lv} A.fs (A.nx+sm.outs.length)
    | false=>false
   | none=>match C.recs.find? fun x=>Nat.beq x.1 g with
    | some (_,sm,k)=>match aGm A.fs sm.ins args&&capC C sm args&&(match nth args k with | some a=>bCA C.meAg C.me a | none=>false) with
     | true=>K {ws:=adst nt o.dst (aRes sm.outs A.nx)++lv} A.fs (A.nx+sm.outs.length)
     | false=>false
    | none=>false
 | .builtin .len =>
  match c.args.toList,c.argTypes.toList with
  | [x],[t] =>
   match P.underlying t,ρ x with
   | some .string,.nm x .str=>K {ws:=adst nt o.dst (.nm (.len x) (.int .i64))} ((.le,.len x,.lit .i64 topL)::A.fs) A.nx
   | some (.slice _),.sl x _ c m i _=>K {ws:=adst nt o.dst (.nm (.len x) (.int .i64))} (match m,i with
    | 0,_=>(.le,.len x,.lit .i64 c)::A.fs
    | m,.lit _ z=>(.le,.len x,.lit .i64 ((c+m*z.toNat:Nat):Int))::A.fs
    | _,_=>A.fs) A.nx
   | some (.slice _),.nil _=>K {ws:=adst nt o.dst (.nm (.lit .i64 0) (.int .i64))} A.fs A.nx
   | _,_=>false
  | _,_=>false
 | .builtin .append =>
  match c.args.toList,c.argTypes.toList with
  | [x,y],[t,u] =>
   match P.underlying t,P.underlying u with
   | some (.slice e),some (.slice _) =>
    match P.info? e with
    | some i=>if 0<i.size/\i.bytes<=512/\aBL i=true/\(bBM mt o.dst).isNone=true then
      match aapd C i.size (aopd A.fr x) (ρ y) A.fs A.nx with
      | some (v,nx)=>K {ws:=adst nt o.dst v++aPm A.fr true x} A.fs nx
      | none=>false
      else false
    | none=>false
   | _,_=>false
  | _,_=>false
 | .builtin .max =>
  match c.args.toList with
  | [x,y] =>
   match ρ x,ρ y with
   | .nm _ (.int k),.nm _ (.int _)=>K {ws:=adst nt o.dst (.nm (.root A.nx) (.int k))} A.fs (A.nx+1)
   | _,_=>false
  | _=>false
 | _=>false
def aIx (size:Nat) (a i:AV) (fs:List Fact):Option AV :=
 match a,i with
 | .sl p n _ _ _ _,.nm i (.int .i64) =>
  if (elOf C.τ n).size=size/\0<size/\nnX fs i=true/\bET fs i p=true then some (.ref (ofEl (.elem p i) (elOf C.τ n))) else none
 | _,_=>none
def aOp (o:Oper) (A:ASt) (K:AK):Bool :=
 let ρ:=aopd A.fr
 let tk:=hasO mt.takes o.dst
 let fin v:Bool:=K {ws:=adst nt o.dst v} A.fs A.nx
 match o.op with
 | .move x=>K {ws:=adst nt o.dst (aopv A.fr tk x)++aPm A.fr tk x} A.fs A.nx
 | .assign x=>K {ws:=adst nt o.dst (aopv A.fr true x)++aPm A.fr true x} A.fs A.nx
 | .pick c a b=>aBr (ρ c) A.fs fun t fs=>match t with
  | true=>K {ws:=adst nt o.dst (aopv A.fr false a)} fs A.nx
  | false=>K {ws:=adst nt o.dst (aopv A.fr false b)} fs A.nx
 | .alloc t =>
  match szOf P t,agOf P t,bCB P t with
  | some n,some ag,some z=>aPn nt o n ag z [] A K
  | _,_,_=>false
 | .box t x =>
  match szOf P t,agOf P t with
  | some n,some ag=>aPn nt o n ag (aopv A.fr true x) (aPm A.fr true x) A K
  | _,_=>false
 | .build t ps =>
  match P.underlying t,bCB P t with
  | some (.struct fs),some (.agg z) =>
   match fs.toList.all (fun f=>(P.info? f.type).isSome),aYi (uB P fs) (ps.toList.map fun p=>(p.1,aopv A.fr false p.2)) z with
   | true,some cs=>fin (.agg cs)
   | _,_=>false
  | _,_=>false
 | .buildSlice t n ps =>
  match P.underlying t with
  | some (.slice e) =>
   match szOf P e,bCB P e with
   | some sz,some z =>
    let es:=ps.toList.map fun p=>(p.1,aopv A.fr false p.2)
    match decide (n*sz<=16777216)&&Nat.beq z.cells.length sz&&z.solid&&decide (0<sz)&&aKW sz es n 0&&decide (0<n) with
    | true=>match aKV C.τ 0 ((es.map (·.2)).map AV.plain) with
     | some w=>K {ws:=adst nt o.dst (.sl (.root A.nx) w n 0 (.lit .i64 0) true)} A.fs (A.nx+1)
     | none=>false
    | false=>false
   | _,_=>false
  | _=>false
 | .load t p =>
  match szOf P t,agOf P t with
  | some n,some ag =>
   match aopd A.fr p with
   | .ptr id off =>
    match decide (0<n)&&(ag||Nat.beq n 1),look A.bx id with
    | true,some cs=>match bCC cs,apart off n ag cs with
     | true,some v=>match tk with
      | true=>match aKU ag v with
       | some pc=>K {cr:=[(0,id,off,n)],cw:=[(0,id,off,pc)],ws:=adst nt o.dst v} A.fs A.nx
       | none=>false
      | false=>K {cr:=[(0,id,off,n)],ws:=adst nt o.dst v.plain} A.fs A.nx
     | _,_=>false
    | _,_=>false
   | .ref v=>match ag,v with
    | true,.agg cs=>match Nat.beq cs.length n with
     | true=>fin (AV.plain (.agg cs))
     | false=>false
    | true,_=>false
    | false,v=>match v.fits with
     | true=>fin v.plain
     | false=>false
   | _=>false
  | _,_=>false
 | .store t p x =>
  match szOf P t,agOf P t with
  | some n,some ag =>
   match aopd A.fr p,o.dst with
   | .ptr id off,none =>
    match look A.bx id,aKT n ag (aopv A.fr true x) with
    | some cs,some vs=>match bCC cs&&vs.all AV.fits&&decide (off+n<=cs.length)&&decide (0<n) with
     | true=>K {cw:=[(0,id,off,vs)],ws:=aPm A.fr true x} A.fs A.nx
     | false=>false
    | _,_=>false
   | _,_=>false
  | _,_=>false
 | .nilCheck x =>
  match aopd A.fr x with
  | .ptr id off=>fin (.ptr id off)
  | .ref v=>fin (.ref v)
  | _=>false
 | .binOp op t x y _=>bJL P nt o op t (ρ x) (ρ y) A K
 | .unOp op _ x =>
  match op,ρ x with
  | .not,.cn c=>fin (.cn (.not c))
  | .not,.nm _ .bool=>fin (.cn .unk)
  | .neg,.nm _ (.int k)=>K {ws:=adst nt o.dst (.nm (.root A.nx) (.int k))} A.fs (A.nx+1)
  | _,_=>false
 | .convert s d x =>
  match P.underlying s,P.underlying d,ρ x with
  | some (.int _),some (.int k),.nm _ (.int _)=>K {ws:=adst nt o.dst (.nm (.root A.nx) (.int k))} (match k.signed with | true=>A.fs | false=>(.le,.lit .i64 0,.root A.nx)::A.fs) (A.nx+1)
  | _,_,_=>false
 | .fieldAddr s x f =>
  match P.underlying s with
  | some (.struct fs) =>
   match uB P fs f with
   | some (off,n,ag)=>match decide (0<n),ρ x with
    | true,.ptr id o=>fin (.ptr id (o+off))
    | true,.ref v=>match afld off n ag v with
     | some p=>fin (.ref p)
     | none=>false
    | _,_=>false
   | none=>false
  | _=>false
 | .indexAddr t x i =>
  match P.underlying t with
  | some (.slice e) =>
   match szOf P e with
   | some n=>match aIx C n (ρ x) (ρ i) A.fs with
    | some v=>fin v
    | none=>false
   | none=>false
  | _=>false
 | .index t x i =>
  match P.underlying t,ρ x,ρ i with
  | some .string,.nm p .str,.nm i (.int .i64)=>match nnX A.fs i&&bET A.fs i p with
   | true=>K {ws:=adst nt o.dst (.nm (.root A.nx) (.int .u8))} A.fs (A.nx+1)
   | false=>false
  | _,_,_=>false
 | .slice t x none (some h) none =>
  match P.underlying t,ρ x,ρ h with
  | some .string,.nm p .str,.nm (.lit k n) (.int _)=>match decide (0<=n)&&hasF A.fs (.le,.lit k n,.len p) with
   | true=>K {ws:=adst nt o.dst (.nm (.root A.nx) .str)} A.fs (A.nx+1)
   | false=>false
  | _,_,_=>false
 | .extract x i=>match ρ x with
  | .tup vs=>match nth vs i with
   | some v=>fin v.plain
   | none=>false
  | _=>false
 | .call c=>bIT P mt nt C o c A K
 | _=>false
def AEff.app (e:AEff) (A:ASt) (fs:List Fact) (nx:Nat):ASt:={fr:=e.ws++A.fr,bx:=e.nw++pM A.bx e.cw,fs:=fs,nx:=nx}
def aDs (ops:Array Oper):Nat->Oper->ASt->(Bool->ASt->Bool)->Bool
 | 0,_,_,_=>false
 | n+1,o,A,K =>
  match o.guard with
  | none=>K true A
  | some (g,want) =>
   match ops[g]? with
   | some q =>
    match q.dst with
    | some s=>aDs ops n q A fun wq A =>
     match wq with
     | true=>aBr (aGl A.fr s) A.fs fun b fs=>K (b==want) {A with fr:=(s,.cn (.k b))::A.fr,fs:=fs}
     | false=>match aGl A.fr s with
      | .und=>K false A
      | _=>false
    | none=>false
   | none=>false
def aOps (ops:Array Oper):List Oper->ASt->(ASt->Bool)->Bool
 | [],A,K=>K A
 | o::os,A,K=>aDs ops (ops.size+1) o A fun b A =>
  match b with
  | true=>aOp P mt nt C o A fun e fs nx=>aOps ops os (e.app A fs nx) K
  | false=>aOps ops os {A with fr:=adst nt o.dst .und++A.fr} K
def bEU (ops:Array Oper):Nat->List Oper->List (Nat×Foot)->ASt->(List (Nat×Foot)->ASt->Bool)->Bool
 | _,[],log,A,K=>K log A
 | i,o::os,log,A,K=>aDs ops (ops.size+1) o A fun b A =>
  match b with
  | true=>aOp P mt nt C o A fun e fs nx=>bEU ops (i+1) os ((i,e.foot)::log) (e.app A fs nx) K
  | false=>bEU ops (i+1) os log {A with fr:=adst nt o.dst .und++A.fr} K
def aOs (bx:List (Nat×List AV)):List (Nat×Nat):=bx.map fun x=>(x.1,x.2.length)
def aZ3 (b:List (Nat×List AV)):List (Nat×Nat)->Option (List AV)
 | []=>some []
 | (i,n)::l=>match look b i,aZ3 b l with
  | some cs,some r=>if cs.length=n then some (cs++r) else none
  | _,_=>none
def aVn (s:List AV):List (Nat×Nat)->List (Nat×List AV)
 | []=>[]
 | (i,n)::l=>(i,s.take n)::aVn (s.drop n) l
def azip:List Nat->List AV->List (Nat×AV)
 | i::l,a::s=>(i,a)::azip l s
 | _,_=>[]
def aHj (ids:List (Nat×Nat)):AV->Bool
 | .ptr id _=>ids.any fun x=>x.1==id
 | .agg cs=>cs.all AV.isNm
 | .ref _=>true
 | a=>a.isNm
def aZ4 (kp:List Nat) (sh:List (Nat×Nat)) (A:ASt):Option (List AV) :=
 match aZ3 A.bx sh with
 | some r =>
  let s:=kp.map (aGl A.fr)++r
  match A.bx.all fun x=>sh.any fun y=>y.1==x.1 with
  | true=>some s
  | false=>match s.all (aHj sh) with
   | true=>some s
   | false=>none
 | none=>none
def aVo (kp:List Nat) (sh:List (Nat×Nat)) (s:List AV) (fs:List Fact) (nx:Nat):ASt :=
 { fr:=azip kp (s.take kp.length),bx:=aVn (s.drop kp.length) sh,fs:=fs,nx:=nx}
def aBC (cx:Sx):List HV->List AV->Nat->Option (List AV×Nat)
 | [],[],nx=>some ([],nx)
 | h::hs,a::as,nx =>
  let put b k:=match aBC cx hs as (nx+k) with
   | some (r,nx)=>some (b::r,nx)
   | none=>none
  match h with
  | .same=>put a 0
  | .any=>put .any 0
  | .lf l=>put (ofLf (.root nx) l) 1
  | .el e=>put (ofEl (.root nx) e) 1
  | .acc n c m=>put (.sl (.root nx) n c m cx true) 1
 | _,_,_=>none
def aIF (hv:List HV) (nx:Nat):Nat->Option Nat
 | 0=>match hv with
  | .lf _::_=>some nx
  | _=>none
 | k+1=>match hv with
  | .same::hs=>aIF hs nx k
  | .any::hs=>aIF hs nx k
  | _::hs=>aIF hs (nx+1) k
  | []=>none
mutual
def AV.beq:AV->AV->Bool
 | .any,.any=>true
 | .und,.und=>true
 | .nm x l,.nm y k=>decide (x=y)&&decide (l=k)
 | .sl x n c m i o,.sl y n' c' m' i' o'=>decide (x=y)&&Nat.beq n n'&&Nat.beq c c'&&Nat.beq m m'&&decide (i=i')&&(o==o')
 | .cn c,.cn d=>decide (c=d)
 | .nil a,.nil b=>a==b
 | .agg a,.agg b=>AV.beqs a b
 | .tup a,.tup b=>AV.beqs a b
 | .ref a,.ref b=>AV.beq a b
 | .ptr i o,.ptr j p=>Nat.beq i j&&Nat.beq o p
 | _,_=>false
def AV.beqs:List AV->List AV->Bool
 | [],[]=>true
 | a::as,b::bs=>AV.beq a b&&AV.beqs as bs
 | _,_=>false
end
def bIU (fs:List Fact) (cx:Sx):HV->AV->AV->Bool
 | .same,a,b=>AV.beq a b
 | .any,_,_=>true
 | .lf l,_,b=>aSb fs l b
 | .el e,_,b=>aVl fs e b
 | .acc n c m,_,b=>match b with
  | .sl _ n' c' m' i' own=>Nat.beq n n'&&own&&(match i' with
   | .lit _ z=>decide (m'*z.toNat+c'<=c)
   | i'=>(decide (.suc i'=cx)&&Nat.beq m m'&&Nat.ble c' (c+m))||(decide (i'=cx)&&Nat.beq m m'&&Nat.ble c' c))
  | .nil own=>own
  | _=>false
def xI (fs:List Fact) (cx:Sx):List HV->List AV->List AV->Bool
 | [],[],[]=>true
 | h::hs,a::as,b::bs=>bIU fs cx h a b&&xI fs cx hs as bs
 | _,_,_=>false
def aSd (l:List (Option Nat×List HV)) (e:Ex):Option (List HV) :=
 match l with
 | []=>none
 | (w,h)::r=>match e,w with
  | .brk i,some j=>if i=j then some h else aSd r e
  | .ret,none=>some h
  | _,_=>aSd r e
def aZ5 (l:List (Option Nat)) (e:Ex):Bool:=l.any fun w=>match e,w with
 | .brk i,some j=>Nat.beq i j
 | .ret,none=>true
 | _,_=>false
def aAG : Code -> ASt -> (Ex -> ASt -> Bool) -> Bool
 | .skip, A, K => K .nrm A
 | .label _, A, K => K .nrm A
 | .region rid ops draw, A, K => match look mt.frz rid with
  | some _ => false
  | none => match draw with
   | false => aOps P mt nt C ops ops.toList A (K .nrm)
   | true => match aAz mt ops (Region.before ops) with
    | true => bEU P mt nt C ops 0 ops.toList [] A fun log A => match tG (Region.before ops) log with
     | true => K .nrm A
     | false => false
    | false => false
 | .seq a b, A, K => aAG a A fun e A =>
  match e with
  | .nrm => aAG b A K
  | .brk i => K (.brk i) A
  | .ret => K .ret A
 | .cond c a b, A, K => aBr (aopd A.fr c) A.fs fun t fs =>
  match t with
  | true => aAG a { A with fr := acond c true A.fr, fs := fs } K
  | false => aAG b { A with fr := acond c false A.fr, fs := fs } K
 | .block id b, A, K => aAG b A fun e A =>
  match e with
  | .nrm => K .nrm A
  | .brk i => if i = id then K .nrm A else K (.brk i) A
  | .ret => K .ret A
 | .scope b, A, K => aAG b A K
 | .exit id, A, K => K (.brk id) A
 | .ret, A, K => K .ret A
 | .loop b, A, K => match look mt.frl (iN b), look C.loops (iN b) with
  | none, some h =>
   let kp := aBO mt b
   let sh := aOs A.bx
   match aZ4 kp sh A, aIF h.hv A.nx h.cnt with
   | some s, some cn => match aBC (.root cn) h.hv s A.nx, nth s h.cnt with
    | some (s1, nx1), some c0 =>
     (match c0 with
      | .nm (.lit k z) (.int .i64) => decide (k = .i64) && decide (0 <= z) && decide (z <= h.top) && xI A.fs (.lit k z) h.hv s s
      | _ => false) &&
     decide (h.top <= topL) &&
     aAG b (aVo kp sh s1 ((.le, .lit .i64 0, .root cn) :: (.le, .root cn, .lit .i64 h.top) :: A.fs) nx1) (fun e A' =>
      match aZ4 kp sh A' with
      | some s2 => match e with
       | .nrm => match nth s2 h.cnt with
        | some (.nm (.suc x) (.int .i64)) => decide (x = .root cn) && ltB A'.fs x h.top && xI A'.fs (.suc (.root cn)) h.hv s s2
        | _ => false
       | e => match aSd h.ex e with
        | some hx => aZ5 (nG b) e && xI A'.fs (.root cn) hx s s2
        | none => false
      | none => false) &&
     (nG b).all (fun w => match aSd h.ex (exOf w) with
      | some hx => match aBC (.lit .i64 h.top) hx s A.nx with
       | some (s3, nx3) => K (exOf w) (aVo kp sh s3 A.fs nx3)
       | none => false
      | none => false)
    | _, _ => false
   | _, _ => false
  | _, _ => false
 | _, _, _ => false
where acond (c : Operand) (b : Bool) (fr : List (Nat × AV)) : List (Nat × AV) :=
 match c with
 | .tmp t => (t, .cn (.k b)) :: fr
 | _ => fr
def aPo (own:Bool) (A:ASt) (r:ResultVar):Option AV :=
 match r with
 | .tmp t=>some (match own with | true=>aGl A.fr t | false=>(aGl A.fr t).plain)
 | .cell a t =>
  match szOf P t,agOf P t,aGl A.fr a with
  | some n,some ag,.ptr id off=>match decide (0<n)&&(ag||Nat.beq n 1),look A.bx id with
   | true,some cs=>match bCC cs with
    | true=>(apart off n ag cs).map fun v=>match own with | true=>v | false=>v.plain
    | false=>none
   | _,_=>none
  | _,_,_=>none
def aPp (A:ASt):List ResultVar->Option (List AV)
 | []=>some []
 | r::l=>match aPo P false A r,aPp A l with
  | some v,some vs=>some (v::vs)
  | _,_=>none
def bCE (fn:Func) (outs:List El) (A:ASt):Bool :=
 match fn.results.toList with
 | [r]=>match aPo P mt.own A r with
  | some v=>v.solid&&aGm A.fs outs [v]
  | none=>false
 | rs=>match aPp P A rs with
  | some vs=>vs.all AV.solid&&aGm A.fs outs (vs.map AV.plainA)&&decide (outs.length≠1)
  | none=>false
def aDt:Nat->List El->List Fact
 | _,[]=>[]
 | r,e::es=>(match e with
  | ⟨false,[.rng k lo hi]⟩=>[(.le,.lit k lo,.root r),(.le,.root r,.lit k hi)]
  | _=>[])++aDt (r+1) es
def aFun (fn:Func) (sm:Summ):Bool :=
 match fn.body with
 | some c=>decide (sm.ins.length<=nt)&&(Nat.beq C.np 0||(Nat.ble C.np sm.ins.length&&Nat.beq C.cap sm.cap&&Nat.ble 1 sm.cap))&&(C.recs.isEmpty||(match nth sm.ins C.me with | some e=>e.ag==C.meAg | none=>false))&&aAG P mt nt C c {fr:=azip (List.range sm.ins.length) (bCz 0 sm.ins),bx:=[],fs:=aDt 0 sm.ins,nx:=sm.ins.length} (fun e A =>
   match e with
   | .brk _=>false
   | _=>bCE P mt fn sm.outs A)
 | none=>false
end
variable {τ : Tb} {env l : List PV}
theorem bCF {α}:∀ {a b:List α} {i x},nth a i=some x->nth (a++b) i=some x
 | [],_,_,_,h=>by simp [nth] at h
 | _::_,_,0,_,h=>h
 | _::a,b,i+1,x,h=>by
  exact bCF (a:=a) h
theorem aKX {α}:∀ (a:List α) x,nth (a++[x]) a.length=some x
 | [],_=>rfl
 | _::a,x=>aKX a x
theorem fS l:∀ {x v},den env x=some v->den (env++l) x=some v
 | .root r,v,h=>bCF h
 | .cell p c,v,h=>by
  obtain ⟨w,a,h⟩:=aC h;simp [den,fS l a];exact h
 | .elem p i,v,h=>by
  obtain ⟨w,a,h⟩:=aC h;obtain ⟨j,b,h⟩:=aC h;simp [den,fS l a,fS l b];exact h
 | .lit k n,v,h=>h
 | .txt s,v,h=>h
 | .len p,v,h=>by
  obtain ⟨w,a,h⟩:=aC h;simp only [den,fS l a];exact h
 | .suc x,v,h=>by
  obtain ⟨w,a,h⟩:=aC h;simp [den,fS l a];exact h
theorem CnOk.mono l:∀ {c b},CnOk env c b->CnOk (env++l) c b
 | .k _,_,h=>h
 | .cmp o x y,b,⟨k,n,k',m,e,d,a⟩=>⟨k,n,k',m,fS l e,fS l d,a⟩
 | .not c,b,h=>CnOk.mono (c:=c) l h
 | .unk,_,_=>trivial
theorem eQ.mono l {f} (h:eQ env f):eQ (env++l) f:=CnOk.mono l h
mutual
theorem Mt.mono (l:List PV):∀ {a:AV} {v:PV},Mt τ env a v->Mt τ (env++l) a v
 | _,_,.any v => .any v
 | _,_,.und => .und
 | _,_,.nm h c b => .nm (fS l h) c b
 | _,_,.sl h e d c => .sl (fS l h) e (fS l d) c
 | _,_,.cn h => .cn (CnOk.mono l h)
 | _,_,.nil o => .nil o
 | _,_,.agg h => .agg (Mts.mono l h)
 | _,_,.tup h => .tup (Mts.mono l h)
 | _,_,.ref h => .ref (Mt.mono l h)
 | _,_,.ptr i o => .ptr i o
theorem Mts.mono (l:List PV):∀ {a:List AV} {v:List PV},Mts τ env a v->Mts τ (env++l) a v
 | _,_,.nil => .nil
 | _,_,.cons h b => .cons (Mt.mono l h) (Mts.mono l b)
end
theorem FrOk.mono l:∀ {a v},FrOk τ env a v->FrOk τ (env++l) a v
 | _,_,.nil => .nil
 | _,_,.cons h b => .cons (h.mono l) (FrOk.mono l b)
theorem BxOk.mono l:∀ {a v},BxOk τ env a v->BxOk τ (env++l) a v
 | _,_,.nil => .nil
 | _,_,.cons h b => .cons (h.mono l) (BxOk.mono l b)
theorem FrOk.app:∀ {a b v w},FrOk τ env a v->FrOk τ env b w->FrOk τ env (a++b) (v++w)
 | _,_,_,_,.nil,h=>h
 | _,_,_,_,.cons h d,c => .cons h (FrOk.app d c)
theorem BxOk.app:∀ {a b v w},BxOk τ env a v->BxOk τ env b w->BxOk τ env (a++b) (v++w)
 | _,_,_,_,.nil,h=>h
 | _,_,_,_,.cons h d,c => .cons h (BxOk.app d c)
theorem FrOk.get:∀ {a v},FrOk τ env a v->∀ i,Mt τ env (aGl a i) (gets v i)
 | _,_,.nil,i => .any _
 | _,_,.cons (i:=j) (a:=b) (v:=w) (l:=l) (m:=m) h c,i=>by
  have:=FrOk.get c i;unfold aGl gets at this ⊢;simp [look];grind
theorem BxOk.look:∀ {a v},BxOk τ env a v->∀ i,(look a i=none/\look v i=none)∨∃ x y,look a i=some x/\look v i=some y/\Mts τ env x y
 | _,_,.nil,i => .inl ⟨rfl,rfl⟩
 | _,_,.cons (i:=j) (a:=b) (v:=w) (l:=l) (m:=m) h c,i=>by
  simp only [Go.Ev.look];by_cases e:j=i;· grind
  simp only [e];exact BxOk.look c i
theorem BxOk.get {a v} (h:BxOk τ env a v) {i x} (c:Go.Ev.look a i=some x):∃ y,Go.Ev.look v i=some y/\Mts τ env x y:=by
 rcases h.look i with ⟨b,_⟩ | ⟨x',y,b,e,d⟩;all_goals grind
theorem BxOk.none {a v} (h:BxOk τ env a v) {i} (b:Go.Ev.look a i=none):Go.Ev.look v i=none:=by
 rcases h.look i with ⟨_,c⟩ | ⟨x',y,d,_,_⟩;all_goals grind
theorem BxOk.put {x y} (b:Mts τ env x y) i:∀ {a v},BxOk τ env a v->BxOk τ env (pM.aputBox a i x) (zD v i y)
 | _,_,.nil => .nil
 | _,_,.cons (i:=j) h c=>by
  simp [pM.aputBox,zD];by_cases e:j=i;· simp [e];exact .cons b c
  simp [e];exact .cons h (BxOk.put b i c)
theorem Mts.len:∀ {a v},Mts τ env a v->a.length=v.length
 | _,_,.nil=>rfl
 | _,_,.cons _ b=>by simp [Mts.len b]
theorem Mts.nth:∀ {a v},Mts τ env a v->∀ {i x},Go.Ev.nth a i=some x->∃ y,Go.Ev.nth v i=some y/\Mt τ env x y
 | _,_,.nil,i,x,h=>by simp [Go.Ev.nth] at h
 | _,_,.cons h b,0,x,e=>by cases e;exact ⟨_,rfl,h⟩
 | _,_,.cons h b,i+1,x,e=>Mts.nth b (i:=i) e
theorem Mts.app:∀ {a b v w},Mts τ env a v->Mts τ env b w->Mts τ env (a++b) (v++w)
 | _,_,_,_,.nil,h=>h
 | _,_,_,_,.cons h d,c => .cons h (Mts.app d c)
theorem Mts.drop:∀ {a v} n,Mts τ env a v->Mts τ env (a.drop n) (v.drop n)
 | _,_,0,h=>h
 | _,_,n+1,.nil=>by simpa using Mts.nil
 | _,_,n+1,.cons _ b=>Mts.drop n b
theorem Mts.take:∀ {a v} n,Mts τ env a v->Mts τ env (a.take n) (v.take n)
 | _,_,0,h=>by simpa using Mts.nil
 | _,_,n+1,.nil=>by simpa using Mts.nil
 | _,_,n+1,.cons h b => .cons h (Mts.take n b)
theorem Mts.putNth {x y} (b:Mt τ env x y):∀ {a v} n,Mts τ env a v->Mts τ env (Go.Ev.putNth a n x) (Go.Ev.putNth v n y)
 | _,_,0,.nil => .nil
 | _,_,n+1,.nil => .nil
 | _,_,0,.cons _ c => .cons b c
 | _,_,n+1,.cons h c => .cons h (Mts.putNth b n c)
theorem Mts.putAt:∀ {x y},Mts τ env x y->∀ {a v} n,Mts τ env a v->Mts τ env (Go.Ev.putAt a n x) (Go.Ev.putAt v n y)
 | _,_,.nil,_,_,n,h=>h
 | _,_,.cons b c,_,_,n,h=>Mts.putAt c (n+1) (Mts.putNth b n h)
theorem Mts.map {f g} (b:∀ {a v},Mt τ env a v->Mt τ env (f a) (g v)):∀ {a v},Mts τ env a v->Mts τ env (a.map f) (v.map g)
 | _,_,.nil => .nil
 | _,_,.cons h c => .cons (b h) (Mts.map b c)
theorem Mts.one {a v} (h:Mt τ env a v):Mts τ env [a] [v] := .cons h .nil
theorem Mt.plain1:∀ {a v},Mt τ env a v->Mt τ env a.plain1 v.plain1
 | _,_,.any v => .any _
 | _,_,.und => .und
 | _,_,.nm h c b=>by
  cases c with
  | bool=>exact .nm h (.bool _) b
  | int=>exact .nm h (.int _ _) b
  | rng e=>exact .nm h (.rng e) b
  | str d=>exact .nm h (.str d) b
  | sl=>simp [isSl] at b
 | _,_,.sl h g f c => .sl h g f c
 | _,_,.cn h => .cn h
 | _,_,.nil o => .nil false
 | _,_,.agg h => .agg h
 | _,_,.tup h => .tup h
 | _,_,.ref h => .ref h
 | _,_,.ptr i o => .ptr i o
theorem Mt.plainA:∀ {a v},Mt τ env a v->Mt τ env a.plainA v.plainA
 | _,_,.agg h => .agg (h.map Mt.plain1)
 | _,_,.any v => .any _
 | _,_,.und => .und
 | _,_,h@(.nm _ c b)=>by
  cases c with
  | bool=>exact h
  | int=>exact h
  | rng=>exact h
  | str=>exact h
  | sl=>simp [isSl] at b
 | _,_,h@(.sl ..)=>h.plain1
 | _,_,h@(.cn _)=>h
 | _,_,h@(.nil _)=>h.plain1
 | _,_,h@(.tup _)=>h
 | _,_,h@(.ref _)=>h
 | _,_,h@(.ptr _ _)=>h
theorem Mt.plain:∀ {a v},Mt τ env a v->Mt τ env a.plain v.plain
 | _,_,.tup h => .tup (h.map Mt.plainA)
 | _,_,.any v => .any _
 | _,_,.und => .und
 | _,_,h@(.nm _ c b)=>by
  cases c with
  | bool=>exact h
  | int=>exact h
  | rng=>exact h
  | str=>exact h
  | sl=>simp [isSl] at b
 | _,_,h@(.sl ..)=>h.plainA
 | _,_,h@(.cn _)=>h
 | _,_,h@(.nil _)=>h.plainA
 | _,_,h@(.agg _)=>h.plainA
 | _,_,h@(.ref _)=>h
 | _,_,h@(.ptr _ _)=>h
theorem Mt.atom v:Mt τ env (bCy v) (ofAtom v):=by
 unfold bCy ofAtom;split;· exact .cn rfl
 ·exact .nm rfl (.int _ _) rfl
 ·split;· rename_i h;exact .nm rfl (.str h) rfl
  exact .any _
 ·exact .nil true
 exact .any _
theorem Mts.atoms:∀ (l:List Value),Mts τ env (l.map bCy) (l.map ofAtom)
 | [] => .nil
 | v::l => .cons (.atom v) (Mts.atoms l)
theorem Mt.value v:Mt τ env (aYg v) (ofValue v):=by
 unfold aYg ofValue;split;· exact .agg (Mts.atoms _)
 split;· grind
 exact .atom v
theorem Mt.opd {a v} (h:FrOk τ env a v) x:Mt τ env (aopd a x) (Go.Ev.opd v x):=by
 cases x with
 | tmp t=>exact h.get t
 | const c=>exact .value c
 | global _=>exact .any _
 | func _=>exact .any _
theorem Mt.opv {a v} (h:FrOk τ env a v) b x:Mt τ env (aopv a b x) (Go.Ev.opv v b x):=by
 cases x with
 | tmp t =>
  cases b;· exact (h.get t).plain
  exact h.get t
 | const c=>exact .value c
 | global _=>exact .any _
 | func _=>exact .any _
theorem FrOk.left {a v} (h:FrOk τ env a v) b x:FrOk τ env (aPm a b x) (Go.Ev.left v b x):=by
 cases x with
 | tmp t =>
  cases b;· exact .nil
  exact .cons (h.get t).plain .nil
 | const c=>exact .nil
 | global _=>exact .nil
 | func _=>exact .nil
theorem FrOk.dst {a v} (h:Mt τ env a v) b d:FrOk τ env (adst b d a) (dstW b d v):=by
 cases d with
 | none=>exact .nil
 | some d =>
  unfold adst dstW;by_cases e:d<b;· simp [e];exact .cons h .nil
  simp [e];exact .nil
theorem aHk:∀ {c b fs},CnOk env c b->(∀ f,f∈fs->eQ env f)->∀ f,f∈aCg c b fs->eQ env f
 | .cmp o x y,b,fs,⟨k,n,k',m,g,d,j⟩,i,f,a=>by
  cases o<;>cases b<;>simp [aCg] at a
  ·rcases a with rfl | a;· refine ⟨k',m,k,n,d,g,?_⟩;simp [CO.ev] at j ⊢;grind
   grind
  ·rcases a with rfl | a;· exact ⟨k,n,k',m,g,d,j⟩
   grind
  ·rcases a with rfl | a;· refine ⟨k',m,k,n,d,g,?_⟩;simp [CO.ev] at j ⊢;grind
   grind
  ·rcases a with rfl | a;· exact ⟨k,n,k',m,g,d,j⟩
   grind
  ·grind
  have e:n=m:=by
   simp [CO.ev] at j;grind
  subst e;rcases a with rfl | rfl | a;· exact ⟨k,n,k',n,g,d,by simp [CO.ev]⟩
  ·exact ⟨k',n,k,n,d,g,by simp [CO.ev]⟩
  grind
 | .not c,b,fs,h,i,f,a=>aHk (c:=c) (b := !b) h i f (by simpa [aCg] using a)
 | .k _,b,fs,h,i,f,a=>i f (by simpa [aCg] using a)
 | .unk,b,fs,h,i,f,a=>i f (by simpa [aCg] using a)
theorem aYj:∀ {c b b'},aKS c=some b'->CnOk env c b->b=b'
 | .k _,b,b',h,a=>by simp [aKS] at h;rw [<- h];exact a
 | .not c,b,b',h,a=>by
  simp [aKS] at h;split at h;· rename_i x d;have:=aYj d a;simp_all
  grind
 | .cmp _ _ _,b,b',h,a=>by simp [aKS] at h
 | .unk,b,b',h,a=>by simp [aKS] at h
theorem aEO {fs f} (h:hasF fs f=true) (a:∀ f,f∈fs->eQ env f):eQ env f:=by
 unfold hasF at h;grind
def aBD (env:List PV) (x:Sx) (n:Int):Prop:=∃ k,den env x=some (.int k n)
theorem aBD.inj {x n m} (h:aBD env x n) (a:aBD env x m):n=m:=by
 obtain ⟨k,h⟩:=h;obtain ⟨k',a⟩:=a;grind
theorem aHl {x y} (h:eQ env (.lt,x,y)):∃ n m,aBD env x n/\aBD env y m/\n<m:=by
 obtain ⟨k,n,k',m,c,b,a⟩:=h;exact ⟨n,m,⟨k,c⟩,⟨k',b⟩,by simpa [CO.ev] using a.symm⟩
theorem vP {x y} (h:eQ env (.le,x,y)):∃ n m,aBD env x n/\aBD env y m/\n<=m:=by
 obtain ⟨k,n,k',m,c,b,a⟩:=h;exact ⟨n,m,⟨k,c⟩,⟨k',b⟩,by simpa [CO.ev] using a.symm⟩
theorem aBD.lit {k n m} (h:aBD env (.lit k n) m):m=n:=by
 obtain ⟨k',h⟩:=h;simp [den] at h;omega
theorem aBD.len {p m} (h:aBD env (.len p) m):∃ v,den env p=some v/\m=lenOf v:=by
 obtain ⟨k',h⟩:=h;obtain ⟨v,hv,h⟩:=aC h;grind
theorem bIV {fs p a} (h:leB fs p a=true) (d:∀ f,f∈fs->eQ env f):∃ v,den env p=some v/\lenOf v<=a:=by
 unfold leB at h;rw [List.any_eq_true] at h;obtain ⟨g,i,e⟩:=h;split at e;· obtain ⟨n,m,c,b,j⟩:=vP (d _ i);obtain ⟨v,hv,rfl⟩:=c.len;have:=b.lit;grind
 grind
theorem bCG {fs x a} (h:ltB1 fs x a=true) (b:∀ f,f∈fs->eQ env f):∃ n,aBD env x n/\n<a:=by
 unfold ltB1 at h;rw [List.any_eq_true] at h;obtain ⟨g,d,e⟩:=h;split at e;· rw [Bool.and_eq_true,decide_eq_true_eq] at e;obtain ⟨rfl,l⟩:=e;obtain ⟨v,hv,o⟩:=bIV l b;obtain ⟨n,m,k,c,i⟩:=aHl (b _ d);obtain ⟨p,j,rfl⟩:=c.len;grind
 ·obtain ⟨n,m,k,c,i⟩:=vP (b _ d);have:=c.lit;grind
 grind
theorem bGS {fs x a} (h:ltB fs x a=true) (b:∀ f,f∈fs->eQ env f):∃ n,aBD env x n/\n<a:=by
 unfold ltB at h;rw [Bool.or_eq_true] at h;rcases h with h | h;· exact bCG h b
 rw [List.any_eq_true] at h;obtain ⟨g,c,e⟩:=h;split at e;· rw [Bool.and_eq_true,decide_eq_true_eq] at e;obtain ⟨rfl,i⟩:=e;obtain ⟨m,j,p⟩:=bCG i b;obtain ⟨n,l,o,d,k⟩:=aHl (b _ c);have:=j.inj d;grind
 grind
theorem aYk {fs x p} (h:bET fs x p=true) (b:∀ f,f∈fs->eQ env f):∃ n v,aBD env x n/\den env p=some v/\n<lenOf v:=by
 unfold bET at h;rw [List.any_eq_true] at h;obtain ⟨g,j,e⟩:=h;split at e
 ·rw [Bool.and_eq_true,decide_eq_true_eq] at e;obtain ⟨rfl,a⟩:=e;obtain ⟨n,m,r,d,q⟩:=aHl (b _ j);rw [Bool.or_eq_true,Bool.or_eq_true,decide_eq_true_eq] at a;rcases a with (rfl | a) | a;· obtain ⟨v,hv,rfl⟩:=d.len;grind
  ·obtain ⟨o,l,c,i,k⟩:=vP (aEO a b);have:=d.inj c;obtain ⟨v,hv,rfl⟩:=i.len;grind
  obtain ⟨o,l,c,i,k⟩:=aHl (aEO a b);have:=d.inj c;obtain ⟨v,hv,rfl⟩:=i.len;grind
 grind
theorem bCH:∀ {x fs k n},nnX fs x=true->(∀ f,f∈fs->eQ env f)->den env x=some (.int k n)->(k = .i64∨∀ y,x ≠ .suc y)->0<=n
 | .lit _ _,fs,k,n,h,g,d,_=>by
  simp [nnX] at h;simp [den] at d;omega
 | .len p,fs,k,n,h,g,d,_=>by
  obtain ⟨v,hv,d⟩:=aC d;grind
 | .suc x,fs,k,n,h,g,d,o=>by
  simp [nnX] at h;obtain ⟨v,hv,d⟩:=aC d;split at d
  ·rename_i k' m;obtain ⟨rfl,rfl⟩:=d;rcases o with rfl | o
   ·have q:=bCH h.1 g hv (.inl rfl);obtain ⟨s,i,j⟩:=bGS h.2 g;have:=i.inj ⟨_,hv⟩;have  := by have e:topL=1073741824:=rfl;omega
    rw [show IntKind.wrap .i64 (m+1)=m+1 by simp [IntKind.wrap,IntKind.bits];omega];omega
   grind
  grind
 | .root r,fs,k,n,h,g,d,_=>by
  obtain ⟨a,b,i,j,l⟩:=vP (aEO h g);have:=i.lit;have:=j.inj ⟨_,d⟩;omega
 | .cell p c,fs,k,n,h,g,d,_=>by
  obtain ⟨a,b,i,j,l⟩:=vP (aEO h g);have:=i.lit;have:=j.inj ⟨_,d⟩;omega
 | .elem p c,fs,k,n,h,g,d,_=>by
  obtain ⟨a,b,i,j,l⟩:=vP (aEO h g);have:=i.lit;have:=j.inj ⟨_,d⟩;omega
 | .txt p,fs,k,n,h,g,d,_=>by simp [den] at d
theorem aPq {fs m c i k z} (h:capX fs m i=some c) (l:∀ f,f∈fs->eQ env f) (j:den env i=some (.int k z)):m*z.toNat<=c:=by
 unfold capX at h;split at h;· simp
 split at h;· simp [den] at j;grind
 split at h
 ·rename_i o y k' b d;cases h;have g:=List.find?_some d;have a:=List.mem_of_find?_eq_some d;split at g;· rename_i u r b' e;cases e;rw [decide_eq_true_eq] at g;subst g;obtain ⟨n,t,q,p,s⟩:=vP (l _ a);have:=p.lit;have:=q.inj ⟨_,j⟩;exact Nat.mul_le_mul_left _ (by omega)
  grind
 grind
theorem bGT {fs x d n} (h:loQ fs x d=true) (k:∀ f,f∈fs->eQ env f) (c:aBD env x n):d<=n:=by
 unfold loQ at h;split at h;· have:=c.lit;grind
 rw [List.any_eq_true] at h;obtain ⟨g,l,e⟩:=h;split at e;· rw [Bool.and_eq_true,decide_eq_true_eq,decide_eq_true_eq] at e;obtain ⟨rfl,o⟩:=e;obtain ⟨a,b,j,i,m⟩:=vP (k _ l);have:=j.lit;have:=i.inj c;omega
 grind
theorem bCI {fs x j n} (h:hiQ1 fs x j=true) (k:∀ f,f∈fs->eQ env f) (c:aBD env x n):n<=j:=by
 unfold hiQ1 at h;split at h;· have:=c.lit;grind
 rw [List.any_eq_true] at h;obtain ⟨g,l,e⟩:=h;split at e;· rw [Bool.and_eq_true,decide_eq_true_eq,decide_eq_true_eq] at e;obtain ⟨rfl,o⟩:=e;obtain ⟨a,b,i,d,m⟩:=vP (k _ l);have:=d.lit;have:=i.inj c;omega
 ·rw [Bool.and_eq_true,decide_eq_true_eq,decide_eq_true_eq] at e;obtain ⟨rfl,o⟩:=e;obtain ⟨a,b,i,d,m⟩:=aHl (k _ l);have:=d.lit;have:=i.inj c;omega
 grind
theorem bGU {fs x i n} (h:hiQ fs x i=true) (c:∀ f,f∈fs->eQ env f) (d:aBD env x n):n<=i:=by
 unfold hiQ at h;rw [Bool.or_eq_true] at h;rcases h with h | h;· exact bCI h c d
 rw [List.any_eq_true] at h;obtain ⟨g,m,e⟩:=h;split at e;· rw [Bool.and_eq_true,decide_eq_true_eq] at e;obtain ⟨rfl,l⟩:=e;obtain ⟨a,b,k,j,o⟩:=aHl (c _ m);have:=k.inj d;have:=bCI l c j;omega
 grind
theorem bHA {fs c b} (h:notQ fs c=true) (g:CnOk env c b) (d:∀ f,f∈fs->eQ env f):b=false:=by
 unfold notQ at h;split at h
 ·obtain ⟨j,n,i,m,a,e,rfl⟩:=g;have k:=aBD.lit ⟨_,e⟩;rw [Bool.or_eq_true] at h;simp only [CO.ev];rw [beq_eq_false_iff_ne];rcases h with h | h;· have:=bGU h d ⟨_,a⟩;omega
  have:=bGT h d ⟨_,a⟩;omega
 grind
theorem bCJ {a fs K v} (h:aBr a fs K=true) (g:Mt τ env a v) (e:∀ f,f∈fs->eQ env f):∃ b c,v = .bool b/\K b c=true/\(∀ f,f∈c->eQ env f):=by
 unfold aBr at h;split at h
 ·cases g with
  | cn d =>
   rename_i b;split at h;· rename_i b' j;have:=aYj j d;grind
   split at h;· rename_i i;have:=bHA i d e;grind
   rw [Bool.and_eq_true] at h;cases b with
   | true=>exact ⟨_,_,rfl,h.1,aHk d e⟩
   | false=>exact ⟨_,_,rfl,h.2,aHk d e⟩
 ·cases g with
  | nm m k l =>
   cases k with
   | bool b =>
    cases b with
    | true=>grind
    | false=>grind
 grind
variable {τ : Tb} {env l : List PV}
theorem aYl:∀ vs,(List.range vs.length).map (gt vs)=vs:=by
 intro vs;apply List.ext_getElem;· simp
 intro i b a;simp [aED,List.getElem?_eq_getElem a]
theorem bEV {a v} (h:Mt τ env a v) (b:a.isNm=true):v.solid1=true:=by
 cases h with
 | nm e c d=>cases c<;>first | rfl | simp at d
 | sl=>rfl
 | cn=>rfl
 | nil=>rfl
 | any=>simp [AV.isNm] at b
 | und=>simp [AV.isNm] at b
 | agg=>simp [AV.isNm] at b
 | tup=>simp [AV.isNm] at b
 | ref=>simp [AV.isNm] at b
 | ptr=>simp [AV.isNm] at b
theorem aKY:∀ {b vs},Mts τ env b vs->b.all AV.isNm=true->vs.all solid1=true
 | _,_,.nil,_=>rfl
 | _,_,.cons h c,a=>by
  simp only [List.all_cons,Bool.and_eq_true] at a ⊢;exact ⟨bEV h a.1,aKY c a.2⟩
theorem bCK {a v} (h:Mt τ env a v) (b:a.fits=true):fits 0 v=true:=by
 cases h with
 | nm e c d=>cases c<;>first | rfl | simp at d
 | sl=>rfl
 | cn=>rfl
 | nil=>rfl
 | ref=>rfl
 | ptr=>simp [fits]
 | any=>simp [AV.fits,AV.isNm] at b
 | und=>simp [AV.fits,AV.isNm] at b
 | agg=>simp [AV.fits,AV.isNm] at b
 | tup=>simp [AV.fits,AV.isNm] at b
theorem aPr:∀ {b vs},Mts τ env b vs->b.all AV.fits=true->vs.all (fits 0)=true
 | _,_,.nil,_=>rfl
 | _,_,.cons h c,a=>by
  simp only [List.all_cons,Bool.and_eq_true] at a ⊢;exact ⟨bCK h a.1,aPr c a.2⟩
theorem aGn {a v} (h:Mt τ env a v) (b:a.solid=true):v.solid=true:=by
 cases h with
 | agg c=>exact aKY c b
 | nm e d c=>cases d<;>first | rfl | simp at c
 | sl=>rfl
 | cn=>rfl
 | nil=>rfl
 | any=>simp [AV.solid,AV.isNm] at b
 | und=>simp [AV.solid,AV.isNm] at b
 | tup=>simp [AV.solid,AV.isNm] at b
 | ref=>simp [AV.solid,AV.isNm] at b
 | ptr=>simp [AV.solid,AV.isNm] at b
theorem aZ6 {v:PV} (h:v.solid=true):v.free=true:=by
 unfold PV.free;split;· simp [PV.solid,PV.solid1] at h
 all_goals grind
theorem aKZ:∀ {b vs},Mts τ env b vs->b.all AV.solid=true->vs.all free=true
 | _,_,.nil,_=>rfl
 | _,_,.cons h c,a=>by
  simp only [List.all_cons,Bool.and_eq_true] at a ⊢;exact ⟨aZ6 (aGn h a.1),aKZ c a.2⟩
theorem aK0 {n i a g v} (h:aKT n i a=some g) (f:Mt τ env a v):∃ vs,pB n i v=some vs/\Mts τ env g vs:=by
 unfold aKT at h;split at h
 ·split at h
  ·rename_i d;cases h;cases f with
   | agg c =>
    rename_i vs;refine ⟨vs,?_,c⟩;have e:vs.length=n:=by rw [<- c.len,d]
    simp [pB,e];rw [<- e,aYl]
  grind
 ·grind
 split at h
 ·rename_i b;cases h;refine ⟨[v],?_,.one f⟩;cases f with
  | nm j d c=>cases d<;>first | rfl | simp at c
  | sl=>rfl
  | cn=>rfl
  | nil=>rfl
  | ref=>rfl
  | ptr=>rfl
  | any=>simp [AV.fits,AV.isNm] at b
  | und=>simp [AV.fits,AV.isNm] at b
  | agg=>simp [AV.fits,AV.isNm] at b
  | tup=>simp [AV.fits,AV.isNm] at b
 grind
theorem aVp {off n c a d vs} (h:apart off n c d=some a) (b:Mts τ env d vs):∃ v,part off n c vs=some v/\Mt τ env a v:=by
 unfold apart at h;cases c with
 | true =>
  simp only at h ⊢;split at h;· rename_i e;cases h;rw [b.len] at e;exact ⟨_,if_pos e,.agg ((b.drop off).take n)⟩
  grind
 | false=>exact b.nth h
theorem aPs {b vs} (h:bCC b=true) (e:Mts τ env b vs):aAy vs=false:=by
 cases e with
 | nil=>rfl
 | cons d c =>
  cases c with
  | nil =>
   have:=bCK d (by simpa [bCC] using h);unfold aAy;split;· rename_i a;cases a;simp [fits,solid1] at this
   rfl
  | cons f c=>unfold aAy;simp
theorem aYm {place}:∀ {e f},FrOk τ env e f->∀ {a vs r},Mts τ env a vs->aYi place e a=some r ->
  ∃ d,(∀ {R} (K:List PV->Option R),aEB place f vs K=K d)/\Mts τ env r d
 | _,_,.nil,a,vs,r,b,h=>by cases h;exact ⟨vs,fun K=>rfl,b⟩
 | _,_,.cons (i:=i) k j,a,vs,r,b,h=>by
  simp [aYi] at h;split at h
  ·rename_i off size n q;split at h
   ·rename_i ws g;split at h;· rename_i l;obtain ⟨us,m,c⟩:=aK0 g k;obtain ⟨d,p,o⟩:=aYm j (Mts.putAt c off b) h;rw [b.len] at l;simp [aEB,bnd];grind
    grind
   grind
  grind
section
variable {P : Program} {mt : Hints} {nt : Nat} {C : Cfg} {O : Orc}
def qZ (P:Program) (mt:Hints) (nt:Nat) (O:Orc) (τ:Tb) (env:List PV) (o:Oper) (A:ASt) (st:St) (K:AK):Prop :=
 ∃ e ae fs nx l,aT P mt nt O o st some=some e/\Good τ (env++l) (ae.app A fs nx) (e.app st)/\e.up=none/\e.foot=ae.foot/\K ae fs nx=true
variable {o : Oper} {A : ASt} {st : St} {K : AK}
theorem Good.ws {l} (d:Good τ env A st) {a ws fs e} (g:FrOk τ (env++l) a ws) (h:∀ f,f∈fs->eQ (env++l) f) (i:e=(env++l).length) :
  Good τ (env++l) (AEff.app {ws:=a} A fs e) (Eff.app {ws:=ws} st):=by
 obtain ⟨b,j,c⟩:=d.bx;exact ⟨g.app (d.fr.mono l),⟨b,by show aBK (dJ st.bx []) []=_;rw [j];rfl,c.mono l⟩,h,i⟩
theorem aEn (d:Good τ env A st) {a ws} l {fs b} (e:aT P mt nt O o st some=some {ws:=ws}) (c:FrOk τ (env++l) a ws)
  (g:∀ f,f∈fs->eQ (env++l) f) (h:b=(env++l).length) (i:K {ws:=a} fs b=true):qZ P mt nt O τ env o A st K :=
 ⟨_,_,fs,b,l,e,d.ws c g h,rfl,rfl,i⟩
theorem aPt (b:Good τ env A st) {a ws} (c:aT P mt nt O o st some=some {ws:=ws}) (e:FrOk τ env a ws) (d:K {ws:=a} A.fs A.nx=true):qZ P mt nt O τ env o A st K :=
 aEn b [] c (by grind) (by simpa using b.fs) (by simpa using b.nx) d
theorem pN (b:Good τ env A st) {a v} (c:aT P mt nt O o st some=some {ws:=dstW nt o.dst v}) (d:Mt τ env a v) (e:K {ws:=adst nt o.dst a} A.fs A.nx=true):qZ P mt nt O τ env o A st K :=
 aPt b c (.dst d nt o.dst) e
theorem aK1 (b:Good τ env A st) {a v} (c:aT P mt nt O o st some=some {ws:=dstW nt o.dst v}) (d:Mt τ (env++[v]) a v) (e:K {ws:=adst nt o.dst a} A.fs (A.nx+1)=true):qZ P mt nt O τ env o A st K :=
 aEn b [v] c (.dst d nt o.dst) (fun f h=>(b.fs f h).mono _) (by simp [b.nx]) e
theorem aK2 (a:Good τ env A st) v:den (env++[v]) (.root A.nx)=some v:=by
 rw [a.nx];exact aKX env v
theorem Mt.newInt (a:Good τ env A st) k n:Mt τ (env++[.int k n]) (.nm (.root A.nx) (.int k)) (.int k n) := .nm (aK2 a _) (.int k n) rfl
theorem aOt (g:Good τ env A st) {n q v w lv j} (x:Mt τ env v w) (s:FrOk τ env lv j) (h:aPn nt o n q v lv A K=true)
  (t:aT P mt nt O o st some=newBox nt o n q w j st some):qZ P mt nt O τ env o A st K:=by
 obtain ⟨b,r,e⟩:=g.bx;unfold aPn at h;split at h
 ·rename_i id cs a k;split at h
  ·rename_i f;obtain ⟨vs,i,c⟩:=aK0 k x;have u:nF nt st o.dst=some id:=by
    unfold aYh at a;unfold nF;split at a
    ·rename_i d m;rw [r,m];split at a
     ·rename_i l;split at a;· cases a;show (match look b id with | none=>if id<nt then some id else none | some _=>none)=some id;rw [e.none l];grind
      grind
     grind
    grind
   have p:aT P mt nt O o st some=some {ws:=(id,.ptr 0 id 0)::j,nw:=[(id,vs)]}:=by
    rw [t];simp [newBox,u,i,bnd,cnd,aPr c f]
   refine ⟨_,_,A.fs,A.nx,[],p,?_,rfl,rfl,h⟩;simp;refine ⟨(FrOk.cons (.ptr id 0) s).app g.fr,⟨(id,vs)::b,?_,.cons c e⟩,g.fs,g.nx⟩;show aBK (dJ st.bx []) [(id,vs)]=_;rw [r];rfl
  grind
 grind
theorem aVq {t z} (h:bCB P t=some z):∃ v,aIt P t=some v/\Mt τ env z v:=by
 unfold bCB at h;unfold aIt;split at h
 ·rename_i i b;cases a:i.zero with
  | none=>grind
  | some v =>
   rw [a] at h;cases h;exact ⟨ofValue v,by grind,.value v⟩
 grind
theorem aAa {b id}:bG [b] 0 id=look b id:=rfl
end
variable {τ : Tb} {env l : List PV}
theorem aJU {fs} (g:∀ f,f∈fs->eQ env f) {l a v} (h:aSb fs l a=true) (b:Mt τ env a v):LfOk τ l v:=by
 unfold aSb at h;split at h;· cases b;exact .bool _
 ·rw [Bool.and_eq_true,Bool.and_eq_true,beq_iff_eq] at h;cases b with
  | sl c j o e =>
   obtain ⟨⟨rfl,i⟩,d⟩:=h;have:=Nat.eq_of_beq_eq_true i;subst this;split at d;· rename_i k p;have q:=aPq p g o;have r:=Nat.le_of_ble_eq_true d;exact .sl j (by omega)
   grind
 ·rw [beq_iff_eq] at h;subst h;cases b;exact .sl (by simp) (by simp)
 ·rw [Bool.and_eq_true,Bool.and_eq_true,decide_eq_true_eq] at h;obtain ⟨⟨rfl,i⟩,d⟩:=h;cases b with
  | nm c e m =>
   cases e with
   | int k n=>exact .rng ⟨bGT i g ⟨_,c⟩,bGU d g ⟨_,c⟩⟩
 ·rw [decide_eq_true_eq] at h;subst h;cases b with
  | nm c e m=>exact e
 grind
theorem aSe {fs} (c:∀ f,f∈fs->eQ env f):∀ {a b vs},aOr fs a b=true->Mts τ env b vs->CsOk τ a vs
 | [],_,_,h,.nil => .nil
 | _::_,_,_,h,.nil=>by simp [aOr] at h
 | [],_,_,h,.cons _ _=>by simp [aOr] at h
 | l::a,_,_,h,.cons d e=>by
  simp [aOr] at h;exact .cons (aJU c h.1 d) (aSe c h.2 e)
theorem aPu {fs} (c:∀ f,f∈fs->eQ env f) {e a v} (h:aVl fs e a=true) (d:Mt τ env a v):ElOk τ e v:=by
 obtain ⟨ag,cs⟩:=e;unfold aVl at h;split at h
 ·rename_i b;cases b;cases d with
  | agg g=>exact .ag (aSe c h g)
 ·grind
 rename_i b;cases b;split at h;· rename_i l i;cases i;exact .one (aJU c h d)
 grind
inductive ElsOk (τ:Tb):List El->List PV->Prop
 | nil:ElsOk τ [] []
 | cons {e:El} {es:List El} {v:PV} {vs:List PV} (h:ElOk τ e v) (hs:ElsOk τ es vs):ElsOk τ (e::es) (v::vs)
theorem aCh {fs} (b:∀ f,f∈fs->eQ env f):∀ {es a vs},aGm fs es a=true->Mts τ env a vs->ElsOk τ es vs
 | [],_,_,h,.nil => .nil
 | _::_,_,_,h,.nil=>by simp [aGm] at h
 | [],_,_,h,.cons _ _=>by simp [aGm] at h
 | l::e,_,_,h,.cons c d=>by
  simp [aGm] at h;exact .cons (aPu b h.1 c) (aCh b h.2 d)
theorem aVr {x l v} (a:den env x=some v) (h:LfOk τ l v):Mt τ env (ofLf x l) v:=by
 cases h with
 | bool b=>exact .nm a (.bool b) rfl
 | int k n=>exact .nm a (.int k n) rfl
 | rng _=>exact .nm a (.int _ _) rfl
 | str d=>exact .nm a (.str d) rfl
 | sl c e=>exact .sl (k := .i64) (z:=0) a c rfl (by omega)
theorem aYn {x cs} (d:∀ j,j<cs.length->den env (.cell x j)=nth cs j):∀ {b vs} j,cs.drop j=vs->CsOk τ b vs->Mts τ env (bHz x j b) vs
 | [],_,j,_,.nil => .nil
 | l::b,v::vs,j,e,.cons h g=>by
  have a:j<cs.length:=by
   rcases Nat.lt_or_ge j cs.length with h | h;· exact h
   rw [List.drop_eq_nil_of_le h] at e;grind
  have c:=e;rw [List.drop_eq_getElem_cons a] at c;obtain ⟨i,f⟩:=List.cons.inj c;refine .cons (aVr ?_ h) (aYn d (j+1) f g);rw [d j a,mQ,List.getElem?_eq_getElem a,i]
theorem aPv {x e v} (a:den env x=some v) (h:ElOk τ e v):Mt τ env (ofEl x e) v:=by
 cases h with
 | ag b =>
  rename_i d vs;exact .agg (aYn (cs:=vs) (fun j c=>by simp [den,a,bnd,PV.cells]) 0 rfl b)
 | one h=>exact aVr a h
theorem CsOk.len:∀ {a vs},CsOk τ a vs->a.length=vs.length
 | _,_,.nil=>rfl
 | _,_,.cons _ b=>by simp [b.len]
theorem ElOk.cells {e v} (h:ElOk τ e v):v.cells.length=e.size:=by
 cases h with
 | ag a=>exact a.len.symm
 | one h=>cases h<;>rfl
theorem aPw {n sz es} (a:∀ e,e∈es->ElOk τ (elOf τ n) e) (b:(elOf τ n).size=sz):szOk sz es=true:=by
 cases es with
 | nil=>rfl
 | cons e es =>
  simp [szOk];rw [(a e (by simp)).cells,b]
theorem aOu:∀ {σ} {n w a},aKV σ n a=some w->n<=w/\∃ e,nth σ (w-n)=some e/\a.all (aVl [] e)=true
 | [],n,w,a,h=>by simp [aKV] at h
 | e::σ,n,w,a,h=>by
  simp [aKV] at h;split at h;· rename_i f;cases h;exact ⟨by omega,e,by simp [nth],f⟩
  obtain ⟨g,d,c,b⟩:=aOu h;refine ⟨by omega,d,?_,b⟩;rw [show w-n=(w-(n+1))+1 by omega];exact c
theorem aYo {e}:∀ {a vs},Mts τ env a vs->a.all (aVl [] e)=true->∀ v,v∈vs->ElOk τ e v
 | _,_,.nil,_,v,h=>by grind
 | _,_,.cons b c,h,v,hv=>by
  simp only [List.all_cons,Bool.and_eq_true] at h;rcases List.mem_cons.1 hv with rfl | hv;· exact aPu (fs:=[]) (by simp) h.1 b
  exact aYo c h.2 v hv
theorem aYp {sz} (f:0<sz) z:∀ {b g},FrOk τ env b g->∀ pre m,aKW sz b (pre.length+m) pre.length=true ->
  m=g.length/\∀ {R} (K:List PV->Option R),aBM sz g (pre++List.replicate m z) K=K (pre++g.map fun x=>x.2.plain)
 | _,_,.nil,pre,m,h=>by
  have:m=0:=by have:=Nat.eq_of_beq_eq_true h;omega
  subst this;exact ⟨rfl,fun K=>by simp [aBM]⟩
 | _,_,.cons (i:=i) (a:=a) (v:=v) (l:=b) (m:=g) r q,pre,m,h=>by
  simp only [aKW,Bool.and_eq_true] at h;obtain ⟨⟨⟨o,d⟩,p⟩,y⟩:=h;have o:=Nat.eq_of_beq_eq_true o;have p:=Nat.eq_of_beq_eq_true p;have u:v.cells.length=sz:=by
   rw [<- p];cases r with
   | agg s=>exact s.len.symm
   | nm C t q=>cases t<;>first | rfl | simp at q
   | sl=>rfl
   | cn=>rfl
   | nil=>rfl
   | any=>simp [AV.solid,AV.isNm] at d
   | und=>simp [AV.solid,AV.isNm] at d
   | tup=>simp [AV.solid,AV.isNm] at d
   | ref=>simp [AV.solid,AV.isNm] at d
   | ptr=>simp [AV.solid,AV.isNm] at d
  have w:∃ c,m=c+1:=by
   cases m with
   | succ c=>simp
   | zero =>
    have key:∀ {b} {n k},n<k->aKW sz b n k=false:=by
     intro b;induction b with
     | nil=>intro n k j;simp [aKW];cases D:Nat.beq n k with
      | false=>rfl
      | true=>simp_all
     | cons x b A=>simp [aKW];grind
    grind
  obtain ⟨c,rfl⟩:=w;have E:=aYp f z q (pre++[v.plain]) c (by grind);have B:el sz v=some v.plain:=if_pos ⟨aGn r d,u,f⟩;have j:i<(pre++List.replicate (c+1) z).length:=by grind
  simp [aBM,bnd];have e:putNth (pre++List.replicate (c+1) z) i v.plain=(pre++[v.plain])++List.replicate c z:=by
   rw [hJ,o,List.replicate_succ];simp
  grind
theorem aYq {ps:List (Nat×Operand)} {fr a} (h:FrOk τ env a fr):FrOk τ env (ps.map fun p=>(p.1,aopv a false p.2)) (ps.map fun p=>(p.1,opv fr false p.2)):=by
 induction ps with
 | nil=>exact .nil
 | cons p ps b=>exact .cons (.opv h false p.2) b
theorem FrOk.vals:∀ {a v},FrOk τ env a v->Mts τ env (a.map (·.2)) (v.map (·.2))
 | _,_,.nil => .nil
 | _,_,.cons h b => .cons h b.vals
section
variable {env : List PV} {P : Program} {mt : Hints} {nt : Nat} {C : Cfg} {O : Orc} {o : Oper} {A : ASt} {st : St} {K : AK}
theorem bEW {c a b} (e:Good C.τ env A st) (g:o.op = .pick c a b) (h:aOp P mt nt C o A K=true):qZ P mt nt O C.τ env o A st K:=by
 simp [aOp,g] at h;obtain ⟨t,fs,hv,f,j⟩:=bCJ h (Mt.opd e.fr c) e.fs;have d:∀ t,opd st.fr c = .bool t->aT P mt nt O o st some=some {ws:=dstW nt o.dst (opv st.fr false (match t with | true=>a | false=>b))}:=by
  intro t i;simp [aT,g];rw [i];cases t<;>rfl
 have d:=d t hv;cases t with
 | true=>exact aEn e [] d (by simpa using FrOk.dst (Mt.opv e.fr false a) nt o.dst) (by grind) (by simpa using e.nx) f
 | false=>exact aEn e [] d (by simpa using FrOk.dst (Mt.opv e.fr false b) nt o.dst) (by grind) (by simpa using e.nx) f
theorem bCL {t} (c:Good C.τ env A st) (a:o.op = .alloc t) (h:aOp P mt nt C o A K=true):qZ P mt nt O C.τ env o A st K:=by
 simp [aOp,a] at h;split at h;· rename_i n g z e d b;obtain ⟨v,hv,f⟩:=aVq (τ:=C.τ) (env:=env) b;exact aOt c f .nil h (by simp [aT,a,e,d,hv])
 grind
theorem bHB {t x} (a:Good C.τ env A st) (b:o.op = .box t x) (h:aOp P mt nt C o A K=true):qZ P mt nt O C.τ env o A st K:=by
 simp [aOp,b] at h;split at h;· rename_i n e d c;exact aOt a (Mt.opv a.fr true x) (a.fr.left true x) h (by simp [aT,b,d,c])
 grind
theorem bCM {t ps} (a:Good C.τ env A st) (b:o.op = .build t ps) (h:aOp P mt nt C o A K=true):qZ P mt nt O C.τ env o A st K:=by
 simp [aOp,b] at h;split at h
 ·rename_i fs z j g;split at h
  ·rename_i cs c f;obtain ⟨v,hv,l⟩:=aVq (τ:=C.τ) (env:=env) g;cases l with
   | agg d =>
    obtain ⟨i,k,e⟩:=aYm (aYq (ps:=ps.toList) a.fr) d f;exact pN a (v := .agg i) (by simp [aT,b,j,hv,c,k]) (.agg e) h
  grind
 grind
theorem aMQ {t n ps} (c:Good C.τ env A st) (u:o.op = .buildSlice t n ps) (h:aOp P mt nt C o A K=true):qZ P mt nt O C.τ env o A st K:=by
 simp only [aOp,u] at h;split at h
 ·split at h
  ·rename_i sz z N y;split at h
   ·rename_i i;simp only [Bool.and_eq_true,decide_eq_true_eq] at i;obtain ⟨⟨⟨⟨⟨H,g⟩,a⟩,l⟩,E⟩,F⟩:=i;have g:=Nat.eq_of_beq_eq_true g;split at h
    ·rename_i w m;obtain ⟨v,hv,j⟩:=aVq (τ:=C.τ) (env:=env) y;have d:v.cells.length=sz:=by
      rw [<- g];cases j with
      | agg q=>exact q.len.symm
      | nm L s J=>cases s<;>first | rfl | simp [isSl] at J
      | sl=>rfl
      | cn=>rfl
      | nil=>rfl
      | any=>simp [AV.solid,AV.isNm] at a
      | und=>simp [AV.solid,AV.isNm] at a
      | tup=>simp [AV.solid,AV.isNm] at a
      | ref=>simp [AV.solid,AV.isNm] at a
      | ptr=>simp [AV.solid,AV.isNm] at a
     have I:el sz v=some v.plain:=if_pos ⟨aGn j a,d,l⟩;have b:=aYq (ps:=ps.toList) c.fr;obtain ⟨M,D⟩:=aYp l v.plain b [] n (by grind);obtain ⟨_,B,r,e⟩:=aOu m;have f:elOf C.τ w=B:=by unfold elOf;grind
     refine aK1 c (v := .slice ((ps.toList.map fun p=>(p.1,opv st.fr false p.2)).map fun x=>x.2.plain) [] true) ?_ (.sl (k := .i64) (z:=0) (aK2 c _) ?_ rfl ?_) h
     ·cases n with
      | zero=>omega
      | succ n =>
       simp [aT,bnd];grind
     ·intro x G;rw [f];refine aYo (b.vals.map Mt.plain) e _ ?_;grind
     grind
    grind
   grind
  grind
 grind
theorem bEX {t p} (hG:Good C.τ env A st) (e:o.op = .load t p) (h:aOp P mt nt C o A K=true):qZ P mt nt O C.τ env o A st K:=by
 simp [aOp,e] at h;obtain ⟨b,j,hbx⟩:=hG.bx;split at h
 ·rename_i n ag k l;have hp:=Mt.opd hG.fr p;split at h
  ·rename_i id off hpt;rw [hpt] at hp;generalize hpv:opd st.fr p=s at hp;cases hp;split at h
   ·rename_i cs y hlk;obtain ⟨ws,hws,hms⟩:=hbx.get hlk;have hcond:0<n/\(ag=true∨n=1):=by
     simp_all
    split at h
    ·rename_i v c d;obtain ⟨w,r,hmw⟩:=aVp d hms;have i:=aPs c hms;have hev:aT P mt nt O o st some=(match hasO mt.takes o.dst with
       | true=>some {cr:=[(0,id,off,n)],cw:=[(0,id,off,cJ ag w)],ws:=dstW nt o.dst w}
       | false=>some {cr:=[(0,id,off,n)],ws:=dstW nt o.dst w.plain}):=by
      simp only [aT,e,k,l,hpv,hcond,if_true,j,aAa,hws,bnd];simp [and_self,if_true];split;· simp [aAy] at i
      simp [r,bnd,xZ];grind
     split at h
     ·rename_i htk;rw [htk] at hev;split at h
      ·rename_i m hpc;have hpl:Mts C.τ env m (cJ ag w):=by
        unfold aKU at hpc;split at hpc
        ·cases hpc;cases hmw with
         | agg q=>exact q.map Mt.plain1
        ·grind
        cases hpc;exact .one hmw.plain1
       refine ⟨_,_,A.fs,A.nx,[],hev,?_,rfl,?_,h⟩
       ·simp [List.append_nil];refine ⟨(FrOk.dst hmw nt o.dst).app hG.fr,⟨zD b id (putAt ws off (cJ ag w)),?_,?_⟩,hG.fs,hG.nx⟩;· show aBK (dJ st.bx [(0,id,off,cJ ag w)]) []=_;simp [j,dJ,aAa,hws];rfl
        show BxOk C.τ env (([]:List (Nat×List AV))++pM A.bx [(0,id,off,m)]) _;simp [pM,hlk];exact BxOk.put (hpl.putAt off hms) id hbx
       simp [Eff.foot,AEff.foot,hpl.len]
      grind
     rename_i htk;rw [htk] at hev;refine ⟨_,_,A.fs,A.nx,[],hev,?_,rfl,rfl,h⟩;simp;refine ⟨(FrOk.dst hmw.plain nt o.dst).app hG.fr,⟨b,?_,hbx⟩,hG.fs,hG.nx⟩;show aBK (dJ st.bx []) []=_;rw [j];rfl
    grind
   grind
  ·rename_i v hpt;rw [hpt] at hp;generalize hpv:opd st.fr p=s at hp;cases hp with
   | ref hv =>
    rename_i w;have hev:∀ {u},aUL n ag w=some u->aT P mt nt O o st some=some {ws:=dstW nt o.dst u.plain}:=by
     intro u x;simp [aT,e,k,l,hpv,x,bnd]
    split at h
    ·split at h
     ·rename_i hl;have hl:=Nat.eq_of_beq_eq_true hl;cases hv with
      | agg g =>
       rename_i vs;have f:aUL n true (.agg vs)=some (.agg vs):=by
        simp only [aUL];rw [if_pos (by rw [<- g.len,hl])]
       exact pN hG (hev f) (Mt.agg g).plain h
     grind
    ·grind
    split at h
    ·rename_i a;have f:aUL n false w=some w:=by
      cases hv with
      | nm z hl g=>cases hl<;>first | rfl | simp at g
      | sl=>rfl
      | cn=>rfl
      | nil=>rfl
      | ref=>rfl
      | ptr=>rfl
      | any=>simp [AV.fits,AV.isNm] at a
      | und=>simp [AV.fits,AV.isNm] at a
      | agg=>simp [AV.fits,AV.isNm] at a
      | tup=>simp [AV.fits,AV.isNm] at a
     exact pN hG (hev f) hv.plain h
    grind
  grind
 grind
theorem bCN {t p x} (c:Good C.τ env A st) (s:o.op = .store t p x) (h:aOp P mt nt C o A K=true):qZ P mt nt O C.τ env o A st K:=by
 simp [aOp,s] at h;obtain ⟨b,v,e⟩:=c.bx;split at h
 ·rename_i n H w D;have r:=Mt.opd c.fr p;split at h
  ·rename_i id off m B;rw [m] at r;generalize j:opd st.fr p=G at r;cases r;split at h
   ·rename_i cs vs f i;obtain ⟨ws,g,a⟩:=e.get f;obtain ⟨us,k,d⟩:=aK0 i (Mt.opv c.fr true x);split at h
    ·rename_i u;simp only [Bool.and_eq_true,decide_eq_true_eq] at u;obtain ⟨⟨⟨z,E⟩,y⟩,F⟩:=u;have l:=aPs z a;have q:aT P mt nt O o st some=some {cw:=[(0,id,off,us)],ws:=left st.fr true x}:=by
      simp [aT,s,w,D,j,B,v,aAa,g,k,bnd];split;· simp [aAy] at l
      simp only [aPr d E];rw [if_pos ⟨by rw [<- a.len];exact y,F⟩];rfl
     refine ⟨_,_,A.fs,A.nx,[],q,?_,rfl,?_,h⟩
     ·simp;refine ⟨(c.fr.left true x).app c.fr,⟨zD b id (putAt ws off us),?_,?_⟩,c.fs,c.nx⟩;· show aBK (dJ st.bx [(0,id,off,us)]) []=_;simp [v,dJ,aAa,g];rfl
      show BxOk C.τ env (([]:List (Nat×List AV))++pM A.bx [(0,id,off,vs)]) _;simp [pM,f];exact BxOk.put (d.putAt off a) id e
     simp [Eff.foot,AEff.foot,d.len]
    simp at h
   simp at h
  simp at h
 simp at h
theorem aSf {x} (d:Good C.τ env A st) (e:o.op = .nilCheck x) (h:aOp P mt nt C o A K=true):qZ P mt nt O C.τ env o A st K:=by
 simp [aOp,e] at h;have c:=Mt.opd d.fr x;split at h;· rename_i id off b;rw [b] at c;generalize a:opd st.fr x=f at c;cases c;exact pN d (by simp [aT,e,a]) (.ptr id off) h
 ·rename_i v b;rw [b] at c;generalize a:opd st.fr x=f at c;cases c with
  | ref hv=>exact pN d (by simp [aT,e,a]) (.ref hv) h
 grind
theorem aPx {s x f} (i:Good C.τ env A st) (j:o.op = .fieldAddr s x f) (h:aOp P mt nt C o A K=true):qZ P mt nt O C.τ env o A st K:=by
 simp [aOp,j] at h;have c:=Mt.opd i.fr x;split at h
 ·rename_i fs l;split at h
  ·rename_i off n w k;split at h;· rename_i id t d b;rw [b] at c;generalize a:opd st.fr x=r at c;cases c;rw [decide_eq_true_eq] at d;exact pN i (by simp [aT,j,l,k,d,a,fad,bnd]) (.ptr id (t+off)) h
   ·rename_i v d b;rw [b] at c;generalize a:opd st.fr x=r at c;rw [decide_eq_true_eq] at d;cases c with
    | ref hv =>
     split at h
     ·rename_i q g;unfold afld at g;split at g
      ·cases hv with
       | agg p =>
        obtain ⟨u,m,e⟩:=aVp g p;exact pN i (v := .ref u) (by simp [aT,j,l,k,d,a,fad,fld,m,bnd]) (.ref e) h
      grind
     grind
   grind
  grind
 grind
end
variable {τ : Tb} {env : List PV}
theorem aCi {k k' c n} (h:den env (.lit k c)=some (.int k' n)):n=c:=by
 simp [den] at h;omega
theorem Mt.int {x k v} (h:Mt τ env (.nm x (.int k)) v):∃ n,v = .int k n/\den env x=some (.int k n):=by
 cases h with
 | nm c a b=>cases a with | int k n=>grind
theorem Mt.str {x v} (h:Mt τ env (.nm x .str) v):∃ s,v = .str s/\den env x=some (.str s)/\s.length<=topL:=by
 cases h with
 | nm d a c=>cases a with | str b=>grind
theorem aSg {a v} (h:isB a=true) (c:Mt τ env a v):∃ b,v = .bool b:=by
 have:=aJU (τ:=τ) (env:=env) (fs:=[]) (by simp) h c;cases this with
 | bool b=>simp
theorem bGV {fs} (i:∀ f,f∈fs->eQ env f):∀ {y k m},nn0 fs y=true->den env y=some (.int k m)->0<=m
 | .lit _ c,k,m,h,d=>by
  have:=aCi d;simp [nn0] at h;omega
 | .root r,k,m,h,d=>by
  obtain ⟨a,b,g,e,j⟩:=vP (aEO h i);have:=g.lit;have:=e.inj ⟨_,d⟩;omega
 | .cell _ _,_,_,h,_=>by simp [nn0] at h
 | .elem _ _,_,_,h,_=>by simp [nn0] at h
 | .txt _,_,_,h,_=>by simp [nn0] at h
 | .len _,_,_,h,_=>by simp [nn0] at h
 | .suc _,_,_,h,_=>by simp [nn0] at h
theorem bHC {k:IntKind} (h:k.signed=false) n:0<=k.wrap n:=by
 cases k<;>simp [IntKind.signed] at h<;>simp [IntKind.wrap,IntKind.signed]<;>omega
theorem bHD {fs} (E:∀ f,f∈fs->eQ env f) {q a b v w u x y} (h:abin fs q a b w=some (v,u)) (B:Mt τ env a x) (o:Mt τ env b y) (z:w=env.length) :
  ∃ r l,bin q x y=some r/\u=(env++l).length/\Mt τ (env++l) v r:=by
 have i:∀ {r} {v},bin q x y=some r->Mt τ env v r->∃ r l,bin q x y=some r/\w=(env++l).length/\Mt τ (env++l) v r :=
  fun A hv=>⟨_,[],A,by simpa using z,by simpa using hv⟩
 have g:∀ {r} {k} {n},bin q x y=some r->r = .int k n->∃ r l,bin q x y=some r/\w+1=(env++l).length/\Mt τ (env++l) (.nm (.root w) (.int k)) r:=by
  rintro _ k n A rfl;refine ⟨_,[.int k n],A,by simp [z],.nm ?_ (.int k n) rfl⟩;simp [den];rw [z];exact aKX env _
 unfold abin at h;split at h
 ·rename_i F k I k';obtain ⟨n,rfl,j⟩:=B.int;obtain ⟨m,rfl,d⟩:=o.int;split at h
  ·split at h;· rename_i p;cases h;have:=bGV E p d;exact g (by simp only [bin];rw [if_neg (by omega)]) rfl
   simp at h
  ·split at h;· rename_i p;cases h;have:=bGV E p d;exact g (by simp only [bin];rw [if_neg (by omega)]) rfl
   simp at h
  rename_i H J;split at h;· simp at h
  rename_i C;rw [decide_eq_true_eq] at C;subst C;split at h;· cases h;exact i (r := .bool (n==m)) (by simp [bin,pA]) (.cn ⟨_,n,_,m,j,d,rfl⟩)
  ·cases h;exact i (r := .bool (n != m)) (by simp [bin,pA]) (.cn ⟨_,n,_,m,j,d,by simp [CO.ev,bne]⟩)
  ·cases h;exact i (r := .bool (n<m)) (by simp [bin,pA]) (.cn ⟨_,n,_,m,j,d,rfl⟩)
  ·cases h;exact i (r := .bool (n<=m)) (by simp [bin,pA]) (.cn ⟨_,n,_,m,j,d,rfl⟩)
  ·cases h;exact i (r := .bool (n>m)) (by simp [bin,pA]) (.cn ⟨_,m,_,n,d,j,rfl⟩)
  ·cases h;exact i (r := .bool (n≥m)) (by simp [bin,pA]) (.cn ⟨_,m,_,n,d,j,rfl⟩)
  ·split at h;· cases h;have:=aCi d;subst this;exact i (r := .int k (k.wrap (n+1))) (by simp [bin,pA]) (.nm (by simp [den,j,bnd]) (.int _ _) rfl)
   cases h;exact g (r := .int k (k.wrap (n+m))) (by simp [bin,pA]) rfl
  ·cases h;exact g (r := .int k (k.wrap (n-m))) (by simp [bin,pA]) rfl
  ·cases h;exact g (r := .int k (k.wrap (n*m))) (by simp [bin,pA]) rfl
  ·cases h;exact g (r := .int k (bits .and k n m)) (by simp [bin,pA]) rfl
  ·cases h;exact g (r := .int k (bits .or k n m)) (by simp [bin,pA]) rfl
  ·cases h;exact g (r := .int k (bits .xor k n m)) (by simp [bin,pA]) rfl
  ·cases h;exact g (r := .int k (bits .andNot k n m)) (by simp [bin,pA]) rfl
  ·split at h
   ·rename_i G c;split at h;· simp at h
    rename_i p;cases h;have:=aCi d;subst this;exact g (r := .int k (k.wrap (n.tdiv m))) (by simp [bin,pA,p]) rfl
   simp at h
  ·split at h
   ·rename_i G c;split at h;· simp at h
    rename_i p;cases h;have:=aCi d;subst this;exact g (r := .int k (n.tmod m)) (by simp [bin,pA,p]) rfl
   simp at h
  simp at h
 ·rename_i F;obtain ⟨s,rfl,j,_⟩:=B.str;obtain ⟨t,rfl,d,_⟩:=o.str;simp [den] at d;subst d;have e:(s==[])=decide ((s.length:Int)<=0):=by cases s<;>simp
  have D:den env (.len F)=some (.int .i64 s.length):=by simp [den,j,bnd,lenOf]
  split at h;· cases h;exact i (r := .bool (s==[])) rfl (.cn ⟨_,s.length,_,0,D,rfl,e⟩)
  ·cases h;exact i (r := .bool (!(s==[]))) rfl (.cn ⟨_,s.length,_,0,D,rfl,by rw [Bool.not_not];exact e⟩)
  simp at h
 ·obtain ⟨s,rfl,j,_⟩:=B.str;obtain ⟨t,rfl,d,_⟩:=o.str;split at h<;>first | (cases h;exact i (v := .cn .unk) (r := .bool _) rfl (.cn trivial)) | simp at h
 simp at h
theorem bCO:∀ {j xs ys vs ws},(j.all fun l=>match nth xs l.1,nth ys l.1 with | some a,some b=>aVm l.2 a b | _,_=>false)=true->Mts τ env xs vs->Mts τ env ys ws->∃ b,eqAt vs ws j=some b
 | [],_,_,_,_,_,_,_=>⟨true,rfl⟩
 | (i,k)::j,xs,ys,vs,ws,h,o,p=>by
  simp only [List.all_cons,Bool.and_eq_true] at h;obtain ⟨c,y⟩:=bCO h.2 o p;have e:=h.1;split at e
  ·rename_i a b A C;obtain ⟨v,hv,g⟩:=o.nth A;obtain ⟨w,r,f⟩:=p.nth C;have B:gt vs i=v:=by simp [gt,hv]
   have x:gt ws i=w:=by simp [gt,r]
   have:∃ d,aEg k v w=some d:=by
    unfold aVm at e;split at e;· rw [decide_eq_true_eq] at e;subst e;obtain ⟨n,rfl,_⟩:=g.int;obtain ⟨m,rfl,_⟩:=f.int;exact ⟨n==m,by simp [aEg]⟩
    ·obtain ⟨s,rfl,_,_⟩:=g.str;obtain ⟨t,rfl,_,_⟩:=f.str;exact ⟨s==t,rfl⟩
    ·rw [Bool.and_eq_true] at e;obtain ⟨u,rfl⟩:=aSg e.1 g;obtain ⟨q,rfl⟩:=aSg e.2 f;exact ⟨u==q,rfl⟩
    grind
   obtain ⟨d,z⟩:=this;exact ⟨d&&c,by simp [eqAt,B,x,z,y]⟩
  grind
section
variable {P : Program} {mt : Hints} {nt : Nat} {C : Cfg} {O : Orc} {o : Oper} {A : ASt} {st : St} {K : AK}
theorem bHE {op t u x y} (hG:Good C.τ env A st) (i:o.op = .binOp op t x y u) (h:aOp P mt nt C o A K=true):qZ P mt nt O C.τ env o A st K:=by
 simp [aOp,i] at h;have hx:=Mt.opd hG.fr x;have hy:=Mt.opd hG.fr y;have hev:aT P mt nt O o st some=vF P nt o op t (opd st.fr x) (opd st.fr y) some:=by simp [aT,i]
 have prim:(vF P nt o op t (opd st.fr x) (opd st.fr y) some=bnd (bin op (opd st.fr x) (opd st.fr y)) fun v=>some ({ws:=dstW nt o.dst v}:Eff)) ->
   bCD nt o op (aopd A.fr x) (aopd A.fr y) A K=true->qZ P mt nt O C.τ env o A st K:=by
  intro B h;unfold bCD at h;split at h;· rename_i v I a;obtain ⟨r,l,w,q,G⟩:=bHD hG.fs a hx hy hG.nx;exact aEn hG l (by rw [hev,B,w];rfl) (.dst G nt o.dst) (fun f D=>(hG.fs f D).mono l) q h
  simp at h
 have cmp:∀ (neg:Bool),(op=if neg then .neq else .eql)->aCmp P nt o op t (aopd A.fr x) (aopd A.fr y) A K=true->qZ P mt nt O C.τ env o A st K:=by
  intro neg hop h;unfold aCmp at h;split at h;· rename_i k hu;exact prim (by cases neg<;>subst hop<;>simp [vF,hu]<;>rfl) h
  ·rename_i hu;exact prim (by cases neg<;>subst hop<;>simp [vF,hu]<;>rfl) h
  ·rename_i hu;split at h;· rename_i hb;rw [Bool.and_eq_true] at hb;obtain ⟨g,e1⟩:=aSg hb.1 hx;obtain ⟨e,e2⟩:=aSg hb.2 hy;refine pN hG (v := .bool (if neg then !(g==e) else (g==e))) ?_ (.cn (c := .unk) trivial) h;rw [hev,e1,e2];cases neg<;>subst hop<;>simp [vF,hu]<;>rfl
   simp at h
  ·rename_i fs hu;split at h
   ·rename_i n p xs ys e1 e2 z F hb;split at h
    ·rename_i j;simp only [Bool.and_eq_true] at j;obtain ⟨⟨c1,b⟩,s⟩:=j;rw [F] at hx;rw [hb] at hy;generalize hxv:opd st.fr x=H at hx;generalize hyv:opd st.fr y=J at hy;cases hx with
     | agg hxs =>
      cases hy with
      | agg hys =>
       rename_i vs ws;obtain ⟨d,E⟩:=bCO s hxs hys;have c1:=Nat.eq_of_beq_eq_true c1;have b:=Nat.eq_of_beq_eq_true b;have m:eqs n p (.agg vs) (.agg ws)=some d:=by
        simp only [eqs];rw [if_pos ⟨by rw [<- hxs.len,c1],by rw [<- hys.len,b]⟩,E]
       refine pN hG (v := .bool (if neg then !d else d)) ?_ (.cn (c := .unk) trivial) h;rw [hev,hxv,hyv];cases neg<;>subst hop<;>simp [vF,hu,e1,e2,z,m]<;>rfl
    simp at h
   simp at h
  simp at h
 cases op;case eql=>exact cmp false rfl h
 case neq=>exact cmp true rfl h
 all_goals exact prim rfl h
theorem bIW {l t x} (e:Good C.τ env A st) (g:o.op = .unOp l t x) (h:aOp P mt nt C o A K=true):qZ P mt nt O C.τ env o A st K:=by
 simp [aOp,g] at h;have d:=Mt.opd e.fr x;split at h
 ·rename_i c f;rw [f] at d;generalize i:opd st.fr x=p at d;cases d with
  | cn j =>
   rename_i b;refine pN e (v := .bool (!b)) (by simp [aT,g,i,un,bnd]) (.cn ?_) h;show CnOk env c (!(!b));grind
 ·rename_i y f;rw [f] at d;obtain ⟨b,j⟩:=aSg (a := .nm y .bool) rfl d;exact pN e (v := .bool (!b)) (by simp [aT,g,j,un,bnd]) (.cn (c := .unk) trivial) h
 ·rename_i y k f;rw [f] at d;obtain ⟨n,m,_⟩:=d.int;exact aK1 e (v := .int k (k.wrap (0-n))) (by simp [aT,g,m,un,bnd]) (Mt.newInt e _ _) h
 grind
theorem aVs {s d x} (a:Good C.τ env A st) (g:o.op = .convert s d x) (h:aOp P mt nt C o A K=true):qZ P mt nt O C.τ env o A st K:=by
 simp [aOp,g] at h;have e:=Mt.opd a.fr x;split at h
 ·rename_i r k y p m l i;rw [i] at e;obtain ⟨n,j,q⟩:=e.int;refine aEn a [.int k (k.wrap n)] (ws:=dstW nt o.dst (.int k (k.wrap n))) (by simp [aT,g,aFZ,m,l,j,bEo,bnd]) (.dst (Mt.newInt a _ _) nt o.dst) ?_ (by simp [a.nx]) h;intro f b;split at b;· exact (a.fs f b).mono _
  rename_i c;rcases List.mem_cons.1 b with rfl | b;· exact ⟨_,0,_,_,rfl,aK2 a _,by simp only [CO.ev];symm;rw [decide_eq_true_eq];exact bHC c n⟩
  exact (a.fs f b).mono _
 grind
theorem aPy {t x i} (hG:Good C.τ env A st) (ho:o.op = .indexAddr t x i) (h:aOp P mt nt C o A K=true):qZ P mt nt O C.τ env o A st K:=by
 simp [aOp,ho] at h;have hx:=Mt.opd hG.fr x;have hi:=Mt.opd hG.fr i;split at h
 ·split at h
  ·rename_i n D;split at h
   ·rename_i v hv;unfold aIx at hv;split at hv
    ·rename_i p w c m s e j d f;rw [d] at hx;rw [f] at hi;obtain ⟨z,q,hdz⟩:=hi.int;generalize hxv:opd st.fr x=r at hx;cases hx with
     | sl hd a g u =>
      rename_i es F k' z';split at hv
      ·rename_i b;cases hv;obtain ⟨B,E,c3,k⟩:=b;have l:=bCH c3 hG.fs hdz (.inl rfl);obtain ⟨n',y,g1,g2,g3⟩:=aYk k hG.fs;have:=g1.inj ⟨_,hdz⟩;subst this;rw [hd] at g2;cases g2;have hlt:n'.toNat<es.length:=by simp [lenOf] at g3;omega
       have hnth:nth es n'.toNat=some es[n'.toNat]:=by rw [mQ];simp
       have hok:=a _ (List.getElem_mem hlt);have hcl:=hok.cells;have hne  := by omega
       refine pN hG (v := .ref es[n'.toNat]) ?_ (.ref (aPv ?_ hok)) h;· simp [aT,ix,bnd];grind
       simp [den,hd,hdz,bnd,bCx,hnth]
      grind
    grind
   grind
  grind
 grind
theorem bCP {t x i} (a:Good C.τ env A st) (k:o.op = .index t x i) (h:aOp P mt nt C o A K=true):qZ P mt nt O C.τ env o A st K:=by
 simp [aOp,k] at h;have l:=Mt.opd a.fr x;have g:=Mt.opd a.fr i;split at h
 ·rename_i p j q B r;split at h
  ·rename_i f;rw [Bool.and_eq_true] at f;rw [B] at l;rw [r] at g;obtain ⟨s,w,y,E⟩:=l.str;obtain ⟨z,m,c⟩:=g.int;have D:=bCH f.1 a.fs c (.inl rfl);obtain ⟨d,F,g1,g2,u⟩:=aYk f.2 a.fs;have:=g1.inj ⟨_,c⟩;subst this;rw [y] at g2;cases g2;have n  := by simp [lenOf] at u;omega
   have b:nth s d.toNat=some s[d.toNat]:=by rw [mQ];simp
   have e:¬ d<0:=by omega
   exact aK1 a (v := .int .u8 s[d.toNat].toNat) (by simp [aT,k,q,w,m,yA,if_neg e,b,bnd]) (Mt.newInt a _ _) h
  grind
 grind
theorem bCQ {t x e} (c:Good C.τ env A st) (m:o.op = .slice t x none (some e) none) (h:aOp P mt nt C o A K=true):qZ P mt nt O C.τ env o A st K:=by
 simp [aOp,m] at h;have g:=Mt.opd c.fr x;have f:=Mt.opd c.fr e;split at h
 ·rename_i p k n k' D w r;split at h
  ·rename_i i;rw [Bool.and_eq_true,decide_eq_true_eq] at i;rw [w] at g;rw [r] at f;obtain ⟨s,G,H,E⟩:=g.str;obtain ⟨z,y,d⟩:=f.int;have:=aCi d;obtain ⟨a,b,l,q,F⟩:=vP (aEO i.2 c.fs);have B:=l.lit;obtain ⟨v,hv,u⟩:=q.len;simp [lenOf] at u;have j  := by omega
   refine aK1 c (v := .str ((s.take z.toNat).drop 0)) ?_ (.nm (aK2 c _) (.str (by grind)) rfl) h;simp [aT,vE,aZG,aBI,bnd,aHb];grind
  grind
 grind
theorem aVt {x i} (c:Good C.τ env A st) (d:o.op = .extract x i) (h:aOp P mt nt C o A K=true):qZ P mt nt O C.τ env o A st K:=by
 simp [aOp,d] at h;have a:=Mt.opd c.fr x;split at h
 ·rename_i vs g;rw [g] at a;generalize b:opd st.fr x=k at a;cases a with
  | tup f =>
   split at h;· rename_i v hv;obtain ⟨w,e,j⟩:=f.nth hv;exact pN c (v:=w.plain) (by simp [aT,d,b,ext,e,bnd]) j.plain h
   grind
 grind
end
mutual
def bS:PV->Nat
 | .slice es _ _=>1+eI es
 | .agg cs=>1+eI cs
 | .str s=>1+s.length
 | _=>1
def eI:List PV->Nat
 | []=>0
 | v::vs=>bS v+eI vs
end
theorem oD {v}:∀ {vs},v∈vs->bS v<=eI vs
 | w::vs,h=>by
  simp [eI];rcases List.mem_cons.1 h with rfl | h;· omega
  have:=oD h;omega
theorem aVu {α} {l:List α} {i x} (h:nth l i=some x):x∈l:=by
 rw [mQ] at h;grind
theorem aDu {v w c} (h:nth v.cells c=some w):bS w<=bS v/\(∀ cs,v = .agg cs->bS w<bS v):=by
 have key:∀ cs,v = .agg cs->bS w<bS v:=by
  rintro cs rfl;have:=oD (aVu h);simp [bS];simp [PV.cells] at this;omega
 refine ⟨?_,key⟩;cases v with
 | agg cs=>grind
 | _ =>
  have:=aVu h;simp [PV.cells] at this;subst this;exact by omega
theorem aK3 {v w c} (h:nth (bCx v) c=some w):bS w<bS v:=by
 cases v with
 | slice es a o =>
  have:=oD (aVu h);simp [bS];simp [bCx] at this;omega
 | _=>simp [bCx,nth] at h
def RsOk (τ:Tb) (outs:List El) (r:PV):Prop :=
 match outs with
 | [e]=>ElOk τ e r
 | es=>∃ vs,r = .tuple vs/\ElsOk τ es vs
def aVv (sm:Summ) (args:List PV):Prop:=sm.cap=0∨∀ v,v∈args->bS v<=sm.cap
structure Me (C:Cfg) (v0:PV) (env:List PV):Prop where
 me:C.recs≠[]->den env (.root C.me)=some v0
 cap:∀ r,r<C.np->∃ v,den env (.root r)=some v/\bS v<=C.cap
structure Hyp (C:Cfg) (O:Orc) (v0:PV):Prop where
 sums:∀ f sm,(f,sm)∈C.sums->∀ args,ElsOk C.τ sm.ins args->aVv sm args->∃ r,O f args []=some (r,[])/\RsOk C.τ sm.outs r
 recs:∀ f sm k,(f,sm,k)∈C.recs->∀ args a,ElsOk C.τ sm.ins args->aVv sm args->nth args k=some a->bS a<bS v0->∃ r,O f args []=some (r,[])/\RsOk C.τ sm.outs r
 ag:C.recs≠[]->C.meAg=true->∃ cs,v0 = .agg cs
variable {τ : Tb} {env : List PV}
theorem aPz {r v0} (d:den env (.root r)=some v0):∀ {x v},aSc r x=true->den env x=some v->bS v<=bS v0
 | .root e,v,h,a=>by
  have:=Nat.eq_of_beq_eq_true h;grind
 | .cell p c,v,h,a=>by
  obtain ⟨w,b,a⟩:=aC a;exact Nat.le_trans (aDu a).1 (aPz d (x:=p) h b)
 | .elem p i,v,h,a=>by
  obtain ⟨w,b,a⟩:=aC a;obtain ⟨j,f,a⟩:=aC a;split at a;· exact Nat.le_trans (Nat.le_of_lt (aK3 a)) (aPz d (x:=p) h b)
  grind
 | .lit _ _,_,h,_=>by simp [aSc] at h
 | .txt _,_,h,_=>by simp [aSc] at h
 | .len _,_,h,_=>by simp [aSc] at h
 | .suc _,_,h,_=>by simp [aSc] at h
theorem aK4 {f r v0} (g:den env (.root r)=some v0) (d:f=true->∃ cs,v0 = .agg cs):∀ {x v},xH f r x=true->den env x=some v->bS v<bS v0
 | .cell p c,v,h,a=>by
  obtain ⟨w,b,a⟩:=aC a;have k:(∃ e,p = .root e/\f=true/\e=r)∨xH f r p=true:=by
   cases p with
   | root e =>
    simp [xH] at h;simp_all
   | _=>exact .inr (by first | (simp [xH] at h;done) | simpa [xH] using h)
  rcases k with ⟨e,rfl,m,rfl⟩ | k;· rw [g] at b;cases b;obtain ⟨cs,l⟩:=d m;exact (aDu a).2 cs l
  exact Nat.lt_of_le_of_lt (aDu a).1 (aK4 g d k b)
 | .elem p i,v,h,a=>by
  obtain ⟨w,b,a⟩:=aC a;obtain ⟨j,n,a⟩:=aC a;split at a;· exact Nat.lt_of_lt_of_le (aK3 a) (aPz g (by simpa [xH] using h) b)
  grind
 | .root _,_,h,_=>by simp [xH] at h
 | .lit _ _,_,h,_=>by simp [xH] at h
 | .txt _,_,h,_=>by simp [xH] at h
 | .len _,_,h,_=>by simp [xH] at h
 | .suc _,_,h,_=>by simp [xH] at h
theorem aPA {x l v} (h:Mt τ env (.nm x l) v):den env x=some v:=by
 cases h with
 | nm a c b=>exact a
theorem aJV {x i n c m a v} (h:Mt τ env (.sl x n c m i a) v):∃ w,den env x=some w/\bS v=bS w:=by
 cases h with
 | sl b e d f=>exact ⟨_,b,by simp [bS]⟩
theorem aHm {q w} (g:den env q=some w):∀ {c vs} j,aEN q j c=true->Mts τ env c vs->eI vs<=eI (w.cells.drop j)/\(c≠[]->j+c.length<=w.cells.length)
 | [],[],j,_,.nil=>by simp [eI]
 | a::c,v::vs,j,h,.cons i l=>by
  simp [aEN] at h;obtain ⟨o,n⟩:=aHm g (j+1) h.2 l;have k:∃ u,den env (.cell q j)=some u/\bS v=bS u:=by
   have d:=h.1;cases a<;>simp at d<;>first | (cases d;done) | skip
   ·subst d;exact ⟨_,aPA i,rfl⟩
   subst d;exact aJV i
  obtain ⟨u,f,e⟩:=k;simp [den,g,bnd] at f;rw [mQ] at f;obtain ⟨m,p⟩:=List.getElem?_eq_some_iff.1 f;rw [List.drop_eq_getElem_cons m];simp [eI];cases c with
  | nil=>grind
  | cons b c=>grind
theorem aEP:∀ l j,eI (l.drop j)<=eI l
 | _,0=>by simp
 | [],j+1=>by simp
 | v::l,j+1=>by have:=aEP l j;simp [eI];omega
theorem bCR {m r v0} (i:den env (.root r)=some v0) (c:m=true->∃ cs,v0 = .agg cs) {a v} (h:bCA m r a=true) (n:Mt τ env a v):bS v<bS v0:=by
 unfold bCA at h;split at h;· obtain ⟨w,f,e⟩:=aJV n;rw [e];exact aK4 i c h f
 ·rename_i q j l a y;rw [Bool.and_eq_true] at h;cases n with
  | agg k =>
   have s:∃ u,den env (.cell q j)=some u:=by
    cases k with
    | cons x _=>exact ⟨_,aPA x⟩
   obtain ⟨u,p⟩:=s;obtain ⟨w,f,_⟩:=aC p;obtain ⟨t,o⟩:=aHm f j h.2 k;have d:=o (by simp);have g:=aK4 i c h.1 f;have b:∃ cs,w = .agg cs:=by
    cases w with
    | agg cs=>simp
    | _=>simp [PV.cells] at d;omega
   obtain ⟨cs,rfl⟩:=b;have:=aEP cs j;simp [PV.cells] at t;simp [bS] at g ⊢;omega
 grind
theorem aDv {d cap} (e:∀ r,r<d->∃ v,den env (.root r)=some v/\bS v<=cap):∀ {x v},aJb d x=true->den env x=some v->bS v<=cap
 | .root r,v,h,a=>by
  simp [aJb] at h;grind
 | .cell p c,v,h,a=>by
  obtain ⟨w,b,a⟩:=aC a;exact Nat.le_trans (aDu a).1 (aDv e (x:=p) h b)
 | .elem p i,v,h,a=>by
  obtain ⟨w,b,a⟩:=aC a;obtain ⟨j,f,a⟩:=aC a;split at a;· exact Nat.le_trans (Nat.le_of_lt (aK3 a)) (aDv e (x:=p) h b)
  grind
 | .lit _ _,_,h,_=>by simp [aJb] at h
 | .txt _,_,h,_=>by simp [aJb] at h
 | .len _,_,h,_=>by simp [aJb] at h
 | .suc _,_,h,_=>by simp [aJb] at h
theorem aSh {q j e a f vs u} (i:den env (.cell q j)=some u) (h:aEN q j (e::a::f)=true) (k:Mts τ env (e::a::f) vs):∃ w,den env q=some w/\bS (.agg vs)<=bS w:=by
 obtain ⟨w,d,_⟩:=aC i;obtain ⟨l,g⟩:=aHm d j h k;have c:=g (by simp);have b:∃ cs,w = .agg cs:=by
  cases w with
  | agg cs=>simp
  | _=>simp [PV.cells] at c;omega
 obtain ⟨cs,rfl⟩:=b;refine ⟨_,d,?_⟩;have:=aEP cs j;simp [PV.cells] at l;simp [bS];omega
theorem bHF {y cap} (t:1<=cap) (p:∀ r,r<y->∃ v,den env (.root r)=some v/\bS v<=cap) {a v} (h:capA y a=true) (f:Mt τ env a v):bS v<=cap:=by
 unfold capA at h;split at h
 ·cases f with
  | nm g k b=>cases k<;>first | exact aDv p h g | (exact t) | simp [isSl] at b
 ·cases f;exact t
 ·cases f;exact t
 ·obtain ⟨w,d,e⟩:=aJV f;rw [e];exact aDv p h d
 ·rename_i q j l a z;rw [Bool.and_eq_true] at h;cases f with
  | agg b =>
   have g:∃ u,den env (.cell q j)=some u:=by
    cases b with
    | cons x _=>exact ⟨_,aPA x⟩
   obtain ⟨u,s⟩:=g;obtain ⟨w,d,k⟩:=aSh s h.2 b;exact Nat.le_trans k (aDv p h.1 d)
 ·rename_i q j n c m i o a z;rw [Bool.and_eq_true] at h;cases f with
  | agg b =>
   have g:∃ u,den env (.cell q j)=some u:=by
    cases b with
    | cons x _=>obtain ⟨w,d,_⟩:=aJV x;grind
   obtain ⟨u,s⟩:=g;obtain ⟨w,d,k⟩:=aSh s h.2 b;exact Nat.le_trans k (aDv p h.1 d)
 grind
theorem aYr {b cap} (d:1<=cap) (c:∀ r,r<b->∃ v,den env (.root r)=some v/\bS v<=cap):∀ {a vs},a.all (capA b)=true->Mts τ env a vs->∀ v,v∈vs->bS v<=cap
 | _,_,_,.nil,v,h=>by grind
 | _,_,h,.cons e f,v,hv=>by
  simp only [List.all_cons,Bool.and_eq_true] at h;rcases List.mem_cons.1 hv with rfl | hv;· exact bHF d c h.1 e
  exact aYr d c h.2 f v hv
theorem bCS {C v0} (f:Me C v0 env) {d c vs} (h:capC C d c=true) (g:Mts τ env c vs):aVv d vs:=by
 unfold capC at h;rw [Bool.or_eq_true] at h;rcases h with h | h;· exact .inl (Nat.eq_of_beq_eq_true h)
 rw [Bool.and_eq_true,Bool.and_eq_true] at h;obtain ⟨⟨b,a⟩,e⟩:=h;have b:=Nat.le_of_ble_eq_true b;have a:=Nat.le_of_ble_eq_true a;exact .inr fun v hv=>Nat.le_trans (aYr b f.cap e g v hv) a
theorem aJW:∀ {es vs env},ElsOk τ es vs->Mts τ (env++vs) (bCz env.length es) vs
 | _,_,_,.nil => .nil
 | _,_,env,.cons (e:=e) (es:=es) (v:=v) (vs:=vs) h a=>by
  have b:env++v::vs=(env++[v])++vs:=by simp
  rw [b];refine .cons ((aPv (show den (env++[v]) (.root env.length)=some v from aKX env v) h).mono vs) ?_;have:=aJW (env:=env++[v]) a;grind
theorem ElsOk.len:∀ {es vs},ElsOk τ es vs->es.length=vs.length
 | _,_,.nil=>rfl
 | _,_,.cons _ a=>by simp [a.len]
theorem bHG {a r} (h : RsOk τ a r) : ∃ l, l.length = a.length /\ Mt τ (env ++ l) (aRes a env.length) r := by
  unfold RsOk at h;unfold aRes;split at h;· exact ⟨[r], rfl, aPv (show den (env ++ [r]) (.root env.length) = some r from aKX env r) h⟩
  obtain ⟨vs, rfl, b⟩ := h;refine ⟨vs, b.len.symm, ?_⟩;first
    | exact .tup (aJW b)
    | (split;· grind
       exact .tup (aJW b))
section
variable {P : Program} {mt : Hints} {nt : Nat} {C : Cfg} {O : Orc} {o : Oper} {A : ASt} {st : St} {K : AK}
theorem FrOk.lefts {a v} (h:FrOk τ env a v) b:∀ (xs:List Operand),FrOk τ env (xs.flatMap (aPm a b)) (xs.flatMap (Go.Ev.left v b))
 | [] => .nil
 | x::xs=>by
  exact (h.left b x).app (FrOk.lefts h b xs)
theorem Mts.opvs {a v} (h:FrOk τ env a v) b:∀ (xs:List Operand),Mts τ env (xs.map (aopv a b)) (xs.map (opv v b))
 | [] => .nil
 | x::xs => .cons (.opv h b x) (Mts.opvs h b xs)
theorem bEY {b vs} (h:Mts τ env b vs) {i a} (c:nth b i=some a):∃ v,nth vs i=some v/\Mt τ env a v:=h.nth c
theorem bEZ {c v0} (hH:Hyp C O v0) (hme:Me C v0 env) (d:Good C.τ env A st) (ho:o.op = .call c) (h:aOp P mt nt C o A K=true):qZ P mt nt O C.τ env o A st K:=by
 simp only [aOp,ho] at h;have M:aT P mt nt O o st some=jL P mt nt O o c st some:=by simp only [aT,ho]
 unfold bIT at h;split at h
 ·rename_i g U;have N:=Mts.opvs d.fr (hasO mt.takes o.dst) c.args.toList;simp only at h;split at h;· simp at h
  ·rename_i D;simp only [Bool.and_eq_true,Bool.not_eq_true',Option.isNone_iff_eq_none] at D;obtain ⟨⟨⟨⟨c1,c2⟩,c3⟩,c4⟩,c5⟩:=D;have L:∀ {sm:Summ} {r},O g (c.args.toList.map (opv st.fr (hasO mt.takes o.dst))) []=some (r,[])->RsOk C.τ sm.outs r ->
     K {ws:=adst nt o.dst (aRes sm.outs A.nx)++c.args.toList.flatMap (aPm A.fr (hasO mt.takes o.dst))} A.fs (A.nx+sm.outs.length)=true->qZ P mt nt O C.τ env o A st K:=by
    intro sm r hr Z hk;obtain ⟨l,S,H⟩:=bHG (env:=env) Z;have Y:=aKZ N c5;refine aEn d l (ws:=dstW nt o.dst r++c.args.toList.flatMap (left st.fr (hasO mt.takes o.dst))) ?_ ((FrOk.dst (by rw [d.nx];exact H) nt o.dst).app ((d.fr.lefts _ _).mono l)) (fun f I=>(d.fs f I).mono l) (by rw [d.nx];simp [S]) hk;rw [M];unfold jL;rw [U];simp only [opd,List.nil_append,List.append_nil,c1,c2,c3,c4,aQ,Y,cnd,hr,bnd]
   split at h
   ·rename_i f sm R;split at h;· rename_i j;rw [Bool.and_eq_true] at j;have F:=List.mem_of_find?_eq_some R;have hp:=List.find?_some R;have:=Nat.eq_of_beq_eq_true hp;simp only at this;subst this;obtain ⟨r,hr,Z⟩:=hH.sums _ _ F _ (aCh d.fs j.1 N) (bCS hme j.2 N);exact by grind
    ·simp at h
   ·split at h
    ·rename_i f sm k R;split at h
     ·rename_i j;rw [Bool.and_eq_true,Bool.and_eq_true] at j;have F:=List.mem_of_find?_eq_some R;have hp:=List.find?_some R;have:=Nat.eq_of_beq_eq_true hp;simp only at this;subst this;have J:=j.2;split at J
      ·rename_i a V;obtain ⟨v,hv,H⟩:=bEY N V;have hne:C.recs≠[]:=by intro e;rw [e] at F;simp at F
       obtain ⟨r,hr,Z⟩:=hH.recs _ _ _ F _ v (aCh d.fs j.1.1 N) (bCS hme j.1.2 N) hv (bCR (hme.me hne) (hH.ag hne) J H);exact by grind
      ·simp at J
     ·simp at h
    ·simp at h
 ·rename_i U;split at h
  ·rename_i x t hx ht;have H:=Mt.opd d.fr x;dsimp only at h;split at h
   ·rename_i y hu V;rw [V] at H;obtain ⟨s,hs,Q,S⟩:=H.str;refine aEn d [] (ws:=dstW nt o.dst (.int .i64 s.length)) ?_ (.dst (.nm ?_ (.int _ _) rfl) nt o.dst) ?_ (by simpa using d.nx) h;· rw [M];unfold jL;simp only [U,hx,ht,hu,hs,len,lenN,bnd]
    ·simp [List.append_nil,den,Q,bnd,lenOf]
    intro f I;simp [List.append_nil];rcases List.mem_cons.1 I with rfl | I;· exact ⟨.i64,s.length,.i64,topL,by simp [den,Q,bnd,lenOf],rfl,by simp [CO.ev];exact S⟩
    exact d.fs f I
   ·rename_i e y w c' m i own hu V;rw [V] at H;generalize W:opd st.fr x=xv at H;cases H with
    | sl Q X hi S =>
     rename_i es o1 k' z';refine aEn d [] (ws:=dstW nt o.dst (.int .i64 es.length)) ?_ (.dst (.nm ?_ (.int _ _) rfl) nt o.dst) ?_ (by simpa using d.nx) h;· rw [M];unfold jL;simp [U,hx,ht,hu,W,len,lenN,bnd]
     ·simp [List.append_nil,den,Q,bnd,lenOf]
     intro f I;simp [List.append_nil];split at I
     ·rcases List.mem_cons.1 I with rfl | I;· exact ⟨.i64,es.length,.i64,c',by simp [den,Q,bnd,lenOf],rfl,by simp [CO.ev];omega⟩
      exact d.fs f I
     ·rename_i kk z _;rcases List.mem_cons.1 I with rfl | I;· have:=aCi hi;subst this;exact ⟨.i64,es.length,.i64,_,by simp [den,Q,bnd,lenOf],rfl,by simp only [CO.ev];symm;rw [decide_eq_true_eq];exact_mod_cast S⟩
      exact d.fs f I
     exact d.fs f I
   ·rename_i e own hu V;rw [V] at H;generalize W:opd st.fr x=xv at H;cases H with
    | nil _ =>
     exact pN d (v := .int .i64 0) (by rw [M];unfold jL;simp only [U,hx,ht,hu,W,len,lenN,bnd,List.length_nil];rfl) (.nm rfl (.int _ _) rfl) h
   ·simp at h
  ·simp at h
 ·rename_i U;split at h
  ·rename_i x y t u hx ht;split at h
   ·rename_i e e' hu1 hu2;split at h
    ·rename_i i hi;split at h
     ·rename_i D;obtain ⟨c1,c2,c3,c4⟩:=D;rw [Option.isNone_iff_eq_none] at c4;dsimp at h;split at h
      ·rename_i v nx b;have E:=Mt.opd d.fr x;have B:=Mt.opd d.fr y;have L:∀ {r} l,apd i.size (opd st.fr x) (opd st.fr y)=some r->Mt C.τ (env++l) v r->nx=(env++l).length->qZ P mt nt O C.τ env o A st K:=by
        intro r l hr H hn;refine aEn d l (ws:=dstW nt o.dst r++left st.fr true x) ?_ ((FrOk.dst H nt o.dst).app ((d.fr.left true x).mono l)) (fun f I=>(d.fs f I).mono l) hn h;rw [M];unfold jL;simp [U,hx,ht,hu1,hu2,hi,c1,c2,c3,c4,and_self,if_true,hr,bnd]
       unfold aapd at b;generalize hxa:aopd A.fr x=xa at b E;generalize hya:aopd A.fr y=ya at b B;generalize W:opd st.fr x=xv at E L;generalize hyv:opd st.fr y=yv at B L;split at b
       ·cases b;cases E with
        | nil _ =>
         cases B with
         | nil _ =>
          refine L [] (r := .slice [] [] true) ?_ (.nil true) (by simpa using d.nx);simp [apd,szOk]
       ·split at b
        ·rename_i k hk;split at b
         ·rename_i S;cases b;cases E with
          | nil _ =>
           cases B with
           | sl Q X G T =>
            rename_i es o1 k' z';have h3:=aPq hk d.fs G;refine L [] (r := .slice es [] true) ?_ (by simpa using Mt.sl Q X G T) (by simpa using d.nx);simp only [apd,List.nil_append,List.length_nil];rw [if_pos ⟨by omega,rfl,aPw X S.2⟩]
         simp at b
        simp at b
       ·split at b
        ·rename_i k hk;split at b
         ·rename_i S;cases b;cases B with
          | nil _ =>
           cases E with
           | sl Q X G T =>
            rename_i es o1 k' z';have h3:=aPq hk d.fs G;refine L [] (r := .slice es [] true) ?_ (by simpa using Mt.sl Q X G T) (by simpa using d.nx);simp only [apd,List.append_nil,List.length_nil];rw [if_pos ⟨by omega,aPw X S.2,rfl⟩]
         simp at b
        simp at b
       ·split at b
        ·rename_i k hk;split at b
         ·rename_i S;obtain ⟨l1,l2,l3,l4⟩:=S;subst l3 l4;cases b;cases E with
          | sl Q X G T =>
           rename_i es o1 k' z';cases B with
           | sl hd' he' hii' hle' =>
            rename_i es' o3 k'' z'';have h3:=aPq hk d.fs G;refine L [.slice (es++es') [] true] (r := .slice (es++es') [] true) ?_ ?_ (by simp [d.nx]);· simp only [apd];rw [if_pos ⟨by omega,aPw X l2,aPw he' l2⟩]
            refine .sl (aK2 d _) ?_ (fS _ G) ?_
            ·intro a V;rcases List.mem_append.1 V with h | h;· exact X a h
             exact he' a h
            simp;omega
         simp at b
        simp at b
       simp at b
      simp at h
     simp at h
    simp at h
   simp at h
  simp at h
 ·rename_i U;split at h
  ·rename_i x y hx;have E:=Mt.opd d.fr x;have B:=Mt.opd d.fr y;dsimp at h;split at h;· rename_i p k q k' hp hq;rw [hp] at E;rw [hq] at B;obtain ⟨n,hn,_⟩:=E.int;obtain ⟨m,H,_⟩:=B.int;exact aK1 d (v := .int k (if m>n then m else n)) (by rw [M];unfold jL;simp [U,hx,hn,H,mx,bnd]) (Mt.newInt d _ _) h
   simp at h
  simp at h
 ·simp at h
theorem bGW {v0} (r:Hyp C O v0) (j:Me C v0 env) (e:Good C.τ env A st) (h:aOp P mt nt C o A K=true):qZ P mt nt O C.τ env o A st K:=by
 cases g:o.op with
 | move x =>
  simp [aOp,g] at h;exact aPt e (by simp [aT,g]) ((FrOk.dst (Mt.opv e.fr _ x) nt o.dst).app (e.fr.left _ x)) h
 | assign x =>
  simp [aOp,g] at h;exact aPt e (by simp [aT,g]) ((FrOk.dst (Mt.opv e.fr _ x) nt o.dst).app (e.fr.left _ x)) h
 | pick c a b=>exact bEW e g h
 | alloc t=>exact bCL e g h
 | box t x=>exact bHB e g h
 | build t ps=>exact bCM e g h
 | buildSlice t n ps=>exact aMQ e g h
 | load t p=>exact bEX e g h
 | store t p x=>exact bCN e g h
 | nilCheck x=>exact aSf e g h
 | binOp q t x y u=>exact bHE e g h
 | unOp q t x=>exact bIW e g h
 | convert s d x=>exact aVs e g h
 | fieldAddr s x f=>exact aPx e g h
 | indexAddr t x i=>exact aPy e g h
 | index t x i=>exact bCP e g h
 | slice t x l k m =>
  cases l<;>cases k<;>cases m<;>first | exact bCQ e g h | (simp [aOp,g] at h)
 | extract x i=>exact aVt e g h
 | call c=>exact bEZ r j e g h
 | _=>simp [aOp,g] at h
end
section
variable {P : Program} {mt : Hints} {nt : Nat} {C : Cfg} {O : Orc} {env : List PV}
theorem aHn {τ} {e}:∀ n {o A st K},aDs e n o A K=true->Good τ env A st ->
  ∃ b d p,(∀ {R} (i:Bool->St->Option R),kW e n o st i=i b d)/\Good τ env p d/\K b p=true
 | 0,_,_,_,_,h,_=>by simp [aDs] at h
 | n+1,o,A,st,K,h,m=>by
  simp [aDs] at h;split at h;· rename_i j;exact ⟨true,st,A,fun i=>by simp [kW,j],m,h⟩
  rename_i g f j;split at h
  ·rename_i q r;split at h
   ·rename_i s y;obtain ⟨w,c,B,u,a,k⟩:=aHn n h m;cases w with
    | true =>
     obtain ⟨b,fs,hv,v,x⟩:=bCJ k (a.fr.get s) a.fs;refine ⟨b==f,{c with fr:=(s,.bool b)::c.fr},_,fun i => ?_,?_,v⟩;· simp [kW,j,r,y];rw [u];simp only [hv];cases b<;>rfl
     exact ⟨.cons (.cn rfl) a.fr,a.bx,x,a.nx⟩
    | false =>
     simp at k;split at k;· rename_i z;have l:=a.fr.get s;rw [z] at l;generalize t:gets c.fr s=C at l;cases l;simp [kW];grind
     grind
   grind
  grind
theorem Good.und {τ} {A st} (a:Good τ env A st) nt d:Good τ env {A with fr:=adst nt d .und++A.fr} {st with fr:=dstW nt d .und++st.fr} :=
 ⟨(FrOk.dst .und nt d).app a.fr,a.bx,a.fs,a.nx⟩
theorem Me.mono {v0} (h:Me C v0 env) l:Me C v0 (env++l) :=
 ⟨fun a=>fS l (h.me a),fun r a=>by obtain ⟨v,hv,b⟩:=h.cap r a;exact ⟨v,fS l hv,b⟩⟩
theorem bCT {v0} (j:Hyp C O v0) {d}:∀ a {env A st K},Me C v0 env->aOps P mt nt C d a A K=true->Good C.τ env A st ->
  ∃ c r l,(∀ {R} (f:St->Option R),mK P mt nt O d a st f=f c)/\Good C.τ (env++l) r c/\K r=true
 | [],env,A,st,K,_,h,p=>⟨st,A,[],fun f=>rfl,by grind,h⟩
 | o::a,env,A,st,K,m,h,p=>by
  obtain ⟨b,w,D,x,i,t⟩:=aHn _ h p;cases b with
  | true =>
   obtain ⟨e,B,fs,E,l,z,n,_,_,y⟩:=bGW j m i t;obtain ⟨g,q,v,s,k,u⟩:=bCT j a (m.mono l) y n;refine ⟨g,q,l++v,fun f => ?_,by grind,u⟩;simp [mK];rw [x];rw [gU,z];exact s f
  | false =>
   obtain ⟨g,q,v,s,k,u⟩:=bCT j a m t (i.und nt o.dst);simp [mK];grind
theorem aVw {v0} (n:Hyp C O v0) {g}:∀ d i a {env A st K},Me C v0 env->bEU P mt nt C g i d a A K=true->Good C.τ env A st ->
  ∃ c f u l,(∀ {R} (m:List (Nat×Foot)->St->Option R),cW P mt nt O g i d a st m=m c f)/\Good C.τ (env++l) u f/\K c u=true
 | [],i,a,env,A,st,K,_,h,s=>⟨a,st,A,[],fun m=>rfl,by grind,h⟩
 | o::d,i,a,env,A,st,K,q,h,s=>by
  obtain ⟨b,B,J,D,k,w⟩:=aHn _ h s;cases b with
  | true =>
   obtain ⟨e,H,fs,L,l,F,r,I,G,E⟩:=bGW n q k w;obtain ⟨v,j,t,y,z,p,x⟩:=aVw n d (i+1) _ (q.mono l) E r;refine ⟨v,j,t,l++y,fun m => ?_,by grind,x⟩;simp [cW];rw [D];rw [gU,F];simp [bnd];grind
  | false =>
   obtain ⟨v,j,t,y,z,p,x⟩:=aVw n d (i+1) a q w (k.und nt o.dst);simp [cW];grind
variable {τ : Tb}
theorem aYs:∀ {a b},BxOk τ env a b->aOs a=b.map fun x=>(x.1,x.2.length)
 | _,_,.nil=>rfl
 | _,_,.cons h c=>by
  have:=aYs c;simp [aOs] at this;simp [aOs,this,h.len]
theorem bCU {a b} (h:BxOk τ env a b):∀ {sh r},aZ3 a sh=some r->Mts τ env r (flat b sh)/\kX sh b=true
 | [],r,e=>by cases e;exact ⟨.nil,rfl⟩
 | (i,n)::sh,r,e=>by
  simp [aZ3] at e;split at e
  ·rename_i cs o k j;split at e
   ·rename_i l;cases e;obtain ⟨f,g⟩:=bCU h j;obtain ⟨y,m,c⟩:=h.get k;have d:y.length=n:=by rw [<- c.len,l]
    refine ⟨?_,?_⟩;· simp [flat,m];refine Mts.app ?_ f;rw [<- d,aYl];exact c
    unfold kX at g ⊢;grind
   grind
  grind
theorem bCV:∀ {a b} (sh:List (Nat×Nat)),BxOk τ env a b->(a.all fun x=>sh.any fun y=>y.1==x.1)=(b.all fun x=>sh.any fun y=>y.1==x.1)
 | _,_,sh,.nil=>rfl
 | _,_,sh,.cons h c=>by simp [bCV sh c]
theorem bCW {sh a v} (h:aHj sh a=true) (d:Mt τ env a v):inside sh v=true:=by
 cases d with
 | ptr id off=>exact h
 | agg b=>exact aKY b h
 | ref=>rfl
 | nm e c b=>cases c<;>first | rfl | simp at b
 | sl=>rfl
 | cn=>rfl
 | nil=>rfl
 | any=>simp [aHj,AV.isNm] at h
 | und=>simp [aHj,AV.isNm] at h
 | tup=>simp [aHj,AV.isNm] at h
theorem aOv {sh}:∀ {a vs},a.all (aHj sh)=true->Mts τ env a vs->vs.all (inside sh)=true
 | _,_,_,.nil=>rfl
 | _,_,h,.cons b c=>by
  simp only [List.all_cons,Bool.and_eq_true] at h ⊢;exact ⟨bCW h.1 b,aOv h.2 c⟩
theorem aYt {a b} (h:FrOk τ env a b):∀ (kp:List Nat),Mts τ env (kp.map (aGl a)) (kp.map (gets b))
 | [] => .nil
 | i::kp => .cons (h.get i) (aYt h kp)
theorem bCX {kp sh A st s} (h:aZ4 kp sh A=some s) (g:Good τ env A st):∃ vs,(∀ {R} (d:List PV->UP->Option R),pack kp sh st d=d vs [])/\Mts τ env s vs:=by
 obtain ⟨b,f,c⟩:=g.bx;unfold aZ4 at h;split at h
 ·rename_i r k;obtain ⟨m,i⟩:=bCU c k;have a:Mts τ env (kp.map (aGl A.fr)++r) (qH kp sh st):=by
   unfold qH;rw [f];exact (aYt g.fr kp).app m
  have j:=bCV sh c;dsimp at h;split at h;· rename_i e;cases h;refine ⟨qH kp sh st,fun d => ?_,a⟩;unfold pack;rw [f];simp [sH,kF,i,<- j,e]
  rename_i e;split at h;· rename_i l;cases h;refine ⟨qH kp sh st,fun d => ?_,a⟩;unfold pack;rw [f];simp [sH,kF,i,<- j,e,aOv l a,cnd]
  grind
 grind
theorem aVx:∀ {kp b vs} pre,Mts τ env b vs->b.length=kp.length->FrOk τ env (azip kp b) (mL (pre++vs) pre.length kp)
 | [],_,_,pre,h,d=>by
  cases h with
  | nil=>exact .nil
  | cons=>grind
 | i::kp,_,_,pre,h,d=>by
  cases h with
  | nil=>grind
  | cons h c =>
   rename_i a b v vs;simp [mL];have e:gt (pre++v::vs) pre.length=v:=by rw [aED];simp
   rw [e];refine .cons h ?_;have:=aVx (kp:=kp) (pre++[v]) c (by grind);grind
theorem bCY s t:∀ kp k,k+kp.length<=s.length->mL (s++t) k kp=mL s k kp
 | [],_,_=>rfl
 | i::kp,k,h=>by
  simp at h;simp [mL,bCY s t kp (k+1) (by omega)];have:gt (s++t) k=gt s k:=by rw [aED,aED,List.getElem?_append_left (by omega)]
  grind
theorem aSi:∀ {sh a vs} pre,Mts τ env a vs->a.length=(sh.map (·.2)).sum->BxOk τ env (aVn a sh) (aN3 (pre++vs) pre.length sh)
 | [],_,_,pre,h,c => .nil
 | (i,n)::sh,a,vs,pre,h,c=>by
  have b:=h.len;refine .cons ?_ ?_
  ·have e:(List.range n).map (fun j=>gt (pre++vs) (pre.length+j))=vs.take n:=by
    apply List.ext_getElem;· grind
    simp [aED];grind
   rw [e];exact h.take n
  have:=aSi (sh:=sh) (pre++vs.take n) (h.drop n) (by grind);simp_all
theorem aSj {a}:∀ {sh r},aZ3 a sh=some r->r.length=(sh.map (·.2)).sum
 | [],r,e=>by cases e;rfl
 | (i,n)::sh,r,e=>by
  simp [aZ3] at e;split at e
  ·rename_i cs d f b;split at e;· rename_i c;cases e;simp [aSj b,c]
   grind
  grind
theorem bE0 {kp sh A s} (h:aZ4 kp sh A=some s):s.length=kp.length+(sh.map (·.2)).sum:=by
 unfold aZ4 at h;split at h;· rename_i r a;have:=aSj a;grind
 grind
theorem aSk {kp sh s vs fs a} (h:Mts τ env s vs) (g:s.length=kp.length+(sh.map (·.2)).sum) (c:∀ f,f∈fs->eQ env f) (d:a=env.length) :
  Good τ env (aVo kp sh s fs a) (cU kp sh vs []):=by
 have b:=h.len;refine ⟨?_,⟨_,rfl,?_⟩,c,d⟩
 ·have:=aVx (kp:=kp) [] (h.take kp.length) (by grind);show FrOk τ env (azip kp (s.take kp.length)) (mL vs 0 kp);have e:mL vs 0 kp=mL (vs.take kp.length) 0 kp:=by
   have:=bCY (vs.take kp.length) (vs.drop kp.length) kp 0 (by grind);simp_all
  grind
 have:=aSi (sh:=sh) (vs.take kp.length) (h.drop kp.length) (by grind);rw [List.take_append_drop] at this;have e:(vs.take kp.length).length=kp.length:=by grind
 rw [e] at this;exact this
end
variable {τ : Tb} {env l : List PV}
mutual
theorem bCZ:∀ {a b:AV},AV.beq a b=true->a=b
 | .any,b,h=>by cases b<;>first | rfl | simp [AV.beq] at h
 | .und,b,h=>by cases b<;>first | rfl | simp [AV.beq] at h
 | .nm x l,b,h=>by
  cases b<;>simp [AV.beq] at h;grind
 | .sl x n c m i o,b,h=>by
  cases b<;>simp [AV.beq] at h;simp_all
 | .cn c,b,h=>by
  cases b<;>simp [AV.beq] at h;rw [h]
 | .nil o,b,h=>by
  cases b<;>simp [AV.beq] at h;rw [h]
 | .agg a,b,h=>by
  cases b<;>simp [AV.beq] at h;rw [aVy h]
 | .tup a,b,h=>by
  cases b<;>simp [AV.beq] at h;rw [aVy h]
 | .ref a,b,h=>by
  cases b<;>simp [AV.beq] at h;rw [bCZ h]
 | .ptr i o,b,h=>by
  cases b<;>simp [AV.beq] at h;simp_all
theorem aVy:∀ {a b:List AV},AV.beqs a b=true->a=b
 | [],[],_=>rfl
 | [],_::_,h=>by simp [AV.beqs] at h
 | _::_,[],h=>by simp [AV.beqs] at h
 | a::e,b::d,h=>by
  simp only [AV.beqs,Bool.and_eq_true] at h;rw [bCZ h.1,aVy h.2]
end
theorem CnOk.back:∀ {c b b'},CnOk env c b->CnOk (env++l) c b'->CnOk env c b'
 | .k _,_,_,_,h=>h
 | .cmp o x y,b,b',⟨k,n,k',m,d,a,i⟩,⟨q,j,g,p,g1,g2,e⟩=>by
  rw [fS l d] at g1;rw [fS l a] at g2;cases g1;cases g2;exact ⟨_,_,_,_,d,a,e⟩
 | .not c,b,b',h,f=>CnOk.back (c:=c) (b := !b) (b' := !b') h f
 | .unk,_,_,_,_=>trivial
mutual
theorem Mt.back:∀ {a:AV} {v w:PV},Mt τ env a v->Mt τ (env++l) a w->Mt τ env a w
 | _,_,w,.any v,h => .any _
 | _,_,w,.und,h=>by cases h;exact .und
 | _,_,w,.nm f q d,h=>by
  cases h with
  | nm c g b =>
   rw [fS l f] at c;cases c;exact .nm f q d
 | _,_,w,.sl f t p q,h=>by
  cases h with
  | sl c m e g =>
   rw [fS l f] at c;rw [fS l p] at e;cases c;cases e;exact .sl f m p g
 | _,_,w,.cn r,h=>by
  cases h with
  | cn j=>exact .cn (r.back j)
 | _,_,w,.nil o,h=>by
  cases h;exact .nil o
 | _,_,w,.agg d,h=>by
  cases h with
  | agg b=>exact .agg (d.back b)
 | _,_,w,.tup d,h=>by
  cases h with
  | tup b=>exact .tup (d.back b)
 | _,_,w,.ref hv,h=>by
  cases h with
  | ref k=>exact .ref (hv.back k)
 | _,_,w,.ptr i o,h=>by cases h;exact .ptr i o
theorem Mts.back:∀ {a:List AV} {v w:List PV},Mts τ env a v->Mts τ (env++l) a w->Mts τ env a w
 | _,_,w,.nil,h=>by cases h;exact .nil
 | _,_,w,.cons s d,h=>by
  cases h with
  | cons n b=>exact .cons (s.back n) (d.back b)
end
def pick:List HV->List PV->List PV
 | .same::hs,_::ws=>pick hs ws
 | .any::hs,_::ws=>pick hs ws
 | _::hs,w::ws=>w::pick hs ws
 | _,_=>[]
theorem aVz {α}:∀ (a b:List α) j,nth (a++b) (a.length+j)=nth b j
 | [],b,j=>by simp
 | x::a,b,j=>by
  rw [show (x::a).length+j=(a.length+j)+1 by grind];exact aVz a b j
theorem aAb:∀ {hv f k g ws},aIF hv f k=some g->ws.length=hv.length->∃ j,g=f+j/\nth (pick hv ws) j=nth ws k
 | [],f,0,g,ws,h,_=>by simp [aIF] at h
 | [],f,k+1,g,ws,h,_=>by simp [aIF] at h
 | hv::e,f,0,g,ws,h,m=>by
  cases ws with
  | nil=>grind
  | cons w ws =>
   cases hv<;>simp [aIF] at h;subst h;exact ⟨0,rfl,rfl⟩
 | hv::e,f,k+1,g,ws,h,m=>by
  cases ws with
  | nil=>grind
  | cons w ws =>
   have d:ws.length=e.length:=by grind
   cases hv with
   | same=>exact aAb (hv:=e) h d
   | any=>exact aAb (hv:=e) h d
   | lf x =>
    obtain ⟨j,l,i⟩:=aAb (hv:=e) (ws:=ws) h d;exact ⟨j+1,by omega,i⟩
   | el x =>
    obtain ⟨j,l,i⟩:=aAb (hv:=e) (ws:=ws) h d;exact ⟨j+1,by omega,i⟩
   | acc a b c =>
    obtain ⟨j,l,i⟩:=aAb (hv:=e) (ws:=ws) h d;exact ⟨j+1,by omega,i⟩
theorem aGo {fs cx cx' k k' z z' E l' lE} (hf:∀ f,f∈fs->eQ (env++l') f) (hE:E=env++lE) (hz:den E cx=some (.int k z)) (hz':den (env++l') cx'=some (.int k' z')) (hzz:z'<=z)
  (hsuc:∀ i',cx' = .suc i'->∀ k zi,den (env++l') i'=some (.int k zi)->z'=zi+1/\0<=zi) :
  ∀ {hv s s2 s1 vs ws nx nx1},aBC cx hv s nx=some (s1,nx1)->xI fs cx' hv s s2=true->Mts τ env s vs->Mts τ (env++l') s2 ws->(∀ j,nth E (nx+j)=nth (pick hv ws) j) ->
   Mts τ E s1 ws/\nx1=nx+(pick hv ws).length/\ws.length=hv.length
 | [],[],s2,s1,vs,ws,nx,nx1,h,hfit,hs,hs2,hn=>by
  cases s2 with
  | nil=>cases hs2;cases h;exact ⟨.nil,rfl,rfl⟩
  | cons=>simp [xI] at hfit
 | [],_::_,s2,s1,vs,ws,nx,nx1,h,hfit,hs,hs2,hn=>by simp [aBC] at h
 | _::_,[],s2,s1,vs,ws,nx,nx1,h,hfit,hs,hs2,hn=>by simp [aBC] at h
 | hv::hvs,a::s,s2,s1,vs,ws,nx,nx1,h,hfit,hs,hs2,hn=>by
  cases s2 with
  | nil=>simp [xI] at hfit
  | cons b s2 =>
   simp [xI] at hfit;obtain ⟨f1,f2⟩:=hfit;cases hs with
   | cons ha hs =>
    cases hs2 with
    | cons hb hs2 =>
     rename_i v vs w ws
     -- a place with no new name
     have old:∀ {x},(match aBC cx hvs s (nx+0) with | some (r,nx)=>some (x::r,nx) | none=>none)=some (s1,nx1)->Mt τ E x w->pick (hv::hvs) (w::ws)=pick hvs ws->Mts τ E s1 (w::ws)/\nx1=nx+(pick (hv::hvs) (w::ws)).length/\(w::ws).length=(hv::hvs).length:=by
      intro x h hx hp;split at h;· rename_i r nx2 hr;cases h;obtain ⟨g1,g2,g3⟩:=aGo hf hE hz hz' hzz hsuc hr f2 hs hs2 (by intro j;rw [<- hp];exact hn j);exact ⟨.cons hx g1,by rw [hp];exact g2,by simp [g3]⟩
      simp at h
     have new:∀ {x},(match aBC cx hvs s (nx+1) with | some (r,nx)=>some (x::r,nx) | none=>none)=some (s1,nx1)->Mt τ E x w->pick (hv::hvs) (w::ws)=w::pick hvs ws->Mts τ E s1 (w::ws)/\nx1=nx+(pick (hv::hvs) (w::ws)).length/\(w::ws).length=(hv::hvs).length:=by
      intro x h hx hp;split at h
      ·rename_i r nx2 hr;cases h;obtain ⟨g1,g2,g3⟩:=aGo hf hE hz hz' hzz hsuc hr f2 hs hs2 (by
        intro j;have:=hn (j+1);rw [hp] at this;rw [show nx+1+j=nx+(j+1) by omega,this];rfl)
       exact ⟨.cons hx g1,by rw [hp];simp;omega,by simp [g3]⟩
      simp at h
     have named:pick (hv::hvs) (w::ws)=w::pick hvs ws->den E (.root nx)=some w:=by
      intro hp;have:=hn 0;rw [hp] at this;exact this
     cases hv with
     | same =>
      have:=bCZ f1;subst this;exact old h (by rw [hE];exact (ha.back hb).mono lE) rfl
     | any=>exact old h (.any w) rfl
     | lf x=>exact new h (aVr (named rfl) (aJU hf f1 hb)) rfl
     | el x=>exact new h (aPv (named rfl) (aPu hf f1 hb)) rfl
     | acc n c m =>
      refine new h ?_ rfl;have hnm:=named rfl;simp [bIU] at f1;split at f1
      ·rename_i x n' c' m' i' own;simp only [Bool.and_eq_true] at f1;obtain ⟨⟨f1,f3⟩,f4⟩:=f1;have:=Nat.eq_of_beq_eq_true f1;subst this;subst f3;cases hb with
       | sl hd he hi hl =>
        rename_i es o kk zi;refine .sl hnm he hz ?_;have hmul:∀ {p q},p<=q->m*p<=m*q:=fun h=>Nat.mul_le_mul_left m h;split at f4;· rw [decide_eq_true_eq] at f4;have:=aCi hi;subst this;omega
        simp only [Bool.or_eq_true,Bool.and_eq_true,decide_eq_true_eq] at f4;rcases f4 with ⟨⟨e1,e2⟩,e3⟩ | ⟨⟨e1,e2⟩,e3⟩;· have:=Nat.eq_of_beq_eq_true e2;subst this;have e3:=Nat.le_of_ble_eq_true e3;obtain ⟨g1,g2⟩:=hsuc _ e1.symm _ _ hi;have g3:=hmul (p:=zi.toNat+1) (q:=z.toNat) (by omega);rw [Nat.mul_add,Nat.mul_one] at g3;omega
        have:=Nat.eq_of_beq_eq_true e2;subst this;have e3:=Nat.le_of_ble_eq_true e3;subst e1;rw [hi] at hz';cases hz';have g3:=hmul (p:=z'.toNat) (q:=z.toNat) (by omega);omega
      ·subst f1;cases hb with
       | nil _=>exact .sl hnm (by simp) hz (by simp)
      simp at f1
theorem aPB {R e} (K:Ex->Option R):∀ {l},aZ5 l e=true->vG e K l=K e/\∃ w,w∈l/\exOf w=e
 | [],h=>by simp [aZ5] at h
 | w::l,h=>by
  have key:(exOf w=e/\∀ y,exIs e w (K (exOf w)) y=K e)∨((∀ y,exIs e w (K (exOf w)) y=y)/\aZ5 l e=true):=by
   unfold aZ5 at h;rw [List.any_cons,Bool.or_eq_true] at h;cases e with
   | nrm =>
    grind
   | ret =>
    cases w with
    | none=>left;exact ⟨rfl,fun y=>rfl⟩
    | some j =>
     right;rcases h with h | h;· grind
     exact ⟨fun y=>rfl,h⟩
   | brk i =>
    cases w with
    | none =>
     right;rcases h with h | h;· grind
     exact ⟨fun y=>rfl,h⟩
    | some j =>
     by_cases a:i=j;· subst a;left;exact ⟨rfl,fun y=>by simp [exIs,exOf]⟩
     right;rcases h with h | h;· simp_all
     exact ⟨fun y=>by simp [exIs,a],h⟩
  rcases key with ⟨c,b⟩ | ⟨c,b⟩;· exact ⟨b _,w,by simp,c⟩
  obtain ⟨g1,w',g2,d⟩:=aPB K b;exact ⟨by simp [vG];grind,w',by grind,d⟩
section
variable {P : Program} {mt : Hints} {nt : Nat} {C : Cfg} {O : Orc}
theorem bC0 {τ} {env c b a st} (h:FrOk τ env a st.fr):FrOk τ env (aAG.acond c b a) (aBP c b st).fr:=by
 cases c with
 | tmp t=>exact .cons (.cn rfl) h
 | const _=>exact h
 | global _=>exact h
 | func _=>exact h
theorem aYu {c b st}:(aBP c b st).bx=st.bx:=by cases c<;>rfl
def bHH (P:Program) (mt:Hints) (nt:Nat) (C:Cfg) (O:Orc) (env:List PV) (c:Code) (st:St) (K:Ex->ASt->Bool):Prop :=
 ∃ e st' A' l,(∀ {R} (KK:Ex->St->Option R),aU P mt nt O aG c st KK=KK e st')/\Good C.τ (env++l) A' st'/\K e A'=true
theorem aCj {v0} (hH:Hyp C O v0):∀ c {env A st K},Me C v0 env->aAG P mt nt C c A K=true->Good C.τ env A st->bHH P mt nt C O env c st K
 | .skip,env,A,st,K,hM,h,hG=>⟨.nrm,st,A,[],fun KK=>rfl,by simpa using hG,h⟩
 | .label _,env,A,st,K,hM,h,hG=>⟨.nrm,st,A,[],fun KK=>rfl,by simpa using hG,h⟩
 | .exit id,env,A,st,K,hM,h,hG=>⟨.brk id,st,A,[],fun KK=>rfl,by simpa using hG,h⟩
 | .ret,env,A,st,K,hM,h,hG=>⟨.ret,st,A,[],fun KK=>rfl,by simpa using hG,h⟩
 | .region rid ops o,env,A,st,K,hM,h,hG=>by
  simp only [aAG] at h;split at h;· simp at h
  ·rename_i hfr;cases o with
   | false =>
    obtain ⟨st',A',l,h1,h2,h3⟩:=bCT hH ops.toList hM h hG;exact ⟨.nrm,st',A',l,fun KK=>by simp only [aU,aF0,hfr];exact h1 _,h2,h3⟩
   | true =>
    simp only at h;split at h
    ·rename_i hs;obtain ⟨lg,st',A',l,h1,h2,h3⟩:=aVw hH ops.toList 0 [] hM h hG;split at h3;· rename_i V;refine ⟨.nrm,st',A',l,fun KK => ?_,h2,h3⟩;simp only [aU,aF0,hfr,hs];rw [h1];simp only [V]
     ·simp at h3
    ·simp at h
 | .seq a b,env,A,st,K,hM,h,hG=>by
  simp only [aAG] at h;obtain ⟨e,st',A',l,h1,h2,h3⟩:=aCj hH a hM h hG;cases e with
  | nrm =>
   obtain ⟨e2,st2,A2,p,g1,g2,g3⟩:=aCj hH b (hM.mono l) h3 h2;exact ⟨e2,st2,A2,l++p,fun KK=>by simp only [aU];rw [h1];exact g1 KK,by simpa using g2,g3⟩
  | brk i=>exact ⟨.brk i,st',A',l,fun KK=>by simp only [aU];rw [h1],h2,h3⟩
  | ret=>exact ⟨.ret,st',A',l,fun KK=>by simp only [aU];rw [h1],h2,h3⟩
 | .cond c a b,env,A,st,K,hM,h,hG=>by
  simp only [aAG] at h;obtain ⟨t,fs,hv,hk,hf⟩:=bCJ h (Mt.opd hG.fr c) hG.fs;cases t with
  | true =>
   obtain ⟨e2,st2,A2,p,g1,g2,g3⟩:=aCj hH a (st:=aBP c true st) hM hk ⟨bC0 hG.fr,by rw [aYu];exact hG.bx,hf,hG.nx⟩;exact ⟨e2,st2,A2,p,fun KK=>by simp only [aU,brB,hv,aBJ,bnd,cnd];exact g1 KK,g2,g3⟩
  | false =>
   obtain ⟨e2,st2,A2,p,g1,g2,g3⟩:=aCj hH b (st:=aBP c false st) hM hk ⟨bC0 hG.fr,by rw [aYu];exact hG.bx,hf,hG.nx⟩;exact ⟨e2,st2,A2,p,fun KK=>by simp only [aU,brB,hv,aBJ,bnd,cnd];exact g1 KK,g2,g3⟩
 | .block id b,env,A,st,K,hM,h,hG=>by
  simp only [aAG] at h;obtain ⟨e,st',A',l,h1,h2,h3⟩:=aCj hH b hM h hG;cases e with
  | nrm=>exact ⟨.nrm,st',A',l,fun KK=>by simp only [aU];rw [h1],h2,h3⟩
  | ret=>exact ⟨.ret,st',A',l,fun KK=>by simp only [aU];rw [h1],h2,h3⟩
  | brk i =>
   simp only at h3;by_cases hi:i=id;· rw [if_pos hi] at h3;exact ⟨.nrm,st',A',l,fun KK=>by simp only [aU];rw [h1];simp only [if_pos hi],h2,h3⟩
   ·rw [if_neg hi] at h3;exact ⟨.brk i,st',A',l,fun KK=>by simp only [aU];rw [h1];simp only [if_neg hi],h2,h3⟩
 | .scope b,env,A,st,K,hM,h,hG=>by
  simp only [aAG] at h;obtain ⟨e,st',A',l,h1,h2,h3⟩:=aCj hH b hM h hG;exact ⟨e,st',A',l,fun KK=>by simp only [aU];exact h1 KK,h2,h3⟩
 | .loop b,env,A,st,K,hM,h,hG=>by
  simp only [aAG] at h;split at h
  ·rename_i H hfrl hlk;split at h
   ·rename_i s cn g F;split at h
    ·rename_i s1 S c0 hhv W;simp only [Bool.and_eq_true] at h;obtain ⟨⟨⟨h1,h2⟩,h3⟩,h4⟩:=h;rw [decide_eq_true_eq] at h2;have htop:(H.top:Int)<=1073741824:=by have e:topL=1073741824:=rfl;omega
     obtain ⟨b0,hb0,hbx0⟩:=hG.bx;have hsh:qT st.bx=aOs A.bx:=by rw [hb0];exact (aYs hbx0).symm
     obtain ⟨vs,D,hms⟩:=bCX g hG;have hlen:=bE0 g;generalize hshd:aOs A.bx=sh at *;generalize d:aBO mt b=kp at *
     -- the state at the head,with a count
     let body:bO:=fun s u=>aU P mt nt O aG b (cU kp sh s u) fun e st'=>pack kp sh st' fun s u=>some (e,s,u);let Inv:Int->List PV->Prop:=fun z ws=>Mts C.τ (env++pick H.hv ws) s1 ws/\S=(env++pick H.hv ws).length/\ws.length=H.hv.length/\nth ws H.cnt=some (.int .i64 z)/\0<=z/\z<=H.top;let Post:Ex×List PV×UP->Prop:=fun r=>∃ w hx,w∈nG b/\exOf w=r.1/\aZ5 (nG b) r.1=true/\aSd H.ex (exOf w)=some hx/\r.2.2=[]/\(∀ Z nx3,aBC (.lit .i64 H.top) hx s A.nx=some (Z,nx3)->Mts C.τ (env++pick hx r.2.1) Z r.2.1/\nx3=(env++pick hx r.2.1).length);have hnth:∀ (hv:List HV) (ws:List PV) (j:Nat),nth (env++pick hv ws) (A.nx+j)=nth (pick hv ws) j:=by
      intro hv ws j;rw [hG.nx];exact aVz env _ j
     have hden:∀ (z:Int) (ws:List PV),ws.length=H.hv.length->nth ws H.cnt=some (.int .i64 z)->den (env++pick H.hv ws) (.root cn)=some (.int .i64 z):=by
      intro z ws hl hz;obtain ⟨j,e1,e2⟩:=aAb F hl;show nth (env++pick H.hv ws) cn=_;rw [e1,hnth,e2];exact hz
     have hstep:∀ z ws,Inv z ws->∃ e ws',body ws []=some (e,ws',[])/\((e = .nrm/\z<H.top/\Inv (z+1) ws')∨(e ≠ .nrm/\Post (e,ws',[]))):=by
      rintro z ws ⟨i1,i2,i3,i4,i5,i6⟩;have I:=hden z ws i3 i4;have U:s1.length=kp.length+(sh.map (·.2)).sum:=by
       have e1:=i1.len;rw [e1,i3];have:=hms.len;have key:∀ {cx:Sx} {hv:List HV} {s:List AV} {nx:Nat} {r:List AV×Nat},aBC cx hv s nx=some r->hv.length=s.length:=by
        intro cx hv;induction hv with
        | nil=>intro s nx r h;cases s with
         | nil=>rfl
         | cons=>simp [aBC] at h
        | cons x hv ih=>intro s nx r h;cases s with
         | nil=>simp [aBC] at h
         | cons y s =>
          have:∃ k r,aBC cx hv s (nx+k)=some r:=by
           cases x<;>simp only [aBC] at h<;>(split at h<;>first | (rename_i r' Q hr;exact ⟨_,_,hr⟩) | simp at h)
          obtain ⟨k,r,hr⟩:=this;simp [ih hr]
       rw [key hhv,hlen]
      have hfacts:∀ f,f∈((CO.le,Sx.lit .i64 0,Sx.root cn)::(CO.le,Sx.root cn,Sx.lit .i64 H.top)::A.fs)->eQ (env++pick H.hv ws) f:=by
       intro f hf;rcases List.mem_cons.1 hf with rfl | hf;· exact ⟨_,0,_,z,rfl,I,by simp only [CO.ev];symm;rw [decide_eq_true_eq];exact i5⟩
       rcases List.mem_cons.1 hf with rfl | hf;· exact ⟨_,z,_,H.top,I,rfl,by simp only [CO.ev];symm;rw [decide_eq_true_eq];exact i6⟩
       exact (hG.fs f hf).mono _
      have N:=aSk i1 U hfacts i2;obtain ⟨e,st',A',l,g1,g2,g3⟩:=aCj hH b (hM.mono _) h3 N;simp only at g3;split at g3
      ·rename_i s2 hpk2;obtain ⟨ws',hpv',hms'⟩:=bCX hpk2 g2;refine ⟨e,ws',by show aU P mt nt O aG b (cU kp sh ws []) _=_;rw [g1,hpv'],?_⟩;rw [List.append_assoc] at hms';have hf2:∀ f,f∈A'.fs->eQ (env++(pick H.hv ws++l)) f:=by
        intro f hf;have:=g2.fs f hf;rwa [List.append_assoc] at this
       have hd2:den (env++(pick H.hv ws++l)) (.root cn)=some (.int .i64 z):=by
        have:=fS l I;rwa [List.append_assoc] at this
       split at g3
       ·left;split at g3
        ·rename_i x hcx;simp only [Bool.and_eq_true,decide_eq_true_eq] at g3;obtain ⟨⟨rfl,v⟩,k3⟩:=g3;obtain ⟨n,hn,B⟩:=bGS v hf2;have:=hn.inj ⟨_,hd2⟩;subst this;have hw:IntKind.wrap .i64 (n+1)=n+1:=by simp [IntKind.wrap,IntKind.signed,IntKind.bits];omega
         have hds:den (env++(pick H.hv ws++l)) (.suc (.root cn))=some (.int .i64 (n+1)):=by
          simp only [den] at hd2 ⊢;rw [hd2];simp only [bnd,hw]
         obtain ⟨y,G,hmy⟩:=hms'.nth hcx;have hlast:∃ m,nth ws' H.cnt=some (.int .i64 m)/\den (env++(pick H.hv ws++l)) (.suc (.root cn))=some (.int .i64 m):=by
          obtain ⟨m,rfl,hm⟩:=hmy.int;exact ⟨m,G,hm⟩
         obtain ⟨m,hm1,hm2⟩:=hlast;rw [hds] at hm2;cases hm2;have hlw:ws'.length=H.hv.length:=by
          have e1:=hms'.len;have:∀ {fs:List Fact} {cx:Sx} {hv:List HV} {s s2:List AV},xI fs cx hv s s2=true->hv.length=s2.length:=by
           intro fs cx hv;induction hv with
           | nil=>intro s s2 h;cases s<;>cases s2<;>simp [xI] at h ⊢
           | cons x hv ih=>intro s s2 h;cases s<;>cases s2<;>simp [xI] at h ⊢;exact ih h.2
          rw [<- e1,<- this k3]
         have hz2:=hden (n+1) ws' hlw hm1;obtain ⟨q1,q2,q⟩:=aGo (env:=env) (l':=pick H.hv ws++l) (E:=env++pick H.hv ws') hf2 rfl hz2 hds (by omega) (by
          rintro i' hi k zi hzi;cases hi;rw [hd2] at hzi;cases hzi;exact ⟨rfl,i5⟩) hhv k3 hms hms' (hnth H.hv ws')
         exact ⟨rfl,B,q1,by rw [q2,hG.nx];simp,q,hm1,by omega,by omega⟩
        simp at g3
       rename_i J;right;refine ⟨fun he=>J he,?_⟩;split at g3;· rename_i hx M;rw [Bool.and_eq_true] at g3;obtain ⟨w,T,hw2⟩:=(aPB (R:=Unit) (fun _=>none) g3.1).2;refine ⟨w,hx,T,hw2,g3.1,by rw [hw2];exact M,rfl,fun Z nx3 hhx => ?_⟩;obtain ⟨q1,q2,q⟩:=aGo (env:=env) (l':=pick H.hv ws++l) (E:=env++pick hx ws') hf2 rfl (show den (env++pick hx ws') (.lit .i64 H.top)=some (.int .i64 H.top) from rfl) hd2 i6 (by rintro i' hi;cases hi) hhx g3.2 hms hms' (hnth hx ws');exact ⟨q1,by rw [q2,hG.nx];simp⟩
       simp at g3
      simp at g3
     -- it ends
     have hloop:∀ (n:Nat) z ws,((H.top:Int)-z).toNat<=n->Inv z ws->∃ r,aG body ws []=some r/\Post r:=by
      intro n;induction n with
      | zero =>
       intro z ws hn hI;obtain ⟨e,ws',g1,g2⟩:=hstep z ws hI;rw [aCb,g1];simp only [bnd];rcases g2 with ⟨rfl,g2,g3⟩ | ⟨g2,g3⟩;· omega
       cases e with
       | nrm=>exact by grind
       | brk i=>exact ⟨_,rfl,g3⟩
       | ret=>exact ⟨_,rfl,g3⟩
      | succ n ih =>
       intro z ws hn hI;obtain ⟨e,ws',g1,g2⟩:=hstep z ws hI;rw [aCb,g1];simp only [bnd];rcases g2 with ⟨rfl,g2,g3⟩ | ⟨g2,g3⟩;· exact ih (z+1) ws' (by omega) g3
       cases e with
       | nrm=>exact by grind
       | brk i=>exact ⟨_,rfl,g3⟩
       | ret=>exact ⟨_,rfl,g3⟩
     -- at the beginning
     have hI0:∃ z,Inv z vs:=by
      split at h1
      ·rename_i kk z;simp [Bool.and_eq_true,decide_eq_true_eq] at h1;obtain ⟨⟨⟨rfl,X⟩,z1⟩,hfit⟩:=h1;obtain ⟨y,G,hmy⟩:=hms.nth W;have hyz:nth vs H.cnt=some (.int .i64 z):=by
        obtain ⟨m,rfl,hm⟩:=hmy.int;have:=aCi hm;subst this;exact G
       have hlw:vs.length=H.hv.length:=by
        have e1:=hms.len;have:∀ {fs:List Fact} {cx:Sx} {hv} {s s2},xI fs cx hv s s2=true->hv.length=s2.length:=by
         intro fs cx hv;induction hv with
         | nil=>intro s s2 h;cases s<;>cases s2<;>simp [xI] at h ⊢
         | cons x hv ih=>intro s s2 h;cases s<;>cases s2<;>simp [xI] at h ⊢;exact ih h.2
        rw [<- e1,<- this hfit]
       have hz2:=hden z vs hlw hyz;obtain ⟨q1,q2,q⟩:=aGo (env:=env) (l':=[]) (E:=env++pick H.hv vs) (z':=z) (k' := .i64) (by simpa using hG.fs) rfl hz2 rfl (by omega) (by rintro i' hi;cases hi) hhv hfit hms (by simpa using hms) (hnth H.hv vs);exact ⟨z,q1,by rw [q2,hG.nx];simp,q,hyz,X,z1⟩
      simp at h1
     obtain ⟨X,hI0⟩:=hI0;obtain ⟨⟨e,ws,u⟩,g1,w,hx,k1,v,k3,k4,k5,k6⟩:=hloop _ X vs (Nat.le_refl _) hI0;simp only at v k3 k5 k6;subst k5;rw [List.all_eq_true] at h4;have h5:=h4 w k1;rw [k4] at h5;simp at h5;split at h5
     ·rename_i Y nx3' hhx;have L:Y.length=kp.length+(sh.map (·.2)).sum:=by
       have key:∀ {cx} {hv} {s} {nx} {r},aBC cx hv s nx=some r->r.1.length=s.length:=by
        intro cx hv;induction hv with
        | nil=>intro s nx r h;cases s with
         | nil=>cases h;rfl
         | cons=>simp [aBC] at h
        | cons x hv ih=>intro s nx r h;cases s with
         | nil=>simp [aBC] at h
         | cons y s =>
          cases x<;>simp [aBC] at h<;>(split at h<;>first | (rename_i r' Q hr;cases h;simp [ih hr]) | simp at h)
       rw [key hhx,hlen]
      obtain ⟨m4,n4⟩:=k6 _ _ hhx;refine ⟨exOf w,cU kp sh ws [],_,pick hx ws,fun KK => ?_,aSk m4 L (fun f hf=>(hG.fs f hf).mono _) n4,h5⟩;simp [aU,aF0,hfrl,hsh,d];rw [D];show bnd (aG body vs []) _=_;rw [g1];simp [bnd];have:=(aPB (fun e=>KK e (cU kp sh ws [])) k3).1;rw [this,v]
     ·simp at h5
    ·simp at h
   ·simp at h
  ·simp at h
 | .rangeFunc _ _ _ _,_,_,_,_,_,h,_=>by simp [aAG] at h
 | .goto _,_,_,_,_,_,h,_=>by simp [aAG] at h
 | .refuse _,_,_,_,_,_,h,_=>by simp [aAG] at h
end
theorem aMR {v} (h:v.solid1=true):lX v=some v:=by
 cases v<;>first | rfl | simp [solid1] at h
theorem aEo:∀ {cs},cs.all solid1=true->rT cs=some cs
 | [],_=>rfl
 | c::cs,h=>by
  simp only [List.all_cons,Bool.and_eq_true] at h;simp [rT,aMR h.1,aEo h.2]
theorem aGp {v} (h:v.solid=true):yB v=some v:=by
 cases v with
 | agg cs =>
  have  := h;simp [yB,aEo this,bnd]
 | _=>first | rfl | simp [PV.solid,solid1] at h
theorem aEp:∀ {cs},cs.all PV.solid=true->xA cs=some cs
 | [],_=>rfl
 | c::cs,h=>by
  simp only [List.all_cons,Bool.and_eq_true] at h;simp [xA,aGp h.1,aEp h.2]
variable {τ : Tb} {env : List PV}
theorem aSl:∀ {b vs},Mts τ env b vs->b.all AV.solid=true->vs.all PV.solid=true
 | _,_,.nil,_=>rfl
 | _,_,.cons h c,a=>by
  simp only [List.all_cons,Bool.and_eq_true] at a ⊢;exact ⟨aGn h a.1,aSl c a.2⟩
theorem ElsOk.nth:∀ {es vs},ElsOk τ es vs->∀ {i e},Go.Ev.nth es i=some e->∃ v,Go.Ev.nth vs i=some v/\ElOk τ e v
 | _,_,.nil,i,e,h=>by simp [Go.Ev.nth] at h
 | _,_,.cons h b,0,e,a=>by cases a;exact ⟨_,rfl,h⟩
 | _,_,.cons h b,i+1,e,a=>ElsOk.nth b (i:=i) a
section
variable {P : Program} {mt : Hints} {nt : Nat} {C : Cfg} {O : Orc}
theorem aSm {d A st r a} (h:aPo P d A r=some a) (k:Good τ env A st):∃ v,(∀ {R} (K:PV->Option R),aIu P d st r K=K v)/\Mt τ env a v:=by
 obtain ⟨b,y,m⟩:=k.bx;unfold aPo at h;split at h
 ·rename_i t;cases h;cases d with
  | true=>exact ⟨_,fun K=>rfl,k.fr.get t⟩
  | false=>exact ⟨_,fun K=>rfl,(k.fr.get t).plain⟩
 rename_i x t;split at h
 ·rename_i n B id off s u z;have p:=k.fr.get x;rw [z] at p;generalize f:gets st.fr x=D at p;cases p;split at h
  ·rename_i cs C o;have c:0<n/\(B=true∨n=1):=by
    simp_all
   obtain ⟨ws,g,e⟩:=m.get o;split at h
   ·rename_i l;have j:=aPs l e;rw [Option.map_eq_some_iff] at h;obtain ⟨v,hv,rfl⟩:=h;obtain ⟨w,q,i⟩:=aVp hv e;cases d with
    | true =>
     refine ⟨w,fun K => ?_,i⟩;simp [aIu,s,u,f];rw [if_pos c,y,aAa,g];simp [bnd,j,cnd,q]
    | false =>
     refine ⟨w.plain,fun K => ?_,i.plain⟩;simp [aIu,s,u,f];rw [if_pos c,y,aAa,g];simp [bnd,j,cnd,q,xZ]
   grind
  grind
 grind
theorem aSn {A st} (c:Good τ env A st):∀ {b a},aPp P A b=some a->∃ vs,(∀ {R} (K:List PV->Option R),aRu P st b K=K vs)/\Mts τ env a vs
 | [],a,h=>by cases h;exact ⟨[],fun K=>rfl,.nil⟩
 | r::b,a,h=>by
  simp [aPp] at h;split at h;· rename_i v vs f e;cases h;obtain ⟨w,g1,g2⟩:=aSm f c;obtain ⟨ws,g,d⟩:=aSn c e;exact ⟨w::ws,fun K=>by simp [aRu];grind,.cons g2 d⟩
  grind
theorem aYv {f a A st} (h:bCE P mt f a A=true) (c:Good τ env A st):∃ r,aOV P f mt.own st=some (r,[])/\RsOk τ a r:=by
 obtain ⟨b,e,j⟩:=c.bx;unfold bCE at h;unfold aOV;split at h
 ·rename_i r i;split at h
  ·rename_i v hv;rw [Bool.and_eq_true] at h;obtain ⟨w,g1,g2⟩:=aSm hv c;have d:=aCh c.fs h.2 (.one g2);refine ⟨w,?_,?_⟩;· simp [i];rw [g1,aGp (aGn g2 h.1),e];rfl
   cases d with
   | cons k m=>cases m;exact k
  grind
 split at h
 ·rename_i vs hv;rw [Bool.and_eq_true,Bool.and_eq_true,decide_eq_true_eq] at h;obtain ⟨⟨g,l⟩,n⟩:=h;obtain ⟨ws,g1,g2⟩:=aSn c hv;have d:=aCh c.fs l (g2.map Mt.plainA);refine ⟨(PV.tuple ws).plain,?_,?_⟩
  ·split;· grind
   rw [g1,aEp (aSl g2 g),e];rfl
  unfold RsOk;split;· grind
  exact ⟨_,rfl,d⟩
 grind
theorem aK5 {τ}:∀ {es vs pre},ElsOk τ es vs->∀ f,f∈aDt pre.length es->eQ (pre++vs) f
 | _,_,pre,.nil,f,h=>by simp [aDt] at h
 | _,_,pre,.cons (e:=e) (es:=es) (v:=v) (vs:=vs) h g,f,a=>by
  simp [aDt] at a;have b  := by
   have:=aVz pre (v::vs) 0;simpa [den,nth] using this
  rcases a with a | a
  ·split at a
   ·rename_i k d c;cases h with
    | one h =>
     cases h with
     | rng i =>
      simp at a;rcases a with rfl | rfl;· exact ⟨_,d,_,_,rfl,b,by simp [CO.ev];grind⟩
      exact ⟨_,_,_,c,b,rfl,by simp [CO.ev];grind⟩
   grind
  have:=aK5 (pre:=pre++[v]) g f (by grind);grind
theorem bC1 {v0} (p:Hyp C O v0) {k a args} (s:Me C v0 args) (h:aFun P mt nt C k a=true) (d:ElsOk C.τ a.ins args):∃ r,nB P mt nt O aG k args []=some (r,[])/\RsOk C.τ a.outs r:=by
 unfold aFun at h;split at h
 ·rename_i c q;rw [Bool.and_eq_true,Bool.and_eq_true,Bool.and_eq_true,decide_eq_true_eq] at h;obtain ⟨⟨⟨v,_⟩,_⟩,t⟩:=h;have j:=d.len;have b  := by simpa using aJW (env:=[]) d
  have m:Good C.τ args {fr:=azip (List.range a.ins.length) (bCz 0 a.ins),bx:=[],fs:=aDt 0 a.ins,nx:=a.ins.length} (uC args []):=by
   refine ⟨?_,⟨[],rfl,.nil⟩,fun f n=>by simpa using aK5 (pre:=[]) d f n,j⟩;have:=aVx (kp:=List.range a.ins.length) [] b (by rw [b.len,List.length_range,j]);show FrOk C.τ args _ (mL args 0 (List.range args.length));grind
  obtain ⟨e,o,u,l,g1,g2,g⟩:=aCj p c s t m;unfold nB;simp only [q];rw [if_pos (by omega),g1];cases e with
  | brk i=>grind
  | nrm=>exact aYv g g2
  | ret=>exact aYv g g2
 grind
end
section
variable {P : Program} {Mt : FuncId -> Hints} {X : Ext}
def aPC (P:Program) (Mt:FuncId->Hints) (X:Ext) (τ:Tb) (f:FuncId) (sm:Summ):Prop:=∀ args,ElsOk τ sm.ins args->aVv sm args->∃ r,OL P Mt X f args []=some (r,[])/\RsOk τ sm.outs r
theorem bGX {C g j k c args} (h:aFun P g j C k c=true) (l:ElsOk C.τ c.ins args) (a:aVv c args):∀ r,r<C.np->∃ v,den args (.root r)=some v/\bS v<=C.cap:=by
 intro r m;unfold aFun at h;split at h
 ·rw [Bool.and_eq_true,Bool.and_eq_true,Bool.and_eq_true,Bool.or_eq_true] at h;rcases h.1.1.2 with h | h;· simp_all
  rw [Bool.and_eq_true,Bool.and_eq_true] at h;obtain ⟨⟨f,e⟩,d⟩:=h;have f:=Nat.le_of_ble_eq_true f;have e:=Nat.eq_of_beq_eq_true e;have d:=Nat.le_of_ble_eq_true d;have n:=l.len;have b:r<args.length:=by omega
  refine ⟨args[r],by simp [den];rw [mQ,List.getElem?_eq_getElem b],?_⟩;rcases a with i | i;all_goals grind
 grind
theorem aYw {b a}:nE b a []=false:=by unfold nE;grind
theorem aK {f b c C} (i:P.funcs[f]?=some b) (e:X f=none) (m:C.recs=[]) (j:∀ g s,(g,s)∈C.sums->aPC P Mt X C.τ g s) (h:aFun P (Mt f) b.ntmps C b c=true):aPC P Mt X C.τ f c:=by
 intro args d a;obtain ⟨r,l,k⟩:=bC1 (v0 := .bot) (O:=OL P Mt X) ⟨j,by grind,by grind⟩ ⟨by grind,bGX h d a⟩ h d;exact ⟨r,bCn e aYw i l,k⟩
theorem aAH {τ} {R} (cfg:FuncId×Summ×Nat->Cfg) (l:∀ x,x∈R->(cfg x).τ=τ/\(cfg x).recs=R/\(cfg x).me=x.2.2/\(∀ g s,(g,s)∈(cfg x).sums->aPC P Mt X τ g s)/\X x.1=none/\∃ fn,P.funcs[x.1]?=some fn/\aFun P (Mt x.1) fn.ntmps (cfg x) fn x.2.1=true) :
  ∀ x,x∈R->aPC P Mt X τ x.1 x.2.1:=by
 have key:∀ n x,x∈R->∀ args a,ElsOk τ x.2.1.ins args->aVv x.2.1 args->nth args x.2.2=some a->bS a<n->∃ r,OL P Mt X x.1 args []=some (r,[])/\RsOk τ x.2.1.outs r:=by
  intro n;induction n with
  | zero=>omega
  | succ n u =>
   intro x hx args a hA hcap ha p;obtain ⟨rfl,b,c3,o,i,fn,m,c7⟩:=l x hx;have hag:(cfg x).recs≠[]->(cfg x).meAg=true->∃ cs,a = .agg cs:=by
    intro t d;have h:=c7;unfold aFun at h;split at h
    ·rw [Bool.and_eq_true,Bool.and_eq_true,Bool.and_eq_true,Bool.or_eq_true,Bool.or_eq_true] at h;rcases h.1.2 with h | h;· exact by grind
     split at h
     ·rename_i e he;obtain ⟨v,hv,c⟩:=hA.nth he;rw [c3,ha] at hv;cases hv;rw [d] at h;cases c with
      | ag A=>exact ⟨_,rfl⟩
      | one=>simp at h
     simp at h
    simp at h
   obtain ⟨r,w,z⟩:=bC1 (v0:=a) (O:=OL P Mt X) ⟨o,by
    rw [b];intro f q k d args' y hA' hc' ha' j;exact u (f,q,k) d args' y hA' hc' ha' (by omega),hag⟩ ⟨by
    intro _;rw [c3];exact ha,bGX c7 hA hcap⟩ c7 hA
   exact ⟨r,bCn i aYw m w,z⟩
 intro x hx args hA hcap;obtain ⟨rfl,b,c3,o,i,fn,m,c7⟩:=l x hx;have hex:∃ a,nth args x.2.2=some a:=by
  have h:=c7;unfold aFun at h;split at h
  ·rw [Bool.and_eq_true,Bool.and_eq_true,Bool.and_eq_true,Bool.or_eq_true,Bool.or_eq_true] at h;rcases h.1.2 with h | h;· rw [List.isEmpty_iff,b] at h;rw [h] at hx;simp at hx
   split at h;· rename_i e he;obtain ⟨v,hv,_⟩:=hA.nth he;rw [c3] at hv;exact ⟨v,hv⟩
   simp at h
  simp at h
 obtain ⟨a,ha⟩:=hex;exact key (bS a+1) x hx args a hA hcap ha (by omega)
end
section
variable {P : Program} {Mt : FuncId -> Hints} {X : Ext} {τ : Tb}
theorem sn':∀ g s,(g,s)∈([]:STb)->aPC P Mt X τ g s:=by simp
theorem sc' {f a} {l:STb} (h:aPC P Mt X τ f a) (b:∀ g s,(g,s)∈l->aPC P Mt X τ g s):∀ g s,(g,s)∈(f,a)::l->aPC P Mt X τ g s:=by
 grind
theorem aEQ {α:Type} {p:α->Prop}:∀ x,x∈([]:List α)->p x:=by simp
theorem all_cons {α:Type} {p:α->Prop} {a l} (h:p a) (b:∀ x,x∈l->p x):∀ x,x∈a::l->p x:=by
 grind
end
end Go.Ev

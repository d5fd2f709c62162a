import Derived.Test.YtphmfillajagdaaGreatEd
set_option linter.unusedVariables false
set_option linter.unusedSimpArgs false
namespace Go.Ev
open PV
inductive Sx where
 | root (r:Nat)
 | cell (p:Sx) (c:Nat)
 | elem (p i:Sx)
 | lit (k:IntKind) (n:Int)
 | txt (s:List UInt8)
 | len (p:Sx)
 | suc (x:Sx)
 deriving DecidableEq,Inhabited
def aVF:PV→List PV
 | .slice es _ _=>es
 | _=>[]
def lenOf:PV→Nat
 | .slice es _ _=>es.length
 | .str s=>s.length
 | _=>0
def den (env:List PV):Sx→Option PV
 | .root r=>nth env r
 | .cell p c=>bnd (den env p) fun v=>nth v.cells c
 | .elem p i=>bnd (den env p) fun v=>bnd (den env i) fun j=>match j with | .int _ n=>nth (aVF v) n.toNat | _=>none
 | .lit k n=>some (.int k n)
 | .txt s=>some (.str s)
 | .len p=>bnd (den env p) fun v=>some (.int .i64 (lenOf v))
 | .suc x=>bnd (den env x) fun v=>match v with | .int k n=>some (.int k (k.wrap (n+1))) | _=>none
inductive Lf where
 | bool
 | int (k:IntKind)
 | str
 | sl (n ub:Nat) (o:Bool)
 | rng (k:IntKind) (lo hi:Int)
 deriving DecidableEq,Inhabited
structure El where
 ag:Bool
 cs:List Lf
 deriving DecidableEq,Inhabited
def El.size (e:El):Nat:=e.cs.length
abbrev Tb:=List El
def elOf (τ:Tb) (n:Nat):El :=
 match nth τ n with
 | some e=>e
 | none=>⟨false,[]⟩
def topL:Nat:=1073741824
mutual
inductive LfOk (τ:Tb):Lf→PV→Prop
 | bool (b:Bool):LfOk τ .bool (.bool b)
 | int (k:IntKind) (n:Int):LfOk τ (.int k) (.int k n)
 | rng {k:IntKind} {lo hi n:Int} (h:lo≤n∧n≤hi):LfOk τ (.rng k lo hi) (.int k n)
 | str {s:List UInt8} (h:s.length≤topL):LfOk τ .str (.str s)
 | sl {n ub:Nat} {es:List PV} {o:Bool} (h:∀ e,e∈es→ElOk τ (elOf τ n) e) (hl:es.length≤ub):LfOk τ (.sl n ub o) (.slice es [] o)
inductive ElOk (τ:Tb):El→PV→Prop
 | ag {cs:List Lf} {vs:List PV} (h:CsOk τ cs vs):ElOk τ ⟨true,cs⟩ (.agg vs)
 | one {l:Lf} {v:PV} (h:LfOk τ l v):ElOk τ ⟨false,[l]⟩ v
inductive CsOk (τ:Tb):List Lf→List PV→Prop
 | nil:CsOk τ [] []
 | cons {l:Lf} {ls:List Lf} {v:PV} {vs:List PV} (h:LfOk τ l v) (hs:CsOk τ ls vs):CsOk τ (l::ls) (v::vs)
end
inductive CO where
 | lt
 | le
 | eq
 deriving DecidableEq
def CO.ev:CO→Int→Int→Bool
 | .lt,a,b=>decide (a<b)
 | .le,a,b=>decide (a≤b)
 | .eq,a,b=>a==b
inductive Cn where
 | k (b:Bool)
 | cmp (o:CO) (x y:Sx)
 | not (c:Cn)
 | unk
 deriving DecidableEq
def CnOk (env:List PV):Cn→Bool→Prop
 | .k c,b=>b=c
 | .cmp o x y,b=>∃ k n k' m,den env x=some (.int k n)∧den env y=some (.int k' m)∧b=o.ev n m
 | .not c,b=>CnOk env c (!b)
 | .unk,_=>True
abbrev Fact:=CO×Sx×Sx
def dN (env:List PV) (f:Fact):Prop:=CnOk env (.cmp f.1 f.2.1 f.2.2) true
inductive AV where
 | any
 | und
 | nm (x:Sx) (l:Lf)
 | sl (x:Sx) (n c m:Nat) (i:Sx) (own:Bool)
 | cn (c:Cn)
 | nil (own:Bool)
 | agg (cs:List AV)
 | tup (vs:List AV)
 | ref (v:AV)
 | ptr (id off:Nat)
 deriving Inhabited
def isSl:Lf→Bool
 | .sl _ _ _=>true
 | _=>false
mutual
inductive Mt (τ:Tb) (env:List PV):AV→PV→Prop
 | any (v:PV):Mt τ env .any v
 | und:Mt τ env .und .und
 | nm {x:Sx} {l:Lf} {v:PV} (h:den env x=some v) (hl:LfOk τ l v) (hs:isSl l=false):Mt τ env (.nm x l) v
 | sl {x:Sx} {n c m:Nat} {i:Sx} {own:Bool} {es:List PV} {o:Bool} {k:IntKind} {z:Int} (h:den env x=some (.slice es [] o)) (he:∀ e,e∈es→ElOk τ (elOf τ n) e)
   (hi:den env i=some (.int k z)) (hl:es.length≤c+m*z.toNat):Mt τ env (.sl x n c m i own) (.slice es [] own)
 | cn {c:Cn} {b:Bool} (h:CnOk env c b):Mt τ env (.cn c) (.bool b)
 | nil (own:Bool):Mt τ env (.nil own) (.slice [] [] own)
 | agg {cs:List AV} {vs:List PV} (h:Mts τ env cs vs):Mt τ env (.agg cs) (.agg vs)
 | tup {cs:List AV} {vs:List PV} (h:Mts τ env cs vs):Mt τ env (.tup cs) (.tuple vs)
 | ref {a:AV} {v:PV} (h:Mt τ env a v):Mt τ env (.ref a) (.ref v)
 | ptr (id off:Nat):Mt τ env (.ptr id off) (.ptr 0 id off)
inductive Mts (τ:Tb) (env:List PV):List AV→List PV→Prop
 | nil:Mts τ env [] []
 | cons {a:AV} {as:List AV} {v:PV} {vs:List PV} (h:Mt τ env a v) (hs:Mts τ env as vs):Mts τ env (a::as) (v::vs)
end
inductive FrOk (τ:Tb) (env:List PV):List (Nat×AV)→List (Nat×PV)→Prop
 | nil:FrOk τ env [] []
 | cons {i:Nat} {a:AV} {v:PV} {l:List (Nat×AV)} {m:List (Nat×PV)} (h:Mt τ env a v) (hs:FrOk τ env l m):FrOk τ env ((i,a)::l) ((i,v)::m)
inductive BxOk (τ:Tb) (env:List PV):List (Nat×List AV)→fM→Prop
 | nil:BxOk τ env [] []
 | cons {i:Nat} {a:List AV} {v:List PV} {l:List (Nat×List AV)} {m:fM} (h:Mts τ env a v) (hs:BxOk τ env l m):BxOk τ env ((i,a)::l) ((i,v)::m)
structure ASt where
 fr:List (Nat×AV)
 bx:List (Nat×List AV)
 fs:List Fact
 nx:Nat
structure Good (τ:Tb) (env:List PV) (A:ASt) (st:St):Prop where
 fr:FrOk τ env A.fr st.fr
 bx:∃ b,st.bx=[b]∧BxOk τ env A.bx b
 fs:∀ f,f∈A.fs→dN env f
 nx:A.nx=env.length
def AV.isNm:AV→Bool
 | .nm _ _ | .sl _ _ _ _ _ _ | .cn _ | .nil _=>true
 | _=>false
def AV.solid1 (a:AV):Bool:=a.isNm
def AV.solid:AV→Bool
 | .agg cs=>cs.all AV.solid1
 | a=>a.isNm
def AV.cells:AV→List AV
 | .agg cs=>cs
 | a=>[a]
def AV.plain1:AV→AV
 | .sl x n c m i _ => .sl x n c m i false
 | .nil _ => .nil false
 | a=>a
def AV.plainA:AV→AV
 | .agg cs => .agg (cs.map AV.plain1)
 | a=>a.plain1
def AV.plain:AV→AV
 | .tup vs => .tup (vs.map AV.plainA)
 | a=>a.plainA
def aVG:Value→AV
 | .bool b => .cn (.k b)
 | .int k n => .nm (.lit k n) (.int k)
 | .string s=>if s.data.toList.length≤topL then .nm (.txt s.data.toList) .str else .any
 | .slice none 0 0 => .nil true
 | _ => .any
def aRQ:Value→AV
 | .agg cs => .agg (cs.toList.map aVG)
 | v=>aVG v
def aC5 (fr:List (Nat×AV)) (i:Nat):AV :=
 match look fr i with
 | some v=>v
 | none => .any
def aopd (fr:List (Nat×AV)):Operand→AV
 | .tmp t=>aC5 fr t
 | .const v=>aRQ v
 | _ => .any
def aopv (fr:List (Nat×AV)) (tk:Bool):Operand→AV
 | .tmp t=>match tk with | true=>aC5 fr t | false=>(aC5 fr t).plain
 | x=>aopd fr x
def aJ5 (fr:List (Nat×AV)) (tk:Bool):Operand→List (Nat×AV)
 | .tmp t=>match tk with | true=>[(t,(aC5 fr t).plain)] | false=>[]
 | _=>[]
def adst (nt:Nat) (d:Option Nat) (v:AV):List (Nat×AV) :=
 match d with
 | some d=>if d<nt then [(d,v)] else []
 | none=>[]
structure AEff where
 cr:List (Nat×Nat×Nat×Nat):=[]
 cw:List (Nat×Nat×Nat×List AV):=[]
 ws:List (Nat×AV):=[]
 nw:List (Nat×List AV):=[]
def mJ (bx:List (Nat×List AV)):List (Nat×Nat×Nat×List AV)→List (Nat×List AV)
 | []=>bx
 | (_,id,o,vs)::l =>
  match look bx id with
  | some cs=>mJ (aputBox bx id (putAt cs o vs)) l
  | none=>mJ bx l
where aputBox:List (Nat×List AV)→Nat→List AV→List (Nat×List AV)
 | [],_,_=>[]
 | (i,c)::l,j,c'=>if i=j then (i,c')::l else (i,c)::aputBox l j c'
def AEff.foot (e:AEff):Foot:=⟨e.cr,e.cw.map fun c=>(c.1,c.2.1,c.2.2.1,c.2.2.2.length),e.nw.map (·.1)⟩
structure Summ where
 ins:List El
 outs:List El
 cap:Nat:=0
 deriving Inhabited
abbrev STb:=List (FuncId×Summ)
def yC:Cn→Bool→List Fact→List Fact
 | .cmp .lt x y,true,fs=>(.lt,x,y)::fs
 | .cmp .lt x y,false,fs=>(.le,y,x)::fs
 | .cmp .le x y,true,fs=>(.le,x,y)::fs
 | .cmp .le x y,false,fs=>(.lt,y,x)::fs
 | .cmp .eq x y,true,fs=>(.le,x,y)::(.le,y,x)::fs
 | .cmp .eq _ _,false,fs=>fs
 | .not c,b,fs=>yC c (!b) fs
 | _,_,fs=>fs
def hasF (fs:List Fact) (f:Fact):Bool:=fs.any fun g=>decide (g=f)
def leB (fs:List Fact) (p:Sx) (top:Nat):Bool:=fs.any fun f=>match f with
 | (.le,.len q,.lit _ b)=>decide (q=p)&&decide (b≤top)
 | _=>false
def ltB1 (fs:List Fact) (x:Sx) (top:Nat):Bool:=fs.any fun f=>match f with
 | (.lt,y,.len p)=>decide (y=x)&&leB fs p top
 | (.le,y,.lit _ b)=>decide (y=x)&&decide (b<top)
 | _=>false
def ltB (fs:List Fact) (x:Sx) (top:Nat):Bool:=ltB1 fs x top||fs.any fun f=>match f with
 | (.lt,y,z)=>decide (y=x)&&ltB1 fs z top
 | _=>false
def aXM (fs:List Fact) (x p:Sx):Bool:=fs.any fun f=>match f with
 | (.lt,y,z)=>decide (y=x)&&(decide (z = .len p)||hasF fs (.le,z,.len p)||hasF fs (.lt,z,.len p))
 | _=>false
def capX (fs:List Fact) (m:Nat) (i:Sx):Option Nat :=
 match m with
 | 0=>some 0
 | m=>match i with
  | .lit _ z=>some (m*z.toNat)
  | i=>match fs.find? fun f=>match f with
    | (.le,y,.lit _ b)=>decide (y=i)
    | _=>false with
   | some (_,_,.lit _ b)=>some (m*b.toNat)
   | _=>none
def nnX (fs:List Fact):Sx→Bool
 | .lit _ n=>decide (0≤n)
 | .len _=>true
 | .suc x=>nnX fs x&&ltB fs x topL
 | x=>hasF fs (.le,.lit .i64 0,x)
def aGO:Cn→Option Bool
 | .k b=>some b
 | .not c=>match aGO c with | some b=>some (!b) | none=>none
 | _=>none
def loQ (fs:List Fact) (x:Sx) (lo:Int):Bool :=
 match x with
 | .lit _ n=>decide (lo≤n)
 | x=>fs.any fun f=>match f with
  | (.le,.lit _ a,y)=>decide (y=x)&&decide (lo≤a)
  | _=>false
def hiQ1 (fs:List Fact) (x:Sx) (hi:Int):Bool :=
 match x with
 | .lit _ n=>decide (n≤hi)
 | x=>fs.any fun f=>match f with
  | (.le,y,.lit _ a)=>decide (y=x)&&decide (a≤hi)
  | (.lt,y,.lit _ a)=>decide (y=x)&&decide (a≤hi+1)
  | _=>false
def hiQ (fs:List Fact) (x:Sx) (hi:Int):Bool:=hiQ1 fs x hi||fs.any fun f=>match f with
 | (.lt,y,z)=>decide (y=x)&&hiQ1 fs z (hi+1)
 | _=>false
def notQ (fs:List Fact):Cn→Bool
 | .cmp .eq x (.lit _ c)=>hiQ fs x (c-1)||loQ fs x (c+1)
 | _=>false
def aBr (a:AV) (fs:List Fact) (K:Bool→List Fact→Bool):Bool :=
 match a with
 | .cn c=>match aGO c with
  | some b=>K b fs
  | none=>match notQ fs c with
   | true=>K false fs
   | false=>K true (yC c true fs)&&K false (yC c false fs)
 | .nm _ .bool=>K true fs&&K false fs
 | _=>false
def ofLf (x:Sx):Lf→AV
 | .sl n ub o => .sl x n ub 0 (.lit .i64 0) o
 | .rng k _ _ => .nm x (.int k)
 | l => .nm x l
def bAs (x:Sx):Nat→List Lf→List AV
 | _,[]=>[]
 | j,l::ls=>ofLf (.cell x j) l::bAs x (j+1) ls
def ofEl (x:Sx) (e:El):AV :=
 match e.ag with
 | true => .agg (bAs x 0 e.cs)
 | false=>match e.cs with
  | [l]=>ofLf x l
  | _ => .any
def aMe (fs:List Fact) (l:Lf) (a:AV):Bool :=
 match l,a with
 | .bool,.cn _=>true
 | .sl n ub o,.sl _ n' c m i own=>(o==own)&&Nat.beq n n'&&(match capX fs m i with
  | some k=>Nat.ble (c+k) ub
  | none=>false)
 | .sl _ _ o,.nil own=>o==own
 | .rng k lo hi,.nm x (.int k')=>decide (k=k')&&loQ fs x lo&&hiQ fs x hi
 | l,.nm _ l'=>decide (l=l')
 | _,_=>false
def aI9 (fs:List Fact):List Lf→List AV→Bool
 | [],[]=>true
 | l::ls,a::as=>aMe fs l a&&aI9 fs ls as
 | _,_=>false
def aO3 (fs:List Fact) (e:El) (a:AV):Bool :=
 match e.ag,a with
 | true,.agg cs=>aI9 fs e.cs cs
 | true,_=>false
 | false,a=>match e.cs with
  | [l]=>aMe fs l a
  | _=>false
def aC6 (fs:List Fact):List El→List AV→Bool
 | [],[]=>true
 | e::es,a::as=>aO3 fs e a&&aC6 fs es as
 | _,_=>false
def aVH (r:Nat):List El→List AV
 | []=>[]
 | e::es=>ofEl (.root r) e::aVH (r+1) es
inductive HV where
 | same
 | any
 | lf (l:Lf)
 | el (e:El)
 | acc (n c m:Nat)
structure LH where
 hv:List HV
 cnt:Nat
 top:Nat
 ex:List (Option Nat×List HV)
structure Cfg where
 τ:Tb
 sums:STb
 recs:List (FuncId×Summ×Nat)
 me:Nat
 meAg:Bool
 cap:Nat:=0
 np:Nat:=0
 loops:List (Nat×LH)
def aMf (r:Nat):Sx→Bool
 | .root r'=>Nat.beq r r'
 | .cell p _=>aMf r p
 | .elem p _=>aMf r p
 | _=>false
def sD (ag:Bool) (r:Nat):Sx→Bool
 | .cell (.root r') _=>ag&&Nat.beq r r'
 | .cell p _=>sD ag r p
 | .elem p _=>aMf r p
 | _=>false
def aBF (q:Sx):Nat→List AV→Bool
 | _,[]=>true
 | j,a::as=>(match a with
  | .nm x _=>decide (x = .cell q j)
  | .sl x _ _ _ _ _=>decide (x = .cell q j)
  | _=>false)&&aBF q (j+1) as
def aFz (np:Nat):Sx→Bool
 | .root r=>decide (r<np)
 | .cell p _=>aFz np p
 | .elem p _=>aFz np p
 | _=>false
def capA (np:Nat):AV→Bool
 | .nm x l=>(match l with | .str=>aFz np x | _=>true)
 | .cn _=>true
 | .nil _=>true
 | .sl x _ _ _ _ _=>aFz np x
 | .agg (.nm (.cell q j) l::a::as)=>aFz np q&&aBF q j (.nm (.cell q j) l::a::as)
 | .agg (.sl (.cell q j) n c m i o::a::as)=>aFz np q&&aBF q j (.sl (.cell q j) n c m i o::a::as)
 | _=>false
def capC (C:Cfg) (sm:Summ) (args:List AV):Bool:=Nat.beq sm.cap 0||(Nat.ble 1 C.cap&&Nat.ble C.cap sm.cap&&args.all (capA C.np))
def aVI (ag:Bool) (r:Nat):AV→Bool
 | .sl x _ _ _ _ _=>sD ag r x
 | .agg (.nm (.cell q j) l::a::as)=>sD ag r q&&aBF q j (.nm (.cell q j) l::a::as)
 | _=>false
section
variable (P : Program) (mt : Hints) (nt : Nat) (C : Cfg)
def aVJ (t:TypeId):Option AV :=
 match P.info? t with
 | some i=>i.zero.map aRQ
 | none=>none
def aRR (A:ASt) (d:Option Nat):Option Nat :=
 match d with
 | some d=>match look A.bx d with
  | none=>if d<nt then some d else none
  | some _=>none
 | none=>none
def AV.fits:AV→Bool
 | .ptr _ _=>true
 | .ref _=>true
 | a=>a.isNm
def aGP (size:Nat) (ag:Bool) (a:AV):Option (List AV) :=
 match ag,a with
 | true,.agg cs=>if cs.length=size then some cs else none
 | true,_=>none
 | false,a=>match a.fits,size with
  | true,1=>some [a]
  | _,_=>none
abbrev AK:=AEff→List Fact→Nat→Bool
def aJ6 (o:Oper) (n:Nat) (ag:Bool) (v:AV) (lv:List (Nat×AV)) (A:ASt) (K:AK):Bool :=
 match aRR nt A o.dst,aGP n ag v with
 | some id,some cs=>match cs.all AV.fits with
  | true=>K {ws:=(id,.ptr id 0)::lv,nw:=[(id,cs)]} A.fs A.nx
  | false=>false
 | _,_=>false
def apart (off size:Nat) (ag:Bool) (cs:List AV):Option AV :=
 match ag with
 | true=>if off+size≤cs.length then some (.agg ((cs.drop off).take size)) else none
 | false=>nth cs off
def afld (off size:Nat) (ag:Bool) (x:AV):Option AV :=
 match x with
 | .agg cs=>apart off size ag cs
 | _=>none
def aVK:List AV→Bool
 | [a]=>a.fits
 | _=>true
def aGQ (ag:Bool) (v:AV):Option (List AV) :=
 match ag,v with
 | true,.agg cs=>some (cs.map AV.plain1)
 | true,_=>none
 | false,v=>some [v.plain1]
def aRS (place:Nat→Option (Nat×Nat×Bool)):List (Nat×AV)→List AV→Option (List AV)
 | [],cs=>some cs
 | (i,v)::rest,cs =>
  match place i with
  | some (off,size,ag)=>match aGP size ag v with
   | some vs=>if off+size≤cs.length then aRS place rest (putAt cs off vs) else none
   | none=>none
  | none=>none
def aGR:Tb→Nat→List AV→Option Nat
 | [],_,_=>none
 | e::τ,n,as=>match as.all (aO3 [] e) with
  | true=>some n
  | false=>aGR τ (n+1) as
def aGS (sz:Nat) (l:List (Nat×AV)) (n k:Nat):Bool :=
 match l with
 | []=>Nat.beq n k
 | (i,a)::r=>Nat.beq i k&&a.solid&&Nat.beq a.cells.length sz&&aGS sz r n (k+1)
def aO4 (k:Nat) (a b:AV):Bool :=
 match k,a,b with
 | 1,.nm _ (.int k),.nm _ (.int k')=>decide (k=k')
 | 2,.nm _ .str,.nm _ .str=>true
 | 0,a,b=>aMe [] .bool a&&aMe [] .bool b
 | _,_,_=>false
def isB (a:AV):Bool:=aMe [] .bool a
def nn0 (fs:List Fact):Sx→Bool
 | .lit _ c=>decide (0≤c)
 | .root r=>hasF fs (.le,.lit .i64 0,.root r)
 | _=>false
def abin (fs:List Fact) (op:BinOp) (a b:AV) (nx:Nat):Option (AV×Nat) :=
 match a,b with
 | .nm x (.int k),.nm y (.int k') =>
  match op with
  | .shl=>if nn0 fs y=true then some (.nm (.root nx) (.int k),nx+1) else none
  | .shr=>if nn0 fs y=true then some (.nm (.root nx) (.int k),nx+1) else none
  | op=>match decide (k=k') with
   | false=>none
   | true=>match op with
    | .eql=>some (.cn (.cmp .eq x y),nx)
    | .neq=>some (.cn (.not (.cmp .eq x y)),nx)
    | .lss=>some (.cn (.cmp .lt x y),nx)
    | .leq=>some (.cn (.cmp .le x y),nx)
    | .gtr=>some (.cn (.cmp .lt y x),nx)
    | .geq=>some (.cn (.cmp .le y x),nx)
    | .add=>match y with
     | .lit _ 1=>some (.nm (.suc x) (.int k),nx)
     | _=>some (.nm (.root nx) (.int k),nx+1)
    | .sub | .mul | .and | .or | .xor | .andNot=>some (.nm (.root nx) (.int k),nx+1)
    | .quo=>match y with | .lit _ c=>if c=0 then none else some (.nm (.root nx) (.int k),nx+1) | _=>none
    | .rem=>match y with | .lit _ c=>if c=0 then none else some (.nm (.root nx) (.int k),nx+1) | _=>none
    | _=>none
 | .nm x .str,.nm (.txt []) .str =>
  match op with
  | .eql=>some (.cn (.cmp .le (.len x) (.lit .i64 0)),nx)
  | .neq=>some (.cn (.not (.cmp .le (.len x) (.lit .i64 0))),nx)
  | _=>none
 | .nm _ .str,.nm _ .str =>
  match op with
  | .eql | .neq | .lss | .leq | .gtr | .geq=>some (.cn .unk,nx)
  | _=>none
 | _,_=>none
def aVL (o:Oper) (op:BinOp) (x y:AV) (A:ASt) (K:AK):Bool :=
 match abin A.fs op x y A.nx with
 | some (v,nx)=>K {ws:=adst nt o.dst v} A.fs nx
 | none=>false
def aCmp (o:Oper) (op:BinOp) (t:TypeId) (x y:AV) (A:ASt) (K:AK):Bool :=
 match P.underlying t with
 | some (.int _)=>aVL nt o op x y A K
 | some .string=>aVL nt o op x y A K
 | some .bool=>match isB x&&isB y with
  | true=>K {ws:=adst nt o.dst (.cn .unk)} A.fs A.nx
  | false=>false
 | some (.struct _) =>
  match szOf P t,aBa P 20 t 0,P.eqGuardType P.depth t,x,y with
  | some n,some ls,false,.agg xs,.agg ys=>match Nat.beq xs.length n&&Nat.beq ys.length n&&ls.all fun l=>match nth xs l.1,nth ys l.1 with | some a,some b=>aO4 l.2 a b | _,_=>false with
   | true=>K {ws:=adst nt o.dst (.cn .unk)} A.fs A.nx
   | false=>false
  | _,_,_,_,_=>false
 | _=>false
def bCc (o:Oper) (op:BinOp) (t:TypeId) (x y:AV) (A:ASt) (K:AK):Bool :=
 match op with
 | .eql=>aCmp P nt o .eql t x y A K
 | .neq=>aCmp P nt o .neq t x y A K
 | op=>aVL nt o op x y A K
def aapd (size:Nat) (x y:AV) (fs:List Fact) (nx:Nat):Option (AV×Nat) :=
 match x,y with
 | .nil true,.nil _=>some (.nil true,nx)
 | .nil true,.sl x n c m i _ =>
  match capX fs m i with
  | some k=>if c+k≤lim∧(elOf C.τ n).size=size then some (.sl x n c m i true,nx) else none
  | none=>none
 | .sl x n c m i true,.nil _ =>
  match capX fs m i with
  | some k=>if c+k≤lim∧(elOf C.τ n).size=size then some (.sl x n c m i true,nx) else none
  | none=>none
 | .sl _ n c m i true,.sl _ n' c' m' _ _ =>
  match capX fs m i with
  | some k=>if c+k+c'≤lim∧(elOf C.τ n).size=size∧n=n'∧m'=0 then some (.sl (.root nx) n (c+c') m i true,nx+1) else none
  | none=>none
 | _,_=>none
def aRes (outs:List El) (nx:Nat):AV :=
 match outs with
 | [e]=>ofEl (.root nx) e
 | es => .tup (aVH nx es)
def bBB (o:Oper) (c:Call) (A:ASt) (K:AK):Bool :=
 let ρ:=aopd A.fr
 let tk:=hasO mt.takes o.dst
 match c.callee with
 | .value (.func g) =>
  let args:=c.args.toList.map (aopv A.fr tk)
  let lv:=c.args.toList.flatMap (aJ5 A.fr tk)
  match (!tk||rW (nC c.args.toList)) && !hasO mt.gens o.dst && !hasO mt.brw o.dst&&(aUX mt o.dst).isNone&&args.all AV.solid with
  | false=>false
  | true =>
   match C.sums.find? fun x=>Nat.beq x.1 g with
   | some (_,sm)=>match aC6 A.fs sm.ins args&&capC C sm args with
    | true=>K {ws:=adst nt o.dst (aRes sm.outs A.nx)++lv} A.fs (A.nx+sm.outs.length)
    | false=>false
   | none=>match C.recs.find? fun x=>Nat.beq x.1 g with
    | some (_,sm,k)=>match aC6 A.fs sm.ins args&&capC C sm args&&(match nth args k with | some a=>aVI C.meAg C.me a | none=>false) with
     | true=>K {ws:=adst nt o.dst (aRes sm.outs A.nx)++lv} A.fs (A.nx+sm.outs.length)
     | false=>false
    | none=>false
 | .builtin .len =>
  match c.args.toList,c.argTypes.toList with
  | [x],[t] =>
   match P.underlying t,ρ x with
   | some .string,.nm x .str=>K {ws:=adst nt o.dst (.nm (.len x) (.int .i64))} ((.le,.len x,.lit .i64 topL)::A.fs) A.nx
   | some (.slice _),.sl x _ c m i _=>K {ws:=adst nt o.dst (.nm (.len x) (.int .i64))} (match m,i with
    | 0,_=>(.le,.len x,.lit .i64 c)::A.fs
    | m,.lit _ z=>(.le,.len x,.lit .i64 ((c+m*z.toNat:Nat):Int))::A.fs
    | _,_=>A.fs) A.nx
   | some (.slice _),.nil _=>K {ws:=adst nt o.dst (.nm (.lit .i64 0) (.int .i64))} A.fs A.nx
   | _,_=>false
  | _,_=>false
 | .builtin .append =>
  match c.args.toList,c.argTypes.toList with
  | [x,y],[t,u] =>
   match P.underlying t,P.underlying u with
   | some (.slice e),some (.slice _) =>
    match P.info? e with
    | some i=>if 0<i.size∧i.bytes≤512∧wU i=true∧(aUX mt o.dst).isNone=true then
      match aapd C i.size (aopd A.fr x) (ρ y) A.fs A.nx with
      | some (v,nx)=>K {ws:=adst nt o.dst v++aJ5 A.fr true x} A.fs nx
      | none=>false
      else false
    | none=>false
   | _,_=>false
  | _,_=>false
 | .builtin .max =>
  match c.args.toList with
  | [x,y] =>
   match ρ x,ρ y with
   | .nm _ (.int k),.nm _ (.int _)=>K {ws:=adst nt o.dst (.nm (.root A.nx) (.int k))} A.fs (A.nx+1)
   | _,_=>false
  | _=>false
 | _=>false
def aIx (size:Nat) (a i:AV) (fs:List Fact):Option AV :=
 match a,i with
 | .sl p n _ _ _ _,.nm i (.int .i64) =>
  if (elOf C.τ n).size=size∧0<size∧nnX fs i=true∧aXM fs i p=true then some (.ref (ofEl (.elem p i) (elOf C.τ n))) else none
 | _,_=>none
def aOp (o:Oper) (A:ASt) (K:AK):Bool :=
 let ρ:=aopd A.fr
 let tk:=hasO mt.takes o.dst
 let fin v:Bool:=K {ws:=adst nt o.dst v} A.fs A.nx
 match o.op with
 | .move x=>K {ws:=adst nt o.dst (aopv A.fr tk x)++aJ5 A.fr tk x} A.fs A.nx
 | .assign x=>K {ws:=adst nt o.dst (aopv A.fr true x)++aJ5 A.fr true x} A.fs A.nx
 | .pick c a b=>aBr (ρ c) A.fs fun t fs=>match t with
  | true=>K {ws:=adst nt o.dst (aopv A.fr false a)} fs A.nx
  | false=>K {ws:=adst nt o.dst (aopv A.fr false b)} fs A.nx
 | .alloc t =>
  match szOf P t,agOf P t,aVJ P t with
  | some n,some ag,some z=>aJ6 nt o n ag z [] A K
  | _,_,_=>false
 | .box t x =>
  match szOf P t,agOf P t with
  | some n,some ag=>aJ6 nt o n ag (aopv A.fr true x) (aJ5 A.fr true x) A K
  | _,_=>false
 | .build t ps =>
  match P.underlying t,aVJ P t with
  | some (.struct fs),some (.agg z) =>
   match fs.toList.all (fun f=>(P.info? f.type).isSome),aRS (pO P fs) (ps.toList.map fun p=>(p.1,aopv A.fr false p.2)) z with
   | true,some cs=>fin (.agg cs)
   | _,_=>false
  | _,_=>false
 | .buildSlice t n ps =>
  match P.underlying t with
  | some (.slice e) =>
   match szOf P e,aVJ P e with
   | some sz,some z =>
    let es:=ps.toList.map fun p=>(p.1,aopv A.fr false p.2)
    match decide (n*sz≤16777216)&&Nat.beq z.cells.length sz&&z.solid&&decide (0<sz)&&aGS sz es n 0&&decide (0<n) with
    | true=>match aGR C.τ 0 ((es.map (·.2)).map AV.plain) with
     | some w=>K {ws:=adst nt o.dst (.sl (.root A.nx) w n 0 (.lit .i64 0) true)} A.fs (A.nx+1)
     | none=>false
    | false=>false
   | _,_=>false
  | _=>false
 | .load t p =>
  match szOf P t,agOf P t with
  | some n,some ag =>
   match aopd A.fr p with
   | .ptr id off =>
    match decide (0<n)&&(ag||Nat.beq n 1),look A.bx id with
    | true,some cs=>match aVK cs,apart off n ag cs with
     | true,some v=>match tk with
      | true=>match aGQ ag v with
       | some pc=>K {cr:=[(0,id,off,n)],cw:=[(0,id,off,pc)],ws:=adst nt o.dst v} A.fs A.nx
       | none=>false
      | false=>K {cr:=[(0,id,off,n)],ws:=adst nt o.dst v.plain} A.fs A.nx
     | _,_=>false
    | _,_=>false
   | .ref v=>match ag,v with
    | true,.agg cs=>match Nat.beq cs.length n with
     | true=>fin (AV.plain (.agg cs))
     | false=>false
    | true,_=>false
    | false,v=>match v.fits with
     | true=>fin v.plain
     | false=>false
   | _=>false
  | _,_=>false
 | .store t p x =>
  match szOf P t,agOf P t with
  | some n,some ag =>
   match aopd A.fr p,o.dst with
   | .ptr id off,none =>
    match look A.bx id,aGP n ag (aopv A.fr true x) with
    | some cs,some vs=>match aVK cs&&vs.all AV.fits&&decide (off+n≤cs.length)&&decide (0<n) with
     | true=>K {cw:=[(0,id,off,vs)],ws:=aJ5 A.fr true x} A.fs A.nx
     | false=>false
    | _,_=>false
   | _,_=>false
  | _,_=>false
 | .nilCheck x =>
  match aopd A.fr x with
  | .ptr id off=>fin (.ptr id off)
  | .ref v=>fin (.ref v)
  | _=>false
 | .binOp op t x y _=>bCc P nt o op t (ρ x) (ρ y) A K
 | .unOp op _ x =>
  match op,ρ x with
  | .not,.cn c=>fin (.cn (.not c))
  | .not,.nm _ .bool=>fin (.cn .unk)
  | .neg,.nm _ (.int k)=>K {ws:=adst nt o.dst (.nm (.root A.nx) (.int k))} A.fs (A.nx+1)
  | _,_=>false
 | .convert s d x =>
  match P.underlying s,P.underlying d,ρ x with
  | some (.int _),some (.int k),.nm _ (.int _)=>K {ws:=adst nt o.dst (.nm (.root A.nx) (.int k))} (match k.signed with | true=>A.fs | false=>(.le,.lit .i64 0,.root A.nx)::A.fs) (A.nx+1)
  | _,_,_=>false
 | .fieldAddr s x f =>
  match P.underlying s with
  | some (.struct fs) =>
   match pO P fs f with
   | some (off,n,ag)=>match decide (0<n),ρ x with
    | true,.ptr id o=>fin (.ptr id (o+off))
    | true,.ref v=>match afld off n ag v with
     | some p=>fin (.ref p)
     | none=>false
    | _,_=>false
   | none=>false
  | _=>false
 | .indexAddr t x i =>
  match P.underlying t with
  | some (.slice e) =>
   match szOf P e with
   | some n=>match aIx C n (ρ x) (ρ i) A.fs with
    | some v=>fin v
    | none=>false
   | none=>false
  | _=>false
 | .index t x i =>
  match P.underlying t,ρ x,ρ i with
  | some .string,.nm p .str,.nm i (.int .i64)=>match nnX A.fs i&&aXM A.fs i p with
   | true=>K {ws:=adst nt o.dst (.nm (.root A.nx) (.int .u8))} A.fs (A.nx+1)
   | false=>false
  | _,_,_=>false
 | .slice t x none (some h) none =>
  match P.underlying t,ρ x,ρ h with
  | some .string,.nm p .str,.nm (.lit k n) (.int _)=>match decide (0≤n)&&hasF A.fs (.le,.lit k n,.len p) with
   | true=>K {ws:=adst nt o.dst (.nm (.root A.nx) .str)} A.fs (A.nx+1)
   | false=>false
  | _,_,_=>false
 | .extract x i=>match ρ x with
  | .tup vs=>match nth vs i with
   | some v=>fin v.plain
   | none=>false
  | _=>false
 | .call c=>bBB P mt nt C o c A K
 | _=>false
def AEff.app (e:AEff) (A:ASt) (fs:List Fact) (nx:Nat):ASt:={fr:=e.ws++A.fr,bx:=e.nw++mJ A.bx e.cw,fs:=fs,nx:=nx}
def aAw (ops:Array Oper):Nat→Oper→ASt→(Bool→ASt→Bool)→Bool
 | 0,_,_,_=>false
 | n+1,o,A,K =>
  match o.guard with
  | none=>K true A
  | some (g,want) =>
   match ops[g]? with
   | some q =>
    match q.dst with
    | some s=>aAw ops n q A fun wq A =>
     match wq with
     | true=>aBr (aC5 A.fr s) A.fs fun b fs=>K (b==want) {A with fr:=(s,.cn (.k b))::A.fr,fs:=fs}
     | false=>match aC5 A.fr s with
      | .und=>K false A
      | _=>false
    | none=>false
   | none=>false
def aOps (ops:Array Oper):List Oper→ASt→(ASt→Bool)→Bool
 | [],A,K=>K A
 | o::os,A,K=>aAw ops (ops.size+1) o A fun b A =>
  match b with
  | true=>aOp P mt nt C o A fun e fs nx=>aOps ops os (e.app A fs nx) K
  | false=>aOps ops os {A with fr:=adst nt o.dst .und++A.fr} K
def aXN (ops:Array Oper):Nat→List Oper→List (Nat×Foot)→ASt→(List (Nat×Foot)→ASt→Bool)→Bool
 | _,[],log,A,K=>K log A
 | i,o::os,log,A,K=>aAw ops (ops.size+1) o A fun b A =>
  match b with
  | true=>aOp P mt nt C o A fun e fs nx=>aXN ops (i+1) os ((i,e.foot)::log) (e.app A fs nx) K
  | false=>aXN ops (i+1) os log {A with fr:=adst nt o.dst .und++A.fr} K
def aJa (bx:List (Nat×List AV)):List (Nat×Nat):=bx.map fun x=>(x.1,x.2.length)
def aTu (b:List (Nat×List AV)):List (Nat×Nat)→Option (List AV)
 | []=>some []
 | (i,n)::l=>match look b i,aTu b l with
  | some cs,some r=>if cs.length=n then some (cs++r) else none
  | _,_=>none
def aO5 (s:List AV):List (Nat×Nat)→List (Nat×List AV)
 | []=>[]
 | (i,n)::l=>(i,s.take n)::aO5 (s.drop n) l
def azip:List Nat→List AV→List (Nat×AV)
 | i::l,a::s=>(i,a)::azip l s
 | _,_=>[]
def aD0 (ids:List (Nat×Nat)):AV→Bool
 | .ptr id _=>ids.any fun x=>x.1==id
 | .agg cs=>cs.all AV.isNm
 | .ref _=>true
 | a=>a.isNm
def aTv (kp:List Nat) (sh:List (Nat×Nat)) (A:ASt):Option (List AV) :=
 match aTu A.bx sh with
 | some r =>
  let s:=kp.map (aC5 A.fr)++r
  match A.bx.all fun x=>sh.any fun y=>y.1==x.1 with
  | true=>some s
  | false=>match s.all (aD0 sh) with
   | true=>some s
   | false=>none
 | none=>none
def aO6 (kp:List Nat) (sh:List (Nat×Nat)) (s:List AV) (fs:List Fact) (nx:Nat):ASt :=
 { fr:=azip kp (s.take kp.length),bx:=aO5 (s.drop kp.length) sh,fs:=fs,nx:=nx}
def wO (cx:Sx):List HV→List AV→Nat→Option (List AV×Nat)
 | [],[],nx=>some ([],nx)
 | h::hs,a::as,nx =>
  let put b k:=match wO cx hs as (nx+k) with
   | some (r,nx)=>some (b::r,nx)
   | none=>none
  match h with
  | .same=>put a 0
  | .any=>put .any 0
  | .lf l=>put (ofLf (.root nx) l) 1
  | .el e=>put (ofEl (.root nx) e) 1
  | .acc n c m=>put (.sl (.root nx) n c m cx true) 1
 | _,_,_=>none
def aE8 (hv:List HV) (nx:Nat):Nat→Option Nat
 | 0=>match hv with
  | .lf _::_=>some nx
  | _=>none
 | k+1=>match hv with
  | .same::hs=>aE8 hs nx k
  | .any::hs=>aE8 hs nx k
  | _::hs=>aE8 hs (nx+1) k
  | []=>none
mutual
def AV.beq:AV→AV→Bool
 | .any,.any=>true
 | .und,.und=>true
 | .nm x l,.nm y k=>decide (x=y)&&decide (l=k)
 | .sl x n c m i o,.sl y n' c' m' i' o'=>decide (x=y)&&Nat.beq n n'&&Nat.beq c c'&&Nat.beq m m'&&decide (i=i')&&(o==o')
 | .cn c,.cn d=>decide (c=d)
 | .nil a,.nil b=>a==b
 | .agg a,.agg b=>AV.beqs a b
 | .tup a,.tup b=>AV.beqs a b
 | .ref a,.ref b=>AV.beq a b
 | .ptr i o,.ptr j p=>Nat.beq i j&&Nat.beq o p
 | _,_=>false
def AV.beqs:List AV→List AV→Bool
 | [],[]=>true
 | a::as,b::bs=>AV.beq a b&&AV.beqs as bs
 | _,_=>false
end
def bBC (fs:List Fact) (cx:Sx):HV→AV→AV→Bool
 | .same,a,b=>AV.beq a b
 | .any,_,_=>true
 | .lf l,_,b=>aMe fs l b
 | .el e,_,b=>aO3 fs e b
 | .acc n c m,_,b=>match b with
  | .sl _ n' c' m' i' own=>Nat.beq n n'&&own&&(match i' with
   | .lit _ z=>decide (m'*z.toNat+c'≤c)
   | i'=>(decide (.suc i'=cx)&&Nat.beq m m'&&Nat.ble c' (c+m))||(decide (i'=cx)&&Nat.beq m m'&&Nat.ble c' c))
  | .nil own=>own
  | _=>false
def sE (fs:List Fact) (cx:Sx):List HV→List AV→List AV→Bool
 | [],[],[]=>true
 | h::hs,a::as,b::bs=>bBC fs cx h a b&&sE fs cx hs as bs
 | _,_,_=>false
def aMg (l:List (Option Nat×List HV)) (e:Ex):Option (List HV) :=
 match l with
 | []=>none
 | (w,h)::r=>match e,w with
  | .brk i,some j=>if i=j then some h else aMg r e
  | .ret,none=>some h
  | _,_=>aMg r e
def aTw (l:List (Option Nat)) (e:Ex):Bool:=l.any fun w=>match e,w with
 | .brk i,some j=>Nat.beq i j
 | .ret,none=>true
 | _,_=>false
def vF : Code → ASt → (Ex → ASt → Bool) → Bool
 | .skip, A, K => K .nrm A
 | .label _, A, K => K .nrm A
 | .region rid ops draw, A, K => match look mt.frz rid with
  | some _ => false
  | none => match draw with
   | false => aOps P mt nt C ops ops.toList A (K .nrm)
   | true => match uW mt ops (Region.before ops) with
    | true => aXN P mt nt C ops 0 ops.toList [] A fun log A => match pC (Region.before ops) log with
     | true => K .nrm A
     | false => false
    | false => false
 | .seq a b, A, K => vF a A fun e A =>
  match e with
  | .nrm => vF b A K
  | .brk i => K (.brk i) A
  | .ret => K .ret A
 | .cond c a b, A, K => aBr (aopd A.fr c) A.fs fun t fs =>
  match t with
  | true => vF a { A with fr := acond c true A.fr, fs := fs } K
  | false => vF b { A with fr := acond c false A.fr, fs := fs } K
 | .block id b, A, K => vF b A fun e A =>
  match e with
  | .nrm => K .nrm A
  | .brk i => if i = id then K .nrm A else K (.brk i) A
  | .ret => K .ret A
 | .scope b, A, K => vF b A K
 | .exit id, A, K => K (.brk id) A
 | .ret, A, K => K .ret A
 | .loop b, A, K => match look mt.frl (fN b), look C.loops (fN b) with
  | none, some h =>
   let kp := wX mt b
   let sh := aJa A.bx
   match aTv kp sh A, aE8 h.hv A.nx h.cnt with
   | some s, some cn => match wO (.root cn) h.hv s A.nx, nth s h.cnt with
    | some (s1, nx1), some c0 =>
     (match c0 with
      | .nm (.lit k z) (.int .i64) => decide (k = .i64) && decide (0 ≤ z) && decide (z ≤ h.top) && sE A.fs (.lit k z) h.hv s s
      | _ => false) &&
     decide (h.top ≤ topL) &&
     vF b (aO6 kp sh s1 ((.le, .lit .i64 0, .root cn) :: (.le, .root cn, .lit .i64 h.top) :: A.fs) nx1) (fun e A' =>
      match aTv kp sh A' with
      | some s2 => match e with
       | .nrm => match nth s2 h.cnt with
        | some (.nm (.suc x) (.int .i64)) => decide (x = .root cn) && ltB A'.fs x h.top && sE A'.fs (.suc (.root cn)) h.hv s s2
        | _ => false
       | e => match aMg h.ex e with
        | some hx => aTw (kK b) e && sE A'.fs (.root cn) hx s s2
        | none => false
      | none => false) &&
     (kK b).all (fun w => match aMg h.ex (exOf w) with
      | some hx => match wO (.lit .i64 h.top) hx s A.nx with
       | some (s3, nx3) => K (exOf w) (aO6 kp sh s3 A.fs nx3)
       | none => false
      | none => false)
    | _, _ => false
   | _, _ => false
  | _, _ => false
 | _, _, _ => false
where acond (c : Operand) (b : Bool) (fr : List (Nat × AV)) : List (Nat × AV) :=
 match c with
 | .tmp t => (t, .cn (.k b)) :: fr
 | _ => fr
def aJ7 (own:Bool) (A:ASt) (r:ResultVar):Option AV :=
 match r with
 | .tmp t=>some (match own with | true=>aC5 A.fr t | false=>(aC5 A.fr t).plain)
 | .cell a t =>
  match szOf P t,agOf P t,aC5 A.fr a with
  | some n,some ag,.ptr id off=>match decide (0<n)&&(ag||Nat.beq n 1),look A.bx id with
   | true,some cs=>match aVK cs with
    | true=>(apart off n ag cs).map fun v=>match own with | true=>v | false=>v.plain
    | false=>none
   | _,_=>none
  | _,_,_=>none
def aJ8 (A:ASt):List ResultVar→Option (List AV)
 | []=>some []
 | r::l=>match aJ7 P false A r,aJ8 A l with
  | some v,some vs=>some (v::vs)
  | _,_=>none
def aVM (fn:Func) (outs:List El) (A:ASt):Bool :=
 match fn.results.toList with
 | [r]=>match aJ7 P mt.own A r with
  | some v=>v.solid&&aC6 A.fs outs [v]
  | none=>false
 | rs=>match aJ8 P A rs with
  | some vs=>vs.all AV.solid&&aC6 A.fs outs (vs.map AV.plainA)&&decide (outs.length≠1)
  | none=>false
def aAx:Nat→List El→List Fact
 | _,[]=>[]
 | r,e::es=>(match e with
  | ⟨false,[.rng k lo hi]⟩=>[(.le,.lit k lo,.root r),(.le,.root r,.lit k hi)]
  | _=>[])++aAx (r+1) es
def aFun (fn:Func) (sm:Summ):Bool :=
 match fn.body with
 | some c=>decide (sm.ins.length≤nt)&&(Nat.beq C.np 0||(Nat.ble C.np sm.ins.length&&Nat.beq C.cap sm.cap&&Nat.ble 1 sm.cap))&&(C.recs.isEmpty||(match nth sm.ins C.me with | some e=>e.ag==C.meAg | none=>false))&&vF P mt nt C c {fr:=azip (List.range sm.ins.length) (aVH 0 sm.ins),bx:=[],fs:=aAx 0 sm.ins,nx:=sm.ins.length} (fun e A =>
   match e with
   | .brk _=>false
   | _=>aVM P mt fn sm.outs A)
 | none=>false
end
variable {τ : Tb} {env l : List PV}
theorem aVN {α}:∀ {a b:List α} {i x},nth a i=some x→nth (a++b) i=some x
 | [],_,_,_,h=>by simp [nth] at h
 | _::_,_,0,_,h=>h
 | _::a,b,i+1,x,h=>by
  exact aVN (a:=a) h
theorem aGT {α}:∀ (a:List α) x,nth (a++[x]) a.length=some x
 | [],_=>rfl
 | _::a,x=>aGT a x
theorem dV l:∀ {x v},den env x=some v→den (env++l) x=some v
 | .root r,v,h=>aVN h
 | .cell p c,v,h=>by
  obtain ⟨w,a,h⟩:=aB h;simp [den,dV l a];exact h
 | .elem p i,v,h=>by
  obtain ⟨w,a,h⟩:=aB h;obtain ⟨j,b,h⟩:=aB h;simp [den,dV l a,dV l b];exact h
 | .lit k n,v,h=>h
 | .txt s,v,h=>h
 | .len p,v,h=>by
  obtain ⟨w,a,h⟩:=aB h;simp only [den,dV l a];exact h
 | .suc x,v,h=>by
  obtain ⟨w,a,h⟩:=aB h;simp [den,dV l a];exact h
theorem CnOk.mono l:∀ {c b},CnOk env c b→CnOk (env++l) c b
 | .k _,_,h=>h
 | .cmp o x y,b,⟨k,n,k',m,e,d,a⟩=>⟨k,n,k',m,dV l e,dV l d,a⟩
 | .not c,b,h=>CnOk.mono (c:=c) l h
 | .unk,_,_=>trivial
theorem dN.mono l {f} (h:dN env f):dN (env++l) f:=CnOk.mono l h
mutual
theorem Mt.mono (l:List PV):∀ {a:AV} {v:PV},Mt τ env a v→Mt τ (env++l) a v
 | _,_,.any v => .any v
 | _,_,.und => .und
 | _,_,.nm h c b => .nm (dV l h) c b
 | _,_,.sl h e d c => .sl (dV l h) e (dV l d) c
 | _,_,.cn h => .cn (CnOk.mono l h)
 | _,_,.nil o => .nil o
 | _,_,.agg h => .agg (Mts.mono l h)
 | _,_,.tup h => .tup (Mts.mono l h)
 | _,_,.ref h => .ref (Mt.mono l h)
 | _,_,.ptr i o => .ptr i o
theorem Mts.mono (l:List PV):∀ {a:List AV} {v:List PV},Mts τ env a v→Mts τ (env++l) a v
 | _,_,.nil => .nil
 | _,_,.cons h b => .cons (Mt.mono l h) (Mts.mono l b)
end
theorem FrOk.mono l:∀ {a v},FrOk τ env a v→FrOk τ (env++l) a v
 | _,_,.nil => .nil
 | _,_,.cons h b => .cons (h.mono l) (FrOk.mono l b)
theorem BxOk.mono l:∀ {a v},BxOk τ env a v→BxOk τ (env++l) a v
 | _,_,.nil => .nil
 | _,_,.cons h b => .cons (h.mono l) (BxOk.mono l b)
theorem FrOk.app:∀ {a b v w},FrOk τ env a v→FrOk τ env b w→FrOk τ env (a++b) (v++w)
 | _,_,_,_,.nil,h=>h
 | _,_,_,_,.cons h d,c => .cons h (FrOk.app d c)
theorem BxOk.app:∀ {a b v w},BxOk τ env a v→BxOk τ env b w→BxOk τ env (a++b) (v++w)
 | _,_,_,_,.nil,h=>h
 | _,_,_,_,.cons h d,c => .cons h (BxOk.app d c)
theorem FrOk.get:∀ {a v},FrOk τ env a v→∀ i,Mt τ env (aC5 a i) (gets v i)
 | _,_,.nil,i => .any _
 | _,_,.cons (i:=j) (a:=b) (v:=w) (l:=l) (m:=m) h c,i=>by
  have:=FrOk.get c i;unfold aC5 gets at this ⊢;simp [look];grind
theorem BxOk.look:∀ {a v},BxOk τ env a v→∀ i,(look a i=none∧look v i=none)∨∃ x y,look a i=some x∧look v i=some y∧Mts τ env x y
 | _,_,.nil,i => .inl ⟨rfl,rfl⟩
 | _,_,.cons (i:=j) (a:=b) (v:=w) (l:=l) (m:=m) h c,i=>by
  simp only [Go.Ev.look];by_cases e:j=i;· grind
  simp only [e];exact BxOk.look c i
theorem BxOk.get {a v} (h:BxOk τ env a v) {i x} (c:Go.Ev.look a i=some x):∃ y,Go.Ev.look v i=some y∧Mts τ env x y:=by
 rcases h.look i with ⟨b,_⟩ | ⟨x',y,b,e,d⟩;all_goals grind
theorem BxOk.none {a v} (h:BxOk τ env a v) {i} (b:Go.Ev.look a i=none):Go.Ev.look v i=none:=by
 rcases h.look i with ⟨_,c⟩ | ⟨x',y,d,_,_⟩;all_goals grind
theorem BxOk.put {x y} (b:Mts τ env x y) i:∀ {a v},BxOk τ env a v→BxOk τ env (mJ.aputBox a i x) (tP v i y)
 | _,_,.nil => .nil
 | _,_,.cons (i:=j) h c=>by
  simp [mJ.aputBox,tP];by_cases e:j=i;· simp [e];exact .cons b c
  simp [e];exact .cons h (BxOk.put b i c)
theorem Mts.len:∀ {a v},Mts τ env a v→a.length=v.length
 | _,_,.nil=>rfl
 | _,_,.cons _ b=>by simp [Mts.len b]
theorem Mts.nth:∀ {a v},Mts τ env a v→∀ {i x},Go.Ev.nth a i=some x→∃ y,Go.Ev.nth v i=some y∧Mt τ env x y
 | _,_,.nil,i,x,h=>by simp [Go.Ev.nth] at h
 | _,_,.cons h b,0,x,e=>by cases e;exact ⟨_,rfl,h⟩
 | _,_,.cons h b,i+1,x,e=>Mts.nth b (i:=i) e
theorem Mts.app:∀ {a b v w},Mts τ env a v→Mts τ env b w→Mts τ env (a++b) (v++w)
 | _,_,_,_,.nil,h=>h
 | _,_,_,_,.cons h d,c => .cons h (Mts.app d c)
theorem Mts.drop:∀ {a v} n,Mts τ env a v→Mts τ env (a.drop n) (v.drop n)
 | _,_,0,h=>h
 | _,_,n+1,.nil=>by simpa using Mts.nil
 | _,_,n+1,.cons _ b=>Mts.drop n b
theorem Mts.take:∀ {a v} n,Mts τ env a v→Mts τ env (a.take n) (v.take n)
 | _,_,0,h=>by simpa using Mts.nil
 | _,_,n+1,.nil=>by simpa using Mts.nil
 | _,_,n+1,.cons h b => .cons h (Mts.take n b)
theorem Mts.putNth {x y} (b:Mt τ env x y):∀ {a v} n,Mts τ env a v→Mts τ env (Go.Ev.putNth a n x) (Go.Ev.putNth v n y)
 | _,_,0,.nil => .nil
 | _,_,n+1,.nil => .nil
 | _,_,0,.cons _ c => .cons b c
 | _,_,n+1,.cons h c => .cons h (Mts.putNth b n c)
theorem Mts.putAt:∀ {x y},Mts τ env x y→∀ {a v} n,Mts τ env a v→Mts τ env (Go.Ev.putAt a n x) (Go.Ev.putAt v n y)
 | _,_,.nil,_,_,n,h=>h
 | _,_,.cons b c,_,_,n,h=>Mts.putAt c (n+1) (Mts.putNth b n h)
theorem Mts.map {f g} (b:∀ {a v},Mt τ env a v→Mt τ env (f a) (g v)):∀ {a v},Mts τ env a v→Mts τ env (a.map f) (v.map g)
 | _,_,.nil => .nil
 | _,_,.cons h c => .cons (b h) (Mts.map b c)
theorem Mts.one {a v} (h:Mt τ env a v):Mts τ env [a] [v] := .cons h .nil
theorem Mt.plain1:∀ {a v},Mt τ env a v→Mt τ env a.plain1 v.plain1
 | _,_,.any v => .any _
 | _,_,.und => .und
 | _,_,.nm h c b=>by
  cases c with
  | bool=>exact .nm h (.bool _) b
  | int=>exact .nm h (.int _ _) b
  | rng e=>exact .nm h (.rng e) b
  | str d=>exact .nm h (.str d) b
  | sl=>simp [isSl] at b
 | _,_,.sl h g f c => .sl h g f c
 | _,_,.cn h => .cn h
 | _,_,.nil o => .nil false
 | _,_,.agg h => .agg h
 | _,_,.tup h => .tup h
 | _,_,.ref h => .ref h
 | _,_,.ptr i o => .ptr i o
theorem Mt.plainA:∀ {a v},Mt τ env a v→Mt τ env a.plainA v.plainA
 | _,_,.agg h => .agg (h.map Mt.plain1)
 | _,_,.any v => .any _
 | _,_,.und => .und
 | _,_,h@(.nm _ c b)=>by
  cases c with
  | bool=>exact h
  | int=>exact h
  | rng=>exact h
  | str=>exact h
  | sl=>simp [isSl] at b
 | _,_,h@(.sl ..)=>h.plain1
 | _,_,h@(.cn _)=>h
 | _,_,h@(.nil _)=>h.plain1
 | _,_,h@(.tup _)=>h
 | _,_,h@(.ref _)=>h
 | _,_,h@(.ptr _ _)=>h
theorem Mt.plain:∀ {a v},Mt τ env a v→Mt τ env a.plain v.plain
 | _,_,.tup h => .tup (h.map Mt.plainA)
 | _,_,.any v => .any _
 | _,_,.und => .und
 | _,_,h@(.nm _ c b)=>by
  cases c with
  | bool=>exact h
  | int=>exact h
  | rng=>exact h
  | str=>exact h
  | sl=>simp [isSl] at b
 | _,_,h@(.sl ..)=>h.plainA
 | _,_,h@(.cn _)=>h
 | _,_,h@(.nil _)=>h.plainA
 | _,_,h@(.agg _)=>h.plainA
 | _,_,h@(.ref _)=>h
 | _,_,h@(.ptr _ _)=>h
theorem Mt.atom v:Mt τ env (aVG v) (ofAtom v):=by
 unfold aVG ofAtom;split;· exact .cn rfl
 ·exact .nm rfl (.int _ _) rfl
 ·split;· rename_i h;exact .nm rfl (.str h) rfl
  exact .any _
 ·exact .nil true
 exact .any _
theorem Mts.atoms:∀ (l:List Value),Mts τ env (l.map aVG) (l.map ofAtom)
 | [] => .nil
 | v::l => .cons (.atom v) (Mts.atoms l)
theorem Mt.value v:Mt τ env (aRQ v) (ofValue v):=by
 unfold aRQ ofValue;split;· exact .agg (Mts.atoms _)
 split;· grind
 exact .atom v
theorem Mt.opd {a v} (h:FrOk τ env a v) x:Mt τ env (aopd a x) (Go.Ev.opd v x):=by
 cases x with
 | tmp t=>exact h.get t
 | const c=>exact .value c
 | global _=>exact .any _
 | func _=>exact .any _
theorem Mt.opv {a v} (h:FrOk τ env a v) b x:Mt τ env (aopv a b x) (Go.Ev.opv v b x):=by
 cases x with
 | tmp t =>
  cases b;· exact (h.get t).plain
  exact h.get t
 | const c=>exact .value c
 | global _=>exact .any _
 | func _=>exact .any _
theorem FrOk.left {a v} (h:FrOk τ env a v) b x:FrOk τ env (aJ5 a b x) (Go.Ev.left v b x):=by
 cases x with
 | tmp t =>
  cases b;· exact .nil
  exact .cons (h.get t).plain .nil
 | const c=>exact .nil
 | global _=>exact .nil
 | func _=>exact .nil
theorem FrOk.dst {a v} (h:Mt τ env a v) b d:FrOk τ env (adst b d a) (dstW b d v):=by
 cases d with
 | none=>exact .nil
 | some d =>
  unfold adst dstW;by_cases e:d<b;· simp [e];exact .cons h .nil
  simp [e];exact .nil
theorem aD1:∀ {c b fs},CnOk env c b→(∀ f,f∈fs→dN env f)→∀ f,f∈yC c b fs→dN env f
 | .cmp o x y,b,fs,⟨k,n,k',m,g,d,j⟩,i,f,a=>by
  cases o<;>cases b<;>simp [yC] at a
  ·rcases a with rfl | a;· refine ⟨k',m,k,n,d,g,?_⟩;simp [CO.ev] at j ⊢;grind
   grind
  ·rcases a with rfl | a;· exact ⟨k,n,k',m,g,d,j⟩
   grind
  ·rcases a with rfl | a;· refine ⟨k',m,k,n,d,g,?_⟩;simp [CO.ev] at j ⊢;grind
   grind
  ·rcases a with rfl | a;· exact ⟨k,n,k',m,g,d,j⟩
   grind
  ·grind
  have e:n=m:=by
   simp [CO.ev] at j;grind
  subst e;rcases a with rfl | rfl | a;· exact ⟨k,n,k',n,g,d,by simp [CO.ev]⟩
  ·exact ⟨k',n,k,n,d,g,by simp [CO.ev]⟩
  grind
 | .not c,b,fs,h,i,f,a=>aD1 (c:=c) (b := !b) h i f (by simpa [yC] using a)
 | .k _,b,fs,h,i,f,a=>i f (by simpa [yC] using a)
 | .unk,b,fs,h,i,f,a=>i f (by simpa [yC] using a)
theorem aRT:∀ {c b b'},aGO c=some b'→CnOk env c b→b=b'
 | .k _,b,b',h,a=>by simp [aGO] at h;rw [← h];exact a
 | .not c,b,b',h,a=>by
  simp [aGO] at h;split at h;· rename_i x d;have:=aRT d a;simp_all
  grind
 | .cmp _ _ _,b,b',h,a=>by simp [aGO] at h
 | .unk,b,b',h,a=>by simp [aGO] at h
theorem aBG {fs f} (h:hasF fs f=true) (a:∀ f,f∈fs→dN env f):dN env f:=by
 unfold hasF at h;grind
def wP (env:List PV) (x:Sx) (n:Int):Prop:=∃ k,den env x=some (.int k n)
theorem wP.inj {x n m} (h:wP env x n) (a:wP env x m):n=m:=by
 obtain ⟨k,h⟩:=h;obtain ⟨k',a⟩:=a;grind
theorem aD2 {x y} (h:dN env (.lt,x,y)):∃ n m,wP env x n∧wP env y m∧n<m:=by
 obtain ⟨k,n,k',m,c,b,a⟩:=h;exact ⟨n,m,⟨k,c⟩,⟨k',b⟩,by simpa [CO.ev] using a.symm⟩
theorem qY {x y} (h:dN env (.le,x,y)):∃ n m,wP env x n∧wP env y m∧n≤m:=by
 obtain ⟨k,n,k',m,c,b,a⟩:=h;exact ⟨n,m,⟨k,c⟩,⟨k',b⟩,by simpa [CO.ev] using a.symm⟩
theorem wP.lit {k n m} (h:wP env (.lit k n) m):m=n:=by
 obtain ⟨k',h⟩:=h;simp [den] at h;omega
theorem wP.len {p m} (h:wP env (.len p) m):∃ v,den env p=some v∧m=lenOf v:=by
 obtain ⟨k',h⟩:=h;obtain ⟨v,hv,h⟩:=aB h;grind
theorem bBD {fs p a} (h:leB fs p a=true) (d:∀ f,f∈fs→dN env f):∃ v,den env p=some v∧lenOf v≤a:=by
 unfold leB at h;rw [List.any_eq_true] at h;obtain ⟨g,i,e⟩:=h;split at e;· obtain ⟨n,m,c,b,j⟩:=qY (d _ i);obtain ⟨v,hv,rfl⟩:=c.len;have:=b.lit;grind
 grind
theorem aVO {fs x a} (h:ltB1 fs x a=true) (b:∀ f,f∈fs→dN env f):∃ n,wP env x n∧n<a:=by
 unfold ltB1 at h;rw [List.any_eq_true] at h;obtain ⟨g,d,e⟩:=h;split at e;· rw [Bool.and_eq_true,decide_eq_true_eq] at e;obtain ⟨rfl,l⟩:=e;obtain ⟨v,hv,o⟩:=bBD l b;obtain ⟨n,m,k,c,i⟩:=aD2 (b _ d);obtain ⟨p,j,rfl⟩:=c.len;grind
 ·obtain ⟨n,m,k,c,i⟩:=qY (b _ d);have:=c.lit;grind
 grind
theorem aZP {fs x a} (h:ltB fs x a=true) (b:∀ f,f∈fs→dN env f):∃ n,wP env x n∧n<a:=by
 unfold ltB at h;rw [Bool.or_eq_true] at h;rcases h with h | h;· exact aVO h b
 rw [List.any_eq_true] at h;obtain ⟨g,c,e⟩:=h;split at e;· rw [Bool.and_eq_true,decide_eq_true_eq] at e;obtain ⟨rfl,i⟩:=e;obtain ⟨m,j,p⟩:=aVO i b;obtain ⟨n,l,o,d,k⟩:=aD2 (b _ c);have:=j.inj d;grind
 grind
theorem aRU {fs x p} (h:aXM fs x p=true) (b:∀ f,f∈fs→dN env f):∃ n v,wP env x n∧den env p=some v∧n<lenOf v:=by
 unfold aXM at h;rw [List.any_eq_true] at h;obtain ⟨g,j,e⟩:=h;split at e
 ·rw [Bool.and_eq_true,decide_eq_true_eq] at e;obtain ⟨rfl,a⟩:=e;obtain ⟨n,m,r,d,q⟩:=aD2 (b _ j);rw [Bool.or_eq_true,Bool.or_eq_true,decide_eq_true_eq] at a;rcases a with (rfl | a) | a;· obtain ⟨v,hv,rfl⟩:=d.len;grind
  ·obtain ⟨o,l,c,i,k⟩:=qY (aBG a b);have:=d.inj c;obtain ⟨v,hv,rfl⟩:=i.len;grind
  obtain ⟨o,l,c,i,k⟩:=aD2 (aBG a b);have:=d.inj c;obtain ⟨v,hv,rfl⟩:=i.len;grind
 grind
theorem aVP:∀ {x fs k n},nnX fs x=true→(∀ f,f∈fs→dN env f)→den env x=some (.int k n)→(k = .i64∨∀ y,x ≠ .suc y)→0≤n
 | .lit _ _,fs,k,n,h,g,d,_=>by
  simp [nnX] at h;simp [den] at d;omega
 | .len p,fs,k,n,h,g,d,_=>by
  obtain ⟨v,hv,d⟩:=aB d;grind
 | .suc x,fs,k,n,h,g,d,o=>by
  simp [nnX] at h;obtain ⟨v,hv,d⟩:=aB d;split at d
  ·rename_i k' m;obtain ⟨rfl,rfl⟩:=d;rcases o with rfl | o
   ·have q:=aVP h.1 g hv (.inl rfl);obtain ⟨s,i,j⟩:=aZP h.2 g;have:=i.inj ⟨_,hv⟩;have  := by have e:topL=1073741824:=rfl;omega
    rw [show IntKind.wrap .i64 (m+1)=m+1 by simp [IntKind.wrap,IntKind.bits];omega];omega
   grind
  grind
 | .root r,fs,k,n,h,g,d,_=>by
  obtain ⟨a,b,i,j,l⟩:=qY (aBG h g);have:=i.lit;have:=j.inj ⟨_,d⟩;omega
 | .cell p c,fs,k,n,h,g,d,_=>by
  obtain ⟨a,b,i,j,l⟩:=qY (aBG h g);have:=i.lit;have:=j.inj ⟨_,d⟩;omega
 | .elem p c,fs,k,n,h,g,d,_=>by
  obtain ⟨a,b,i,j,l⟩:=qY (aBG h g);have:=i.lit;have:=j.inj ⟨_,d⟩;omega
 | .txt p,fs,k,n,h,g,d,_=>by simp [den] at d
theorem aJ9 {fs m c i k z} (h:capX fs m i=some c) (l:∀ f,f∈fs→dN env f) (j:den env i=some (.int k z)):m*z.toNat≤c:=by
 unfold capX at h;split at h;· simp
 split at h;· simp [den] at j;grind
 split at h
 ·rename_i o y k' b d;cases h;have g:=List.find?_some d;have a:=List.mem_of_find?_eq_some d;split at g;· rename_i u r b' e;cases e;rw [decide_eq_true_eq] at g;subst g;obtain ⟨n,t,q,p,s⟩:=qY (l _ a);have:=p.lit;have:=q.inj ⟨_,j⟩;exact Nat.mul_le_mul_left _ (by omega)
  grind
 grind
theorem aZQ {fs x d n} (h:loQ fs x d=true) (k:∀ f,f∈fs→dN env f) (c:wP env x n):d≤n:=by
 unfold loQ at h;split at h;· have:=c.lit;grind
 rw [List.any_eq_true] at h;obtain ⟨g,l,e⟩:=h;split at e;· rw [Bool.and_eq_true,decide_eq_true_eq,decide_eq_true_eq] at e;obtain ⟨rfl,o⟩:=e;obtain ⟨a,b,j,i,m⟩:=qY (k _ l);have:=j.lit;have:=i.inj c;omega
 grind
theorem aVQ {fs x j n} (h:hiQ1 fs x j=true) (k:∀ f,f∈fs→dN env f) (c:wP env x n):n≤j:=by
 unfold hiQ1 at h;split at h;· have:=c.lit;grind
 rw [List.any_eq_true] at h;obtain ⟨g,l,e⟩:=h;split at e;· rw [Bool.and_eq_true,decide_eq_true_eq,decide_eq_true_eq] at e;obtain ⟨rfl,o⟩:=e;obtain ⟨a,b,i,d,m⟩:=qY (k _ l);have:=d.lit;have:=i.inj c;omega
 ·rw [Bool.and_eq_true,decide_eq_true_eq,decide_eq_true_eq] at e;obtain ⟨rfl,o⟩:=e;obtain ⟨a,b,i,d,m⟩:=aD2 (k _ l);have:=d.lit;have:=i.inj c;omega
 grind
theorem aZR {fs x i n} (h:hiQ fs x i=true) (c:∀ f,f∈fs→dN env f) (d:wP env x n):n≤i:=by
 unfold hiQ at h;rw [Bool.or_eq_true] at h;rcases h with h | h;· exact aVQ h c d
 rw [List.any_eq_true] at h;obtain ⟨g,m,e⟩:=h;split at e;· rw [Bool.and_eq_true,decide_eq_true_eq] at e;obtain ⟨rfl,l⟩:=e;obtain ⟨a,b,k,j,o⟩:=aD2 (c _ m);have:=k.inj d;have:=aVQ l c j;omega
 grind
theorem bAt {fs c b} (h:notQ fs c=true) (g:CnOk env c b) (d:∀ f,f∈fs→dN env f):b=false:=by
 unfold notQ at h;split at h
 ·obtain ⟨j,n,i,m,a,e,rfl⟩:=g;have k:=wP.lit ⟨_,e⟩;rw [Bool.or_eq_true] at h;simp only [CO.ev];rw [beq_eq_false_iff_ne];rcases h with h | h;· have:=aZR h d ⟨_,a⟩;omega
  have:=aZQ h d ⟨_,a⟩;omega
 grind
theorem aVR {a fs K v} (h:aBr a fs K=true) (g:Mt τ env a v) (e:∀ f,f∈fs→dN env f):∃ b c,v = .bool b∧K b c=true∧(∀ f,f∈c→dN env f):=by
 unfold aBr at h;split at h
 ·cases g with
  | cn d =>
   rename_i b;split at h;· rename_i b' j;have:=aRT j d;grind
   split at h;· rename_i i;have:=bAt i d e;grind
   rw [Bool.and_eq_true] at h;cases b with
   | true=>exact ⟨_,_,rfl,h.1,aD1 d e⟩
   | false=>exact ⟨_,_,rfl,h.2,aD1 d e⟩
 ·cases g with
  | nm m k l =>
   cases k with
   | bool b =>
    cases b with
    | true=>grind
    | false=>grind
 grind
variable {τ : Tb} {env l : List PV}
theorem aRV:∀ vs,(List.range vs.length).map (gt vs)=vs:=by
 intro vs;apply List.ext_getElem;· simp
 intro i b a;simp [aBt,List.getElem?_eq_getElem a]
theorem aXO {a v} (h:Mt τ env a v) (b:a.isNm=true):v.solid1=true:=by
 cases h with
 | nm e c d=>cases c<;>first | rfl | simp at d
 | sl=>rfl
 | cn=>rfl
 | nil=>rfl
 | any=>simp [AV.isNm] at b
 | und=>simp [AV.isNm] at b
 | agg=>simp [AV.isNm] at b
 | tup=>simp [AV.isNm] at b
 | ref=>simp [AV.isNm] at b
 | ptr=>simp [AV.isNm] at b
theorem aGU:∀ {b vs},Mts τ env b vs→b.all AV.isNm=true→vs.all solid1=true
 | _,_,.nil,_=>rfl
 | _,_,.cons h c,a=>by
  simp only [List.all_cons,Bool.and_eq_true] at a ⊢;exact ⟨aXO h a.1,aGU c a.2⟩
theorem aVS {a v} (h:Mt τ env a v) (b:a.fits=true):fits 0 v=true:=by
 cases h with
 | nm e c d=>cases c<;>first | rfl | simp at d
 | sl=>rfl
 | cn=>rfl
 | nil=>rfl
 | ref=>rfl
 | ptr=>simp [fits]
 | any=>simp [AV.fits,AV.isNm] at b
 | und=>simp [AV.fits,AV.isNm] at b
 | agg=>simp [AV.fits,AV.isNm] at b
 | tup=>simp [AV.fits,AV.isNm] at b
theorem aKa:∀ {b vs},Mts τ env b vs→b.all AV.fits=true→vs.all (fits 0)=true
 | _,_,.nil,_=>rfl
 | _,_,.cons h c,a=>by
  simp only [List.all_cons,Bool.and_eq_true] at a ⊢;exact ⟨aVS h a.1,aKa c a.2⟩
theorem aC7 {a v} (h:Mt τ env a v) (b:a.solid=true):v.solid=true:=by
 cases h with
 | agg c=>exact aGU c b
 | nm e d c=>cases d<;>first | rfl | simp at c
 | sl=>rfl
 | cn=>rfl
 | nil=>rfl
 | any=>simp [AV.solid,AV.isNm] at b
 | und=>simp [AV.solid,AV.isNm] at b
 | tup=>simp [AV.solid,AV.isNm] at b
 | ref=>simp [AV.solid,AV.isNm] at b
 | ptr=>simp [AV.solid,AV.isNm] at b
theorem aTx {v:PV} (h:v.solid=true):v.free=true:=by
 unfold PV.free;split;· simp [PV.solid,PV.solid1] at h
 all_goals grind
theorem aGV:∀ {b vs},Mts τ env b vs→b.all AV.solid=true→vs.all free=true
 | _,_,.nil,_=>rfl
 | _,_,.cons h c,a=>by
  simp only [List.all_cons,Bool.and_eq_true] at a ⊢;exact ⟨aTx (aC7 h a.1),aGV c a.2⟩
theorem aGW {n i a g v} (h:aGP n i a=some g) (f:Mt τ env a v):∃ vs,mB n i v=some vs∧Mts τ env g vs:=by
 unfold aGP at h;split at h
 ·split at h
  ·rename_i d;cases h;cases f with
   | agg c =>
    rename_i vs;refine ⟨vs,?_,c⟩;have e:vs.length=n:=by rw [← c.len,d]
    simp [mB,e];rw [← e,aRV]
  grind
 ·grind
 split at h
 ·rename_i b;cases h;refine ⟨[v],?_,.one f⟩;cases f with
  | nm j d c=>cases d<;>first | rfl | simp at c
  | sl=>rfl
  | cn=>rfl
  | nil=>rfl
  | ref=>rfl
  | ptr=>rfl
  | any=>simp [AV.fits,AV.isNm] at b
  | und=>simp [AV.fits,AV.isNm] at b
  | agg=>simp [AV.fits,AV.isNm] at b
  | tup=>simp [AV.fits,AV.isNm] at b
 grind
theorem aO7 {off n c a d vs} (h:apart off n c d=some a) (b:Mts τ env d vs):∃ v,part off n c vs=some v∧Mt τ env a v:=by
 unfold apart at h;cases c with
 | true =>
  simp only at h ⊢;split at h;· rename_i e;cases h;rw [b.len] at e;exact ⟨_,if_pos e,.agg ((b.drop off).take n)⟩
  grind
 | false=>exact b.nth h
theorem aKb {b vs} (h:aVK b=true) (e:Mts τ env b vs):uV vs=false:=by
 cases e with
 | nil=>rfl
 | cons d c =>
  cases c with
  | nil =>
   have:=aVS d (by simpa [aVK] using h);unfold uV;split;· rename_i a;cases a;simp [fits,solid1] at this
   rfl
  | cons f c=>unfold uV;simp
theorem aRW {place}:∀ {e f},FrOk τ env e f→∀ {a vs r},Mts τ env a vs→aRS place e a=some r →
  ∃ d,(∀ {R} (K:List PV→Option R),aBq place f vs K=K d)∧Mts τ env r d
 | _,_,.nil,a,vs,r,b,h=>by cases h;exact ⟨vs,fun K=>rfl,b⟩
 | _,_,.cons (i:=i) k j,a,vs,r,b,h=>by
  simp [aRS] at h;split at h
  ·rename_i off size n q;split at h
   ·rename_i ws g;split at h;· rename_i l;obtain ⟨us,m,c⟩:=aGW g k;obtain ⟨d,p,o⟩:=aRW j (Mts.putAt c off b) h;rw [b.len] at l;simp [aBq,bnd];grind
    grind
   grind
  grind
section
variable {P : Program} {mt : Hints} {nt : Nat} {C : Cfg} {O : Orc}
def nJ (P:Program) (mt:Hints) (nt:Nat) (O:Orc) (τ:Tb) (env:List PV) (o:Oper) (A:ASt) (st:St) (K:AK):Prop :=
 ∃ e ae fs nx l,aR P mt nt O o st some=some e∧Good τ (env++l) (ae.app A fs nx) (e.app st)∧e.up=none∧e.foot=ae.foot∧K ae fs nx=true
variable {o : Oper} {A : ASt} {st : St} {K : AK}
theorem Good.ws {l} (d:Good τ env A st) {a ws fs e} (g:FrOk τ (env++l) a ws) (h:∀ f,f∈fs→dN (env++l) f) (i:e=(env++l).length) :
  Good τ (env++l) (AEff.app {ws:=a} A fs e) (Eff.app {ws:=ws} st):=by
 obtain ⟨b,j,c⟩:=d.bx;exact ⟨g.app (d.fr.mono l),⟨b,by show wT (cP st.bx []) []=_;rw [j];rfl,c.mono l⟩,h,i⟩
theorem aBf (d:Good τ env A st) {a ws} l {fs b} (e:aR P mt nt O o st some=some {ws:=ws}) (c:FrOk τ (env++l) a ws)
  (g:∀ f,f∈fs→dN (env++l) f) (h:b=(env++l).length) (i:K {ws:=a} fs b=true):nJ P mt nt O τ env o A st K :=
 ⟨_,_,fs,b,l,e,d.ws c g h,rfl,rfl,i⟩
theorem aKc (b:Good τ env A st) {a ws} (c:aR P mt nt O o st some=some {ws:=ws}) (e:FrOk τ env a ws) (d:K {ws:=a} A.fs A.nx=true):nJ P mt nt O τ env o A st K :=
 aBf b [] c (by grind) (by simpa using b.fs) (by simpa using b.nx) d
theorem mK (b:Good τ env A st) {a v} (c:aR P mt nt O o st some=some {ws:=dstW nt o.dst v}) (d:Mt τ env a v) (e:K {ws:=adst nt o.dst a} A.fs A.nx=true):nJ P mt nt O τ env o A st K :=
 aKc b c (.dst d nt o.dst) e
theorem aGX (b:Good τ env A st) {a v} (c:aR P mt nt O o st some=some {ws:=dstW nt o.dst v}) (d:Mt τ (env++[v]) a v) (e:K {ws:=adst nt o.dst a} A.fs (A.nx+1)=true):nJ P mt nt O τ env o A st K :=
 aBf b [v] c (.dst d nt o.dst) (fun f h=>(b.fs f h).mono _) (by simp [b.nx]) e
theorem aGY (a:Good τ env A st) v:den (env++[v]) (.root A.nx)=some v:=by
 rw [a.nx];exact aGT env v
theorem Mt.newInt (a:Good τ env A st) k n:Mt τ (env++[.int k n]) (.nm (.root A.nx) (.int k)) (.int k n) := .nm (aGY a _) (.int k n) rfl
theorem aJb (g:Good τ env A st) {n q v w lv j} (x:Mt τ env v w) (s:FrOk τ env lv j) (h:aJ6 nt o n q v lv A K=true)
  (t:aR P mt nt O o st some=newBox nt o n q w j st some):nJ P mt nt O τ env o A st K:=by
 obtain ⟨b,r,e⟩:=g.bx;unfold aJ6 at h;split at h
 ·rename_i id cs a k;split at h
  ·rename_i f;obtain ⟨vs,i,c⟩:=aGW k x;have u:kJ nt st o.dst=some id:=by
    unfold aRR at a;unfold kJ;split at a
    ·rename_i d m;rw [r,m];split at a
     ·rename_i l;split at a;· cases a;show (match look b id with | none=>if id<nt then some id else none | some _=>none)=some id;rw [e.none l];grind
      grind
     grind
    grind
   have p:aR P mt nt O o st some=some {ws:=(id,.ptr 0 id 0)::j,nw:=[(id,vs)]}:=by
    rw [t];simp [newBox,u,i,bnd,cnd,aKa c f]
   refine ⟨_,_,A.fs,A.nx,[],p,?_,rfl,rfl,h⟩;simp;refine ⟨(FrOk.cons (.ptr id 0) s).app g.fr,⟨(id,vs)::b,?_,.cons c e⟩,g.fs,g.nx⟩;show wT (cP st.bx []) [(id,vs)]=_;rw [r];rfl
  grind
 grind
theorem aO8 {t z} (h:aVJ P t=some z):∃ v,aEX P t=some v∧Mt τ env z v:=by
 unfold aVJ at h;unfold aEX;split at h
 ·rename_i i b;cases a:i.zero with
  | none=>grind
  | some v =>
   rw [a] at h;cases h;exact ⟨ofValue v,by grind,.value v⟩
 grind
theorem tZ {b id}:bB [b] 0 id=look b id:=rfl
end
variable {τ : Tb} {env l : List PV}
theorem aFZ {fs} (g:∀ f,f∈fs→dN env f) {l a v} (h:aMe fs l a=true) (b:Mt τ env a v):LfOk τ l v:=by
 unfold aMe at h;split at h;· cases b;exact .bool _
 ·rw [Bool.and_eq_true,Bool.and_eq_true,beq_iff_eq] at h;cases b with
  | sl c j o e =>
   obtain ⟨⟨rfl,i⟩,d⟩:=h;have:=Nat.eq_of_beq_eq_true i;subst this;split at d;· rename_i k p;have q:=aJ9 p g o;have r:=Nat.le_of_ble_eq_true d;exact .sl j (by omega)
   grind
 ·rw [beq_iff_eq] at h;subst h;cases b;exact .sl (by simp) (by simp)
 ·rw [Bool.and_eq_true,Bool.and_eq_true,decide_eq_true_eq] at h;obtain ⟨⟨rfl,i⟩,d⟩:=h;cases b with
  | nm c e m =>
   cases e with
   | int k n=>exact .rng ⟨aZQ i g ⟨_,c⟩,aZR d g ⟨_,c⟩⟩
 ·rw [decide_eq_true_eq] at h;subst h;cases b with
  | nm c e m=>exact e
 grind
theorem aMh {fs} (c:∀ f,f∈fs→dN env f):∀ {a b vs},aI9 fs a b=true→Mts τ env b vs→CsOk τ a vs
 | [],_,_,h,.nil => .nil
 | _::_,_,_,h,.nil=>by simp [aI9] at h
 | [],_,_,h,.cons _ _=>by simp [aI9] at h
 | l::a,_,_,h,.cons d e=>by
  simp [aI9] at h;exact .cons (aFZ c h.1 d) (aMh c h.2 e)
theorem aKd {fs} (c:∀ f,f∈fs→dN env f) {e a v} (h:aO3 fs e a=true) (d:Mt τ env a v):ElOk τ e v:=by
 obtain ⟨ag,cs⟩:=e;unfold aO3 at h;split at h
 ·rename_i b;cases b;cases d with
  | agg g=>exact .ag (aMh c h g)
 ·grind
 rename_i b;cases b;split at h;· rename_i l i;cases i;exact .one (aFZ c h d)
 grind
inductive ElsOk (τ:Tb):List El→List PV→Prop
 | nil:ElsOk τ [] []
 | cons {e:El} {es:List El} {v:PV} {vs:List PV} (h:ElOk τ e v) (hs:ElsOk τ es vs):ElsOk τ (e::es) (v::vs)
theorem yD {fs} (b:∀ f,f∈fs→dN env f):∀ {es a vs},aC6 fs es a=true→Mts τ env a vs→ElsOk τ es vs
 | [],_,_,h,.nil => .nil
 | _::_,_,_,h,.nil=>by simp [aC6] at h
 | [],_,_,h,.cons _ _=>by simp [aC6] at h
 | l::e,_,_,h,.cons c d=>by
  simp [aC6] at h;exact .cons (aKd b h.1 c) (yD b h.2 d)
theorem aO9 {x l v} (a:den env x=some v) (h:LfOk τ l v):Mt τ env (ofLf x l) v:=by
 cases h with
 | bool b=>exact .nm a (.bool b) rfl
 | int k n=>exact .nm a (.int k n) rfl
 | rng _=>exact .nm a (.int _ _) rfl
 | str d=>exact .nm a (.str d) rfl
 | sl c e=>exact .sl (k := .i64) (z:=0) a c rfl (by omega)
theorem aRX {x cs} (d:∀ j,j<cs.length→den env (.cell x j)=nth cs j):∀ {b vs} j,cs.drop j=vs→CsOk τ b vs→Mts τ env (bAs x j b) vs
 | [],_,j,_,.nil => .nil
 | l::b,v::vs,j,e,.cons h g=>by
  have a:j<cs.length:=by
   rcases Nat.lt_or_ge j cs.length with h | h;· exact h
   rw [List.drop_eq_nil_of_le h] at e;grind
  have c:=e;rw [List.drop_eq_getElem_cons a] at c;obtain ⟨i,f⟩:=List.cons.inj c;refine .cons (aO9 ?_ h) (aRX d (j+1) f g);rw [d j a,jS,List.getElem?_eq_getElem a,i]
theorem aKe {x e v} (a:den env x=some v) (h:ElOk τ e v):Mt τ env (ofEl x e) v:=by
 cases h with
 | ag b =>
  rename_i d vs;exact .agg (aRX (cs:=vs) (fun j c=>by simp [den,a,bnd,PV.cells]) 0 rfl b)
 | one h=>exact aO9 a h
theorem CsOk.len:∀ {a vs},CsOk τ a vs→a.length=vs.length
 | _,_,.nil=>rfl
 | _,_,.cons _ b=>by simp [b.len]
theorem ElOk.cells {e v} (h:ElOk τ e v):v.cells.length=e.size:=by
 cases h with
 | ag a=>exact a.len.symm
 | one h=>cases h<;>rfl
theorem aKf {n sz es} (a:∀ e,e∈es→ElOk τ (elOf τ n) e) (b:(elOf τ n).size=sz):szOk sz es=true:=by
 cases es with
 | nil=>rfl
 | cons e es =>
  simp [szOk];rw [(a e (by simp)).cells,b]
theorem aJc:∀ {σ} {n w a},aGR σ n a=some w→n≤w∧∃ e,nth σ (w-n)=some e∧a.all (aO3 [] e)=true
 | [],n,w,a,h=>by simp [aGR] at h
 | e::σ,n,w,a,h=>by
  simp [aGR] at h;split at h;· rename_i f;cases h;exact ⟨by omega,e,by simp [nth],f⟩
  obtain ⟨g,d,c,b⟩:=aJc h;refine ⟨by omega,d,?_,b⟩;rw [show w-n=(w-(n+1))+1 by omega];exact c
theorem aRY {e}:∀ {a vs},Mts τ env a vs→a.all (aO3 [] e)=true→∀ v,v∈vs→ElOk τ e v
 | _,_,.nil,_,v,h=>by grind
 | _,_,.cons b c,h,v,hv=>by
  simp only [List.all_cons,Bool.and_eq_true] at h;rcases List.mem_cons.1 hv with rfl | hv;· exact aKd (fs:=[]) (by simp) h.1 b
  exact aRY c h.2 v hv
theorem aRZ {sz} (f:0<sz) z:∀ {b g},FrOk τ env b g→∀ pre m,aGS sz b (pre.length+m) pre.length=true →
  m=g.length∧∀ {R} (K:List PV→Option R),wV sz g (pre++List.replicate m z) K=K (pre++g.map fun x=>x.2.plain)
 | _,_,.nil,pre,m,h=>by
  have:m=0:=by have:=Nat.eq_of_beq_eq_true h;omega
  subst this;exact ⟨rfl,fun K=>by simp [wV]⟩
 | _,_,.cons (i:=i) (a:=a) (v:=v) (l:=b) (m:=g) r q,pre,m,h=>by
  simp only [aGS,Bool.and_eq_true] at h;obtain ⟨⟨⟨o,d⟩,p⟩,y⟩:=h;have o:=Nat.eq_of_beq_eq_true o;have p:=Nat.eq_of_beq_eq_true p;have u:v.cells.length=sz:=by
   rw [← p];cases r with
   | agg s=>exact s.len.symm
   | nm C t q=>cases t<;>first | rfl | simp at q
   | sl=>rfl
   | cn=>rfl
   | nil=>rfl
   | any=>simp [AV.solid,AV.isNm] at d
   | und=>simp [AV.solid,AV.isNm] at d
   | tup=>simp [AV.solid,AV.isNm] at d
   | ref=>simp [AV.solid,AV.isNm] at d
   | ptr=>simp [AV.solid,AV.isNm] at d
  have w:∃ c,m=c+1:=by
   cases m with
   | succ c=>simp
   | zero =>
    have key:∀ {b} {n k},n<k→aGS sz b n k=false:=by
     intro b;induction b with
     | nil=>intro n k j;simp [aGS];cases D:Nat.beq n k with
      | false=>rfl
      | true=>simp_all
     | cons x b A=>simp [aGS];grind
    grind
  obtain ⟨c,rfl⟩:=w;have E:=aRZ f z q (pre++[v.plain]) c (by grind);have B:el sz v=some v.plain:=if_pos ⟨aC7 r d,u,f⟩;have j:i<(pre++List.replicate (c+1) z).length:=by grind
  simp [wV,bnd];have e:putNth (pre++List.replicate (c+1) z) i v.plain=(pre++[v.plain])++List.replicate c z:=by
   rw [fV,o,List.replicate_succ];simp
  grind
theorem aR0 {ps:List (Nat×Operand)} {fr a} (h:FrOk τ env a fr):FrOk τ env (ps.map fun p=>(p.1,aopv a false p.2)) (ps.map fun p=>(p.1,opv fr false p.2)):=by
 induction ps with
 | nil=>exact .nil
 | cons p ps b=>exact .cons (.opv h false p.2) b
theorem FrOk.vals:∀ {a v},FrOk τ env a v→Mts τ env (a.map (·.2)) (v.map (·.2))
 | _,_,.nil => .nil
 | _,_,.cons h b => .cons h b.vals
section
variable {env : List PV} {P : Program} {mt : Hints} {nt : Nat} {C : Cfg} {O : Orc} {o : Oper} {A : ASt} {st : St} {K : AK}
theorem aXP {c a b} (e:Good C.τ env A st) (g:o.op = .pick c a b) (h:aOp P mt nt C o A K=true):nJ P mt nt O C.τ env o A st K:=by
 simp [aOp,g] at h;obtain ⟨t,fs,hv,f,j⟩:=aVR h (Mt.opd e.fr c) e.fs;have d:∀ t,opd st.fr c = .bool t→aR P mt nt O o st some=some {ws:=dstW nt o.dst (opv st.fr false (match t with | true=>a | false=>b))}:=by
  intro t i;simp [aR,g];rw [i];cases t<;>rfl
 have d:=d t hv;cases t with
 | true=>exact aBf e [] d (by simpa using FrOk.dst (Mt.opv e.fr false a) nt o.dst) (by grind) (by simpa using e.nx) f
 | false=>exact aBf e [] d (by simpa using FrOk.dst (Mt.opv e.fr false b) nt o.dst) (by grind) (by simpa using e.nx) f
theorem aVT {t} (c:Good C.τ env A st) (a:o.op = .alloc t) (h:aOp P mt nt C o A K=true):nJ P mt nt O C.τ env o A st K:=by
 simp [aOp,a] at h;split at h;· rename_i n g z e d b;obtain ⟨v,hv,f⟩:=aO8 (τ:=C.τ) (env:=env) b;exact aJb c f .nil h (by simp [aR,a,e,d,hv])
 grind
theorem bAu {t x} (a:Good C.τ env A st) (b:o.op = .box t x) (h:aOp P mt nt C o A K=true):nJ P mt nt O C.τ env o A st K:=by
 simp [aOp,b] at h;split at h;· rename_i n e d c;exact aJb a (Mt.opv a.fr true x) (a.fr.left true x) h (by simp [aR,b,d,c])
 grind
theorem aVU {t ps} (a:Good C.τ env A st) (b:o.op = .build t ps) (h:aOp P mt nt C o A K=true):nJ P mt nt O C.τ env o A st K:=by
 simp [aOp,b] at h;split at h
 ·rename_i fs z j g;split at h
  ·rename_i cs c f;obtain ⟨v,hv,l⟩:=aO8 (τ:=C.τ) (env:=env) g;cases l with
   | agg d =>
    obtain ⟨i,k,e⟩:=aRW (aR0 (ps:=ps.toList) a.fr) d f;exact mK a (v := .agg i) (by simp [aR,b,j,hv,c,k]) (.agg e) h
  grind
 grind
theorem aH5 {t n ps} (c:Good C.τ env A st) (u:o.op = .buildSlice t n ps) (h:aOp P mt nt C o A K=true):nJ P mt nt O C.τ env o A st K:=by
 simp only [aOp,u] at h;split at h
 ·split at h
  ·rename_i sz z N y;split at h
   ·rename_i i;simp only [Bool.and_eq_true,decide_eq_true_eq] at i;obtain ⟨⟨⟨⟨⟨H,g⟩,a⟩,l⟩,E⟩,F⟩:=i;have g:=Nat.eq_of_beq_eq_true g;split at h
    ·rename_i w m;obtain ⟨v,hv,j⟩:=aO8 (τ:=C.τ) (env:=env) y;have d:v.cells.length=sz:=by
      rw [← g];cases j with
      | agg q=>exact q.len.symm
      | nm L s J=>cases s<;>first | rfl | simp [isSl] at J
      | sl=>rfl
      | cn=>rfl
      | nil=>rfl
      | any=>simp [AV.solid,AV.isNm] at a
      | und=>simp [AV.solid,AV.isNm] at a
      | tup=>simp [AV.solid,AV.isNm] at a
      | ref=>simp [AV.solid,AV.isNm] at a
      | ptr=>simp [AV.solid,AV.isNm] at a
     have I:el sz v=some v.plain:=if_pos ⟨aC7 j a,d,l⟩;have b:=aR0 (ps:=ps.toList) c.fr;obtain ⟨M,D⟩:=aRZ l v.plain b [] n (by grind);obtain ⟨_,B,r,e⟩:=aJc m;have f:elOf C.τ w=B:=by unfold elOf;grind
     refine aGX c (v := .slice ((ps.toList.map fun p=>(p.1,opv st.fr false p.2)).map fun x=>x.2.plain) [] true) ?_ (.sl (k := .i64) (z:=0) (aGY c _) ?_ rfl ?_) h
     ·cases n with
      | zero=>omega
      | succ n =>
       simp [aR,bnd];grind
     ·intro x G;rw [f];refine aRY (b.vals.map Mt.plain) e _ ?_;grind
     grind
    grind
   grind
  grind
 grind
theorem aXQ {t p} (hG:Good C.τ env A st) (e:o.op = .load t p) (h:aOp P mt nt C o A K=true):nJ P mt nt O C.τ env o A st K:=by
 simp [aOp,e] at h;obtain ⟨b,j,hbx⟩:=hG.bx;split at h
 ·rename_i n ag k l;have hp:=Mt.opd hG.fr p;split at h
  ·rename_i id off hpt;rw [hpt] at hp;generalize hpv:opd st.fr p=s at hp;cases hp;split at h
   ·rename_i cs y hlk;obtain ⟨ws,hws,hms⟩:=hbx.get hlk;have hcond:0<n∧(ag=true∨n=1):=by
     simp_all
    split at h
    ·rename_i v c d;obtain ⟨w,r,hmw⟩:=aO7 d hms;have i:=aKb c hms;have hev:aR P mt nt O o st some=(match hasO mt.takes o.dst with
       | true=>some {cr:=[(0,id,off,n)],cw:=[(0,id,off,bV ag w)],ws:=dstW nt o.dst w}
       | false=>some {cr:=[(0,id,off,n)],ws:=dstW nt o.dst w.plain}):=by
      simp only [aR,e,k,l,hpv,hcond,if_true,j,tZ,hws,bnd];simp [and_self,if_true];split;· simp [uV] at i
      simp [r,bnd,sY];grind
     split at h
     ·rename_i htk;rw [htk] at hev;split at h
      ·rename_i m hpc;have hpl:Mts C.τ env m (bV ag w):=by
        unfold aGQ at hpc;split at hpc
        ·cases hpc;cases hmw with
         | agg q=>exact q.map Mt.plain1
        ·grind
        cases hpc;exact .one hmw.plain1
       refine ⟨_,_,A.fs,A.nx,[],hev,?_,rfl,?_,h⟩
       ·simp [List.append_nil];refine ⟨(FrOk.dst hmw nt o.dst).app hG.fr,⟨tP b id (putAt ws off (bV ag w)),?_,?_⟩,hG.fs,hG.nx⟩;· show wT (cP st.bx [(0,id,off,bV ag w)]) []=_;simp [j,cP,tZ,hws];rfl
        show BxOk C.τ env (([]:List (Nat×List AV))++mJ A.bx [(0,id,off,m)]) _;simp [mJ,hlk];exact BxOk.put (hpl.putAt off hms) id hbx
       simp [Eff.foot,AEff.foot,hpl.len]
      grind
     rename_i htk;rw [htk] at hev;refine ⟨_,_,A.fs,A.nx,[],hev,?_,rfl,rfl,h⟩;simp;refine ⟨(FrOk.dst hmw.plain nt o.dst).app hG.fr,⟨b,?_,hbx⟩,hG.fs,hG.nx⟩;show wT (cP st.bx []) []=_;rw [j];rfl
    grind
   grind
  ·rename_i v hpt;rw [hpt] at hp;generalize hpv:opd st.fr p=s at hp;cases hp with
   | ref hv =>
    rename_i w;have hev:∀ {u},aOt n ag w=some u→aR P mt nt O o st some=some {ws:=dstW nt o.dst u.plain}:=by
     intro u x;simp [aR,e,k,l,hpv,x,bnd]
    split at h
    ·split at h
     ·rename_i hl;have hl:=Nat.eq_of_beq_eq_true hl;cases hv with
      | agg g =>
       rename_i vs;have f:aOt n true (.agg vs)=some (.agg vs):=by
        simp only [aOt];rw [if_pos (by rw [← g.len,hl])]
       exact mK hG (hev f) (Mt.agg g).plain h
     grind
    ·grind
    split at h
    ·rename_i a;have f:aOt n false w=some w:=by
      cases hv with
      | nm z hl g=>cases hl<;>first | rfl | simp at g
      | sl=>rfl
      | cn=>rfl
      | nil=>rfl
      | ref=>rfl
      | ptr=>rfl
      | any=>simp [AV.fits,AV.isNm] at a
      | und=>simp [AV.fits,AV.isNm] at a
      | agg=>simp [AV.fits,AV.isNm] at a
      | tup=>simp [AV.fits,AV.isNm] at a
     exact mK hG (hev f) hv.plain h
    grind
  grind
 grind
theorem aVV {t p x} (c:Good C.τ env A st) (s:o.op = .store t p x) (h:aOp P mt nt C o A K=true):nJ P mt nt O C.τ env o A st K:=by
 simp [aOp,s] at h;obtain ⟨b,v,e⟩:=c.bx;split at h
 ·rename_i n H w D;have r:=Mt.opd c.fr p;split at h
  ·rename_i id off m B;rw [m] at r;generalize j:opd st.fr p=G at r;cases r;split at h
   ·rename_i cs vs f i;obtain ⟨ws,g,a⟩:=e.get f;obtain ⟨us,k,d⟩:=aGW i (Mt.opv c.fr true x);split at h
    ·rename_i u;simp only [Bool.and_eq_true,decide_eq_true_eq] at u;obtain ⟨⟨⟨z,E⟩,y⟩,F⟩:=u;have l:=aKb z a;have q:aR P mt nt O o st some=some {cw:=[(0,id,off,us)],ws:=left st.fr true x}:=by
      simp [aR,s,w,D,j,B,v,tZ,g,k,bnd];split;· simp [uV] at l
      simp only [aKa d E];rw [if_pos ⟨by rw [← a.len];exact y,F⟩];rfl
     refine ⟨_,_,A.fs,A.nx,[],q,?_,rfl,?_,h⟩
     ·simp;refine ⟨(c.fr.left true x).app c.fr,⟨tP b id (putAt ws off us),?_,?_⟩,c.fs,c.nx⟩;· show wT (cP st.bx [(0,id,off,us)]) []=_;simp [v,cP,tZ,g];rfl
      show BxOk C.τ env (([]:List (Nat×List AV))++mJ A.bx [(0,id,off,vs)]) _;simp [mJ,f];exact BxOk.put (d.putAt off a) id e
     simp [Eff.foot,AEff.foot,d.len]
    simp at h
   simp at h
  simp at h
 simp at h
theorem aMi {x} (d:Good C.τ env A st) (e:o.op = .nilCheck x) (h:aOp P mt nt C o A K=true):nJ P mt nt O C.τ env o A st K:=by
 simp [aOp,e] at h;have c:=Mt.opd d.fr x;split at h;· rename_i id off b;rw [b] at c;generalize a:opd st.fr x=f at c;cases c;exact mK d (by simp [aR,e,a]) (.ptr id off) h
 ·rename_i v b;rw [b] at c;generalize a:opd st.fr x=f at c;cases c with
  | ref hv=>exact mK d (by simp [aR,e,a]) (.ref hv) h
 grind
theorem aKg {s x f} (i:Good C.τ env A st) (j:o.op = .fieldAddr s x f) (h:aOp P mt nt C o A K=true):nJ P mt nt O C.τ env o A st K:=by
 simp [aOp,j] at h;have c:=Mt.opd i.fr x;split at h
 ·rename_i fs l;split at h
  ·rename_i off n w k;split at h;· rename_i id t d b;rw [b] at c;generalize a:opd st.fr x=r at c;cases c;rw [decide_eq_true_eq] at d;exact mK i (by simp [aR,j,l,k,d,a,fad,bnd]) (.ptr id (t+off)) h
   ·rename_i v d b;rw [b] at c;generalize a:opd st.fr x=r at c;rw [decide_eq_true_eq] at d;cases c with
    | ref hv =>
     split at h
     ·rename_i q g;unfold afld at g;split at g
      ·cases hv with
       | agg p =>
        obtain ⟨u,m,e⟩:=aO7 g p;exact mK i (v := .ref u) (by simp [aR,j,l,k,d,a,fad,fld,m,bnd]) (.ref e) h
      grind
     grind
   grind
  grind
 grind
end
variable {τ : Tb} {env : List PV}
theorem yE {k k' c n} (h:den env (.lit k c)=some (.int k' n)):n=c:=by
 simp [den] at h;omega
theorem Mt.int {x k v} (h:Mt τ env (.nm x (.int k)) v):∃ n,v = .int k n∧den env x=some (.int k n):=by
 cases h with
 | nm c a b=>cases a with | int k n=>grind
theorem Mt.str {x v} (h:Mt τ env (.nm x .str) v):∃ s,v = .str s∧den env x=some (.str s)∧s.length≤topL:=by
 cases h with
 | nm d a c=>cases a with | str b=>grind
theorem aMj {a v} (h:isB a=true) (c:Mt τ env a v):∃ b,v = .bool b:=by
 have:=aFZ (τ:=τ) (env:=env) (fs:=[]) (by simp) h c;cases this with
 | bool b=>simp
theorem aZS {fs} (i:∀ f,f∈fs→dN env f):∀ {y k m},nn0 fs y=true→den env y=some (.int k m)→0≤m
 | .lit _ c,k,m,h,d=>by
  have:=yE d;simp [nn0] at h;omega
 | .root r,k,m,h,d=>by
  obtain ⟨a,b,g,e,j⟩:=qY (aBG h i);have:=g.lit;have:=e.inj ⟨_,d⟩;omega
 | .cell _ _,_,_,h,_=>by simp [nn0] at h
 | .elem _ _,_,_,h,_=>by simp [nn0] at h
 | .txt _,_,_,h,_=>by simp [nn0] at h
 | .len _,_,_,h,_=>by simp [nn0] at h
 | .suc _,_,_,h,_=>by simp [nn0] at h
theorem bAv {k:IntKind} (h:k.signed=false) n:0≤k.wrap n:=by
 cases k<;>simp [IntKind.signed] at h<;>simp [IntKind.wrap,IntKind.signed]<;>omega
theorem bAw {fs} (E:∀ f,f∈fs→dN env f) {q a b v w u x y} (h:abin fs q a b w=some (v,u)) (B:Mt τ env a x) (o:Mt τ env b y) (z:w=env.length) :
  ∃ r l,bin q x y=some r∧u=(env++l).length∧Mt τ (env++l) v r:=by
 have i:∀ {r} {v},bin q x y=some r→Mt τ env v r→∃ r l,bin q x y=some r∧w=(env++l).length∧Mt τ (env++l) v r :=
  fun A hv=>⟨_,[],A,by simpa using z,by simpa using hv⟩
 have g:∀ {r} {k} {n},bin q x y=some r→r = .int k n→∃ r l,bin q x y=some r∧w+1=(env++l).length∧Mt τ (env++l) (.nm (.root w) (.int k)) r:=by
  rintro _ k n A rfl;refine ⟨_,[.int k n],A,by simp [z],.nm ?_ (.int k n) rfl⟩;simp [den];rw [z];exact aGT env _
 unfold abin at h;split at h
 ·rename_i F k I k';obtain ⟨n,rfl,j⟩:=B.int;obtain ⟨m,rfl,d⟩:=o.int;split at h
  ·split at h;· rename_i p;cases h;have:=aZS E p d;exact g (by simp only [bin];rw [if_neg (by omega)]) rfl
   simp at h
  ·split at h;· rename_i p;cases h;have:=aZS E p d;exact g (by simp only [bin];rw [if_neg (by omega)]) rfl
   simp at h
  rename_i H J;split at h;· simp at h
  rename_i C;rw [decide_eq_true_eq] at C;subst C;split at h;· cases h;exact i (r := .bool (n==m)) (by simp [bin,mA]) (.cn ⟨_,n,_,m,j,d,rfl⟩)
  ·cases h;exact i (r := .bool (n != m)) (by simp [bin,mA]) (.cn ⟨_,n,_,m,j,d,by simp [CO.ev,bne]⟩)
  ·cases h;exact i (r := .bool (n<m)) (by simp [bin,mA]) (.cn ⟨_,n,_,m,j,d,rfl⟩)
  ·cases h;exact i (r := .bool (n≤m)) (by simp [bin,mA]) (.cn ⟨_,n,_,m,j,d,rfl⟩)
  ·cases h;exact i (r := .bool (n>m)) (by simp [bin,mA]) (.cn ⟨_,m,_,n,d,j,rfl⟩)
  ·cases h;exact i (r := .bool (n≥m)) (by simp [bin,mA]) (.cn ⟨_,m,_,n,d,j,rfl⟩)
  ·split at h;· cases h;have:=yE d;subst this;exact i (r := .int k (k.wrap (n+1))) (by simp [bin,mA]) (.nm (by simp [den,j,bnd]) (.int _ _) rfl)
   cases h;exact g (r := .int k (k.wrap (n+m))) (by simp [bin,mA]) rfl
  ·cases h;exact g (r := .int k (k.wrap (n-m))) (by simp [bin,mA]) rfl
  ·cases h;exact g (r := .int k (k.wrap (n*m))) (by simp [bin,mA]) rfl
  ·cases h;exact g (r := .int k (bits .and k n m)) (by simp [bin,mA]) rfl
  ·cases h;exact g (r := .int k (bits .or k n m)) (by simp [bin,mA]) rfl
  ·cases h;exact g (r := .int k (bits .xor k n m)) (by simp [bin,mA]) rfl
  ·cases h;exact g (r := .int k (bits .andNot k n m)) (by simp [bin,mA]) rfl
  ·split at h
   ·rename_i G c;split at h;· simp at h
    rename_i p;cases h;have:=yE d;subst this;exact g (r := .int k (k.wrap (n.tdiv m))) (by simp [bin,mA,p]) rfl
   simp at h
  ·split at h
   ·rename_i G c;split at h;· simp at h
    rename_i p;cases h;have:=yE d;subst this;exact g (r := .int k (n.tmod m)) (by simp [bin,mA,p]) rfl
   simp at h
  simp at h
 ·rename_i F;obtain ⟨s,rfl,j,_⟩:=B.str;obtain ⟨t,rfl,d,_⟩:=o.str;simp [den] at d;subst d;have e:(s==[])=decide ((s.length:Int)≤0):=by cases s<;>simp
  have D:den env (.len F)=some (.int .i64 s.length):=by simp [den,j,bnd,lenOf]
  split at h;· cases h;exact i (r := .bool (s==[])) rfl (.cn ⟨_,s.length,_,0,D,rfl,e⟩)
  ·cases h;exact i (r := .bool (!(s==[]))) rfl (.cn ⟨_,s.length,_,0,D,rfl,by rw [Bool.not_not];exact e⟩)
  simp at h
 ·obtain ⟨s,rfl,j,_⟩:=B.str;obtain ⟨t,rfl,d,_⟩:=o.str;split at h<;>first | (cases h;exact i (v := .cn .unk) (r := .bool _) rfl (.cn trivial)) | simp at h
 simp at h
theorem aVW:∀ {j xs ys vs ws},(j.all fun l=>match nth xs l.1,nth ys l.1 with | some a,some b=>aO4 l.2 a b | _,_=>false)=true→Mts τ env xs vs→Mts τ env ys ws→∃ b,eqAt vs ws j=some b
 | [],_,_,_,_,_,_,_=>⟨true,rfl⟩
 | (i,k)::j,xs,ys,vs,ws,h,o,p=>by
  simp only [List.all_cons,Bool.and_eq_true] at h;obtain ⟨c,y⟩:=aVW h.2 o p;have e:=h.1;split at e
  ·rename_i a b A C;obtain ⟨v,hv,g⟩:=o.nth A;obtain ⟨w,r,f⟩:=p.nth C;have B:gt vs i=v:=by simp [gt,hv]
   have x:gt ws i=w:=by simp [gt,r]
   have:∃ d,aA8 k v w=some d:=by
    unfold aO4 at e;split at e;· rw [decide_eq_true_eq] at e;subst e;obtain ⟨n,rfl,_⟩:=g.int;obtain ⟨m,rfl,_⟩:=f.int;exact ⟨n==m,by simp [aA8]⟩
    ·obtain ⟨s,rfl,_,_⟩:=g.str;obtain ⟨t,rfl,_,_⟩:=f.str;exact ⟨s==t,rfl⟩
    ·rw [Bool.and_eq_true] at e;obtain ⟨u,rfl⟩:=aMj e.1 g;obtain ⟨q,rfl⟩:=aMj e.2 f;exact ⟨u==q,rfl⟩
    grind
   obtain ⟨d,z⟩:=this;exact ⟨d&&c,by simp [eqAt,B,x,z,y]⟩
  grind
section
variable {P : Program} {mt : Hints} {nt : Nat} {C : Cfg} {O : Orc} {o : Oper} {A : ASt} {st : St} {K : AK}
theorem bAx {op t u x y} (hG:Good C.τ env A st) (i:o.op = .binOp op t x y u) (h:aOp P mt nt C o A K=true):nJ P mt nt O C.τ env o A st K:=by
 simp [aOp,i] at h;have hx:=Mt.opd hG.fr x;have hy:=Mt.opd hG.fr y;have hev:aR P mt nt O o st some=qO P nt o op t (opd st.fr x) (opd st.fr y) some:=by simp [aR,i]
 have prim:(qO P nt o op t (opd st.fr x) (opd st.fr y) some=bnd (bin op (opd st.fr x) (opd st.fr y)) fun v=>some ({ws:=dstW nt o.dst v}:Eff)) →
   aVL nt o op (aopd A.fr x) (aopd A.fr y) A K=true→nJ P mt nt O C.τ env o A st K:=by
  intro B h;unfold aVL at h;split at h;· rename_i v I a;obtain ⟨r,l,w,q,G⟩:=bAw hG.fs a hx hy hG.nx;exact aBf hG l (by rw [hev,B,w];rfl) (.dst G nt o.dst) (fun f D=>(hG.fs f D).mono l) q h
  simp at h
 have cmp:∀ (neg:Bool),(op=if neg then .neq else .eql)→aCmp P nt o op t (aopd A.fr x) (aopd A.fr y) A K=true→nJ P mt nt O C.τ env o A st K:=by
  intro neg hop h;unfold aCmp at h;split at h;· rename_i k hu;exact prim (by cases neg<;>subst hop<;>simp [qO,hu]<;>rfl) h
  ·rename_i hu;exact prim (by cases neg<;>subst hop<;>simp [qO,hu]<;>rfl) h
  ·rename_i hu;split at h;· rename_i hb;rw [Bool.and_eq_true] at hb;obtain ⟨g,e1⟩:=aMj hb.1 hx;obtain ⟨e,e2⟩:=aMj hb.2 hy;refine mK hG (v := .bool (if neg then !(g==e) else (g==e))) ?_ (.cn (c := .unk) trivial) h;rw [hev,e1,e2];cases neg<;>subst hop<;>simp [qO,hu]<;>rfl
   simp at h
  ·rename_i fs hu;split at h
   ·rename_i n p xs ys e1 e2 z F hb;split at h
    ·rename_i j;simp only [Bool.and_eq_true] at j;obtain ⟨⟨c1,b⟩,s⟩:=j;rw [F] at hx;rw [hb] at hy;generalize hxv:opd st.fr x=H at hx;generalize hyv:opd st.fr y=J at hy;cases hx with
     | agg hxs =>
      cases hy with
      | agg hys =>
       rename_i vs ws;obtain ⟨d,E⟩:=aVW s hxs hys;have c1:=Nat.eq_of_beq_eq_true c1;have b:=Nat.eq_of_beq_eq_true b;have m:eqs n p (.agg vs) (.agg ws)=some d:=by
        simp only [eqs];rw [if_pos ⟨by rw [← hxs.len,c1],by rw [← hys.len,b]⟩,E]
       refine mK hG (v := .bool (if neg then !d else d)) ?_ (.cn (c := .unk) trivial) h;rw [hev,hxv,hyv];cases neg<;>subst hop<;>simp [qO,hu,e1,e2,z,m]<;>rfl
    simp at h
   simp at h
  simp at h
 cases op;case eql=>exact cmp false rfl h
 case neq=>exact cmp true rfl h
 all_goals exact prim rfl h
theorem bBE {l t x} (e:Good C.τ env A st) (g:o.op = .unOp l t x) (h:aOp P mt nt C o A K=true):nJ P mt nt O C.τ env o A st K:=by
 simp [aOp,g] at h;have d:=Mt.opd e.fr x;split at h
 ·rename_i c f;rw [f] at d;generalize i:opd st.fr x=p at d;cases d with
  | cn j =>
   rename_i b;refine mK e (v := .bool (!b)) (by simp [aR,g,i,un,bnd]) (.cn ?_) h;show CnOk env c (!(!b));grind
 ·rename_i y f;rw [f] at d;obtain ⟨b,j⟩:=aMj (a := .nm y .bool) rfl d;exact mK e (v := .bool (!b)) (by simp [aR,g,j,un,bnd]) (.cn (c := .unk) trivial) h
 ·rename_i y k f;rw [f] at d;obtain ⟨n,m,_⟩:=d.int;exact aGX e (v := .int k (k.wrap (0-n))) (by simp [aR,g,m,un,bnd]) (Mt.newInt e _ _) h
 grind
theorem aPa {s d x} (a:Good C.τ env A st) (g:o.op = .convert s d x) (h:aOp P mt nt C o A K=true):nJ P mt nt O C.τ env o A st K:=by
 simp [aOp,g] at h;have e:=Mt.opd a.fr x;split at h
 ·rename_i r k y p m l i;rw [i] at e;obtain ⟨n,j,q⟩:=e.int;refine aBf a [.int k (k.wrap n)] (ws:=dstW nt o.dst (.int k (k.wrap n))) (by simp [aR,g,aCJ,m,l,j,aXi,bnd]) (.dst (Mt.newInt a _ _) nt o.dst) ?_ (by simp [a.nx]) h;intro f b;split at b;· exact (a.fs f b).mono _
  rename_i c;rcases List.mem_cons.1 b with rfl | b;· exact ⟨_,0,_,_,rfl,aGY a _,by simp only [CO.ev];symm;rw [decide_eq_true_eq];exact bAv c n⟩
  exact (a.fs f b).mono _
 grind
theorem aKh {t x i} (hG:Good C.τ env A st) (ho:o.op = .indexAddr t x i) (h:aOp P mt nt C o A K=true):nJ P mt nt O C.τ env o A st K:=by
 simp [aOp,ho] at h;have hx:=Mt.opd hG.fr x;have hi:=Mt.opd hG.fr i;split at h
 ·split at h
  ·rename_i n D;split at h
   ·rename_i v hv;unfold aIx at hv;split at hv
    ·rename_i p w c m s e j d f;rw [d] at hx;rw [f] at hi;obtain ⟨z,q,hdz⟩:=hi.int;generalize hxv:opd st.fr x=r at hx;cases hx with
     | sl hd a g u =>
      rename_i es F k' z';split at hv
      ·rename_i b;cases hv;obtain ⟨B,E,c3,k⟩:=b;have l:=aVP c3 hG.fs hdz (.inl rfl);obtain ⟨n',y,g1,g2,g3⟩:=aRU k hG.fs;have:=g1.inj ⟨_,hdz⟩;subst this;rw [hd] at g2;cases g2;have hlt:n'.toNat<es.length:=by simp [lenOf] at g3;omega
       have hnth:nth es n'.toNat=some es[n'.toNat]:=by rw [jS];simp
       have hok:=a _ (List.getElem_mem hlt);have hcl:=hok.cells;have hne  := by omega
       refine mK hG (v := .ref es[n'.toNat]) ?_ (.ref (aKe ?_ hok)) h;· simp [aR,ix,bnd];grind
       simp [den,hd,hdz,bnd,aVF,hnth]
      grind
    grind
   grind
  grind
 grind
theorem aVX {t x i} (a:Good C.τ env A st) (k:o.op = .index t x i) (h:aOp P mt nt C o A K=true):nJ P mt nt O C.τ env o A st K:=by
 simp [aOp,k] at h;have l:=Mt.opd a.fr x;have g:=Mt.opd a.fr i;split at h
 ·rename_i p j q B r;split at h
  ·rename_i f;rw [Bool.and_eq_true] at f;rw [B] at l;rw [r] at g;obtain ⟨s,w,y,E⟩:=l.str;obtain ⟨z,m,c⟩:=g.int;have D:=aVP f.1 a.fs c (.inl rfl);obtain ⟨d,F,g1,g2,u⟩:=aRU f.2 a.fs;have:=g1.inj ⟨_,c⟩;subst this;rw [y] at g2;cases g2;have n  := by simp [lenOf] at u;omega
   have b:nth s d.toNat=some s[d.toNat]:=by rw [jS];simp
   have e:¬ d<0:=by omega
   exact aGX a (v := .int .u8 s[d.toNat].toNat) (by simp [aR,k,q,w,m,sZ,if_neg e,b,bnd]) (Mt.newInt a _ _) h
  grind
 grind
theorem aVY {t x e} (c:Good C.τ env A st) (m:o.op = .slice t x none (some e) none) (h:aOp P mt nt C o A K=true):nJ P mt nt O C.τ env o A st K:=by
 simp [aOp,m] at h;have g:=Mt.opd c.fr x;have f:=Mt.opd c.fr e;split at h
 ·rename_i p k n k' D w r;split at h
  ·rename_i i;rw [Bool.and_eq_true,decide_eq_true_eq] at i;rw [w] at g;rw [r] at f;obtain ⟨s,G,H,E⟩:=g.str;obtain ⟨z,y,d⟩:=f.int;have:=yE d;obtain ⟨a,b,l,q,F⟩:=qY (aBG i.2 c.fs);have B:=l.lit;obtain ⟨v,hv,u⟩:=q.len;simp [lenOf] at u;have j  := by omega
   refine aGX c (v := .str ((s.take z.toNat).drop 0)) ?_ (.nm (aGY c _) (.str (by grind)) rfl) h;simp [aR,qN,aZ9,aBp,bnd,aGe];grind
  grind
 grind
theorem aPb {x i} (c:Good C.τ env A st) (d:o.op = .extract x i) (h:aOp P mt nt C o A K=true):nJ P mt nt O C.τ env o A st K:=by
 simp [aOp,d] at h;have a:=Mt.opd c.fr x;split at h
 ·rename_i vs g;rw [g] at a;generalize b:opd st.fr x=k at a;cases a with
  | tup f =>
   split at h;· rename_i v hv;obtain ⟨w,e,j⟩:=f.nth hv;exact mK c (v:=w.plain) (by simp [aR,d,b,ext,e,bnd]) j.plain h
   grind
 grind
end
mutual
def bK:PV→Nat
 | .slice es _ _=>1+dI es
 | .agg cs=>1+dI cs
 | .str s=>1+s.length
 | _=>1
def dI:List PV→Nat
 | []=>0
 | v::vs=>bK v+dI vs
end
theorem lG {v}:∀ {vs},v∈vs→bK v≤dI vs
 | w::vs,h=>by
  simp [dI];rcases List.mem_cons.1 h with rfl | h;· omega
  have:=lG h;omega
theorem aPc {α} {l:List α} {i x} (h:nth l i=some x):x∈l:=by
 rw [jS] at h;grind
theorem aAy {v w c} (h:nth v.cells c=some w):bK w≤bK v∧(∀ cs,v = .agg cs→bK w<bK v):=by
 have key:∀ cs,v = .agg cs→bK w<bK v:=by
  rintro cs rfl;have:=lG (aPc h);simp [bK];simp [PV.cells] at this;omega
 refine ⟨?_,key⟩;cases v with
 | agg cs=>grind
 | _ =>
  have:=aPc h;simp [PV.cells] at this;subst this;exact by omega
theorem aGZ {v w c} (h:nth (aVF v) c=some w):bK w<bK v:=by
 cases v with
 | slice es a o =>
  have:=lG (aPc h);simp [bK];simp [aVF] at this;omega
 | _=>simp [aVF,nth] at h
def RsOk (τ:Tb) (outs:List El) (r:PV):Prop :=
 match outs with
 | [e]=>ElOk τ e r
 | es=>∃ vs,r = .tuple vs∧ElsOk τ es vs
def aPd (sm:Summ) (args:List PV):Prop:=sm.cap=0∨∀ v,v∈args→bK v≤sm.cap
structure Me (C:Cfg) (v0:PV) (env:List PV):Prop where
 me:C.recs≠[]→den env (.root C.me)=some v0
 cap:∀ r,r<C.np→∃ v,den env (.root r)=some v∧bK v≤C.cap
structure Hyp (C:Cfg) (O:Orc) (v0:PV):Prop where
 sums:∀ f sm,(f,sm)∈C.sums→∀ args,ElsOk C.τ sm.ins args→aPd sm args→∃ r,O f args []=some (r,[])∧RsOk C.τ sm.outs r
 recs:∀ f sm k,(f,sm,k)∈C.recs→∀ args a,ElsOk C.τ sm.ins args→aPd sm args→nth args k=some a→bK a<bK v0→∃ r,O f args []=some (r,[])∧RsOk C.τ sm.outs r
 ag:C.recs≠[]→C.meAg=true→∃ cs,v0 = .agg cs
variable {τ : Tb} {env : List PV}
theorem aKi {r v0} (d:den env (.root r)=some v0):∀ {x v},aMf r x=true→den env x=some v→bK v≤bK v0
 | .root e,v,h,a=>by
  have:=Nat.eq_of_beq_eq_true h;grind
 | .cell p c,v,h,a=>by
  obtain ⟨w,b,a⟩:=aB a;exact Nat.le_trans (aAy a).1 (aKi d (x:=p) h b)
 | .elem p i,v,h,a=>by
  obtain ⟨w,b,a⟩:=aB a;obtain ⟨j,f,a⟩:=aB a;split at a;· exact Nat.le_trans (Nat.le_of_lt (aGZ a)) (aKi d (x:=p) h b)
  grind
 | .lit _ _,_,h,_=>by simp [aMf] at h
 | .txt _,_,h,_=>by simp [aMf] at h
 | .len _,_,h,_=>by simp [aMf] at h
 | .suc _,_,h,_=>by simp [aMf] at h
theorem aG0 {f r v0} (g:den env (.root r)=some v0) (d:f=true→∃ cs,v0 = .agg cs):∀ {x v},sD f r x=true→den env x=some v→bK v<bK v0
 | .cell p c,v,h,a=>by
  obtain ⟨w,b,a⟩:=aB a;have k:(∃ e,p = .root e∧f=true∧e=r)∨sD f r p=true:=by
   cases p with
   | root e =>
    simp [sD] at h;simp_all
   | _=>exact .inr (by first | (simp [sD] at h;done) | simpa [sD] using h)
  rcases k with ⟨e,rfl,m,rfl⟩ | k;· rw [g] at b;cases b;obtain ⟨cs,l⟩:=d m;exact (aAy a).2 cs l
  exact Nat.lt_of_le_of_lt (aAy a).1 (aG0 g d k b)
 | .elem p i,v,h,a=>by
  obtain ⟨w,b,a⟩:=aB a;obtain ⟨j,n,a⟩:=aB a;split at a;· exact Nat.lt_of_lt_of_le (aGZ a) (aKi g (by simpa [sD] using h) b)
  grind
 | .root _,_,h,_=>by simp [sD] at h
 | .lit _ _,_,h,_=>by simp [sD] at h
 | .txt _,_,h,_=>by simp [sD] at h
 | .len _,_,h,_=>by simp [sD] at h
 | .suc _,_,h,_=>by simp [sD] at h
theorem aKj {x l v} (h:Mt τ env (.nm x l) v):den env x=some v:=by
 cases h with
 | nm a c b=>exact a
theorem aF0 {x i n c m a v} (h:Mt τ env (.sl x n c m i a) v):∃ w,den env x=some w∧bK v=bK w:=by
 cases h with
 | sl b e d f=>exact ⟨_,b,by simp [bK]⟩
theorem aD3 {q w} (g:den env q=some w):∀ {c vs} j,aBF q j c=true→Mts τ env c vs→dI vs≤dI (w.cells.drop j)∧(c≠[]→j+c.length≤w.cells.length)
 | [],[],j,_,.nil=>by simp [dI]
 | a::c,v::vs,j,h,.cons i l=>by
  simp [aBF] at h;obtain ⟨o,n⟩:=aD3 g (j+1) h.2 l;have k:∃ u,den env (.cell q j)=some u∧bK v=bK u:=by
   have d:=h.1;cases a<;>simp at d<;>first | (cases d;done) | skip
   ·subst d;exact ⟨_,aKj i,rfl⟩
   subst d;exact aF0 i
  obtain ⟨u,f,e⟩:=k;simp [den,g,bnd] at f;rw [jS] at f;obtain ⟨m,p⟩:=List.getElem?_eq_some_iff.1 f;rw [List.drop_eq_getElem_cons m];simp [dI];cases c with
  | nil=>grind
  | cons b c=>grind
theorem aBH:∀ l j,dI (l.drop j)≤dI l
 | _,0=>by simp
 | [],j+1=>by simp
 | v::l,j+1=>by have:=aBH l j;simp [dI];omega
theorem aVZ {m r v0} (i:den env (.root r)=some v0) (c:m=true→∃ cs,v0 = .agg cs) {a v} (h:aVI m r a=true) (n:Mt τ env a v):bK v<bK v0:=by
 unfold aVI at h;split at h;· obtain ⟨w,f,e⟩:=aF0 n;rw [e];exact aG0 i c h f
 ·rename_i q j l a y;rw [Bool.and_eq_true] at h;cases n with
  | agg k =>
   have s:∃ u,den env (.cell q j)=some u:=by
    cases k with
    | cons x _=>exact ⟨_,aKj x⟩
   obtain ⟨u,p⟩:=s;obtain ⟨w,f,_⟩:=aB p;obtain ⟨t,o⟩:=aD3 f j h.2 k;have d:=o (by simp);have g:=aG0 i c h.1 f;have b:∃ cs,w = .agg cs:=by
    cases w with
    | agg cs=>simp
    | _=>simp [PV.cells] at d;omega
   obtain ⟨cs,rfl⟩:=b;have:=aBH cs j;simp [PV.cells] at t;simp [bK] at g ⊢;omega
 grind
theorem aAz {d cap} (e:∀ r,r<d→∃ v,den env (.root r)=some v∧bK v≤cap):∀ {x v},aFz d x=true→den env x=some v→bK v≤cap
 | .root r,v,h,a=>by
  simp [aFz] at h;grind
 | .cell p c,v,h,a=>by
  obtain ⟨w,b,a⟩:=aB a;exact Nat.le_trans (aAy a).1 (aAz e (x:=p) h b)
 | .elem p i,v,h,a=>by
  obtain ⟨w,b,a⟩:=aB a;obtain ⟨j,f,a⟩:=aB a;split at a;· exact Nat.le_trans (Nat.le_of_lt (aGZ a)) (aAz e (x:=p) h b)
  grind
 | .lit _ _,_,h,_=>by simp [aFz] at h
 | .txt _,_,h,_=>by simp [aFz] at h
 | .len _,_,h,_=>by simp [aFz] at h
 | .suc _,_,h,_=>by simp [aFz] at h
theorem aMk {q j e a f vs u} (i:den env (.cell q j)=some u) (h:aBF q j (e::a::f)=true) (k:Mts τ env (e::a::f) vs):∃ w,den env q=some w∧bK (.agg vs)≤bK w:=by
 obtain ⟨w,d,_⟩:=aB i;obtain ⟨l,g⟩:=aD3 d j h k;have c:=g (by simp);have b:∃ cs,w = .agg cs:=by
  cases w with
  | agg cs=>simp
  | _=>simp [PV.cells] at c;omega
 obtain ⟨cs,rfl⟩:=b;refine ⟨_,d,?_⟩;have:=aBH cs j;simp [PV.cells] at l;simp [bK];omega
theorem bAy {y cap} (t:1≤cap) (p:∀ r,r<y→∃ v,den env (.root r)=some v∧bK v≤cap) {a v} (h:capA y a=true) (f:Mt τ env a v):bK v≤cap:=by
 unfold capA at h;split at h
 ·cases f with
  | nm g k b=>cases k<;>first | exact aAz p h g | (exact t) | simp [isSl] at b
 ·cases f;exact t
 ·cases f;exact t
 ·obtain ⟨w,d,e⟩:=aF0 f;rw [e];exact aAz p h d
 ·rename_i q j l a z;rw [Bool.and_eq_true] at h;cases f with
  | agg b =>
   have g:∃ u,den env (.cell q j)=some u:=by
    cases b with
    | cons x _=>exact ⟨_,aKj x⟩
   obtain ⟨u,s⟩:=g;obtain ⟨w,d,k⟩:=aMk s h.2 b;exact Nat.le_trans k (aAz p h.1 d)
 ·rename_i q j n c m i o a z;rw [Bool.and_eq_true] at h;cases f with
  | agg b =>
   have g:∃ u,den env (.cell q j)=some u:=by
    cases b with
    | cons x _=>obtain ⟨w,d,_⟩:=aF0 x;grind
   obtain ⟨u,s⟩:=g;obtain ⟨w,d,k⟩:=aMk s h.2 b;exact Nat.le_trans k (aAz p h.1 d)
 grind
theorem aR1 {b cap} (d:1≤cap) (c:∀ r,r<b→∃ v,den env (.root r)=some v∧bK v≤cap):∀ {a vs},a.all (capA b)=true→Mts τ env a vs→∀ v,v∈vs→bK v≤cap
 | _,_,_,.nil,v,h=>by grind
 | _,_,h,.cons e f,v,hv=>by
  simp only [List.all_cons,Bool.and_eq_true] at h;rcases List.mem_cons.1 hv with rfl | hv;· exact bAy d c h.1 e
  exact aR1 d c h.2 f v hv
theorem aV0 {C v0} (f:Me C v0 env) {d c vs} (h:capC C d c=true) (g:Mts τ env c vs):aPd d vs:=by
 unfold capC at h;rw [Bool.or_eq_true] at h;rcases h with h | h;· exact .inl (Nat.eq_of_beq_eq_true h)
 rw [Bool.and_eq_true,Bool.and_eq_true] at h;obtain ⟨⟨b,a⟩,e⟩:=h;have b:=Nat.le_of_ble_eq_true b;have a:=Nat.le_of_ble_eq_true a;exact .inr fun v hv=>Nat.le_trans (aR1 b f.cap e g v hv) a
theorem aF1:∀ {es vs env},ElsOk τ es vs→Mts τ (env++vs) (aVH env.length es) vs
 | _,_,_,.nil => .nil
 | _,_,env,.cons (e:=e) (es:=es) (v:=v) (vs:=vs) h a=>by
  have b:env++v::vs=(env++[v])++vs:=by simp
  rw [b];refine .cons ((aKe (show den (env++[v]) (.root env.length)=some v from aGT env v) h).mono vs) ?_;have:=aF1 (env:=env++[v]) a;grind
theorem ElsOk.len:∀ {es vs},ElsOk τ es vs→es.length=vs.length
 | _,_,.nil=>rfl
 | _,_,.cons _ a=>by simp [a.len]
theorem bAz {a r} (h : RsOk τ a r) : ∃ l, l.length = a.length ∧ Mt τ (env ++ l) (aRes a env.length) r := by
  unfold RsOk at h;unfold aRes;split at h;· exact ⟨[r], rfl, aKe (show den (env ++ [r]) (.root env.length) = some r from aGT env r) h⟩
  obtain ⟨vs, rfl, b⟩ := h;refine ⟨vs, b.len.symm, ?_⟩;first
    | exact .tup (aF1 b)
    | (split;· grind
       exact .tup (aF1 b))
section
variable {P : Program} {mt : Hints} {nt : Nat} {C : Cfg} {O : Orc} {o : Oper} {A : ASt} {st : St} {K : AK}
theorem FrOk.lefts {a v} (h:FrOk τ env a v) b:∀ (xs:List Operand),FrOk τ env (xs.flatMap (aJ5 a b)) (xs.flatMap (Go.Ev.left v b))
 | [] => .nil
 | x::xs=>by
  exact (h.left b x).app (FrOk.lefts h b xs)
theorem Mts.opvs {a v} (h:FrOk τ env a v) b:∀ (xs:List Operand),Mts τ env (xs.map (aopv a b)) (xs.map (opv v b))
 | [] => .nil
 | x::xs => .cons (.opv h b x) (Mts.opvs h b xs)
theorem aXR {b vs} (h:Mts τ env b vs) {i a} (c:nth b i=some a):∃ v,nth vs i=some v∧Mt τ env a v:=h.nth c
theorem aXS {c v0} (hH:Hyp C O v0) (hme:Me C v0 env) (d:Good C.τ env A st) (ho:o.op = .call c) (h:aOp P mt nt C o A K=true):nJ P mt nt O C.τ env o A st K:=by
 simp only [aOp,ho] at h;have M:aR P mt nt O o st some=gM P mt nt O o c st some:=by simp only [aR,ho]
 unfold bBB at h;split at h
 ·rename_i g U;have N:=Mts.opvs d.fr (hasO mt.takes o.dst) c.args.toList;simp only at h;split at h;· simp at h
  ·rename_i D;simp only [Bool.and_eq_true,Bool.not_eq_true',Option.isNone_iff_eq_none] at D;obtain ⟨⟨⟨⟨c1,c2⟩,c3⟩,c4⟩,c5⟩:=D;have L:∀ {sm:Summ} {r},O g (c.args.toList.map (opv st.fr (hasO mt.takes o.dst))) []=some (r,[])→RsOk C.τ sm.outs r →
     K {ws:=adst nt o.dst (aRes sm.outs A.nx)++c.args.toList.flatMap (aJ5 A.fr (hasO mt.takes o.dst))} A.fs (A.nx+sm.outs.length)=true→nJ P mt nt O C.τ env o A st K:=by
    intro sm r hr Z hk;obtain ⟨l,S,H⟩:=bAz (env:=env) Z;have Y:=aGV N c5;refine aBf d l (ws:=dstW nt o.dst r++c.args.toList.flatMap (left st.fr (hasO mt.takes o.dst))) ?_ ((FrOk.dst (by rw [d.nx];exact H) nt o.dst).app ((d.fr.lefts _ _).mono l)) (fun f I=>(d.fs f I).mono l) (by rw [d.nx];simp [S]) hk;rw [M];unfold gM;rw [U];simp only [opd,List.nil_append,List.append_nil,c1,c2,c3,c4,aM,Y,cnd,hr,bnd]
   split at h
   ·rename_i f sm R;split at h;· rename_i j;rw [Bool.and_eq_true] at j;have F:=List.mem_of_find?_eq_some R;have hp:=List.find?_some R;have:=Nat.eq_of_beq_eq_true hp;simp only at this;subst this;obtain ⟨r,hr,Z⟩:=hH.sums _ _ F _ (yD d.fs j.1 N) (aV0 hme j.2 N);exact by grind
    ·simp at h
   ·split at h
    ·rename_i f sm k R;split at h
     ·rename_i j;rw [Bool.and_eq_true,Bool.and_eq_true] at j;have F:=List.mem_of_find?_eq_some R;have hp:=List.find?_some R;have:=Nat.eq_of_beq_eq_true hp;simp only at this;subst this;have J:=j.2;split at J
      ·rename_i a V;obtain ⟨v,hv,H⟩:=aXR N V;have hne:C.recs≠[]:=by intro e;rw [e] at F;simp at F
       obtain ⟨r,hr,Z⟩:=hH.recs _ _ _ F _ v (yD d.fs j.1.1 N) (aV0 hme j.1.2 N) hv (aVZ (hme.me hne) (hH.ag hne) J H);exact by grind
      ·simp at J
     ·simp at h
    ·simp at h
 ·rename_i U;split at h
  ·rename_i x t hx ht;have H:=Mt.opd d.fr x;dsimp only at h;split at h
   ·rename_i y hu V;rw [V] at H;obtain ⟨s,hs,Q,S⟩:=H.str;refine aBf d [] (ws:=dstW nt o.dst (.int .i64 s.length)) ?_ (.dst (.nm ?_ (.int _ _) rfl) nt o.dst) ?_ (by simpa using d.nx) h;· rw [M];unfold gM;simp only [U,hx,ht,hu,hs,len,lenN,bnd]
    ·simp [List.append_nil,den,Q,bnd,lenOf]
    intro f I;simp [List.append_nil];rcases List.mem_cons.1 I with rfl | I;· exact ⟨.i64,s.length,.i64,topL,by simp [den,Q,bnd,lenOf],rfl,by simp [CO.ev];exact S⟩
    exact d.fs f I
   ·rename_i e y w c' m i own hu V;rw [V] at H;generalize W:opd st.fr x=xv at H;cases H with
    | sl Q X hi S =>
     rename_i es o1 k' z';refine aBf d [] (ws:=dstW nt o.dst (.int .i64 es.length)) ?_ (.dst (.nm ?_ (.int _ _) rfl) nt o.dst) ?_ (by simpa using d.nx) h;· rw [M];unfold gM;simp [U,hx,ht,hu,W,len,lenN,bnd]
     ·simp [List.append_nil,den,Q,bnd,lenOf]
     intro f I;simp [List.append_nil];split at I
     ·rcases List.mem_cons.1 I with rfl | I;· exact ⟨.i64,es.length,.i64,c',by simp [den,Q,bnd,lenOf],rfl,by simp [CO.ev];omega⟩
      exact d.fs f I
     ·rename_i kk z _;rcases List.mem_cons.1 I with rfl | I;· have:=yE hi;subst this;exact ⟨.i64,es.length,.i64,_,by simp [den,Q,bnd,lenOf],rfl,by simp only [CO.ev];symm;rw [decide_eq_true_eq];exact_mod_cast S⟩
      exact d.fs f I
     exact d.fs f I
   ·rename_i e own hu V;rw [V] at H;generalize W:opd st.fr x=xv at H;cases H with
    | nil _ =>
     exact mK d (v := .int .i64 0) (by rw [M];unfold gM;simp only [U,hx,ht,hu,W,len,lenN,bnd,List.length_nil];rfl) (.nm rfl (.int _ _) rfl) h
   ·simp at h
  ·simp at h
 ·rename_i U;split at h
  ·rename_i x y t u hx ht;split at h
   ·rename_i e e' hu1 hu2;split at h
    ·rename_i i hi;split at h
     ·rename_i D;obtain ⟨c1,c2,c3,c4⟩:=D;rw [Option.isNone_iff_eq_none] at c4;dsimp at h;split at h
      ·rename_i v nx b;have E:=Mt.opd d.fr x;have B:=Mt.opd d.fr y;have L:∀ {r} l,apd i.size (opd st.fr x) (opd st.fr y)=some r→Mt C.τ (env++l) v r→nx=(env++l).length→nJ P mt nt O C.τ env o A st K:=by
        intro r l hr H hn;refine aBf d l (ws:=dstW nt o.dst r++left st.fr true x) ?_ ((FrOk.dst H nt o.dst).app ((d.fr.left true x).mono l)) (fun f I=>(d.fs f I).mono l) hn h;rw [M];unfold gM;simp [U,hx,ht,hu1,hu2,hi,c1,c2,c3,c4,and_self,if_true,hr,bnd]
       unfold aapd at b;generalize hxa:aopd A.fr x=xa at b E;generalize hya:aopd A.fr y=ya at b B;generalize W:opd st.fr x=xv at E L;generalize hyv:opd st.fr y=yv at B L;split at b
       ·cases b;cases E with
        | nil _ =>
         cases B with
         | nil _ =>
          refine L [] (r := .slice [] [] true) ?_ (.nil true) (by simpa using d.nx);simp [apd,szOk]
       ·split at b
        ·rename_i k hk;split at b
         ·rename_i S;cases b;cases E with
          | nil _ =>
           cases B with
           | sl Q X G T =>
            rename_i es o1 k' z';have h3:=aJ9 hk d.fs G;refine L [] (r := .slice es [] true) ?_ (by simpa using Mt.sl Q X G T) (by simpa using d.nx);simp only [apd,List.nil_append,List.length_nil];rw [if_pos ⟨by omega,rfl,aKf X S.2⟩]
         simp at b
        simp at b
       ·split at b
        ·rename_i k hk;split at b
         ·rename_i S;cases b;cases B with
          | nil _ =>
           cases E with
           | sl Q X G T =>
            rename_i es o1 k' z';have h3:=aJ9 hk d.fs G;refine L [] (r := .slice es [] true) ?_ (by simpa using Mt.sl Q X G T) (by simpa using d.nx);simp only [apd,List.append_nil,List.length_nil];rw [if_pos ⟨by omega,aKf X S.2,rfl⟩]
         simp at b
        simp at b
       ·split at b
        ·rename_i k hk;split at b
         ·rename_i S;obtain ⟨l1,l2,l3,l4⟩:=S;subst l3 l4;cases b;cases E with
          | sl Q X G T =>
           rename_i es o1 k' z';cases B with
           | sl hd' he' hii' hle' =>
            rename_i es' o3 k'' z'';have h3:=aJ9 hk d.fs G;refine L [.slice (es++es') [] true] (r := .slice (es++es') [] true) ?_ ?_ (by simp [d.nx]);· simp only [apd];rw [if_pos ⟨by omega,aKf X l2,aKf he' l2⟩]
            refine .sl (aGY d _) ?_ (dV _ G) ?_
            ·intro a V;rcases List.mem_append.1 V with h | h;· exact X a h
             exact he' a h
            simp;omega
         simp at b
        simp at b
       simp at b
      simp at h
     simp at h
    simp at h
   simp at h
  simp at h
 ·rename_i U;split at h
  ·rename_i x y hx;have E:=Mt.opd d.fr x;have B:=Mt.opd d.fr y;dsimp at h;split at h;· rename_i p k q k' hp hq;rw [hp] at E;rw [hq] at B;obtain ⟨n,hn,_⟩:=E.int;obtain ⟨m,H,_⟩:=B.int;exact aGX d (v := .int k (if m>n then m else n)) (by rw [M];unfold gM;simp [U,hx,hn,H,mx,bnd]) (Mt.newInt d _ _) h
   simp at h
  simp at h
 ·simp at h
theorem aZT {v0} (r:Hyp C O v0) (j:Me C v0 env) (e:Good C.τ env A st) (h:aOp P mt nt C o A K=true):nJ P mt nt O C.τ env o A st K:=by
 cases g:o.op with
 | move x =>
  simp [aOp,g] at h;exact aKc e (by simp [aR,g]) ((FrOk.dst (Mt.opv e.fr _ x) nt o.dst).app (e.fr.left _ x)) h
 | assign x =>
  simp [aOp,g] at h;exact aKc e (by simp [aR,g]) ((FrOk.dst (Mt.opv e.fr _ x) nt o.dst).app (e.fr.left _ x)) h
 | pick c a b=>exact aXP e g h
 | alloc t=>exact aVT e g h
 | box t x=>exact bAu e g h
 | build t ps=>exact aVU e g h
 | buildSlice t n ps=>exact aH5 e g h
 | load t p=>exact aXQ e g h
 | store t p x=>exact aVV e g h
 | nilCheck x=>exact aMi e g h
 | binOp q t x y u=>exact bAx e g h
 | unOp q t x=>exact bBE e g h
 | convert s d x=>exact aPa e g h
 | fieldAddr s x f=>exact aKg e g h
 | indexAddr t x i=>exact aKh e g h
 | index t x i=>exact aVX e g h
 | slice t x l k m =>
  cases l<;>cases k<;>cases m<;>first | exact aVY e g h | (simp [aOp,g] at h)
 | extract x i=>exact aPb e g h
 | call c=>exact aXS r j e g h
 | _=>simp [aOp,g] at h
end
section
variable {P : Program} {mt : Hints} {nt : Nat} {C : Cfg} {O : Orc} {env : List PV}
theorem aD4 {τ} {e}:∀ n {o A st K},aAw e n o A K=true→Good τ env A st →
  ∃ b d p,(∀ {R} (i:Bool→St→Option R),iN e n o st i=i b d)∧Good τ env p d∧K b p=true
 | 0,_,_,_,_,h,_=>by simp [aAw] at h
 | n+1,o,A,st,K,h,m=>by
  simp [aAw] at h;split at h;· rename_i j;exact ⟨true,st,A,fun i=>by simp [iN,j],m,h⟩
  rename_i g f j;split at h
  ·rename_i q r;split at h
   ·rename_i s y;obtain ⟨w,c,B,u,a,k⟩:=aD4 n h m;cases w with
    | true =>
     obtain ⟨b,fs,hv,v,x⟩:=aVR k (a.fr.get s) a.fs;refine ⟨b==f,{c with fr:=(s,.bool b)::c.fr},_,fun i => ?_,?_,v⟩;· simp [iN,j,r,y];rw [u];simp only [hv];cases b<;>rfl
     exact ⟨.cons (.cn rfl) a.fr,a.bx,x,a.nx⟩
    | false =>
     simp at k;split at k;· rename_i z;have l:=a.fr.get s;rw [z] at l;generalize t:gets c.fr s=C at l;cases l;simp [iN];grind
     grind
   grind
  grind
theorem Good.und {τ} {A st} (a:Good τ env A st) nt d:Good τ env {A with fr:=adst nt d .und++A.fr} {st with fr:=dstW nt d .und++st.fr} :=
 ⟨(FrOk.dst .und nt d).app a.fr,a.bx,a.fs,a.nx⟩
theorem Me.mono {v0} (h:Me C v0 env) l:Me C v0 (env++l) :=
 ⟨fun a=>dV l (h.me a),fun r a=>by obtain ⟨v,hv,b⟩:=h.cap r a;exact ⟨v,dV l hv,b⟩⟩
theorem aV1 {v0} (j:Hyp C O v0) {d}:∀ a {env A st K},Me C v0 env→aOps P mt nt C d a A K=true→Good C.τ env A st →
  ∃ c r l,(∀ {R} (f:St→Option R),jP P mt nt O d a st f=f c)∧Good C.τ (env++l) r c∧K r=true
 | [],env,A,st,K,_,h,p=>⟨st,A,[],fun f=>rfl,by grind,h⟩
 | o::a,env,A,st,K,m,h,p=>by
  obtain ⟨b,w,D,x,i,t⟩:=aD4 _ h p;cases b with
  | true =>
   obtain ⟨e,B,fs,E,l,z,n,_,_,y⟩:=aZT j m i t;obtain ⟨g,q,v,s,k,u⟩:=aV1 j a (m.mono l) y n;refine ⟨g,q,l++v,fun f => ?_,by grind,u⟩;simp [jP];rw [x];rw [eZ,z];exact s f
  | false =>
   obtain ⟨g,q,v,s,k,u⟩:=aV1 j a m t (i.und nt o.dst);simp [jP];grind
theorem aPe {v0} (n:Hyp C O v0) {g}:∀ d i a {env A st K},Me C v0 env→aXN P mt nt C g i d a A K=true→Good C.τ env A st →
  ∃ c f u l,(∀ {R} (m:List (Nat×Foot)→St→Option R),cI P mt nt O g i d a st m=m c f)∧Good C.τ (env++l) u f∧K c u=true
 | [],i,a,env,A,st,K,_,h,s=>⟨a,st,A,[],fun m=>rfl,by grind,h⟩
 | o::d,i,a,env,A,st,K,q,h,s=>by
  obtain ⟨b,B,J,D,k,w⟩:=aD4 _ h s;cases b with
  | true =>
   obtain ⟨e,H,fs,L,l,F,r,I,G,E⟩:=aZT n q k w;obtain ⟨v,j,t,y,z,p,x⟩:=aPe n d (i+1) _ (q.mono l) E r;refine ⟨v,j,t,l++y,fun m => ?_,by grind,x⟩;simp [cI];rw [D];rw [eZ,F];simp [bnd];grind
  | false =>
   obtain ⟨v,j,t,y,z,p,x⟩:=aPe n d (i+1) a q w (k.und nt o.dst);simp [cI];grind
variable {τ : Tb}
theorem aR2:∀ {a b},BxOk τ env a b→aJa a=b.map fun x=>(x.1,x.2.length)
 | _,_,.nil=>rfl
 | _,_,.cons h c=>by
  have:=aR2 c;simp [aJa] at this;simp [aJa,this,h.len]
theorem aV2 {a b} (h:BxOk τ env a b):∀ {sh r},aTu a sh=some r→Mts τ env r (flat b sh)∧iO sh b=true
 | [],r,e=>by cases e;exact ⟨.nil,rfl⟩
 | (i,n)::sh,r,e=>by
  simp [aTu] at e;split at e
  ·rename_i cs o k j;split at e
   ·rename_i l;cases e;obtain ⟨f,g⟩:=aV2 h j;obtain ⟨y,m,c⟩:=h.get k;have d:y.length=n:=by rw [← c.len,l]
    refine ⟨?_,?_⟩;· simp [flat,m];refine Mts.app ?_ f;rw [← d,aRV];exact c
    unfold iO at g ⊢;grind
   grind
  grind
theorem aV3:∀ {a b} (sh:List (Nat×Nat)),BxOk τ env a b→(a.all fun x=>sh.any fun y=>y.1==x.1)=(b.all fun x=>sh.any fun y=>y.1==x.1)
 | _,_,sh,.nil=>rfl
 | _,_,sh,.cons h c=>by simp [aV3 sh c]
theorem aV4 {sh a v} (h:aD0 sh a=true) (d:Mt τ env a v):inside sh v=true:=by
 cases d with
 | ptr id off=>exact h
 | agg b=>exact aGU b h
 | ref=>rfl
 | nm e c b=>cases c<;>first | rfl | simp at b
 | sl=>rfl
 | cn=>rfl
 | nil=>rfl
 | any=>simp [aD0,AV.isNm] at h
 | und=>simp [aD0,AV.isNm] at h
 | tup=>simp [aD0,AV.isNm] at h
theorem aJd {sh}:∀ {a vs},a.all (aD0 sh)=true→Mts τ env a vs→vs.all (inside sh)=true
 | _,_,_,.nil=>rfl
 | _,_,h,.cons b c=>by
  simp only [List.all_cons,Bool.and_eq_true] at h ⊢;exact ⟨aV4 h.1 b,aJd h.2 c⟩
theorem aR3 {a b} (h:FrOk τ env a b):∀ (kp:List Nat),Mts τ env (kp.map (aC5 a)) (kp.map (gets b))
 | [] => .nil
 | i::kp => .cons (h.get i) (aR3 h kp)
theorem aV5 {kp sh A st s} (h:aTv kp sh A=some s) (g:Good τ env A st):∃ vs,(∀ {R} (d:List PV→UP→Option R),pack kp sh st d=d vs [])∧Mts τ env s vs:=by
 obtain ⟨b,f,c⟩:=g.bx;unfold aTv at h;split at h
 ·rename_i r k;obtain ⟨m,i⟩:=aV2 c k;have a:Mts τ env (kp.map (aC5 A.fr)++r) (mV kp sh st):=by
   unfold mV;rw [f];exact (aR3 g.fr kp).app m
  have j:=aV3 sh c;dsimp at h;split at h;· rename_i e;cases h;refine ⟨mV kp sh st,fun d => ?_,a⟩;unfold pack;rw [f];simp [oI,iA,i,← j,e]
  rename_i e;split at h;· rename_i l;cases h;refine ⟨mV kp sh st,fun d => ?_,a⟩;unfold pack;rw [f];simp [oI,iA,i,← j,e,aJd l a,cnd]
  grind
 grind
theorem aPf:∀ {kp b vs} pre,Mts τ env b vs→b.length=kp.length→FrOk τ env (azip kp b) (jQ (pre++vs) pre.length kp)
 | [],_,_,pre,h,d=>by
  cases h with
  | nil=>exact .nil
  | cons=>grind
 | i::kp,_,_,pre,h,d=>by
  cases h with
  | nil=>grind
  | cons h c =>
   rename_i a b v vs;simp [jQ];have e:gt (pre++v::vs) pre.length=v:=by rw [aBt];simp
   rw [e];refine .cons h ?_;have:=aPf (kp:=kp) (pre++[v]) c (by grind);grind
theorem aV6 s t:∀ kp k,k+kp.length≤s.length→jQ (s++t) k kp=jQ s k kp
 | [],_,_=>rfl
 | i::kp,k,h=>by
  simp at h;simp [jQ,aV6 s t kp (k+1) (by omega)];have:gt (s++t) k=gt s k:=by rw [aBt,aBt,List.getElem?_append_left (by omega)]
  grind
theorem aMl:∀ {sh a vs} pre,Mts τ env a vs→a.length=(sh.map (·.2)).sum→BxOk τ env (aO5 a sh) (aIN (pre++vs) pre.length sh)
 | [],_,_,pre,h,c => .nil
 | (i,n)::sh,a,vs,pre,h,c=>by
  have b:=h.len;refine .cons ?_ ?_
  ·have e:(List.range n).map (fun j=>gt (pre++vs) (pre.length+j))=vs.take n:=by
    apply List.ext_getElem;· grind
    simp [aBt];grind
   rw [e];exact h.take n
  have:=aMl (sh:=sh) (pre++vs.take n) (h.drop n) (by grind);simp_all
theorem aMm {a}:∀ {sh r},aTu a sh=some r→r.length=(sh.map (·.2)).sum
 | [],r,e=>by cases e;rfl
 | (i,n)::sh,r,e=>by
  simp [aTu] at e;split at e
  ·rename_i cs d f b;split at e;· rename_i c;cases e;simp [aMm b,c]
   grind
  grind
theorem aXT {kp sh A s} (h:aTv kp sh A=some s):s.length=kp.length+(sh.map (·.2)).sum:=by
 unfold aTv at h;split at h;· rename_i r a;have:=aMm a;grind
 grind
theorem aMn {kp sh s vs fs a} (h:Mts τ env s vs) (g:s.length=kp.length+(sh.map (·.2)).sum) (c:∀ f,f∈fs→dN env f) (d:a=env.length) :
  Good τ env (aO6 kp sh s fs a) (cH kp sh vs []):=by
 have b:=h.len;refine ⟨?_,⟨_,rfl,?_⟩,c,d⟩
 ·have:=aPf (kp:=kp) [] (h.take kp.length) (by grind);show FrOk τ env (azip kp (s.take kp.length)) (jQ vs 0 kp);have e:jQ vs 0 kp=jQ (vs.take kp.length) 0 kp:=by
   have:=aV6 (vs.take kp.length) (vs.drop kp.length) kp 0 (by grind);simp_all
  grind
 have:=aMl (sh:=sh) (vs.take kp.length) (h.drop kp.length) (by grind);rw [List.take_append_drop] at this;have e:(vs.take kp.length).length=kp.length:=by grind
 rw [e] at this;exact this
end
variable {τ : Tb} {env l : List PV}
mutual
theorem aV7:∀ {a b:AV},AV.beq a b=true→a=b
 | .any,b,h=>by cases b<;>first | rfl | simp [AV.beq] at h
 | .und,b,h=>by cases b<;>first | rfl | simp [AV.beq] at h
 | .nm x l,b,h=>by
  cases b<;>simp [AV.beq] at h;grind
 | .sl x n c m i o,b,h=>by
  cases b<;>simp [AV.beq] at h;simp_all
 | .cn c,b,h=>by
  cases b<;>simp [AV.beq] at h;rw [h]
 | .nil o,b,h=>by
  cases b<;>simp [AV.beq] at h;rw [h]
 | .agg a,b,h=>by
  cases b<;>simp [AV.beq] at h;rw [aPg h]
 | .tup a,b,h=>by
  cases b<;>simp [AV.beq] at h;rw [aPg h]
 | .ref a,b,h=>by
  cases b<;>simp [AV.beq] at h;rw [aV7 h]
 | .ptr i o,b,h=>by
  cases b<;>simp [AV.beq] at h;simp_all
theorem aPg:∀ {a b:List AV},AV.beqs a b=true→a=b
 | [],[],_=>rfl
 | [],_::_,h=>by simp [AV.beqs] at h
 | _::_,[],h=>by simp [AV.beqs] at h
 | a::e,b::d,h=>by
  simp only [AV.beqs,Bool.and_eq_true] at h;rw [aV7 h.1,aPg h.2]
end
theorem CnOk.back:∀ {c b b'},CnOk env c b→CnOk (env++l) c b'→CnOk env c b'
 | .k _,_,_,_,h=>h
 | .cmp o x y,b,b',⟨k,n,k',m,d,a,i⟩,⟨q,j,g,p,g1,g2,e⟩=>by
  rw [dV l d] at g1;rw [dV l a] at g2;cases g1;cases g2;exact ⟨_,_,_,_,d,a,e⟩
 | .not c,b,b',h,f=>CnOk.back (c:=c) (b := !b) (b' := !b') h f
 | .unk,_,_,_,_=>trivial
mutual
theorem Mt.back:∀ {a:AV} {v w:PV},Mt τ env a v→Mt τ (env++l) a w→Mt τ env a w
 | _,_,w,.any v,h => .any _
 | _,_,w,.und,h=>by cases h;exact .und
 | _,_,w,.nm f q d,h=>by
  cases h with
  | nm c g b =>
   rw [dV l f] at c;cases c;exact .nm f q d
 | _,_,w,.sl f t p q,h=>by
  cases h with
  | sl c m e g =>
   rw [dV l f] at c;rw [dV l p] at e;cases c;cases e;exact .sl f m p g
 | _,_,w,.cn r,h=>by
  cases h with
  | cn j=>exact .cn (r.back j)
 | _,_,w,.nil o,h=>by
  cases h;exact .nil o
 | _,_,w,.agg d,h=>by
  cases h with
  | agg b=>exact .agg (d.back b)
 | _,_,w,.tup d,h=>by
  cases h with
  | tup b=>exact .tup (d.back b)
 | _,_,w,.ref hv,h=>by
  cases h with
  | ref k=>exact .ref (hv.back k)
 | _,_,w,.ptr i o,h=>by cases h;exact .ptr i o
theorem Mts.back:∀ {a:List AV} {v w:List PV},Mts τ env a v→Mts τ (env++l) a w→Mts τ env a w
 | _,_,w,.nil,h=>by cases h;exact .nil
 | _,_,w,.cons s d,h=>by
  cases h with
  | cons n b=>exact .cons (s.back n) (d.back b)
end
def pick:List HV→List PV→List PV
 | .same::hs,_::ws=>pick hs ws
 | .any::hs,_::ws=>pick hs ws
 | _::hs,w::ws=>w::pick hs ws
 | _,_=>[]
theorem aPh {α}:∀ (a b:List α) j,nth (a++b) (a.length+j)=nth b j
 | [],b,j=>by simp
 | x::a,b,j=>by
  rw [show (x::a).length+j=(a.length+j)+1 by grind];exact aPh a b j
theorem uA:∀ {hv f k g ws},aE8 hv f k=some g→ws.length=hv.length→∃ j,g=f+j∧nth (pick hv ws) j=nth ws k
 | [],f,0,g,ws,h,_=>by simp [aE8] at h
 | [],f,k+1,g,ws,h,_=>by simp [aE8] at h
 | hv::e,f,0,g,ws,h,m=>by
  cases ws with
  | nil=>grind
  | cons w ws =>
   cases hv<;>simp [aE8] at h;subst h;exact ⟨0,rfl,rfl⟩
 | hv::e,f,k+1,g,ws,h,m=>by
  cases ws with
  | nil=>grind
  | cons w ws =>
   have d:ws.length=e.length:=by grind
   cases hv with
   | same=>exact uA (hv:=e) h d
   | any=>exact uA (hv:=e) h d
   | lf x =>
    obtain ⟨j,l,i⟩:=uA (hv:=e) (ws:=ws) h d;exact ⟨j+1,by omega,i⟩
   | el x =>
    obtain ⟨j,l,i⟩:=uA (hv:=e) (ws:=ws) h d;exact ⟨j+1,by omega,i⟩
   | acc a b c =>
    obtain ⟨j,l,i⟩:=uA (hv:=e) (ws:=ws) h d;exact ⟨j+1,by omega,i⟩
theorem aC8 {fs cx cx' k k' z z' E l' lE} (hf:∀ f,f∈fs→dN (env++l') f) (hE:E=env++lE) (hz:den E cx=some (.int k z)) (hz':den (env++l') cx'=some (.int k' z')) (hzz:z'≤z)
  (hsuc:∀ i',cx' = .suc i'→∀ k zi,den (env++l') i'=some (.int k zi)→z'=zi+1∧0≤zi) :
  ∀ {hv s s2 s1 vs ws nx nx1},wO cx hv s nx=some (s1,nx1)→sE fs cx' hv s s2=true→Mts τ env s vs→Mts τ (env++l') s2 ws→(∀ j,nth E (nx+j)=nth (pick hv ws) j) →
   Mts τ E s1 ws∧nx1=nx+(pick hv ws).length∧ws.length=hv.length
 | [],[],s2,s1,vs,ws,nx,nx1,h,hfit,hs,hs2,hn=>by
  cases s2 with
  | nil=>cases hs2;cases h;exact ⟨.nil,rfl,rfl⟩
  | cons=>simp [sE] at hfit
 | [],_::_,s2,s1,vs,ws,nx,nx1,h,hfit,hs,hs2,hn=>by simp [wO] at h
 | _::_,[],s2,s1,vs,ws,nx,nx1,h,hfit,hs,hs2,hn=>by simp [wO] at h
 | hv::hvs,a::s,s2,s1,vs,ws,nx,nx1,h,hfit,hs,hs2,hn=>by
  cases s2 with
  | nil=>simp [sE] at hfit
  | cons b s2 =>
   simp [sE] at hfit;obtain ⟨f1,f2⟩:=hfit;cases hs with
   | cons ha hs =>
    cases hs2 with
    | cons hb hs2 =>
     rename_i v vs w ws
     -- a place with no new name
     have old:∀ {x},(match wO cx hvs s (nx+0) with | some (r,nx)=>some (x::r,nx) | none=>none)=some (s1,nx1)→Mt τ E x w→pick (hv::hvs) (w::ws)=pick hvs ws→Mts τ E s1 (w::ws)∧nx1=nx+(pick (hv::hvs) (w::ws)).length∧(w::ws).length=(hv::hvs).length:=by
      intro x h hx hp;split at h;· rename_i r nx2 hr;cases h;obtain ⟨g1,g2,g3⟩:=aC8 hf hE hz hz' hzz hsuc hr f2 hs hs2 (by intro j;rw [← hp];exact hn j);exact ⟨.cons hx g1,by rw [hp];exact g2,by simp [g3]⟩
      simp at h
     have new:∀ {x},(match wO cx hvs s (nx+1) with | some (r,nx)=>some (x::r,nx) | none=>none)=some (s1,nx1)→Mt τ E x w→pick (hv::hvs) (w::ws)=w::pick hvs ws→Mts τ E s1 (w::ws)∧nx1=nx+(pick (hv::hvs) (w::ws)).length∧(w::ws).length=(hv::hvs).length:=by
      intro x h hx hp;split at h
      ·rename_i r nx2 hr;cases h;obtain ⟨g1,g2,g3⟩:=aC8 hf hE hz hz' hzz hsuc hr f2 hs hs2 (by
        intro j;have:=hn (j+1);rw [hp] at this;rw [show nx+1+j=nx+(j+1) by omega,this];rfl)
       exact ⟨.cons hx g1,by rw [hp];simp;omega,by simp [g3]⟩
      simp at h
     have named:pick (hv::hvs) (w::ws)=w::pick hvs ws→den E (.root nx)=some w:=by
      intro hp;have:=hn 0;rw [hp] at this;exact this
     cases hv with
     | same =>
      have:=aV7 f1;subst this;exact old h (by rw [hE];exact (ha.back hb).mono lE) rfl
     | any=>exact old h (.any w) rfl
     | lf x=>exact new h (aO9 (named rfl) (aFZ hf f1 hb)) rfl
     | el x=>exact new h (aKe (named rfl) (aKd hf f1 hb)) rfl
     | acc n c m =>
      refine new h ?_ rfl;have hnm:=named rfl;simp [bBC] at f1;split at f1
      ·rename_i x n' c' m' i' own;simp only [Bool.and_eq_true] at f1;obtain ⟨⟨f1,f3⟩,f4⟩:=f1;have:=Nat.eq_of_beq_eq_true f1;subst this;subst f3;cases hb with
       | sl hd he hi hl =>
        rename_i es o kk zi;refine .sl hnm he hz ?_;have hmul:∀ {p q},p≤q→m*p≤m*q:=fun h=>Nat.mul_le_mul_left m h;split at f4;· rw [decide_eq_true_eq] at f4;have:=yE hi;subst this;omega
        simp only [Bool.or_eq_true,Bool.and_eq_true,decide_eq_true_eq] at f4;rcases f4 with ⟨⟨e1,e2⟩,e3⟩ | ⟨⟨e1,e2⟩,e3⟩;· have:=Nat.eq_of_beq_eq_true e2;subst this;have e3:=Nat.le_of_ble_eq_true e3;obtain ⟨g1,g2⟩:=hsuc _ e1.symm _ _ hi;have g3:=hmul (p:=zi.toNat+1) (q:=z.toNat) (by omega);rw [Nat.mul_add,Nat.mul_one] at g3;omega
        have:=Nat.eq_of_beq_eq_true e2;subst this;have e3:=Nat.le_of_ble_eq_true e3;subst e1;rw [hi] at hz';cases hz';have g3:=hmul (p:=z'.toNat) (q:=z.toNat) (by omega);omega
      ·subst f1;cases hb with
       | nil _=>exact .sl hnm (by simp) hz (by simp)
      simp at f1
theorem aKk {R e} (K:Ex→Option R):∀ {l},aTw l e=true→qP e K l=K e∧∃ w,w∈l∧exOf w=e
 | [],h=>by simp [aTw] at h
 | w::l,h=>by
  have key:(exOf w=e∧∀ y,exIs e w (K (exOf w)) y=K e)∨((∀ y,exIs e w (K (exOf w)) y=y)∧aTw l e=true):=by
   unfold aTw at h;rw [List.any_cons,Bool.or_eq_true] at h;cases e with
   | nrm =>
    grind
   | ret =>
    cases w with
    | none=>left;exact ⟨rfl,fun y=>rfl⟩
    | some j =>
     right;rcases h with h | h;· grind
     exact ⟨fun y=>rfl,h⟩
   | brk i =>
    cases w with
    | none =>
     right;rcases h with h | h;· grind
     exact ⟨fun y=>rfl,h⟩
    | some j =>
     by_cases a:i=j;· subst a;left;exact ⟨rfl,fun y=>by simp [exIs,exOf]⟩
     right;rcases h with h | h;· simp_all
     exact ⟨fun y=>by simp [exIs,a],h⟩
  rcases key with ⟨c,b⟩ | ⟨c,b⟩;· exact ⟨b _,w,by simp,c⟩
  obtain ⟨g1,w',g2,d⟩:=aKk K b;exact ⟨by simp [qP];grind,w',by grind,d⟩
section
variable {P : Program} {mt : Hints} {nt : Nat} {C : Cfg} {O : Orc}
theorem aV8 {τ} {env c b a st} (h:FrOk τ env a st.fr):FrOk τ env (vF.acond c b a) (wY c b st).fr:=by
 cases c with
 | tmp t=>exact .cons (.cn rfl) h
 | const _=>exact h
 | global _=>exact h
 | func _=>exact h
theorem aR4 {c b st}:(wY c b st).bx=st.bx:=by cases c<;>rfl
def bAA (P:Program) (mt:Hints) (nt:Nat) (C:Cfg) (O:Orc) (env:List PV) (c:Code) (st:St) (K:Ex→ASt→Bool):Prop :=
 ∃ e st' A' l,(∀ {R} (KK:Ex→St→Option R),aS P mt nt O aE c st KK=KK e st')∧Good C.τ (env++l) A' st'∧K e A'=true
theorem yF {v0} (hH:Hyp C O v0):∀ c {env A st K},Me C v0 env→vF P mt nt C c A K=true→Good C.τ env A st→bAA P mt nt C O env c st K
 | .skip,env,A,st,K,hM,h,hG=>⟨.nrm,st,A,[],fun KK=>rfl,by simpa using hG,h⟩
 | .label _,env,A,st,K,hM,h,hG=>⟨.nrm,st,A,[],fun KK=>rfl,by simpa using hG,h⟩
 | .exit id,env,A,st,K,hM,h,hG=>⟨.brk id,st,A,[],fun KK=>rfl,by simpa using hG,h⟩
 | .ret,env,A,st,K,hM,h,hG=>⟨.ret,st,A,[],fun KK=>rfl,by simpa using hG,h⟩
 | .region rid ops o,env,A,st,K,hM,h,hG=>by
  simp only [vF] at h;split at h;· simp at h
  ·rename_i hfr;cases o with
   | false =>
    obtain ⟨st',A',l,h1,h2,h3⟩:=aV1 hH ops.toList hM h hG;exact ⟨.nrm,st',A',l,fun KK=>by simp only [aS,aCK,hfr];exact h1 _,h2,h3⟩
   | true =>
    simp only at h;split at h
    ·rename_i hs;obtain ⟨lg,st',A',l,h1,h2,h3⟩:=aPe hH ops.toList 0 [] hM h hG;split at h3;· rename_i V;refine ⟨.nrm,st',A',l,fun KK => ?_,h2,h3⟩;simp only [aS,aCK,hfr,hs];rw [h1];simp only [V]
     ·simp at h3
    ·simp at h
 | .seq a b,env,A,st,K,hM,h,hG=>by
  simp only [vF] at h;obtain ⟨e,st',A',l,h1,h2,h3⟩:=yF hH a hM h hG;cases e with
  | nrm =>
   obtain ⟨e2,st2,A2,p,g1,g2,g3⟩:=yF hH b (hM.mono l) h3 h2;exact ⟨e2,st2,A2,l++p,fun KK=>by simp only [aS];rw [h1];exact g1 KK,by simpa using g2,g3⟩
  | brk i=>exact ⟨.brk i,st',A',l,fun KK=>by simp only [aS];rw [h1],h2,h3⟩
  | ret=>exact ⟨.ret,st',A',l,fun KK=>by simp only [aS];rw [h1],h2,h3⟩
 | .cond c a b,env,A,st,K,hM,h,hG=>by
  simp only [vF] at h;obtain ⟨t,fs,hv,hk,hf⟩:=aVR h (Mt.opd hG.fr c) hG.fs;cases t with
  | true =>
   obtain ⟨e2,st2,A2,p,g1,g2,g3⟩:=yF hH a (st:=wY c true st) hM hk ⟨aV8 hG.fr,by rw [aR4];exact hG.bx,hf,hG.nx⟩;exact ⟨e2,st2,A2,p,fun KK=>by simp only [aS,brB,hv,wS,bnd,cnd];exact g1 KK,g2,g3⟩
  | false =>
   obtain ⟨e2,st2,A2,p,g1,g2,g3⟩:=yF hH b (st:=wY c false st) hM hk ⟨aV8 hG.fr,by rw [aR4];exact hG.bx,hf,hG.nx⟩;exact ⟨e2,st2,A2,p,fun KK=>by simp only [aS,brB,hv,wS,bnd,cnd];exact g1 KK,g2,g3⟩
 | .block id b,env,A,st,K,hM,h,hG=>by
  simp only [vF] at h;obtain ⟨e,st',A',l,h1,h2,h3⟩:=yF hH b hM h hG;cases e with
  | nrm=>exact ⟨.nrm,st',A',l,fun KK=>by simp only [aS];rw [h1],h2,h3⟩
  | ret=>exact ⟨.ret,st',A',l,fun KK=>by simp only [aS];rw [h1],h2,h3⟩
  | brk i =>
   simp only at h3;by_cases hi:i=id;· rw [if_pos hi] at h3;exact ⟨.nrm,st',A',l,fun KK=>by simp only [aS];rw [h1];simp only [if_pos hi],h2,h3⟩
   ·rw [if_neg hi] at h3;exact ⟨.brk i,st',A',l,fun KK=>by simp only [aS];rw [h1];simp only [if_neg hi],h2,h3⟩
 | .scope b,env,A,st,K,hM,h,hG=>by
  simp only [vF] at h;obtain ⟨e,st',A',l,h1,h2,h3⟩:=yF hH b hM h hG;exact ⟨e,st',A',l,fun KK=>by simp only [aS];exact h1 KK,h2,h3⟩
 | .loop b,env,A,st,K,hM,h,hG=>by
  simp only [vF] at h;split at h
  ·rename_i H hfrl hlk;split at h
   ·rename_i s cn g F;split at h
    ·rename_i s1 S c0 hhv W;simp only [Bool.and_eq_true] at h;obtain ⟨⟨⟨h1,h2⟩,h3⟩,h4⟩:=h;rw [decide_eq_true_eq] at h2;have htop:(H.top:Int)≤1073741824:=by have e:topL=1073741824:=rfl;omega
     obtain ⟨b0,hb0,hbx0⟩:=hG.bx;have hsh:nD st.bx=aJa A.bx:=by rw [hb0];exact (aR2 hbx0).symm
     obtain ⟨vs,D,hms⟩:=aV5 g hG;have hlen:=aXT g;generalize hshd:aJa A.bx=sh at *;generalize d:wX mt b=kp at *
     -- the state at the head,with a count
     let body:cG:=fun s u=>aS P mt nt O aE b (cH kp sh s u) fun e st'=>pack kp sh st' fun s u=>some (e,s,u);let Inv:Int→List PV→Prop:=fun z ws=>Mts C.τ (env++pick H.hv ws) s1 ws∧S=(env++pick H.hv ws).length∧ws.length=H.hv.length∧nth ws H.cnt=some (.int .i64 z)∧0≤z∧z≤H.top;let Post:Ex×List PV×UP→Prop:=fun r=>∃ w hx,w∈kK b∧exOf w=r.1∧aTw (kK b) r.1=true∧aMg H.ex (exOf w)=some hx∧r.2.2=[]∧(∀ Z nx3,wO (.lit .i64 H.top) hx s A.nx=some (Z,nx3)→Mts C.τ (env++pick hx r.2.1) Z r.2.1∧nx3=(env++pick hx r.2.1).length);have hnth:∀ (hv:List HV) (ws:List PV) (j:Nat),nth (env++pick hv ws) (A.nx+j)=nth (pick hv ws) j:=by
      intro hv ws j;rw [hG.nx];exact aPh env _ j
     have hden:∀ (z:Int) (ws:List PV),ws.length=H.hv.length→nth ws H.cnt=some (.int .i64 z)→den (env++pick H.hv ws) (.root cn)=some (.int .i64 z):=by
      intro z ws hl hz;obtain ⟨j,e1,e2⟩:=uA F hl;show nth (env++pick H.hv ws) cn=_;rw [e1,hnth,e2];exact hz
     have hstep:∀ z ws,Inv z ws→∃ e ws',body ws []=some (e,ws',[])∧((e = .nrm∧z<H.top∧Inv (z+1) ws')∨(e ≠ .nrm∧Post (e,ws',[]))):=by
      rintro z ws ⟨i1,i2,i3,i4,i5,i6⟩;have I:=hden z ws i3 i4;have U:s1.length=kp.length+(sh.map (·.2)).sum:=by
       have e1:=i1.len;rw [e1,i3];have:=hms.len;have key:∀ {cx:Sx} {hv:List HV} {s:List AV} {nx:Nat} {r:List AV×Nat},wO cx hv s nx=some r→hv.length=s.length:=by
        intro cx hv;induction hv with
        | nil=>intro s nx r h;cases s with
         | nil=>rfl
         | cons=>simp [wO] at h
        | cons x hv ih=>intro s nx r h;cases s with
         | nil=>simp [wO] at h
         | cons y s =>
          have:∃ k r,wO cx hv s (nx+k)=some r:=by
           cases x<;>simp only [wO] at h<;>(split at h<;>first | (rename_i r' Q hr;exact ⟨_,_,hr⟩) | simp at h)
          obtain ⟨k,r,hr⟩:=this;simp [ih hr]
       rw [key hhv,hlen]
      have hfacts:∀ f,f∈((CO.le,Sx.lit .i64 0,Sx.root cn)::(CO.le,Sx.root cn,Sx.lit .i64 H.top)::A.fs)→dN (env++pick H.hv ws) f:=by
       intro f hf;rcases List.mem_cons.1 hf with rfl | hf;· exact ⟨_,0,_,z,rfl,I,by simp only [CO.ev];symm;rw [decide_eq_true_eq];exact i5⟩
       rcases List.mem_cons.1 hf with rfl | hf;· exact ⟨_,z,_,H.top,I,rfl,by simp only [CO.ev];symm;rw [decide_eq_true_eq];exact i6⟩
       exact (hG.fs f hf).mono _
      have N:=aMn i1 U hfacts i2;obtain ⟨e,st',A',l,g1,g2,g3⟩:=yF hH b (hM.mono _) h3 N;simp only at g3;split at g3
      ·rename_i s2 hpk2;obtain ⟨ws',hpv',hms'⟩:=aV5 hpk2 g2;refine ⟨e,ws',by show aS P mt nt O aE b (cH kp sh ws []) _=_;rw [g1,hpv'],?_⟩;rw [List.append_assoc] at hms';have hf2:∀ f,f∈A'.fs→dN (env++(pick H.hv ws++l)) f:=by
        intro f hf;have:=g2.fs f hf;rwa [List.append_assoc] at this
       have hd2:den (env++(pick H.hv ws++l)) (.root cn)=some (.int .i64 z):=by
        have:=dV l I;rwa [List.append_assoc] at this
       split at g3
       ·left;split at g3
        ·rename_i x hcx;simp only [Bool.and_eq_true,decide_eq_true_eq] at g3;obtain ⟨⟨rfl,v⟩,k3⟩:=g3;obtain ⟨n,hn,B⟩:=aZP v hf2;have:=hn.inj ⟨_,hd2⟩;subst this;have hw:IntKind.wrap .i64 (n+1)=n+1:=by simp [IntKind.wrap,IntKind.signed,IntKind.bits];omega
         have hds:den (env++(pick H.hv ws++l)) (.suc (.root cn))=some (.int .i64 (n+1)):=by
          simp only [den] at hd2 ⊢;rw [hd2];simp only [bnd,hw]
         obtain ⟨y,G,hmy⟩:=hms'.nth hcx;have hlast:∃ m,nth ws' H.cnt=some (.int .i64 m)∧den (env++(pick H.hv ws++l)) (.suc (.root cn))=some (.int .i64 m):=by
          obtain ⟨m,rfl,hm⟩:=hmy.int;exact ⟨m,G,hm⟩
         obtain ⟨m,hm1,hm2⟩:=hlast;rw [hds] at hm2;cases hm2;have hlw:ws'.length=H.hv.length:=by
          have e1:=hms'.len;have:∀ {fs:List Fact} {cx:Sx} {hv:List HV} {s s2:List AV},sE fs cx hv s s2=true→hv.length=s2.length:=by
           intro fs cx hv;induction hv with
           | nil=>intro s s2 h;cases s<;>cases s2<;>simp [sE] at h ⊢
           | cons x hv ih=>intro s s2 h;cases s<;>cases s2<;>simp [sE] at h ⊢;exact ih h.2
          rw [← e1,← this k3]
         have hz2:=hden (n+1) ws' hlw hm1;obtain ⟨q1,q2,q⟩:=aC8 (env:=env) (l':=pick H.hv ws++l) (E:=env++pick H.hv ws') hf2 rfl hz2 hds (by omega) (by
          rintro i' hi k zi hzi;cases hi;rw [hd2] at hzi;cases hzi;exact ⟨rfl,i5⟩) hhv k3 hms hms' (hnth H.hv ws')
         exact ⟨rfl,B,q1,by rw [q2,hG.nx];simp,q,hm1,by omega,by omega⟩
        simp at g3
       rename_i J;right;refine ⟨fun he=>J he,?_⟩;split at g3;· rename_i hx M;rw [Bool.and_eq_true] at g3;obtain ⟨w,T,hw2⟩:=(aKk (R:=Unit) (fun _=>none) g3.1).2;refine ⟨w,hx,T,hw2,g3.1,by rw [hw2];exact M,rfl,fun Z nx3 hhx => ?_⟩;obtain ⟨q1,q2,q⟩:=aC8 (env:=env) (l':=pick H.hv ws++l) (E:=env++pick hx ws') hf2 rfl (show den (env++pick hx ws') (.lit .i64 H.top)=some (.int .i64 H.top) from rfl) hd2 i6 (by rintro i' hi;cases hi) hhx g3.2 hms hms' (hnth hx ws');exact ⟨q1,by rw [q2,hG.nx];simp⟩
       simp at g3
      simp at g3
     -- it ends
     have hloop:∀ (n:Nat) z ws,((H.top:Int)-z).toNat≤n→Inv z ws→∃ r,aE body ws []=some r∧Post r:=by
      intro n;induction n with
      | zero =>
       intro z ws hn hI;obtain ⟨e,ws',g1,g2⟩:=hstep z ws hI;rw [xV,g1];simp only [bnd];rcases g2 with ⟨rfl,g2,g3⟩ | ⟨g2,g3⟩;· omega
       cases e with
       | nrm=>exact by grind
       | brk i=>exact ⟨_,rfl,g3⟩
       | ret=>exact ⟨_,rfl,g3⟩
      | succ n ih =>
       intro z ws hn hI;obtain ⟨e,ws',g1,g2⟩:=hstep z ws hI;rw [xV,g1];simp only [bnd];rcases g2 with ⟨rfl,g2,g3⟩ | ⟨g2,g3⟩;· exact ih (z+1) ws' (by omega) g3
       cases e with
       | nrm=>exact by grind
       | brk i=>exact ⟨_,rfl,g3⟩
       | ret=>exact ⟨_,rfl,g3⟩
     -- at the beginning
     have hI0:∃ z,Inv z vs:=by
      split at h1
      ·rename_i kk z;simp [Bool.and_eq_true,decide_eq_true_eq] at h1;obtain ⟨⟨⟨rfl,X⟩,z1⟩,hfit⟩:=h1;obtain ⟨y,G,hmy⟩:=hms.nth W;have hyz:nth vs H.cnt=some (.int .i64 z):=by
        obtain ⟨m,rfl,hm⟩:=hmy.int;have:=yE hm;subst this;exact G
       have hlw:vs.length=H.hv.length:=by
        have e1:=hms.len;have:∀ {fs:List Fact} {cx:Sx} {hv} {s s2},sE fs cx hv s s2=true→hv.length=s2.length:=by
         intro fs cx hv;induction hv with
         | nil=>intro s s2 h;cases s<;>cases s2<;>simp [sE] at h ⊢
         | cons x hv ih=>intro s s2 h;cases s<;>cases s2<;>simp [sE] at h ⊢;exact ih h.2
        rw [← e1,← this hfit]
       have hz2:=hden z vs hlw hyz;obtain ⟨q1,q2,q⟩:=aC8 (env:=env) (l':=[]) (E:=env++pick H.hv vs) (z':=z) (k' := .i64) (by simpa using hG.fs) rfl hz2 rfl (by omega) (by rintro i' hi;cases hi) hhv hfit hms (by simpa using hms) (hnth H.hv vs);exact ⟨z,q1,by rw [q2,hG.nx];simp,q,hyz,X,z1⟩
      simp at h1
     obtain ⟨X,hI0⟩:=hI0;obtain ⟨⟨e,ws,u⟩,g1,w,hx,k1,v,k3,k4,k5,k6⟩:=hloop _ X vs (Nat.le_refl _) hI0;simp only at v k3 k5 k6;subst k5;rw [List.all_eq_true] at h4;have h5:=h4 w k1;rw [k4] at h5;simp at h5;split at h5
     ·rename_i Y nx3' hhx;have L:Y.length=kp.length+(sh.map (·.2)).sum:=by
       have key:∀ {cx} {hv} {s} {nx} {r},wO cx hv s nx=some r→r.1.length=s.length:=by
        intro cx hv;induction hv with
        | nil=>intro s nx r h;cases s with
         | nil=>cases h;rfl
         | cons=>simp [wO] at h
        | cons x hv ih=>intro s nx r h;cases s with
         | nil=>simp [wO] at h
         | cons y s =>
          cases x<;>simp [wO] at h<;>(split at h<;>first | (rename_i r' Q hr;cases h;simp [ih hr]) | simp at h)
       rw [key hhx,hlen]
      obtain ⟨m4,n4⟩:=k6 _ _ hhx;refine ⟨exOf w,cH kp sh ws [],_,pick hx ws,fun KK => ?_,aMn m4 L (fun f hf=>(hG.fs f hf).mono _) n4,h5⟩;simp [aS,aCK,hfrl,hsh,d];rw [D];show bnd (aE body vs []) _=_;rw [g1];simp [bnd];have:=(aKk (fun e=>KK e (cH kp sh ws [])) k3).1;rw [this,v]
     ·simp at h5
    ·simp at h
   ·simp at h
  ·simp at h
 | .rangeFunc _ _ _ _,_,_,_,_,_,h,_=>by simp [vF] at h
 | .goto _,_,_,_,_,_,h,_=>by simp [vF] at h
 | .refuse _,_,_,_,_,_,h,_=>by simp [vF] at h
end
theorem aH6 {v} (h:v.solid1=true):jF v=some v:=by
 cases v<;>first | rfl | simp [solid1] at h
theorem aBg:∀ {cs},cs.all solid1=true→oB cs=some cs
 | [],_=>rfl
 | c::cs,h=>by
  simp only [List.all_cons,Bool.and_eq_true] at h;simp [oB,aH6 h.1,aBg h.2]
theorem aC9 {v} (h:v.solid=true):tA v=some v:=by
 cases v with
 | agg cs =>
  have  := h;simp [tA,aBg this,bnd]
 | _=>first | rfl | simp [PV.solid,solid1] at h
theorem aBh:∀ {cs},cs.all PV.solid=true→rV cs=some cs
 | [],_=>rfl
 | c::cs,h=>by
  simp only [List.all_cons,Bool.and_eq_true] at h;simp [rV,aC9 h.1,aBh h.2]
variable {τ : Tb} {env : List PV}
theorem aMo:∀ {b vs},Mts τ env b vs→b.all AV.solid=true→vs.all PV.solid=true
 | _,_,.nil,_=>rfl
 | _,_,.cons h c,a=>by
  simp only [List.all_cons,Bool.and_eq_true] at a ⊢;exact ⟨aC7 h a.1,aMo c a.2⟩
theorem ElsOk.nth:∀ {es vs},ElsOk τ es vs→∀ {i e},Go.Ev.nth es i=some e→∃ v,Go.Ev.nth vs i=some v∧ElOk τ e v
 | _,_,.nil,i,e,h=>by simp [Go.Ev.nth] at h
 | _,_,.cons h b,0,e,a=>by cases a;exact ⟨_,rfl,h⟩
 | _,_,.cons h b,i+1,e,a=>ElsOk.nth b (i:=i) a
section
variable {P : Program} {mt : Hints} {nt : Nat} {C : Cfg} {O : Orc}
theorem aMp {d A st r a} (h:aJ7 P d A r=some a) (k:Good τ env A st):∃ v,(∀ {R} (K:PV→Option R),aEY P d st r K=K v)∧Mt τ env a v:=by
 obtain ⟨b,y,m⟩:=k.bx;unfold aJ7 at h;split at h
 ·rename_i t;cases h;cases d with
  | true=>exact ⟨_,fun K=>rfl,k.fr.get t⟩
  | false=>exact ⟨_,fun K=>rfl,(k.fr.get t).plain⟩
 rename_i x t;split at h
 ·rename_i n B id off s u z;have p:=k.fr.get x;rw [z] at p;generalize f:gets st.fr x=D at p;cases p;split at h
  ·rename_i cs C o;have c:0<n∧(B=true∨n=1):=by
    simp_all
   obtain ⟨ws,g,e⟩:=m.get o;split at h
   ·rename_i l;have j:=aKb l e;rw [Option.map_eq_some_iff] at h;obtain ⟨v,hv,rfl⟩:=h;obtain ⟨w,q,i⟩:=aO7 hv e;cases d with
    | true =>
     refine ⟨w,fun K => ?_,i⟩;simp [aEY,s,u,f];rw [if_pos c,y,tZ,g];simp [bnd,j,cnd,q]
    | false =>
     refine ⟨w.plain,fun K => ?_,i.plain⟩;simp [aEY,s,u,f];rw [if_pos c,y,tZ,g];simp [bnd,j,cnd,q,sY]
   grind
  grind
 grind
theorem aMq {A st} (c:Good τ env A st):∀ {b a},aJ8 P A b=some a→∃ vs,(∀ {R} (K:List PV→Option R),aLx P st b K=K vs)∧Mts τ env a vs
 | [],a,h=>by cases h;exact ⟨[],fun K=>rfl,.nil⟩
 | r::b,a,h=>by
  simp [aJ8] at h;split at h;· rename_i v vs f e;cases h;obtain ⟨w,g1,g2⟩:=aMp f c;obtain ⟨ws,g,d⟩:=aMq c e;exact ⟨w::ws,fun K=>by simp [aLx];grind,.cons g2 d⟩
  grind
theorem aR5 {f a A st} (h:aVM P mt f a A=true) (c:Good τ env A st):∃ r,aJF P f mt.own st=some (r,[])∧RsOk τ a r:=by
 obtain ⟨b,e,j⟩:=c.bx;unfold aVM at h;unfold aJF;split at h
 ·rename_i r i;split at h
  ·rename_i v hv;rw [Bool.and_eq_true] at h;obtain ⟨w,g1,g2⟩:=aMp hv c;have d:=yD c.fs h.2 (.one g2);refine ⟨w,?_,?_⟩;· simp [i];rw [g1,aC9 (aC7 g2 h.1),e];rfl
   cases d with
   | cons k m=>cases m;exact k
  grind
 split at h
 ·rename_i vs hv;rw [Bool.and_eq_true,Bool.and_eq_true,decide_eq_true_eq] at h;obtain ⟨⟨g,l⟩,n⟩:=h;obtain ⟨ws,g1,g2⟩:=aMq c hv;have d:=yD c.fs l (g2.map Mt.plainA);refine ⟨(PV.tuple ws).plain,?_,?_⟩
  ·split;· grind
   rw [g1,aBh (aMo g2 g),e];rfl
  unfold RsOk;split;· grind
  exact ⟨_,rfl,d⟩
 grind
theorem aG1 {τ}:∀ {es vs pre},ElsOk τ es vs→∀ f,f∈aAx pre.length es→dN (pre++vs) f
 | _,_,pre,.nil,f,h=>by simp [aAx] at h
 | _,_,pre,.cons (e:=e) (es:=es) (v:=v) (vs:=vs) h g,f,a=>by
  simp [aAx] at a;have b  := by
   have:=aPh pre (v::vs) 0;simpa [den,nth] using this
  rcases a with a | a
  ·split at a
   ·rename_i k d c;cases h with
    | one h =>
     cases h with
     | rng i =>
      simp at a;rcases a with rfl | rfl;· exact ⟨_,d,_,_,rfl,b,by simp [CO.ev];grind⟩
      exact ⟨_,_,_,c,b,rfl,by simp [CO.ev];grind⟩
   grind
  have:=aG1 (pre:=pre++[v]) g f (by grind);grind
theorem aV9 {v0} (p:Hyp C O v0) {k a args} (s:Me C v0 args) (h:aFun P mt nt C k a=true) (d:ElsOk C.τ a.ins args):∃ r,kC P mt nt O aE k args []=some (r,[])∧RsOk C.τ a.outs r:=by
 unfold aFun at h;split at h
 ·rename_i c q;rw [Bool.and_eq_true,Bool.and_eq_true,Bool.and_eq_true,decide_eq_true_eq] at h;obtain ⟨⟨⟨v,_⟩,_⟩,t⟩:=h;have j:=d.len;have b  := by simpa using aF1 (env:=[]) d
  have m:Good C.τ args {fr:=azip (List.range a.ins.length) (aVH 0 a.ins),bx:=[],fs:=aAx 0 a.ins,nx:=a.ins.length} (pP args []):=by
   refine ⟨?_,⟨[],rfl,.nil⟩,fun f n=>by simpa using aG1 (pre:=[]) d f n,j⟩;have:=aPf (kp:=List.range a.ins.length) [] b (by rw [b.len,List.length_range,j]);show FrOk C.τ args _ (jQ args 0 (List.range args.length));grind
  obtain ⟨e,o,u,l,g1,g2,g⟩:=yF p c s t m;unfold kC;simp only [q];rw [if_pos (by omega),g1];cases e with
  | brk i=>grind
  | nrm=>exact aR5 g g2
  | ret=>exact aR5 g g2
 grind
end
section
variable {P : Program} {Mt : FuncId → Hints} {X : Ext}
def aKl (P:Program) (Mt:FuncId→Hints) (X:Ext) (τ:Tb) (f:FuncId) (sm:Summ):Prop:=∀ args,ElsOk τ sm.ins args→aPd sm args→∃ r,OL P Mt X f args []=some (r,[])∧RsOk τ sm.outs r
theorem aZU {C g j k c args} (h:aFun P g j C k c=true) (l:ElsOk C.τ c.ins args) (a:aPd c args):∀ r,r<C.np→∃ v,den args (.root r)=some v∧bK v≤C.cap:=by
 intro r m;unfold aFun at h;split at h
 ·rw [Bool.and_eq_true,Bool.and_eq_true,Bool.and_eq_true,Bool.or_eq_true] at h;rcases h.1.1.2 with h | h;· simp_all
  rw [Bool.and_eq_true,Bool.and_eq_true] at h;obtain ⟨⟨f,e⟩,d⟩:=h;have f:=Nat.le_of_ble_eq_true f;have e:=Nat.eq_of_beq_eq_true e;have d:=Nat.le_of_ble_eq_true d;have n:=l.len;have b:r<args.length:=by omega
  refine ⟨args[r],by simp [den];rw [jS,List.getElem?_eq_getElem b],?_⟩;rcases a with i | i;all_goals grind
 grind
theorem aR6 {b a}:kG b a []=false:=by unfold kG;grind
theorem aI {f b c C} (i:P.funcs[f]?=some b) (e:X f=none) (m:C.recs=[]) (j:∀ g s,(g,s)∈C.sums→aKl P Mt X C.τ g s) (h:aFun P (Mt f) b.ntmps C b c=true):aKl P Mt X C.τ f c:=by
 intro args d a;obtain ⟨r,l,k⟩:=aV9 (v0 := .bot) (O:=OL P Mt X) ⟨j,by grind,by grind⟩ ⟨by grind,aZU h d a⟩ h d;exact ⟨r,aVy e aR6 i l,k⟩
theorem vG {τ} {R} (cfg:FuncId×Summ×Nat→Cfg) (l:∀ x,x∈R→(cfg x).τ=τ∧(cfg x).recs=R∧(cfg x).me=x.2.2∧(∀ g s,(g,s)∈(cfg x).sums→aKl P Mt X τ g s)∧X x.1=none∧∃ fn,P.funcs[x.1]?=some fn∧aFun P (Mt x.1) fn.ntmps (cfg x) fn x.2.1=true) :
  ∀ x,x∈R→aKl P Mt X τ x.1 x.2.1:=by
 have key:∀ n x,x∈R→∀ args a,ElsOk τ x.2.1.ins args→aPd x.2.1 args→nth args x.2.2=some a→bK a<n→∃ r,OL P Mt X x.1 args []=some (r,[])∧RsOk τ x.2.1.outs r:=by
  intro n;induction n with
  | zero=>omega
  | succ n u =>
   intro x hx args a hA hcap ha p;obtain ⟨rfl,b,c3,o,i,fn,m,c7⟩:=l x hx;have hag:(cfg x).recs≠[]→(cfg x).meAg=true→∃ cs,a = .agg cs:=by
    intro t d;have h:=c7;unfold aFun at h;split at h
    ·rw [Bool.and_eq_true,Bool.and_eq_true,Bool.and_eq_true,Bool.or_eq_true,Bool.or_eq_true] at h;rcases h.1.2 with h | h;· exact by grind
     split at h
     ·rename_i e he;obtain ⟨v,hv,c⟩:=hA.nth he;rw [c3,ha] at hv;cases hv;rw [d] at h;cases c with
      | ag A=>exact ⟨_,rfl⟩
      | one=>simp at h
     simp at h
    simp at h
   obtain ⟨r,w,z⟩:=aV9 (v0:=a) (O:=OL P Mt X) ⟨o,by
    rw [b];intro f q k d args' y hA' hc' ha' j;exact u (f,q,k) d args' y hA' hc' ha' (by omega),hag⟩ ⟨by
    intro _;rw [c3];exact ha,aZU c7 hA hcap⟩ c7 hA
   exact ⟨r,aVy i aR6 m w,z⟩
 intro x hx args hA hcap;obtain ⟨rfl,b,c3,o,i,fn,m,c7⟩:=l x hx;have hex:∃ a,nth args x.2.2=some a:=by
  have h:=c7;unfold aFun at h;split at h
  ·rw [Bool.and_eq_true,Bool.and_eq_true,Bool.and_eq_true,Bool.or_eq_true,Bool.or_eq_true] at h;rcases h.1.2 with h | h;· rw [List.isEmpty_iff,b] at h;rw [h] at hx;simp at hx
   split at h;· rename_i e he;obtain ⟨v,hv,_⟩:=hA.nth he;rw [c3] at hv;exact ⟨v,hv⟩
   simp at h
  simp at h
 obtain ⟨a,ha⟩:=hex;exact key (bK a+1) x hx args a hA hcap ha (by omega)
end
section
variable {P : Program} {Mt : FuncId → Hints} {X : Ext} {τ : Tb}
theorem sn':∀ g s,(g,s)∈([]:STb)→aKl P Mt X τ g s:=by simp
theorem sc' {f a} {l:STb} (h:aKl P Mt X τ f a) (b:∀ g s,(g,s)∈l→aKl P Mt X τ g s):∀ g s,(g,s)∈(f,a)::l→aKl P Mt X τ g s:=by
 grind
theorem aBI {α:Type} {p:α→Prop}:∀ x,x∈([]:List α)→p x:=by simp
theorem all_cons {α:Type} {p:α→Prop} {a l} (h:p a) (b:∀ x,x∈l→p x):∀ x,x∈a::l→p x:=by
 grind
end
end Go.Ev

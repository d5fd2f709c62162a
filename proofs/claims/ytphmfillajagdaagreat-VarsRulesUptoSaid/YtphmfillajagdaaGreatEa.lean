import Derived.Calls
import Derived.Scope
import Derived.LoopN
import Derived.Laws.CopyRow
import Derived.Laws.Append
import Derived.Laws.Slices
import Derived.Laws.IdiomStrings
import Derived.Laws.BytesString
import Derived.Laws.StructEq
import Derived.Laws.Tables
set_option linter.unusedVariables false
set_option linter.unusedSimpArgs false
namespace Go.Ev
inductive PV where
 | bot
 | und
 | bool (b:Bool)
 | int (k:IntKind) (n:Int)
 | str (s:List UInt8)
 | agg (cs:List PV)
 | tuple (vs:List PV)
 | slice (es bs:List PV) (own:Bool)
 | mk0 (sz:Nat)
 | ref (v:PV)
 | ptr (d id off:Nat)
 | nilptr
 | rsl (d id n sz:Nat)
 | vec (sz:Nat) (E:List PV)
 | func (fn:Fn) (first caps:List PV)
 | nilFunc
 deriving Inhabited
namespace PV
def cells:PV→List PV
 | agg cs=>cs
 | v=>[v]
def plain1:PV→PV
 | slice es _ _=>slice es [] false
 | mk0 _=>slice [] [] false
 | vec _ _=>bot
 | v=>v
def plainA:PV→PV
 | agg cs=>agg (cs.map plain1)
 | v=>plain1 v
def plain:PV→PV
 | tuple vs=>tuple (vs.map plainA)
 | v=>plainA v
def solid1:PV→Bool
 | bool _ | int _ _ | str _ | slice _ _ _ | mk0 _=>true
 | _=>false
def solid:PV→Bool
 | agg cs=>cs.all solid1
 | v=>solid1 v
def free:PV→Bool
 | func _ first caps=>first.all solid&&caps.all solid
 | nilFunc=>true
 | vec _ _=>true
 | v=>solid v
end PV
open PV
def ofAtom:Value→PV
 | .bool b => .bool b
 | .int k n => .int k n
 | .string s => .str s.data.toList
 | .slice none 0 0 => .slice [] [] true
 | .pointer none => .nilptr
 | .nilFunc => .nilFunc
 | _ => .bot
def ofValue:Value→PV
 | .agg cs => .agg (cs.toList.map ofAtom)
 | v=>ofAtom v
def lim:Nat:=274877906944
abbrev aW:=List (Nat×List PV)
structure St where
 fr:List (Nat×PV)
 bx:List aW
abbrev UP:=List aW
def look {α:Type}:List (Nat×α)→Nat→Option α
 | [],_=>none
 | (i,v)::l,j=>if i=j then some v else look l j
def gets (fr:List (Nat×PV)) (i:Nat):PV :=
 match look fr i with
 | some v=>v
 | none => .bot
def nth {α:Type}:List α→Nat→Option α
 | [],_=>none
 | a::_,0=>some a
 | _::l,n+1=>nth l n
def gt (l:List PV) (i:Nat):PV :=
 match nth l i with
 | some v=>v
 | none => .bot
def putNth {α:Type}:List α→Nat→α→List α
 | [],_,_=>[]
 | _::l,0,v=>v::l
 | a::l,n+1,v=>a::putNth l n v
def putAt {α:Type} (l:List α) (i:Nat):List α→List α
 | []=>l
 | v::vs=>putAt (putNth l i v) (i+1) vs
def yC:aW→Nat→List PV→aW
 | [],_,_=>[]
 | (i,c)::l,j,c'=>if i=j then (i,c')::l else (i,c)::yC l j c'
def bnd {α β:Type} (x:Option α) (k:α→Option β):Option β :=
 match x with
 | some a=>k a
 | none=>none
def cnd {β:Type} (c:Bool) (x y:Option β):Option β :=
 match c with
 | true=>x
 | false=>y
def bits (op:BinOp) (k:IntKind) (x y:Int):Int :=
 let a:=BitVec.ofInt k.bits x
 let b:=BitVec.ofInt k.bits y
 match op with
 | .and=>k.wrap (a &&& b).toNat
 | .or=>k.wrap (a ||| b).toNat
 | .xor=>k.wrap (a ^^^ b).toNat
 | _=>k.wrap (a &&& ~~~b).toNat
def oF (op:BinOp) (k:IntKind) (a b:Int):Option PV :=
 match op with
 | .add=>some (.int k (k.wrap (a+b)))
 | .sub=>some (.int k (k.wrap (a-b)))
 | .mul=>some (.int k (k.wrap (a*b)))
 | .quo=>if b=0 then none else some (.int k (k.wrap (a.tdiv b)))
 | .rem=>if b=0 then none else some (.int k (a.tmod b))
 | .and=>some (.int k (bits .and k a b))
 | .or=>some (.int k (bits .or k a b))
 | .xor=>some (.int k (bits .xor k a b))
 | .andNot=>some (.int k (bits .andNot k a b))
 | .eql=>some (.bool (a==b))
 | .neq=>some (.bool (a != b))
 | .lss=>some (.bool (a<b))
 | .leq=>some (.bool (a≤b))
 | .gtr=>some (.bool (a>b))
 | .geq=>some (.bool (a≥b))
 | _=>none
def aY3 (op:BinOp) (a b:List UInt8):Option PV :=
 match op with
 | .add=>if a.length+b.length≤lim then some (.str (a++b)) else none
 | .eql=>some (.bool (a==b))
 | .neq=>some (.bool (!(a==b)))
 | .lss=>some (.bool (Op.bytesLess a b))
 | .leq=>some (.bool (Op.bytesLess a b||a==b))
 | .gtr=>some (.bool (!(Op.bytesLess a b||a==b)))
 | .geq=>some (.bool (!Op.bytesLess a b))
 | _=>none
def bin (op:BinOp) (x y:PV):Option PV :=
 match x,y with
 | .int k a,.int k' b =>
  match op with
  | .shl=>if b<0 then none else some (.int k (k.wrap (a*2 ^ min b.toNat k.bits)))
  | .shr=>if b<0 then none else some (.int k (a.fdiv (2 ^ min b.toNat k.bits)))
  | op=>if k=k' then oF op k a b else none
 | .str a,.str b=>aY3 op a b
 | _,_=>none
def aDy (k:Nat) (x y:PV):Option Bool :=
 match k,x,y with
 | 1,.int k a,.int k' b=>if k=k' then some (a==b) else none
 | 2,.str a,.str b=>some (a==b)
 | 0,.bool a,.bool b=>some (a==b)
 | _,_,_=>none
def eqAt (xs ys:List PV):List (Nat×Nat)→Option Bool
 | []=>some true
 | (i,k)::l =>
  match aDy k (gt xs i) (gt ys i),eqAt xs ys l with
  | some b,some c=>some (b&&c)
  | _,_=>none
def eqs (n:Nat) (ls:List (Nat×Nat)) (x y:PV):Option Bool :=
 match x,y with
 | .agg xs,.agg ys=>if xs.length=n∧ys.length=n then eqAt xs ys ls else none
 | _,_=>none
def eqB (x y:PV):Option Bool :=
 match x,y with
 | .bool a,.bool b=>some (a==b)
 | _,_=>none
def un (op:UnOp) (x:PV):Option PV :=
 match op,x with
 | .not,.bool b=>some (.bool (!b))
 | .neg,.int k n=>some (.int k (k.wrap (0-n)))
 | .xor,.int k n=>some (.int k (bits .xor k (if k.signed then -1 else k.max) n))
 | _,_=>none
def part (off size:Nat) (ag:Bool) (cs:List PV):Option PV :=
 match ag with
 | true=>if off+size≤cs.length then some (.agg ((cs.drop off).take size)) else none
 | false=>nth cs off
def fld (off size:Nat) (ag:Bool) (x:PV):Option PV :=
 match x with
 | .agg cs=>part off size ag cs
 | _=>none
def fad (off size:Nat) (ag:Bool) (x:PV):Option PV :=
 match x with
 | .ptr d id o=>some (.ptr d id (o+off))
 | .ref v=>bnd (fld off size ag v) fun p=>some (.ref p)
 | _=>none
def oG (size:Nat) (ag:Bool) (x:PV):Option (List PV) :=
 match ag,x with
 | true,.agg cs=>if cs.length=size then some ((List.range size).map (gt cs)) else none
 | true,_=>none
 | false,.agg _=>none
 | false,.tuple _=>none
 | false,.bot=>none
 | false,.und=>none
 | false,v=>match size with
  | 1=>some [v]
  | _=>none
def aSU (size:Nat) (ag:Bool) (x:PV):Option PV :=
 match ag,x with
 | true,.agg cs=>if cs.length=size then some x else none
 | true,_=>none
 | false,.agg _=>none
 | false,.tuple _=>none
 | false,v=>some v
def bB (bx:List aW) (d id:Nat):Option (List PV) :=
 match nth bx d with
 | some b=>look b id
 | none=>none
def cE (bx:List aW) (d id:Nat) (cs:List PV):List aW :=
 match bx,d with
 | [],_=>[]
 | b::r,0=>yC b id cs::r
 | b::r,d+1=>b::cE r d id cs
def raise1 (d:Nat):PV→PV
 | .ptr e id o => .ptr (e+d) id o
 | .rsl e id n s => .rsl (e+d) id n s
 | v=>v
def wZ (d:Nat) (v:PV):PV :=
 match d with
 | 0=>v
 | d+1=>match v with
  | .agg cs => .agg (cs.map (raise1 (d+1)))
  | v=>raise1 (d+1) v
def lower1 (d:Nat):PV→PV
 | .ptr e id o => .ptr (e-d) id o
 | .rsl e id n s => .rsl (e-d) id n s
 | v=>v
def rD (d:Nat) (vs:List PV):List PV :=
 match d with
 | 0=>vs
 | d+1=>vs.map (lower1 (d+1))
def cD (ag:Bool) (v:PV):List PV :=
 match ag with
 | true=>match v with
  | .agg cs=>cs.map plain1
  | _=>[]
 | false=>[plain1 v]
def phys:List PV→List PV
 | [.vec _ E]=>E.flatMap cells
 | cs=>cs
def aAh:List PV→Bool
 | [.vec _ _]=>true
 | _=>false
def aNp (sz:Nat) (E:List PV) (off n:Nat) (ag:Bool):Option PV :=
 bnd (nth E (off / sz)) fun e=>bnd (part (off % sz) n ag e.cells) fun v=>some v.plain
def reb (e:PV) (cs:List PV):PV :=
 match e with
 | .agg _ => .agg cs
 | e=>match cs with
  | [c]=>c
  | _=>e
def vput (sz:Nat) (E:List PV) (off:Nat) (vs:List PV):Option (List PV) :=
 bnd (nth E (off / sz)) fun e=>if off % sz+vs.length≤sz∧vs.all solid1=true then some (putNth E (off / sz) (reb e (putAt e.cells (off % sz) (vs.map plain1)))) else none
def okVc:PV→Bool
 | .bool _ | .int _ _ | .str _=>true
 | .slice _ [] false=>true
 | _=>false
def okVe (sz:Nat) (e:PV):Bool:=e.cells.length==sz&&e.cells.all okVc
def aLt:PV→Bool
 | .bool _ | .int _ _ | .str _=>true
 | _=>false
def scal:PV→Bool
 | .tuple vs=>vs.all aLt
 | v=>aLt v
def fits (d:Nat):PV→Bool
 | .ptr e _ _=>d≤e
 | .rsl e _ _ _=>d≤e
 | .func _ first caps=>first.all solid&&caps.all solid
 | .ref _=>true
 | .nilptr=>true
 | .nilFunc=>true
 | v=>solid1 v
def ix (size:Nat) (x i:PV):Option PV :=
 match x,i with
 | .slice es _ _,.int _ n=>if n<0 then none else
  bnd (nth es n.toNat) fun e=>if e.cells.length=size∧0<size then some (.ref e) else none
 | .rsl d id n sz,.int _ k=>if 0≤k∧k.toNat<n∧sz=size then some (.ptr d id (k.toNat*size)) else none
 | _,_=>none
def bDJ (n size:Nat) (x i:PV):Option PV :=
 match x,i with
 | .ptr d id o,.int _ k=>if 0≤k∧k<n then some (.ptr d id (o+k.toNat*size)) else none
 | _,_=>none
def xA (x i:PV):Option PV :=
 match x,i with
 | .str s,.int _ n=>if n<0 then none else bnd (nth s n.toNat) fun b=>some (.int .u8 b.toNat)
 | _,_=>none
def bDK (n size:Nat) (ag:Bool) (x i:PV):Option PV :=
 match x,i with
 | .agg cs,.int _ k=>if 0≤k∧k<n then part (k.toNat*size) size ag cs else none
 | _,_=>none
def szOk (size:Nat):List PV→Bool
 | []=>true
 | e::_=>e.cells.length==size
def aBw (x:PV):Option Nat :=
 match x with
 | .int _ n=>if n<0 then none else some n.toNat
 | _=>none
def aGq (size:Nat) (x:PV) (l h:Nat):Option PV :=
 match x,size with
 | .str s,0=>if l≤h∧h≤s.length then some (.str ((s.take h).drop l)) else none
 | .slice es bs _,n+1=>if l≤h∧h≤es.length+bs.length∧szOk (n+1) (es++bs)=true then some (.slice (((es++bs).take h).drop l) ((es++bs).drop h) false) else none
 | .mk0 _,_+1=>if l=0∧h=0 then some (.slice [] [] false) else none
 | _,_=>none
def lenN (k:Nat) (x:PV):Option Nat :=
 match x,k with
 | .str s,0=>some s.length
 | .slice es _ _,_+1=>some es.length
 | .mk0 _,_+1=>some 0
 | .rsl _ _ n _,_+1=>some n
 | _,_=>none
def len (k:Nat) (x:PV):Option PV:=bnd (lenN k x) fun n=>some (.int .i64 n)
def bE0 (size:Nat) (x:PV):Option PV:=bnd (lenN size x) fun n=>aGq size x 0 n
def bE1 (size:Nat) (x l:PV):Option PV:=bnd (lenN size x) fun n=>bnd (aBw l) fun l=>aGq size x l n
def aXi (size:Nat) (x h:PV):Option PV:=bnd (aBw h) fun h=>aGq size x 0 h
def bE2 (size:Nat) (x l h:PV):Option PV:=bnd (aBw l) fun l=>bnd (aBw h) fun h=>aGq size x l h
def bDj (x:PV):Option PV :=
 match x with
 | .slice _ _ _=>some (.slice [] [] true)
 | .mk0 _=>some (.slice [] [] true)
 | _=>none
def fT (s:List UInt8):List PV:=s.map fun b => .int .u8 b.toNat
def slOr (sz:Nat) (E:List PV):PV :=
 match E with
 | [] => .mk0 sz
 | E => .slice E [] true
def apd (size:Nat) (x y:PV):Option PV :=
 match x,y with
 | .slice A _ true,.slice B _ _=>if A.length+B.length≤lim∧szOk size A=true∧szOk size B=true then some (.slice (A++B) [] true) else none
 | .mk0 sz,.slice B _ _=>if B.length≤lim∧sz=size∧szOk size B=true then some (slOr sz B) else none
 | _,_=>none
def aY4 (x y:PV):Option PV :=
 match x,y with
 | .slice A _ true,.str s=>if A.length+s.length≤lim∧szOk 1 A=true then some (.slice (A++fT s) [] true) else none
 | .mk0 sz,.str s=>if s.length≤lim∧sz=1 then some (slOr sz (fT s)) else none
 | _,_=>none
def apdV (size:Nat) (x y:PV):Option (List PV) :=
 match x,y with
 | .slice [] _ true,.slice B _ _=>if B.length≤lim∧szOk size B=true then some B else none
 | _,_=>none
def bDL (size:Nat) (x:PV):Option (List PV) :=
 match x with
 | .slice E _ true=>if 0<size∧E.all (fun e=>e.cells.length==size&&e.cells.all aLt)=true then some E else none
 | _=>none
def el (size:Nat) (x:PV):Option PV :=
 if x.solid=true∧x.cells.length=size∧0<size then some x.plain else none
def bDk (x:PV):Option UInt8 :=
 match x with
 | .int .u8 n=>some (UInt8.ofNat n.toNat)
 | _=>none
def aFd:List PV→Option (List UInt8)
 | []=>some []
 | x::l =>
  match bDk x,aFd l with
  | some b,some r=>some (b::r)
  | _,_=>none
def bDM (x:PV):Option PV :=
 match x with
 | .slice es _ _=>bnd (aFd es) fun s=>some (.str s)
 | .mk0 _=>some (.str [])
 | _=>none
def aSV (x:PV):Option PV :=
 match x with
 | .str s=>some (slOr 1 (fT s))
 | _=>none
def bBs (k:IntKind) (x:PV):Option PV :=
 match x with
 | .int _ n=>some (.int k (k.wrap n))
 | _=>none
def ext (i:Nat) (x:PV):Option PV :=
 match x with
 | .tuple vs=>nth vs i
 | _=>none
def aBc (x:PV):Option Bool :=
 match x with
 | .bool b=>some b
 | _=>none
def mn (x y:PV):Option PV :=
 match x,y with
 | .int k a,.int _ b=>some (.int k (if b<a then b else a))
 | _,_=>none
def mx (x y:PV):Option PV :=
 match x,y with
 | .int k a,.int _ b=>some (.int k (if b>a then b else a))
 | _,_=>none
def aDz:PV→PV
 | .ptr d id o => .ptr (d+1) id o
 | .rsl d id n s => .rsl (d+1) id n s
 | v=>v
def shift:PV→PV
 | .func f first caps => .func f (first.map aDz) (caps.map aDz)
 | .agg cs => .agg (cs.map aDz)
 | v=>aDz v
def sh0:PV→Bool
 | .ptr _ _ _ | .rsl _ _ _ _ | .ref _ | .nilptr | .nilFunc | .bot | .und=>true
 | .func _ first caps=>first.all solid&&caps.all solid
 | v=>v.solid
def shOk:PV→Bool
 | .func _ first caps=>first.all sh0&&caps.all sh0
 | .agg cs=>cs.all sh0
 | v=>sh0 v
def lI:PV→Option PV
 | .ptr 0 _ _=>none
 | .ptr (d+1) id o=>some (.ptr d id o)
 | .rsl 0 _ _ _=>none
 | .rsl (d+1) id n s=>some (.rsl d id n s)
 | .ref v=>some (.ref v)
 | .nilptr=>some .nilptr
 | v=>if v.free then some v else none
def qT:List PV→Option (List PV)
 | []=>some []
 | x::l =>
  match lI x,qT l with
  | some y,some r=>some (y::r)
  | _,_=>none
def xB:PV→Option PV
 | .agg cs=>bnd (qT cs) fun cs=>some (.agg cs)
 | v=>lI v
def vT:List PV→Option (List PV)
 | []=>some []
 | x::l =>
  match xB x,vT l with
  | some y,some r=>some (y::r)
  | _,_=>none
def out:PV→Option PV
 | .tuple vs=>bnd (vT vs) fun vs=>some (.tuple vs)
 | v=>xB v
structure Hints where
 takes:List Nat:=[]
 gens:List Nat:=[]
 keeps:List (Nat×List Nat):=[]
 own:Bool:=false
 drop:Bool:=false
 frz:List (Nat×List Nat):=[]
 frl:List (Nat×List Nat):=[]
 vecs:List (Nat×Nat):=[]
 brw:List Nat:=[]
abbrev Orc:=FuncId→List PV→UP→Option (PV×UP)
inductive Ex where
 | nrm
 | brk (id:Nat)
 | ret
abbrev bM:=List PV→UP→Option (Ex×List PV×UP)
structure Eff where
 cr:List (Nat×Nat×Nat×Nat):=[]
 cw:List (Nat×Nat×Nat×List PV):=[]
 ws:List (Nat×PV):=[]
 nw:List (Nat×List PV):=[]
 up:Option UP:=none
def cY (bx:List aW):List (Nat×Nat×Nat×List PV)→List aW
 | []=>bx
 | (d,id,o,vs)::l =>
  match bB bx d id with
  | some cs=>cY (cE bx d id (putAt cs o vs)) l
  | none=>cY bx l
def vU (bx:List aW) (nw:List (Nat×List PV)):List aW :=
 match bx,nw with
 | bx,[]=>bx
 | b::r,nw=>(nw++b)::r
 | [],_=>[]
def Eff.app (e:Eff) (st:St):St :=
 { fr:=e.ws++st.fr,bx:=match e.up with | some u=>u | none=>vU (cY st.bx e.cw) e.nw}
def opd (fr:List (Nat×PV)):Operand→PV
 | .tmp t=>gets fr t
 | .const v=>ofValue v
 | .global _ => .bot
 | .func f => .func (.func f) [] []
def has (l:List Nat) (i:Nat):Bool:=l.any (· == i)
def hasO (l:List Nat):Option Nat→Bool
 | some i=>has l i
 | none=>false
def opv (fr:List (Nat×PV)) (tk:Bool):Operand→PV
 | .tmp t=>match tk with | true=>gets fr t | false=>(gets fr t).plain
 | x=>opd fr x
def left (fr:List (Nat×PV)) (tk:Bool):Operand→List (Nat×PV)
 | .tmp t=>match tk with | true=>[(t,(gets fr t).plain)] | false=>[]
 | _=>[]
def dstW (nt:Nat) (d:Option Nat) (v:PV):List (Nat×PV) :=
 match d with
 | some d=>if d<nt then [(d,v)] else []
 | none=>[]
section types
variable (P : Program)
def szOf (t:TypeId):Option Nat:=(P.info? t).map (·.size)
def agOf (t:TypeId):Option Bool :=
 match P.underlying t with
 | some (.struct _)=>some true
 | some (.array _ _)=>some true
 | some _=>some false
 | none=>none
def aHA (t:TypeId):Option PV :=
 match P.info? t with
 | some i=>i.zero.map ofValue
 | none=>none
def aBx (i:TypeInfo):Bool :=
 match i.zero with
 | some z=>z.cells.size==i.size
 | none=>false
def aDA : Nat → TypeId → Nat → Option (List (Nat × Nat))
 | 0, _, _ => none
 | d + 1, t, off =>
  match P.underlying t with
  | some .bool => some [(off, 0)]
  | some (.int _) => some [(off, 1)]
  | some .string => some [(off, 2)]
  | some (.struct fs) =>
   match P.stoodInHeld t, szOf P t with
   | false, some sz =>
    fs.toList.foldr (fun f acc =>
     match f.name == "_", szOf P f.type, aDA d f.type (off + f.offset), acc with
     | false, some n, some l, some r => if f.offset + n ≤ sz ∧ 0 < n then some (l ++ r) else none
     | _, _, _, _ => none) (some [])
   | _, _ => none
  | _ => none
end types
def aDT (place:Nat→Option (Nat×Nat×Bool)) {R:Type}:List (Nat×PV)→List PV→(List PV→Option R)→Option R
 | [],cs,K=>K cs
 | (i,v)::rest,cs,K =>
  match place i with
  | some (off,size,ag)=>bnd (oG size ag v) fun vs=>if off+size≤cs.length then aDT place rest (putAt cs off vs) K else none
  | none=>none
def aBp (size:Nat) {R:Type}:List (Nat×PV)→List PV→(List PV→Option R)→Option R
 | [],es,K=>K es
 | (i,v)::rest,es,K=>bnd (el size v) fun e=>if i<es.length then aBp size rest (putNth es i e) K else none
def aQ (O:Orc) {R:Type} (g:FuncId) (args:List PV) (K:PV→Option R):Option R :=
 cnd (args.all free) (bnd (O g args []) fun r=>match r.2 with | []=>K r.1 | _=>none) none
def sY (P:Program) (fs:Array Field) (i:Nat):Option (Nat×Nat×Bool) :=
 match fs[i]? with
 | some f=>match szOf P f.type,agOf P f.type with
  | some n,some a=>some (f.offset,n,a)
  | _,_=>none
 | none=>none
def aY5 (mt:Hints) (d:Option Nat):Option Nat :=
 match d with
 | some d=>look mt.vecs d
 | none=>none
def mU (nt:Nat) (st:St) (d:Option Nat):Option Nat :=
 match d,st.bx with
 | some d,b::_=>match look b d with
  | none=>if d<nt then some d else none
  | some _=>none
 | _,_=>none
def oH {R:Type} (nt:Nat) (o:Oper) (sz:Nat) (E:List PV) (lv:List (Nat×PV)) (st:St) (K:Eff→Option R):Option R :=
 match mU nt st o.dst with
 | some id=>K {ws:=(id,.rsl 0 id E.length sz)::lv,nw:=[(id,[.vec sz E])]}
 | none=>none
def rdV:List PV→List (Nat×Nat×Nat×Nat)
 | []=>[]
 | .rsl 0 id _ _::l=>(0,id,0,1)::rdV l
 | _::l=>rdV l
def brwV (bx:List aW) (v:PV):PV :=
 match v with
 | .rsl 0 id n _ =>
  match bB bx 0 id with
  | some [.vec _ E] => .slice (E.take n) [] false
  | _ => .bot
 | v=>v
def aLu (bx:List aW) (v:PV):Bool :=
 match v with
 | .rsl 0 id n sz =>
  match bB bx 0 id with
  | some [.vec sz' E]=>Nat.beq sz sz'&&Nat.ble n E.length
  | _=>false
 | _=>true
def bDl (ok:Bool) (z l c:PV):Option (List PV) :=
 bnd (aBw l) fun n=>bnd (aBw c) fun m=>if n≤lim∧n=m∧ok=true then some (List.replicate n z) else none
def bDN (i:TypeInfo) (l c:PV):Option (List PV) :=
 match i.zero with
 | some z=>bDl (okVe i.size (ofValue z)) (ofValue z) l c
 | none=>none
def mkSl (size:Nat) (c:PV):Option PV:=bnd (aBw c) fun n=>if n≤lim then some (.mk0 size) else none
section op
variable (P : Program) (mt : Hints) (nt : Nat) (O : Orc) {R : Type}
def lY (xs:List Operand):List Nat:=xs.filterMap fun | .tmp t=>some t | _=>none
def vV:List Nat→Bool
 | []=>true
 | i::l => !has l i&&vV l
def jC (o:Oper) (c:Call) (st:St) (K:Eff→Option R):Option R :=
 let ρ:=opd st.fr
 let tk:=hasO mt.takes o.dst
 match c.callee with
 | .value f =>
  match ρ f with
  | .func (.func g) first caps =>
   let args:=first++c.args.toList.map (opv st.fr tk)++caps
   let lv:=c.args.toList.flatMap (left st.fr tk)
   match !tk||vV (lY c.args.toList),hasO mt.gens o.dst with
   | false,_=>none
   | true,true=>cnd (args.all shOk) (bnd (O g (args.map shift) st.bx) fun r=>K {ws:=dstW nt o.dst r.1++lv,up:=some r.2}) none
   | true,false =>
    match hasO mt.brw o.dst,aY5 mt o.dst,tk with
    | true,_,_=>cnd (args.all (aLu st.bx)) (aQ O g (args.map (brwV st.bx)) fun r=>cnd (scal r) (K {cr:=rdV args,ws:=dstW nt o.dst r++lv}) none) none
    | false,some _,true=>none
    | false,some sz,false=>aQ O g args fun r=>bnd (bDL sz r) fun E=>oH nt o sz E lv st K
    | false,none,_=>aQ O g args fun r=>K {ws:=dstW nt o.dst r++lv}
  | _=>none
 | .builtin .len =>
  match c.args.toList,c.argTypes.toList with
  | [x],[t] =>
   match P.underlying t with
   | some .string=>bnd (len 0 (ρ x)) fun v=>K {ws:=dstW nt o.dst v}
   | some (.slice _)=>bnd (len 1 (ρ x)) fun v=>K {ws:=dstW nt o.dst v}
   | _=>none
  | _,_=>none
 | .builtin .append =>
  match c.args.toList,c.argTypes.toList with
  | [x,y],[t,u] =>
   match P.underlying t,P.underlying u with
   | some (.slice e),some (.slice _) =>
    match P.info? e with
    | some i=>if 0<i.size∧i.bytes≤512∧aBx i=true then
      match aY5 mt o.dst with
      | some _=>bnd (apdV i.size (opd st.fr x) (ρ y)) fun E=>oH nt o i.size E (left st.fr true x) st K
      | none=>bnd (apd i.size (opd st.fr x) (ρ y)) fun v=>K {ws:=dstW nt o.dst v++left st.fr true x} else none
    | none=>none
   | some (.slice e),some .string =>
    match P.info? e with
    | some i=>if i.size=1∧i.bytes≤512∧aBx i=true then
      bnd (aY4 (opd st.fr x) (ρ y)) fun v=>K {ws:=dstW nt o.dst v++left st.fr true x} else none
    | none=>none
   | _,_=>none
  | _,_=>none
 | .builtin .min =>
  match c.args.toList with
  | [x,y]=>bnd (mn (ρ x) (ρ y)) fun v=>K {ws:=dstW nt o.dst v}
  | _=>none
 | .builtin .max =>
  match c.args.toList with
  | [x,y]=>bnd (mx (ρ x) (ρ y)) fun v=>K {ws:=dstW nt o.dst v}
  | _=>none
 | _=>none
def tZ (o:Oper) (t:TypeId) (x:Operand) (lo hi m:Option Operand) (st:St) (K:Eff→Option R):Option R :=
 let ρ:=opd st.fr
 let fin (v:PV):Option R:=K {ws:=dstW nt o.dst v}
 match P.underlying t with
 | some .string =>
  match lo,hi,m with
  | none,none,none=>bnd (bE0 0 (ρ x)) fin
  | some l,none,none=>bnd (bE1 0 (ρ x) (ρ l)) fin
  | none,some h,none=>bnd (aXi 0 (ρ x) (ρ h)) fin
  | some l,some h,none=>bnd (bE2 0 (ρ x) (ρ l) (ρ h)) fin
  | _,_,_=>none
 | some (.slice e) =>
  match szOf P e with
  | some 0=>none
  | some n =>
   match lo,hi,m with
   | none,none,none=>bnd (bE0 n (ρ x)) fin
   | some l,none,none=>bnd (bE1 n (ρ x) (ρ l)) fin
   | none,some h,none=>bnd (aXi n (ρ x) (ρ h)) fin
   | some l,some h,none=>bnd (bE2 n (ρ x) (ρ l) (ρ h)) fin
   | none,some (.const (.int .i64 0)),some (.const (.int .i64 0))=>bnd (bDj (ρ x)) fin
   | _,_,_=>none
  | none=>none
 | _=>none
def uA (o:Oper) (op:BinOp) (t:TypeId) (x y:PV) (K:Eff→Option R):Option R :=
 let fin (v:PV):Option R:=K {ws:=dstW nt o.dst v}
 match op with
 | .eql =>
  match P.underlying t with
  | some (.int _)=>bnd (bin .eql x y) fin
  | some .string=>bnd (bin .eql x y) fin
  | some .bool=>bnd (eqB x y) fun b=>fin (.bool b)
  | some (.struct _) =>
   match szOf P t,aDA P 20 t 0,P.eqGuardType P.depth t with
   | some n,some ls,false=>bnd (eqs n ls x y) fun b=>fin (.bool b)
   | _,_,_=>none
  | _=>none
 | .neq =>
  match P.underlying t with
  | some (.int _)=>bnd (bin .neq x y) fin
  | some .string=>bnd (bin .neq x y) fin
  | some .bool=>bnd (eqB x y) fun b=>fin (.bool (!b))
  | some (.struct _) =>
   match szOf P t,aDA P 20 t 0,P.eqGuardType P.depth t with
   | some n,some ls,false=>bnd (eqs n ls x y) fun b=>fin (.bool (!b))
   | _,_,_=>none
  | _=>none
 | op=>bnd (bin op x y) fin
def aFe (o:Oper) (s d:TypeId) (x:PV) (K:Eff→Option R):Option R :=
 let fin (v:PV):Option R:=K {ws:=dstW nt o.dst v}
 match P.underlying s,P.underlying d with
 | some (.int _),some (.int k)=>bnd (bBs k x) fin
 | some (.slice e),some .string =>
  match P.underlying e with
  | some (.int .u8)=>bnd (bDM x) fin
  | _=>none
 | some .string,some (.slice e) =>
  match P.underlying e with
  | some (.int .u8)=>bnd (aSV x) fin
  | _=>none
 | _,_=>none
def newBox (o:Oper) (n:Nat) (ag:Bool) (v:PV) (lv:List (Nat×PV)) (st:St) (K:Eff→Option R):Option R :=
 match mU nt st o.dst with
 | some id=>bnd (oG n ag v) fun cs=>cnd (cs.all (fits 0)) (K {ws:=(id,.ptr 0 id 0)::lv,nw:=[(id,cs)]}) none
 | none=>none
def aS (o:Oper) (st:St) (K:Eff→Option R):Option R :=
 let ρ:=opd st.fr
 let tk:=hasO mt.takes o.dst
 let fin (v:PV):Option R:=K {ws:=dstW nt o.dst v}
 match o.op with
 | .move x=>K {ws:=dstW nt o.dst (opv st.fr tk x)++left st.fr tk x}
 | .assign x=>K {ws:=dstW nt o.dst (opv st.fr true x)++left st.fr true x}
 | .pick c a b=>bnd (aBc (ρ c)) fun t=>cnd t (K {ws:=dstW nt o.dst (opv st.fr false a)}) (K {ws:=dstW nt o.dst (opv st.fr false b)})
 | .alloc t =>
  match szOf P t,agOf P t,aHA P t with
  | some n,some ag,some z=>newBox nt o n ag z [] st K
  | _,_,_=>none
 | .box t x =>
  match szOf P t,agOf P t with
  | some n,some ag=>newBox nt o n ag (opv st.fr true x) (left st.fr true x) st K
  | _,_=>none
 | .build t ps =>
  match P.underlying t,aHA P t with
  | some (.struct fs),some (.agg z) =>
   if fs.toList.all (fun f=>(P.info? f.type).isSome)=true then aDT (sY P fs) (ps.toList.map fun p=>(p.1,opv st.fr false p.2)) z fun cs=>K {ws:=dstW nt o.dst (.agg cs)} else none
  | some (.array _ e),some (.agg z) =>
   match szOf P e,agOf P e with
   | some n,some ag=>aDT (fun i=>some (i*n,n,ag)) (ps.toList.map fun p=>(p.1,opv st.fr false p.2)) z fun cs=>K {ws:=dstW nt o.dst (.agg cs)}
   | _,_=>none
  | _,_=>none
 | .buildSlice t n ps =>
  match P.underlying t with
  | some (.slice e) =>
   match szOf P e,aHA P e with
   | some sz,some z=>if n*sz≤16777216∧z.cells.length=sz then
     bnd (match n with | 0=>some .bot | _=>el sz z) fun z=>aBp sz (ps.toList.map fun p=>(p.1,opv st.fr false p.2)) (List.replicate n z) fun es=>fin (.slice es [] true) else none
   | _,_=>none
  | _=>none
 | .load t p =>
  match szOf P t,agOf P t with
  | some n,some ag =>
   match opd st.fr p with
   | .ptr d id off =>
    if 0<n∧(ag=true∨n=1) then bnd (bB st.bx d id) fun cs=>match cs with
     | [.vec sz E]=>bnd (aNp sz E off n ag) fun v=>K {cr:=[(d,id,0,1)],ws:=dstW nt o.dst v}
     | cs=>bnd (part off n ag cs) fun v =>
     match tk with
     | true=>K {cr:=[(d,id,off,n)],cw:=[(d,id,off,cD ag v)],ws:=dstW nt o.dst (wZ d v)}
     | false=>K {cr:=[(d,id,off,n)],ws:=dstW nt o.dst (wZ d v).plain} else none
   | .ref v=>bnd (aSU n ag v) fun v=>fin v.plain
   | _=>none
  | _,_=>none
 | .store t p x =>
  match szOf P t,agOf P t with
  | some n,some ag =>
   match opd st.fr p,o.dst with
   | .ptr d id off,none =>
    bnd (bB st.bx d id) fun cs=>bnd (oG n ag (opv st.fr true x)) fun vs =>
     match cs with
     | [.vec sz E]=>if 0<n then bnd (vput sz E off vs) fun E'=>K {cr:=[(d,id,0,1)],cw:=[(d,id,0,[.vec sz E'])],ws:=left st.fr true x} else none
     | cs=>cnd (vs.all (fits d)) (if off+n≤cs.length∧0<n then K {cw:=[(d,id,off,rD d vs)],ws:=left st.fr true x} else none) none
   | _,_=>none
  | _,_=>none
 | .nilCheck x =>
  match opd st.fr x with
  | .ptr d id off=>fin (.ptr d id off)
  | .ref v=>fin (.ref v)
  | .func (.func f) a b=>fin (.func (.func f) a b)
  | _=>none
 | .binOp op t x y _=>uA P nt o op t (ρ x) (ρ y) K
 | .unOp op _ x=>bnd (un op (ρ x)) fin
 | .convert s d x=>aFe P nt o s d (ρ x) K
 | .makeSlice t l c =>
  match P.underlying t with
  | some (.slice e) =>
   match P.info? e with
   | some i=>if 0<i.size∧i.bytes≤512∧aBx i=true then
     match aY5 mt o.dst with
     | some _=>bnd (bDN i (ρ l) (ρ c)) fun E=>oH nt o i.size E [] st K
     | none=>match l with
      | .const (.int .i64 0)=>bnd (mkSl i.size (ρ c)) fin
      | _=>none
    else none
   | none=>none
  | _=>none
 | .makeFunc fn first caps=>fin (.func fn (first.toList.map fun x=>(opd st.fr x).plain) (caps.toList.map fun x=>(opd st.fr x).plain))
 | .slice t x l h m=>tZ P nt o t x l h m st K
 | .fieldAddr s x f =>
  match P.underlying s with
  | some (.struct fs) =>
   match sY P fs f with
   | some (off,n,ag)=>if 0<n then bnd (fad off n ag (ρ x)) fin else none
   | none=>none
  | _=>none
 | .field s x f =>
  match P.underlying s with
  | some (.struct fs) =>
   match sY P fs f with
   | some (off,n,ag)=>bnd (fld off n ag (ρ x)) fun v=>fin v.plain
   | none=>none
  | _=>none
 | .indexAddr t x i =>
  match P.underlying t with
  | some (.slice e) =>
   match szOf P e with
   | some n=>bnd (ix n (ρ x) (ρ i)) fin
   | none=>none
  | some (.array len e) =>
   match szOf P e with
   | some n=>if 0<n then bnd (bDJ len n (ρ x) (ρ i)) fin else none
   | none=>none
  | _=>none
 | .index t x i =>
  match P.underlying t with
  | some .string=>bnd (xA (ρ x) (ρ i)) fin
  | some (.array len e) =>
   match szOf P e,agOf P e with
   | some n,some ag=>bnd (bDK len n ag (ρ x) (ρ i)) fun v=>fin v.plain
   | _,_=>none
  | _=>none
 | .extract x i=>bnd (ext i (ρ x)) fun v=>fin v.plain
 | .call c=>jC P mt nt O o c st K
 | _=>none
end op
open PV
def fR (mt:Hints) (o:Oper):List Nat :=
 let tmps (xs:List Operand):List Nat:=xs.filterMap fun | .tmp t=>some t | _=>none
 match o.op with
 | .move x=>if hasO mt.takes o.dst then tmps [x] else []
 | .assign x=>tmps [x]
 | .box _ x=>tmps [x]
 | .store _ _ x=>tmps [x]
 | .call c =>
  match c.callee with
  | .builtin .append=>match c.args.toList with
   | x::_=>tmps [x]
   | []=>[]
  | .value _=>if hasO mt.takes o.dst then tmps c.args.toList else []
  | _=>[]
 | _=>[]
def aJf (mt:Hints) (o:Oper):List Nat:=o.dst.toList++fR mt o
def aCQ (ops:Array Oper):Nat→Oper→List Nat
 | 0,_=>[]
 | n+1,o =>
  match o.guard with
  | some (g,_)=>match ops[g]? with
   | some q=>q.dst.toList++aCQ ops n q
   | none=>[]
  | none=>[]
def aBd (ops:Array Oper) (o:Oper):List Nat :=
 (o.op.operands.toList.filterMap fun | .tmp t=>some t | _=>none)++aCQ ops (ops.size+1) o
def disj (a b:List Nat):Bool:=a.all fun x => !has b x
def aY6 (mt:Hints) (ops:Array Oper) (x y:Oper):Bool :=
 disj (aJf mt x) (aBd ops y++aJf mt y)&&disj (aJf mt y) (aBd ops x)
def rE (bs:Array Nat) (i j:Nat):Bool:=(bs.getD j 0).testBit i
def aAi (mt : Hints) (ops : Array Oper) (bs : Array Nat) : Bool :=
 (List.range ops.size).all fun j =>
  match ops[j]? with
  | none => false
  | some y =>
   (y.after.all fun e => !Region.binds .any e || decide (e.on < j)) &&
   (match y.guard with
    | some (g, _) => decide (g < j) && rE bs g j
    | none => true) &&
   (List.range j).all fun i =>
    match ops[i]? with
    | none => false
    | some x => (!rE bs i j || y.after.any fun e => Region.binds .any e && (e.on == i || (decide (i < e.on) && rE bs i e.on))) && (rE bs i j || aY6 mt ops x y)
structure Foot where
 rd:List (Nat×Nat×Nat×Nat)
 wr:List (Nat×Nat×Nat×Nat)
 nw:List Nat
def bE3 (a b:Nat×Nat×Nat×Nat):Bool :=
 a.1==b.1&&a.2.1==b.2.1&&decide (a.2.2.1<b.2.2.1+b.2.2.2)&&decide (b.2.2.1<a.2.2.1+a.2.2.2)
def aPM (a b:List (Nat×Nat×Nat×Nat)):Bool:=a.all fun x=>b.all fun y => !bE3 x y
def aVH (a:List Nat) (b:Foot):Bool:=a.all fun i => !has b.nw i&&b.rd.all (fun x => !(x.1==0&&x.2.1==i))&&b.wr.all fun x => !(x.1==0&&x.2.1==i)
def aME (a b:Foot):Bool:=aPM a.wr b.wr&&aPM a.wr b.rd&&aPM a.rd b.wr&&aVH a.nw b&&aVH b.nw a
def Eff.foot (e:Eff):Foot:=⟨e.cr,e.cw.map fun c=>(c.1,c.2.1,c.2.2.1,c.2.2.2.length),e.nw.map (·.1)⟩
def pU (bs:Array Nat):List (Nat×Foot)→Bool
 | []=>true
 | (j,f)::l=>(l.all fun x=>rE bs x.1 j||aME x.2 f)&&pU bs l
def aSW (bs:Array Nat) (n i:Nat):Bool:=(List.range n).all fun k=>k==i||(if k<i then rE bs k i else rE bs i k)
section code
variable (P : Program) (mt : Hints) (nt : Nat) (O : Orc) (LP : bM → bM) {R : Type}
def brB (v:PV) (k:Bool→Option R):Option R:=bnd (aBc v) fun b=>cnd b (k true) (k false)
def kK (ops:Array Oper):Nat→Oper→St→(Bool→St→Option R)→Option R
 | 0,_,_,_=>none
 | n+1,o,st,K =>
  match o.guard with
  | none=>K true st
  | some (g,want) =>
   match ops[g]? with
   | some q =>
    match q.dst with
    | some s=>kK ops n q st fun wq st =>
     match wq with
     | true=>brB (gets st.fr s) fun b=>K (b==want) {st with fr:=(s,.bool b)::st.fr}
     | false=>match gets st.fr s with
      | .und=>K false st
      | _=>none
    | none=>none
   | none=>none
def kG (ops:Array Oper):List Oper→St→(St→Option R)→Option R
 | [],st,K=>K st
 | o::os,st,K=>kK ops (ops.size+1) o st fun b st =>
  match b with
  | true=>aS P mt nt O o st fun e=>kG ops os (e.app st) K
  | false=>kG ops os {st with fr:=dstW nt o.dst .und++st.fr} K
def cB (ops:Array Oper):Nat→List Oper→List (Nat×Foot)→St→(List (Nat×Foot)→St→Option R)→Option R
 | _,[],log,st,K=>K log st
 | i,o::os,log,st,K=>kK ops (ops.size+1) o st fun b st =>
  match b with
  | true=>aS P mt nt O o st fun e =>
   match e.up with
   | some _ =>
    match aSW (Region.before ops) ops.size i with
    | true=>cB ops (i+1) os log (e.app st) K
    | false=>none
   | none=>cB ops (i+1) os ((i,e.foot)::log) (e.app st) K
  | false=>cB ops (i+1) os log {st with fr:=dstW nt o.dst .und++st.fr} K
def pV (bx:List aW):List (Nat×Nat) :=
 match bx with
 | b::_=>b.map fun x=>(x.1,x.2.length)
 | []=>[]
def flat (b:aW):List (Nat×Nat)→List PV
 | []=>[]
 | (i,n)::l=>(match look b i with
  | some cs=>(List.range n).map (gt cs)
  | none=>List.replicate n .bot)++flat b l
def aJg (s:List PV):Nat→List (Nat×Nat)→aW
 | _,[]=>[]
 | k,(i,n)::l=>(i,(List.range n).map fun j=>gt s (k+j))::aJg s (k+n) l
def lZ (s:List PV):Nat→List Nat→List (Nat×PV)
 | _,[]=>[]
 | k,i::l=>(i,gt s k)::lZ s (k+1) l
def oD (bx:List aW):aW :=
 match bx with
 | b::_=>b
 | []=>[]
def jD (bx:List aW):List aW :=
 match bx with
 | _::r=>r
 | []=>[]
def pJ (kp:List Nat) (sh:List (Nat×Nat)) (st:St):List PV:=kp.map (gets st.fr)++flat (oD st.bx) sh
def cM (kp:List Nat) (sh:List (Nat×Nat)) (s:List PV) (u:UP):St :=
 { fr:=lZ s 0 kp,bx:=aJg s kp.length sh::u}
def insideN (ids:List (Nat×Nat)):Nat→PV→Bool
 | n,v=>match v with
  | .ptr 0 id _=>ids.any fun x=>x.1==id
  | .ptr (_+1) _ _=>true
  | .rsl 0 id _ _=>ids.any fun x=>x.1==id
  | .rsl (_+1) _ _ _=>true
  | .vec _ _=>true
  | .agg cs=>cs.all solid1
  | .func _ first caps=>match n with
   | 0=>first.all solid&&caps.all solid
   | n+1=>first.all (insideN ids n)&&caps.all (insideN ids n)
  | .ref _=>true
  | .nilptr=>true
  | .nilFunc=>true
  | .bot=>true
  | v=>solid1 v
def inside (ids:List (Nat×Nat)) (v:PV):Bool:=insideN ids 3 v
def kL (sh:List (Nat×Nat)) (b:aW):Bool :=
 sh.all fun x=>match look b x.1 with
  | some cs=>cs.length==x.2
  | none=>false
def aPN (id:Nat):PV→Bool
 | .ptr 0 i _=>i==id
 | .rsl 0 i _ _=>i==id
 | .agg _=>true
 | .tuple _=>true
 | .func _ first caps => !(first.all solid&&caps.all solid)
 | _=>false
def ment (id:Nat):Nat→PV→Bool
 | n,v=>match v with
  | .agg cs=>cs.any (aPN id)
  | .tuple cs=>cs.any fun _=>true
  | .func _ first caps=>match n with
   | 0=>true
   | n+1=>first.any (ment id n)||caps.any (ment id n)
  | v=>aPN id v
def aDU (id:Nat) (v:PV):PV :=
 match ment id 3 v with
 | true => .bot
 | false=>v
def oI (bx:List aW) (id:Nat):List aW :=
 match bx with
 | b::r=>(b.filter fun x => !(x.1==id))::r
 | []=>[]
def aGr {R:Type} (t:Nat) (st:St) (K:St→Option R):Option R :=
 match gets st.fr t with
 | .rsl 0 id n sz =>
  match bB st.bx 0 id with
  | some [.vec sz' E] =>
   match Nat.beq sz sz',(oD st.bx).all fun x=>x.1==id||x.2.all fun c => !ment id 3 c with
   | true,true=>cnd (Nat.ble n E.length) (K {fr:=(t,.slice (E.take n) [] false)::st.fr.map fun x=>(x.1,aDU id x.2),bx:=oI st.bx id}) none
   | _,_=>none
  | _=>none
 | .vec _ E=>K {fr:=(t,.slice E [] false)::(t,.bot)::st.fr,bx:=st.bx}
 | _=>K st
def aXj {R:Type} (t sz:Nat) (st:St) (K:St→Option R):Option R :=
 match gets st.fr t with
 | .slice [] [] true=>K {fr:=(t,.vec sz [])::st.fr,bx:=st.bx}
 | _=>K st
def xC {R:Type}:List Nat→St→(St→Option R)→Option R
 | [],st,K=>K st
 | t::l,st,K=>match t / 1048576 with
  | 0=>aGr t st fun st=>xC l st K
  | sz+1=>aXj (t % 1048576) (sz+1) st fun st=>xC l st K
def aFf {R:Type} (l:List (Nat×List Nat)) (i:Nat) (st:St) (K:St→Option R):Option R :=
 match look l i with
 | some l=>xC l st K
 | none=>K st
def pack (kp:List Nat) (sh:List (Nat×Nat)) (st:St) (K:List PV→UP→Option R):Option R :=
 match kL sh (oD st.bx),(oD st.bx).all fun x=>sh.any fun y=>y.1==x.1 with
 | true,true=>K (pJ kp sh st) (jD st.bx)
 | true,false=>cnd ((pJ kp sh st).all (inside sh)) (K (pJ kp sh st) (jD st.bx)) none
 | false,_=>none
def iC:Code→Nat
 | .region i _ _=>i
 | .seq a _=>iC a
 | .block _ b=>iC b
 | .loop b=>iC b
 | .scope b=>iC b
 | _=>0
def aBy (mt:Hints) (c:Code):List Nat :=
 match look mt.keeps (iC c) with
 | some l=>l
 | none=>[]
def mV:Code→List (Option Nat)
 | .exit i=>[some i]
 | .ret=>[none]
 | .seq a b=>mV a++(mV b).filter fun x => !(mV a).any (· == x)
 | .cond _ a b=>mV a++(mV b).filter fun x => !(mV a).any (· == x)
 | .block id b=>(mV b).filter fun x => !(x==some id)
 | .scope b=>mV b
 | .loop b=>mV b
 | _=>[]
def exIs {R:Type} (e:Ex) (w:Option Nat) (x y:Option R):Option R :=
 match e,w with
 | .brk i,some j=>if i=j then x else y
 | .ret,none=>x
 | _,_=>y
def exOf:Option Nat→Ex
 | some i => .brk i
 | none => .ret
def sG {R:Type} (e:Ex) (K:Ex→Option R):List (Option Nat)→Option R
 | []=>none
 | w::l=>exIs e w (K (exOf w)) (sG e K l)
def aBe (c:Operand) (b:Bool) (st:St):St :=
 match c with
 | .tmp t=>{st with fr:=(t,.bool b)::st.fr}
 | _=>st
def aR {R:Type}:Code→St→(Ex→St→Option R)→Option R
 | .skip,st,K=>K .nrm st
 | .label _,st,K=>K .nrm st
 | .region rid ops draw,st,K=>aFf mt.frz rid st fun st =>
  match draw with
  | false=>kG P mt nt O ops ops.toList st (K .nrm)
  | true =>
   match aAi mt ops (Region.before ops) with
   | true=>cB P mt nt O ops 0 ops.toList [] st fun log st =>
    match pU (Region.before ops) log with
    | true=>K .nrm st
    | false=>none
   | false=>none
 | .seq a b,st,K=>aR a st fun e st =>
  match e with
  | .nrm=>aR b st K
  | .brk i=>K (.brk i) st
  | .ret=>K .ret st
 | .cond c a b,st,K=>brB (opd st.fr c) fun t =>
  match t with
  | true=>aR a (aBe c true st) K
  | false=>aR b (aBe c false st) K
 | .block id b,st,K=>aR b st fun e st =>
  match e with
  | .nrm=>K .nrm st
  | .brk i=>if i=id then K .nrm st else K (.brk i) st
  | .ret=>K .ret st
 | .scope b,st,K=>aR b st K
 | .exit id,st,K=>K (.brk id) st
 | .ret,st,K=>K .ret st
 | .loop b,st,K=>aFf mt.frl (iC b) st fun st =>
  pack (aBy mt b) (pV st.bx) st fun s u =>
   bnd (LP (fun s u=>aR b (cM (aBy mt b) (pV st.bx) s u) fun e st'=>pack (aBy mt b) (pV st.bx) st' fun s u=>some (e,s,u)) s u) fun r =>
    sG r.1 (fun e=>K e (cM (aBy mt b) (pV st.bx) r.2.1 r.2.2)) (mV b)
 | _,_,_=>none
def aHB (own:Bool) (st:St) (r:ResultVar) (K:PV→Option R):Option R :=
 match r with
 | .tmp t=>K (match own with | true=>gets st.fr t | false=>(gets st.fr t).plain)
 | .cell a t =>
  match szOf P t,agOf P t with
  | some n,some ag =>
   match gets st.fr a with
   | .ptr d id off=>if 0<n∧(ag=true∨n=1) then bnd (bB st.bx d id) fun cs=>cnd (aAh cs) none (bnd (part off n ag cs) fun v=>K (match own,d with | true,0=>v | _,_=>(wZ d v).plain)) else none
   | _=>none
  | _,_=>none
def aMF (st:St):List ResultVar→(List PV→Option R)→Option R
 | [],K=>K []
 | r::l,K=>aHB P false st r fun v=>aMF st l fun vs=>K (v::vs)
def aNq (fn:Func) (own:Bool) (st:St):Option (PV×UP) :=
 match fn.results.toList with
 | [r]=>aHB P own st r fun v=>bnd (xB v) fun v=>some (v,jD st.bx)
 | rs=>aMF P st rs fun vs=>bnd (vT vs) fun vs=>some ((PV.tuple vs).plain,jD st.bx)
def sZ (args:List PV) (up:UP):St:={fr:=lZ args 0 (List.range args.length),bx:=[]::up}
def mP (fn:Func) (args:List PV) (up:UP):Option (PV×UP) :=
 match fn.body with
 | some c=>if args.length≤nt then aR P mt nt O LP c (sZ args up) fun e st =>
   match e with
   | .brk _=>none
   | .nrm=>aNq P fn mt.own st
   | .ret=>aNq P fn mt.own st
  else none
 | none=>none
end code
def rF:Nat→bM→bM
 | 0,_,_,_=>none
 | n+1,body,s,u=>bnd (body s u) fun r =>
  match r.1 with
  | .nrm=>rF n body r.2.1 r.2.2
  | e=>some (e,r.2.1,r.2.2)
open PV
abbrev Mem:=Nat→Nat→Option Value
abbrev BM:=Nat→Nat→Option Nat
structure Base where
 n:Nat
 g:Mem
instance:Coe Base Nat:=⟨Base.n⟩
def Glob (base:Base) (M:Mem):Prop:=∀ b i v,base.g b i=some v→M b i=some v
theorem Glob.mono {base:Base} {M M':Mem} (h:Glob base M) (hM:∀ b i v,M b i=some v→M' b i=some v):Glob base M':=fun b i v hv=>hM b i v (h b i v hv)
theorem mD {α:Type}:∀ (l:List α) (i:Nat),nth l i=l[i]?
 | [],_=>by simp [nth]
 | _::_,0=>by simp [nth]
 | _::l,i+1=>by simp [nth,mD l i]
theorem aDp (l:List PV) (i:Nat):gt l i=(l[i]?).getD .bot:=by
 unfold gt;rw [mD];cases l[i]?<;>rfl
theorem gQ {α:Type}:∀ (l:List α) (i:Nat) (v:α),putNth l i v=l.set i v
 | [],_,_=>by simp [putNth]
 | _::_,0,_=>by simp [putNth]
 | _::l,i+1,v=>by simp [putNth,gQ l i v]
theorem eJ {α:Type}:∀ (vs:List α) (l:List α) (i:Nat),(putAt l i vs).length=l.length
 | [],_,_=>rfl
 | v::vs,l,i=>by simp [putAt,eJ vs,gQ]
theorem jW {α:Type}:∀ (vs:List α) (l:List α) (i j:Nat),i+vs.length≤l.length →
  (putAt l i vs)[j]?=if i≤j∧j<i+vs.length then vs[j-i]? else l[j]?
 | [],l,i,j,_=>by simp [putAt];intro h1 h2;omega
 | v::vs,l,i,j,h=>by
  simp only [putAt,gQ]
  rw [jW vs _ _ _ (by simp at h ⊢;omega)]
  simp only [List.length_cons] at h ⊢
  by_cases h1:i+1≤j∧j<i+1+vs.length
  ·rw [if_pos h1,if_pos (by omega)]
   have:j-i=(j-(i+1))+1:=by omega
   rw [this];simp
  ·rw [if_neg h1]
   by_cases h2:j=i
   ·subst h2
    rw [if_pos (by omega)]
    simp;rw [List.getElem?_set_self (by omega)]
   ·rw [if_neg (by omega),List.getElem?_set_ne (by omega)]
theorem kM {α:Type} (l:List (Nat×α)) (i j:Nat) (v:α):look ((i,v)::l) j=if i=j then some v else look l j:=rfl
theorem eK (l:List (Nat×PV)) (i j:Nat) (v:PV):gets ((i,v)::l) j=if i=j then v else gets l j:=by
 by_cases h:i=j<;>simp [gets,look,h]
def okEl (s:Nat) (e:PV):Prop:=e.solid=true∧e.plain=e∧e.cells.length=s∧0<s
inductive Rv (M:Mem) (B:BM):PV→Value→Prop
 | bot (v:Value):Rv M B .bot v
 | und:Rv M B .und undef
 | bool (b:Bool):Rv M B (.bool b) (.bool b)
 | int (k:IntKind) (n:Int):Rv M B (.int k n) (.int k n)
 | str (s:List UInt8):Rv M B (.str s) (.string ⟨s.toArray⟩)
 | agg (cs:List PV) (vs:Array Value) (f:Nat→Value) (hl:vs.size=cs.length) (hf:∀ i,i<cs.length→vs[i]?=some (f i))
   (hr:∀ i c,cs[i]?=some c→Rv M B c (f i)):Rv M B (.agg cs) (.agg vs)
 | tuple (cs:List PV) (vs:Array Value) (f:Nat→Value) (hl:vs.size=cs.length) (hf:∀ i,i<cs.length→vs[i]?=some (f i))
   (hr:∀ i c,cs[i]?=some c→Rv M B c (f i)):Rv M B (.tuple cs) (.tuple vs)
 | nil (o:Bool):Rv M B (.slice [] [] o) (.slice none 0 0)
 | slice (es bs:List PV) (o:Bool) (a:Addr) (cap s:Nat) (f:Nat→Nat→Value) (ha:0<cap→a.spot=none) (hc:es.length+bs.length≤cap)
   (ho:o=true→(es=[]→cap=0)∧bs=[]∧(es≠[]→a.off=0)) (hel:∀ (i:Nat) (e:PV),(es++bs)[i]?=some e→okEl s e)
   (hm:∀ (i:Nat) (e:PV) (j:Nat),(es++bs)[i]?=some e→j<s→M a.block (a.off+i*s+j)=some (f i j))
   (hr:∀ (i:Nat) (e:PV) (j:Nat) (c:PV),(es++bs)[i]?=some e→e.cells[j]?=some c→Rv M B c (f i j)):Rv M B (.slice es bs o) (.slice (some a) es.length cap)
 | mk0 (sz:Nat) (a:Addr) (cap:Nat) (ha:a.spot=none∧a.off=0):Rv M B (.mk0 sz) (.slice (some a) 0 cap)
 | ref (e:PV) (a:Addr) (s:Nat) (f:Nat→Value) (ha:a.spot=none) (hel:okEl s e) (hm:∀ j,j<s→M a.block (a.off+j)=some (f j))
   (hr:∀ j c,e.cells[j]?=some c→Rv M B c (f j)):Rv M B (.ref e) (.pointer (some a))
 | ptr (d id off b:Nat) (hb:B d id=some b):Rv M B (.ptr d id off) (.pointer (some ⟨b,off,none⟩))
 | nilptr:Rv M B .nilptr (.pointer none)
 | rsl (d id n sz b cap:Nat) (hb:B d id=some b) (hc:n≤cap):Rv M B (.rsl d id n sz) (.slice (some ⟨b,0,none⟩) n cap)
 | rslNil (d id sz:Nat) (oa:Option Addr):Rv M B (.rsl d id 0 sz) (.slice oa 0 0)
 | func (fn:Fn) (first caps:List PV) (vf vc:Array Value) (f g:Nat→Value) (hp:∀ c,c∈first++caps→c.plain=c)
   (hl:vf.size=first.length) (hf:∀ i,i<first.length→vf[i]?=some (f i)) (hrf:∀ i c,first[i]?=some c→Rv M B c (f i))
   (hl':vc.size=caps.length) (hg:∀ i,i<caps.length→vc[i]?=some (g i)) (hrg:∀ i c,caps[i]?=some c→Rv M B c (g i)) :
   Rv M B (.func fn first caps) (.func fn vf vc)
 | nilFunc:Rv M B .nilFunc .nilFunc
 | vec (sz:Nat) (E:List PV) (b cap:Nat) (hne:E≠[]) (hc:E.length≤cap) (h0:0<sz) (hE:∀ e∈E,okVe sz e=true) (hm:cap≤9223372036854775807):Rv M B (.vec sz E) (.slice (some ⟨b,0,none⟩) E.length cap)
 | vecNil (sz:Nat) (oa:Option Addr):Rv M B (.vec sz []) (.slice oa 0 0)
theorem Rv.mono {M M':Mem} {B B':BM} (hM:∀ b i v,M b i=some v→M' b i=some v) (hB:∀ d id b,B d id=some b→B' d id=some b)
  {p:PV} {v:Value} (h:Rv M B p v):Rv M' B' p v:=by
 induction h with
 | bot v=>exact .bot v
 | und=>exact .und
 | bool b=>exact .bool b
 | int k n=>exact .int k n
 | str s=>exact .str s
 | agg cs vs f hl hf _ ih=>exact .agg cs vs f hl hf ih
 | tuple cs vs f hl hf _ ih=>exact .tuple cs vs f hl hf ih
 | nil o=>exact .nil o
 | slice es bs o a cap s f ha hc ho hel hm _ ih=>exact .slice es bs o a cap s f ha hc ho hel (fun i e j h1 h2=>hM _ _ _ (hm i e j h1 h2)) ih
 | mk0 sz a cap ha=>exact .mk0 sz a cap ha
 | ref e a s f ha hel hm _ ih=>exact .ref e a s f ha hel (fun j hj=>hM _ _ _ (hm j hj)) ih
 | ptr d id off b hb=>exact .ptr d id off b (hB _ _ _ hb)
 | rsl d id n sz b cap hb hc=>exact .rsl d id n sz b cap (hB _ _ _ hb) hc
 | rslNil d id sz oa=>exact .rslNil d id sz oa
 | nilptr=>exact .nilptr
 | func fn first caps vf vc f g hp hl hf _ hl' hg _ ih ih'=>exact .func fn first caps vf vc f g hp hl hf ih hl' hg ih'
 | vec sz E b cap hne hc h0 hE hm=>exact .vec sz E b cap hne hc h0 hE hm
 | vecNil sz oa=>exact .vecNil sz oa
 | nilFunc=>exact .nilFunc
theorem okEl.cell {s:Nat} {e:PV} (h:okEl s e) {j:Nat} {c:PV} (hc:e.cells[j]?=some c):c.solid1=true:=by
 obtain ⟨hs,_,_,_⟩:=h
 cases e with
 | agg cs =>
  simp only [PV.solid,List.all_eq_true] at hs
  exact hs c (List.mem_of_getElem? (by simpa [cells] using hc))
 | _ =>
  simp only [PV.cells] at hc
  obtain rfl:j=0:=by
   cases j with
   | zero=>rfl
   | succ j=>simp at hc
  simp at hc;subst hc;simpa [PV.solid] using hs
theorem Rv.anyB1 {M:Mem} {B:BM} (B':BM) {p:PV} {v:Value} (h:Rv M B p v):p.solid1=true→Rv M B' p v:=by
 induction h with
 | bool b=>intro _;exact .bool b
 | int k n=>intro _;exact .int k n
 | str s=>intro _;exact .str s
 | nil o=>intro _;exact .nil o
 | slice es bs o a cap s f ha hc ho hel hm _ ih=>intro _;exact .slice es bs o a cap s f ha hc ho hel hm (fun i e j c h1 h2=>ih i e j c h1 h2 ((hel i e h1).cell h2))
 | mk0 sz a cap ha=>intro _;exact .mk0 sz a cap ha
 | _=>intro h;simp [PV.solid1] at h
theorem Rv.anyB {M:Mem} {B:BM} (B':BM) {p:PV} {v:Value} (h:Rv M B p v) (hs:p.solid=true):Rv M B' p v:=by
 cases h with
 | agg cs vs f hl hf hr =>
  simp only [PV.solid,List.all_eq_true] at hs
  exact .agg cs vs f hl hf fun i c hc=>(hr i c hc).anyB1 B' (hs c (List.mem_of_getElem? hc))
 | bot v=>simp [PV.solid,PV.solid1] at hs
 | und=>simp [PV.solid,PV.solid1] at hs
 | bool b=>exact .bool b
 | int k n=>exact .int k n
 | str s=>exact .str s
 | tuple=>simp [PV.solid,PV.solid1] at hs
 | nil o=>exact .nil o
 | slice es bs o a cap s f ha hc ho hel hm hr=>exact (Rv.slice es bs o a cap s f ha hc ho hel hm hr).anyB1 B' rfl
 | mk0 sz a cap ha=>exact .mk0 sz a cap ha
 | ref=>simp [PV.solid,PV.solid1] at hs
 | ptr=>simp [PV.solid,PV.solid1] at hs
 | rsl=>simp [PV.solid,PV.solid1] at hs
 | rslNil=>simp [PV.solid,PV.solid1] at hs
 | nilptr=>simp [PV.solid,PV.solid1] at hs
 | func=>simp [PV.solid,PV.solid1] at hs
 | vec=>simp [PV.solid,PV.solid1] at hs
 | vecNil=>simp [PV.solid,PV.solid1] at hs
 | nilFunc=>simp [PV.solid,PV.solid1] at hs
theorem Rv.anyBfree {M:Mem} {B:BM} (B':BM) {p:PV} {v:Value} (h:Rv M B p v) (hs:p.free=true):Rv M B' p v:=by
 cases h with
 | func fn first caps vf vc f g hp hl hf hrf hl' hg hrg =>
  simp only [PV.free,Bool.and_eq_true,List.all_eq_true] at hs
  exact .func fn first caps vf vc f g hp hl hf (fun i c hc=>(hrf i c hc).anyB B' (hs.1 c (List.mem_of_getElem? hc))) hl' hg (fun i c hc=>(hrg i c hc).anyB B' (hs.2 c (List.mem_of_getElem? hc)))
 | vec sz E b cap hne hc h0 hE hm=>exact .vec sz E b cap hne hc h0 hE hm
 | vecNil sz oa=>exact .vecNil sz oa
 | nilFunc=>exact .nilFunc
 | bot v=>simp [PV.free,PV.solid,PV.solid1] at hs
 | und=>simp [PV.free,PV.solid,PV.solid1] at hs
 | bool b=>exact .bool b
 | int k n=>exact .int k n
 | str s=>exact .str s
 | agg cs vs f hl hf hr=>exact (Rv.agg cs vs f hl hf hr).anyB B' (by simpa [PV.free] using hs)
 | tuple=>simp [PV.free,PV.solid,PV.solid1] at hs
 | nil o=>exact .nil o
 | slice es bs o a cap s f ha hc ho hel hm hr=>exact (Rv.slice es bs o a cap s f ha hc ho hel hm hr).anyB B' rfl
 | mk0 sz a cap ha=>exact .mk0 sz a cap ha
 | ref=>simp [PV.free,PV.solid,PV.solid1] at hs
 | ptr=>simp [PV.free,PV.solid,PV.solid1] at hs
 | rsl=>simp [PV.free,PV.solid,PV.solid1] at hs
 | rslNil=>simp [PV.free,PV.solid,PV.solid1] at hs
 | nilptr=>simp [PV.free,PV.solid,PV.solid1] at hs
theorem Rv.plain1 {M:Mem} {B:BM} {p:PV} {v:Value} (h:Rv M B p v):Rv M B p.plain1 v:=by
 cases h with
 | slice es bs o a cap s f ha hc ho hel hm hr =>
  refine .slice es [] false a cap s f ha (by simp;omega) (by simp) ?_ ?_ ?_
  ·intro i e he;simp at he;exact hel i e (by rw [List.getElem?_append_left (by have:=(List.getElem?_eq_some_iff.1 he).1;exact this)];exact he)
  ·intro i e j he hj;simp at he;exact hm i e j (by rw [List.getElem?_append_left (by have:=(List.getElem?_eq_some_iff.1 he).1;exact this)];exact he) hj
  ·intro i e j c he hc';simp at he;exact hr i e j c (by rw [List.getElem?_append_left (by have:=(List.getElem?_eq_some_iff.1 he).1;exact this)];exact he) hc'
 | mk0 sz a cap ha =>
  exact .slice [] [] false a cap 1 (fun _ _=>undef) (fun _=>ha.1) (by simp) (by simp) (by simp) (by simp) (by simp)
 | nil o=>exact .nil false
 | agg cs vs f hl hf hr=>exact .agg cs vs f hl hf hr
 | tuple cs vs f hl hf hr=>exact .tuple cs vs f hl hf hr
 | bot v=>exact .bot v
 | und=>exact .und
 | bool b=>exact .bool b
 | int k n=>exact .int k n
 | str s=>exact .str s
 | ref e a s f ha hel hm hr=>exact .ref e a s f ha hel hm hr
 | ptr d id off b hb=>exact .ptr d id off b hb
 | rsl d id n sz b cap hb hc=>exact .rsl d id n sz b cap hb hc
 | rslNil d id sz oa=>exact .rslNil d id sz oa
 | nilptr=>exact .nilptr
 | func fn first caps vf vc f g hp hl hf hrf hl' hg hrg=>exact .func fn first caps vf vc f g hp hl hf hrf hl' hg hrg
 | vec=>exact .bot _
 | vecNil=>exact .bot _
 | nilFunc=>exact .nilFunc
theorem Rv.plainA {M:Mem} {B:BM} {p:PV} {v:Value} (h:Rv M B p v):Rv M B p.plainA v:=by
 cases h with
 | agg cs vs f hl hf hr =>
  refine .agg _ vs f (by simpa using hl) (by simpa using hf) ?_
  intro i c hc
  simp only [List.getElem?_map,Option.map_eq_some_iff] at hc
  obtain ⟨c0,h0,rfl⟩:=hc
  exact (hr i c0 h0).plain1
 | slice es bs o a cap s f ha hc ho hel hm hr=>exact (Rv.slice es bs o a cap s f ha hc ho hel hm hr).plain1
 | mk0 sz a cap ha=>exact (Rv.mk0 sz a cap ha).plain1
 | nil o=>exact (Rv.nil o).plain1
 | tuple cs vs f hl hf hr=>exact (Rv.tuple cs vs f hl hf hr).plain1
 | bot v=>exact .bot v
 | und=>exact .und
 | bool b=>exact .bool b
 | int k n=>exact .int k n
 | str s=>exact .str s
 | ref e a s f ha hel hm hr=>exact .ref e a s f ha hel hm hr
 | ptr d id off b hb=>exact .ptr d id off b hb
 | rsl d id n sz b cap hb hc=>exact .rsl d id n sz b cap hb hc
 | rslNil d id sz oa=>exact .rslNil d id sz oa
 | nilptr=>exact .nilptr
 | func fn first caps vf vc f g hp hl hf hrf hl' hg hrg=>exact .func fn first caps vf vc f g hp hl hf hrf hl' hg hrg
 | vec=>exact .bot _
 | vecNil=>exact .bot _
 | nilFunc=>exact .nilFunc
theorem Rv.plain {M:Mem} {B:BM} {p:PV} {v:Value} (h:Rv M B p v):Rv M B p.plain v:=by
 cases h with
 | tuple cs vs f hl hf hr =>
  refine .tuple _ vs f (by simpa using hl) (by simpa using hf) ?_
  intro i c hc
  simp only [List.getElem?_map,Option.map_eq_some_iff] at hc
  obtain ⟨c0,h0,rfl⟩:=hc
  exact (hr i c0 h0).plainA
 | agg cs vs f hl hf hr=>exact (Rv.agg cs vs f hl hf hr).plainA
 | slice es bs o a cap s f ha hc ho hel hm hr=>exact (Rv.slice es bs o a cap s f ha hc ho hel hm hr).plainA
 | mk0 sz a cap ha=>exact (Rv.mk0 sz a cap ha).plainA
 | nil o=>exact (Rv.nil o).plainA
 | bot v=>exact .bot v
 | und=>exact .und
 | bool b=>exact .bool b
 | int k n=>exact .int k n
 | str s=>exact .str s
 | ref e a s f ha hel hm hr=>exact .ref e a s f ha hel hm hr
 | ptr d id off b hb=>exact .ptr d id off b hb
 | rsl d id n sz b cap hb hc=>exact .rsl d id n sz b cap hb hc
 | rslNil d id sz oa=>exact .rslNil d id sz oa
 | nilptr=>exact .nilptr
 | func fn first caps vf vc f g hp hl hf hrf hl' hg hrg=>exact .func fn first caps vf vc f g hp hl hf hrf hl' hg hrg
 | vec=>exact .bot _
 | vecNil=>exact .bot _
 | nilFunc=>exact .nilFunc
theorem aDV (p:PV):p.plain1.plain1=p.plain1:=by cases p<;>rfl
theorem aSX (p:PV):p.plainA.plainA=p.plainA:=by
 cases p with
 | agg cs=>simp [PV.plainA,Function.comp_def,aDV]
 | _=>simp [PV.plainA,PV.plain1]
theorem aMG (p:PV):p.plain.plain=p.plain:=by
 cases p with
 | tuple vs=>simp [PV.plain,Function.comp_def,aSX]
 | agg cs=>simp [PV.plain,PV.plainA,Function.comp_def,aDV]
 | _=>simp [PV.plain,PV.plainA,PV.plain1]
theorem Rv.ofAtom {M:Mem} {B:BM} (v:Value):Rv M B (ofAtom v) v:=by
 unfold Ev.ofAtom
 split<;>first
  | exact .bool _
  | exact .int _ _
  | exact .str _
  | exact .nil _
  | exact .nilptr
  | exact .nilFunc
  | exact .bot _
theorem Rv.ofValue {M:Mem} {B:BM} (v:Value):Rv M B (ofValue v) v:=by
 unfold Ev.ofValue
 split
 ·rename_i cs
  refine .agg _ cs (fun i=>cs.getD i undef) (by simp) (by intro i hi;simp at hi;simp [hi]) ?_
  intro i c hc
  simp only [List.getElem?_map,Option.map_eq_some_iff,Array.getElem?_toList] at hc
  obtain ⟨v0,h0,rfl⟩:=hc
  simp [h0,Rv.ofAtom]
 ·exact .ofAtom _
def bW:Nat→(Nat→Nat)→Nat
 | 0,_=>0
 | n+1,f=>bW n f+f n
theorem dE {f g:Nat→Nat}:∀ (n:Nat),(∀ i,i<n→f i=g i)→bW n f=bW n g
 | 0,_=>rfl
 | n+1,h=>by simp only [bW];rw [dE n (fun i hi=>h i (by omega)),h n (by omega)]
theorem aFg {f g:Nat→Nat}:∀ (n:Nat),(∀ i,i<n→f i≤g i)→bW n f≤bW n g
 | 0,_=>Nat.le_refl _
 | n+1,h=>by simp only [bW];have:=aFg n (fun i hi=>h i (by omega));have:=h n (by omega);omega
theorem aFh {f g:Nat→Nat} {k:Nat}:∀ (n:Nat),k<n→(∀ i,i<n→i≠k→f i=g i)→bW n f+g k=bW n g+f k
 | 0,hk,_=>by omega
 | n+1,hk,h=>by
  simp only [bW]
  by_cases e:k=n
  ·subst e
   rw [dE k (fun i hi=>h i (by omega) (by omega))];omega
  ·have:=aFh n (by omega) (fun i hi hne=>h i (by omega) hne)
   rw [h n (by omega) (Ne.symm e)];omega
theorem aFi {f:Nat→Nat} {k:Nat}:∀ (n:Nat),k<n→f k≤bW n f
 | 0,hk=>by omega
 | n+1,hk=>by
  simp only [bW]
  by_cases e:k=n
  ·subst e;omega
  ·have:=aFi (f:=f) n (by omega:k<n);omega
def sumL {α:Type} (f:α→Nat):List α→Nat
 | []=>0
 | a::l=>f a+sumL f l
theorem aFj {α:Type} {f:α→Nat}:∀ (l:List α),(∀ a∈l,f a=0)→sumL f l=0
 | [],_=>rfl
 | a::l,h=>by simp [sumL,h a (by simp),aFj l (fun x hx=>h x (by simp [hx]))]
theorem aJh {α:Type} {f:α→Nat} {a:α}:∀ (l:List α),a∈l→f a≤sumL f l
 | [],h=>by simp at h
 | x::l,h=>by
  simp only [sumL]
  rcases List.mem_cons.1 h with rfl | h
  ·omega
  ·have:=aJh (f:=f) l h;omega
def eE (g:Nat→List PV→Nat):aW→Nat
 | []=>0
 | (id,cs)::l=>g id cs+eE g l
def jE (g:Nat→Nat→List PV→Nat):Nat→List aW→Nat
 | _,[]=>0
 | d,f::r=>eE (g d) f+jE g (d+1) r
theorem aHC (g:Nat→List PV→Nat):∀ (a b:aW),eE g (a++b)=eE g a+eE g b
 | [],b=>by simp [eE]
 | (i,c)::a,b=>by simp [eE,aHC g a b];omega
theorem mQ {α:Type} {v:α} {i:Nat}:∀ {l:List (Nat×α)},look l i=some v→(i,v)∈l
 | [],h=>by simp [look] at h
 | (j,u)::l,h=>by
  simp only [look] at h
  split at h
  ·rename_i e;subst e;cases h;simp
  ·exact List.mem_cons_of_mem _ (mQ h)
theorem jF {α:Type} {v:α} {i:Nat}:∀ {l:List (Nat×α)},(l.map (·.1)).Nodup→(i,v)∈l→look l i=some v
 | [],_,h=>by simp at h
 | (j,u)::l,hn,h=>by
  simp only [List.map_cons,List.nodup_cons] at hn
  simp only [look]
  rcases List.mem_cons.1 h with e | h
  ·cases e;simp
  ·rw [if_neg (by intro e;subst e;exact hn.1 (List.mem_map.2 ⟨_,h,rfl⟩))];exact jF hn.2 h
theorem aBz {α:Type} {i:Nat}:∀ {l:List (Nat×α)},look l i=none↔i∉l.map (·.1)
 | []=>by simp [look]
 | (j,u)::l=>by
  simp only [look,List.map_cons,List.mem_cons,not_or]
  split
  ·rename_i e;simp [e]
  ·rename_i e;rw [aBz (l:=l)];exact ⟨fun h=>⟨fun h'=>e h'.symm,h⟩,fun h=>h.2⟩
theorem fU {g g':Nat→List PV→Nat}:∀ (f:aW),(∀ id cs,(id,cs)∈f→g id cs=g' id cs)→eE g f=eE g' f
 | [],_=>rfl
 | (i,c)::f,h=>by simp only [eE];rw [h i c (by simp),fU f (fun id cs hm=>h id cs (by simp [hm]))]
theorem aPO {g g':Nat→List PV→Nat} {id:Nat} {cs cs':List PV}:∀ (f:aW),(f.map (·.1)).Nodup→look f id=some cs →
  (∀ i c,(i,c)∈f→i≠id→g' i c=g i c)→eE g' (yC f id cs')+g id cs=eE g f+g' id cs'
 | [],_,h,_=>by simp [look] at h
 | (i,c)::f,hn,hl,hg=>by
  simp only [List.map_cons,List.nodup_cons] at hn
  simp only [look] at hl
  simp only [yC]
  by_cases e:i=id
  ·subst e
   simp only [if_true,Option.some.injEq] at hl
   subst hl
   simp only [if_true,eE]
   rw [fU f (g:=g') (g':=g) (fun j c' hm=>hg j c' (by simp [hm]) (by intro e;subst e;exact hn.1 (List.mem_map.2 ⟨_,hm,rfl⟩)))]
   omega
  ·simp only [if_neg e,eE]
   simp only [if_neg e] at hl
   have:=aPO (g:=g) (g':=g') (cs':=cs') f hn.2 hl (fun j c' hm hne=>hg j c' (by simp [hm]) hne)
   rw [hg i c (by simp) e];omega
theorem aBA {g:Nat→List PV→Nat} {id:Nat} {cs:List PV}:∀ (f:aW),(id,cs)∈f→g id cs≤eE g f
 | [],h=>by simp at h
 | (i,c)::f,h=>by
  simp only [eE]
  rcases List.mem_cons.1 h with e | h
  ·cases e;omega
  ·have:=aBA (g:=g) f h;omega
def own1:PV→Value→Option Nat
 | .slice (_::_) _ true,.slice (some a) _ _=>some a.block
 | .mk0 _,.slice (some a) _ _=>some a.block
 | .vec _ (_::_),.slice (some a) _ _=>some a.block
 | _,_=>none
def bS (w:World) (blk j:Nat):Value:=(w.cell? ⟨blk,j,none⟩).getD undef
def c1 (p:PV) (v:Value) (b:Nat):Nat:=if own1 p v=some b then 1 else 0
structure HOk (M:Mem) (w:World) (base:Base) (B:BM) (b lo hi:Nat):Prop where
 old:base≤b
 nobox:∀ d id,B d id≠some b
 row:∃ arr T fz,w.heap[b]?=some (.cells arr T fz)∧hi≤arr.size∧∀ i,i<hi→¬ (fz.1≤i∧i<fz.2)
 free:∀ i,lo≤i→M b i=none
def h1 (M:Mem) (w:World) (base:Base) (B:BM):PV→Value→Prop
 | .slice (e::_) _ true,.slice (some a) len cap=>HOk M w base B a.block (a.off+len*e.cells.length) (a.off+cap*e.cells.length)
 | .mk0 sz,.slice (some a) _ cap=>HOk M w base B a.block a.off (a.off+cap*sz)
 | .vec sz (e::E),.slice (some a) _ cap=>HOk M w base B a.block 0 (cap*sz)∧∀ (j:Nat) (c:PV),((e::E).flatMap cells)[j]?=some c→Rv M (fun _ _=>none) c (bS w a.block j)
 | _,_=>True
theorem yD {M:Mem} {w:World} {base:Base} {B:BM} {p:PV} {v:Value} (h:own1 p v=none):h1 M w base B p v:=by
 unfold h1;unfold own1 at h
 split<;>simp_all
def zipA (p:PV) (v:Value):List (PV×Value) :=
 match p,v with
 | .agg cs,.agg vs=>cs.zip vs.toList
 | p,v=>[(p,v)]
def atoms (p:PV) (v:Value):List (PV×Value) :=
 match p,v with
 | .tuple ps,.tuple vs=>(ps.zip vs.toList).flatMap fun x=>zipA x.1 x.2
 | p,v=>zipA p v
def cV (p:PV) (v:Value) (b:Nat):Nat:=sumL (fun x=>c1 x.1 x.2 b) (atoms p v)
def hV (M:Mem) (w:World) (base:Base) (B:BM) (p:PV) (v:Value):Prop:=∀ x∈atoms p v,h1 M w base B x.1 x.2
def fV (p:PV) (v:Value):Prop:=∀ x∈atoms p v,own1 x.1 x.2=none
theorem fV.c {p:PV} {v:Value} (h:fV p v) (b:Nat):cV p v b=0:=aFj _ fun x hx=>by simp [c1,h x hx]
theorem fV.h {p:PV} {v:Value} (h:fV p v) (M:Mem) (w:World) (base:Base) (B:BM):hV M w base B p v:=fun x hx=>yD (h x hx)
theorem aDW (p:PV) (v:Value):own1 p.plain1 v=none:=by cases p<;>cases v<;>simp [PV.plain1,own1]
theorem sH (es bs:List PV) (v:Value):own1 (.slice es bs false) v=none:=by cases es<;>cases v<;>simp [own1]
theorem vW (cs:List PV) (v:Value):own1 (.agg cs) v=none:=by cases v<;>rfl
theorem aMH (cs:List PV) (v:Value):own1 (.tuple cs) v=none:=by cases v<;>rfl
theorem dL (p:PV) (v:Value):∀ x∈zipA p.plainA v,own1 x.1 x.2=none:=by
 intro x hx
 cases p with
 | agg cs =>
  cases v with
  | agg vs =>
   simp only [PV.plainA,zipA] at hx
   obtain ⟨c,hc⟩:∃ c,c∈cs∧x.1=c.plain1:=by
    have:=(List.of_mem_zip (show (x.1,x.2)∈_ from hx)).1
    simp only [List.mem_map] at this
    obtain ⟨c,hc,e⟩:=this
    exact ⟨c,hc,e.symm⟩
   rw [hc.2];exact aDW _ _
  | _=>simp only [PV.plainA,zipA,List.mem_singleton] at hx;subst hx;exact vW _ _
 | tuple ps=>simp only [PV.plainA,PV.plain1,zipA,List.mem_singleton] at hx;subst hx;exact aMH _ _
 | _ =>
  simp only [PV.plainA,PV.plain1,zipA,List.mem_singleton] at hx
  subst hx
  first
   | exact sH _ _ _
   | (cases v<;>rfl)
theorem bX (p:PV) (v:Value):fV p.plain v:=by
 intro x hx
 cases p with
 | tuple ps =>
  cases v with
  | tuple vs =>
   simp only [PV.plain,atoms,List.mem_flatMap] at hx
   obtain ⟨y,hy,hx⟩:=hx
   have:=(List.of_mem_zip (show (y.1,y.2)∈_ from hy)).1
   simp only [List.mem_map] at this
   obtain ⟨c,_,e⟩:=this
   rw [← e] at hx
   exact dL c y.2 x hx
  | _ =>
   simp only [PV.plain,atoms,zipA,List.mem_singleton] at hx
   subst hx;exact aMH _ _
 | agg cs=>exact dL (.agg cs) v x hx
 | slice es bs o=>exact dL (.slice es bs o) v x hx
 | mk0 sz=>exact dL (.mk0 sz) v x hx
 | bot=>exact dL .bot v x hx
 | und=>exact dL .und v x hx
 | bool b=>exact dL (.bool b) v x hx
 | int k n=>exact dL (.int k n) v x hx
 | str s=>exact dL (.str s) v x hx
 | ref e=>exact dL (.ref e) v x hx
 | ptr d i o=>exact dL (.ptr d i o) v x hx
 | nilptr=>exact dL .nilptr v x hx
 | rsl d i n z=>exact dL (.rsl d i n z) v x hx
 | vec z E=>exact dL (.vec z E) v x hx
 | func f a b=>exact dL (.func f a b) v x hx
 | nilFunc=>exact dL .nilFunc v x hx
theorem iD {p:PV} {v:Value} (h:p.plain=p):fV p v:=by rw [← h];exact bX p v
theorem pW (p:PV):fV p undef:=by
 intro x hx
 cases p with
 | tuple ps=>simp [atoms,undef] at hx
 | agg cs=>simp only [atoms,undef,zipA,List.mem_singleton] at hx;subst hx;exact vW _ _
 | _=>simp only [atoms,undef,zipA,List.mem_singleton] at hx;subst hx;simp [own1]
def dF (w:World) (blk:Nat):Nat→List PV→Nat→Nat
 | _,[],_=>0
 | j,c::cs,b=>c1 c (bS w blk j) b+dF w blk (j+1) cs b
def cBox (w:World) (ob:Option Nat) (cs:List PV) (b:Nat):Nat :=
 match ob with
 | some blk=>dF w blk 0 (phys cs) b
 | none=>0
def cBx (w:World) (B:BM) (bx:List aW) (b:Nat):Nat:=jE (fun d id cs=>cBox w (B d id) cs b) 0 bx
def cF (fr:List (Nat×PV)) (tm:Array Value) (b:Nat):Nat:=bW tm.size fun i=>cV (gets fr i) (tm.getD i undef) b
def upB (d:Nat) (B:BM):BM:=fun e id=>B (d+e) id
def Cons (M:Mem) (w:World):Prop:=∀ b i v,M b i=some v→∃ arr T fz,w.heap[b]?=some (.cells arr T fz)∧arr[i]?=some v
structure BoxOk (M:Mem) (w:World) (base:Base) (B:BM) (d blk:Nat) (cs:List PV):Prop where
 old:base≤blk
 row:∃ arr T fz,w.heap[blk]?=some (.cells arr T fz)∧(phys cs).length≤arr.size∧∀ i,i<(phys cs).length→¬ (fz.1≤i∧i<fz.2)
 free:∀ i,M blk i=none
 rel:∀ (j:Nat) (c:PV),(phys cs)[j]?=some c→Rv M (upB d B) c (bS w blk j)∧h1 M w base B c (bS w blk j)∧fits 0 c=true
def okV:List PV→Prop
 | [.vec sz E]=>0<sz∧∀ e∈E,okVe sz e=true
 | _=>True
def bFO (B:BM) (d id:Nat) (cs:List PV):Prop:=B d id=none∧∃ sz,cs=[.vec sz []]
structure BRel (M:Mem) (w:World) (base:Base) (B:BM) (bx:List aW):Prop where
 nodup:∀ (d:Nat) (f:aW),bx[d]?=some f→(f.map (·.1)).Nodup
 dom:∀ d id,bB bx d id=none→B d id=none
 ok:∀ d id cs,bB bx d id=some cs→okV cs∧((∃ blk,B d id=some blk∧BoxOk M w base B d blk cs)∨bFO B d id cs)
 inj:∀ d id d' id' blk,B d id=some blk→B d' id'=some blk→d=d'∧id=id'
def tot (fr:List (Nat×PV)) (tm:Array Value) (w:World) (B:BM) (bx:List aW) (b:Nat):Nat:=cF fr tm b+cBx w B bx b
structure SR (base:Base) (M:Mem) (B:BM) (st:St) (tm:Array Value) (w:World):Prop where
 cons:Cons M w
 slot:∀ i,Rv M B (gets st.fr i) (tm.getD i undef)
 slotH:∀ i,hV M w base B (gets st.fr i) (tm.getD i undef)
 box:BRel M w base B st.bx
 one:∀ b,tot st.fr tm w B st.bx b≤1
 glob:Glob base M
 base:base≤w.heap.size
def touch (t:Nat→Nat) (B:BM) (b:Nat):Prop:=1≤t b∨∃ d id,B d id=some b
structure Evo (w:World) (M:Mem) (t:Nat→Nat) (B:BM) (w':World) (M':Mem) (t':Nat→Nat) (B':BM):Prop where
 os:w'.os=w.os
 tape:w'.tape=w.tape
 output:w'.output=w.output
 size:w.heap.size≤w'.heap.size
 mono:∀ b i v,M b i=some v→M' b i=some v
 keep:∀ b,b<w.heap.size→¬ touch t B b→w'.heap[b]?=w.heap[b]?∧∀ i,M' b i=M b i
 tle:∀ b,b<w.heap.size→t' b≤t b
 bxs:∀ d id b,B' d id=some b→b<w.heap.size→∃ d' id',B d' id'=some b
 outer:∀ d id,B' (d+1) id=B (d+1) id
theorem Evo.refl (w:World) (M:Mem) (t:Nat→Nat) (B:BM):Evo w M t B w M t B :=
 ⟨rfl,rfl,rfl,Nat.le_refl _,fun _ _ _ h=>h,fun _ _ _=>⟨rfl,fun _=>rfl⟩,fun _ _=>Nat.le_refl _,fun d id b h _=>⟨d,id,h⟩,fun _ _=>rfl⟩
theorem Evo.touch {w w':World} {M M':Mem} {t t':Nat→Nat} {B B':BM} (h:Evo w M t B w' M' t' B') {b:Nat} (hb:b<w.heap.size) (ht:touch t' B' b):touch t B b:=by
 rcases ht with h1 | ⟨d,id,h2⟩
 ·exact .inl (Nat.le_trans h1 (h.tle b hb))
 ·exact .inr (h.bxs d id b h2 hb)
theorem Evo.trans {w w1 w2:World} {M M1 M2:Mem} {t t1 t2:Nat→Nat} {B B1 B2:BM} (h:Evo w M t B w1 M1 t1 B1) (k:Evo w1 M1 t1 B1 w2 M2 t2 B2):Evo w M t B w2 M2 t2 B2 where
 os:=k.os.trans h.os
 tape:=k.tape.trans h.tape
 output:=k.output.trans h.output
 size:=Nat.le_trans h.size k.size
 mono:=fun b i v hv=>k.mono b i v (h.mono b i v hv)
 keep:=fun b hb hn=>by
  obtain ⟨e1,m1⟩:=h.keep b hb hn
  obtain ⟨e2,m2⟩:=k.keep b (Nat.lt_of_lt_of_le hb h.size) (fun ht=>hn (h.touch hb ht))
  exact ⟨e2.trans e1,fun i=>(m2 i).trans (m1 i)⟩
 tle:=fun b hb=>Nat.le_trans (k.tle b (Nat.lt_of_lt_of_le hb h.size)) (h.tle b hb)
 bxs:=fun d id b hb hs=>by
  obtain ⟨d1,i1,h1⟩:=k.bxs d id b hb (Nat.lt_of_lt_of_le hs h.size)
  exact h.bxs d1 i1 b h1 hs
 outer:=fun d id=>(k.outer d id).trans (h.outer d id)
def putT (tm:Array Value) (dst:Option Nat) (v:Value):Array Value :=
 match dst with
 | some d=>tm.setIfInBounds d v
 | none=>tm
theorem aVI (a:Act) (dst:Option Nat) (v:Value):(a.put dst v).tmps=putT a.tmps dst v:=by cases dst<;>rfl
theorem aMI (a:Act) (dst:Option Nat) (v:Value):(a.put dst v).defers=a.defers:=by cases dst<;>rfl
theorem gR (tm:Array Value) (dst:Option Nat) (v:Value):(putT tm dst v).size=tm.size:=by cases dst<;>simp [putT]
theorem bBt (l m:List (Nat×PV)) (i:Nat):gets (l++m) i=match look l i with | some v=>v | none=>gets m i:=by
 induction l with
 | nil=>rfl
 | cons x l ih =>
  obtain ⟨j,v⟩:=x
  rw [List.cons_append,eK,kM,ih]
  by_cases e:j=i<;>simp [e]
theorem aBB (nt:Nat) (dst:Option Nat) (p:PV) (fr:List (Nat×PV)) (i:Nat) :
  gets (dstW nt dst p++fr) i=if dst=some i∧i<nt then p else gets fr i:=by
 unfold dstW
 cases dst with
 | none=>simp
 | some d =>
  simp only [Option.some.injEq]
  by_cases h:d<nt
  ·simp only [h,if_true,List.cons_append,List.nil_append,eK]
   by_cases e:d=i
   ·subst e;simp [h]
   ·simp [e]
  ·simp only [h,if_false,List.nil_append]
   rw [if_neg (by rintro ⟨rfl,h'⟩;exact h h')]
theorem aFk (tm:Array Value) (dst:Option Nat) (v:Value) (i:Nat) :
  (putT tm dst v).getD i undef=if dst=some i∧i<tm.size then v else tm.getD i undef:=by
 unfold putT
 cases dst with
 | none=>simp
 | some d =>
  simp only [Option.some.injEq,Array.getD_eq_getD_getElem?,Array.getElem?_setIfInBounds]
  by_cases e:d=i
  ·subst e
   by_cases h:d<tm.size<;>simp [h]
  ·simp [e]
section
variable {base : Base} {M : Mem} {B : BM} {st : St} {tm : Array Value} {w : World}
theorem SR.world (h:SR base M B st tm w) {M':Mem} {w':World} (hc:Cons M' w') (hm:∀ b i v,M b i=some v→M' b i=some v)
  (hb:∀ d id b,B d id=some b→w'.heap[b]?=w.heap[b]?∧∀ i,M' b i=M b i)
  (ho:∀ b,1≤tot st.fr tm w B st.bx b→w'.heap[b]?=w.heap[b]?∧∀ i,M' b i=M b i) (hs:w.heap.size≤w'.heap.size) :
  SR base M' B st tm w'∧∀ b,tot st.fr tm w' B st.bx b=tot st.fr tm w B st.bx b:=by
 have hcell:∀ d id b j,B d id=some b→bS w' b j=bS w b j:=by
  intro d id b j hB
  simp [bS,World.cell?,(hb d id b hB).1]
 have hcells:∀ d id b (cs:List PV) (j x:Nat),B d id=some b→dF w' b j cs x=dF w b j cs x:=by
  intro d id b cs j x hB
  induction cs generalizing j with
  | nil=>rfl
  | cons c cs ih=>simp [dF,hcell d id b j hB,ih]
 have hbox:∀ d id cs x,cBox w' (B d id) cs x=cBox w (B d id) cs x:=by
  intro d id cs x
  unfold cBox
  cases hB:B d id with
  | none=>rfl
  | some b=>exact hcells d id b (phys cs) 0 x hB
 have hbx:∀ x,cBx w' B st.bx x=cBx w B st.bx x:=by
  intro x
  unfold cBx
  have:(fun d id cs=>cBox w' (B d id) cs x)=fun d id cs=>cBox w (B d id) cs x:=by
   funext d id cs;exact hbox d id cs x
  rw [this]
 have htot:∀ x,tot st.fr tm w' B st.bx x=tot st.fr tm w B st.bx x:=fun x=>by simp [tot,hbx]
 have hh1:∀ p v,(∀ x,own1 p v=some x→1≤tot st.fr tm w B st.bx x)→h1 M w base B p v→h1 M' w' base B p v:=by
  intro p v hown h1p
  unfold h1 at h1p ⊢
  split
  ·rename_i e es bs a len cap
   obtain ⟨e1,e2⟩:=ho a.block (hown a.block (by simp [own1]))
   obtain ⟨o,nb,⟨arr,T,fz,hr,hsz,hf⟩,fr⟩:=h1p
   exact ⟨o,nb,⟨arr,T,fz,by rw [e1];exact hr,hsz,hf⟩,fun i hi=>by rw [e2];exact fr i hi⟩
  ·rename_i sz a len cap
   obtain ⟨e1,e2⟩:=ho a.block (hown a.block (by simp [own1]))
   obtain ⟨o,nb,⟨arr,T,fz,hr,hsz,hf⟩,fr⟩:=h1p
   exact ⟨o,nb,⟨arr,T,fz,by rw [e1];exact hr,hsz,hf⟩,fun i hi=>by rw [e2];exact fr i hi⟩
  ·rename_i sz e es a len cap
   obtain ⟨e1,e2⟩:=ho a.block (hown a.block (by simp [own1]))
   obtain ⟨⟨o,nb,⟨arr,T,fz,hr,hsz,hf⟩,fr⟩,hcont⟩:=h1p
   refine ⟨⟨o,nb,⟨arr,T,fz,by rw [e1];exact hr,hsz,hf⟩,fun i hi=>by rw [e2];exact fr i hi⟩,fun j c hc => ?_⟩
   have:bS w' a.block j=bS w a.block j:=by simp [bS,World.cell?,e1]
   rw [this]
   exact (hcont j c hc).mono hm (fun _ _ _ hx=>hx)
  ·trivial
 refine ⟨⟨hc,fun i=>(h.slot i).mono hm (fun _ _ _ hx=>hx),?_,?_,fun b=>by rw [htot];exact h.one b,h.glob.mono hm,Nat.le_trans h.base hs⟩,htot⟩
 ·intro i x hx
  by_cases hi:i<tm.size
  ·refine hh1 x.1 x.2 (fun b hb' => ?_) (h.slotH i x hx)
   have h1':c1 x.1 x.2 b=1:=by simp [c1,hb']
   have h2:c1 x.1 x.2 b≤cV (gets st.fr i) (tm.getD i undef) b:=aJh (f:=fun y=>c1 y.1 y.2 b) _ hx
   have h3:=aFi (f:=fun i=>cV (gets st.fr i) (tm.getD i undef) b) tm.size hi
   simp only [tot,cF];omega
  ·have:tm.getD i undef=undef:=by simp [Array.getD,hi]
   rw [this] at hx
   exact yD (pW _ x hx)
 ·refine ⟨h.box.nodup,h.box.dom,?_,h.box.inj⟩
  intro d id cs hbx'
  obtain ⟨hv,hbk⟩:=h.box.ok d id cs hbx'
  refine ⟨hv,?_⟩
  rcases hbk with ⟨blk,hB,⟨o,⟨arr,T,fz,hr,hsz,hfz⟩,fr,rel⟩⟩ | hno
  rotate_left
  ·exact .inr hno
  left
  refine ⟨blk,hB,o,⟨arr,T,fz,by rw [(hb d id blk hB).1];exact hr,hsz,hfz⟩,fun i=>by rw [(hb d id blk hB).2];exact fr i,?_⟩
  intro j c hj
  rw [hcell d id blk j hB]
  obtain ⟨r1,r2,r3⟩:=rel j c hj
  refine ⟨r1.mono hm (fun _ _ _ hx=>hx),hh1 _ _ (fun b hb' => ?_) r2,r3⟩
  have k1:c1 c (bS w blk j) b=1:=by simp [c1,hb']
  have key:∀ (l:List PV) (k j:Nat) (c:PV),l[j]?=some c→c1 c (bS w blk (k+j)) b≤dF w blk k l b:=by
   intro l
   induction l with
   | nil=>intro k j c hj;simp at hj
   | cons a l ih =>
    intro k j c hj
    cases j with
    | zero=>simp at hj;subst hj;simp [dF]
    | succ j=>simp at hj;have:=ih (k+1) j c hj;simp only [dF];rw [show k+(j+1)=k+1+j by omega];omega
  have k2:=key (phys cs) 0 j c hj
  rw [Nat.zero_add] at k2
  have k3:cBox w (B d id) cs b≤cBx w B st.bx b:=by
   have gen:∀ (bx:List aW) (d0 d:Nat),bB bx d id=some cs→cBox w (B (d0+d) id) cs b≤jE (fun d id cs=>cBox w (B d id) cs b) d0 bx:=by
    intro bx
    induction bx with
    | nil=>intro d0 d hh;simp [bB,nth] at hh
    | cons f r ih =>
     intro d0 d hh
     simp only [jE]
     cases d with
     | zero =>
      simp only [bB,nth] at hh
      have:=aBA (g:=fun id cs=>cBox w (B d0 id) cs b) f (mQ hh)
      simp only [Nat.add_zero];omega
     | succ d =>
      simp only [bB,nth] at hh
      have:=ih (d0+1) d hh
      rw [show d0+(d+1)=d0+1+d by omega];omega
   have:=gen st.bx 0 d hbx'
   rw [Nat.zero_add] at this
   exact this
  rw [hB] at k3
  simp only [cBox] at k3
  simp only [tot];omega
theorem SR.put (h:SR base M B st tm w) (dst:Option Nat) {p:PV} {v:Value} (hr:Rv M B p v) (hh:hV M w base B p v)
  (ht:∀ b,tot st.fr tm w B st.bx b+cV p v b≤1) :
  SR base M B {st with fr:=dstW tm.size dst p++st.fr} (putT tm dst v) w ∧
   ∀ b,tot (dstW tm.size dst p++st.fr) (putT tm dst v) w B st.bx b≤tot st.fr tm w B st.bx b+cV p v b:=by
 have hget:∀ i,(gets (dstW tm.size dst p++st.fr) i=p∧(putT tm dst v).getD i undef=v)∨(gets (dstW tm.size dst p++st.fr) i=gets st.fr i∧(putT tm dst v).getD i undef=tm.getD i undef):=by
  intro i
  rw [aBB,aFk]
  by_cases e:dst=some i∧i<tm.size
  ·exact .inl ⟨if_pos e,if_pos e⟩
  ·exact .inr ⟨if_neg e,if_neg e⟩
 have hle:∀ b,tot (dstW tm.size dst p++st.fr) (putT tm dst v) w B st.bx b≤tot st.fr tm w B st.bx b+cV p v b:=by
  intro b
  simp only [tot,cF,gR]
  have key:bW tm.size (fun i=>cV (gets (dstW tm.size dst p++st.fr) i) ((putT tm dst v).getD i undef) b)≤bW tm.size (fun i=>cV (gets st.fr i) (tm.getD i undef) b)+cV p v b:=by
   cases hd:dst with
   | none=>simp [dstW,putT]
   | some d =>
    by_cases hlt:d<tm.size
    ·have:=aFh (f:=fun i=>cV (gets (dstW tm.size (some d) p++st.fr) i) ((putT tm (some d) v).getD i undef) b) (g:=fun i=>cV (gets st.fr i) (tm.getD i undef) b) (k:=d) tm.size hlt (fun i _ hne=>by
      simp only [aBB,aFk,Option.some.injEq]
      rw [if_neg (by omega),if_neg (by omega)])
     simp only [aBB,aFk,hlt,and_self,if_true] at this
     simp only [aBB,aFk]
     omega
    ·rw [dE (g:=fun i=>cV (gets st.fr i) (tm.getD i undef) b) tm.size (fun i hi=>by
      simp only [aBB,aFk,Option.some.injEq]
      rw [if_neg (by omega),if_neg (by omega)])]
     omega
  omega
 refine ⟨⟨h.cons,fun i => ?_,fun i => ?_,h.box,fun b=>Nat.le_trans (hle b) (ht b),h.glob,h.base⟩,hle⟩
 ·rcases hget i with ⟨e1,e2⟩ | ⟨e1,e2⟩
  ·show Rv M B (gets (dstW tm.size dst p++st.fr) i) _
   rw [e1,e2];exact hr
  ·show Rv M B (gets (dstW tm.size dst p++st.fr) i) _
   rw [e1,e2];exact h.slot i
 ·rcases hget i with ⟨e1,e2⟩ | ⟨e1,e2⟩
  ·show hV M w base B (gets (dstW tm.size dst p++st.fr) i) _
   rw [e1,e2];exact hh
  ·show hV M w base B (gets (dstW tm.size dst p++st.fr) i) _
   rw [e1,e2];exact h.slotH i
theorem SR.putN (h:SR base M B st tm w) (dst:Option Nat) {p:PV} {v:Value} (hr:Rv M B p v) (hn:fV p v) :
  SR base M B {st with fr:=dstW tm.size dst p++st.fr} (putT tm dst v) w ∧
   ∀ b,tot (dstW tm.size dst p++st.fr) (putT tm dst v) w B st.bx b≤tot st.fr tm w B st.bx b:=by
 obtain ⟨h1,h2⟩:=h.put dst hr (hn.h M w base B) (fun b=>by rw [hn.c b];exact h.one b)
 exact ⟨h1,fun b=>by have:=h2 b;rw [hn.c b] at this;exact this⟩
theorem SR.take (h:SR base M B st tm w) (t:Nat) :
  SR base M B {st with fr:=(t,(gets st.fr t).plain)::st.fr} tm w ∧
   ∀ b,tot ((t,(gets st.fr t).plain)::st.fr) tm w B st.bx b+cV (gets st.fr t) (tm.getD t undef) b=tot st.fr tm w B st.bx b:=by
 have hle:∀ b,tot ((t,(gets st.fr t).plain)::st.fr) tm w B st.bx b+cV (gets st.fr t) (tm.getD t undef) b=tot st.fr tm w B st.bx b:=by
  intro b
  simp only [tot,cF]
  by_cases hlt:t<tm.size
  ·have:=aFh (f:=fun i=>cV (gets ((t,(gets st.fr t).plain)::st.fr) i) (tm.getD i undef) b) (g:=fun i=>cV (gets st.fr i) (tm.getD i undef) b) (k:=t) tm.size hlt (fun i _ hne=>by
    simp only [eK];rw [if_neg (Ne.symm hne)])
   simp only [eK,if_true] at this
   rw [(bX (gets st.fr t) (tm.getD t undef)).c b] at this
   simp only [eK]
   omega
  ·rw [dE (g:=fun i=>cV (gets st.fr i) (tm.getD i undef) b) tm.size (fun i hi=>by
    simp only [eK];rw [if_neg (by omega)])]
   have:tm.getD t undef=undef:=by simp [Array.getD,hlt]
   rw [this,(pW _).c b];rfl
 refine ⟨⟨h.cons,fun i => ?_,fun i => ?_,h.box,fun b => ?_,h.glob,h.base⟩,hle⟩
 ·show Rv M B (gets ((t,(gets st.fr t).plain)::st.fr) i) _
  rw [eK];split
  ·rename_i e;subst e;exact (h.slot t).plain
  ·exact h.slot i
 ·show hV M w base B (gets ((t,(gets st.fr t).plain)::st.fr) i) _
  rw [eK];split
  ·exact (bX _ _).h M w base B
  ·exact h.slotH i
 ·have:=hle b;have:=h.one b;show tot ((t,(gets st.fr t).plain)::st.fr) tm w B st.bx b≤1;omega
theorem SR.opd (h:SR base M B st tm w) (d:List Deferred) (x:Operand):Rv M B (Ev.opd st.fr x) ((Act.mk tm d).eval x):=by
 cases x with
 | tmp t=>exact h.slot t
 | const v=>exact Rv.ofValue v
 | global g=>exact .bot _
 | func f=>exact .func _ [] [] #[] #[] (fun _=>undef) (fun _=>undef) (by simp) rfl (by simp) (by simp) rfl (by simp) (by simp)
theorem vX (v:Value):own1 (ofAtom v) v=none:=by
 unfold ofAtom;split<;>first | rfl | simp [own1]
theorem jG (v:Value):fV (ofValue v) v:=by
 intro x hx
 unfold ofValue at hx
 split at hx
 ·rename_i cs
  simp only [atoms,zipA] at hx
  obtain ⟨i,hi⟩:=List.mem_iff_getElem?.1 hx
  simp only [List.zip_eq_zipWith,List.getElem?_zipWith,List.getElem?_map] at hi
  cases hc:cs.toList[i]? with
  | none=>simp [hc] at hi
  | some c=>simp [hc] at hi;subst hi;exact vX c
 ·have:x=(ofAtom v,v):=by
   unfold ofAtom at hx ⊢
   split at hx<;>simp_all [atoms,zipA]
  subst this;exact vX v
theorem rG (fr:List (Nat×PV)) (x:Operand) (a:Act) (hx:∀ t,x ≠ .tmp t):fV (opd fr x) (a.eval x):=by
 cases x with
 | tmp t=>exact absurd rfl (hx t)
 | const v=>exact jG v
 | global g=>intro y hy;simp [opd,atoms,zipA] at hy;subst hy;rfl
 | func f=>intro y hy;simp [opd,atoms,zipA] at hy;subst hy;rfl
theorem SR.opvF (h:SR base M B st tm w) (d:List Deferred) (x:Operand) :
  Rv M B (opv st.fr false x) ((Act.mk tm d).eval x)∧fV (opv st.fr false x) ((Act.mk tm d).eval x):=by
 cases x with
 | tmp t=>exact ⟨(h.slot t).plain,bX _ _⟩
 | const v=>exact ⟨Rv.ofValue v,jG v⟩
 | global g=>exact ⟨.bot _,rG st.fr (.global g) ⟨tm,d⟩ (by simp)⟩
 | func f=>exact ⟨h.opd d (.func f),rG st.fr (.func f) ⟨tm,d⟩ (by simp)⟩
theorem SR.opvT (h:SR base M B st tm w) (d:List Deferred) (tk:Bool) (x:Operand) :
  Rv M B (opv st.fr tk x) ((Act.mk tm d).eval x)∧hV M w base B (opv st.fr tk x) ((Act.mk tm d).eval x) ∧
  SR base M B {st with fr:=left st.fr tk x++st.fr} tm w ∧
  ∀ b,tot (left st.fr tk x++st.fr) tm w B st.bx b+cV (opv st.fr tk x) ((Act.mk tm d).eval x) b=tot st.fr tm w B st.bx b:=by
 cases tk with
 | false =>
  obtain ⟨h1,h2⟩:=h.opvF d x
  have hl:left st.fr false x=[]:=by cases x<;>rfl
  rw [hl]
  exact ⟨h1,h2.h M w base B,h,fun b=>by rw [h2.c b];rfl⟩
 | true =>
  cases x with
  | tmp t =>
   obtain ⟨h1,h2⟩:=h.take t
   exact ⟨h.slot t,h.slotH t,h1,h2⟩
  | const v=>exact ⟨Rv.ofValue v,(jG v).h M w base B,h,fun b=>by show _+cV (ofValue v) v b=_;rw [(jG v).c b];rfl⟩
  | global g=>exact ⟨.bot _,(rG st.fr (.global g) ⟨tm,d⟩ (by simp)).h M w base B,h,fun b=>by rw [show opv st.fr true (.global g)=Ev.opd st.fr (.global g) from rfl,(rG st.fr (.global g) ⟨tm,d⟩ (by simp)).c b];rfl⟩
  | func f=>exact ⟨h.opd d (.func f),(rG st.fr (.func f) ⟨tm,d⟩ (by simp)).h M w base B,h,fun b=>by rw [show opv st.fr true (.func f)=Ev.opd st.fr (.func f) from rfl,(rG st.fr (.func f) ⟨tm,d⟩ (by simp)).c b];rfl⟩
end
theorem aAj {f f' g : Nat → Nat} {len off : Nat} : ∀ (n : Nat), off + n ≤ len → (∀ i, i < len → ¬ (off ≤ i ∧ i < off + n) → f' i = f i) →
  (∀ j, j < n → f' (off + j) = g j) → bW len f' + bW n (fun j => f (off + j)) = bW len f + bW n g
 | 0, _, h1, _ => by
  have := dE (f := f') (g := f) len (fun i hi => h1 i hi (by omega))
  simp [bW, this]
 | n + 1, hl, h1, h2 => by
  have ih := aAj (len := len) (off := off) (f := f) (f' := fun i => if i = off + n then f i else f' i) (g := g) n (by omega)
   (fun i hi hn => by
    by_cases e : i = off + n
    ·simp [e]
    ·have hx : ¬ (off ≤ i ∧ i < off + (n + 1)) := by omega
     have := h1 i hi hx
     simp [e, this])
   (fun j hj => by
    have hx : ¬ (off + j = off + n) := by omega
    simp [hx, h2 j (by omega)]; intro h; omega)
  have k := aFh (f := f') (g := fun i => if i = off + n then f i else f' i) (k := off + n) len (by omega) (fun i _ hne => by simp [hne])
  simp only [if_true] at k
  simp only [bW]
  have := h2 n (by omega)
  omega
theorem lJ {f:Nat→Nat}:∀ (n:Nat),(∀ i,i<n→f i=0)→bW n f=0
 | 0,_=>rfl
 | n+1,h=>by simp [bW,lJ n (fun i hi=>h i (by omega)),h n (by omega)]
theorem nJ (w:World) (blk:Nat) (b:Nat):∀ (cs:List PV) (k:Nat),dF w blk k cs b=bW cs.length fun j=>c1 (cs.getD j .bot) (bS w blk (k+j)) b
 | [],_=>rfl
 | c::cs,k=>by
  have ih:=nJ w blk b cs (k+1)
  simp only [dF,ih,List.length_cons]
  have sh:∀ (n:Nat) (f:Nat→Nat),bW (n+1) f=f 0+bW n (fun j=>f (j+1)):=by
   intro n f
   induction n with
   | zero=>simp [bW]
   | succ n ih=>rw [bW,ih];simp only [bW];omega
  rw [sh]
  simp only [List.getD_cons_zero,Nat.add_zero,List.getD_cons_succ]
  congr 1
  apply dE
  intro j _
  rw [show k+1+j=k+(j+1) by omega]
theorem aVJ (b:Nat):∀ (cs:List PV) (vs:List Value),cs.length=vs.length →
  sumL (fun x=>c1 x.1 x.2 b) (cs.zip vs)=bW cs.length fun j=>c1 (cs.getD j .bot) (vs.getD j undef) b
 | [],[],_=>rfl
 | [],_::_,h=>by simp at h
 | _::_,[],h=>by simp at h
 | c::cs,v::vs,h=>by
  have ih:=aVJ b cs vs (by simpa using h)
  simp only [List.zip_cons_cons,sumL,ih,List.length_cons]
  have sh:∀ (n:Nat) (f:Nat→Nat),bW (n+1) f=f 0+bW n (fun j=>f (j+1)):=by
   intro n f
   induction n with
   | zero=>simp [bW]
   | succ n ih=>rw [bW,ih];simp only [bW];omega
  rw [sh]
  simp
theorem aY7 (cs:List PV) (vs:Array Value) (b:Nat) (h:vs.size=cs.length) :
  cV (.agg cs) (.agg vs) b=bW cs.length fun j=>c1 (cs.getD j .bot) (vs.getD j undef) b:=by
 have:=aVJ b cs vs.toList (by simp [h])
 simp only [cV,atoms,zipA,this]
 apply dE
 intro j hj
 simp [List.getD_eq_getElem?_getD,Array.getD_eq_getD_getElem?]
theorem aJi {p:PV} (hp:∀ cs,p ≠ .agg cs):p.cells=[p]:=by
 cases p<;>first | rfl | (exact absurd rfl (hp _))
theorem aJj {p:PV} {v:Value} (hp:∀ cs,p ≠ .agg cs) (ht:∀ cs,p ≠ .tuple cs):atoms p v=[(p,v)]:=by
 cases p<;>first | rfl | (exact absurd rfl (hp _)) | (exact absurd rfl (ht _))
theorem yE {p:PV} {v:Value} (hp:∀ cs,p ≠ .agg cs) (ht:∀ cs,p ≠ .tuple cs) (b:Nat):cV p v b=c1 p v b:=by
 simp [cV,aJj hp ht,sumL]
theorem aFl {M:Mem} {w:World} {base:Base} {B:BM} {p:PV} {v:Value} (hp:∀ cs,p ≠ .agg cs) (ht:∀ cs,p ≠ .tuple cs):hV M w base B p v↔h1 M w base B p v:=by
 simp [hV,aJj hp ht]
theorem Rv.oneCell {M:Mem} {B:BM} {p:PV} {v:Value} {d:Nat} (h:Rv M B p v) (hf:fits d p=true):v.oneCell'=true:=by
 cases h<;>first | rfl | simp [fits,PV.solid1] at hf
theorem Rv.raise1 {M:Mem} {B:BM} {p:PV} {v:Value} {d:Nat} (h:Rv M (upB d B) p v) (hf:fits 0 p=true):Rv M B (Ev.raise1 d p) v:=by
 cases h with
 | ptr e id off b hb=>exact .ptr (e+d) id off b (by simpa [upB,Nat.add_comm] using hb)
 | rsl e id n sz b cap hb hc=>exact .rsl (e+d) id n sz b cap (by simpa [upB,Nat.add_comm] using hb) hc
 | rslNil e id sz oa=>exact .rslNil (e+d) id sz oa
 | ref e a s f ha hel hm hr=>exact .ref e a s f ha hel hm fun j c hc=>(hr j c hc).anyB1 B (hel.cell hc)
 | func fn first caps vf vc f g hp hl hf' hrf hl' hg hrg=>exact (Rv.func fn first caps vf vc f g hp hl hf' hrf hl' hg hrg).anyBfree B (by simpa [PV.free,fits] using hf)
 | nilptr=>exact .nilptr
 | nilFunc=>exact .nilFunc
 | vec=>simp [fits,PV.solid1] at hf
 | vecNil=>simp [fits,PV.solid1] at hf
 | bool b=>exact .bool b
 | int k n=>exact .int k n
 | str s=>exact .str s
 | nil o=>exact .nil o
 | slice es bs o a cap s f ha hc ho hel hm hr=>exact (Rv.slice es bs o a cap s f ha hc ho hel hm hr).anyB1 B rfl
 | mk0 sz a cap ha=>exact .mk0 sz a cap ha
 | bot v=>simp [fits,PV.solid1] at hf
 | und=>simp [fits,PV.solid1] at hf
 | agg=>simp [fits,PV.solid1] at hf
 | tuple=>simp [fits,PV.solid1] at hf
theorem Rv.lower1 {M:Mem} {B:BM} {p:PV} {v:Value} {d:Nat} (h:Rv M B p v) (hf:fits d p=true):Rv M (upB d B) (Ev.lower1 d p) v:=by
 cases h with
 | ptr e id off b hb=>exact .ptr (e-d) id off b (by simp only [fits,decide_eq_true_eq] at hf;simp only [upB];rw [show d+(e-d)=e by omega];exact hb)
 | rsl e id n sz b cap hb hc=>exact .rsl (e-d) id n sz b cap (by simp only [fits,decide_eq_true_eq] at hf;simp only [upB];rw [show d+(e-d)=e by omega];exact hb) hc
 | rslNil e id sz oa=>exact .rslNil (e-d) id sz oa
 | ref e a s f ha hel hm hr=>exact .ref e a s f ha hel hm fun j c hc=>(hr j c hc).anyB1 _ (hel.cell hc)
 | func fn first caps vf vc f g hp hl hf' hrf hl' hg hrg=>exact (Rv.func fn first caps vf vc f g hp hl hf' hrf hl' hg hrg).anyBfree _ (by simpa [PV.free,fits] using hf)
 | nilptr=>exact .nilptr
 | nilFunc=>exact .nilFunc
 | vec=>simp [fits,PV.solid1] at hf
 | vecNil=>simp [fits,PV.solid1] at hf
 | bool b=>exact .bool b
 | int k n=>exact .int k n
 | str s=>exact .str s
 | nil o=>exact .nil o
 | slice es bs o a cap s f ha hc ho hel hm hr=>exact (Rv.slice es bs o a cap s f ha hc ho hel hm hr).anyB1 _ rfl
 | mk0 sz a cap ha=>exact .mk0 sz a cap ha
 | bot v=>simp [fits,PV.solid1] at hf
 | und=>simp [fits,PV.solid1] at hf
 | agg=>simp [fits,PV.solid1] at hf
 | tuple=>simp [fits,PV.solid1] at hf
theorem aMJ {d:Nat} {p:PV} (h:fits d p=true):fits 0 (Ev.lower1 d p)=true:=by
 cases p<;>simp_all [fits,Ev.lower1]
theorem aXk (d:Nat) (p:PV) (v:Value):own1 (Ev.lower1 d p) v=own1 p v:=by
 cases p<;>first | rfl | (cases v<;>rfl)
theorem aMK (d:Nat) (p:PV) (v:Value):own1 (Ev.raise1 d p) v=own1 p v:=by
 cases p<;>first | rfl | (cases v<;>rfl)
theorem bBu {M:Mem} {w:World} {base:Base} {B:BM} (d:Nat) (p:PV) (v:Value):h1 M w base B (Ev.lower1 d p) v↔h1 M w base B p v:=by
 cases p<;>first | exact Iff.rfl | (cases v<;>exact Iff.rfl)
theorem aVK {M:Mem} {w:World} {base:Base} {B:BM} (d:Nat) (p:PV) (v:Value):h1 M w base B (Ev.raise1 d p) v↔h1 M w base B p v:=by
 cases p<;>first | exact Iff.rfl | (cases v<;>exact Iff.rfl)
theorem aNr (B:BM):upB 0 B=B:=by funext d id;simp [upB]
theorem aJk (p:PV):Ev.raise1 0 p=p:=by cases p<;>rfl
theorem aSY (p:PV):Ev.lower1 0 p=p:=by cases p<;>rfl
theorem aNs (d:Nat) (p:PV):wZ d p=match p with | .agg cs => .agg (cs.map (Ev.raise1 d)) | p=>Ev.raise1 d p:=by
 cases d with
 | zero =>
  simp only [wZ]
  split
  ·rename_i cs
   have:(Ev.raise1 0)=id:=by funext p;exact aJk p
   rw [this];simp
  ·rw [aJk]
 | succ d=>rfl
theorem aBC (d:Nat) (vs:List PV):rD d vs=vs.map (Ev.lower1 d):=by
 cases d with
 | zero =>
  have:(Ev.lower1 0)=id:=by funext p;exact aSY p
  rw [this];simp [rD]
 | succ d=>rfl
theorem bI (f:aW) (r:List aW) (id:Nat):bB (f::r) 0 id=look f id:=rfl
theorem eX (f:aW) (r:List aW) (d id:Nat):bB (f::r) (d+1) id=bB r d id:=rfl
theorem uB (d id:Nat):bB [] d id=none:=rfl
theorem aSZ (f:aW) (id i:Nat) (cs:List PV):look (yC f id cs) i=if i=id∧(look f id).isSome then some cs else look f i:=by
 induction f with
 | nil=>simp [yC,look]
 | cons x f ih =>
  obtain ⟨j,c⟩:=x
  simp only [yC]
  by_cases e:j=id
  ·subst e
   simp only [if_true,kM]
   by_cases e2:j=i
   ·subst e2;simp
   ·simp [e2,Ne.symm e2]
  ·simp only [if_neg e,kM,ih]
   by_cases e2:j=i
   ·subst e2;simp [e]
   ·simp [e2,e]
theorem aS0 (f:aW) (id:Nat) (cs:List PV):(yC f id cs).map (·.1)=f.map (·.1):=by
 induction f with
 | nil=>rfl
 | cons x f ih =>
  obtain ⟨j,c⟩:=x
  simp only [yC]
  split
  ·rename_i e;simp
  ·simp [ih]
theorem aBD:∀ (bx:List aW) (d id d' id':Nat) (cs cs0:List PV),bB bx d id=some cs0 →
  bB (cE bx d id cs) d' id'=if d'=d∧id'=id then some cs else bB bx d' id'
 | [],d,id,d',id',cs,cs0,h=>by simp [bB,nth] at h
 | f::r,0,id,d',id',cs,cs0,h=>by
  simp only [bI] at h
  cases d' with
  | zero=>simp only [cE,bI,aSZ,h];simp
  | succ d'=>simp [cE,eX]
 | f::r,d+1,id,d',id',cs,cs0,h=>by
  simp only [eX] at h
  cases d' with
  | zero=>simp [cE,bI]
  | succ d'=>simp only [cE,eX];rw [aBD r d id d' id' cs cs0 h];simp
theorem aFm:∀ (bx:List aW) (d id:Nat) (cs:List PV) (e:Nat),((cE bx d id cs)[e]?).map (fun f=>f.map (·.1))=(bx[e]?).map (fun f=>f.map (·.1))
 | [],_,_,_,_=>by simp [cE]
 | f::r,0,id,cs,e=>by cases e<;>simp [cE,aS0]
 | f::r,d+1,id,cs,e=>by
  cases e with
  | zero=>simp [cE]
  | succ e=>simpa [cE] using aFm r d id cs e
theorem aDB {bx:List aW} (hn:∀ (d:Nat) (f:aW),bx[d]?=some f→(f.map (·.1)).Nodup) (d id:Nat) (cs:List PV) :
  ∀ (e:Nat) (f:aW),(cE bx d id cs)[e]?=some f→(f.map (·.1)).Nodup:=by
 intro e f he
 have:=aFm bx d id cs e
 rw [he] at this
 cases hb:bx[e]? with
 | none=>rw [hb] at this;simp at this
 | some g=>rw [hb] at this;simp only [Option.map_some,Option.some.injEq] at this;rw [this];exact hn e g hb
theorem uC {g g':Nat→Nat→List PV→Nat}:∀ (bx:List aW) (d0:Nat),(∀ (d:Nat) (f:aW),bx[d]?=some f→eE (g (d0+d)) f=eE (g' (d0+d)) f)→jE g d0 bx=jE g' d0 bx
 | [],_,_=>rfl
 | f::r,d0,h=>by
  simp only [jE]
  rw [show eE (g d0) f=eE (g' d0) f from by simpa using h 0 f rfl]
  rw [uC (g:=g) (g':=g') r (d0+1) (fun d f' hf=>by have:=h (d+1) f' (by simpa using hf);rwa [show d0+(d+1)=d0+1+d by omega] at this)]
theorem aPP {g g':Nat→Nat→List PV→Nat} {id:Nat} {cs cs':List PV}:∀ (bx:List aW) (d0 d:Nat),
  (∀ (e:Nat) (f:aW),bx[e]?=some f→(f.map (·.1)).Nodup)→bB bx d id=some cs →
  (∀ e i c,bB bx e i=some c→¬ (e=d∧i=id)→g' (d0+e) i c=g (d0+e) i c) →
  jE g' d0 (cE bx d id cs')+g (d0+d) id cs=jE g d0 bx+g' (d0+d) id cs'
 | [],_,d,_,h,_=>by simp [bB,nth] at h
 | f::r,d0,0,hn,h,hg=>by
  have hnf:=hn 0 f rfl
  simp only [bI] at h
  simp only [cE,jE,Nat.add_zero]
  have k1:=aPO (g:=g d0) (g':=g' d0) (cs':=cs') f hnf h (fun i c hm hne=>hg 0 i c (jF hnf hm) (by omega))
  have k2:jE g' (d0+1) r=jE g (d0+1) r:=uC r (d0+1) fun d f' hf'=>fU f' fun i c hm=>by
   have:=hg (d+1) i c (by rw [eX];unfold bB;rw [mD,hf'];exact jF (hn (d+1) f' (by simpa using hf')) hm) (by omega)
   rwa [show d0+(d+1)=d0+1+d by omega] at this
  omega
 | f::r,d0,d+1,hn,h,hg=>by
  have hnf:=hn 0 f rfl
  simp only [eX] at h
  simp only [cE,jE]
  have k1:eE (g' d0) f=eE (g d0) f:=fU f fun i c hm=>hg 0 i c (jF hnf hm) (by omega)
  have k2:=aPP (g:=g) (g':=g') (cs':=cs') r (d0+1) d (fun e f' hf'=>hn (e+1) f' (by simpa using hf')) h (fun e i c hc hne=>by
   have:=hg (e+1) i c (by simpa [eX] using hc) (by omega)
   rwa [show d0+(e+1)=d0+1+e by omega] at this)
  rw [show d0+(d+1)=d0+1+d by omega]
  omega
theorem HOk.lt {M:Mem} {w:World} {base:Base} {B:BM} {b lo hi:Nat} (h:HOk M w base B b lo hi):b<w.heap.size:=by
 obtain ⟨_,_,⟨arr,T,fz,hr,_⟩,_⟩:=h
 exact (Array.getElem?_eq_some_iff.1 hr).1
theorem h1.world {M M':Mem} {w w':World} {base:Base} {B B':BM} {p:PV} {v:Value} (h:h1 M w base B p v) (hm:∀ b i v,M b i=some v→M' b i=some v)
  (hw:∀ b,own1 p v=some b→b<w.heap.size→w'.heap[b]?=w.heap[b]?∧(∀ i,M' b i=M b i)∧∀ d id,B' d id=some b→B d id=some b):h1 M' w' base B' p v:=by
 unfold h1 at h ⊢
 split
 ·rename_i e es bs a len cap
  obtain ⟨k1,k2,k3⟩:=hw a.block (by simp [own1]) h.lt
  obtain ⟨o,nb,⟨arr,T,fz,hr,hsz,hf⟩,fr⟩:=h
  exact ⟨o,fun d id hB=>nb d id (k3 d id hB),⟨arr,T,fz,by rw [k1];exact hr,hsz,hf⟩,fun i hi=>by rw [k2];exact fr i hi⟩
 ·rename_i sz a len cap
  obtain ⟨k1,k2,k3⟩:=hw a.block (by simp [own1]) h.lt
  obtain ⟨o,nb,⟨arr,T,fz,hr,hsz,hf⟩,fr⟩:=h
  exact ⟨o,fun d id hB=>nb d id (k3 d id hB),⟨arr,T,fz,by rw [k1];exact hr,hsz,hf⟩,fun i hi=>by rw [k2];exact fr i hi⟩
 ·rename_i sz e es a len cap
  obtain ⟨k1,k2,k3⟩:=hw a.block (by simp [own1]) h.1.lt
  obtain ⟨⟨o,nb,⟨arr,T,fz,hr,hsz,hf⟩,fr⟩,hcont⟩:=h
  refine ⟨⟨o,fun d id hB=>nb d id (k3 d id hB),⟨arr,T,fz,by rw [k1];exact hr,hsz,hf⟩,fun i hi=>by rw [k2];exact fr i hi⟩,fun j c hc => ?_⟩
  have:bS w' a.block j=bS w a.block j:=by simp [bS,World.cell?,k1]
  rw [this]
  exact (hcont j c hc).mono hm (fun _ _ _ hx=>hx)
 ·trivial
theorem h1.hok {M:Mem} {w:World} {base:Base} {B:BM} {p:PV} {v:Value} (h:h1 M w base B p v) {b:Nat} (ho:own1 p v=some b):∃ lo hi,HOk M w base B b lo hi:=by
 unfold own1 at ho
 split at ho
 ·simp at ho;subst ho
  exact ⟨_,_,(show HOk M w base B _ _ _ from h)⟩
 ·simp at ho;subst ho
  exact ⟨_,_,(show HOk M w base B _ _ _ from h)⟩
 ·simp at ho;subst ho
  exact ⟨_,_,h.1⟩
 ·simp at ho
theorem h1.nobox {M:Mem} {w:World} {base:Base} {B:BM} {p:PV} {v:Value} (h:h1 M w base B p v) {b:Nat} (ho:own1 p v=some b):(∀ d id,B d id≠some b)∧b<w.heap.size:=by
 obtain ⟨lo,hi,h'⟩:=h.hok ho
 exact ⟨h'.nobox,h'.lt⟩
theorem BRel.get {M:Mem} {w:World} {base:Base} {B:BM} {bx:List aW} (h:BRel M w base B bx) {d id:Nat} {cs:List PV} (hb:bB bx d id=some cs) {blk:Nat} (hB:B d id=some blk):BoxOk M w base B d blk cs:=by
 rcases (h.ok d id cs hb).2 with ⟨blk',hB',ok⟩ | hno
 ·rw [hB] at hB';cases hB';exact ok
 ·rw [hno.1] at hB;simp at hB
section
variable {base : Base} {M : Mem} {B : BM} {st : St} {tm : Array Value} {w : World}
def setB (B:BM) (id blk:Nat):BM:=fun d i=>if d=0∧i=id then some blk else B d i
theorem SR.newRow (h:SR base M B st tm w) {b0:aW} {r:List aW} (hbx:st.bx=b0::r) {id:Nat} (hid:look b0 id=none) {cs:List PV} {xs:Array Value} {T:TypeId} {fz:Nat×Nat} {w':World} {blk:Nat}
  (hblk:w.heap.size≤blk) (hold:∀ b,b<w.heap.size→w'.heap[b]?=w.heap[b]?) (hnew:w'.heap[blk]?=some (.cells xs T fz)) (hsz:w.heap.size≤w'.heap.size)
  (hl:(phys cs).length≤xs.size) (hfz:∀ i,i<(phys cs).length→¬ (fz.1≤i∧i<fz.2)) (hv:okV cs)
  (hr:∀ (j:Nat) (c:PV),(phys cs)[j]?=some c→Rv M B c (xs.getD j undef)∧h1 M w base B c (xs.getD j undef)∧fits 0 c=true)
  (ht:∀ b,tot st.fr tm w B st.bx b+bW (phys cs).length (fun j=>c1 ((phys cs).getD j .bot) (xs.getD j undef) b)≤1) :
  SR base M (setB B id blk) {st with bx:=((id,cs)::b0)::r} tm w' ∧
   ∀ b,tot st.fr tm w' (setB B id blk) (((id,cs)::b0)::r) b=tot st.fr tm w B st.bx b+bW (phys cs).length (fun j=>c1 ((phys cs).getD j .bot) (xs.getD j undef) b):=by
 have hMn:∀ i,M blk i=none:=by
  intro i
  cases hm:M blk i with
  | none=>rfl
  | some v=>obtain ⟨arr,T',fz',hx,_⟩:=h.cons _ _ _ hm;have:=(Array.getElem?_eq_some_iff.1 hx).1;omega
 have hBlt:∀ d i b,B d i=some b→b<w.heap.size:=by
  intro d i b hB
  cases hbo:bB st.bx d i with
  | none=>rw [h.box.dom d i hbo] at hB;simp at hB
  | some cs =>
   have ok:=h.box.get hbo hB
   obtain ⟨arr,T',fz',hx,_⟩:=ok.row
   exact (Array.getElem?_eq_some_iff.1 hx).1
 have hB0:B 0 id=none:=h.box.dom 0 id (by rw [hbx,bI];exact hid)
 have hmonoB:∀ d i b,B d i=some b→setB B id blk d i=some b:=by
  intro d i b hB
  unfold setB
  rw [if_neg (by rintro ⟨rfl,rfl⟩;rw [hB0] at hB;simp at hB)]
  exact hB
 have hback:∀ d i b,setB B id blk d i=some b→b<w.heap.size→B d i=some b:=by
  intro d i b hB hlt
  unfold setB at hB
  split at hB
  ·simp at hB;omega
  ·exact hB
 have hh:∀ p v,h1 M w base B p v→h1 M w' base (setB B id blk) p v:=fun p v hp=>hp.world (fun _ _ _ hx=>hx) fun b _ hlt=>⟨hold b hlt,fun _=>rfl,fun d i hB=>hback d i b hB hlt⟩
 have hcellv:∀ b j,b<w.heap.size→bS w' b j=bS w b j:=fun b j hb=>by simp [bS,World.cell?,hold b hb]
 have hcellnew:∀ j,bS w' blk j=xs.getD j undef:=fun j=>by simp [bS,World.cell?,hnew,Array.getD_eq_getD_getElem?]
 have hcc:∀ b (cs:List PV) j x,b<w.heap.size→dF w' b j cs x=dF w b j cs x:=by
  intro b cs j x hb
  induction cs generalizing j with
  | nil=>rfl
  | cons c cs ih=>simp [dF,hcellv b j hb,ih]
 have htot:∀ b,tot st.fr tm w' (setB B id blk) (((id,cs)::b0)::r) b=tot st.fr tm w B st.bx b+bW (phys cs).length (fun j=>c1 ((phys cs).getD j .bot) (xs.getD j undef) b):=by
  intro b
  simp only [tot,cBx,hbx,jE,eE,Nat.zero_add]
  have e1:cBox w' (setB B id blk 0 id) cs b=bW (phys cs).length (fun j=>c1 ((phys cs).getD j .bot) (xs.getD j undef) b):=by
   simp only [setB,and_self,if_true,cBox]
   rw [nJ]
   apply dE
   intro j _
   rw [Nat.zero_add,hcellnew]
  have e2:∀ d i cs,bB st.bx d i=some cs→cBox w' (setB B id blk d i) cs b=cBox w (B d i) cs b:=by
   intro d i cs hb'
   cases hB':B d i with
   | some blk' =>
    rw [hmonoB d i blk' hB']
    simp only [cBox]
    exact hcc blk' (phys cs) 0 b (hBlt d i blk' hB')
   | none =>
    have:setB B id blk d i=none:=by
     unfold setB
     rw [if_neg]
     ·exact hB'
     ·rintro ⟨rfl,rfl⟩
      rw [hbx,bI,hid] at hb';simp at hb'
    rw [this];rfl
  have e3:eE (fun i cs=>cBox w' (setB B id blk 0 i) cs b) b0=eE (fun i cs=>cBox w (B 0 i) cs b) b0:=by
   refine fU b0 fun i cs hm=>e2 0 i cs ?_
   rw [hbx,bI]
   exact jF (h.box.nodup 0 b0 (by rw [hbx];rfl)) hm
  have e4:jE (fun d i cs=>cBox w' (setB B id blk d i) cs b) 1 r=jE (fun d i cs=>cBox w (B d i) cs b) 1 r:=by
   refine uC r 1 fun d f hf=>fU f fun i cs hm=>e2 (1+d) i cs ?_
   rw [hbx,Nat.add_comm,eX]
   unfold bB
   rw [mD,hf]
   exact jF (h.box.nodup (d+1) f (by rw [hbx];simpa using hf)) hm
  rw [e1,e3,e4]
  omega
 refine ⟨⟨?_,fun i=>(h.slot i).mono (fun _ _ _ hx=>hx) hmonoB,fun i x hx=>hh _ _ (h.slotH i x hx),?_,fun b=>by show tot st.fr tm w' _ _ b≤1;rw [htot];exact ht b,h.glob,Nat.le_trans h.base hsz⟩,htot⟩
 ·intro b i v hm
  obtain ⟨arr,T',fz,hx,hv⟩:=h.cons b i v hm
  exact ⟨arr,T',fz,by rw [hold b (Array.getElem?_eq_some_iff.1 hx).1];exact hx,hv⟩
 ·refine ⟨?_,?_,?_,?_⟩
  ·intro d f hf
   cases d with
   | zero =>
    simp at hf;subst hf
    simp only [List.map_cons,List.nodup_cons]
    exact ⟨aBz.1 hid,h.box.nodup 0 b0 (by rw [hbx];rfl)⟩
   | succ d=>exact h.box.nodup (d+1) f (by rw [hbx];simpa using hf)
  ·intro d i hb'
   show setB B id blk d i=none
   cases d with
   | zero =>
    simp only [bI,kM] at hb'
    split at hb'
    ·simp at hb'
    ·rename_i e
     unfold setB
     rw [if_neg (by rintro ⟨_,e2⟩;exact e e2.symm)]
     exact h.box.dom 0 i (by rw [hbx,bI];exact hb')
   | succ d =>
    unfold setB
    rw [if_neg (by omega)]
    exact h.box.dom (d+1) i (by rw [hbx];exact hb')
  ·intro d i cs hb'
   by_cases e:d=0∧i=id
   ·obtain ⟨rfl,rfl⟩:=e
    simp only [bI,kM,if_true,Option.some.injEq] at hb'
    subst hb'
    refine ⟨hv,.inl ⟨blk,by simp [setB],Nat.le_trans h.base hblk,⟨xs,T,fz,hnew,hl,hfz⟩,hMn,?_⟩⟩
    intro j c hj
    obtain ⟨r1,r2,r3⟩:=hr j c hj
    rw [hcellnew]
    refine ⟨?_,hh _ _ r2,r3⟩
    rw [aNr]
    exact r1.mono (fun _ _ _ hx=>hx) hmonoB
   ·have hb2:bB st.bx d i=some cs:=by
     rw [hbx]
     cases d with
     | zero =>
      simp only [bI,kM] at hb' ⊢
      rw [if_neg (by intro e2;exact e ⟨rfl,e2.symm⟩)] at hb'
      exact hb'
     | succ d=>exact hb'
    obtain ⟨hv',hbk⟩:=h.box.ok d i cs hb2
    refine ⟨hv',?_⟩
    rcases hbk with ⟨blk',hB',ok⟩ | hno
    rotate_left
    ·refine .inr ⟨?_,hno.2⟩
     unfold setB;rw [if_neg e];exact hno.1
    have hlt:=hBlt d i blk' hB'
    refine .inl ⟨blk',hmonoB d i blk' hB',ok.old,?_,ok.free,?_⟩
    ·obtain ⟨arr,T',fz',hx,hs⟩:=ok.row
     exact ⟨arr,T',fz',by rw [hold blk' hlt];exact hx,hs⟩
    ·intro j c hj
     obtain ⟨r1,r2,r3⟩:=ok.rel j c hj
     rw [hcellv blk' j hlt]
     exact ⟨r1.mono (fun _ _ _ hx=>hx) (fun d' i' b' hx=>hmonoB _ _ _ hx),hh _ _ r2,r3⟩
  ·intro d i d' i' b hB1 hB2
   have sp:∀ d i b,setB B id blk d i=some b→(b=blk∧d=0∧i=id)∨(b<w.heap.size∧B d i=some b):=by
    intro d i b hB
    unfold setB at hB
    split at hB
    ·rename_i e;simp at hB;exact .inl ⟨hB.symm,e.1,e.2⟩
    ·exact .inr ⟨hBlt d i b hB,hB⟩
   rcases sp d i b hB1 with ⟨e1,e2,e3⟩ | ⟨e1,e2⟩<;>rcases sp d' i' b hB2 with ⟨f1,f2,f3⟩ | ⟨f1,f2⟩
   ·exact ⟨e2.trans f2.symm,e3.trans f3.symm⟩
   ·omega
   ·omega
   ·exact h.box.inj d i d' i' b e2 f2
theorem aBE {vs:List PV} (h:∀ c∈vs,fits 0 c=true):phys vs=vs∧aAh vs=false:=by
 unfold phys aAh
 split
 ·have:=h _ (List.mem_singleton.2 rfl);simp [fits,PV.solid1] at this
 ·exact ⟨rfl,rfl⟩
theorem aY8 {vs:List PV} (h:aAh vs=false):okV vs:=by
 unfold okV
 split
 ·simp [aAh] at h
 ·trivial
theorem SR.newBox (h:SR base M B st tm w) {b0:aW} {r:List aW} (hbx:st.bx=b0::r) {id:Nat} (hid:look b0 id=none) {vs:List PV} {xs:Array Value} {T:TypeId} {w':World}
  (hw:w'.heap=w.heap.push (.cells xs T (0,0))) (hl:xs.size=vs.length)
  (hr:∀ (j:Nat) (c:PV),vs[j]?=some c→Rv M B c (xs.getD j undef)∧h1 M w base B c (xs.getD j undef)∧fits 0 c=true)
  (ht:∀ b,tot st.fr tm w B st.bx b+bW vs.length (fun j=>c1 (vs.getD j .bot) (xs.getD j undef) b)≤1) :
  SR base M (setB B id w.heap.size) {st with bx:=((id,vs)::b0)::r} tm w' ∧
   ∀ b,tot st.fr tm w' (setB B id w.heap.size) (((id,vs)::b0)::r) b=tot st.fr tm w B st.bx b+bW vs.length (fun j=>c1 (vs.getD j .bot) (xs.getD j undef) b):=by
 obtain ⟨e1,e2⟩:=aBE (vs:=vs) fun c hc=>by
  obtain ⟨j,hj⟩:=List.mem_iff_getElem?.1 hc
  exact (hr j c hj).2.2
 have:=h.newRow hbx hid (cs:=vs) (xs:=xs) (T:=T) (fz:=(0,0)) (w':=w') (Nat.le_refl _) (fun b hb=>by rw [hw,Array.getElem?_push,if_neg (by omega)]) (by rw [hw];simp) (by rw [hw];simp)
  (by rw [e1];omega) (by simp) (aY8 e2) (by rw [e1];exact hr) (by rw [e1];exact ht)
 rw [e1] at this
 exact this
theorem SR.setRow (h:SR base M B st tm w) {d id blk:Nat} {cs cs':List PV} (hb:bB st.bx d id=some cs) (hB:B d id=some blk) {w':World}
  (hw:∀ b,b≠blk→w'.heap[b]?=w.heap[b]?) (hsz:w'.heap.size=w.heap.size) (hrow:∃ arr T fz,w'.heap[blk]?=some (.cells arr T fz)∧(phys cs').length≤arr.size∧∀ i,i<(phys cs').length→¬ (fz.1≤i∧i<fz.2))
  (hv:okV cs')
  (hr:∀ (j:Nat) (c:PV),(phys cs')[j]?=some c→Rv M (upB d B) c (bS w' blk j)∧h1 M w base B c (bS w' blk j)∧fits 0 c=true)
  (ht:∀ b,tot st.fr tm w B st.bx b+dF w' blk 0 (phys cs') b≤1+dF w blk 0 (phys cs) b) :
  SR base M B {st with bx:=cE st.bx d id cs'} tm w' ∧
   ∀ b,tot st.fr tm w' B (cE st.bx d id cs') b+dF w blk 0 (phys cs) b=tot st.fr tm w B st.bx b+dF w' blk 0 (phys cs') b:=by
 have ok:=h.box.get hb hB
 have hne:∀ p v b,h1 M w base B p v→own1 p v=some b→b≠blk:=by
  intro p v b hp ho e;subst e
  exact (hp.nobox ho).1 d id hB
 have hh:∀ p v,h1 M w base B p v→h1 M w' base B p v:=fun p v hp=>hp.world (fun _ _ _ hx=>hx) fun b ho _=>⟨hw b (hne p v b hp ho),fun _=>rfl,fun d i hx=>hx⟩
 have hcellv:∀ b j,b≠blk→bS w' b j=bS w b j:=fun b j hb=>by simp [bS,World.cell?,hw b hb]
 have hcc:∀ b (cs:List PV) j x,b≠blk→dF w' b j cs x=dF w b j cs x:=by
  intro b cs j x hb
  induction cs generalizing j with
  | nil=>rfl
  | cons c cs ih=>simp [dF,hcellv b j hb,ih]
 have htot:∀ b,tot st.fr tm w' B (cE st.bx d id cs') b+dF w blk 0 (phys cs) b=tot st.fr tm w B st.bx b+dF w' blk 0 (phys cs') b:=by
  intro b
  have:=aPP (g:=fun d i cs=>cBox w (B d i) cs b) (g':=fun d i cs=>cBox w' (B d i) cs b) (cs':=cs') st.bx 0 d h.box.nodup hb (by
   intro e i c hc hne'
   cases hB2:B e i with
   | none=>simp only [Nat.zero_add,hB2,cBox]
   | some blk2 =>
    simp only [Nat.zero_add,hB2,cBox]
    exact hcc blk2 (phys c) 0 b (by intro e2;subst e2;exact hne' (h.box.inj e i d id _ hB2 hB)))
  simp only [Nat.zero_add,hB,cBox] at this
  simp only [tot,cBx,cBox]
  omega
 refine ⟨⟨?_,h.slot,fun i x hx=>hh _ _ (h.slotH i x hx),?_,fun b=>by have:=htot b;have:=ht b;show tot st.fr tm w' B (cE st.bx d id cs') b≤1;omega,h.glob,by rw [hsz];exact h.base⟩,htot⟩
 ·intro b i v hm
  obtain ⟨arr,T,fz,hx,hv⟩:=h.cons b i v hm
  exact ⟨arr,T,fz,by rw [hw b (by intro e;subst e;rw [ok.free] at hm;simp at hm)];exact hx,hv⟩
 ·refine ⟨aDB h.box.nodup d id cs',?_,?_,h.box.inj⟩
  ·intro d' id' hn
   show B d' id'=none
   rw [aBD st.bx d id d' id' cs' cs hb] at hn
   split at hn
   ·simp at hn
   ·exact h.box.dom d' id' hn
  ·intro d' id' cs2 hn
   rw [aBD st.bx d id d' id' cs' cs hb] at hn
   split at hn
   ·rename_i e
    obtain ⟨rfl,rfl⟩:=e
    cases hn
    refine ⟨hv,.inl ⟨blk,hB,ok.old,hrow,ok.free,?_⟩⟩
    intro j c hj
    obtain ⟨r1,r2,r3⟩:=hr j c hj
    exact ⟨r1,hh _ _ r2,r3⟩
   ·rename_i e
    obtain ⟨hv2,hbk⟩:=h.box.ok d' id' cs2 hn
    refine ⟨hv2,?_⟩
    rcases hbk with ⟨blk2,hB2,ok2⟩ | hno
    rotate_left
    ·exact .inr hno
    have hne2:blk2≠blk:=by intro e2;subst e2;exact e (h.box.inj d' id' d id _ hB2 hB)
    obtain ⟨arr,T,fz,hx,hs⟩:=ok2.row
    refine .inl ⟨blk2,hB2,ok2.old,⟨arr,T,fz,by rw [hw blk2 hne2];exact hx,hs⟩,ok2.free,?_⟩
    intro j c hj
    obtain ⟨r1,r2,r3⟩:=ok2.rel j c hj
    rw [hcellv blk2 j hne2]
    exact ⟨r1,hh _ _ r2,r3⟩
theorem aAk {cs:List PV} (h:aAh cs=false):phys cs=cs:=by
 unfold aAh at h;unfold phys
 split at h
 ·simp at h
 ·rfl
theorem SR.setBox (h:SR base M B st tm w) {d id blk:Nat} {cs cs':List PV} (hb:bB st.bx d id=some cs) (hB:B d id=some blk) (hnv:aAh cs=false) (hlen:cs'.length=cs.length) {w':World}
  (hw:∀ b,b≠blk→w'.heap[b]?=w.heap[b]?) (hsz:w'.heap.size=w.heap.size) (hrow:∃ arr T fz,w'.heap[blk]?=some (.cells arr T fz)∧cs.length≤arr.size∧∀ i,i<cs.length→¬ (fz.1≤i∧i<fz.2))
  (hr:∀ (j:Nat) (c:PV),cs'[j]?=some c→Rv M (upB d B) c (bS w' blk j)∧h1 M w base B c (bS w' blk j)∧fits 0 c=true)
  (ht:∀ b,tot st.fr tm w B st.bx b+dF w' blk 0 cs' b≤1+dF w blk 0 cs b) :
  SR base M B {st with bx:=cE st.bx d id cs'} tm w' ∧
   ∀ b,tot st.fr tm w' B (cE st.bx d id cs') b+dF w blk 0 cs b=tot st.fr tm w B st.bx b+dF w' blk 0 cs' b:=by
 obtain ⟨e1,e2⟩:=aBE (vs:=cs') fun c hc=>by
  obtain ⟨j,hj⟩:=List.mem_iff_getElem?.1 hc
  exact (hr j c hj).2.2
 have e3:=aAk hnv
 have:=h.setRow hb hB (cs':=cs') (w':=w') hw hsz (by rw [e1];obtain ⟨arr,T,fz,q1,q2,q3⟩:=hrow;exact ⟨arr,T,fz,q1,by omega,by rw [hlen];exact q3⟩) (aY8 e2) (by rw [e1];exact hr) (by rw [e1,e3];exact ht)
 rw [e1,e3] at this
 exact this
end
theorem aB {α β:Type} {x:Option α} {k:α→Option β} {r:β} (h:bnd x k=some r):∃ a,x=some a∧k a=some r:=by
 cases x with
 | none=>simp [bnd] at h
 | some a=>exact ⟨a,rfl,h⟩
theorem bG {β:Type} {c:Bool} {x y:Option β} {r:β} (h:cnd c x y=some r):(c=true∧x=some r)∨(c=false∧y=some r):=by
 cases c
 ·exact .inr ⟨rfl,h⟩
 ·exact .inl ⟨rfl,h⟩
def Flat (p:PV):Prop:=(∃ b,p = .bool b)∨(∃ k n,p = .int k n)∨(∃ s,p = .str s)
theorem Flat.no {p:PV} (h:Flat p) (v:Value):fV p v:=by
 rcases h with ⟨b,rfl⟩ | ⟨k,n,rfl⟩ | ⟨s,rfl⟩<;>(intro x hx;simp [atoms,zipA] at hx;subst hx;cases v<;>rfl)
section
variable {P : Program} {M : Mem} {B : BM} (w : World)
theorem dZ {t:TypeId} {n:Nat} (h:szOf P t=some n):(sizeOf t).run P w = .ok n w:=by
 unfold szOf at h
 cases hi:P.info? t with
 | none=>simp [hi] at h
 | some i=>simp [hi] at h;subst h;simp [sizeOf,typeInfo,hi]
theorem yF {t:TypeId} {ag:Bool} (h:agOf P t=some ag):(isAgg t).run P w = .ok ag w:=by
 unfold agOf at h
 cases hd:P.underlying t with
 | none=>simp [hd] at h
 | some d=>cases d<;>simp_all [isAgg,underlying]
theorem tA {t:TypeId} {z:PV} (h:aHA P t=some z):∃ v,(zeroValue t).run P w = .ok v w∧z=ofValue v∧∃ i,P.info? t=some i∧i.zero=some v:=by
 unfold aHA at h
 cases hi:P.info? t with
 | none=>simp [hi] at h
 | some i =>
  simp only [hi,Option.map_eq_some_iff] at h
  obtain ⟨v,hv,rfl⟩:=h
  exact ⟨v,by simp [zeroValue,typeInfo,hi,hv],rfl,i,rfl,hv⟩
theorem aFn (s:List UInt8):(ByteArray.mk s.toArray).toList=s:=by rw [ByteArray.toList_eq]
theorem Rv.int_inv {k:IntKind} {n:Int} {v:Value} (h:Rv M B (.int k n) v):v = .int k n:=by cases h;rfl
theorem Rv.bool_inv {b:Bool} {v:Value} (h:Rv M B (.bool b) v):v = .bool b:=by cases h;rfl
theorem Rv.str_inv {s:List UInt8} {v:Value} (h:Rv M B (.str s) v):v = .string ⟨s.toArray⟩:=by cases h;rfl
theorem aXl {op:BinOp} {k:IntKind} {a b:Int} {r:PV} (t:TypeId) (h:oF op k a b=some r) (h1:op ≠ .shl) (h2:op ≠ .shr) :
  ∃ v,(binOp op t (.int k a) (.int k b)).run P w = .ok v w∧(∀ M B,Rv M B r v)∧Flat r:=by
 cases op<;>simp only [oF,Option.some.injEq] at h<;>(try contradiction)
 case quo =>
  split at h
  ·simp at h
  ·rename_i hb;cases h
   exact ⟨_,by first | (simp [binOp,Op.intDiv,hb];done) | (simp [binOp,Op.intDiv,hb];rfl),fun _ _ => .int _ _,.inr (.inl ⟨_,_,rfl⟩)⟩
 case rem =>
  split at h
  ·simp at h
  ·rename_i hb;cases h
   exact ⟨_,by first | (simp [binOp,Op.intDiv,hb];done) | (simp [binOp,Op.intDiv,hb];rfl),fun _ _ => .int _ _,.inr (.inl ⟨_,_,rfl⟩)⟩
 case add=>subst h;exact ⟨.int k (k.wrap (a+b)),by simp [binOp,Op.intArith],fun _ _ => .int _ _,.inr (.inl ⟨_,_,rfl⟩)⟩
 case sub=>subst h;exact ⟨.int k (k.wrap (a-b)),by simp [binOp,Op.intArith],fun _ _ => .int _ _,.inr (.inl ⟨_,_,rfl⟩)⟩
 case mul=>subst h;exact ⟨.int k (k.wrap (a*b)),by simp [binOp,Op.intArith],fun _ _ => .int _ _,.inr (.inl ⟨_,_,rfl⟩)⟩
 case and=>subst h;exact ⟨.int k (bits .and k a b),by simp [binOp,Op.intBits,bits],fun _ _ => .int _ _,.inr (.inl ⟨_,_,rfl⟩)⟩
 case or=>subst h;exact ⟨.int k (bits .or k a b),by simp [binOp,Op.intBits,bits],fun _ _ => .int _ _,.inr (.inl ⟨_,_,rfl⟩)⟩
 case xor=>subst h;exact ⟨.int k (bits .xor k a b),by simp [binOp,Op.intBits,bits],fun _ _ => .int _ _,.inr (.inl ⟨_,_,rfl⟩)⟩
 case andNot=>subst h;exact ⟨.int k (bits .andNot k a b),by simp [binOp,Op.intBits,bits],fun _ _ => .int _ _,.inr (.inl ⟨_,_,rfl⟩)⟩
 all_goals
  subst h
  exact ⟨.bool _,by simp [binOp,Op.intCmp],fun _ _ => .bool _,.inl ⟨_,rfl⟩⟩
theorem aXm {op:BinOp} {a b:List UInt8} {r:PV} (t:TypeId) (h:aY3 op a b=some r) :
  ∃ v,(binOp op t (.string ⟨a.toArray⟩) (.string ⟨b.toArray⟩)).run P w = .ok v w∧(∀ M B,Rv M B r v)∧Flat r:=by
 have e1:∀ op',(binOp op' t (.string ⟨a.toArray⟩) (.string ⟨b.toArray⟩))=Op.stringOp op' ⟨a.toArray⟩ ⟨b.toArray⟩:=by intro op';cases op'<;>rfl
 rw [e1]
 cases op<;>simp only [aY3,Option.some.injEq] at h<;>(try contradiction)
 case add =>
  split at h
  ·rename_i hl;cases h
   refine ⟨.string (⟨a.toArray⟩++⟨b.toArray⟩),?_,?_,.inr (.inr ⟨_,rfl⟩)⟩
   ·have hs:¬ (((ByteArray.mk a.toArray).size+(ByteArray.mk b.toArray).size:Nat):Int)>IntKind.i64.max:=by
     have:(ByteArray.mk a.toArray).size+(ByteArray.mk b.toArray).size=a.length+b.length:=by simp [ByteArray.size]
     rw [this]
     simp only [lim] at hl
     have:IntKind.i64.max=9223372036854775807:=by decide
     omega
    simp only [Op.stringOp,if_neg hs]
    simp
   ·intro M B
    have:(ByteArray.mk a.toArray++ByteArray.mk b.toArray)=⟨(a++b).toArray⟩:=by
     apply ByteArray.ext;simp
    rw [this];exact .str _
  ·simp at h
 all_goals
  subst h
  exact ⟨_,by first | (simp [Op.stringOp,aFn];done) | (simp [Op.stringOp,aFn];rfl),fun _ _ => .bool _,.inl ⟨_,rfl⟩⟩
theorem bDO {op:BinOp} {x y r:PV} {a b:Value} (t:TypeId) (h:bin op x y=some r) (hx:Rv M B x a) (hy:Rv M B y b) :
  ∃ v,(binOp op t a b).run P w = .ok v w∧(∀ M B,Rv M B r v)∧Flat r∧(∀ cs,a ≠ .agg cs)∧a ≠ .nilIface:=by
 unfold bin at h
 split at h
 ·rename_i k m k' n
  rw [hx.int_inv,hy.int_inv]
  split at h
  ·split at h
   ·simp at h
   ·rename_i hn;cases h
    exact ⟨_,by first | (simp [binOp,Op.shift,hn];done) | (simp [binOp,Op.shift,hn];rfl),fun _ _ => .int _ _,.inr (.inl ⟨_,_,rfl⟩),by simp,by simp⟩
  ·split at h
   ·simp at h
   ·rename_i hn;cases h
    exact ⟨_,by first | (simp [binOp,Op.shift,hn];done) | (simp [binOp,Op.shift,hn];rfl),fun _ _ => .int _ _,.inr (.inl ⟨_,_,rfl⟩),by simp,by simp⟩
  ·rename_i h1 h2
   split at h
   ·rename_i e;subst e
    obtain ⟨v,hv,hr,hf⟩:=aXl (P:=P) w t h (fun e=>h1 e) (fun e=>h2 e)
    exact ⟨v,hv,hr,hf,by simp,by simp⟩
   ·simp at h
 ·rw [hx.str_inv,hy.str_inv]
  obtain ⟨v,hv,hr,hf⟩:=aXm (P:=P) w t h
  exact ⟨v,hv,hr,hf,by simp,by simp⟩
 ·simp at h
theorem yG (op:BinOp) (t:TypeId) (x y:Operand) {a b:Value} (h1:∀ cs,a ≠ .agg cs) (h2:a ≠ .nilIface):(eqGuard op t x y a b).run P w = .ok () w:=by
 cases a<;>first
  | exact absurd rfl h2
  | exact absurd rfl (h1 _)
  | (cases op<;>rfl)
def aJl (t:TypeId) (ag:Bool) (n off:Nat) (xs:Array Value) (x:Value):Prop :=
 match ag with
 | true=>x = .agg (xs.extract off (off+n))∧off+n≤xs.size
 | false=>xs[off]?=some x
theorem aVL {t:TypeId} {n off:Nat} {ag:Bool} {xs:Array Value} (hn:szOf P t=some n) (ha:agOf P t=some ag) (h:off+n≤xs.size) (h0:0<n) :
  ∃ x,(Go.part t xs off).run P w = .ok x w∧aJl t ag n off xs x:=by
 unfold Go.part
 simp only [Sem.run_bind,yF w ha,Result.andThen_ok]
 cases ag with
 | true=>simp only [if_true,Sem.run_bind,dZ w hn,Result.andThen_ok,Sem.run_pure];exact ⟨_,rfl,rfl,h⟩
 | false =>
  have hlt:off<xs.size:=by omega
  simp only [Bool.false_eq_true,if_false,Array.getElem?_eq_getElem hlt,Sem.run_pure]
  exact ⟨_,rfl,by simp [aJl,hlt]⟩
theorem aY9 {l:List PV} {i:Nat} (h:gt l i ≠ .bot):l[i]?=some (gt l i):=by
 rw [aDp] at h ⊢
 cases hl:l[i]? with
 | none=>simp [hl] at h
 | some v=>rfl
theorem aJm {X Y:List PV} {r:Bool}:∀ (l m:List (Nat×Nat)),eqAt X Y (l++m)=some r→∃ a b,eqAt X Y l=some a∧eqAt X Y m=some b∧r=(a&&b)
 | [],m,h=>⟨true,r,rfl,h,by simp⟩
 | (i,k)::l,m,h=>by
  simp only [List.cons_append,eqAt] at h
  split at h
  ·rename_i a b h1 h2
   cases h
   obtain ⟨c,e,h3,h4,rfl⟩:=aJm l m h2
   exact ⟨a&&c,e,by simp [eqAt,h1,h3],h4,by simp [Bool.and_assoc]⟩
  ·simp at h
theorem aNt {X Y:List PV} {i k:Nat} {r:Bool} (h:eqAt X Y [(i,k)]=some r):aDy k (gt X i) (gt Y i)=some r:=by
 simp only [eqAt] at h
 split at h
 ·rename_i a b h1 h2;cases h2;simp at h;subst h;exact h1
 ·simp at h
theorem aJn {X Y : List PV} {xs ys : Array Value} (hX : ∀ (i : Nat) (c : PV), X[i]? = some c → ∃ v, xs[i]? = some v ∧ Rv M B c v) (hY : ∀ (i : Nat) (c : PV), Y[i]? = some c → ∃ v, ys[i]? = some v ∧ Rv M B c v) :
  ∀ (d D : Nat) (t : TypeId) (off n : Nat) (ag : Bool) (ls : List (Nat × Nat)) (r : Bool) (x y : Value), aDA P d t off = some ls → eqAt X Y ls = some r → szOf P t = some n → agOf P t = some ag →
   aJl t ag n off xs x → aJl t ag n off ys y → d ≤ D → (Op.equalIn D t x y).run P w = .ok r w
 | 0, D, t, off, n, ag, ls, r, x, y, h, _, _, _, _, _, _ => by simp [aDA] at h
 | d + 1, 0, t, off, n, ag, ls, r, x, y, h, _, _, _, _, _, hD => by omega
 | d + 1, D + 1, t, off, n, ag, ls, r, x, y, h, he, hn, ha, hx, hy, hD => by
  have leaf : ∀ k, aDy k (gt X off) (gt Y off) = some r → ag = false → ∃ p q, Rv M B (gt X off) p ∧ Rv M B (gt Y off) q ∧ x = p ∧ y = q := by
   intro k hk hag
   subst hag
   have n1 : gt X off ≠ .bot := by intro e; rw [e] at hk; unfold aDy at hk; split at hk <;> simp_all
   have n2 : gt Y off ≠ .bot := by intro e; rw [e] at hk; unfold aDy at hk; split at hk <;> simp_all
   obtain ⟨p, hp, rp⟩ := hX off _ (aY9 n1)
   obtain ⟨q, hq, rq⟩ := hY off _ (aY9 n2)
   simp only [aJl] at hx hy
   rw [hx] at hp; rw [hy] at hq
   cases hp; cases hq
   exact ⟨_, _, rp, rq, rfl, rfl⟩
  unfold aDA at h
  split at h
  ·rename_i hu
   cases h
   have hk := aNt he
   have hag : ag = false := by simp [agOf, hu] at ha; exact ha
   obtain ⟨p, q, rp, rq, rfl, rfl⟩ := leaf 0 hk hag
   unfold aDy at hk
   split at hk
   ·simp at *
   ·simp at *
   ·rename_i a b e1 e2 e3
    cases hk
    rw [e2] at rp; rw [e3] at rq
    rw [rp.bool_inv, rq.bool_inv]
    exact run_equalIn_bool' w D t a b hu
   ·simp at hk
  ·rename_i k0 hu
   cases h
   have hk := aNt he
   have hag : ag = false := by simp [agOf, hu] at ha; exact ha
   obtain ⟨p, q, rp, rq, rfl, rfl⟩ := leaf 1 hk hag
   unfold aDy at hk
   split at hk
   ·rename_i k a k' b e1 e2 e3
    split at hk
    ·rename_i ek; subst ek; cases hk
     rw [e2] at rp; rw [e3] at rq
     rw [rp.int_inv, rq.int_inv]
     exact run_equalIn_int w D t k k0 a b hu
    ·simp at hk
   ·simp at *
   ·simp at *
   ·simp at hk
  ·rename_i hu
   cases h
   have hk := aNt he
   have hag : ag = false := by simp [agOf, hu] at ha; exact ha
   obtain ⟨p, q, rp, rq, rfl, rfl⟩ := leaf 2 hk hag
   unfold aDy at hk
   split at hk
   ·simp at *
   ·rename_i a b e1 e2 e3
    cases hk
    rw [e2] at rp; rw [e3] at rq
    rw [rp.str_inv, rq.str_inv]
    have := run_equalIn_string (P := P) w D t ⟨a.toArray⟩ ⟨b.toArray⟩ hu
    rw [this, aFn, aFn]
   ·simp at *
   ·simp at hk
  ·rename_i fs hu
   split at h
   ·rename_i sz hst hsz
    rw [hn] at hsz; cases hsz
    have hag : ag = true := by simp [agOf, hu] at ha; exact ha
    subst hag
    simp only [aJl] at hx hy
    obtain ⟨rfl, hxs⟩ := hx
    obtain ⟨rfl, hys⟩ := hy
    have hfo : P.fieldsOf t = fs := by simp [Program.fieldsOf, hu]
    rw [run_equalIn_struct w D t _ _ (by rw [hfo]; exact hu) hst, hfo]
    clear hfo hu leaf
    generalize fs.toList = l at h
    induction l generalizing ls r with
    | nil =>
     simp only [List.foldr_nil] at h
     cases h
     simp only [eqAt] at he
     cases he
     simp [Op.eqFields]
    | cons f l ih =>
     simp only [List.foldr_cons] at h
     split at h
     ·rename_i n' l1 l2 hname hn' hl1 hl2
      split at h
      ·rename_i hlay
       cases h
       obtain ⟨a, b, ha1, hb1, rfl⟩ := aJm l1 l2 he
       have hne : f.name ≠ "_" := by simpa using hname
       obtain ⟨ag', hag'⟩ : ∃ ag', agOf P f.type = some ag' := by
        unfold agOf
        cases hd : P.underlying f.type with
        | none =>
         cases d with
         | zero => simp [aDA] at hl1
         | succ d => simp [aDA, hd] at hl1
        | some d' => cases d' <;> simp
       have hsx : (xs.extract off (off + n)).size = n := by simp; omega
       have hsy : (ys.extract off (off + n)).size = n := by simp; omega
       obtain ⟨px, hpx, qx⟩ := aVL (P := P) w (xs := xs.extract off (off + n)) (off := f.offset) hn' hag' (by omega) hlay.2
       obtain ⟨py, hpy, qy⟩ := aVL (P := P) w (xs := ys.extract off (off + n)) (off := f.offset) hn' hag' (by omega) hlay.2
       have tr : ∀ (zs : Array Value) (p : Value), off + n ≤ zs.size → aJl f.type ag' n' f.offset (zs.extract off (off + n)) p → aJl f.type ag' n' (off + f.offset) zs p := by
        intro zs p hz hp
        cases ag' with
        | true =>
         simp only [aJl] at hp ⊢
         obtain ⟨rfl, _⟩ := hp
         refine ⟨?_, by omega⟩
         rw [Array.extract_extract]
         congr 2
         omega
        | false =>
         simp only [aJl] at hp ⊢
         rw [Array.getElem?_extract] at hp
         split at hp
         ·exact hp
         ·simp at hp
       have hcell := aJn hX hY d D f.type (off + f.offset) n' ag' l1 a px py hl1 ha1 hn' hag' (tr xs px hxs qx) (tr ys py hys qy) (by omega)
       simp only [Op.eqFields, if_pos hne, Sem.run_bind, hpx, hpy, Result.andThen_ok, hcell]
       cases a with
       | true => simp only [Bool.not_true, Bool.false_eq_true, if_false, Bool.true_and]; exact ih l2 b hb1 hl2
       | false => simp
      ·simp at h
     ·simp at h
   ·simp at h
  ·simp at h
end
def Aft (base:Base) (M:Mem) (B:BM) (st:St) (tm:Array Value) (w:World) (e:Eff) (tm':Array Value) (w':World):Prop :=
 tm'.size=tm.size∧∃ M' B',SR base M' B' (e.app st) tm' w' ∧
 Evo w M (tot st.fr tm w B st.bx) B w' M' (tot (e.app st).fr tm' w' B' (e.app st).bx) B'
section
variable {P : Program} {base : Base} {M : Mem} {B : BM} {st : St} {tm : Array Value} {w : World} {next : Act → World → Prop} {Q : Exit → Act → World → Prop}
theorem aNu (a:Act) (dst:Option Nat) (v:Value):a.put dst v=⟨putT a.tmps dst v,a.defers⟩:=by cases dst<;>rfl
theorem upon_value {o:Oper} {a:Act} {v:Value} {w w':World} {e:Eff} (hrun:(execOp a.eval o).run P w = .ok (.value v) w')
  (hk:Aft base M B st a.tmps w e (putT a.tmps o.dst v) w') (hn:∀ tm' w',Aft base M B st a.tmps w e tm' w'→next ⟨tm',a.defers⟩ w') :
  o.upon P a next Q ((execOp a.eval o).run P w):=by
 rw [hrun,Oper.upon_value,aNu]
 exact hn _ _ hk
theorem aBf (st:St) (ws:List (Nat×PV)):({ws:=ws}:Eff).app st={st with fr:=ws++st.fr}:=by
 cases st with
 | mk fr bx=>cases bx<;>rfl
theorem lK (h:SR base M B st tm w) {dst:Option Nat} {p:PV} {v:Value} (hr:Rv M B p v) (hn:fV p v) :
  Aft base M B st tm w {ws:=dstW tm.size dst p} (putT tm dst v) w:=by
 obtain ⟨h1,h2⟩:=h.putN dst hr hn
 refine ⟨gR _ _ _,M,B,?_,?_⟩
 ·rw [aBf];exact h1
 ·rw [aBf]
  exact {Evo.refl w M (tot st.fr tm w B st.bx) B with tle:=fun b _=>h2 b}
theorem aNv (h:SR base M B st tm w) {dst:Option Nat} {lv:List (Nat×PV)} {p:PV} {v:Value} (h1:SR base M B {st with fr:=lv++st.fr} tm w)
  (hr:Rv M B p v) (hh:hV M w base B p v) (ht:∀ b,tot (lv++st.fr) tm w B st.bx b+cV p v b≤tot st.fr tm w B st.bx b) :
  Aft base M B st tm w {ws:=dstW tm.size dst p++lv} (putT tm dst v) w:=by
 obtain ⟨k1,k2⟩:=h1.put dst hr hh (fun b=>Nat.le_trans (ht b) (h.one b))
 refine ⟨gR _ _ _,M,B,?_,?_⟩
 ·rw [aBf,List.append_assoc];exact k1
 ·rw [aBf,List.append_assoc]
  exact {Evo.refl w M (tot st.fr tm w B st.bx) B with tle:=fun b _=>Nat.le_trans (k2 b) (ht b)}
theorem fV.of1 {p:PV} {v:Value} (hp:∀ cs,p ≠ .agg cs) (ht:∀ cs,p ≠ .tuple cs) (h:own1 p v=none):fV p v:=by
 intro x hx;rw [aJj hp ht] at hx;simp at hx;subst hx;exact h
theorem oJ (d id off:Nat) (v:Value):fV (.ptr d id off) v:=fV.of1 (by simp) (by simp) (by cases v<;>rfl)
theorem aJo (e:PV) (v:Value):fV (.ref e) v:=fV.of1 (by simp) (by simp) (by cases v<;>rfl)
theorem tP (f:Fn) (a b:List PV) (v:Value):fV (.func f a b) v:=fV.of1 (by simp) (by simp) (by cases v<;>rfl)
theorem mW (es bs:List PV) (v:Value):fV (.slice es bs false) v:=fV.of1 (by simp) (by simp) (sH es bs v)
theorem aDX (bs:List PV) (o:Bool) (v:Value):fV (.slice [] bs o) v:=fV.of1 (by simp) (by simp) (by cases v<;>rfl)
theorem Rv.int_of {x:PV} {a:Value} {k:IntKind} {n:Int} (h:Rv M B x a) (e:x = .int k n):a = .int k n:=by subst e;exact h.int_inv
theorem bE4 {op:UnOp} {x r:PV} {a:Value} (h:un op x=some r) (hx:Rv M B x a):∃ v,(Op.unary op a).run P w = .ok v w∧(∀ M B,Rv M B r v)∧Flat r:=by
 unfold un at h
 split at h
 ·cases h;rw [hx.bool_inv];exact ⟨_,rfl,fun _ _ => .bool _,.inl ⟨_,rfl⟩⟩
 ·cases h;rw [hx.int_inv];exact ⟨_,rfl,fun _ _ => .int _ _,.inr (.inl ⟨_,_,rfl⟩)⟩
 ·cases h;rw [hx.int_inv];exact ⟨.int _ _,by simp [Op.unary,Op.intBits,bits],fun _ _ => .int _ _,.inr (.inl ⟨_,_,rfl⟩)⟩
 ·simp at h
theorem aML {x y r:PV} {a b:Value} (hx:Rv M B x a) (hy:Rv M B y b) :
  (mn x y=some r→∃ v,(Builtin.min2 a b).run P w = .ok v w∧(∀ M B,Rv M B r v)∧Flat r)∧(mx x y=some r→∃ v,(Builtin.max2 a b).run P w = .ok v w∧(∀ M B,Rv M B r v)∧Flat r):=by
 constructor
 ·intro h;unfold mn at h
  split at h
  ·cases h;rw [hx.int_inv,hy.int_inv];exact ⟨_,rfl,fun _ _ => .int _ _,.inr (.inl ⟨_,_,rfl⟩)⟩
  ·simp at h
 ·intro h;unfold mx at h
  split at h
  ·cases h;rw [hx.int_inv,hy.int_inv];exact ⟨_,rfl,fun _ _ => .int _ _,.inr (.inl ⟨_,_,rfl⟩)⟩
  ·simp at h
theorem bBv {x r:PV} {a:Value} {t ty:TypeId} (h:len 0 x=some r) (hx:Rv M B x a) (ht:P.underlying t=some .string) :
  ∃ v,(Builtin.len_ #[t] ty #[a]).run P w = .ok v w∧(∀ M B,Rv M B r v)∧Flat r:=by
 obtain ⟨n,hn,h⟩:=aB h
 cases h
 unfold lenN at hn
 split at hn
 ·cases hn
  rw [hx.str_inv]
  rename_i s _
  refine ⟨.int .i64 s.length,?_,fun _ _ => .int _ _,.inr (.inl ⟨_,_,rfl⟩)⟩
  simp only [Builtin.len_,List.getElem?_toArray,List.getElem?_cons_zero,Sem.run_bind,run_underlying ht,Result.andThen_ok,Sem.run_pure,goInt]
  rfl
 ·simp at *
 ·simp at *
 ·simp at *
 ·simp at hn
theorem bBw {x r:PV} {a:Value} {t ty e:TypeId} (h:len 1 x=some r) (hx:Rv M B x a) (ht:P.underlying t=some (.slice e)) :
  ∃ v,(Builtin.len_ #[t] ty #[a]).run P w = .ok v w∧(∀ M B,Rv M B r v)∧Flat r:=by
 obtain ⟨n,hn,h⟩:=aB h
 cases h
 unfold lenN at hn
 split at hn
 ·simp at *
 ·cases hn
  cases hx with
  | nil o=>exact ⟨.int .i64 _,by simp [Builtin.len_,run_underlying ht,goInt],fun _ _ => .int _ _,.inr (.inl ⟨_,_,rfl⟩)⟩
  | slice es bs o a cap s f ha hc ho hel hm hr=>exact ⟨.int .i64 _,by simp [Builtin.len_,run_underlying ht,goInt],fun _ _ => .int _ _,.inr (.inl ⟨_,_,rfl⟩)⟩
 ·cases hn
  cases hx
  exact ⟨.int .i64 _,by simp [Builtin.len_,run_underlying ht,goInt],fun _ _ => .int _ _,.inr (.inl ⟨_,_,rfl⟩)⟩
 ·cases hn
  cases hx with
  | rsl _ _ _ _ b cap hb hc=>exact ⟨.int .i64 _,by simp [Builtin.len_,run_underlying ht,goInt],fun _ _ => .int _ _,.inr (.inl ⟨_,_,rfl⟩)⟩
  | rslNil _ _ _ oa=>exact ⟨.int .i64 _,by simp [Builtin.len_,run_underlying ht,goInt],fun _ _ => .int _ _,.inr (.inl ⟨_,_,rfl⟩)⟩
 ·simp at hn
theorem Addr.add_none (a:Addr) (n:Nat) (h:a.spot=none):a.add n=⟨a.block,a.off+n,none⟩:=by
 unfold Addr.add
 split
 ·rename_i e;subst e;cases a;simp_all
 ·rfl
theorem aAl {fs:Array Field} {i off n:Nat} {ag:Bool} (h:sY P fs i=some (off,n,ag)) :
  ∃ f,fs[i]?=some f∧f.offset=off∧szOf P f.type=some n∧agOf P f.type=some ag:=by
 unfold sY at h
 split at h
 ·rename_i f hf
  split at h
  ·rename_i n' a' hn ha
   cases h
   exact ⟨f,hf,rfl,hn,ha⟩
  ·simp at h
 ·simp at h
theorem aZa {s off n:Nat} {ag:Bool} {e p:PV} (he:okEl s e) (h:fld off n ag e=some p) (hn:0<n) :
  ∃ cs,e = .agg cs∧okEl (if ag then n else 1) p∧(∀ (j:Nat) (c:PV),p.cells[j]?=some c→cs[off+j]?=some c∧off+j<s)∧(ag=true→∃ ps,p = .agg ps)∧(ag=false→(∀ cs,p ≠ .agg cs)∧(∀ cs,p ≠ .tuple cs)):=by
 unfold fld at h
 split at h
 ·rename_i cs
  obtain ⟨h1,h2,h3,h4⟩:=he
  simp only [PV.cells] at h3
  simp only [PV.solid,List.all_eq_true] at h1
  simp only [PV.plain,PV.plainA,PV.agg.injEq] at h2
  have hpl:∀ (j:Nat) (c:PV),cs[j]?=some c→c.plain1=c:=by
   intro j c hc
   have:(cs.map PV.plain1)[j]?=some c:=by rw [h2];exact hc
   simp only [List.getElem?_map,hc,Option.map_some,Option.some.injEq] at this
   exact this
  refine ⟨cs,rfl,?_⟩
  unfold part at h
  cases ag with
  | true =>
   simp only at h
   split at h
   ·rename_i hle
    cases h
    have hg:∀ (j:Nat) (c:PV),((cs.drop off).take n)[j]?=some c→cs[off+j]?=some c:=by
     intro j c hc
     rw [List.getElem?_take] at hc
     split at hc
     ·rwa [List.getElem?_drop] at hc
     ·simp at hc
    refine ⟨⟨?_,?_,?_,by simpa using hn⟩,?_,fun _=>⟨_,rfl⟩,by simp⟩
    ·simp only [PV.solid,List.all_eq_true]
     intro c hc
     exact h1 c (List.mem_of_mem_drop (List.mem_of_mem_take hc))
    ·simp only [PV.plain,PV.plainA,PV.agg.injEq]
     apply List.ext_getElem?
     intro j
     rw [List.getElem?_map]
     cases hc:((cs.drop off).take n)[j]? with
     | none=>rfl
     | some c=>simp only [Option.map_some,hpl (off+j) c (hg j c hc)]
    ·simp [PV.cells];omega
    ·intro j c hc
     refine ⟨hg j c hc,?_⟩
     have:=(List.getElem?_eq_some_iff.1 (hg j c hc)).1
     omega
   ·simp at h
  | false =>
   simp only [mD] at h
   have hs:=h1 p (List.mem_of_getElem? h)
   have hp:=hpl off p h
   have hlt:=(List.getElem?_eq_some_iff.1 h).1
   have na:∀ cs,p ≠ .agg cs:=by intro cs e;subst e;simp [PV.solid1] at hs
   have nt:∀ cs,p ≠ .tuple cs:=by intro cs e;subst e;simp [PV.solid1] at hs
   have hcell:=aJi na
   refine ⟨⟨?_,?_,by simp [hcell],by simp⟩,?_,by simp,fun _=>⟨na,nt⟩⟩
   ·cases p<;>first | exact hs | exact absurd rfl (na _)
   ·cases p<;>first | exact hp | exact absurd rfl (na _) | exact absurd rfl (nt _)
   ·intro j c hc
    rw [hcell] at hc
    cases j with
    | zero=>simp at hc;subst hc;exact ⟨h,by omega⟩
    | succ j=>simp at hc
 ·simp at h
theorem aS1 {x r:PV} {a:Value} {s f off n:Nat} {ag:Bool} {fs:Array Field} (hu:P.underlying s=some (.struct fs)) (hf:sY P fs f=some (off,n,ag)) (hn:0<n)
  (h:fad off n ag x=some r) (hx:Rv M B x a):∃ v,(Instr.fieldAt s a f).run P w = .ok v w∧Rv M B r v∧((∃ d i o,r = .ptr d i o)∨∃ e,r = .ref e):=by
 obtain ⟨fd,hfd,rfl,hsz,hag⟩:=aAl hf
 have key:∀ ad:Addr,ad.spot=none→(Instr.fieldAt s (.pointer (some ad)) f).run P w = .ok (.pointer (some ⟨ad.block,ad.off+fd.offset,none⟩)) w:=by
  intro ad hsp
  simp only [Instr.fieldAt,Sem.run_bind,run_underlying hu,Result.andThen_ok,hfd,Instr.sureAddr,Sem.run_pure,fieldPlace,dZ w hsz]
  rw [if_neg (by omega)]
  simp [Addr.add_none ad _ hsp]
 unfold fad at h
 split at h
 ·rename_i d id o
  cases h
  cases hx with
  | ptr d id o b hb=>exact ⟨_,key ⟨b,o,none⟩ rfl,.ptr d id (o+fd.offset) b hb,.inl ⟨_,_,_,rfl⟩⟩
 ·rename_i v
  obtain ⟨p,hp,h⟩:=aB h
  cases h
  cases hx with
  | ref e ad sz g ha hel hm hr =>
   obtain ⟨cs,rfl,hok,hcells,h1,h2⟩:=aZa hel hp hn
   refine ⟨_,key ad ha,?_,.inr ⟨_,rfl⟩⟩
   refine .ref p ⟨ad.block,ad.off+fd.offset,none⟩ _ (fun j=>g (fd.offset+j)) rfl hok ?_ ?_
   ·intro j hj
    have hl:j<p.cells.length:=by rw [hok.2.2.1];exact hj
    have:=(hcells j _ (List.getElem?_eq_getElem hl)).2
    have:=hm (fd.offset+j) this
    rw [show ad.off+fd.offset+j=ad.off+(fd.offset+j) by omega];exact this
   ·intro j c hc
    exact hr (fd.offset+j) c (hcells j c hc).1
 ·simp at h
theorem aPQ {r:PV} {xs:Array Value} {cs:List PV} {t off n:Nat} {ag:Bool} (hsz:szOf P t=some n) (hag:agOf P t=some ag) (h:part off n ag cs=some r) (hx:Rv M B (.agg cs) (.agg xs)) :
  ∃ v,(Go.part t xs off).run P w = .ok v w∧Rv M B r v:=by
 cases hx with
 | agg _ _ f hl hf hr =>
  unfold part at h
  cases ag with
  | true =>
   simp only at h
   split at h
   ·rename_i hle
    cases h
    refine ⟨.agg (xs.extract off (off+n)),by simp [Go.part,yF w hag,dZ w hsz],?_⟩
    refine .agg _ _ (fun i=>f (off+i)) (by simp;omega) ?_ ?_
    ·intro i hi
     simp at hi
     rw [Array.getElem?_extract,if_pos (by omega)]
     exact hf (off+i) (by omega)
    ·intro i c hc
     rw [List.getElem?_take] at hc
     split at hc
     ·rw [List.getElem?_drop] at hc;exact hr _ _ hc
     ·simp at hc
   ·simp at h
  | false =>
   simp only [mD] at h
   have hlt:=(List.getElem?_eq_some_iff.1 h).1
   exact ⟨f off,by simp [Go.part,yF w hag,hf off hlt],hr off r h⟩
theorem aZb {x r:PV} {a:Value} {s f off n:Nat} {ag:Bool} {fs:Array Field} (hu:P.underlying s=some (.struct fs)) (hf:sY P fs f=some (off,n,ag))
  (h:fld off n ag x=some r) (hx:Rv M B x a):∃ v,(Instr.field s a f).run P w = .ok v w∧Rv M B r v:=by
 obtain ⟨fd,hfd,rfl,hsz,hag⟩:=aAl hf
 unfold fld at h
 split at h
 ·rename_i cs
  have hx':=hx
  cases hx with
  | agg _ xs g hl hg hr =>
   obtain ⟨v,hv,rv⟩:=aPQ (P:=P) (w:=w) hsz hag h hx'
   exact ⟨v,by simp [Instr.field,run_underlying hu,hfd,asAgg,hv],rv⟩
 ·simp at h
theorem aS2 {x i r:PV} {a b:Value} {t e n:Nat} (hu:P.underlying t=some (.slice e)) (hsz:szOf P e=some n) (h:ix n x i=some r) (hx:Rv M B x a) (hi:Rv M B i b) :
  ∃ v,(Instr.indexAt t a b).run P w = .ok v w∧Rv M B r v∧((∃ e,r = .ref e)∨∃ d i o,r = .ptr d i o):=by
 unfold ix at h
 split at h
 ·rename_i es bs o k m
  split at h
  ·simp at h
  ·rename_i hneg
   obtain ⟨el,hel,h⟩:=aB h
   split at h
   ·rename_i hlen
    cases h
    rw [mD] at hel
    have hlt:=(List.getElem?_eq_some_iff.1 hel).1
    rw [hi.int_inv]
    cases hx with
    | nil o=>simp at hel
    | slice es bs o ad cap s f ha hc ho hok hm hr =>
     have ha:=ha (by omega)
     have hin:(es++bs)[m.toNat]?=some el:=by rw [List.getElem?_append_left hlt];exact hel
     have hs:=hok _ _ hin
     have hsn:s=n:=by rw [← hs.2.2.1];exact hlen.1
     subst hsn
     refine ⟨.pointer (some ⟨ad.block,ad.off+m.toNat*s,none⟩),?_,?_,.inl ⟨_,rfl⟩⟩
     ·have c1:0≤m:=by omega
      have c2:m<(es.length:Int):=by omega
      simp [Instr.indexAt,run_underlying hu,asIntOf,c1,c2,dZ w hsz,Addr.add_none ad _ ha]
     ·exact .ref el _ s (fun j=>f m.toNat j) rfl hs (fun j hj=>hm _ _ j hin hj) (fun j c hc=>hr _ _ j c hin hc)
   ·simp at h
 ·rename_i d id nn sz k m
  split at h
  ·rename_i hm
   cases h
   rw [hi.int_inv]
   cases hx with
   | rsl _ _ _ _ bk cap hb hc =>
    refine ⟨.pointer (some ⟨bk,0+m.toNat*n,none⟩),?_,?_,.inr ⟨_,_,_,rfl⟩⟩
    ·have c1:0≤m:=hm.1
     have c2:m<(nn:Int):=by omega
     simp [Instr.indexAt,run_underlying hu,asIntOf,c1,c2,dZ w hsz,Addr.add_none ⟨bk,0,none⟩ _ rfl]
    ·rw [Nat.zero_add];exact .ptr d id _ bk hb
   | rslNil=>omega
  ·simp at h
 ·simp at h
theorem aPR {x i r:PV} {a b:Value} {t e len n:Nat} (hu:P.underlying t=some (.array len e)) (hsz:szOf P e=some n) (h:bDJ len n x i=some r) (hx:Rv M B x a) (hi:Rv M B i b) :
  ∃ v,(Instr.indexAt t a b).run P w = .ok v w∧Rv M B r v∧∃ d i o,r = .ptr d i o:=by
 unfold bDJ at h
 split at h
 ·rename_i d id o k m
  split at h
  ·rename_i hm
   cases h
   rw [hi.int_inv]
   cases hx with
   | ptr d id o bk hb =>
    refine ⟨.pointer (some ⟨bk,o+m.toNat*n,none⟩),?_,.ptr d id _ bk hb,⟨_,_,_,rfl⟩⟩
    simp [Instr.indexAt,run_underlying hu,asIntOf,Instr.sureAddr,hm.1,hm.2,dZ w hsz,Addr.add_none (⟨bk,o,none⟩:Addr) _ rfl]
  ·simp at h
 ·simp at h
theorem aPS {x i r:PV} {a b:Value} {t:Nat} (hu:P.underlying t=some .string) (h:xA x i=some r) (hx:Rv M B x a) (hi:Rv M B i b) :
  ∃ v,(Instr.index t a b).run P w = .ok v w∧(∀ M B,Rv M B r v)∧Flat r:=by
 unfold xA at h
 split at h
 ·rename_i s k m
  split at h
  ·simp at h
  ·rename_i hneg
   obtain ⟨c,hc,h⟩:=aB h
   cases h
   rw [mD] at hc
   have hlt:=(List.getElem?_eq_some_iff.1 hc).1
   have he:=(List.getElem?_eq_some_iff.1 hc).2
   rw [hi.int_inv,hx.str_inv]
   refine ⟨.int .u8 c.toNat,?_,fun _ _ => .int _ _,.inr (.inl ⟨_,_,rfl⟩)⟩
   have c1:0≤m:=by omega
   have hb:(ByteArray.mk s.toArray)[m.toNat]?=some c:=by
    have:m.toNat<(ByteArray.mk s.toArray).size:=by simpa [ByteArray.size] using hlt
    rw [getElem?_pos (ByteArray.mk s.toArray) m.toNat this]
    show some (s.toArray[m.toNat]'_)=some c
    simp [he]
   simp [Instr.index,asIntOf,run_underlying hu,c1,hb]
 ·simp at h
theorem aPT {x i r:PV} {a b:Value} {t e len n:Nat} {ag:Bool} (hu:P.underlying t=some (.array len e)) (hsz:szOf P e=some n) (hag:agOf P e=some ag) (h:bDK len n ag x i=some r) (hx:Rv M B x a) (hi:Rv M B i b) :
  ∃ v,(Instr.index t a b).run P w = .ok v w∧Rv M B r v:=by
 unfold bDK at h
 split at h
 ·rename_i cs k m
  split at h
  ·rename_i hm
   rw [hi.int_inv]
   have hx':=hx
   cases hx with
   | agg _ xs g hl hg hr =>
    obtain ⟨v,hv,rv⟩:=aPQ (P:=P) (w:=w) hsz hag h hx'
    exact ⟨v,by simp [Instr.index,asIntOf,run_underlying hu,hm.1,hm.2,dZ w hsz,hv],rv⟩
  ·simp at h
 ·simp at h
end
end Go.Ev

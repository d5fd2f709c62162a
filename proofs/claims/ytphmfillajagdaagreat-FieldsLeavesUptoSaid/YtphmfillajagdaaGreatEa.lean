import Derived.Calls
import Derived.Scope
import Derived.LoopN
import Derived.Laws.CopyRow
import Derived.Laws.Append
import Derived.Laws.Slices
import Derived.Laws.IdiomStrings
import Derived.Laws.BytesString
import Derived.Laws.StructEq
import Derived.Laws.Tables
set_option linter.unusedVariables false
set_option linter.unusedSimpArgs false
namespace Go.Ev
inductive PV where
 | bot
 | und
 | bool (b:Bool)
 | int (k:IntKind) (n:Int)
 | str (s:List UInt8)
 | agg (cs:List PV)
 | tuple (vs:List PV)
 | slice (es bs:List PV) (own:Bool)
 | mk0 (sz:Nat)
 | ref (v:PV)
 | ptr (d id off:Nat)
 | nilptr
 | rsl (d id n sz:Nat)
 | vec (sz:Nat) (E:List PV)
 | func (fn:Fn) (first caps:List PV)
 | nilFunc
 deriving Inhabited
namespace PV
def cells:PV→List PV
 | agg cs=>cs
 | v=>[v]
def plain1:PV→PV
 | slice es _ _=>slice es [] false
 | mk0 _=>slice [] [] false
 | vec _ _=>bot
 | v=>v
def plainA:PV→PV
 | agg cs=>agg (cs.map plain1)
 | v=>plain1 v
def plain:PV→PV
 | tuple vs=>tuple (vs.map plainA)
 | v=>plainA v
def solid1:PV→Bool
 | bool _ | int _ _ | str _ | slice _ _ _ | mk0 _=>true
 | _=>false
def solid:PV→Bool
 | agg cs=>cs.all solid1
 | v=>solid1 v
def free:PV→Bool
 | func _ first caps=>first.all solid&&caps.all solid
 | nilFunc=>true
 | vec _ _=>true
 | v=>solid v
end PV
open PV
def ofAtom:Value→PV
 | .bool b => .bool b
 | .int k n => .int k n
 | .string s => .str s.data.toList
 | .slice none 0 0 => .slice [] [] true
 | .pointer none => .nilptr
 | .nilFunc => .nilFunc
 | _ => .bot
def ofValue:Value→PV
 | .agg cs => .agg (cs.toList.map ofAtom)
 | v=>ofAtom v
def lim:Nat:=274877906944
abbrev fM:=List (Nat×List PV)
structure St where
 fr:List (Nat×PV)
 bx:List fM
abbrev UP:=List fM
def look {α:Type}:List (Nat×α)→Nat→Option α
 | [],_=>none
 | (i,v)::l,j=>if i=j then some v else look l j
def gets (fr:List (Nat×PV)) (i:Nat):PV :=
 match look fr i with
 | some v=>v
 | none => .bot
def nth {α:Type}:List α→Nat→Option α
 | [],_=>none
 | a::_,0=>some a
 | _::l,n+1=>nth l n
def gt (l:List PV) (i:Nat):PV :=
 match nth l i with
 | some v=>v
 | none => .bot
def putNth {α:Type}:List α→Nat→α→List α
 | [],_,_=>[]
 | _::l,0,v=>v::l
 | a::l,n+1,v=>a::putNth l n v
def putAt {α} (l:List α) (i:Nat):List α→List α
 | []=>l
 | v::vs=>putAt (putNth l i v) (i+1) vs
def tP:fM→Nat→List PV→fM
 | [],_,_=>[]
 | (i,c)::l,j,c'=>if i=j then (i,c')::l else (i,c)::tP l j c'
def bnd {α β:Type} (x:Option α) (k:α→Option β):Option β :=
 match x with
 | some a=>k a
 | none=>none
def cnd {β:Type} (c:Bool) (x y:Option β):Option β :=
 match c with
 | true=>x
 | false=>y
def bits (op:BinOp) (k:IntKind) (x y:Int):Int :=
 let a:=BitVec.ofInt k.bits x
 let b:=BitVec.ofInt k.bits y
 match op with
 | .and=>k.wrap (a &&& b).toNat
 | .or=>k.wrap (a ||| b).toNat
 | .xor=>k.wrap (a ^^^ b).toNat
 | _=>k.wrap (a &&& ~~~b).toNat
def mA (op:BinOp) (k:IntKind) (a b:Int):Option PV :=
 match op with
 | .add=>some (.int k (k.wrap (a+b)))
 | .sub=>some (.int k (k.wrap (a-b)))
 | .mul=>some (.int k (k.wrap (a*b)))
 | .quo=>if b=0 then none else some (.int k (k.wrap (a.tdiv b)))
 | .rem=>if b=0 then none else some (.int k (a.tmod b))
 | .and=>some (.int k (bits .and k a b))
 | .or=>some (.int k (bits .or k a b))
 | .xor=>some (.int k (bits .xor k a b))
 | .andNot=>some (.int k (bits .andNot k a b))
 | .eql=>some (.bool (a==b))
 | .neq=>some (.bool (a != b))
 | .lss=>some (.bool (a<b))
 | .leq=>some (.bool (a≤b))
 | .gtr=>some (.bool (a>b))
 | .geq=>some (.bool (a≥b))
 | _=>none
def aUV (op:BinOp) (a b:List UInt8):Option PV :=
 match op with
 | .add=>if a.length+b.length≤lim then some (.str (a++b)) else none
 | .eql=>some (.bool (a==b))
 | .neq=>some (.bool (!(a==b)))
 | .lss=>some (.bool (Op.bytesLess a b))
 | .leq=>some (.bool (Op.bytesLess a b||a==b))
 | .gtr=>some (.bool (!(Op.bytesLess a b||a==b)))
 | .geq=>some (.bool (!Op.bytesLess a b))
 | _=>none
def bin (op:BinOp) (x y:PV):Option PV :=
 match x,y with
 | .int k a,.int k' b =>
  match op with
  | .shl=>if b<0 then none else some (.int k (k.wrap (a*2 ^ min b.toNat k.bits)))
  | .shr=>if b<0 then none else some (.int k (a.fdiv (2 ^ min b.toNat k.bits)))
  | op=>if k=k' then mA op k a b else none
 | .str a,.str b=>aUV op a b
 | _,_=>none
def aA8 (k:Nat) (x y:PV):Option Bool :=
 match k,x,y with
 | 1,.int k a,.int k' b=>if k=k' then some (a==b) else none
 | 2,.str a,.str b=>some (a==b)
 | 0,.bool a,.bool b=>some (a==b)
 | _,_,_=>none
def eqAt (xs ys:List PV):List (Nat×Nat)→Option Bool
 | []=>some true
 | (i,k)::l =>
  match aA8 k (gt xs i) (gt ys i),eqAt xs ys l with
  | some b,some c=>some (b&&c)
  | _,_=>none
def eqs (n:Nat) (ls:List (Nat×Nat)) (x y:PV):Option Bool :=
 match x,y with
 | .agg xs,.agg ys=>if xs.length=n∧ys.length=n then eqAt xs ys ls else none
 | _,_=>none
def eqB (x y:PV):Option Bool :=
 match x,y with
 | .bool a,.bool b=>some (a==b)
 | _,_=>none
def un (op:UnOp) (x:PV):Option PV :=
 match op,x with
 | .not,.bool b=>some (.bool (!b))
 | .neg,.int k n=>some (.int k (k.wrap (0-n)))
 | .xor,.int k n=>some (.int k (bits .xor k (if k.signed then -1 else k.max) n))
 | _,_=>none
def part (off size:Nat) (ag:Bool) (cs:List PV):Option PV :=
 match ag with
 | true=>if off+size≤cs.length then some (.agg ((cs.drop off).take size)) else none
 | false=>nth cs off
def fld (off size:Nat) (ag:Bool) (x:PV):Option PV :=
 match x with
 | .agg cs=>part off size ag cs
 | _=>none
def fad (off size:Nat) (ag:Bool) (x:PV):Option PV :=
 match x with
 | .ptr d id o=>some (.ptr d id (o+off))
 | .ref v=>bnd (fld off size ag v) fun p=>some (.ref p)
 | _=>none
def mB (size:Nat) (ag:Bool) (x:PV):Option (List PV) :=
 match ag,x with
 | true,.agg cs=>if cs.length=size then some ((List.range size).map (gt cs)) else none
 | true,_=>none
 | false,.agg _=>none
 | false,.tuple _=>none
 | false,.bot=>none
 | false,.und=>none
 | false,v=>match size with
  | 1=>some [v]
  | _=>none
def aOt (size:Nat) (ag:Bool) (x:PV):Option PV :=
 match ag,x with
 | true,.agg cs=>if cs.length=size then some x else none
 | true,_=>none
 | false,.agg _=>none
 | false,.tuple _=>none
 | false,v=>some v
def bB (bx:List fM) (d id:Nat):Option (List PV) :=
 match nth bx d with
 | some b=>look b id
 | none=>none
def bW (bx:List fM) (d id:Nat) (cs:List PV):List fM :=
 match bx,d with
 | [],_=>[]
 | b::r,0=>tP b id cs::r
 | b::r,d+1=>b::bW r d id cs
def raise1 (d:Nat):PV→PV
 | .ptr e id o => .ptr (e+d) id o
 | .rsl e id n s => .rsl (e+d) id n s
 | v=>v
def sY (d:Nat) (v:PV):PV :=
 match d with
 | 0=>v
 | d+1=>match v with
  | .agg cs => .agg (cs.map (raise1 (d+1)))
  | v=>raise1 (d+1) v
def lower1 (d:Nat):PV→PV
 | .ptr e id o => .ptr (e-d) id o
 | .rsl e id n s => .rsl (e-d) id n s
 | v=>v
def oG (d:Nat) (vs:List PV):List PV :=
 match d with
 | 0=>vs
 | d+1=>vs.map (lower1 (d+1))
def bV (ag:Bool) (v:PV):List PV :=
 match ag with
 | true=>match v with
  | .agg cs=>cs.map plain1
  | _=>[]
 | false=>[plain1 v]
def phys:List PV→List PV
 | [.vec _ E]=>E.flatMap cells
 | cs=>cs
def uV:List PV→Bool
 | [.vec _ _]=>true
 | _=>false
def bBi (sz:Nat) (E:List PV) (off n:Nat) (ag:Bool):Option PV :=
 bnd (nth E (off / sz)) fun e=>bnd (part (off % sz) n ag e.cells) fun v=>some v.plain
def reb (e:PV) (cs:List PV):PV :=
 match e with
 | .agg _ => .agg cs
 | e=>match cs with
  | [c]=>c
  | _=>e
def vput (sz:Nat) (E:List PV) (off:Nat) (vs:List PV):Option (List PV) :=
 bnd (nth E (off / sz)) fun e=>if off % sz+vs.length≤sz∧vs.all solid1=true then some (putNth E (off / sz) (reb e (putAt e.cells (off % sz) (vs.map plain1)))) else none
def okVc:PV→Bool
 | .bool _ | .int _ _ | .str _=>true
 | .slice _ [] false=>true
 | _=>false
def okVe (sz:Nat) (e:PV):Bool:=e.cells.length==sz&&e.cells.all okVc
def aHZ:PV→Bool
 | .bool _ | .int _ _ | .str _=>true
 | _=>false
def scal:PV→Bool
 | .tuple vs=>vs.all aHZ
 | v=>aHZ v
def fits (d:Nat):PV→Bool
 | .ptr e _ _=>d≤e
 | .rsl e _ _ _=>d≤e
 | .func _ first caps=>first.all solid&&caps.all solid
 | .ref _=>true
 | .nilptr=>true
 | .nilFunc=>true
 | v=>solid1 v
def ix (size:Nat) (x i:PV):Option PV :=
 match x,i with
 | .slice es _ _,.int _ n=>if n<0 then none else
  bnd (nth es n.toNat) fun e=>if e.cells.length=size∧0<size then some (.ref e) else none
 | .rsl d id n sz,.int _ k=>if 0≤k∧k.toNat<n∧sz=size then some (.ptr d id (k.toNat*size)) else none
 | _,_=>none
def aZ7 (n size:Nat) (x i:PV):Option PV :=
 match x,i with
 | .ptr d id o,.int _ k=>if 0≤k∧k<n then some (.ptr d id (o+k.toNat*size)) else none
 | _,_=>none
def sZ (x i:PV):Option PV :=
 match x,i with
 | .str s,.int _ n=>if n<0 then none else bnd (nth s n.toNat) fun b=>some (.int .u8 b.toNat)
 | _,_=>none
def aZ8 (n size:Nat) (ag:Bool) (x i:PV):Option PV :=
 match x,i with
 | .agg cs,.int _ k=>if 0≤k∧k<n then part (k.toNat*size) size ag cs else none
 | _,_=>none
def szOk (size:Nat):List PV→Bool
 | []=>true
 | e::_=>e.cells.length==size
def aBp (x:PV):Option Nat :=
 match x with
 | .int _ n=>if n<0 then none else some n.toNat
 | _=>none
def aGe (size:Nat) (x:PV) (l h:Nat):Option PV :=
 match x,size with
 | .str s,0=>if l≤h∧h≤s.length then some (.str ((s.take h).drop l)) else none
 | .slice es bs _,n+1=>if l≤h∧h≤es.length+bs.length∧szOk (n+1) (es++bs)=true then some (.slice (((es++bs).take h).drop l) ((es++bs).drop h) false) else none
 | .mk0 _,_+1=>if l=0∧h=0 then some (.slice [] [] false) else none
 | _,_=>none
def lenN (k:Nat) (x:PV):Option Nat :=
 match x,k with
 | .str s,0=>some s.length
 | .slice es _ _,_+1=>some es.length
 | .mk0 _,_+1=>some 0
 | .rsl _ _ n _,_+1=>some n
 | _,_=>none
def len (k:Nat) (x:PV):Option PV:=bnd (lenN k x) fun n=>some (.int .i64 n)
def bBj (size:Nat) (x:PV):Option PV:=bnd (lenN size x) fun n=>aGe size x 0 n
def bBk (size:Nat) (x l:PV):Option PV:=bnd (lenN size x) fun n=>bnd (aBp l) fun l=>aGe size x l n
def aZ9 (size:Nat) (x h:PV):Option PV:=bnd (aBp h) fun h=>aGe size x 0 h
def bBl (size:Nat) (x l h:PV):Option PV:=bnd (aBp l) fun l=>bnd (aBp h) fun h=>aGe size x l h
def aZG (x:PV):Option PV :=
 match x with
 | .slice _ _ _=>some (.slice [] [] true)
 | .mk0 _=>some (.slice [] [] true)
 | _=>none
def eJ (s:List UInt8):List PV:=s.map fun b => .int .u8 b.toNat
def slOr (sz:Nat) (E:List PV):PV :=
 match E with
 | [] => .mk0 sz
 | E => .slice E [] true
def apd (size:Nat) (x y:PV):Option PV :=
 match x,y with
 | .slice A _ true,.slice B _ _=>if A.length+B.length≤lim∧szOk size A=true∧szOk size B=true then some (.slice (A++B) [] true) else none
 | .mk0 sz,.slice B _ _=>if B.length≤lim∧sz=size∧szOk size B=true then some (slOr sz B) else none
 | _,_=>none
def aUW (x y:PV):Option PV :=
 match x,y with
 | .slice A _ true,.str s=>if A.length+s.length≤lim∧szOk 1 A=true then some (.slice (A++eJ s) [] true) else none
 | .mk0 sz,.str s=>if s.length≤lim∧sz=1 then some (slOr sz (eJ s)) else none
 | _,_=>none
def apdV (size:Nat) (x y:PV):Option (List PV) :=
 match x,y with
 | .slice [] _ true,.slice B _ _=>if B.length≤lim∧szOk size B=true then some B else none
 | _,_=>none
def bAa (size:Nat) (x:PV):Option (List PV) :=
 match x with
 | .slice E _ true=>if 0<size∧E.all (fun e=>e.cells.length==size&&e.cells.all aHZ)=true then some E else none
 | _=>none
def el (size:Nat) (x:PV):Option PV :=
 if x.solid=true∧x.cells.length=size∧0<size then some x.plain else none
def aZH (x:PV):Option UInt8 :=
 match x with
 | .int .u8 n=>some (UInt8.ofNat n.toNat)
 | _=>none
def aCI:List PV→Option (List UInt8)
 | []=>some []
 | x::l =>
  match aZH x,aCI l with
  | some b,some r=>some (b::r)
  | _,_=>none
def bAb (x:PV):Option PV :=
 match x with
 | .slice es _ _=>bnd (aCI es) fun s=>some (.str s)
 | .mk0 _=>some (.str [])
 | _=>none
def aOu (x:PV):Option PV :=
 match x with
 | .str s=>some (slOr 1 (eJ s))
 | _=>none
def aXi (k:IntKind) (x:PV):Option PV :=
 match x with
 | .int _ n=>some (.int k (k.wrap n))
 | _=>none
def ext (i:Nat) (x:PV):Option PV :=
 match x with
 | .tuple vs=>nth vs i
 | _=>none
def wS (x:PV):Option Bool :=
 match x with
 | .bool b=>some b
 | _=>none
def mn (x y:PV):Option PV :=
 match x,y with
 | .int k a,.int _ b=>some (.int k (if b<a then b else a))
 | _,_=>none
def mx (x y:PV):Option PV :=
 match x,y with
 | .int k a,.int _ b=>some (.int k (if b>a then b else a))
 | _,_=>none
def aA9:PV→PV
 | .ptr d id o => .ptr (d+1) id o
 | .rsl d id n s => .rsl (d+1) id n s
 | v=>v
def shift:PV→PV
 | .func f first caps => .func f (first.map aA9) (caps.map aA9)
 | .agg cs => .agg (cs.map aA9)
 | v=>aA9 v
def sh0:PV→Bool
 | .ptr _ _ _ | .rsl _ _ _ _ | .ref _ | .nilptr | .nilFunc | .bot | .und=>true
 | .func _ first caps=>first.all solid&&caps.all solid
 | v=>v.solid
def shOk:PV→Bool
 | .func _ first caps=>first.all sh0&&caps.all sh0
 | .agg cs=>cs.all sh0
 | v=>sh0 v
def jF:PV→Option PV
 | .ptr 0 _ _=>none
 | .ptr (d+1) id o=>some (.ptr d id o)
 | .rsl 0 _ _ _=>none
 | .rsl (d+1) id n s=>some (.rsl d id n s)
 | .ref v=>some (.ref v)
 | .nilptr=>some .nilptr
 | v=>if v.free then some v else none
def oB:List PV→Option (List PV)
 | []=>some []
 | x::l =>
  match jF x,oB l with
  | some y,some r=>some (y::r)
  | _,_=>none
def tA:PV→Option PV
 | .agg cs=>bnd (oB cs) fun cs=>some (.agg cs)
 | v=>jF v
def rV:List PV→Option (List PV)
 | []=>some []
 | x::l =>
  match tA x,rV l with
  | some y,some r=>some (y::r)
  | _,_=>none
def out:PV→Option PV
 | .tuple vs=>bnd (rV vs) fun vs=>some (.tuple vs)
 | v=>tA v
structure Hints where
 takes:List Nat:=[]
 gens:List Nat:=[]
 keeps:List (Nat×List Nat):=[]
 own:Bool:=false
 drop:Bool:=false
 frz:List (Nat×List Nat):=[]
 frl:List (Nat×List Nat):=[]
 vecs:List (Nat×Nat):=[]
 brw:List Nat:=[]
abbrev Orc:=FuncId→List PV→UP→Option (PV×UP)
inductive Ex where
 | nrm
 | brk (id:Nat)
 | ret
abbrev cG:=List PV→UP→Option (Ex×List PV×UP)
structure Eff where
 cr:List (Nat×Nat×Nat×Nat):=[]
 cw:List (Nat×Nat×Nat×List PV):=[]
 ws:List (Nat×PV):=[]
 nw:List (Nat×List PV):=[]
 up:Option UP:=none
def cP (bx:List fM):List (Nat×Nat×Nat×List PV)→List fM
 | []=>bx
 | (d,id,o,vs)::l =>
  match bB bx d id with
  | some cs=>cP (bW bx d id (putAt cs o vs)) l
  | none=>cP bx l
def wT (bx:List fM) (nw:List (Nat×List PV)):List fM :=
 match bx,nw with
 | bx,[]=>bx
 | b::r,nw=>(nw++b)::r
 | [],_=>[]
def Eff.app (e:Eff) (st:St):St :=
 { fr:=e.ws++st.fr,bx:=match e.up with | some u=>u | none=>wT (cP st.bx e.cw) e.nw}
def opd (fr:List (Nat×PV)):Operand→PV
 | .tmp t=>gets fr t
 | .const v=>ofValue v
 | .global _ => .bot
 | .func f => .func (.func f) [] []
def has (l:List Nat) (i:Nat):Bool:=l.any (· == i)
def hasO (l:List Nat):Option Nat→Bool
 | some i=>has l i
 | none=>false
def opv (fr:List (Nat×PV)) (tk:Bool):Operand→PV
 | .tmp t=>match tk with | true=>gets fr t | false=>(gets fr t).plain
 | x=>opd fr x
def left (fr:List (Nat×PV)) (tk:Bool):Operand→List (Nat×PV)
 | .tmp t=>match tk with | true=>[(t,(gets fr t).plain)] | false=>[]
 | _=>[]
def dstW (nt:Nat) (d:Option Nat) (v:PV):List (Nat×PV) :=
 match d with
 | some d=>if d<nt then [(d,v)] else []
 | none=>[]
section types
variable (P : Program)
def szOf (t:TypeId):Option Nat:=(P.info? t).map (·.size)
def agOf (t:TypeId):Option Bool :=
 match P.underlying t with
 | some (.struct _)=>some true
 | some (.array _ _)=>some true
 | some _=>some false
 | none=>none
def aEX (t:TypeId):Option PV :=
 match P.info? t with
 | some i=>i.zero.map ofValue
 | none=>none
def wU (i:TypeInfo):Bool :=
 match i.zero with
 | some z=>z.cells.size==i.size
 | none=>false
def aBa : Nat → TypeId → Nat → Option (List (Nat × Nat))
 | 0, _, _ => none
 | d + 1, t, off =>
  match P.underlying t with
  | some .bool => some [(off, 0)]
  | some (.int _) => some [(off, 1)]
  | some .string => some [(off, 2)]
  | some (.struct fs) =>
   match P.stoodInHeld t, szOf P t with
   | false, some sz =>
    fs.toList.foldr (fun f acc =>
     match f.name == "_", szOf P f.type, aBa d f.type (off + f.offset), acc with
     | false, some n, some l, some r => if f.offset + n ≤ sz ∧ 0 < n then some (l ++ r) else none
     | _, _, _, _ => none) (some [])
   | _, _ => none
  | _ => none
end types
def aBq (place:Nat→Option (Nat×Nat×Bool)) {R}:List (Nat×PV)→List PV→(List PV→Option R)→Option R
 | [],cs,K=>K cs
 | (i,v)::rest,cs,K =>
  match place i with
  | some (off,size,ag)=>bnd (mB size ag v) fun vs=>if off+size≤cs.length then aBq place rest (putAt cs off vs) K else none
  | none=>none
def wV (size:Nat) {R}:List (Nat×PV)→List PV→(List PV→Option R)→Option R
 | [],es,K=>K es
 | (i,v)::rest,es,K=>bnd (el size v) fun e=>if i<es.length then wV size rest (putNth es i e) K else none
def aM (O:Orc) {R} (g:FuncId) (args:List PV) (K:PV→Option R):Option R :=
 cnd (args.all free) (bnd (O g args []) fun r=>match r.2 with | []=>K r.1 | _=>none) none
def pO (P:Program) (fs:Array Field) (i:Nat):Option (Nat×Nat×Bool) :=
 match fs[i]? with
 | some f=>match szOf P f.type,agOf P f.type with
  | some n,some a=>some (f.offset,n,a)
  | _,_=>none
 | none=>none
def aUX (mt:Hints) (d:Option Nat):Option Nat :=
 match d with
 | some d=>look mt.vecs d
 | none=>none
def kJ (nt:Nat) (st:St) (d:Option Nat):Option Nat :=
 match d,st.bx with
 | some d,b::_=>match look b d with
  | none=>if d<nt then some d else none
  | some _=>none
 | _,_=>none
def mC {R:Type} (nt:Nat) (o:Oper) (sz:Nat) (E:List PV) (lv:List (Nat×PV)) (st:St) (K:Eff→Option R):Option R :=
 match kJ nt st o.dst with
 | some id=>K {ws:=(id,.rsl 0 id E.length sz)::lv,nw:=[(id,[.vec sz E])]}
 | none=>none
def rdV:List PV→List (Nat×Nat×Nat×Nat)
 | []=>[]
 | .rsl 0 id _ _::l=>(0,id,0,1)::rdV l
 | _::l=>rdV l
def brwV (bx:List fM) (v:PV):PV :=
 match v with
 | .rsl 0 id n _ =>
  match bB bx 0 id with
  | some [.vec _ E] => .slice (E.take n) [] false
  | _ => .bot
 | v=>v
def aH0 (bx:List fM) (v:PV):Bool :=
 match v with
 | .rsl 0 id n sz =>
  match bB bx 0 id with
  | some [.vec sz' E]=>Nat.beq sz sz'&&Nat.ble n E.length
  | _=>false
 | _=>true
def bBm (ok:Bool) (z l c:PV):Option (List PV) :=
 bnd (aBp l) fun n=>bnd (aBp c) fun m=>if n≤lim∧n=m∧ok=true then some (List.replicate n z) else none
def bAc (i:TypeInfo) (l c:PV):Option (List PV) :=
 match i.zero with
 | some z=>bBm (okVe i.size (ofValue z)) (ofValue z) l c
 | none=>none
def mkSl (size:Nat) (c:PV):Option PV:=bnd (aBp c) fun n=>if n≤lim then some (.mk0 size) else none
section op
variable (P : Program) (mt : Hints) (nt : Nat) (O : Orc) {R : Type}
def nC (xs:List Operand):List Nat:=xs.filterMap fun | .tmp t=>some t | _=>none
def rW:List Nat→Bool
 | []=>true
 | i::l => !has l i&&rW l
def gM (o:Oper) (c:Call) (st:St) (K:Eff→Option R):Option R :=
 let ρ:=opd st.fr
 let tk:=hasO mt.takes o.dst
 match c.callee with
 | .value f =>
  match ρ f with
  | .func (.func g) first caps =>
   let args:=first++c.args.toList.map (opv st.fr tk)++caps
   let lv:=c.args.toList.flatMap (left st.fr tk)
   match !tk||rW (nC c.args.toList),hasO mt.gens o.dst with
   | false,_=>none
   | true,true=>cnd (args.all shOk) (bnd (O g (args.map shift) st.bx) fun r=>K {ws:=dstW nt o.dst r.1++lv,up:=some r.2}) none
   | true,false =>
    match hasO mt.brw o.dst,aUX mt o.dst,tk with
    | true,_,_=>cnd (args.all (aH0 st.bx)) (aM O g (args.map (brwV st.bx)) fun r=>cnd (scal r) (K {cr:=rdV args,ws:=dstW nt o.dst r++lv}) none) none
    | false,some _,true=>none
    | false,some sz,false=>aM O g args fun r=>bnd (bAa sz r) fun E=>mC nt o sz E lv st K
    | false,none,_=>aM O g args fun r=>K {ws:=dstW nt o.dst r++lv}
  | _=>none
 | .builtin .len =>
  match c.args.toList,c.argTypes.toList with
  | [x],[t] =>
   match P.underlying t with
   | some .string=>bnd (len 0 (ρ x)) fun v=>K {ws:=dstW nt o.dst v}
   | some (.slice _)=>bnd (len 1 (ρ x)) fun v=>K {ws:=dstW nt o.dst v}
   | _=>none
  | _,_=>none
 | .builtin .append =>
  match c.args.toList,c.argTypes.toList with
  | [x,y],[t,u] =>
   match P.underlying t,P.underlying u with
   | some (.slice e),some (.slice _) =>
    match P.info? e with
    | some i=>if 0<i.size∧i.bytes≤512∧wU i=true then
      match aUX mt o.dst with
      | some _=>bnd (apdV i.size (opd st.fr x) (ρ y)) fun E=>mC nt o i.size E (left st.fr true x) st K
      | none=>bnd (apd i.size (opd st.fr x) (ρ y)) fun v=>K {ws:=dstW nt o.dst v++left st.fr true x} else none
    | none=>none
   | some (.slice e),some .string =>
    match P.info? e with
    | some i=>if i.size=1∧i.bytes≤512∧wU i=true then
      bnd (aUW (opd st.fr x) (ρ y)) fun v=>K {ws:=dstW nt o.dst v++left st.fr true x} else none
    | none=>none
   | _,_=>none
  | _,_=>none
 | .builtin .min =>
  match c.args.toList with
  | [x,y]=>bnd (mn (ρ x) (ρ y)) fun v=>K {ws:=dstW nt o.dst v}
  | _=>none
 | .builtin .max =>
  match c.args.toList with
  | [x,y]=>bnd (mx (ρ x) (ρ y)) fun v=>K {ws:=dstW nt o.dst v}
  | _=>none
 | _=>none
def qN (o:Oper) (t:TypeId) (x:Operand) (lo hi m:Option Operand) (st:St) (K:Eff→Option R):Option R :=
 let ρ:=opd st.fr
 let fin v:Option R:=K {ws:=dstW nt o.dst v}
 match P.underlying t with
 | some .string =>
  match lo,hi,m with
  | none,none,none=>bnd (bBj 0 (ρ x)) fin
  | some l,none,none=>bnd (bBk 0 (ρ x) (ρ l)) fin
  | none,some h,none=>bnd (aZ9 0 (ρ x) (ρ h)) fin
  | some l,some h,none=>bnd (bBl 0 (ρ x) (ρ l) (ρ h)) fin
  | _,_,_=>none
 | some (.slice e) =>
  match szOf P e with
  | some 0=>none
  | some n =>
   match lo,hi,m with
   | none,none,none=>bnd (bBj n (ρ x)) fin
   | some l,none,none=>bnd (bBk n (ρ x) (ρ l)) fin
   | none,some h,none=>bnd (aZ9 n (ρ x) (ρ h)) fin
   | some l,some h,none=>bnd (bBl n (ρ x) (ρ l) (ρ h)) fin
   | none,some (.const (.int .i64 0)),some (.const (.int .i64 0))=>bnd (aZG (ρ x)) fin
   | _,_,_=>none
  | none=>none
 | _=>none
def qO (o:Oper) (op:BinOp) (t:TypeId) (x y:PV) (K:Eff→Option R):Option R :=
 let fin v:Option R:=K {ws:=dstW nt o.dst v}
 match op with
 | .eql =>
  match P.underlying t with
  | some (.int _)=>bnd (bin .eql x y) fin
  | some .string=>bnd (bin .eql x y) fin
  | some .bool=>bnd (eqB x y) fun b=>fin (.bool b)
  | some (.struct _) =>
   match szOf P t,aBa P 20 t 0,P.eqGuardType P.depth t with
   | some n,some ls,false=>bnd (eqs n ls x y) fun b=>fin (.bool b)
   | _,_,_=>none
  | _=>none
 | .neq =>
  match P.underlying t with
  | some (.int _)=>bnd (bin .neq x y) fin
  | some .string=>bnd (bin .neq x y) fin
  | some .bool=>bnd (eqB x y) fun b=>fin (.bool (!b))
  | some (.struct _) =>
   match szOf P t,aBa P 20 t 0,P.eqGuardType P.depth t with
   | some n,some ls,false=>bnd (eqs n ls x y) fun b=>fin (.bool (!b))
   | _,_,_=>none
  | _=>none
 | op=>bnd (bin op x y) fin
def aCJ (o:Oper) (s d:TypeId) (x:PV) (K:Eff→Option R):Option R :=
 let fin v:Option R:=K {ws:=dstW nt o.dst v}
 match P.underlying s,P.underlying d with
 | some (.int _),some (.int k)=>bnd (aXi k x) fin
 | some (.slice e),some .string =>
  match P.underlying e with
  | some (.int .u8)=>bnd (bAb x) fin
  | _=>none
 | some .string,some (.slice e) =>
  match P.underlying e with
  | some (.int .u8)=>bnd (aOu x) fin
  | _=>none
 | _,_=>none
def newBox (o:Oper) (n:Nat) (ag:Bool) (v:PV) (lv:List (Nat×PV)) (st:St) (K:Eff→Option R):Option R :=
 match kJ nt st o.dst with
 | some id=>bnd (mB n ag v) fun cs=>cnd (cs.all (fits 0)) (K {ws:=(id,.ptr 0 id 0)::lv,nw:=[(id,cs)]}) none
 | none=>none
def aR (o:Oper) (st:St) (K:Eff→Option R):Option R :=
 let ρ:=opd st.fr
 let tk:=hasO mt.takes o.dst
 let fin v:Option R:=K {ws:=dstW nt o.dst v}
 match o.op with
 | .move x=>K {ws:=dstW nt o.dst (opv st.fr tk x)++left st.fr tk x}
 | .assign x=>K {ws:=dstW nt o.dst (opv st.fr true x)++left st.fr true x}
 | .pick c a b=>bnd (wS (ρ c)) fun t=>cnd t (K {ws:=dstW nt o.dst (opv st.fr false a)}) (K {ws:=dstW nt o.dst (opv st.fr false b)})
 | .alloc t =>
  match szOf P t,agOf P t,aEX P t with
  | some n,some ag,some z=>newBox nt o n ag z [] st K
  | _,_,_=>none
 | .box t x =>
  match szOf P t,agOf P t with
  | some n,some ag=>newBox nt o n ag (opv st.fr true x) (left st.fr true x) st K
  | _,_=>none
 | .build t ps =>
  match P.underlying t,aEX P t with
  | some (.struct fs),some (.agg z) =>
   if fs.toList.all (fun f=>(P.info? f.type).isSome)=true then aBq (pO P fs) (ps.toList.map fun p=>(p.1,opv st.fr false p.2)) z fun cs=>K {ws:=dstW nt o.dst (.agg cs)} else none
  | some (.array _ e),some (.agg z) =>
   match szOf P e,agOf P e with
   | some n,some ag=>aBq (fun i=>some (i*n,n,ag)) (ps.toList.map fun p=>(p.1,opv st.fr false p.2)) z fun cs=>K {ws:=dstW nt o.dst (.agg cs)}
   | _,_=>none
  | _,_=>none
 | .buildSlice t n ps =>
  match P.underlying t with
  | some (.slice e) =>
   match szOf P e,aEX P e with
   | some sz,some z=>if n*sz≤16777216∧z.cells.length=sz then
     bnd (match n with | 0=>some .bot | _=>el sz z) fun z=>wV sz (ps.toList.map fun p=>(p.1,opv st.fr false p.2)) (List.replicate n z) fun es=>fin (.slice es [] true) else none
   | _,_=>none
  | _=>none
 | .load t p =>
  match szOf P t,agOf P t with
  | some n,some ag =>
   match opd st.fr p with
   | .ptr d id off =>
    if 0<n∧(ag=true∨n=1) then bnd (bB st.bx d id) fun cs=>match cs with
     | [.vec sz E]=>bnd (bBi sz E off n ag) fun v=>K {cr:=[(d,id,0,1)],ws:=dstW nt o.dst v}
     | cs=>bnd (part off n ag cs) fun v =>
     match tk with
     | true=>K {cr:=[(d,id,off,n)],cw:=[(d,id,off,bV ag v)],ws:=dstW nt o.dst (sY d v)}
     | false=>K {cr:=[(d,id,off,n)],ws:=dstW nt o.dst (sY d v).plain} else none
   | .ref v=>bnd (aOt n ag v) fun v=>fin v.plain
   | _=>none
  | _,_=>none
 | .store t p x =>
  match szOf P t,agOf P t with
  | some n,some ag =>
   match opd st.fr p,o.dst with
   | .ptr d id off,none =>
    bnd (bB st.bx d id) fun cs=>bnd (mB n ag (opv st.fr true x)) fun vs =>
     match cs with
     | [.vec sz E]=>if 0<n then bnd (vput sz E off vs) fun E'=>K {cr:=[(d,id,0,1)],cw:=[(d,id,0,[.vec sz E'])],ws:=left st.fr true x} else none
     | cs=>cnd (vs.all (fits d)) (if off+n≤cs.length∧0<n then K {cw:=[(d,id,off,oG d vs)],ws:=left st.fr true x} else none) none
   | _,_=>none
  | _,_=>none
 | .nilCheck x =>
  match opd st.fr x with
  | .ptr d id off=>fin (.ptr d id off)
  | .ref v=>fin (.ref v)
  | .func (.func f) a b=>fin (.func (.func f) a b)
  | _=>none
 | .binOp op t x y _=>qO P nt o op t (ρ x) (ρ y) K
 | .unOp op _ x=>bnd (un op (ρ x)) fin
 | .convert s d x=>aCJ P nt o s d (ρ x) K
 | .makeSlice t l c =>
  match P.underlying t with
  | some (.slice e) =>
   match P.info? e with
   | some i=>if 0<i.size∧i.bytes≤512∧wU i=true then
     match aUX mt o.dst with
     | some _=>bnd (bAc i (ρ l) (ρ c)) fun E=>mC nt o i.size E [] st K
     | none=>match l with
      | .const (.int .i64 0)=>bnd (mkSl i.size (ρ c)) fin
      | _=>none
    else none
   | none=>none
  | _=>none
 | .makeFunc fn first caps=>fin (.func fn (first.toList.map fun x=>(opd st.fr x).plain) (caps.toList.map fun x=>(opd st.fr x).plain))
 | .slice t x l h m=>qN P nt o t x l h m st K
 | .fieldAddr s x f =>
  match P.underlying s with
  | some (.struct fs) =>
   match pO P fs f with
   | some (off,n,ag)=>if 0<n then bnd (fad off n ag (ρ x)) fin else none
   | none=>none
  | _=>none
 | .field s x f =>
  match P.underlying s with
  | some (.struct fs) =>
   match pO P fs f with
   | some (off,n,ag)=>bnd (fld off n ag (ρ x)) fun v=>fin v.plain
   | none=>none
  | _=>none
 | .indexAddr t x i =>
  match P.underlying t with
  | some (.slice e) =>
   match szOf P e with
   | some n=>bnd (ix n (ρ x) (ρ i)) fin
   | none=>none
  | some (.array len e) =>
   match szOf P e with
   | some n=>if 0<n then bnd (aZ7 len n (ρ x) (ρ i)) fin else none
   | none=>none
  | _=>none
 | .index t x i =>
  match P.underlying t with
  | some .string=>bnd (sZ (ρ x) (ρ i)) fin
  | some (.array len e) =>
   match szOf P e,agOf P e with
   | some n,some ag=>bnd (aZ8 len n ag (ρ x) (ρ i)) fun v=>fin v.plain
   | _,_=>none
  | _=>none
 | .extract x i=>bnd (ext i (ρ x)) fun v=>fin v.plain
 | .call c=>gM P mt nt O o c st K
 | _=>none
end op
open PV
def eH (mt:Hints) (o:Oper):List Nat :=
 let tmps xs:List Nat:=xs.filterMap fun | .tmp t=>some t | _=>none
 match o.op with
 | .move x=>if hasO mt.takes o.dst then tmps [x] else []
 | .assign x=>tmps [x]
 | .box _ x=>tmps [x]
 | .store _ _ x=>tmps [x]
 | .call c =>
  match c.callee with
  | .builtin .append=>match c.args.toList with
   | x::_=>tmps [x]
   | []=>[]
  | .value _=>if hasO mt.takes o.dst then tmps c.args.toList else []
  | _=>[]
 | _=>[]
def aGf (mt:Hints) (o:Oper):List Nat:=o.dst.toList++eH mt o
def aAn (ops:Array Oper):Nat→Oper→List Nat
 | 0,_=>[]
 | n+1,o =>
  match o.guard with
  | some (g,_)=>match ops[g]? with
   | some q=>q.dst.toList++aAn ops n q
   | none=>[]
  | none=>[]
def wW (ops:Array Oper) (o:Oper):List Nat :=
 (o.op.operands.toList.filterMap fun | .tmp t=>some t | _=>none)++aAn ops (ops.size+1) o
def disj (a b:List Nat):Bool:=a.all fun x => !has b x
def aUY (mt:Hints) (ops:Array Oper) (x y:Oper):Bool :=
 disj (aGf mt x) (wW ops y++aGf mt y)&&disj (aGf mt y) (wW ops x)
def oH (bs:Array Nat) (i j:Nat):Bool:=(bs.getD j 0).testBit i
def uW (mt : Hints) (ops : Array Oper) (bs : Array Nat) : Bool :=
 (List.range ops.size).all fun j =>
  match ops[j]? with
  | none => false
  | some y =>
   (y.after.all fun e => !Region.binds .any e || decide (e.on < j)) &&
   (match y.guard with
    | some (g, _) => decide (g < j) && oH bs g j
    | none => true) &&
   (List.range j).all fun i =>
    match ops[i]? with
    | none => false
    | some x => (!oH bs i j || y.after.any fun e => Region.binds .any e && (e.on == i || (decide (i < e.on) && oH bs i e.on))) && (oH bs i j || aUY mt ops x y)
structure Foot where
 rd:List (Nat×Nat×Nat×Nat)
 wr:List (Nat×Nat×Nat×Nat)
 nw:List Nat
def bBn (a b:Nat×Nat×Nat×Nat):Bool :=
 a.1==b.1&&a.2.1==b.2.1&&decide (a.2.2.1<b.2.2.1+b.2.2.2)&&decide (b.2.2.1<a.2.2.1+a.2.2.2)
def aLv (a b:List (Nat×Nat×Nat×Nat)):Bool:=a.all fun x=>b.all fun y => !bBn x y
def aRw (a:List Nat) (b:Foot):Bool:=a.all fun i => !has b.nw i&&b.rd.all (fun x => !(x.1==0&&x.2.1==i))&&b.wr.all fun x => !(x.1==0&&x.2.1==i)
def aIM (a b:Foot):Bool:=aLv a.wr b.wr&&aLv a.wr b.rd&&aLv a.rd b.wr&&aRw a.nw b&&aRw b.nw a
def Eff.foot (e:Eff):Foot:=⟨e.cr,e.cw.map fun c=>(c.1,c.2.1,c.2.2.1,c.2.2.2.length),e.nw.map (·.1)⟩
def pC (bs:Array Nat):List (Nat×Foot)→Bool
 | []=>true
 | (j,f)::l=>(l.all fun x=>oH bs x.1 j||aIM x.2 f)&&pC bs l
def aOv (bs:Array Nat) (n i:Nat):Bool:=(List.range n).all fun k=>k==i||(if k<i then oH bs k i else oH bs i k)
section code
variable (P : Program) (mt : Hints) (nt : Nat) (O : Orc) (LP : cG → cG) {R : Type}
def brB (v:PV) (k:Bool→Option R):Option R:=bnd (wS v) fun b=>cnd b (k true) (k false)
def iN (ops:Array Oper):Nat→Oper→St→(Bool→St→Option R)→Option R
 | 0,_,_,_=>none
 | n+1,o,st,K =>
  match o.guard with
  | none=>K true st
  | some (g,want) =>
   match ops[g]? with
   | some q =>
    match q.dst with
    | some s=>iN ops n q st fun wq st =>
     match wq with
     | true=>brB (gets st.fr s) fun b=>K (b==want) {st with fr:=(s,.bool b)::st.fr}
     | false=>match gets st.fr s with
      | .und=>K false st
      | _=>none
    | none=>none
   | none=>none
def jP (ops:Array Oper):List Oper→St→(St→Option R)→Option R
 | [],st,K=>K st
 | o::os,st,K=>iN ops (ops.size+1) o st fun b st =>
  match b with
  | true=>aR P mt nt O o st fun e=>jP ops os (e.app st) K
  | false=>jP ops os {st with fr:=dstW nt o.dst .und++st.fr} K
def cI (ops:Array Oper):Nat→List Oper→List (Nat×Foot)→St→(List (Nat×Foot)→St→Option R)→Option R
 | _,[],log,st,K=>K log st
 | i,o::os,log,st,K=>iN ops (ops.size+1) o st fun b st =>
  match b with
  | true=>aR P mt nt O o st fun e =>
   match e.up with
   | some _ =>
    match aOv (Region.before ops) ops.size i with
    | true=>cI ops (i+1) os log (e.app st) K
    | false=>none
   | none=>cI ops (i+1) os ((i,e.foot)::log) (e.app st) K
  | false=>cI ops (i+1) os log {st with fr:=dstW nt o.dst .und++st.fr} K
def nD (bx:List fM):List (Nat×Nat) :=
 match bx with
 | b::_=>b.map fun x=>(x.1,x.2.length)
 | []=>[]
def flat (b:fM):List (Nat×Nat)→List PV
 | []=>[]
 | (i,n)::l=>(match look b i with
  | some cs=>(List.range n).map (gt cs)
  | none=>List.replicate n .bot)++flat b l
def aIN (s:List PV):Nat→List (Nat×Nat)→fM
 | _,[]=>[]
 | k,(i,n)::l=>(i,(List.range n).map fun j=>gt s (k+j))::aIN s (k+n) l
def jQ (s:List PV):Nat→List Nat→List (Nat×PV)
 | _,[]=>[]
 | k,i::l=>(i,gt s k)::jQ s (k+1) l
def oI (bx:List fM):fM :=
 match bx with
 | b::_=>b
 | []=>[]
def iA (bx:List fM):List fM :=
 match bx with
 | _::r=>r
 | []=>[]
def mV (kp:List Nat) (sh:List (Nat×Nat)) (st:St):List PV:=kp.map (gets st.fr)++flat (oI st.bx) sh
def cH (kp:List Nat) (sh:List (Nat×Nat)) (s:List PV) (u:UP):St :=
 { fr:=jQ s 0 kp,bx:=aIN s kp.length sh::u}
def insideN (ids:List (Nat×Nat)):Nat→PV→Bool
 | n,v=>match v with
  | .ptr 0 id _=>ids.any fun x=>x.1==id
  | .ptr (_+1) _ _=>true
  | .rsl 0 id _ _=>ids.any fun x=>x.1==id
  | .rsl (_+1) _ _ _=>true
  | .vec _ _=>true
  | .agg cs=>cs.all solid1
  | .func _ first caps=>match n with
   | 0=>first.all solid&&caps.all solid
   | n+1=>first.all (insideN ids n)&&caps.all (insideN ids n)
  | .ref _=>true
  | .nilptr=>true
  | .nilFunc=>true
  | .bot=>true
  | v=>solid1 v
def inside (ids:List (Nat×Nat)) (v:PV):Bool:=insideN ids 3 v
def iO (sh:List (Nat×Nat)) (b:fM):Bool :=
 sh.all fun x=>match look b x.1 with
  | some cs=>cs.length==x.2
  | none=>false
def aLw (id:Nat):PV→Bool
 | .ptr 0 i _=>i==id
 | .rsl 0 i _ _=>i==id
 | .agg _=>true
 | .tuple _=>true
 | .func _ first caps => !(first.all solid&&caps.all solid)
 | _=>false
def ment (id:Nat):Nat→PV→Bool
 | n,v=>match v with
  | .agg cs=>cs.any (aLw id)
  | .tuple cs=>cs.any fun _=>true
  | .func _ first caps=>match n with
   | 0=>true
   | n+1=>first.any (ment id n)||caps.any (ment id n)
  | v=>aLw id v
def aBs (id:Nat) (v:PV):PV :=
 match ment id 3 v with
 | true => .bot
 | false=>v
def nE (bx:List fM) (id:Nat):List fM :=
 match bx with
 | b::r=>(b.filter fun x => !(x.1==id))::r
 | []=>[]
def aDT {R} (t:Nat) (st:St) (K:St→Option R):Option R :=
 match gets st.fr t with
 | .rsl 0 id n sz =>
  match bB st.bx 0 id with
  | some [.vec sz' E] =>
   match Nat.beq sz sz',(oI st.bx).all fun x=>x.1==id||x.2.all fun c => !ment id 3 c with
   | true,true=>cnd (Nat.ble n E.length) (K {fr:=(t,.slice (E.take n) [] false)::st.fr.map fun x=>(x.1,aBs id x.2),bx:=nE st.bx id}) none
   | _,_=>none
  | _=>none
 | .vec _ E=>K {fr:=(t,.slice E [] false)::(t,.bot)::st.fr,bx:=st.bx}
 | _=>K st
def aS8 {R:Type} (t sz:Nat) (st:St) (K:St→Option R):Option R :=
 match gets st.fr t with
 | .slice [] [] true=>K {fr:=(t,.vec sz [])::st.fr,bx:=st.bx}
 | _=>K st
def tB {R}:List Nat→St→(St→Option R)→Option R
 | [],st,K=>K st
 | t::l,st,K=>match t / 1048576 with
  | 0=>aDT t st fun st=>tB l st K
  | sz+1=>aS8 (t % 1048576) (sz+1) st fun st=>tB l st K
def aCK {R} (l:List (Nat×List Nat)) (i:Nat) (st:St) (K:St→Option R):Option R :=
 match look l i with
 | some l=>tB l st K
 | none=>K st
def pack (kp:List Nat) (sh:List (Nat×Nat)) (st:St) (K:List PV→UP→Option R):Option R :=
 match iO sh (oI st.bx),(oI st.bx).all fun x=>sh.any fun y=>y.1==x.1 with
 | true,true=>K (mV kp sh st) (iA st.bx)
 | true,false=>cnd ((mV kp sh st).all (inside sh)) (K (mV kp sh st) (iA st.bx)) none
 | false,_=>none
def fN:Code→Nat
 | .region i _ _=>i
 | .seq a _=>fN a
 | .block _ b=>fN b
 | .loop b=>fN b
 | .scope b=>fN b
 | _=>0
def wX (mt:Hints) (c:Code):List Nat :=
 match look mt.keeps (fN c) with
 | some l=>l
 | none=>[]
def kK:Code→List (Option Nat)
 | .exit i=>[some i]
 | .ret=>[none]
 | .seq a b=>kK a++(kK b).filter fun x => !(kK a).any (· == x)
 | .cond _ a b=>kK a++(kK b).filter fun x => !(kK a).any (· == x)
 | .block id b=>(kK b).filter fun x => !(x==some id)
 | .scope b=>kK b
 | .loop b=>kK b
 | _=>[]
def exIs {R:Type} (e:Ex) (w:Option Nat) (x y:Option R):Option R :=
 match e,w with
 | .brk i,some j=>if i=j then x else y
 | .ret,none=>x
 | _,_=>y
def exOf:Option Nat→Ex
 | some i => .brk i
 | none => .ret
def qP {R} (e:Ex) (K:Ex→Option R):List (Option Nat)→Option R
 | []=>none
 | w::l=>exIs e w (K (exOf w)) (qP e K l)
def wY (c:Operand) (b:Bool) (st:St):St :=
 match c with
 | .tmp t=>{st with fr:=(t,.bool b)::st.fr}
 | _=>st
def aS {R}:Code→St→(Ex→St→Option R)→Option R
 | .skip,st,K=>K .nrm st
 | .label _,st,K=>K .nrm st
 | .region rid ops draw,st,K=>aCK mt.frz rid st fun st =>
  match draw with
  | false=>jP P mt nt O ops ops.toList st (K .nrm)
  | true =>
   match uW mt ops (Region.before ops) with
   | true=>cI P mt nt O ops 0 ops.toList [] st fun log st =>
    match pC (Region.before ops) log with
    | true=>K .nrm st
    | false=>none
   | false=>none
 | .seq a b,st,K=>aS a st fun e st =>
  match e with
  | .nrm=>aS b st K
  | .brk i=>K (.brk i) st
  | .ret=>K .ret st
 | .cond c a b,st,K=>brB (opd st.fr c) fun t =>
  match t with
  | true=>aS a (wY c true st) K
  | false=>aS b (wY c false st) K
 | .block id b,st,K=>aS b st fun e st =>
  match e with
  | .nrm=>K .nrm st
  | .brk i=>if i=id then K .nrm st else K (.brk i) st
  | .ret=>K .ret st
 | .scope b,st,K=>aS b st K
 | .exit id,st,K=>K (.brk id) st
 | .ret,st,K=>K .ret st
 | .loop b,st,K=>aCK mt.frl (fN b) st fun st =>
  pack (wX mt b) (nD st.bx) st fun s u =>
   bnd (LP (fun s u=>aS b (cH (wX mt b) (nD st.bx) s u) fun e st'=>pack (wX mt b) (nD st.bx) st' fun s u=>some (e,s,u)) s u) fun r =>
    qP r.1 (fun e=>K e (cH (wX mt b) (nD st.bx) r.2.1 r.2.2)) (kK b)
 | _,_,_=>none
def aEY (own:Bool) (st:St) (r:ResultVar) (K:PV→Option R):Option R :=
 match r with
 | .tmp t=>K (match own with | true=>gets st.fr t | false=>(gets st.fr t).plain)
 | .cell a t =>
  match szOf P t,agOf P t with
  | some n,some ag =>
   match gets st.fr a with
   | .ptr d id off=>if 0<n∧(ag=true∨n=1) then bnd (bB st.bx d id) fun cs=>cnd (uV cs) none (bnd (part off n ag cs) fun v=>K (match own,d with | true,0=>v | _,_=>(sY d v).plain)) else none
   | _=>none
  | _,_=>none
def aLx (st:St):List ResultVar→(List PV→Option R)→Option R
 | [],K=>K []
 | r::l,K=>aEY P false st r fun v=>aLx st l fun vs=>K (v::vs)
def aJF (fn:Func) (own:Bool) (st:St):Option (PV×UP) :=
 match fn.results.toList with
 | [r]=>aEY P own st r fun v=>bnd (tA v) fun v=>some (v,iA st.bx)
 | rs=>aLx P st rs fun vs=>bnd (rV vs) fun vs=>some ((PV.tuple vs).plain,iA st.bx)
def pP (args:List PV) (up:UP):St:={fr:=jQ args 0 (List.range args.length),bx:=[]::up}
def kC (fn:Func) (args:List PV) (up:UP):Option (PV×UP) :=
 match fn.body with
 | some c=>if args.length≤nt then aS P mt nt O LP c (pP args up) fun e st =>
   match e with
   | .brk _=>none
   | .nrm=>aJF P fn mt.own st
   | .ret=>aJF P fn mt.own st
  else none
 | none=>none
end code
def pD:Nat→cG→cG
 | 0,_,_,_=>none
 | n+1,body,s,u=>bnd (body s u) fun r =>
  match r.1 with
  | .nrm=>pD n body r.2.1 r.2.2
  | e=>some (e,r.2.1,r.2.2)
open PV
abbrev Mem:=Nat→Nat→Option Value
abbrev BM:=Nat→Nat→Option Nat
structure Base where
 n:Nat
 g:Mem
instance:Coe Base Nat:=⟨Base.n⟩
def Glob (base:Base) (M:Mem):Prop:=∀ b i v,base.g b i=some v→M b i=some v
theorem Glob.mono {base M M'} (h:Glob base M) (a:∀ b i v,M b i=some v→M' b i=some v):Glob base M':=fun b i v hv=>a b i v (h b i v hv)
theorem jS {α}:∀ (l:List α) i,nth l i=l[i]?
 | [],_=>by simp [nth]
 | _::_,0=>by simp [nth]
 | _::l,i+1=>by simp [nth,jS l i]
theorem aBt l i:gt l i=(l[i]?).getD .bot:=by
 unfold gt;rw [jS];grind
theorem fV {α}:∀ (l:List α) i v,putNth l i v=l.set i v
 | [],_,_=>by simp [putNth]
 | _::_,0,_=>by simp [putNth]
 | _::l,i+1,v=>by simp [putNth,fV l i v]
theorem dK {α}:∀ (vs:List α) l i,(putAt l i vs).length=l.length
 | [],_,_=>rfl
 | v::vs,l,i=>by simp [putAt,dK vs,fV]
theorem iB {α}:∀ (vs:List α) l i j,i+vs.length≤l.length →
  (putAt l i vs)[j]?=if i≤j∧j<i+vs.length then vs[j-i]? else l[j]?
 | [],l,i,j,_=>by simp [putAt];omega
 | v::vs,l,i,j,h=>by
  simp [putAt,fV];rw [iB vs _ _ _ (by grind)];grind
theorem iP {α} (l:List (Nat×α)) i j v:look ((i,v)::l) j=if i=j then some v else look l j:=rfl
theorem dL l i j v:gets ((i,v)::l) j=if i=j then v else gets l j:=by
 by_cases h:i=j<;>simp [gets,look,h]
def okEl (s:Nat) (e:PV):Prop:=e.solid=true∧e.plain=e∧e.cells.length=s∧0<s
inductive Rv (M:Mem) (B:BM):PV→Value→Prop
 | bot (v:Value):Rv M B .bot v
 | und:Rv M B .und undef
 | bool (b:Bool):Rv M B (.bool b) (.bool b)
 | int (k:IntKind) (n:Int):Rv M B (.int k n) (.int k n)
 | str (s:List UInt8):Rv M B (.str s) (.string ⟨s.toArray⟩)
 | agg (cs:List PV) (vs:Array Value) (f:Nat→Value) (hl:vs.size=cs.length) (hf:∀ i,i<cs.length→vs[i]?=some (f i))
   (hr:∀ i c,cs[i]?=some c→Rv M B c (f i)):Rv M B (.agg cs) (.agg vs)
 | tuple (cs:List PV) (vs:Array Value) (f:Nat→Value) (hl:vs.size=cs.length) (hf:∀ i,i<cs.length→vs[i]?=some (f i))
   (hr:∀ i c,cs[i]?=some c→Rv M B c (f i)):Rv M B (.tuple cs) (.tuple vs)
 | nil (o:Bool):Rv M B (.slice [] [] o) (.slice none 0 0)
 | slice (es bs:List PV) (o:Bool) (a:Addr) (cap s:Nat) (f:Nat→Nat→Value) (ha:0<cap→a.spot=none) (hc:es.length+bs.length≤cap)
   (ho:o=true→(es=[]→cap=0)∧bs=[]∧(es≠[]→a.off=0)) (hel:∀ (i:Nat) (e:PV),(es++bs)[i]?=some e→okEl s e)
   (hm:∀ (i:Nat) (e:PV) (j:Nat),(es++bs)[i]?=some e→j<s→M a.block (a.off+i*s+j)=some (f i j))
   (hr:∀ (i:Nat) (e:PV) (j:Nat) (c:PV),(es++bs)[i]?=some e→e.cells[j]?=some c→Rv M B c (f i j)):Rv M B (.slice es bs o) (.slice (some a) es.length cap)
 | mk0 (sz:Nat) (a:Addr) (cap:Nat) (ha:a.spot=none∧a.off=0):Rv M B (.mk0 sz) (.slice (some a) 0 cap)
 | ref (e:PV) (a:Addr) (s:Nat) (f:Nat→Value) (ha:a.spot=none) (hel:okEl s e) (hm:∀ j,j<s→M a.block (a.off+j)=some (f j))
   (hr:∀ j c,e.cells[j]?=some c→Rv M B c (f j)):Rv M B (.ref e) (.pointer (some a))
 | ptr (d id off b:Nat) (hb:B d id=some b):Rv M B (.ptr d id off) (.pointer (some ⟨b,off,none⟩))
 | nilptr:Rv M B .nilptr (.pointer none)
 | rsl (d id n sz b cap:Nat) (hb:B d id=some b) (hc:n≤cap):Rv M B (.rsl d id n sz) (.slice (some ⟨b,0,none⟩) n cap)
 | rslNil (d id sz:Nat) (oa:Option Addr):Rv M B (.rsl d id 0 sz) (.slice oa 0 0)
 | func (fn:Fn) (first caps:List PV) (vf vc:Array Value) (f g:Nat→Value) (hp:∀ c,c∈first++caps→c.plain=c)
   (hl:vf.size=first.length) (hf:∀ i,i<first.length→vf[i]?=some (f i)) (hrf:∀ i c,first[i]?=some c→Rv M B c (f i))
   (hl':vc.size=caps.length) (hg:∀ i,i<caps.length→vc[i]?=some (g i)) (hrg:∀ i c,caps[i]?=some c→Rv M B c (g i)) :
   Rv M B (.func fn first caps) (.func fn vf vc)
 | nilFunc:Rv M B .nilFunc .nilFunc
 | vec (sz:Nat) (E:List PV) (b cap:Nat) (hne:E≠[]) (hc:E.length≤cap) (h0:0<sz) (hE:∀ e∈E,okVe sz e=true) (hm:cap≤9223372036854775807):Rv M B (.vec sz E) (.slice (some ⟨b,0,none⟩) E.length cap)
 | vecNil (sz:Nat) (oa:Option Addr):Rv M B (.vec sz []) (.slice oa 0 0)
theorem Rv.mono {M M' B B'} (R:∀ b i v,M b i=some v→M' b i=some v) (P:∀ d id b,B d id=some b→B' d id=some b)
  {p v} (h:Rv M B p v):Rv M' B' p v:=by
 induction h with
 | bot v=>exact .bot v
 | und=>exact .und
 | bool b=>exact .bool b
 | int k n=>exact .int k n
 | str s=>exact .str s
 | agg cs vs f r t _ c=>exact .agg cs vs f r t c
 | tuple cs vs f r t _ c=>exact .tuple cs vs f r t c
 | nil o=>exact .nil o
 | slice es I o a cap s f w u F l C _ c=>exact .slice es I o a cap s f w u F l (fun i e j S T=>by grind) c
 | mk0 sz a cap w=>exact .mk0 sz a cap w
 | ref e a s f w l C _ c=>exact .ref e a s f w l (fun j Q=>by grind) c
 | ptr d id off b J=>exact .ptr d id off b (by grind)
 | rsl d id n sz b cap J u=>exact .rsl d id n sz b cap (by grind) u
 | rslNil d id sz A=>exact .rslNil d id sz A
 | nilptr=>exact .nilptr
 | func D m q K N f g O r t _ y H _ c z=>exact .func D m q K N f g O r t c y H z
 | vec sz E b cap x u G L C=>exact .vec sz E b cap x u G L C
 | vecNil sz A=>exact .vecNil sz A
 | nilFunc=>exact .nilFunc
theorem okEl.cell {s e} (h:okEl s e) {j:Nat} {c} (a:e.cells[j]?=some c):c.solid1=true:=by
 obtain ⟨b,_,_,_⟩:=h;cases e with
 | agg cs =>
  simp [PV.solid] at b;exact b c (List.mem_of_getElem? (by simpa [cells] using a))
 | _ =>
  simp [PV.cells] at a;obtain rfl:j=0:=by
   cases j with
   | zero=>rfl
   | succ j=>simp at a
  simp at a;subst a;simpa [PV.solid] using b
theorem Rv.anyB1 {M B} B' {p v} (h:Rv M B p v):p.solid1=true→Rv M B' p v:=by
 induction h with
 | bool b=>intro _;exact .bool b
 | int k n=>intro _;exact .int k n
 | str s=>intro _;exact .str s
 | nil o=>intro _;exact .nil o
 | slice es r o a cap s f g q u d w _ t=>intro _;exact .slice es r o a cap s f g q u d w (fun i e j c m l=>t i e j c m l ((d i e m).cell l))
 | mk0 sz a cap g=>intro _;exact .mk0 sz a cap g
 | _=>intro h;simp [PV.solid1] at h
theorem Rv.anyB {M B} B' {p v} (h:Rv M B p v) (d:p.solid=true):Rv M B' p v:=by
 cases h with
 | agg cs vs f r m e =>
  simp [PV.solid] at d;exact .agg cs vs f r m fun i c g=>(e i c g).anyB1 B' (by grind)
 | bot v=>simp [PV.solid,PV.solid1] at d
 | und=>simp [PV.solid,PV.solid1] at d
 | bool b=>exact .bool b
 | int k n=>exact .int k n
 | str s=>exact .str s
 | tuple=>simp [PV.solid,PV.solid1] at d
 | nil o=>exact .nil o
 | slice es q o a cap s f j g u l t e=>exact (Rv.slice es q o a cap s f j g u l t e).anyB1 B' rfl
 | mk0 sz a cap j=>exact .mk0 sz a cap j
 | ref=>simp [PV.solid,PV.solid1] at d
 | ptr=>simp [PV.solid,PV.solid1] at d
 | rsl=>simp [PV.solid,PV.solid1] at d
 | rslNil=>simp [PV.solid,PV.solid1] at d
 | nilptr=>simp [PV.solid,PV.solid1] at d
 | func=>simp [PV.solid,PV.solid1] at d
 | vec=>simp [PV.solid,PV.solid1] at d
 | vecNil=>simp [PV.solid,PV.solid1] at d
 | nilFunc=>simp [PV.solid,PV.solid1] at d
theorem Rv.anyBfree {M B} B' {p v} (h:Rv M B p v) (d:p.free=true):Rv M B' p v:=by
 cases h with
 | func D j l J K f g N r w z q G u =>
  simp [PV.free] at d;exact .func D j l J K f g N r w (fun i c e=>(z i c e).anyB B' (by grind)) q G (fun i c e=>(u i c e).anyB B' (by grind))
 | vec sz E b cap m e F L A=>exact .vec sz E b cap m e F L A
 | vecNil sz I=>exact .vecNil sz I
 | nilFunc=>exact .nilFunc
 | bot v=>simp [PV.free,PV.solid,PV.solid1] at d
 | und=>simp [PV.free,PV.solid,PV.solid1] at d
 | bool b=>exact .bool b
 | int k n=>exact .int k n
 | str s=>exact .str s
 | agg cs vs f r w t=>exact (Rv.agg cs vs f r w t).anyB B' (by simpa [PV.free] using d)
 | tuple=>simp [PV.free,PV.solid,PV.solid1] at d
 | nil o=>exact .nil o
 | slice es H o a cap s f x e C y A t=>exact (Rv.slice es H o a cap s f x e C y A t).anyB B' rfl
 | mk0 sz a cap x=>exact .mk0 sz a cap x
 | ref=>simp [PV.free,PV.solid,PV.solid1] at d
 | ptr=>simp [PV.free,PV.solid,PV.solid1] at d
 | rsl=>simp [PV.free,PV.solid,PV.solid1] at d
 | rslNil=>simp [PV.free,PV.solid,PV.solid1] at d
 | nilptr=>simp [PV.free,PV.solid,PV.solid1] at d
theorem Rv.plain1 {M B p v} (h:Rv M B p v):Rv M B p.plain1 v:=by
 cases h with
 | slice es K o a cap s f t z I c A l =>
  refine .slice es [] false a cap s f t (by grind) (by simp) ?_ ?_ ?_;· intro i e J;exact c i e (by grind)
  all_goals grind
 | mk0 sz a cap t =>
  exact .slice [] [] false a cap 1 (fun _ _=>undef) (fun _=>t.1) (by simp) (by simp) (by simp) (by simp) (by simp)
 | nil o=>exact .nil false
 | agg cs vs f q r l=>exact .agg cs vs f q r l
 | tuple cs vs f q r l=>exact .tuple cs vs f q r l
 | bot v=>exact .bot v
 | und=>exact .und
 | bool b=>exact .bool b
 | int k n=>exact .int k n
 | str s=>exact .str s
 | ref e a s f t c A l=>exact .ref e a s f t c A l
 | ptr d id off b x=>exact .ptr d id off b x
 | rsl d id n sz b cap x z=>exact .rsl d id n sz b cap x z
 | rslNil d id sz E=>exact .rslNil d id sz E
 | nilptr=>exact .nilptr
 | func C j m F G f g H q r y u D w=>exact .func C j m F G f g H q r y u D w
 | vec=>exact .bot _
 | vecNil=>exact .bot _
 | nilFunc=>exact .nilFunc
theorem Rv.plainA {M B p v} (h:Rv M B p v):Rv M B p.plainA v:=by
 cases h with
 | agg cs vs f u w j =>
  refine .agg _ vs f (by grind) (by grind) ?_;intro i c q;simp at q;obtain ⟨D,G,rfl⟩:=q;exact (j i D G).plain1
 | slice es I o a cap s f t q E l C j=>exact (Rv.slice es I o a cap s f t q E l C j).plain1
 | mk0 sz a cap t=>exact (Rv.mk0 sz a cap t).plain1
 | nil o=>exact (Rv.nil o).plain1
 | tuple cs vs f u w j=>exact (Rv.tuple cs vs f u w j).plain1
 | bot v=>exact .bot v
 | und=>exact .und
 | bool b=>exact .bool b
 | int k n=>exact .int k n
 | str s=>exact .str s
 | ref e a s f t l C j=>exact .ref e a s f t l C j
 | ptr d id off b z=>exact .ptr d id off b z
 | rsl d id n sz b cap z q=>exact .rsl d id n sz b cap z q
 | rslNil d id sz J=>exact .rslNil d id sz J
 | nilptr=>exact .nilptr
 | func F m r K L f g N u w A x H y=>exact .func F m r K L f g N u w A x H y
 | vec=>exact .bot _
 | vecNil=>exact .bot _
 | nilFunc=>exact .nilFunc
theorem Rv.plain {M B p v} (h:Rv M B p v):Rv M B p.plain v:=by
 cases h with
 | tuple cs vs f u w j =>
  refine .tuple _ vs f (by grind) (by grind) ?_;intro i c q;simp at q;obtain ⟨D,G,rfl⟩:=q;exact (j i D G).plainA
 | agg cs vs f u w j=>exact (Rv.agg cs vs f u w j).plainA
 | slice es I o a cap s f t q E l C j=>exact (Rv.slice es I o a cap s f t q E l C j).plainA
 | mk0 sz a cap t=>exact (Rv.mk0 sz a cap t).plainA
 | nil o=>exact (Rv.nil o).plainA
 | bot v=>exact .bot v
 | und=>exact .und
 | bool b=>exact .bool b
 | int k n=>exact .int k n
 | str s=>exact .str s
 | ref e a s f t l C j=>exact .ref e a s f t l C j
 | ptr d id off b z=>exact .ptr d id off b z
 | rsl d id n sz b cap z q=>exact .rsl d id n sz b cap z q
 | rslNil d id sz J=>exact .rslNil d id sz J
 | nilptr=>exact .nilptr
 | func F m r K L f g N u w A x H y=>exact .func F m r K L f g N u w A x H y
 | vec=>exact .bot _
 | vecNil=>exact .bot _
 | nilFunc=>exact .nilFunc
theorem aGg (p:PV):p.plain1.plain1=p.plain1:=by cases p<;>rfl
theorem aOw (p:PV):p.plainA.plainA=p.plainA:=by
 cases p with
 | agg cs=>simp [PV.plainA,aGg]
 | _=>simp [PV.plainA,PV.plain1]
theorem aIO (p:PV):p.plain.plain=p.plain:=by
 cases p with
 | tuple vs=>simp [PV.plain,aOw]
 | agg cs=>simp [PV.plain,PV.plainA,aGg]
 | _=>simp [PV.plain,PV.plainA,PV.plain1]
theorem Rv.ofAtom {M B} v:Rv M B (ofAtom v) v:=by
 unfold Ev.ofAtom;split<;>first
  | exact .bool _
  | exact .int _ _
  | exact .str _
  | exact .nil _
  | exact .nilptr
  | exact .nilFunc
  | exact .bot _
theorem Rv.ofValue {M B} v:Rv M B (ofValue v) v:=by
 unfold Ev.ofValue;split;· rename_i cs;refine .agg _ cs (fun i=>cs.getD i undef) (by simp) (by simp_all) ?_;intro i c a;simp at a;obtain ⟨v0,b,rfl⟩:=a;simp [b,Rv.ofAtom]
 exact .ofAtom _
def bT:Nat→(Nat→Nat)→Nat
 | 0,_=>0
 | n+1,f=>bT n f+f n
theorem eK {f g}:∀ n,(∀ i,i<n→f i=g i)→bT n f=bT n g
 | 0,_=>rfl
 | n+1,h=>by simp [bT];rw [eK n (fun i a=>h i (by omega)),h n (by omega)]
theorem aCL {f g}:∀ n,(∀ i,i<n→f i≤g i)→bT n f≤bT n g
 | 0,_=>Nat.le_refl _
 | n+1,h=>by simp [bT];have:=aCL n (fun i a=>h i (by omega));grind
theorem aCM {f g k}:∀ n,k<n→(∀ i,i<n→i≠k→f i=g i)→bT n f+g k=bT n g+f k
 | 0,c,_=>by omega
 | n+1,c,h=>by
  simp [bT];by_cases e:k=n;· subst e;rw [eK k (fun i b=>h i (by omega) (by omega))];omega
  have:=aCM n (by omega) (fun i b a=>h i (by omega) a);grind
theorem aCN {f k}:∀ n,k<n→f k≤bT n f
 | 0,a=>by omega
 | n+1,a=>by
  simp [bT];by_cases e:k=n;· grind
  have:=aCN (f:=f) n (by omega:k<n);omega
def sumL {α:Type} (f:α→Nat):List α→Nat
 | []=>0
 | a::l=>f a+sumL f l
theorem aCO {α} {f:α→Nat}:∀ l,(∀ a∈l,f a=0)→sumL f l=0
 | [],_=>rfl
 | a::l,h=>by simp [sumL,h a (by simp),aCO l (fun x b=>h x (by grind))]
theorem aGh {α} {f:α→Nat} {a}:∀ l,a∈l→f a≤sumL f l
 | [],h=>by grind
 | x::l,h=>by
  simp [sumL];rcases List.mem_cons.1 h with rfl | h;· omega
  have:=aGh (f:=f) l h;omega
def dT (g:Nat→List PV→Nat):fM→Nat
 | []=>0
 | (id,cs)::l=>g id cs+dT g l
def fW (g:Nat→Nat→List PV→Nat):Nat→List fM→Nat
 | _,[]=>0
 | d,f::r=>dT (g d) f+fW g (d+1) r
theorem aEZ g:∀ a b,dT g (a++b)=dT g a+dT g b
 | [],b=>by simp [dT]
 | (i,c)::a,b=>by simp [dT,aEZ g a b];omega
theorem kD {α} {v:α} {i}:∀ {l},look l i=some v→(i,v)∈l
 | [],h=>by simp [look] at h
 | (j,u)::l,h=>by
  simp [look] at h;split at h;· grind
  exact List.mem_cons_of_mem _ (kD h)
theorem gN {α} {v:α} {i}:∀ {l},(l.map (·.1)).Nodup→(i,v)∈l→look l i=some v
 | [],_,h=>by grind
 | (j,u)::l,a,h=>by
  simp at a;simp [look];rcases List.mem_cons.1 h with e | h;· grind
  rw [if_neg (by grind)];exact gN a.2 h
theorem wZ {α} {i}:∀ {l:List (Nat×α)},look l i=none↔i∉l.map (·.1)
 | []=>by simp [look]
 | (j,u)::l=>by
  simp [look];split;· grind
  rw [wZ (l:=l)];grind
theorem eM {g g'}:∀ f,(∀ id cs,(id,cs)∈f→g id cs=g' id cs)→dT g f=dT g' f
 | [],_=>rfl
 | (i,c)::f,h=>by simp [dT];rw [h i c (by simp),eM f (fun id cs a=>h id cs (by grind))]
theorem aLy {g g' id cs cs'}:∀ (f:fM),(f.map (·.1)).Nodup→look f id=some cs →
  (∀ i c,(i,c)∈f→i≠id→g' i c=g i c)→dT g' (tP f id cs')+g id cs=dT g f+g' id cs'
 | [],_,h,_=>by simp [look] at h
 | (i,c)::f,b,a,m=>by
  simp at b;simp [look] at a;simp [tP];by_cases e:i=id;· subst e;simp at a;subst a;simp [dT];rw [eM f (g:=g') (g':=g) (fun j d l=>by grind)];omega
  simp [if_neg e,dT];simp [if_neg e] at a;have:=aLy (g:=g) (g':=g') (cs':=cs') f b.2 a (fun j d l k=>by grind);grind
theorem xA {g id cs}:∀ f,(id,cs)∈f→g id cs≤dT g f
 | [],h=>by grind
 | (i,c)::f,h=>by
  simp [dT];rcases List.mem_cons.1 h with e | h;· grind
  have:=xA (g:=g) f h;omega
def own1:PV→Value→Option Nat
 | .slice (_::_) _ true,.slice (some a) _ _=>some a.block
 | .mk0 _,.slice (some a) _ _=>some a.block
 | .vec _ (_::_),.slice (some a) _ _=>some a.block
 | _,_=>none
def bN (w:World) (blk j:Nat):Value:=(w.cell? ⟨blk,j,none⟩).getD undef
def c1 (p:PV) (v:Value) (b:Nat):Nat:=if own1 p v=some b then 1 else 0
structure HOk (M:Mem) (w:World) (base:Base) (B:BM) (b lo hi:Nat):Prop where
 old:base≤b
 nobox:∀ d id,B d id≠some b
 row:∃ arr T fz,w.heap[b]?=some (.cells arr T fz)∧hi≤arr.size∧∀ i,i<hi→¬ (fz.1≤i∧i<fz.2)
 free:∀ i,lo≤i→M b i=none
def h1 (M:Mem) (w:World) (base:Base) (B:BM):PV→Value→Prop
 | .slice (e::_) _ true,.slice (some a) len cap=>HOk M w base B a.block (a.off+len*e.cells.length) (a.off+cap*e.cells.length)
 | .mk0 sz,.slice (some a) _ cap=>HOk M w base B a.block a.off (a.off+cap*sz)
 | .vec sz (e::E),.slice (some a) _ cap=>HOk M w base B a.block 0 (cap*sz)∧∀ j c,((e::E).flatMap cells)[j]?=some c→Rv M (fun _ _=>none) c (bN w a.block j)
 | _,_=>True
theorem tQ {M w base B p v} (h:own1 p v=none):h1 M w base B p v:=by
 unfold h1;unfold own1 at h;grind
def zipA (p:PV) (v:Value):List (PV×Value) :=
 match p,v with
 | .agg cs,.agg vs=>cs.zip vs.toList
 | p,v=>[(p,v)]
def atoms (p:PV) (v:Value):List (PV×Value) :=
 match p,v with
 | .tuple ps,.tuple vs=>(ps.zip vs.toList).flatMap fun x=>zipA x.1 x.2
 | p,v=>zipA p v
def cV (p:PV) (v:Value) (b:Nat):Nat:=sumL (fun x=>c1 x.1 x.2 b) (atoms p v)
def hV (M:Mem) (w:World) (base:Base) (B:BM) (p:PV) (v:Value):Prop:=∀ x∈atoms p v,h1 M w base B x.1 x.2
def dU (p:PV) (v:Value):Prop:=∀ x∈atoms p v,own1 x.1 x.2=none
theorem dU.c {p v} (h:dU p v) b:cV p v b=0:=aCO _ fun x a=>by simp [c1,h x a]
theorem dU.h {p v} (h:dU p v) M w base B:hV M w base B p v:=fun x a=>tQ (h x a)
theorem aBu (p:PV) v:own1 p.plain1 v=none:=by cases p<;>cases v<;>simp [PV.plain1,own1]
theorem pE es a v:own1 (.slice es a false) v=none:=by cases es<;>cases v<;>simp [own1]
theorem rX cs v:own1 (.agg cs) v=none:=by cases v<;>rfl
theorem aIP cs v:own1 (.tuple cs) v=none:=by cases v<;>rfl
theorem cX (p:PV) v:∀ x∈zipA p.plainA v,own1 x.1 x.2=none:=by
 intro x a;cases p with
 | agg cs =>
  cases v with
  | agg vs =>
   obtain ⟨c,b⟩:∃ c,c∈cs∧x.1=c.plain1:=by
    have:=(List.of_mem_zip (show (x.1,x.2)∈_ from a)).1;grind
   rw [b.2];exact aBu _ _
  | _=>simp [zipA] at a;subst a;exact rX _ _
 | tuple ps=>simp [PV.plainA,PV.plain1,zipA] at a;subst a;exact aIP _ _
 | _ =>
  simp [PV.plainA,PV.plain1,zipA] at a;subst a;first
   | exact pE _ _ _
   | (cases v<;>rfl)
theorem bS (p:PV) v:dU p.plain v:=by
 intro x g;cases p with
 | tuple ps =>
  cases v with
  | tuple vs =>
   simp only [PV.plain,atoms,List.mem_flatMap] at g;obtain ⟨y,j,g⟩:=g;have:=(List.of_mem_zip (show (y.1,y.2)∈_ from j)).1;simp at this;obtain ⟨c,_,e⟩:=this;rw [← e] at g;exact cX c y.2 x g
  | _ =>
   simp [PV.plain,atoms,zipA] at g;subst g;exact aIP _ _
 | agg cs=>exact cX (.agg cs) v x g
 | slice es h o=>exact cX (.slice es h o) v x g
 | mk0 sz=>exact cX (.mk0 sz) v x g
 | bot=>exact cX .bot v x g
 | und=>exact cX .und v x g
 | bool b=>exact cX (.bool b) v x g
 | int k n=>exact cX (.int k n) v x g
 | str s=>exact cX (.str s) v x g
 | ref e=>exact cX (.ref e) v x g
 | ptr d i o=>exact cX (.ptr d i o) v x g
 | nilptr=>exact cX .nilptr v x g
 | rsl d i n z=>exact cX (.rsl d i n z) v x g
 | vec z E=>exact cX (.vec z E) v x g
 | func f a b=>exact cX (.func f a b) v x g
 | nilFunc=>exact cX .nilFunc v x g
theorem aT {p v} (h:p.plain=p):dU p v:=by rw [← h];exact bS p v
theorem nF p:dU p undef:=by
 intro x a;cases p with
 | tuple ps=>simp [atoms,undef] at a
 | agg cs=>simp [atoms,undef,zipA] at a;subst a;exact rX _ _
 | _=>simp [atoms,undef,zipA] at a;subst a;simp [own1]
def cR (w:World) (blk:Nat):Nat→List PV→Nat→Nat
 | _,[],_=>0
 | j,c::cs,b=>c1 c (bN w blk j) b+cR w blk (j+1) cs b
def cBox (w:World) (ob:Option Nat) (cs:List PV) (b:Nat):Nat :=
 match ob with
 | some blk=>cR w blk 0 (phys cs) b
 | none=>0
def cBx (w:World) (B:BM) (bx:List fM) (b:Nat):Nat:=fW (fun d id cs=>cBox w (B d id) cs b) 0 bx
def cF (fr:List (Nat×PV)) (tm:Array Value) (b:Nat):Nat:=bT tm.size fun i=>cV (gets fr i) (tm.getD i undef) b
def upB (d:Nat) (B:BM):BM:=fun e id=>B (d+e) id
def Cons (M:Mem) (w:World):Prop:=∀ b i v,M b i=some v→∃ arr T fz,w.heap[b]?=some (.cells arr T fz)∧arr[i]?=some v
structure BoxOk (M:Mem) (w:World) (base:Base) (B:BM) (d blk:Nat) (cs:List PV):Prop where
 old:base≤blk
 row:∃ arr T fz,w.heap[blk]?=some (.cells arr T fz)∧(phys cs).length≤arr.size∧∀ i,i<(phys cs).length→¬ (fz.1≤i∧i<fz.2)
 free:∀ i,M blk i=none
 rel:∀ (j:Nat) (c:PV),(phys cs)[j]?=some c→Rv M (upB d B) c (bN w blk j)∧h1 M w base B c (bN w blk j)∧fits 0 c=true
def okV:List PV→Prop
 | [.vec sz E]=>0<sz∧∀ e∈E,okVe sz e=true
 | _=>True
def bCb (B:BM) (d id:Nat) (cs:List PV):Prop:=B d id=none∧∃ sz,cs=[.vec sz []]
structure BRel (M:Mem) (w:World) (base:Base) (B:BM) (bx:List fM):Prop where
 nodup:∀ (d:Nat) (f:fM),bx[d]?=some f→(f.map (·.1)).Nodup
 dom:∀ d id,bB bx d id=none→B d id=none
 ok:∀ d id cs,bB bx d id=some cs→okV cs∧((∃ blk,B d id=some blk∧BoxOk M w base B d blk cs)∨bCb B d id cs)
 inj:∀ d id d' id' blk,B d id=some blk→B d' id'=some blk→d=d'∧id=id'
def tot (fr:List (Nat×PV)) (tm:Array Value) (w:World) (B:BM) (bx:List fM) (b:Nat):Nat:=cF fr tm b+cBx w B bx b
structure SR (base:Base) (M:Mem) (B:BM) (st:St) (tm:Array Value) (w:World):Prop where
 cons:Cons M w
 slot:∀ i,Rv M B (gets st.fr i) (tm.getD i undef)
 slotH:∀ i,hV M w base B (gets st.fr i) (tm.getD i undef)
 box:BRel M w base B st.bx
 one:∀ b,tot st.fr tm w B st.bx b≤1
 glob:Glob base M
 base:base≤w.heap.size
def touch (t:Nat→Nat) (B:BM) (b:Nat):Prop:=1≤t b∨∃ d id,B d id=some b
structure Evo (w:World) (M:Mem) (t:Nat→Nat) (B:BM) (w':World) (M':Mem) (t':Nat→Nat) (B':BM):Prop where
 os:w'.os=w.os
 tape:w'.tape=w.tape
 output:w'.output=w.output
 size:w.heap.size≤w'.heap.size
 mono:∀ b i v,M b i=some v→M' b i=some v
 keep:∀ b,b<w.heap.size→¬ touch t B b→w'.heap[b]?=w.heap[b]?∧∀ i,M' b i=M b i
 tle:∀ b,b<w.heap.size→t' b≤t b
 bxs:∀ d id b,B' d id=some b→b<w.heap.size→∃ d' id',B d' id'=some b
 outer:∀ d id,B' (d+1) id=B (d+1) id
theorem Evo.refl w M t B:Evo w M t B w M t B :=
 ⟨rfl,rfl,rfl,by omega,fun _ _ _ h=>h,fun _ _ _=>⟨rfl,fun _=>rfl⟩,fun _ _=>by omega,fun d id b h _=>⟨d,id,h⟩,fun _ _=>rfl⟩
theorem Evo.touch {w w' M M' t a B B'} (h:Evo w M t B w' M' a B') {b} (c:b<w.heap.size) (e:touch a B' b):touch t B b:=by
 rcases e with g | ⟨d,id,f⟩;· exact .inl (Nat.le_trans g (h.tle b c))
 exact .inr (h.bxs d id b f c)
theorem Evo.trans {w o n M M1 g t l c B e m} (h:Evo w M t B o M1 l e) (k:Evo o M1 l e n g c m):Evo w M t B n g c m where
 os:=k.os.trans h.os
 tape:=k.tape.trans h.tape
 output:=k.output.trans h.output
 size:=Nat.le_trans h.size k.size
 mono:=fun b i v hv=>k.mono b i v (h.mono b i v hv)
 keep:=fun b a j=>by
  obtain ⟨u,x⟩:=h.keep b a j;obtain ⟨s,y⟩:=k.keep b (by grind) (fun p=>j (h.touch a p));grind
 tle:=fun b a=>Nat.le_trans (k.tle b (Nat.lt_of_lt_of_le a h.size)) (h.tle b a)
 bxs:=fun d id b a f=>by
  obtain ⟨d1,q,r⟩:=k.bxs d id b a (Nat.lt_of_lt_of_le f h.size);exact h.bxs d1 q b r f
 outer:=fun d id=>(k.outer d id).trans (h.outer d id)
def putT (tm:Array Value) (dst:Option Nat) (v:Value):Array Value :=
 match dst with
 | some d=>tm.setIfInBounds d v
 | none=>tm
theorem aRx (a:Act) (dst:Option Nat) v:(a.put dst v).tmps=putT a.tmps dst v:=by cases dst<;>rfl
theorem aIQ (a:Act) (dst:Option Nat) v:(a.put dst v).defers=a.defers:=by cases dst<;>rfl
theorem fB a dst v:(putT a dst v).size=a.size:=by cases dst<;>simp [putT]
theorem aXj l m i:gets (l++m) i=match look l i with | some v=>v | none=>gets m i:=by
 induction l with
 | nil=>rfl
 | cons x l a =>
  rw [List.cons_append,dL,iP,a];grind
theorem aGi a dst p fr i :
  gets (dstW a dst p++fr) i=if dst=some i∧i<a then p else gets fr i:=by
 unfold dstW;cases dst with
 | none=>simp
 | some d =>
  by_cases h:d<a;· simp [h,dL];grind
  grind
theorem aJG a dst v i :
  (putT a dst v).getD i undef=if dst=some i∧i<a.size then v else a.getD i undef:=by
 unfold putT;cases dst with
 | none=>simp
 | some d =>
  simp;grind
section
variable {base : Base} {M : Mem} {B : BM} {st : St} {tm : Array Value} {w : World}
theorem SR.world (h:SR base M B st tm w) {M' w'} (X:Cons M' w') (P:∀ b i v,M b i=some v→M' b i=some v)
  (Y:∀ d id b,B d id=some b→w'.heap[b]?=w.heap[b]?∧∀ i,M' b i=M b i)
  (V:∀ b,1≤tot st.fr tm w B st.bx b→w'.heap[b]?=w.heap[b]?∧∀ i,M' b i=M b i) (hs:w.heap.size≤w'.heap.size) :
  SR base M' B st tm w'∧∀ b,tot st.fr tm w' B st.bx b=tot st.fr tm w B st.bx b:=by
 have q:∀ d id b j,B d id=some b→bN w' b j=bN w b j:=by
  intro d id b j s;simp [bN,World.cell?,(Y d id b s).1]
 have O:∀ d id b cs j x,B d id=some b→cR w' b j cs x=cR w b j cs x:=by
  intro d id b cs j x s;induction cs generalizing j with
  | nil=>rfl
  | cons c cs K=>simp [cR,q d id b j s,K]
 have hbox:∀ d id cs x,cBox w' (B d id) cs x=cBox w (B d id) cs x:=by
  intro d id cs x;unfold cBox;cases s:B d id with
  | none=>rfl
  | some b=>exact by grind
 have Z:∀ x,cBx w' B st.bx x=cBx w B st.bx x:=by
  intro x;unfold cBx;have:(fun d id cs=>cBox w' (B d id) cs x)=fun d id cs=>cBox w (B d id) cs x:=by
   funext d id cs;exact by grind
  rw [this]
 have D:∀ x,tot st.fr tm w' B st.bx x=tot st.fr tm w B st.bx x:=fun x=>by simp [tot,Z]
 have N:∀ p v,(∀ x,own1 p v=some x→1≤tot st.fr tm w B st.bx x)→h1 M w base B p v→h1 M' w' base B p v:=by
  intro p v n u;unfold h1 at u ⊢;split;· rename_i e es bs a len cap;obtain ⟨H,J⟩:=V a.block (n a.block (by simp [own1]));obtain ⟨o,I,⟨arr,T,fz,E,m,L⟩,fr⟩:=u;exact ⟨o,I,⟨arr,T,fz,by rw [H];exact E,m,L⟩,fun i C=>by rw [J];exact fr i C⟩
  ·rename_i sz a len cap;obtain ⟨H,J⟩:=V a.block (n a.block (by simp [own1]));obtain ⟨o,I,⟨arr,T,fz,E,m,L⟩,fr⟩:=u;exact ⟨o,I,⟨arr,T,fz,by rw [H];exact E,m,L⟩,fun i C=>by rw [J];exact fr i C⟩
  ·rename_i sz e es a len cap;obtain ⟨H,J⟩:=V a.block (n a.block (by simp [own1]));obtain ⟨⟨o,I,⟨arr,T,fz,E,m,L⟩,fr⟩,F⟩:=u;refine ⟨⟨o,I,⟨arr,T,fz,by rw [H];exact E,m,L⟩,fun i C=>by rw [J];exact fr i C⟩,fun j c X => ?_⟩;have:bN w' a.block j=bN w a.block j:=by simp [bN,World.cell?,H]
   rw [this];exact (F j c X).mono P (fun _ _ _ t=>t)
  trivial
 refine ⟨⟨X,fun i=>(h.slot i).mono P (fun _ _ _ t=>t),?_,?_,fun b=>by rw [D];exact h.one b,h.glob.mono P,Nat.le_trans h.base hs⟩,D⟩
 ·intro i x t;by_cases C:i<tm.size
  ·refine N x.1 x.2 (fun b G => ?_) (h.slotH i x t);have h1':c1 x.1 x.2 b=1:=by simp [c1,G]
   have h2:c1 x.1 x.2 b≤cV (gets st.fr i) (tm.getD i undef) b:=aGh (f:=fun y=>c1 y.1 y.2 b) _ t;have h3:=aCN (f:=fun i=>cV (gets st.fr i) (tm.getD i undef) b) tm.size C;simp only [tot,cF];omega
  have:tm.getD i undef=undef:=by simp [C]
  rw [this] at t;exact tQ (nF _ x t)
 refine ⟨h.box.nodup,h.box.dom,?_,h.box.inj⟩;intro d id cs z;obtain ⟨hv,hbk⟩:=h.box.ok d id cs z;refine ⟨hv,?_⟩;rcases hbk with ⟨blk,s,⟨o,⟨arr,T,fz,E,m,S⟩,fr,W⟩⟩ | U;rotate_left;· exact .inr U
 left;refine ⟨blk,s,o,⟨arr,T,fz,by rw [(Y d id blk s).1];exact E,m,S⟩,fun i=>by rw [(Y d id blk s).2];exact fr i,?_⟩;intro j c A;rw [q d id blk j s];obtain ⟨r1,r2,r3⟩:=W j c A;refine ⟨r1.mono P (fun _ _ _ t=>t),N _ _ (fun b G => ?_) r2,r3⟩;have k1:c1 c (bN w blk j) b=1:=by simp [c1,G]
 have key:∀ l k j c,l[j]?=some c→c1 c (bN w blk (k+j)) b≤cR w blk k l b:=by
  intro l;induction l with
  | nil=>intro k j c A;simp at A
  | cons a l K =>
   intro k j c A;cases j with
   | zero=>simp at A;subst A;simp [cR]
   | succ j=>have:=K (k+1) j c A;simp [cR];rw [show k+(j+1)=k+1+j by omega];omega
 have k2:=key (phys cs) 0 j c A;rw [Nat.zero_add] at k2;have k3:cBox w (B d id) cs b≤cBx w B st.bx b:=by
  have R:∀ bx d0 d,bB bx d id=some cs→cBox w (B (d0+d) id) cs b≤fW (fun d id cs=>cBox w (B d id) cs b) d0 bx:=by
   intro bx;induction bx with
   | nil=>intro d0 d Q;simp [bB,nth] at Q
   | cons f r K =>
    intro d0 d Q;simp [fW];cases d with
    | zero =>
     have:=xA (g:=fun id cs=>cBox w (B d0 id) cs b) f (kD Q);simp;omega
    | succ d =>
     have:=K (d0+1) d Q;rw [show d0+(d+1)=d0+1+d by omega];omega
  have:=R st.bx 0 d z;rw [Nat.zero_add] at this;exact this
 rw [s] at k3;simp [cBox] at k3;simp [tot];omega
theorem SR.put (h:SR base M B st tm w) dst {p v} (o:Rv M B p v) (n:hV M w base B p v)
  (r:∀ b,tot st.fr tm w B st.bx b+cV p v b≤1) :
  SR base M B {st with fr:=dstW tm.size dst p++st.fr} (putT tm dst v) w ∧
   ∀ b,tot (dstW tm.size dst p++st.fr) (putT tm dst v) w B st.bx b≤tot st.fr tm w B st.bx b+cV p v b:=by
 have a:∀ i,(gets (dstW tm.size dst p++st.fr) i=p∧(putT tm dst v).getD i undef=v)∨(gets (dstW tm.size dst p++st.fr) i=gets st.fr i∧(putT tm dst v).getD i undef=tm.getD i undef):=by
  intro i;rw [aGi,aJG];grind
 have j:∀ b,tot (dstW tm.size dst p++st.fr) (putT tm dst v) w B st.bx b≤tot st.fr tm w B st.bx b+cV p v b:=by
  intro b;simp only [tot,cF,fB];have key:bT tm.size (fun i=>cV (gets (dstW tm.size dst p++st.fr) i) ((putT tm dst v).getD i undef) b)≤bT tm.size (fun i=>cV (gets st.fr i) (tm.getD i undef) b)+cV p v b:=by
   cases q:dst with
   | none=>simp [dstW,putT]
   | some d =>
    by_cases l:d<tm.size
    ·have:=aCM (f:=fun i=>cV (gets (dstW tm.size (some d) p++st.fr) i) ((putT tm (some d) v).getD i undef) b) (g:=fun i=>cV (gets st.fr i) (tm.getD i undef) b) (k:=d) tm.size l (fun i _ m=>by
      simp only [aGi,aJG];grind)
     grind
    rw [eK (g:=fun i=>cV (gets st.fr i) (tm.getD i undef) b) tm.size (fun i s=>by
     simp only [aGi,aJG];grind)]
    omega
  omega
 refine ⟨⟨h.cons,fun i => ?_,fun i => ?_,h.box,fun b=>by grind,h.glob,h.base⟩,j⟩
 ·rcases a i with ⟨e,c⟩ | ⟨e,c⟩;· grind
  rw [e,c];exact h.slot i
 rcases a i with ⟨e,c⟩ | ⟨e,c⟩;· grind
 rw [e,c];exact h.slotH i
theorem SR.putN (h:SR base M B st tm w) dst {p v} (e:Rv M B p v) (a:dU p v) :
  SR base M B {st with fr:=dstW tm.size dst p++st.fr} (putT tm dst v) w ∧
   ∀ b,tot (dstW tm.size dst p++st.fr) (putT tm dst v) w B st.bx b≤tot st.fr tm w B st.bx b:=by
 obtain ⟨f,d⟩:=h.put dst e (a.h M w base B) (fun b=>by rw [a.c b];exact h.one b);exact ⟨f,fun b=>by have:=d b;rw [a.c b] at this;omega⟩
theorem SR.take (h:SR base M B st tm w) t :
  SR base M B {st with fr:=(t,(gets st.fr t).plain)::st.fr} tm w ∧
   ∀ b,tot ((t,(gets st.fr t).plain)::st.fr) tm w B st.bx b+cV (gets st.fr t) (tm.getD t undef) b=tot st.fr tm w B st.bx b:=by
 have a:∀ b,tot ((t,(gets st.fr t).plain)::st.fr) tm w B st.bx b+cV (gets st.fr t) (tm.getD t undef) b=tot st.fr tm w B st.bx b:=by
  intro b;simp only [tot,cF]
  by_cases d:t<tm.size
  ·have:=aCM (f:=fun i=>cV (gets ((t,(gets st.fr t).plain)::st.fr) i) (tm.getD i undef) b) (g:=fun i=>cV (gets st.fr i) (tm.getD i undef) b) (k:=t) tm.size d (fun i _ j=>by
    simp [dL];grind)
   simp only [dL,if_true] at this;rw [(bS (gets st.fr t) (tm.getD t undef)).c b] at this;simp only [dL];omega
  rw [eK (g:=fun i=>cV (gets st.fr i) (tm.getD i undef) b) tm.size (fun i l=>by
   simp [dL];grind)]
  have:tm.getD t undef=undef:=by grind
  rw [this,(nF _).c b];rfl
 refine ⟨⟨h.cons,fun i => ?_,fun i => ?_,h.box,fun b => ?_,h.glob,h.base⟩,a⟩
 ·rw [dL];split;· rename_i e;subst e;exact (h.slot t).plain
  exact h.slot i
 ·rw [dL];split;· exact (bS _ _).h M w base B
  exact h.slotH i
 have:=h.one b;grind
theorem SR.opd (h:SR base M B st tm w) d x:Rv M B (Ev.opd st.fr x) ((Act.mk tm d).eval x):=by
 cases x with
 | tmp t=>exact h.slot t
 | const v=>exact Rv.ofValue v
 | global g=>exact .bot _
 | func f=>exact .func _ [] [] #[] #[] (fun _=>undef) (fun _=>undef) (by simp) rfl (by simp) (by simp) rfl (by simp) (by simp)
theorem rY v:own1 (ofAtom v) v=none:=by
 unfold ofAtom;split<;>first | rfl | simp
theorem gO v:dU (ofValue v) v:=by
 intro x a;unfold ofValue at a;split at a
 ·rename_i cs;simp [atoms,zipA] at a;obtain ⟨i,b⟩:=List.mem_iff_getElem?.1 a;simp only [List.zip_eq_zipWith,List.getElem?_zipWith] at b;cases d:cs.toList[i]? with
  | none=>grind
  | some c=>simp [d] at b;subst b;exact rY c
 have:x=(ofAtom v,v):=by
  unfold ofAtom at a ⊢;split at a<;>simp_all [atoms,zipA]
 subst this;exact rY v
theorem tR fr x (a:Act) (c:∀ t,x ≠ .tmp t):dU (opd fr x) (a.eval x):=by
 cases x with
 | tmp t=>grind
 | const v=>exact gO v
 | global g=>intro y b;simp [opd,atoms,zipA] at b;subst b;rfl
 | func f=>intro y b;simp [opd,atoms,zipA] at b;subst b;rfl
theorem SR.opvF (h:SR base M B st tm w) d x :
  Rv M B (opv st.fr false x) ((Act.mk tm d).eval x)∧dU (opv st.fr false x) ((Act.mk tm d).eval x):=by
 cases x with
 | tmp t=>exact ⟨(h.slot t).plain,bS _ _⟩
 | const v=>exact ⟨Rv.ofValue v,gO v⟩
 | global g=>exact ⟨.bot _,tR st.fr (.global g) ⟨tm,d⟩ (by simp)⟩
 | func f=>exact ⟨h.opd d (.func f),tR st.fr (.func f) ⟨tm,d⟩ (by simp)⟩
theorem SR.opvT (h:SR base M B st tm w) d a x :
  Rv M B (opv st.fr a x) ((Act.mk tm d).eval x)∧hV M w base B (opv st.fr a x) ((Act.mk tm d).eval x) ∧
  SR base M B {st with fr:=left st.fr a x++st.fr} tm w ∧
  ∀ b,tot (left st.fr a x++st.fr) tm w B st.bx b+cV (opv st.fr a x) ((Act.mk tm d).eval x) b=tot st.fr tm w B st.bx b:=by
 cases a with
 | false =>
  obtain ⟨i,e⟩:=h.opvF d x;have j:left st.fr false x=[]:=by cases x<;>rfl
  rw [j];exact ⟨i,e.h M w base B,h,fun b=>by rw [e.c b];rfl⟩
 | true =>
  cases x with
  | tmp t =>
   obtain ⟨i,e⟩:=h.take t;exact ⟨h.slot t,h.slotH t,i,e⟩
  | const v=>exact ⟨Rv.ofValue v,(gO v).h M w base B,h,fun b=>by show _+cV (ofValue v) v b=_;rw [(gO v).c b];rfl⟩
  | global g=>exact ⟨.bot _,(tR st.fr (.global g) ⟨tm,d⟩ (by simp)).h M w base B,h,fun b=>by rfl⟩
  | func f=>exact ⟨h.opd d (.func f),(tR st.fr (.func f) ⟨tm,d⟩ (by simp)).h M w base B,h,fun b=>by rfl⟩
end
theorem uX {f f' g len off} : ∀ n, off + n ≤ len → (∀ i, i < len → ¬ (off ≤ i ∧ i < off + n) → f' i = f i) →
  (∀ j, j < n → f' (off + j) = g j) → bT len f' + bT n (fun j => f (off + j)) = bT len f + bT n g
 | 0, _, b, _ => by
  have := eK (f := f') (g := f) len (fun i c => by grind);simp [bT, this]
 | n + 1, m, b, h => by
  have l := uX (len := len) (off := off) (f := f) (f' := fun i => if i = off + n then f i else f' i) (g := g) n (by omega)
   (fun i c e => by
    grind)
   (fun j d => by
    grind)
  have k := aCM (f := f') (g := fun i => if i = off + n then f i else f' i) (k := off + n) len (by omega) (fun i _ a => by grind);simp [bT];grind
theorem iG {f}:∀ n,(∀ i,i<n→f i=0)→bT n f=0
 | 0,_=>rfl
 | n+1,h=>by simp [bT,iG n (fun i a=>h i (by omega)),h n (by omega)]
theorem lB w blk b:∀ cs k,cR w blk k cs b=bT cs.length fun j=>c1 (cs.getD j .bot) (bN w blk (k+j)) b
 | [],_=>rfl
 | c::cs,k=>by
  have a:=lB w blk b cs (k+1);simp [cR];have sh:∀ n f,bT (n+1) f=f 0+bT n (fun j=>f (j+1)):=by
   intro n f;induction n with
   | zero=>simp [bT]
   | succ n a=>rw [bT,a];simp [bT];omega
  grind
theorem aRy b:∀ (cs:List PV) vs,cs.length=vs.length →
  sumL (fun x=>c1 x.1 x.2 b) (cs.zip vs)=bT cs.length fun j=>c1 (cs.getD j .bot) (vs.getD j undef) b
 | [],[],_=>rfl
 | [],_::_,h=>by grind
 | _::_,[],h=>by grind
 | c::cs,v::vs,h=>by
  have a:=aRy b cs vs (by grind);simp [sumL];have sh:∀ n f,bT (n+1) f=f 0+bT n (fun j=>f (j+1)):=by
   intro n f;induction n with
   | zero=>simp [bT]
   | succ n a=>rw [bT,a];simp [bT];omega
  grind
theorem aUZ cs vs b (h:vs.size=cs.length) :
  cV (.agg cs) (.agg vs) b=bT cs.length fun j=>c1 (cs.getD j .bot) (vs.getD j undef) b:=by
 have:=aRy b cs vs.toList (by simp [h]);simp only [cV,atoms,zipA,this];simp
theorem aGj {p:PV} (a:∀ cs,p ≠ .agg cs):p.cells=[p]:=by
 cases p<;>first | rfl | grind
theorem aGk {p v} (b:∀ cs,p ≠ .agg cs) (a:∀ cs,p ≠ .tuple cs):atoms p v=[(p,v)]:=by
 cases p<;>first | rfl | grind | grind
theorem xB {p v} (c:∀ cs,p ≠ .agg cs) (a:∀ cs,p ≠ .tuple cs) b:cV p v b=c1 p v b:=by
 simp [cV,aGk c a,sumL]
theorem aCP {M w base B p v} (b:∀ cs,p ≠ .agg cs) (a:∀ cs,p ≠ .tuple cs):hV M w base B p v↔h1 M w base B p v:=by
 simp [hV,aGk b a]
theorem Rv.oneCell {M B p v d} (h:Rv M B p v) (a:fits d p=true):v.oneCell'=true:=by
 cases h<;>first | rfl | simp [fits,PV.solid1] at a
theorem Rv.raise1 {M B p v d} (h:Rv M (upB d B) p v) (l:fits 0 p=true):Rv M B (Ev.raise1 d p) v:=by
 cases h with
 | ptr e id off b z=>exact .ptr (e+d) id off b (by simpa [upB,Nat.add_comm] using z)
 | rsl e id n sz b cap z q=>exact .rsl (e+d) id n sz b cap (by simpa [upB,Nat.add_comm] using z) q
 | rslNil e id sz I=>exact .rslNil (e+d) id sz I
 | ref e a s f t i C x=>exact .ref e a s f t i C fun j c q=>(x j c q).anyB1 B (i.cell q)
 | func F m r J K f g L D u A w G y=>exact (Rv.func F m r J K f g L D u A w G y).anyBfree B (by simpa [PV.free,fits] using l)
 | nilptr=>exact .nilptr
 | nilFunc=>exact .nilFunc
 | vec=>simp [fits,PV.solid1] at l
 | vecNil=>simp [fits,PV.solid1] at l
 | bool b=>exact .bool b
 | int k n=>exact .int k n
 | str s=>exact .str s
 | nil o=>exact .nil o
 | slice es H o a cap s f t q E i C x=>exact (Rv.slice es H o a cap s f t q E i C x).anyB1 B rfl
 | mk0 sz a cap t=>exact .mk0 sz a cap t
 | bot v=>simp [fits,PV.solid1] at l
 | und=>simp [fits,PV.solid1] at l
 | agg=>simp [fits,PV.solid1] at l
 | tuple=>simp [fits,PV.solid1] at l
theorem Rv.lower1 {M B p v d} (h:Rv M B p v) (i:fits d p=true):Rv M (upB d B) (Ev.lower1 d p) v:=by
 cases h with
 | ptr e id off b I=>exact .ptr (e-d) id off b (by simp [fits] at i;simp [upB];grind)
 | rsl e id n sz b cap I q=>exact .rsl (e-d) id n sz b cap (by simp [fits] at i;simp [upB];grind) q
 | rslNil e id sz H=>exact .rslNil (e-d) id sz H
 | ref e a s f t l A x=>exact .ref e a s f t l A fun j c q=>(x j c q).anyB1 _ (l.cell q)
 | func E m r J K f g L C u z w F y=>exact (Rv.func E m r J K f g L C u z w F y).anyBfree _ (by simpa [PV.free,fits] using i)
 | nilptr=>exact .nilptr
 | nilFunc=>exact .nilFunc
 | vec=>simp [fits,PV.solid1] at i
 | vecNil=>simp [fits,PV.solid1] at i
 | bool b=>exact .bool b
 | int k n=>exact .int k n
 | str s=>exact .str s
 | nil o=>exact .nil o
 | slice es G o a cap s f t q D l A x=>exact (Rv.slice es G o a cap s f t q D l A x).anyB1 _ rfl
 | mk0 sz a cap t=>exact .mk0 sz a cap t
 | bot v=>simp [fits,PV.solid1] at i
 | und=>simp [fits,PV.solid1] at i
 | agg=>simp [fits,PV.solid1] at i
 | tuple=>simp [fits,PV.solid1] at i
theorem aIR {d p} (h:fits d p=true):fits 0 (Ev.lower1 d p)=true:=by
 cases p<;>simp_all [fits,Ev.lower1]
theorem aS9 d p v:own1 (Ev.lower1 d p) v=own1 p v:=by
 cases p<;>first | rfl | (cases v<;>rfl)
theorem aIS d p v:own1 (Ev.raise1 d p) v=own1 p v:=by
 cases p<;>first | rfl | (cases v<;>rfl)
theorem aXk {M w base B} d p v:h1 M w base B (Ev.lower1 d p) v↔h1 M w base B p v:=by
 cases p<;>first | exact Iff.rfl | (cases v<;>exact Iff.rfl)
theorem aRz {M w base B} d p v:h1 M w base B (Ev.raise1 d p) v↔h1 M w base B p v:=by
 cases p<;>first | exact Iff.rfl | (cases v<;>exact Iff.rfl)
theorem aJH B:upB 0 B=B:=by funext d id;simp [upB]
theorem aGl p:Ev.raise1 0 p=p:=by cases p<;>rfl
theorem aOx p:Ev.lower1 0 p=p:=by cases p<;>rfl
theorem aJI d p:sY d p=match p with | .agg cs => .agg (cs.map (Ev.raise1 d)) | p=>Ev.raise1 d p:=by
 cases d with
 | zero =>
  simp [sY];split
  ·have  := by funext p;exact aGl p
   simp_all
  rw [aGl]
 | succ d=>rfl
theorem xC d vs:oG d vs=vs.map (Ev.lower1 d):=by
 cases d with
 | zero =>
  have  := by funext p;exact aOx p
  rw [this];simp [oG]
 | succ d=>rfl
theorem bF f r id:bB (f::r) 0 id=look f id:=rfl
theorem fX f r d id:bB (f::r) (d+1) id=bB r d id:=rfl
theorem qQ d id:bB [] d id=none:=rfl
theorem aOy f id i cs:look (tP f id cs) i=if i=id∧(look f id).isSome then some cs else look f i:=by
 induction f with
 | nil=>simp [tP,look]
 | cons x f a =>
  obtain ⟨j,c⟩:=x;simp [tP];by_cases e:j=id;· subst e;simp [iP];grind
  simp [if_neg e,iP];grind
theorem aOz f id cs:(tP f id cs).map (·.1)=f.map (·.1):=by
 induction f with
 | nil=>rfl
 | cons x f a =>
  simp [tP];grind
theorem xD:∀ bx d id b a cs c,bB bx d id=some c →
  bB (bW bx d id cs) b a=if b=d∧a=id then some cs else bB bx b a
 | [],d,id,b,a,cs,c,h=>by simp [bB,nth] at h
 | f::r,0,id,b,a,cs,c,h=>by
  simp [bF] at h;cases b with
  | zero=>simp only [bW,bF,aOy,h];simp
  | succ b=>simp [bW,fX]
 | f::r,d+1,id,b,a,cs,c,h=>by
  cases b with
  | zero=>simp [bW,bF]
  | succ b=>simp only [bW,fX];rw [xD r d id b a cs c h];simp
theorem aCQ:∀ bx d id cs (e:Nat),((bW bx d id cs)[e]?).map (fun f=>f.map (·.1))=(bx[e]?).map (fun f=>f.map (·.1))
 | [],_,_,_,_=>by simp [bW]
 | f::r,0,id,cs,e=>by cases e<;>simp [bW,aOz]
 | f::r,d+1,id,cs,e=>by
  cases e with
  | zero=>simp [bW]
  | succ e=>simpa [bW] using aCQ r d id cs e
theorem aBb {bx} (b:∀ (d:Nat) f,bx[d]?=some f→(f.map (·.1)).Nodup) d id cs :
  ∀ (e:Nat) f,(bW bx d id cs)[e]?=some f→(f.map (·.1)).Nodup:=by
 intro e f a;have:=aCQ bx d id cs e;grind
theorem qR {g g'}:∀ bx d0,(∀ d f,bx[d]?=some f→dT (g (d0+d)) f=dT (g' (d0+d)) f)→fW g d0 bx=fW g' d0 bx
 | [],_,_=>rfl
 | f::r,d0,h=>by
  simp [fW];rw [show dT (g d0) f=dT (g' d0) f from by simpa using h 0 f rfl,qR (g:=g) (g':=g') r (d0+1) (fun d f' a=>by have:=h (d+1) f' (by grind);grind)]
theorem aLz {g g' id cs cs'}:∀ bx d0 d,
  (∀ (e:Nat) f,bx[e]?=some f→(f.map (·.1)).Nodup)→bB bx d id=some cs →
  (∀ e i c,bB bx e i=some c→¬ (e=d∧i=id)→g' (d0+e) i c=g (d0+e) i c) →
  fW g' d0 (bW bx d id cs')+g (d0+d) id cs=fW g d0 bx+g' (d0+d) id cs'
 | [],_,d,_,h,_=>by simp [bB,nth] at h
 | f::r,d0,0,k,h,j=>by
  have a:=k 0 f rfl;simp [bW,fW];have p:=aLy (g:=g d0) (g':=g' d0) (cs':=cs') f a h (fun i c l m=>j 0 i c (gN a l) (by omega));have n:fW g' (d0+1) r=fW g (d0+1) r:=qR r (d0+1) fun d f' b=>eM f' fun i c l=>by
   have:=j (d+1) i c (by rw [fX];unfold bB;rw [jS,b];exact gN (k (d+1) f' (by grind)) l) (by omega);grind
  omega
 | f::r,d0,d+1,k,h,j=>by
  have a:=k 0 f rfl;simp [bW,fW];have p  := eM f fun i c l=>j 0 i c (gN a l) (by omega);have n:=aLz (g:=g) (g':=g') (cs':=cs') r (d0+1) d (fun e f' b=>k (e+1) f' (by grind)) h (fun e i c o m=>by
   have:=j (e+1) i c (by simpa [fX] using o) (by omega);grind)
  grind
theorem HOk.lt {M w base B b c a} (h:HOk M w base B b c a):b<w.heap.size:=by
 obtain ⟨_,_,⟨arr,T,fz,d,_⟩,_⟩:=h;grind
theorem h1.world {M M' w w' base B B' p v} (h:h1 M w base B p v) (z:∀ b i v,M b i=some v→M' b i=some v)
  (l:∀ b,own1 p v=some b→b<w.heap.size→w'.heap[b]?=w.heap[b]?∧(∀ i,M' b i=M b i)∧∀ d id,B' d id=some b→B d id=some b):h1 M' w' base B' p v:=by
 unfold h1 at h ⊢;split;· rename_i e es A a len cap;obtain ⟨m,n,s⟩:=l a.block (by simp [own1]) h.lt;obtain ⟨o,r,⟨arr,T,fz,u,f,k⟩,fr⟩:=h;exact ⟨o,fun d id q=>by grind,⟨arr,T,fz,by grind,f,k⟩,fun i t=>by grind⟩
 ·rename_i sz a len cap;obtain ⟨m,n,s⟩:=l a.block (by simp [own1]) h.lt;obtain ⟨o,r,⟨arr,T,fz,u,f,k⟩,fr⟩:=h;exact ⟨o,fun d id q=>by grind,⟨arr,T,fz,by grind,f,k⟩,fun i t=>by grind⟩
 ·rename_i sz e es a len cap;obtain ⟨m,n,s⟩:=l a.block (by simp [own1]) h.1.lt;obtain ⟨⟨o,r,⟨arr,T,fz,u,f,k⟩,fr⟩,g⟩:=h;refine ⟨⟨o,fun d id q=>by grind,⟨arr,T,fz,by grind,f,k⟩,fun i t=>by grind⟩,fun j c y => ?_⟩;have:bN w' a.block j=bN w a.block j:=by simp [bN,World.cell?,m]
  rw [this];exact (g j c y).mono z (fun _ _ _ x=>x)
 trivial
theorem h1.hok {M w base B p v} (h:h1 M w base B p v) {b} (a:own1 p v=some b):∃ d c,HOk M w base B b d c:=by
 unfold own1 at a;split at a;· simp at a;subst a;exact ⟨_,_,(show HOk M w base B _ _ _ from h)⟩
 ·simp at a;subst a;exact ⟨_,_,(show HOk M w base B _ _ _ from h)⟩
 ·simp at a;subst a;exact ⟨_,_,h.1⟩
 grind
theorem h1.nobox {M w base B p v} (h:h1 M w base B p v) {b} (c:own1 p v=some b):(∀ d id,B d id≠some b)∧b<w.heap.size:=by
 obtain ⟨f,e,a⟩:=h.hok c;exact ⟨a.nobox,a.lt⟩
theorem BRel.get {M w base B bx} (h:BRel M w base B bx) {d id cs} (g:bB bx d id=some cs) {blk} (f:B d id=some blk):BoxOk M w base B d blk cs:=by
 rcases (h.ok d id cs g).2 with ⟨c,e,i⟩ | b;· grind
 rw [b.1] at f;grind
section
variable {base : Base} {M : Mem} {B : BM} {st : St} {tm : Array Value} {w : World}
def setB (B:BM) (id blk:Nat):BM:=fun d i=>if d=0∧i=id then some blk else B d i
theorem SR.newRow (h:SR base M B st tm w) {b0 r} (hbx:st.bx=b0::r) {id} (hid:look b0 id=none) {cs xs T fz w' blk}
  (hblk:w.heap.size≤blk) (hold:∀ b,b<w.heap.size→w'.heap[b]?=w.heap[b]?) (hnew:w'.heap[blk]?=some (.cells xs T fz)) (hsz:w.heap.size≤w'.heap.size)
  (hl:(phys cs).length≤xs.size) (hfz:∀ i,i<(phys cs).length→¬ (fz.1≤i∧i<fz.2)) (hv:okV cs)
  (hr:∀ j c,(phys cs)[j]?=some c→Rv M B c (xs.getD j undef)∧h1 M w base B c (xs.getD j undef)∧fits 0 c=true)
  (ht:∀ b,tot st.fr tm w B st.bx b+bT (phys cs).length (fun j=>c1 ((phys cs).getD j .bot) (xs.getD j undef) b)≤1) :
  SR base M (setB B id blk) {st with bx:=((id,cs)::b0)::r} tm w' ∧
   ∀ b,tot st.fr tm w' (setB B id blk) (((id,cs)::b0)::r) b=tot st.fr tm w B st.bx b+bT (phys cs).length (fun j=>c1 ((phys cs).getD j .bot) (xs.getD j undef) b):=by
 have hMn:∀ i,M blk i=none:=by
  intro i;cases hm:M blk i with
  | none=>rfl
  | some v=>obtain ⟨arr,T',fz',hx,_⟩:=h.cons _ _ _ hm;have:=(Array.getElem?_eq_some_iff.1 hx).1;omega
 have hBlt:∀ d i b,B d i=some b→b<w.heap.size:=by
  intro d i b hB;cases hbo:bB st.bx d i with
  | none=>rw [h.box.dom d i hbo] at hB;simp at hB
  | some cs =>
   have ok:=h.box.get hbo hB;obtain ⟨arr,T',fz',hx,_⟩:=ok.row;exact (Array.getElem?_eq_some_iff.1 hx).1
 have hB0  := h.box.dom 0 id (by rw [hbx,bF];exact hid);have hmonoB:∀ d i b,B d i=some b→setB B id blk d i=some b:=by
  intro d i b hB;unfold setB;rw [if_neg (by rintro ⟨rfl,rfl⟩;rw [hB0] at hB;simp at hB)];exact hB
 have hback:∀ d i b,setB B id blk d i=some b→b<w.heap.size→B d i=some b:=by
  intro d i b hB hlt;unfold setB at hB;split at hB;· simp at hB;omega
  exact hB
 have hh:∀ p v,h1 M w base B p v→h1 M w' base (setB B id blk) p v:=fun p v hp=>hp.world (fun _ _ _ hx=>hx) fun b _ hlt=>⟨hold b hlt,fun _=>rfl,fun d i hB=>by grind⟩;have hcellv:∀ b j,b<w.heap.size→bN w' b j=bN w b j:=fun b j hb=>by simp [bN,World.cell?,hold b hb]
 have hcellnew:∀ j,bN w' blk j=xs.getD j undef:=fun j=>by simp [bN,World.cell?,hnew,Array.getD_eq_getD_getElem?]
 have hcc:∀ b cs j x,b<w.heap.size→cR w' b j cs x=cR w b j cs x:=by
  intro b cs j x hb;induction cs generalizing j with
  | nil=>rfl
  | cons c cs ih=>simp [cR,hcellv b j hb,ih]
 have htot:∀ b,tot st.fr tm w' (setB B id blk) (((id,cs)::b0)::r) b=tot st.fr tm w B st.bx b+bT (phys cs).length (fun j=>c1 ((phys cs).getD j .bot) (xs.getD j undef) b):=by
  intro b;simp only [tot,cBx,hbx,fW,dT,Nat.zero_add];have e1:cBox w' (setB B id blk 0 id) cs b=bT (phys cs).length (fun j=>c1 ((phys cs).getD j .bot) (xs.getD j undef) b):=by
   simp only [setB,and_self,if_true,cBox];rw [lB];apply eK;intro j _;rw [Nat.zero_add,hcellnew]
  have e2:∀ d i cs,bB st.bx d i=some cs→cBox w' (setB B id blk d i) cs b=cBox w (B d i) cs b:=by
   intro d i cs hb';cases hB':B d i with
   | some blk' =>
    rw [hmonoB d i blk' hB'];simp [cBox];exact by grind
   | none =>
    have:setB B id blk d i=none:=by
     unfold setB;rw [if_neg];· exact hB'
     rintro ⟨rfl,rfl⟩;rw [hbx,bF,hid] at hb';simp at hb'
    rw [this];rfl
  have e3  := by
   refine eM b0 fun i cs hm=>e2 0 i cs ?_;rw [hbx,bF];exact gN (h.box.nodup 0 b0 (by rw [hbx];rfl)) hm
  have e4:fW (fun d i cs=>cBox w' (setB B id blk d i) cs b) 1 r=fW (fun d i cs=>cBox w (B d i) cs b) 1 r:=by
   refine qR r 1 fun d f hf=>eM f fun i cs hm=>e2 (1+d) i cs ?_;rw [hbx,Nat.add_comm,fX];unfold bB;rw [jS,hf];exact gN (h.box.nodup (d+1) f (by rw [hbx];simpa using hf)) hm
  rw [e1,e3,e4];omega
 refine ⟨⟨?_,fun i=>(h.slot i).mono (fun _ _ _ hx=>hx) hmonoB,fun i x hx=>hh _ _ (h.slotH i x hx),?_,fun b=>by show tot st.fr tm w' _ _ b≤1;rw [htot];exact ht b,h.glob,Nat.le_trans h.base hsz⟩,htot⟩;· intro b i v hm;obtain ⟨arr,T',fz,hx,hv⟩:=h.cons b i v hm;exact ⟨arr,T',fz,by rw [hold b (Array.getElem?_eq_some_iff.1 hx).1];exact hx,hv⟩
 refine ⟨?_,?_,?_,?_⟩
 ·intro d f hf;cases d with
  | zero =>
   simp at hf;subst hf;simp only [List.map_cons,List.nodup_cons];exact ⟨wZ.1 hid,h.box.nodup 0 b0 (by rw [hbx];rfl)⟩
  | succ d=>exact h.box.nodup (d+1) f (by rw [hbx];simpa using hf)
 ·intro d i hb';show setB B id blk d i=none;cases d with
  | zero =>
   simp [bF,iP] at hb';split at hb';· simp at hb'
   rename_i e;unfold setB;rw [if_neg (by rintro ⟨_,e2⟩;exact e e2.symm)];exact h.box.dom 0 i (by rw [hbx,bF];exact hb')
  | succ d =>
   unfold setB;rw [if_neg (by omega)];exact h.box.dom (d+1) i (by rw [hbx];exact hb')
 ·intro d i cs hb';by_cases e:d=0∧i=id;· obtain ⟨rfl,rfl⟩:=e;simp [bF,iP] at hb';subst hb';refine ⟨hv,.inl ⟨blk,by simp [setB],Nat.le_trans h.base hblk,⟨xs,T,fz,hnew,hl,hfz⟩,hMn,?_⟩⟩;intro j c hj;obtain ⟨r1,r2,r3⟩:=hr j c hj;rw [hcellnew];refine ⟨?_,hh _ _ r2,r3⟩;rw [aJH];exact r1.mono (fun _ _ _ hx=>hx) hmonoB
  have hb2:bB st.bx d i=some cs:=by
   rw [hbx];cases d with
   | zero =>
    simp [bF,iP] at hb' ⊢;rw [if_neg (by intro e2;exact e ⟨rfl,e2.symm⟩)] at hb';exact hb'
   | succ d=>exact hb'
  obtain ⟨hv',hbk⟩:=h.box.ok d i cs hb2;refine ⟨hv',?_⟩;rcases hbk with ⟨blk',hB',ok⟩ | hno;rotate_left;· refine .inr ⟨?_,hno.2⟩;unfold setB;rw [if_neg e];exact hno.1
  have hlt:=hBlt d i blk' hB';refine .inl ⟨blk',by grind,ok.old,?_,ok.free,?_⟩;· obtain ⟨arr,T',fz',hx,hs⟩:=ok.row;exact ⟨arr,T',fz',by rw [hold blk' hlt];exact hx,hs⟩
  intro j c hj;obtain ⟨r1,r2,r3⟩:=ok.rel j c hj;rw [hcellv blk' j hlt];exact ⟨r1.mono (fun _ _ _ hx=>hx) (fun d' i' b' hx=>hmonoB _ _ _ hx),hh _ _ r2,r3⟩
 intro d i d' i' b hB1 hB2;have sp:∀ d i b,setB B id blk d i=some b→(b=blk∧d=0∧i=id)∨(b<w.heap.size∧B d i=some b):=by
  intro d i b hB;unfold setB at hB;split at hB;· simp at hB;exact by omega
  exact by grind
 rcases sp d i b hB1 with ⟨e1,e2,e3⟩ | ⟨e1,e2⟩<;>rcases sp d' i' b hB2 with ⟨f1,f2,f3⟩ | ⟨f1,f2⟩;· exact ⟨by omega,by omega⟩
 ·omega
 ·omega
 exact h.box.inj d i d' i' b e2 f2
theorem xE {vs} (h:∀ c∈vs,fits 0 c=true):phys vs=vs∧uV vs=false:=by
 unfold phys uV;split;· have:=h _ (List.mem_singleton.2 rfl);simp [fits,PV.solid1] at this
 simp
theorem aU0 {vs} (h:uV vs=false):okV vs:=by
 unfold okV;split;· simp [uV] at h
 trivial
theorem SR.newBox (h:SR base M B st tm w) {a r} (e:st.bx=a::r) {id} (d:look a id=none) {vs xs T w'}
  (i:w'.heap=w.heap.push (.cells xs T (0,0))) (p:xs.size=vs.length)
  (k:∀ j c,vs[j]?=some c→Rv M B c (xs.getD j undef)∧h1 M w base B c (xs.getD j undef)∧fits 0 c=true)
  (n:∀ b,tot st.fr tm w B st.bx b+bT vs.length (fun j=>c1 (vs.getD j .bot) (xs.getD j undef) b)≤1) :
  SR base M (setB B id w.heap.size) {st with bx:=((id,vs)::a)::r} tm w' ∧
   ∀ b,tot st.fr tm w' (setB B id w.heap.size) (((id,vs)::a)::r) b=tot st.fr tm w B st.bx b+bT vs.length (fun j=>c1 (vs.getD j .bot) (xs.getD j undef) b):=by
 obtain ⟨m,f⟩:=xE (vs:=vs) fun c g=>by
  obtain ⟨j,l⟩:=List.mem_iff_getElem?.1 g;grind
 have:=h.newRow e d (cs:=vs) (xs:=xs) (T:=T) (fz:=(0,0)) (w':=w') (Nat.le_refl _) (fun b o=>by grind) (by grind) (by grind)
  (by grind) (by simp) (aU0 f) (by grind) (by grind)
 grind
theorem SR.setRow (h:SR base M B st tm w) {d id blk cs cs'} (r:bB st.bx d id=some cs) (u:B d id=some blk) {w'}
  (C:∀ b,b≠blk→w'.heap[b]?=w.heap[b]?) (N:w'.heap.size=w.heap.size) (z:∃ arr T fz,w'.heap[blk]?=some (.cells arr T fz)∧(phys cs').length≤arr.size∧∀ i,i<(phys cs').length→¬ (fz.1≤i∧i<fz.2))
  (hv:okV cs')
  (V:∀ j c,(phys cs')[j]?=some c→Rv M (upB d B) c (bN w' blk j)∧h1 M w base B c (bN w' blk j)∧fits 0 c=true)
  (Y:∀ b,tot st.fr tm w B st.bx b+cR w' blk 0 (phys cs') b≤1+cR w blk 0 (phys cs) b) :
  SR base M B {st with bx:=bW st.bx d id cs'} tm w' ∧
   ∀ b,tot st.fr tm w' B (bW st.bx d id cs') b+cR w blk 0 (phys cs) b=tot st.fr tm w B st.bx b+cR w' blk 0 (phys cs') b:=by
 have Q:=h.box.get r u;have X:∀ p v b,h1 M w base B p v→own1 p v=some b→b≠blk:=by
  intro p v b S U e;subst e;exact (S.nobox U).1 d id u
 have J:∀ p v,h1 M w base B p v→h1 M w' base B p v:=fun p v S=>S.world (fun _ _ _ n=>n) fun b U _=>⟨by grind,fun _=>rfl,fun d i n=>n⟩;have k:∀ b j,b≠blk→bN w' b j=bN w b j:=fun b j r=>by simp [bN,World.cell?,C b r]
 have H:∀ b cs j x,b≠blk→cR w' b j cs x=cR w b j cs x:=by
  intro b cs j x r;induction cs generalizing j with
  | nil=>rfl
  | cons c cs Z=>simp [cR,k b j r,Z]
 have t:∀ b,tot st.fr tm w' B (bW st.bx d id cs') b+cR w blk 0 (phys cs) b=tot st.fr tm w B st.bx b+cR w' blk 0 (phys cs') b:=by
  intro b;have:=aLz (g:=fun d i cs=>cBox w (B d i) cs b) (g':=fun d i cs=>cBox w' (B d i) cs b) (cs':=cs') st.bx 0 d h.box.nodup r (by
   intro e i c hc A;cases m:B e i with
   | none=>simp [m,cBox]
   | some f =>
    simp [m];exact H f (phys c) 0 b (by intro G;subst G;exact A (h.box.inj e i d id _ m u)))
  simp [u,cBox] at this;simp [tot,cBx,cBox];omega
 refine ⟨⟨?_,h.slot,fun i x n=>J _ _ (h.slotH i x n),?_,fun b=>by have:=t b;have:=Y b;show tot st.fr tm w' B (bW st.bx d id cs') b≤1;omega,h.glob,by rw [N];exact h.base⟩,t⟩;· intro b i v I;obtain ⟨arr,T,fz,n,hv⟩:=h.cons b i v I;exact ⟨arr,T,fz,by rw [C b (by intro e;subst e;rw [Q.free] at I;simp at I)];exact n,hv⟩
 refine ⟨aBb h.box.nodup d id cs',?_,?_,h.box.inj⟩
 ·intro y l o;rw [xD st.bx d id y l cs' cs r] at o;split at o;· simp at o
  exact h.box.dom y l o
 intro y l P o;rw [xD st.bx d id y l cs' cs r] at o;split at o;· rename_i e;obtain ⟨rfl,rfl⟩:=e;cases o;refine ⟨hv,.inl ⟨blk,u,Q.old,z,Q.free,?_⟩⟩;intro j c K;obtain ⟨L,E,R⟩:=V j c K;exact ⟨L,J _ _ E,R⟩
 rename_i e;obtain ⟨D,O⟩:=h.box.ok y l P o;refine ⟨D,?_⟩;rcases O with ⟨f,m,q⟩ | F;rotate_left;· exact .inr F
 have s:f≠blk:=by intro G;subst G;exact e (h.box.inj y l d id _ m u)
 obtain ⟨arr,T,fz,n,W⟩:=q.row;refine .inl ⟨f,m,q.old,⟨arr,T,fz,by rw [C f s];exact n,W⟩,q.free,?_⟩;intro j c K;obtain ⟨L,E,R⟩:=q.rel j c K;rw [k f j s];exact ⟨L,J _ _ E,R⟩
theorem uY {cs} (h:uV cs=false):phys cs=cs:=by
 unfold uV at h;unfold phys;grind
theorem SR.setBox (h:SR base M B st tm w) {d id blk cs cs'} (o:bB st.bx d id=some cs) (l:B d id=some blk) (a:uV cs=false) (g:cs'.length=cs.length) {w'}
  (k:∀ b,b≠blk→w'.heap[b]?=w.heap[b]?) (e:w'.heap.size=w.heap.size) (f:∃ arr T fz,w'.heap[blk]?=some (.cells arr T fz)∧cs.length≤arr.size∧∀ i,i<cs.length→¬ (fz.1≤i∧i<fz.2))
  (s:∀ j c,cs'[j]?=some c→Rv M (upB d B) c (bN w' blk j)∧h1 M w base B c (bN w' blk j)∧fits 0 c=true)
  (r:∀ b,tot st.fr tm w B st.bx b+cR w' blk 0 cs' b≤1+cR w blk 0 cs b) :
  SR base M B {st with bx:=bW st.bx d id cs'} tm w' ∧
   ∀ b,tot st.fr tm w' B (bW st.bx d id cs') b+cR w blk 0 cs b=tot st.fr tm w B st.bx b+cR w' blk 0 cs' b:=by
 obtain ⟨q,m⟩:=xE (vs:=cs') fun c n=>by
  obtain ⟨j,p⟩:=List.mem_iff_getElem?.1 n;grind
 have t:=uY a;have:=h.setRow o l (cs':=cs') (w':=w') k e (by grind) (aU0 m) (by grind) (by grind);grind
end
theorem aB {α β} {x} {k:α→Option β} {r} (h:bnd x k=some r):∃ a,x=some a∧k a=some r:=by
 cases x with
 | none=>simp [bnd] at h
 | some a=>exact ⟨a,rfl,h⟩
theorem bA {β} {c} {x y:Option β} {r} (h:cnd c x y=some r):(c=true∧x=some r)∨(c=false∧y=some r):=by
 cases c;· exact .inr ⟨rfl,h⟩
 exact .inl ⟨rfl,h⟩
def Flat (p:PV):Prop:=(∃ b,p = .bool b)∨(∃ k n,p = .int k n)∨(∃ s,p = .str s)
theorem Flat.no {p} (h:Flat p) v:dU p v:=by
 rcases h with ⟨b,rfl⟩ | ⟨k,n,rfl⟩ | ⟨s,rfl⟩<;>(intro x a;simp [atoms,zipA] at a;subst a;cases v<;>rfl)
section
variable {P : Program} {M : Mem} {B : BM} (w : World)
theorem dE {t n} (h:szOf P t=some n):(sizeOf t).run P w = .ok n w:=by
 unfold szOf at h;cases a:P.info? t with
 | none=>grind
 | some i=>simp [a] at h;subst h;simp [sizeOf,typeInfo,a]
theorem tS {t a} (h:agOf P t=some a):(isAgg t).run P w = .ok a w:=by
 unfold agOf at h;cases b:P.underlying t with
 | none=>grind
 | some d=>cases d<;>simp_all [isAgg,underlying]
theorem pQ {t z} (h:aEX P t=some z):∃ v,(zeroValue t).run P w = .ok v w∧z=ofValue v∧∃ i,P.info? t=some i∧i.zero=some v:=by
 unfold aEX at h;cases a:P.info? t with
 | none=>grind
 | some i =>
  simp [a] at h;obtain ⟨v,hv,rfl⟩:=h;exact ⟨v,by simp [zeroValue,typeInfo,a,hv],rfl,i,rfl,hv⟩
theorem aLA s:(ByteArray.mk s.toArray).toList=s:=by simp
theorem Rv.int_inv {k n v} (h:Rv M B (.int k n) v):v = .int k n:=by cases h;rfl
theorem Rv.bool_inv {b v} (h:Rv M B (.bool b) v):v = .bool b:=by cases h;rfl
theorem Rv.str_inv {s v} (h:Rv M B (.str s) v):v = .string ⟨s.toArray⟩:=by cases h;rfl
theorem aTa {c k a b r} t (h:mA c k a b=some r) (f:c ≠ .shl) (e:c ≠ .shr) :
  ∃ v,(binOp c t (.int k a) (.int k b)).run P w = .ok v w∧(∀ M B,Rv M B r v)∧Flat r:=by
 cases c<;>simp only [mA,Option.some.injEq] at h<;>(try contradiction);case quo =>
  split at h;· grind
  rename_i d;cases h;exact ⟨_,by first | (simp [binOp,Op.intDiv,d]) | (simp),fun _ _ => .int _ _,.inr (.inl ⟨_,_,rfl⟩)⟩
 case rem =>
  split at h;· grind
  rename_i d;cases h;exact ⟨_,by first | (simp [binOp,Op.intDiv,d]) | (simp),fun _ _ => .int _ _,.inr (.inl ⟨_,_,rfl⟩)⟩
 case add=>subst h;exact ⟨.int k (k.wrap (a+b)),by simp [binOp,Op.intArith],fun _ _ => .int _ _,.inr (.inl ⟨_,_,rfl⟩)⟩
 case sub=>subst h;exact ⟨.int k (k.wrap (a-b)),by simp [binOp,Op.intArith],fun _ _ => .int _ _,.inr (.inl ⟨_,_,rfl⟩)⟩
 case mul=>subst h;exact ⟨.int k (k.wrap (a*b)),by simp [binOp,Op.intArith],fun _ _ => .int _ _,.inr (.inl ⟨_,_,rfl⟩)⟩
 case and=>subst h;exact ⟨.int k (bits .and k a b),by simp [binOp,Op.intBits,bits],fun _ _ => .int _ _,.inr (.inl ⟨_,_,rfl⟩)⟩
 case or=>subst h;exact ⟨.int k (bits .or k a b),by simp [binOp,Op.intBits,bits],fun _ _ => .int _ _,.inr (.inl ⟨_,_,rfl⟩)⟩
 case xor=>subst h;exact ⟨.int k (bits .xor k a b),by simp [binOp,Op.intBits,bits],fun _ _ => .int _ _,.inr (.inl ⟨_,_,rfl⟩)⟩
 case andNot=>subst h;exact ⟨.int k (bits .andNot k a b),by simp [binOp,Op.intBits,bits],fun _ _ => .int _ _,.inr (.inl ⟨_,_,rfl⟩)⟩
 all_goals
  subst h;exact ⟨.bool _,by simp [binOp,Op.intCmp],fun _ _ => .bool _,.inl ⟨_,rfl⟩⟩
theorem aTb {d a b r} t (h:aUV d a b=some r) :
  ∃ v,(binOp d t (.string ⟨a.toArray⟩) (.string ⟨b.toArray⟩)).run P w = .ok v w∧(∀ M B,Rv M B r v)∧Flat r:=by
 have g:∀ c,(binOp c t (.string ⟨a.toArray⟩) (.string ⟨b.toArray⟩))=Op.stringOp c ⟨a.toArray⟩ ⟨b.toArray⟩:=by intro c;cases c<;>rfl
 rw [g];cases d<;>simp only [aUV,Option.some.injEq] at h<;>(try contradiction);case add =>
  split at h
  ·rename_i f;cases h;refine ⟨.string (⟨a.toArray⟩++⟨b.toArray⟩),?_,?_,.inr (.inr ⟨_,rfl⟩)⟩
   ·have e:¬ (((ByteArray.mk a.toArray).size+(ByteArray.mk b.toArray).size:Nat):Int)>IntKind.i64.max:=by
     have:(ByteArray.mk a.toArray).size+(ByteArray.mk b.toArray).size=a.length+b.length:=by simp [ByteArray.size]
     simp [lim] at f;have:IntKind.i64.max=9223372036854775807:=by decide
     omega
    simp only [Op.stringOp,if_neg e];simp
   intro M B;exact .str _
  grind
 all_goals
  subst h;exact ⟨_,by first | (simp [Op.stringOp]) | (simp),fun _ _ => .bool _,.inl ⟨_,rfl⟩⟩
theorem bAd {g x y r a b} t (h:bin g x y=some r) (f:Rv M B x a) (d:Rv M B y b) :
  ∃ v,(binOp g t a b).run P w = .ok v w∧(∀ M B,Rv M B r v)∧Flat r∧(∀ cs,a ≠ .agg cs)∧a ≠ .nilIface:=by
 unfold bin at h;split at h
 ·rw [f.int_inv,d.int_inv];split at h
  ·split at h;· grind
   rename_i c;cases h;exact ⟨_,by first | (simp [binOp,Op.shift,c]) | (simp),fun _ _ => .int _ _,.inr (.inl ⟨_,_,rfl⟩),by simp,by simp⟩
  ·split at h;· grind
   rename_i c;cases h;exact ⟨_,by first | (simp [binOp,Op.shift,c]) | (simp),fun _ _ => .int _ _,.inr (.inl ⟨_,_,rfl⟩),by simp,by simp⟩
  rename_i k j;split at h;· obtain ⟨v,hv,i,l⟩:=aTa (P:=P) w t h (fun e=>k e) (fun e=>j e);grind
  grind
 ·rw [f.str_inv,d.str_inv];obtain ⟨v,hv,i,l⟩:=aTb (P:=P) w t h;grind
 grind
theorem tT c t x y {a b} (e:∀ cs,a ≠ .agg cs) (d:a ≠ .nilIface):(eqGuard c t x y a b).run P w = .ok () w:=by
 cases a<;>first
  | exact absurd rfl d
  | exact absurd rfl (e _)
  | (cases c<;>rfl)
def aGm (t:TypeId) (ag:Bool) (n off:Nat) (xs:Array Value) (x:Value):Prop :=
 match ag with
 | true=>x = .agg (xs.extract off (off+n))∧off+n≤xs.size
 | false=>xs[off]?=some x
theorem aRA {t n off b xs} (c:szOf P t=some n) (d:agOf P t=some b) (h:off+n≤xs.size) (e:0<n) :
  ∃ x,(Go.part t xs off).run P w = .ok x w∧aGm t b n off xs x:=by
 unfold Go.part;simp [tS w d];cases b with
 | true=>simp only [dE w c];exact ⟨_,rfl,rfl,h⟩
 | false =>
  have a:off<xs.size:=by omega
  simp only [Array.getElem?_eq_getElem a];exact ⟨_,rfl,by simp [aGm]⟩
theorem aU1 {l i} (h:gt l i ≠ .bot):l[i]?=some (gt l i):=by
 rw [aBt] at h ⊢;grind
theorem aGn {X Y r}:∀ l m,eqAt X Y (l++m)=some r→∃ a b,eqAt X Y l=some a∧eqAt X Y m=some b∧r=(a&&b)
 | [],m,h=>⟨true,r,rfl,h,by simp⟩
 | (i,k)::l,m,h=>by
  simp [eqAt] at h;split at h;· rename_i a b j g;obtain ⟨c,e,f,d,rfl⟩:=aGn l m g;exact ⟨a&&c,e,by simp [eqAt,j,f],d,by grind⟩
  grind
theorem aJJ {X Y i k r} (h:eqAt X Y [(i,k)]=some r):aA8 k (gt X i) (gt Y i)=some r:=by
 simp [eqAt] at h;grind
theorem aGo {X Y xs ys} (u:∀ (i:Nat) c,X[i]?=some c→∃ v,xs[i]?=some v∧Rv M B c v) (z:∀ (i:Nat) c,Y[i]?=some c→∃ v,ys[i]?=some v∧Rv M B c v) :
  ∀ d D t off n ag ls r x y,aBa P d t off=some ls→eqAt X Y ls=some r→szOf P t=some n→agOf P t=some ag →
   aGm t ag n off xs x→aGm t ag n off ys y→d≤D→(Op.equalIn D t x y).run P w = .ok r w
 | 0,D,t,off,n,ag,ls,r,x,y,h,_,_,_,_,_,_=>by simp [aBa] at h
 | d+1,0,t,off,n,ag,ls,r,x,y,h,_,_,_,_,_,R=>by omega
 | d+1,D+1,t,off,n,ag,ls,r,x,y,h,he,S,ha,hx,hy,R=>by
  have leaf:∀ k,aA8 k (gt X off) (gt Y off)=some r→ag=false→∃ p q,Rv M B (gt X off) p∧Rv M B (gt Y off) q∧x=p∧y=q:=by
   intro k hk hag;subst hag;have U:gt X off ≠ .bot:=by intro e;rw [e] at hk;unfold aA8 at hk;split at hk<;>simp_all
   have O:gt Y off ≠ .bot:=by intro e;rw [e] at hk;unfold aA8 at hk;split at hk<;>simp_all
   obtain ⟨p,hp,rp⟩:=u off _ (aU1 U);obtain ⟨q,o,rq⟩:=z off _ (aU1 O);simp [aGm] at hx hy;rw [hx] at hp;rw [hy] at o;cases hp;cases o;exact ⟨_,_,rp,rq,rfl,rfl⟩
  unfold aBa at h;split at h
  ·rename_i hu;cases h;have hk:=aJJ he;have hag  := by simp [agOf,hu] at ha;exact ha
   obtain ⟨p,q,rp,rq,rfl,rfl⟩:=leaf 0 hk hag;unfold aA8 at hk;split at hk;· simp at *
   ·simp at *
   ·rename_i a b s e2 e3;cases hk;rw [e2] at rp;rw [e3] at rq;rw [rp.bool_inv,rq.bool_inv];exact run_equalIn_bool' w D t a b hu
   simp at hk
  ·rename_i N hu;cases h;have hk:=aJJ he;have hag  := by simp [agOf,hu] at ha;exact ha
   obtain ⟨p,q,rp,rq,rfl,rfl⟩:=leaf 1 hk hag;unfold aA8 at hk;split at hk
   ·rename_i k a k' b s e2 e3;split at hk;· rename_i I;subst I;cases hk;rw [e2] at rp;rw [e3] at rq;rw [rp.int_inv,rq.int_inv];exact run_equalIn_int w D t k N a b hu
    simp at hk
   ·simp at *
   ·simp at *
   simp at hk
  ·rename_i hu;cases h;have hk:=aJJ he;have hag  := by simp [agOf,hu] at ha;exact ha
   obtain ⟨p,q,rp,rq,rfl,rfl⟩:=leaf 2 hk hag;unfold aA8 at hk;split at hk;· simp at *
   ·rename_i a b s e2 e3;cases hk;rw [e2] at rp;rw [e3] at rq;rw [rp.str_inv,rq.str_inv];have:=run_equalIn_string (P:=P) w D t ⟨a.toArray⟩ ⟨b.toArray⟩ hu;rw [this,aLA,aLA]
   ·simp at *
   simp at hk
  ·rename_i fs hu;split at h
   ·rename_i sz m hsz;rw [S] at hsz;cases hsz;have hag  := by simp [agOf,hu] at ha;exact ha
    subst hag;simp [aGm] at hx hy;obtain ⟨rfl,F⟩:=hx;obtain ⟨rfl,E⟩:=hy;have hfo:P.fieldsOf t=fs:=by simp [Program.fieldsOf,hu]
    rw [run_equalIn_struct w D t _ _ (by rw [hfo];exact hu) m,hfo];clear hfo hu leaf;generalize fs.toList=l at h;induction l generalizing ls r with
    | nil =>
     simp [List.foldr_nil] at h;cases h;simp [eqAt] at he;cases he;simp [Op.eqFields]
    | cons f l ih =>
     simp [List.foldr_cons] at h;split at h
     ·rename_i n' A V hname hn' hl1 T;split at h
      ·rename_i hlay;cases h;obtain ⟨a,b,g,Q,rfl⟩:=aGn A V he;have hne  := by simpa using hname
       obtain ⟨ag',hag'⟩:∃ ag',agOf P f.type=some ag':=by
        unfold agOf;cases K:P.underlying f.type with
        | none =>
         cases d with
         | zero=>simp [aBa] at hl1
         | succ d=>simp [aBa,K] at hl1
        | some H=>cases H<;>simp
       have J:(xs.extract off (off+n)).size=n:=by simp;omega
       have L:(ys.extract off (off+n)).size=n:=by simp;omega
       obtain ⟨G,hpx,qx⟩:=aRA (P:=P) w (xs:=xs.extract off (off+n)) (off:=f.offset) hn' hag' (by omega) hlay.2;obtain ⟨C,j,Z⟩:=aRA (P:=P) w (xs:=ys.extract off (off+n)) (off:=f.offset) hn' hag' (by omega) hlay.2;have W:∀ zs p,off+n≤zs.size→aGm f.type ag' n' f.offset (zs.extract off (off+n)) p→aGm f.type ag' n' (off+f.offset) zs p:=by
        intro zs p hz hp;cases ag' with
        | true =>
         simp only [aGm] at hp ⊢;obtain ⟨rfl,_⟩:=hp;refine ⟨?_,by omega⟩;rw [Array.extract_extract];congr 2;omega
        | false =>
         simp [aGm] at hp ⊢;rw [Array.getElem?_extract] at hp;split at hp;· exact hp
         simp at hp
       have hcell:=aGo u z d D f.type (off+f.offset) n' ag' A a G C hl1 g hn' hag' (by grind) (by grind) (by omega);simp [Op.eqFields,if_pos hne,hpx,j,hcell];cases a with
       | true=>exact by grind
       | false=>simp
      simp at h
     simp at h
   simp at h
  simp at h
end
def Aft (base:Base) (M:Mem) (B:BM) (st:St) (tm:Array Value) (w:World) (e:Eff) (tm':Array Value) (w':World):Prop :=
 tm'.size=tm.size∧∃ M' B',SR base M' B' (e.app st) tm' w' ∧
 Evo w M (tot st.fr tm w B st.bx) B w' M' (tot (e.app st).fr tm' w' B' (e.app st).bx) B'
section
variable {P : Program} {base : Base} {M : Mem} {B : BM} {st : St} {tm : Array Value} {w : World} {next : Act → World → Prop} {Q : Exit → Act → World → Prop}
theorem aJK (a:Act) (dst:Option Nat) v:a.put dst v=⟨putT a.tmps dst v,a.defers⟩:=by cases dst<;>rfl
theorem upon_value {o a v w w' e} (b:(execOp a.eval o).run P w = .ok (.value v) w')
  (d:Aft base M B st a.tmps w e (putT a.tmps o.dst v) w') (f:∀ c w',Aft base M B st a.tmps w e c w'→next ⟨c,a.defers⟩ w') :
  o.upon P a next Q ((execOp a.eval o).run P w):=by
 rw [b,Oper.upon_value,aJK];grind
theorem aGp st ws:({ws:=ws}:Eff).app st={st with fr:=ws++st.fr}:=by
 cases st with
 | mk fr bx=>cases bx<;>rfl
theorem jG (h:SR base M B st tm w) {dst p v} (c:Rv M B p v) (e:dU p v) :
  Aft base M B st tm w {ws:=dstW tm.size dst p} (putT tm dst v) w:=by
 obtain ⟨d,a⟩:=h.putN dst c e;refine ⟨fB _ _ _,M,B,?_,?_⟩;· exact d
 exact {Evo.refl w M (tot st.fr tm w B st.bx) B with tle:=fun b _=>a b}
theorem aJL (h:SR base M B st tm w) {dst lv p v} (f:SR base M B {st with fr:=lv++st.fr} tm w)
  (e:Rv M B p v) (d:hV M w base B p v) (a:∀ b,tot (lv++st.fr) tm w B st.bx b+cV p v b≤tot st.fr tm w B st.bx b) :
  Aft base M B st tm w {ws:=dstW tm.size dst p++lv} (putT tm dst v) w:=by
 obtain ⟨c,g⟩:=f.put dst e d (fun b=>Nat.le_trans (a b) (h.one b));refine ⟨fB _ _ _,M,B,?_,?_⟩;· rw [aGp,List.append_assoc];exact c
 rw [aGp,List.append_assoc];exact {Evo.refl w M (tot st.fr tm w B st.bx) B with tle:=fun b _=>by grind}
theorem dU.of1 {p v} (c:∀ cs,p ≠ .agg cs) (b:∀ cs,p ≠ .tuple cs) (h:own1 p v=none):dU p v:=by
 intro x a;rw [aGk c b] at a;grind
theorem mD d id off v:dU (.ptr d id off) v:=dU.of1 (by simp) (by simp) (by cases v<;>rfl)
theorem aGq e v:dU (.ref e) v:=dU.of1 (by simp) (by simp) (by cases v<;>rfl)
theorem qC f a b v:dU (.func f a b) v:=dU.of1 (by simp) (by simp) (by cases v<;>rfl)
theorem kL es a v:dU (.slice es a false) v:=dU.of1 (by simp) (by simp) (pE es a v)
theorem aBv a o v:dU (.slice [] a o) v:=dU.of1 (by simp) (by simp) (by cases v<;>rfl)
theorem Rv.int_of {x a k n} (h:Rv M B x a) (e:x = .int k n):a = .int k n:=by subst e;exact h.int_inv
theorem bBo {c x r a} (h:un c x=some r) (b:Rv M B x a):∃ v,(Op.unary c a).run P w = .ok v w∧(∀ M B,Rv M B r v)∧Flat r:=by
 unfold un at h;split at h;· cases h;rw [b.bool_inv];exact ⟨_,rfl,fun _ _ => .bool _,.inl ⟨_,rfl⟩⟩
 ·cases h;rw [b.int_inv];exact ⟨_,rfl,fun _ _ => .int _ _,.inr (.inl ⟨_,_,rfl⟩)⟩
 ·cases h;rw [b.int_inv];exact ⟨.int _ _,by simp [Op.unary,Op.intBits,bits],fun _ _ => .int _ _,.inr (.inl ⟨_,_,rfl⟩)⟩
 grind
theorem aIT {x y r a b} (d:Rv M B x a) (c:Rv M B y b) :
  (mn x y=some r→∃ v,(Builtin.min2 a b).run P w = .ok v w∧(∀ M B,Rv M B r v)∧Flat r)∧(mx x y=some r→∃ v,(Builtin.max2 a b).run P w = .ok v w∧(∀ M B,Rv M B r v)∧Flat r):=by
 constructor
 ·intro h;unfold mn at h;split at h;· cases h;rw [d.int_inv,c.int_inv];exact ⟨_,rfl,fun _ _ => .int _ _,.inr (.inl ⟨_,_,rfl⟩)⟩
  grind
 intro h;unfold mx at h;split at h;· cases h;rw [d.int_inv,c.int_inv];exact ⟨_,rfl,fun _ _ => .int _ _,.inr (.inl ⟨_,_,rfl⟩)⟩
 grind
theorem aXl {x r a t ty} (h:len 0 x=some r) (d:Rv M B x a) (c:P.underlying t=some .string) :
  ∃ v,(Builtin.len_ #[t] ty #[a]).run P w = .ok v w∧(∀ M B,Rv M B r v)∧Flat r:=by
 obtain ⟨n,b,h⟩:=aB h;cases h;unfold lenN at b;split at b;· cases b;rw [d.str_inv];rename_i s _;refine ⟨.int .i64 s.length,?_,fun _ _ => .int _ _,.inr (.inl ⟨_,_,rfl⟩)⟩;simp [Builtin.len_,run_underlying c];rfl
 all_goals grind
theorem aXm {x r a t ty e} (h:len 1 x=some r) (g:Rv M B x a) (d:P.underlying t=some (.slice e)) :
  ∃ v,(Builtin.len_ #[t] ty #[a]).run P w = .ok v w∧(∀ M B,Rv M B r v)∧Flat r:=by
 obtain ⟨n,c,h⟩:=aB h;cases h;unfold lenN at c;split at c;· omega
 ·cases c;cases g with
  | nil o=>exact ⟨.int .i64 _,by simp [Builtin.len_,run_underlying d,goInt],fun _ _ => .int _ _,.inr (.inl ⟨_,_,rfl⟩)⟩
  | slice es m o a cap s f l i u j y k=>exact ⟨.int .i64 _,by simp [Builtin.len_,run_underlying d,goInt],fun _ _ => .int _ _,.inr (.inl ⟨_,_,rfl⟩)⟩
 ·cases c;cases g;exact ⟨.int .i64 _,by simp [Builtin.len_,run_underlying d,goInt],fun _ _ => .int _ _,.inr (.inl ⟨_,_,rfl⟩)⟩
 ·cases c;cases g with
  | rsl _ _ _ _ b cap q i=>exact ⟨.int .i64 _,by simp [Builtin.len_,run_underlying d,goInt],fun _ _ => .int _ _,.inr (.inl ⟨_,_,rfl⟩)⟩
  | rslNil _ _ _ p=>exact ⟨.int .i64 _,by simp [Builtin.len_,run_underlying d,goInt],fun _ _ => .int _ _,.inr (.inl ⟨_,_,rfl⟩)⟩
 grind
theorem Addr.add_none (a:Addr) n (h:a.spot=none):a.add n=⟨a.block,a.off+n,none⟩:=by
 unfold Addr.add;split;· cases a;simp_all
 rfl
theorem uZ {fs i off n a} (h:pO P fs i=some (off,n,a)) :
  ∃ f,fs[i]?=some f∧f.offset=off∧szOf P f.type=some n∧agOf P f.type=some a:=by
 unfold pO at h;grind
theorem aU2 {s off n f e p} (r:okEl s e) (h:fld off n f e=some p) (u:0<n) :
  ∃ cs,e = .agg cs∧okEl (if f then n else 1) p∧(∀ j c,p.cells[j]?=some c→cs[off+j]?=some c∧off+j<s)∧(f=true→∃ ps,p = .agg ps)∧(f=false→(∀ cs,p ≠ .agg cs)∧(∀ cs,p ≠ .tuple cs)):=by
 unfold fld at h;split at h
 ·rename_i cs;obtain ⟨m,l,o,x⟩:=r;simp [PV.cells] at o;simp [PV.solid] at m;simp [PV.plain,PV.plainA] at l;have d:∀ (j:Nat) c,cs[j]?=some c→c.plain1=c:=by
   intro j c a;have:(cs.map PV.plain1)[j]?=some c:=by rw [l];exact a
   simp [a] at this;exact this
  refine ⟨cs,rfl,?_⟩;unfold part at h;cases f with
  | true =>
   simp only at h;split at h
   ·rename_i q;cases h;have i:∀ j c,((cs.drop off).take n)[j]?=some c→cs[off+j]?=some c:=by
     intro j c a;rw [List.getElem?_take] at a;split at a;· rwa [List.getElem?_drop] at a
     simp at a
    refine ⟨⟨?_,?_,?_,by simpa using u⟩,?_,fun _=>⟨_,rfl⟩,by simp⟩;· simp [PV.solid];intro c a;exact by grind
    ·simp only [PV.plain,PV.plainA,PV.agg.injEq];apply List.ext_getElem?;intro j;rw [List.getElem?_map];cases a:((cs.drop off).take n)[j]? with
     | none=>rfl
     | some c=>simp [d (off+j) c (i j c a)]
    ·simp [PV.cells];omega
    intro j c a;refine ⟨i j c a,?_⟩;have:=(List.getElem?_eq_some_iff.1 (i j c a)).1;omega
   simp at h
  | false =>
   simp [jS] at h;have g:=m p (List.mem_of_getElem? h);have w:=d off p h;have t:=(List.getElem?_eq_some_iff.1 h).1;have k:∀ cs,p ≠ .agg cs:=by intro cs e;subst e;simp [PV.solid1] at g
   have v:∀ cs,p ≠ .tuple cs:=by intro cs e;subst e;simp [PV.solid1] at g
   have b:=aGj k;refine ⟨⟨?_,?_,by simp [b],by simp⟩,?_,by simp,fun _=>⟨k,v⟩⟩;· cases p<;>first | exact g | exact by grind
   ·cases p<;>first | exact w | exact by grind | exact by grind
   intro j c a;rw [b] at a;cases j with
   | zero=>simp at a;subst a;exact ⟨h,by omega⟩
   | succ j=>simp at a
 simp at h
theorem aOA {x r a} {s f off n:Nat} {C fs} (H:P.underlying s=some (.struct fs)) (G:pO P fs f=some (off,n,C)) (E:0<n)
  (h:fad off n C x=some r) (A:Rv M B x a):∃ v,(Instr.fieldAt s a f).run P w = .ok v w∧Rv M B r v∧((∃ d i o,r = .ptr d i o)∨∃ e,r = .ref e):=by
 obtain ⟨m,y,rfl,t,K⟩:=uZ G;have key:∀ k,k.spot=none→(Instr.fieldAt s (.pointer (some k)) f).run P w = .ok (.pointer (some ⟨k.block,k.off+m.offset,none⟩)) w:=by
  intro k z;simp [Instr.fieldAt,run_underlying H,y,Instr.sureAddr,fieldPlace,dE w t];rw [if_neg (by omega)];simp [Addr.add_none k _ z]
 unfold fad at h;split at h
 ·rename_i d id o;cases h;cases A with
  | ptr d id o b L=>exact ⟨_,by grind,.ptr d id (o+m.offset) b L,by simp⟩
 ·obtain ⟨p,N,h⟩:=aB h;cases h;cases A with
  | ref e k sz g J u S F =>
   obtain ⟨cs,rfl,q,l,O,R⟩:=aU2 u N E;refine ⟨_,key k J,?_,by simp⟩;refine .ref p ⟨k.block,k.off+m.offset,none⟩ _ (fun j=>g (m.offset+j)) rfl q ?_ ?_
   ·intro j D;have Q:j<p.cells.length:=by rw [q.2.2.1];exact D
    grind
   intro j c I;exact F (m.offset+j) c (l j c I).1
 grind
theorem aLB {r xs cs} {t off n:Nat} {d} (b:szOf P t=some n) (a:agOf P t=some d) (h:part off n d cs=some r) (e:Rv M B (.agg cs) (.agg xs)) :
  ∃ v,(Go.part t xs off).run P w = .ok v w∧Rv M B r v:=by
 cases e with
 | agg _ _ f k j g =>
  unfold part at h;cases d with
  | true =>
   simp only at h;split at h;· cases h;refine ⟨.agg (xs.extract off (off+n)),by simp [Go.part,tS w a,dE w b],?_⟩;refine .agg _ _ (fun i=>f (off+i)) (by grind) ?_ ?_;all_goals grind
   grind
  | false =>
   simp [jS] at h;have c:=(List.getElem?_eq_some_iff.1 h).1;exact ⟨f off,by simp [Go.part,tS w a,j off c],g off r h⟩
theorem aU3 {x r a} {s f off n:Nat} {j fs} (m:P.underlying s=some (.struct fs)) (l:pO P fs f=some (off,n,j))
  (h:fld off n j x=some r) (i:Rv M B x a):∃ v,(Instr.field s a f).run P w = .ok v w∧Rv M B r v:=by
 obtain ⟨q,e,rfl,b,c⟩:=uZ l;unfold fld at h;split at h
 ·have d:=i;cases i with
  | agg _ xs g t p o =>
   obtain ⟨v,hv,k⟩:=aLB (P:=P) (w:=w) b c h d;exact ⟨v,by simp [Instr.field,run_underlying m,e,asAgg,hv],k⟩
 grind
theorem aOB {x i r a b} {t e n:Nat} (G:P.underlying t=some (.slice e)) (g:szOf P e=some n) (h:ix n x i=some r) (F:Rv M B x a) (E:Rv M B i b) :
  ∃ v,(Instr.indexAt t a b).run P w = .ok v w∧Rv M B r v∧((∃ e,r = .ref e)∨∃ d i o,r = .ptr d i o):=by
 unfold ix at h;split at h
 ·rename_i es J o k m;split at h;· grind
  rename_i L;obtain ⟨D,l,h⟩:=aB h;split at h
  ·rename_i K;cases h;rw [jS] at l;have O:=(List.getElem?_eq_some_iff.1 l).1;rw [E.int_inv];cases F with
   | nil o=>grind
   | slice es J o q cap s f y I T C N U =>
    have y:=y (by omega);have p:(es++J)[m.toNat]?=some D:=by grind
    have H:=C _ _ p;have z:s=n:=by rw [← H.2.2.1];omega
    subst z;refine ⟨.pointer (some ⟨q.block,q.off+m.toNat*s,none⟩),?_,?_,by simp⟩
    ·have u:0≤m:=by omega
     have A:m<es.length:=by omega
     simp [Instr.indexAt,run_underlying G,asIntOf,u,A,dE w g,Addr.add_none q _ y]
    exact .ref D _ s (fun j=>f m.toNat j) rfl H (fun j S=>by grind) (fun j c I=>by grind)
  grind
 ·rename_i d id Q sz k m;split at h
  ·rename_i N;cases h;rw [E.int_inv];cases F with
   | rsl _ _ _ _ bk cap R I =>
    refine ⟨.pointer (some ⟨bk,0+m.toNat*n,none⟩),?_,?_,by simp⟩
    ·have u  := N.1;have A:m<Q:=by omega
     simp [Instr.indexAt,run_underlying G,asIntOf,u,A,dE w g,Addr.add_none ⟨bk,0,none⟩ _ rfl]
    rw [Nat.zero_add];exact .ptr d id _ bk R
   | rslNil=>omega
  grind
 grind
theorem aLC {x i r a b} {t e len n:Nat} (p:P.underlying t=some (.array len e)) (c:szOf P e=some n) (h:aZ7 len n x i=some r) (g:Rv M B x a) (j:Rv M B i b) :
  ∃ v,(Instr.indexAt t a b).run P w = .ok v w∧Rv M B r v∧∃ d i o,r = .ptr d i o:=by
 unfold aZ7 at h;split at h
 ·rename_i d id o k m;split at h
  ·rename_i f;cases h;rw [j.int_inv];cases g with
   | ptr d id o bk l =>
    refine ⟨.pointer (some ⟨bk,o+m.toNat*n,none⟩),?_,.ptr d id _ bk l,⟨_,_,_,rfl⟩⟩;simp [Instr.indexAt,run_underlying p,asIntOf,Instr.sureAddr,f.1,f.2,dE w c,Addr.add_none (⟨bk,o,none⟩:Addr) _ rfl]
  grind
 grind
theorem aLD {x i r a b} {t:Nat} (n:P.underlying t=some .string) (h:sZ x i=some r) (g:Rv M B x a) (j:Rv M B i b) :
  ∃ v,(Instr.index t a b).run P w = .ok v w∧(∀ M B,Rv M B r v)∧Flat r:=by
 unfold sZ at h;split at h
 ·rename_i s k m;split at h;· grind
  obtain ⟨c,e,h⟩:=aB h;cases h;rw [jS] at e;have d:=(List.getElem?_eq_some_iff.1 e).1;rw [j.int_inv,g.str_inv];refine ⟨.int .u8 c.toNat,?_,fun _ _ => .int _ _,.inr (.inl ⟨_,_,rfl⟩)⟩;have f:0≤m:=by omega
  have l:(ByteArray.mk s.toArray)[m.toNat]?=some c:=by
   have  := by simpa [ByteArray.size] using d
   rw [getElem?_pos (ByteArray.mk s.toArray) m.toNat this];show some (s.toArray[m.toNat]'_)=some c;grind
  simp [Instr.index,asIntOf,run_underlying n,f,l]
 grind
theorem aLE {x i r a b} {t e len n:Nat} {k} (o:P.underlying t=some (.array len e)) (c:szOf P e=some n) (d:agOf P e=some k) (h:aZ8 len n k x i=some r) (j:Rv M B x a) (p:Rv M B i b) :
  ∃ v,(Instr.index t a b).run P w = .ok v w∧Rv M B r v:=by
 unfold aZ8 at h;split at h
 ·split at h
  ·rename_i l;rw [p.int_inv];have f:=j;cases j with
   | agg _ xs g u s q =>
    obtain ⟨v,hv,m⟩:=aLB (P:=P) (w:=w) c d h f;exact ⟨v,by simp [Instr.index,asIntOf,run_underlying o,l.1,l.2,dE w c,hv],m⟩
  grind
 grind
end
end Go.Ev

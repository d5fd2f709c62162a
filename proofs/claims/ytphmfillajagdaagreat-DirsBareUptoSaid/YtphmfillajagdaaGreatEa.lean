import Derived.Calls
import Derived.Scope
import Derived.LoopN
import Derived.Laws.CopyRow
import Derived.Laws.Append
import Derived.Laws.Slices
import Derived.Laws.IdiomStrings
import Derived.Laws.BytesString
import Derived.Laws.StructEq
import Derived.Laws.Tables
set_option linter.unusedVariables false
set_option linter.unusedSimpArgs false
namespace Go.Ev
inductive PV where
 | bot
 | und
 | bool (b:Bool)
 | int (k:IntKind) (n:Int)
 | str (s:List UInt8)
 | agg (cs:List PV)
 | tuple (vs:List PV)
 | slice (es bs:List PV) (own:Bool)
 | mk0 (sz:Nat)
 | ref (v:PV)
 | ptr (d id off:Nat)
 | nilptr
 | rsl (d id n sz:Nat)
 | vec (sz:Nat) (E:List PV)
 | func (fn:Fn) (first caps:List PV)
 | nilFunc
 deriving Inhabited
namespace PV
def cells:PV→List PV
 | agg cs=>cs
 | v=>[v]
def plain1:PV→PV
 | slice es _ _=>slice es [] false
 | mk0 _=>slice [] [] false
 | vec _ _=>bot
 | v=>v
def plainA:PV→PV
 | agg cs=>agg (cs.map plain1)
 | v=>plain1 v
def plain:PV→PV
 | tuple vs=>tuple (vs.map plainA)
 | v=>plainA v
def solid1:PV→Bool
 | bool _ | int _ _ | str _ | slice _ _ _ | mk0 _=>true
 | _=>false
def solid:PV→Bool
 | agg cs=>cs.all solid1
 | v=>solid1 v
def free:PV→Bool
 | func _ first caps=>first.all solid&&caps.all solid
 | nilFunc=>true
 | vec _ _=>true
 | v=>solid v
end PV
open PV
def ofAtom:Value→PV
 | .bool b => .bool b
 | .int k n => .int k n
 | .string s => .str s.data.toList
 | .slice none 0 0 => .slice [] [] true
 | .pointer none => .nilptr
 | .nilFunc => .nilFunc
 | _ => .bot
def ofValue:Value→PV
 | .agg cs => .agg (cs.toList.map ofAtom)
 | v=>ofAtom v
def lim:Nat:=274877906944
abbrev aV:=List (Nat×List PV)
structure St where
 fr:List (Nat×PV)
 bx:List aV
abbrev UP:=List aV
def look {α:Type}:List (Nat×α)→Nat→Option α
 | [],_=>none
 | (i,v)::l,j=>if i=j then some v else look l j
def gets (fr:List (Nat×PV)) (i:Nat):PV :=
 match look fr i with
 | some v=>v
 | none => .bot
def nth {α:Type}:List α→Nat→Option α
 | [],_=>none
 | a::_,0=>some a
 | _::l,n+1=>nth l n
def gt (l:List PV) (i:Nat):PV :=
 match nth l i with
 | some v=>v
 | none => .bot
def putNth {α:Type}:List α→Nat→α→List α
 | [],_,_=>[]
 | _::l,0,v=>v::l
 | a::l,n+1,v=>a::putNth l n v
def putAt {α:Type} (l:List α) (i:Nat):List α→List α
 | []=>l
 | v::vs=>putAt (putNth l i v) (i+1) vs
def tX:aV→Nat→List PV→aV
 | [],_,_=>[]
 | (i,c)::l,j,c'=>if i=j then (i,c')::l else (i,c)::tX l j c'
def bnd {α β:Type} (x:Option α) (k:α→Option β):Option β :=
 match x with
 | some a=>k a
 | none=>none
def cnd {β:Type} (c:Bool) (x y:Option β):Option β :=
 match c with
 | true=>x
 | false=>y
def bits (op:BinOp) (k:IntKind) (x y:Int):Int :=
 let a:=BitVec.ofInt k.bits x
 let b:=BitVec.ofInt k.bits y
 match op with
 | .and=>k.wrap (a &&& b).toNat
 | .or=>k.wrap (a ||| b).toNat
 | .xor=>k.wrap (a ^^^ b).toNat
 | _=>k.wrap (a &&& ~~~b).toNat
def lX (op:BinOp) (k:IntKind) (a b:Int):Option PV :=
 match op with
 | .add=>some (.int k (k.wrap (a+b)))
 | .sub=>some (.int k (k.wrap (a-b)))
 | .mul=>some (.int k (k.wrap (a*b)))
 | .quo=>if b=0 then none else some (.int k (k.wrap (a.tdiv b)))
 | .rem=>if b=0 then none else some (.int k (a.tmod b))
 | .and=>some (.int k (bits .and k a b))
 | .or=>some (.int k (bits .or k a b))
 | .xor=>some (.int k (bits .xor k a b))
 | .andNot=>some (.int k (bits .andNot k a b))
 | .eql=>some (.bool (a==b))
 | .neq=>some (.bool (a != b))
 | .lss=>some (.bool (a<b))
 | .leq=>some (.bool (a≤b))
 | .gtr=>some (.bool (a>b))
 | .geq=>some (.bool (a≥b))
 | _=>none
def aVz (op:BinOp) (a b:List UInt8):Option PV :=
 match op with
 | .add=>if a.length+b.length≤lim then some (.str (a++b)) else none
 | .eql=>some (.bool (a==b))
 | .neq=>some (.bool (!(a==b)))
 | .lss=>some (.bool (Op.bytesLess a b))
 | .leq=>some (.bool (Op.bytesLess a b||a==b))
 | .gtr=>some (.bool (!(Op.bytesLess a b||a==b)))
 | .geq=>some (.bool (!Op.bytesLess a b))
 | _=>none
def bin (op:BinOp) (x y:PV):Option PV :=
 match x,y with
 | .int k a,.int k' b =>
  match op with
  | .shl=>if b<0 then none else some (.int k (k.wrap (a*2 ^ min b.toNat k.bits)))
  | .shr=>if b<0 then none else some (.int k (a.fdiv (2 ^ min b.toNat k.bits)))
  | op=>if k=k' then lX op k a b else none
 | .str a,.str b=>aVz op a b
 | _,_=>none
def aBN (k:Nat) (x y:PV):Option Bool :=
 match k,x,y with
 | 1,.int k a,.int k' b=>if k=k' then some (a==b) else none
 | 2,.str a,.str b=>some (a==b)
 | 0,.bool a,.bool b=>some (a==b)
 | _,_,_=>none
def eqAt (xs ys:List PV):List (Nat×Nat)→Option Bool
 | []=>some true
 | (i,k)::l =>
  match aBN k (gt xs i) (gt ys i),eqAt xs ys l with
  | some b,some c=>some (b&&c)
  | _,_=>none
def eqs (n:Nat) (ls:List (Nat×Nat)) (x y:PV):Option Bool :=
 match x,y with
 | .agg xs,.agg ys=>if xs.length=n∧ys.length=n then eqAt xs ys ls else none
 | _,_=>none
def eqB (x y:PV):Option Bool :=
 match x,y with
 | .bool a,.bool b=>some (a==b)
 | _,_=>none
def un (op:UnOp) (x:PV):Option PV :=
 match op,x with
 | .not,.bool b=>some (.bool (!b))
 | .neg,.int k n=>some (.int k (k.wrap (0-n)))
 | .xor,.int k n=>some (.int k (bits .xor k (if k.signed then -1 else k.max) n))
 | _,_=>none
def part (off size:Nat) (ag:Bool) (cs:List PV):Option PV :=
 match ag with
 | true=>if off+size≤cs.length then some (.agg ((cs.drop off).take size)) else none
 | false=>nth cs off
def fld (off size:Nat) (ag:Bool) (x:PV):Option PV :=
 match x with
 | .agg cs=>part off size ag cs
 | _=>none
def fad (off size:Nat) (ag:Bool) (x:PV):Option PV :=
 match x with
 | .ptr d id o=>some (.ptr d id (o+off))
 | .ref v=>bnd (fld off size ag v) fun p=>some (.ref p)
 | _=>none
def lY (size:Nat) (ag:Bool) (x:PV):Option (List PV) :=
 match ag,x with
 | true,.agg cs=>if cs.length=size then some ((List.range size).map (gt cs)) else none
 | true,_=>none
 | false,.agg _=>none
 | false,.tuple _=>none
 | false,.bot=>none
 | false,.und=>none
 | false,v=>match size with
  | 1=>some [v]
  | _=>none
def aPu (size:Nat) (ag:Bool) (x:PV):Option PV :=
 match ag,x with
 | true,.agg cs=>if cs.length=size then some x else none
 | true,_=>none
 | false,.agg _=>none
 | false,.tuple _=>none
 | false,v=>some v
def aX (bx:List aV) (d id:Nat):Option (List PV) :=
 match nth bx d with
 | some b=>look b id
 | none=>none
def bZ (bx:List aV) (d id:Nat) (cs:List PV):List aV :=
 match bx,d with
 | [],_=>[]
 | b::r,0=>tX b id cs::r
 | b::r,d+1=>b::bZ r d id cs
def raise1 (d:Nat):PV→PV
 | .ptr e id o => .ptr (e+d) id o
 | .rsl e id n s => .rsl (e+d) id n s
 | v=>v
def tC (d:Nat) (v:PV):PV :=
 match d with
 | 0=>v
 | d+1=>match v with
  | .agg cs => .agg (cs.map (raise1 (d+1)))
  | v=>raise1 (d+1) v
def lower1 (d:Nat):PV→PV
 | .ptr e id o => .ptr (e-d) id o
 | .rsl e id n s => .rsl (e-d) id n s
 | v=>v
def oN (d:Nat) (vs:List PV):List PV :=
 match d with
 | 0=>vs
 | d+1=>vs.map (lower1 (d+1))
def bX (ag:Bool) (v:PV):List PV :=
 match ag with
 | true=>match v with
  | .agg cs=>cs.map plain1
  | _=>[]
 | false=>[plain1 v]
def phys:List PV→List PV
 | [.vec _ E]=>E.flatMap cells
 | cs=>cs
def vG:List PV→Bool
 | [.vec _ _]=>true
 | _=>false
def bBy (sz:Nat) (E:List PV) (off n:Nat) (ag:Bool):Option PV :=
 bnd (nth E (off / sz)) fun e=>bnd (part (off % sz) n ag e.cells) fun v=>some v.plain
def reb (e:PV) (cs:List PV):PV :=
 match e with
 | .agg _ => .agg cs
 | e=>match cs with
  | [c]=>c
  | _=>e
def vput (sz:Nat) (E:List PV) (off:Nat) (vs:List PV):Option (List PV) :=
 bnd (nth E (off / sz)) fun e=>if off % sz+vs.length≤sz∧vs.all solid1=true then some (putNth E (off / sz) (reb e (putAt e.cells (off % sz) (vs.map plain1)))) else none
def okVc:PV→Bool
 | .bool _ | .int _ _ | .str _=>true
 | .slice _ [] false=>true
 | _=>false
def okVe (sz:Nat) (e:PV):Bool:=e.cells.length==sz&&e.cells.all okVc
def aIE:PV→Bool
 | .bool _ | .int _ _ | .str _=>true
 | _=>false
def scal:PV→Bool
 | .tuple vs=>vs.all aIE
 | v=>aIE v
def fits (d:Nat):PV→Bool
 | .ptr e _ _=>d≤e
 | .rsl e _ _ _=>d≤e
 | .func _ first caps=>first.all solid&&caps.all solid
 | .ref _=>true
 | .nilptr=>true
 | .nilFunc=>true
 | v=>solid1 v
def ix (size:Nat) (x i:PV):Option PV :=
 match x,i with
 | .slice es _ _,.int _ n=>if n<0 then none else
  bnd (nth es n.toNat) fun e=>if e.cells.length=size∧0<size then some (.ref e) else none
 | .rsl d id n sz,.int _ k=>if 0≤k∧k.toNat<n∧sz=size then some (.ptr d id (k.toNat*size)) else none
 | _,_=>none
def bAr (n size:Nat) (x i:PV):Option PV :=
 match x,i with
 | .ptr d id o,.int _ k=>if 0≤k∧k<n then some (.ptr d id (o+k.toNat*size)) else none
 | _,_=>none
def tD (x i:PV):Option PV :=
 match x,i with
 | .str s,.int _ n=>if n<0 then none else bnd (nth s n.toNat) fun b=>some (.int .u8 b.toNat)
 | _,_=>none
def bAs (n size:Nat) (ag:Bool) (x i:PV):Option PV :=
 match x,i with
 | .agg cs,.int _ k=>if 0≤k∧k<n then part (k.toNat*size) size ag cs else none
 | _,_=>none
def szOk (size:Nat):List PV→Bool
 | []=>true
 | e::_=>e.cells.length==size
def yK (x:PV):Option Nat :=
 match x with
 | .int _ n=>if n<0 then none else some n.toNat
 | _=>none
def aEw (size:Nat) (x:PV) (l h:Nat):Option PV :=
 match x,size with
 | .str s,0=>if l≤h∧h≤s.length then some (.str ((s.take h).drop l)) else none
 | .slice es bs _,n+1=>if l≤h∧h≤es.length+bs.length∧szOk (n+1) (es++bs)=true then some (.slice (((es++bs).take h).drop l) ((es++bs).drop h) false) else none
 | .mk0 _,_+1=>if l=0∧h=0 then some (.slice [] [] false) else none
 | _,_=>none
def lenN (k:Nat) (x:PV):Option Nat :=
 match x,k with
 | .str s,0=>some s.length
 | .slice es _ _,_+1=>some es.length
 | .mk0 _,_+1=>some 0
 | .rsl _ _ n _,_+1=>some n
 | _,_=>none
def len (k:Nat) (x:PV):Option PV:=bnd (lenN k x) fun n=>some (.int .i64 n)
def bBz (size:Nat) (x:PV):Option PV:=bnd (lenN size x) fun n=>aEw size x 0 n
def bBA (size:Nat) (x l:PV):Option PV:=bnd (lenN size x) fun n=>bnd (yK l) fun l=>aEw size x l n
def aTQ (size:Nat) (x h:PV):Option PV:=bnd (yK h) fun h=>aEw size x 0 h
def bBB (size:Nat) (x l h:PV):Option PV:=bnd (yK l) fun l=>bnd (yK h) fun h=>aEw size x l h
def aZZ (x:PV):Option PV :=
 match x with
 | .slice _ _ _=>some (.slice [] [] true)
 | .mk0 _=>some (.slice [] [] true)
 | _=>none
def eK (s:List UInt8):List PV:=s.map fun b => .int .u8 b.toNat
def slOr (sz:Nat) (E:List PV):PV :=
 match E with
 | [] => .mk0 sz
 | E => .slice E [] true
def apd (size:Nat) (x y:PV):Option PV :=
 match x,y with
 | .slice A _ true,.slice B _ _=>if A.length+B.length≤lim∧szOk size A=true∧szOk size B=true then some (.slice (A++B) [] true) else none
 | .mk0 sz,.slice B _ _=>if B.length≤lim∧sz=size∧szOk size B=true then some (slOr sz B) else none
 | _,_=>none
def aVA (x y:PV):Option PV :=
 match x,y with
 | .slice A _ true,.str s=>if A.length+s.length≤lim∧szOk 1 A=true then some (.slice (A++eK s) [] true) else none
 | .mk0 sz,.str s=>if s.length≤lim∧sz=1 then some (slOr sz (eK s)) else none
 | _,_=>none
def apdV (size:Nat) (x y:PV):Option (List PV) :=
 match x,y with
 | .slice [] _ true,.slice B _ _=>if B.length≤lim∧szOk size B=true then some B else none
 | _,_=>none
def bAt (size:Nat) (x:PV):Option (List PV) :=
 match x with
 | .slice E _ true=>if 0<size∧E.all (fun e=>e.cells.length==size&&e.cells.all aIE)=true then some E else none
 | _=>none
def el (size:Nat) (x:PV):Option PV :=
 if x.solid=true∧x.cells.length=size∧0<size then some x.plain else none
def aZ0 (x:PV):Option UInt8 :=
 match x with
 | .int .u8 n=>some (UInt8.ofNat n.toNat)
 | _=>none
def aDm:List PV→Option (List UInt8)
 | []=>some []
 | x::l =>
  match aZ0 x,aDm l with
  | some b,some r=>some (b::r)
  | _,_=>none
def bAu (x:PV):Option PV :=
 match x with
 | .slice es _ _=>bnd (aDm es) fun s=>some (.str s)
 | .mk0 _=>some (.str [])
 | _=>none
def aPv (x:PV):Option PV :=
 match x with
 | .str s=>some (slOr 1 (eK s))
 | _=>none
def aXQ (k:IntKind) (x:PV):Option PV :=
 match x with
 | .int _ n=>some (.int k (k.wrap n))
 | _=>none
def ext (i:Nat) (x:PV):Option PV :=
 match x with
 | .tuple vs=>nth vs i
 | _=>none
def xR (x:PV):Option Bool :=
 match x with
 | .bool b=>some b
 | _=>none
def mn (x y:PV):Option PV :=
 match x,y with
 | .int k a,.int _ b=>some (.int k (if b<a then b else a))
 | _,_=>none
def mx (x y:PV):Option PV :=
 match x,y with
 | .int k a,.int _ b=>some (.int k (if b>a then b else a))
 | _,_=>none
def aBO:PV→PV
 | .ptr d id o => .ptr (d+1) id o
 | .rsl d id n s => .rsl (d+1) id n s
 | v=>v
def shift:PV→PV
 | .func f first caps => .func f (first.map aBO) (caps.map aBO)
 | .agg cs => .agg (cs.map aBO)
 | v=>aBO v
def sh0:PV→Bool
 | .ptr _ _ _ | .rsl _ _ _ _ | .ref _ | .nilptr | .nilFunc | .bot | .und=>true
 | .func _ first caps=>first.all solid&&caps.all solid
 | v=>v.solid
def shOk:PV→Bool
 | .func _ first caps=>first.all sh0&&caps.all sh0
 | .agg cs=>cs.all sh0
 | v=>sh0 v
def jK:PV→Option PV
 | .ptr 0 _ _=>none
 | .ptr (d+1) id o=>some (.ptr d id o)
 | .rsl 0 _ _ _=>none
 | .rsl (d+1) id n s=>some (.rsl d id n s)
 | .ref v=>some (.ref v)
 | .nilptr=>some .nilptr
 | v=>if v.free then some v else none
def oE:List PV→Option (List PV)
 | []=>some []
 | x::l =>
  match jK x,oE l with
  | some y,some r=>some (y::r)
  | _,_=>none
def tE:PV→Option PV
 | .agg cs=>bnd (oE cs) fun cs=>some (.agg cs)
 | v=>jK v
def rU:List PV→Option (List PV)
 | []=>some []
 | x::l =>
  match tE x,rU l with
  | some y,some r=>some (y::r)
  | _,_=>none
def out:PV→Option PV
 | .tuple vs=>bnd (rU vs) fun vs=>some (.tuple vs)
 | v=>tE v
structure Hints where
 takes:List Nat:=[]
 gens:List Nat:=[]
 keeps:List (Nat×List Nat):=[]
 own:Bool:=false
 drop:Bool:=false
 frz:List (Nat×List Nat):=[]
 frl:List (Nat×List Nat):=[]
 vecs:List (Nat×Nat):=[]
 brw:List Nat:=[]
abbrev Orc:=FuncId→List PV→UP→Option (PV×UP)
inductive Ex where
 | nrm
 | brk (id:Nat)
 | ret
abbrev bL:=List PV→UP→Option (Ex×List PV×UP)
structure Eff where
 cr:List (Nat×Nat×Nat×Nat):=[]
 cw:List (Nat×Nat×Nat×List PV):=[]
 ws:List (Nat×PV):=[]
 nw:List (Nat×List PV):=[]
 up:Option UP:=none
def cN (bx:List aV):List (Nat×Nat×Nat×List PV)→List aV
 | []=>bx
 | (d,id,o,vs)::l =>
  match aX bx d id with
  | some cs=>cN (bZ bx d id (putAt cs o vs)) l
  | none=>cN bx l
def rV (bx:List aV) (nw:List (Nat×List PV)):List aV :=
 match bx,nw with
 | bx,[]=>bx
 | b::r,nw=>(nw++b)::r
 | [],_=>[]
def Eff.app (e:Eff) (st:St):St :=
 { fr:=e.ws++st.fr,bx:=match e.up with | some u=>u | none=>rV (cN st.bx e.cw) e.nw}
def opd (fr:List (Nat×PV)):Operand→PV
 | .tmp t=>gets fr t
 | .const v=>ofValue v
 | .global _ => .bot
 | .func f => .func (.func f) [] []
def has (l:List Nat) (i:Nat):Bool:=l.any (· == i)
def hasO (l:List Nat):Option Nat→Bool
 | some i=>has l i
 | none=>false
def opv (fr:List (Nat×PV)) (tk:Bool):Operand→PV
 | .tmp t=>match tk with | true=>gets fr t | false=>(gets fr t).plain
 | x=>opd fr x
def left (fr:List (Nat×PV)) (tk:Bool):Operand→List (Nat×PV)
 | .tmp t=>match tk with | true=>[(t,(gets fr t).plain)] | false=>[]
 | _=>[]
def dstW (nt:Nat) (d:Option Nat) (v:PV):List (Nat×PV) :=
 match d with
 | some d=>if d<nt then [(d,v)] else []
 | none=>[]
section types
variable (P : Program)
def szOf (t:TypeId):Option Nat:=(P.info? t).map (·.size)
def agOf (t:TypeId):Option Bool :=
 match P.underlying t with
 | some (.struct _)=>some true
 | some (.array _ _)=>some true
 | some _=>some false
 | none=>none
def aFx (t:TypeId):Option PV :=
 match P.info? t with
 | some i=>i.zero.map ofValue
 | none=>none
def yL (i:TypeInfo):Bool :=
 match i.zero with
 | some z=>z.cells.size==i.size
 | none=>false
def aBP : Nat → TypeId → Nat → Option (List (Nat × Nat))
 | 0, _, _ => none
 | d + 1, t, off =>
  match P.underlying t with
  | some .bool => some [(off, 0)]
  | some (.int _) => some [(off, 1)]
  | some .string => some [(off, 2)]
  | some (.struct fs) =>
   match P.stoodInHeld t, szOf P t with
   | false, some sz =>
    fs.toList.foldr (fun f acc =>
     match f.name == "_", szOf P f.type, aBP d f.type (off + f.offset), acc with
     | false, some n, some l, some r => if f.offset + n ≤ sz ∧ 0 < n then some (l ++ r) else none
     | _, _, _, _ => none) (some [])
   | _, _ => none
  | _ => none
end types
def aB6 (place:Nat→Option (Nat×Nat×Bool)) {R:Type}:List (Nat×PV)→List PV→(List PV→Option R)→Option R
 | [],cs,K=>K cs
 | (i,v)::rest,cs,K =>
  match place i with
  | some (off,size,ag)=>bnd (lY size ag v) fun vs=>if off+size≤cs.length then aB6 place rest (putAt cs off vs) K else none
  | none=>none
def xY (size:Nat) {R:Type}:List (Nat×PV)→List PV→(List PV→Option R)→Option R
 | [],es,K=>K es
 | (i,v)::rest,es,K=>bnd (el size v) fun e=>if i<es.length then xY size rest (putNth es i e) K else none
def aT (O:Orc) {R:Type} (g:FuncId) (args:List PV) (K:PV→Option R):Option R :=
 cnd (args.all free) (bnd (O g args []) fun r=>match r.2 with | []=>K r.1 | _=>none) none
def pW (P:Program) (fs:Array Field) (i:Nat):Option (Nat×Nat×Bool) :=
 match fs[i]? with
 | some f=>match szOf P f.type,agOf P f.type with
  | some n,some a=>some (f.offset,n,a)
  | _,_=>none
 | none=>none
def aVB (mt:Hints) (d:Option Nat):Option Nat :=
 match d with
 | some d=>look mt.vecs d
 | none=>none
def kI (nt:Nat) (st:St) (d:Option Nat):Option Nat :=
 match d,st.bx with
 | some d,b::_=>match look b d with
  | none=>if d<nt then some d else none
  | some _=>none
 | _,_=>none
def lZ {R:Type} (nt:Nat) (o:Oper) (sz:Nat) (E:List PV) (lv:List (Nat×PV)) (st:St) (K:Eff→Option R):Option R :=
 match kI nt st o.dst with
 | some id=>K {ws:=(id,.rsl 0 id E.length sz)::lv,nw:=[(id,[.vec sz E])]}
 | none=>none
def rdV:List PV→List (Nat×Nat×Nat×Nat)
 | []=>[]
 | .rsl 0 id _ _::l=>(0,id,0,1)::rdV l
 | _::l=>rdV l
def brwV (bx:List aV) (v:PV):PV :=
 match v with
 | .rsl 0 id n _ =>
  match aX bx 0 id with
  | some [.vec _ E] => .slice (E.take n) [] false
  | _ => .bot
 | v=>v
def aIF (bx:List aV) (v:PV):Bool :=
 match v with
 | .rsl 0 id n sz =>
  match aX bx 0 id with
  | some [.vec sz' E]=>Nat.beq sz sz'&&Nat.ble n E.length
  | _=>false
 | _=>true
def aZ1 (ok:Bool) (z l c:PV):Option (List PV) :=
 bnd (yK l) fun n=>bnd (yK c) fun m=>if n≤lim∧n=m∧ok=true then some (List.replicate n z) else none
def bAv (i:TypeInfo) (l c:PV):Option (List PV) :=
 match i.zero with
 | some z=>aZ1 (okVe i.size (ofValue z)) (ofValue z) l c
 | none=>none
def mkSl (size:Nat) (c:PV):Option PV:=bnd (yK c) fun n=>if n≤lim then some (.mk0 size) else none
section op
variable (P : Program) (mt : Hints) (nt : Nat) (O : Orc) {R : Type}
def jR (xs:List Operand):List Nat:=xs.filterMap fun | .tmp t=>some t | _=>none
def rW:List Nat→Bool
 | []=>true
 | i::l => !has l i&&rW l
def gI (o:Oper) (c:Call) (st:St) (K:Eff→Option R):Option R :=
 let ρ:=opd st.fr
 let tk:=hasO mt.takes o.dst
 match c.callee with
 | .value f =>
  match ρ f with
  | .func (.func g) first caps =>
   let args:=first++c.args.toList.map (opv st.fr tk)++caps
   let lv:=c.args.toList.flatMap (left st.fr tk)
   match !tk||rW (jR c.args.toList),hasO mt.gens o.dst with
   | false,_=>none
   | true,true=>cnd (args.all shOk) (bnd (O g (args.map shift) st.bx) fun r=>K {ws:=dstW nt o.dst r.1++lv,up:=some r.2}) none
   | true,false =>
    match hasO mt.brw o.dst,aVB mt o.dst,tk with
    | true,_,_=>cnd (args.all (aIF st.bx)) (aT O g (args.map (brwV st.bx)) fun r=>cnd (scal r) (K {cr:=rdV args,ws:=dstW nt o.dst r++lv}) none) none
    | false,some _,true=>none
    | false,some sz,false=>aT O g args fun r=>bnd (bAt sz r) fun E=>lZ nt o sz E lv st K
    | false,none,_=>aT O g args fun r=>K {ws:=dstW nt o.dst r++lv}
  | _=>none
 | .builtin .len =>
  match c.args.toList,c.argTypes.toList with
  | [x],[t] =>
   match P.underlying t with
   | some .string=>bnd (len 0 (ρ x)) fun v=>K {ws:=dstW nt o.dst v}
   | some (.slice _)=>bnd (len 1 (ρ x)) fun v=>K {ws:=dstW nt o.dst v}
   | _=>none
  | _,_=>none
 | .builtin .append =>
  match c.args.toList,c.argTypes.toList with
  | [x,y],[t,u] =>
   match P.underlying t,P.underlying u with
   | some (.slice e),some (.slice _) =>
    match P.info? e with
    | some i=>if 0<i.size∧i.bytes≤512∧yL i=true then
      match aVB mt o.dst with
      | some _=>bnd (apdV i.size (opd st.fr x) (ρ y)) fun E=>lZ nt o i.size E (left st.fr true x) st K
      | none=>bnd (apd i.size (opd st.fr x) (ρ y)) fun v=>K {ws:=dstW nt o.dst v++left st.fr true x} else none
    | none=>none
   | some (.slice e),some .string =>
    match P.info? e with
    | some i=>if i.size=1∧i.bytes≤512∧yL i=true then
      bnd (aVA (opd st.fr x) (ρ y)) fun v=>K {ws:=dstW nt o.dst v++left st.fr true x} else none
    | none=>none
   | _,_=>none
  | _,_=>none
 | .builtin .min =>
  match c.args.toList with
  | [x,y]=>bnd (mn (ρ x) (ρ y)) fun v=>K {ws:=dstW nt o.dst v}
  | _=>none
 | .builtin .max =>
  match c.args.toList with
  | [x,y]=>bnd (mx (ρ x) (ρ y)) fun v=>K {ws:=dstW nt o.dst v}
  | _=>none
 | _=>none
def qQ (o:Oper) (t:TypeId) (x:Operand) (lo hi m:Option Operand) (st:St) (K:Eff→Option R):Option R :=
 let ρ:=opd st.fr
 let fin (v:PV):Option R:=K {ws:=dstW nt o.dst v}
 match P.underlying t with
 | some .string =>
  match lo,hi,m with
  | none,none,none=>bnd (bBz 0 (ρ x)) fin
  | some l,none,none=>bnd (bBA 0 (ρ x) (ρ l)) fin
  | none,some h,none=>bnd (aTQ 0 (ρ x) (ρ h)) fin
  | some l,some h,none=>bnd (bBB 0 (ρ x) (ρ l) (ρ h)) fin
  | _,_,_=>none
 | some (.slice e) =>
  match szOf P e with
  | some 0=>none
  | some n =>
   match lo,hi,m with
   | none,none,none=>bnd (bBz n (ρ x)) fin
   | some l,none,none=>bnd (bBA n (ρ x) (ρ l)) fin
   | none,some h,none=>bnd (aTQ n (ρ x) (ρ h)) fin
   | some l,some h,none=>bnd (bBB n (ρ x) (ρ l) (ρ h)) fin
   | none,some (.const (.int .i64 0)),some (.const (.int .i64 0))=>bnd (aZZ (ρ x)) fin
   | _,_,_=>none
  | none=>none
 | _=>none
def qR (o:Oper) (op:BinOp) (t:TypeId) (x y:PV) (K:Eff→Option R):Option R :=
 let fin (v:PV):Option R:=K {ws:=dstW nt o.dst v}
 match op with
 | .eql =>
  match P.underlying t with
  | some (.int _)=>bnd (bin .eql x y) fin
  | some .string=>bnd (bin .eql x y) fin
  | some .bool=>bnd (eqB x y) fun b=>fin (.bool b)
  | some (.struct _) =>
   match szOf P t,aBP P 20 t 0,P.eqGuardType P.depth t with
   | some n,some ls,false=>bnd (eqs n ls x y) fun b=>fin (.bool b)
   | _,_,_=>none
  | _=>none
 | .neq =>
  match P.underlying t with
  | some (.int _)=>bnd (bin .neq x y) fin
  | some .string=>bnd (bin .neq x y) fin
  | some .bool=>bnd (eqB x y) fun b=>fin (.bool (!b))
  | some (.struct _) =>
   match szOf P t,aBP P 20 t 0,P.eqGuardType P.depth t with
   | some n,some ls,false=>bnd (eqs n ls x y) fun b=>fin (.bool (!b))
   | _,_,_=>none
  | _=>none
 | op=>bnd (bin op x y) fin
def aDn (o:Oper) (s d:TypeId) (x:PV) (K:Eff→Option R):Option R :=
 let fin (v:PV):Option R:=K {ws:=dstW nt o.dst v}
 match P.underlying s,P.underlying d with
 | some (.int _),some (.int k)=>bnd (aXQ k x) fin
 | some (.slice e),some .string =>
  match P.underlying e with
  | some (.int .u8)=>bnd (bAu x) fin
  | _=>none
 | some .string,some (.slice e) =>
  match P.underlying e with
  | some (.int .u8)=>bnd (aPv x) fin
  | _=>none
 | _,_=>none
def newBox (o:Oper) (n:Nat) (ag:Bool) (v:PV) (lv:List (Nat×PV)) (st:St) (K:Eff→Option R):Option R :=
 match kI nt st o.dst with
 | some id=>bnd (lY n ag v) fun cs=>cnd (cs.all (fits 0)) (K {ws:=(id,.ptr 0 id 0)::lv,nw:=[(id,cs)]}) none
 | none=>none
def aS (o:Oper) (st:St) (K:Eff→Option R):Option R :=
 let ρ:=opd st.fr
 let tk:=hasO mt.takes o.dst
 let fin (v:PV):Option R:=K {ws:=dstW nt o.dst v}
 match o.op with
 | .move x=>K {ws:=dstW nt o.dst (opv st.fr tk x)++left st.fr tk x}
 | .assign x=>K {ws:=dstW nt o.dst (opv st.fr true x)++left st.fr true x}
 | .pick c a b=>bnd (xR (ρ c)) fun t=>cnd t (K {ws:=dstW nt o.dst (opv st.fr false a)}) (K {ws:=dstW nt o.dst (opv st.fr false b)})
 | .alloc t =>
  match szOf P t,agOf P t,aFx P t with
  | some n,some ag,some z=>newBox nt o n ag z [] st K
  | _,_,_=>none
 | .box t x =>
  match szOf P t,agOf P t with
  | some n,some ag=>newBox nt o n ag (opv st.fr true x) (left st.fr true x) st K
  | _,_=>none
 | .build t ps =>
  match P.underlying t,aFx P t with
  | some (.struct fs),some (.agg z) =>
   if fs.toList.all (fun f=>(P.info? f.type).isSome)=true then aB6 (pW P fs) (ps.toList.map fun p=>(p.1,opv st.fr false p.2)) z fun cs=>K {ws:=dstW nt o.dst (.agg cs)} else none
  | some (.array _ e),some (.agg z) =>
   match szOf P e,agOf P e with
   | some n,some ag=>aB6 (fun i=>some (i*n,n,ag)) (ps.toList.map fun p=>(p.1,opv st.fr false p.2)) z fun cs=>K {ws:=dstW nt o.dst (.agg cs)}
   | _,_=>none
  | _,_=>none
 | .buildSlice t n ps =>
  match P.underlying t with
  | some (.slice e) =>
   match szOf P e,aFx P e with
   | some sz,some z=>if n*sz≤16777216∧z.cells.length=sz then
     bnd (match n with | 0=>some .bot | _=>el sz z) fun z=>xY sz (ps.toList.map fun p=>(p.1,opv st.fr false p.2)) (List.replicate n z) fun es=>fin (.slice es [] true) else none
   | _,_=>none
  | _=>none
 | .load t p =>
  match szOf P t,agOf P t with
  | some n,some ag =>
   match opd st.fr p with
   | .ptr d id off =>
    if 0<n∧(ag=true∨n=1) then bnd (aX st.bx d id) fun cs=>match cs with
     | [.vec sz E]=>bnd (bBy sz E off n ag) fun v=>K {cr:=[(d,id,0,1)],ws:=dstW nt o.dst v}
     | cs=>bnd (part off n ag cs) fun v =>
     match tk with
     | true=>K {cr:=[(d,id,off,n)],cw:=[(d,id,off,bX ag v)],ws:=dstW nt o.dst (tC d v)}
     | false=>K {cr:=[(d,id,off,n)],ws:=dstW nt o.dst (tC d v).plain} else none
   | .ref v=>bnd (aPu n ag v) fun v=>fin v.plain
   | _=>none
  | _,_=>none
 | .store t p x =>
  match szOf P t,agOf P t with
  | some n,some ag =>
   match opd st.fr p,o.dst with
   | .ptr d id off,none =>
    bnd (aX st.bx d id) fun cs=>bnd (lY n ag (opv st.fr true x)) fun vs =>
     match cs with
     | [.vec sz E]=>if 0<n then bnd (vput sz E off vs) fun E'=>K {cr:=[(d,id,0,1)],cw:=[(d,id,0,[.vec sz E'])],ws:=left st.fr true x} else none
     | cs=>cnd (vs.all (fits d)) (if off+n≤cs.length∧0<n then K {cw:=[(d,id,off,oN d vs)],ws:=left st.fr true x} else none) none
   | _,_=>none
  | _,_=>none
 | .nilCheck x =>
  match opd st.fr x with
  | .ptr d id off=>fin (.ptr d id off)
  | .ref v=>fin (.ref v)
  | .func (.func f) a b=>fin (.func (.func f) a b)
  | _=>none
 | .binOp op t x y _=>qR P nt o op t (ρ x) (ρ y) K
 | .unOp op _ x=>bnd (un op (ρ x)) fin
 | .convert s d x=>aDn P nt o s d (ρ x) K
 | .makeSlice t l c =>
  match P.underlying t with
  | some (.slice e) =>
   match P.info? e with
   | some i=>if 0<i.size∧i.bytes≤512∧yL i=true then
     match aVB mt o.dst with
     | some _=>bnd (bAv i (ρ l) (ρ c)) fun E=>lZ nt o i.size E [] st K
     | none=>match l with
      | .const (.int .i64 0)=>bnd (mkSl i.size (ρ c)) fin
      | _=>none
    else none
   | none=>none
  | _=>none
 | .makeFunc fn first caps=>fin (.func fn (first.toList.map fun x=>(opd st.fr x).plain) (caps.toList.map fun x=>(opd st.fr x).plain))
 | .slice t x l h m=>qQ P nt o t x l h m st K
 | .fieldAddr s x f =>
  match P.underlying s with
  | some (.struct fs) =>
   match pW P fs f with
   | some (off,n,ag)=>if 0<n then bnd (fad off n ag (ρ x)) fin else none
   | none=>none
  | _=>none
 | .field s x f =>
  match P.underlying s with
  | some (.struct fs) =>
   match pW P fs f with
   | some (off,n,ag)=>bnd (fld off n ag (ρ x)) fun v=>fin v.plain
   | none=>none
  | _=>none
 | .indexAddr t x i =>
  match P.underlying t with
  | some (.slice e) =>
   match szOf P e with
   | some n=>bnd (ix n (ρ x) (ρ i)) fin
   | none=>none
  | some (.array len e) =>
   match szOf P e with
   | some n=>if 0<n then bnd (bAr len n (ρ x) (ρ i)) fin else none
   | none=>none
  | _=>none
 | .index t x i =>
  match P.underlying t with
  | some .string=>bnd (tD (ρ x) (ρ i)) fin
  | some (.array len e) =>
   match szOf P e,agOf P e with
   | some n,some ag=>bnd (bAs len n ag (ρ x) (ρ i)) fun v=>fin v.plain
   | _,_=>none
  | _=>none
 | .extract x i=>bnd (ext i (ρ x)) fun v=>fin v.plain
 | .call c=>gI P mt nt O o c st K
 | _=>none
end op
open PV
def eH (mt:Hints) (o:Oper):List Nat :=
 let tmps (xs:List Operand):List Nat:=xs.filterMap fun | .tmp t=>some t | _=>none
 match o.op with
 | .move x=>if hasO mt.takes o.dst then tmps [x] else []
 | .assign x=>tmps [x]
 | .box _ x=>tmps [x]
 | .store _ _ x=>tmps [x]
 | .call c =>
  match c.callee with
  | .builtin .append=>match c.args.toList with
   | x::_=>tmps [x]
   | []=>[]
  | .value _=>if hasO mt.takes o.dst then tmps c.args.toList else []
  | _=>[]
 | _=>[]
def aGU (mt:Hints) (o:Oper):List Nat:=o.dst.toList++eH mt o
def aA0 (ops:Array Oper):Nat→Oper→List Nat
 | 0,_=>[]
 | n+1,o =>
  match o.guard with
  | some (g,_)=>match ops[g]? with
   | some q=>q.dst.toList++aA0 ops n q
   | none=>[]
  | none=>[]
def xS (ops:Array Oper) (o:Oper):List Nat :=
 (o.op.operands.toList.filterMap fun | .tmp t=>some t | _=>none)++aA0 ops (ops.size+1) o
def disj (a b:List Nat):Bool:=a.all fun x => !has b x
def aVC (mt:Hints) (ops:Array Oper) (x y:Oper):Bool :=
 disj (aGU mt x) (xS ops y++aGU mt y)&&disj (aGU mt y) (xS ops x)
def oO (bs:Array Nat) (i j:Nat):Bool:=(bs.getD j 0).testBit i
def vH (mt : Hints) (ops : Array Oper) (bs : Array Nat) : Bool :=
 (List.range ops.size).all fun j =>
  match ops[j]? with
  | none => false
  | some y =>
   (y.after.all fun e => !Region.binds .any e || decide (e.on < j)) &&
   (match y.guard with
    | some (g, _) => decide (g < j) && oO bs g j
    | none => true) &&
   (List.range j).all fun i =>
    match ops[i]? with
    | none => false
    | some x => (!oO bs i j || y.after.any fun e => Region.binds .any e && (e.on == i || (decide (i < e.on) && oO bs i e.on))) && (oO bs i j || aVC mt ops x y)
structure Foot where
 rd:List (Nat×Nat×Nat×Nat)
 wr:List (Nat×Nat×Nat×Nat)
 nw:List Nat
def bBC (a b:Nat×Nat×Nat×Nat):Bool :=
 a.1==b.1&&a.2.1==b.2.1&&decide (a.2.2.1<b.2.2.1+b.2.2.2)&&decide (b.2.2.1<a.2.2.1+a.2.2.2)
def aMu (a b:List (Nat×Nat×Nat×Nat)):Bool:=a.all fun x=>b.all fun y => !bBC x y
def aR9 (a:List Nat) (b:Foot):Bool:=a.all fun i => !has b.nw i&&b.rd.all (fun x => !(x.1==0&&x.2.1==i))&&b.wr.all fun x => !(x.1==0&&x.2.1==i)
def aJG (a b:Foot):Bool:=aMu a.wr b.wr&&aMu a.wr b.rd&&aMu a.rd b.wr&&aR9 a.nw b&&aR9 b.nw a
def Eff.foot (e:Eff):Foot:=⟨e.cr,e.cw.map fun c=>(c.1,c.2.1,c.2.2.1,c.2.2.2.length),e.nw.map (·.1)⟩
def nE (bs:Array Nat):List (Nat×Foot)→Bool
 | []=>true
 | (j,f)::l=>(l.all fun x=>oO bs x.1 j||aJG x.2 f)&&nE bs l
def aPw (bs:Array Nat) (n i:Nat):Bool:=(List.range n).all fun k=>k==i||(if k<i then oO bs k i else oO bs i k)
section code
variable (P : Program) (mt : Hints) (nt : Nat) (O : Orc) (LP : bL → bL) {R : Type}
def brB (v:PV) (k:Bool→Option R):Option R:=bnd (xR v) fun b=>cnd b (k true) (k false)
def iT (ops:Array Oper):Nat→Oper→St→(Bool→St→Option R)→Option R
 | 0,_,_,_=>none
 | n+1,o,st,K =>
  match o.guard with
  | none=>K true st
  | some (g,want) =>
   match ops[g]? with
   | some q =>
    match q.dst with
    | some s=>iT ops n q st fun wq st =>
     match wq with
     | true=>brB (gets st.fr s) fun b=>K (b==want) {st with fr:=(s,.bool b)::st.fr}
     | false=>match gets st.fr s with
      | .und=>K false st
      | _=>none
    | none=>none
   | none=>none
def iI (ops:Array Oper):List Oper→St→(St→Option R)→Option R
 | [],st,K=>K st
 | o::os,st,K=>iT ops (ops.size+1) o st fun b st =>
  match b with
  | true=>aS P mt nt O o st fun e=>iI ops os (e.app st) K
  | false=>iI ops os {st with fr:=dstW nt o.dst .und++st.fr} K
def bW (ops:Array Oper):Nat→List Oper→List (Nat×Foot)→St→(List (Nat×Foot)→St→Option R)→Option R
 | _,[],log,st,K=>K log st
 | i,o::os,log,st,K=>iT ops (ops.size+1) o st fun b st =>
  match b with
  | true=>aS P mt nt O o st fun e =>
   match e.up with
   | some _ =>
    match aPw (Region.before ops) ops.size i with
    | true=>bW ops (i+1) os log (e.app st) K
    | false=>none
   | none=>bW ops (i+1) os ((i,e.foot)::log) (e.app st) K
  | false=>bW ops (i+1) os log {st with fr:=dstW nt o.dst .und++st.fr} K
def nF (bx:List aV):List (Nat×Nat) :=
 match bx with
 | b::_=>b.map fun x=>(x.1,x.2.length)
 | []=>[]
def flat (b:aV):List (Nat×Nat)→List PV
 | []=>[]
 | (i,n)::l=>(match look b i with
  | some cs=>(List.range n).map (gt cs)
  | none=>List.replicate n .bot)++flat b l
def aGV (s:List PV):Nat→List (Nat×Nat)→aV
 | _,[]=>[]
 | k,(i,n)::l=>(i,(List.range n).map fun j=>gt s (k+j))::aGV s (k+n) l
def jS (s:List PV):Nat→List Nat→List (Nat×PV)
 | _,[]=>[]
 | k,i::l=>(i,gt s k)::jS s (k+1) l
def lW (bx:List aV):aV :=
 match bx with
 | b::_=>b
 | []=>[]
def gJ (bx:List aV):List aV :=
 match bx with
 | _::r=>r
 | []=>[]
def nC (kp:List Nat) (sh:List (Nat×Nat)) (st:St):List PV:=kp.map (gets st.fr)++flat (lW st.bx) sh
def cH (kp:List Nat) (sh:List (Nat×Nat)) (s:List PV) (u:UP):St :=
 { fr:=jS s 0 kp,bx:=aGV s kp.length sh::u}
def insideN (ids:List (Nat×Nat)):Nat→PV→Bool
 | n,v=>match v with
  | .ptr 0 id _=>ids.any fun x=>x.1==id
  | .ptr (_+1) _ _=>true
  | .rsl 0 id _ _=>ids.any fun x=>x.1==id
  | .rsl (_+1) _ _ _=>true
  | .vec _ _=>true
  | .agg cs=>cs.all solid1
  | .func _ first caps=>match n with
   | 0=>first.all solid&&caps.all solid
   | n+1=>first.all (insideN ids n)&&caps.all (insideN ids n)
  | .ref _=>true
  | .nilptr=>true
  | .nilFunc=>true
  | .bot=>true
  | v=>solid1 v
def inside (ids:List (Nat×Nat)) (v:PV):Bool:=insideN ids 3 v
def iU (sh:List (Nat×Nat)) (b:aV):Bool :=
 sh.all fun x=>match look b x.1 with
  | some cs=>cs.length==x.2
  | none=>false
def aMv (id:Nat):PV→Bool
 | .ptr 0 i _=>i==id
 | .rsl 0 i _ _=>i==id
 | .agg _=>true
 | .tuple _=>true
 | .func _ first caps => !(first.all solid&&caps.all solid)
 | _=>false
def ment (id:Nat):Nat→PV→Bool
 | n,v=>match v with
  | .agg cs=>cs.any (aMv id)
  | .tuple cs=>cs.any fun _=>true
  | .func _ first caps=>match n with
   | 0=>true
   | n+1=>first.any (ment id n)||caps.any (ment id n)
  | v=>aMv id v
def aB7 (id:Nat) (v:PV):PV :=
 match ment id 3 v with
 | true => .bot
 | false=>v
def mA (bx:List aV) (id:Nat):List aV :=
 match bx with
 | b::r=>(b.filter fun x => !(x.1==id))::r
 | []=>[]
def aEx {R:Type} (t:Nat) (st:St) (K:St→Option R):Option R :=
 match gets st.fr t with
 | .rsl 0 id n sz =>
  match aX st.bx 0 id with
  | some [.vec sz' E] =>
   match Nat.beq sz sz',(lW st.bx).all fun x=>x.1==id||x.2.all fun c => !ment id 3 c with
   | true,true=>cnd (Nat.ble n E.length) (K {fr:=(t,.slice (E.take n) [] false)::st.fr.map fun x=>(x.1,aB7 id x.2),bx:=mA st.bx id}) none
   | _,_=>none
  | _=>none
 | .vec _ E=>K {fr:=(t,.slice E [] false)::(t,.bot)::st.fr,bx:=st.bx}
 | _=>K st
def aTR {R:Type} (t sz:Nat) (st:St) (K:St→Option R):Option R :=
 match gets st.fr t with
 | .slice [] [] true=>K {fr:=(t,.vec sz [])::st.fr,bx:=st.bx}
 | _=>K st
def tF {R:Type}:List Nat→St→(St→Option R)→Option R
 | [],st,K=>K st
 | t::l,st,K=>match t / 1048576 with
  | 0=>aEx t st fun st=>tF l st K
  | sz+1=>aTR (t % 1048576) (sz+1) st fun st=>tF l st K
def aDo {R:Type} (l:List (Nat×List Nat)) (i:Nat) (st:St) (K:St→Option R):Option R :=
 match look l i with
 | some l=>tF l st K
 | none=>K st
def pack (kp:List Nat) (sh:List (Nat×Nat)) (st:St) (K:List PV→UP→Option R):Option R :=
 match iU sh (lW st.bx),(lW st.bx).all fun x=>sh.any fun y=>y.1==x.1 with
 | true,true=>K (nC kp sh st) (gJ st.bx)
 | true,false=>cnd ((nC kp sh st).all (inside sh)) (K (nC kp sh st) (gJ st.bx)) none
 | false,_=>none
def fM:Code→Nat
 | .region i _ _=>i
 | .seq a _=>fM a
 | .block _ b=>fM b
 | .loop b=>fM b
 | .scope b=>fM b
 | _=>0
def yM (mt:Hints) (c:Code):List Nat :=
 match look mt.keeps (fM c) with
 | some l=>l
 | none=>[]
def kJ:Code→List (Option Nat)
 | .exit i=>[some i]
 | .ret=>[none]
 | .seq a b=>kJ a++(kJ b).filter fun x => !(kJ a).any (· == x)
 | .cond _ a b=>kJ a++(kJ b).filter fun x => !(kJ a).any (· == x)
 | .block id b=>(kJ b).filter fun x => !(x==some id)
 | .scope b=>kJ b
 | .loop b=>kJ b
 | _=>[]
def exIs {R:Type} (e:Ex) (w:Option Nat) (x y:Option R):Option R :=
 match e,w with
 | .brk i,some j=>if i=j then x else y
 | .ret,none=>x
 | _,_=>y
def exOf:Option Nat→Ex
 | some i => .brk i
 | none => .ret
def pI {R:Type} (e:Ex) (K:Ex→Option R):List (Option Nat)→Option R
 | []=>none
 | w::l=>exIs e w (K (exOf w)) (pI e K l)
def xT (c:Operand) (b:Bool) (st:St):St :=
 match c with
 | .tmp t=>{st with fr:=(t,.bool b)::st.fr}
 | _=>st
def aR {R:Type}:Code→St→(Ex→St→Option R)→Option R
 | .skip,st,K=>K .nrm st
 | .label _,st,K=>K .nrm st
 | .region rid ops draw,st,K=>aDo mt.frz rid st fun st =>
  match draw with
  | false=>iI P mt nt O ops ops.toList st (K .nrm)
  | true =>
   match vH mt ops (Region.before ops) with
   | true=>bW P mt nt O ops 0 ops.toList [] st fun log st =>
    match nE (Region.before ops) log with
    | true=>K .nrm st
    | false=>none
   | false=>none
 | .seq a b,st,K=>aR a st fun e st =>
  match e with
  | .nrm=>aR b st K
  | .brk i=>K (.brk i) st
  | .ret=>K .ret st
 | .cond c a b,st,K=>brB (opd st.fr c) fun t =>
  match t with
  | true=>aR a (xT c true st) K
  | false=>aR b (xT c false st) K
 | .block id b,st,K=>aR b st fun e st =>
  match e with
  | .nrm=>K .nrm st
  | .brk i=>if i=id then K .nrm st else K (.brk i) st
  | .ret=>K .ret st
 | .scope b,st,K=>aR b st K
 | .exit id,st,K=>K (.brk id) st
 | .ret,st,K=>K .ret st
 | .loop b,st,K=>aDo mt.frl (fM b) st fun st =>
  pack (yM mt b) (nF st.bx) st fun s u =>
   bnd (LP (fun s u=>aR b (cH (yM mt b) (nF st.bx) s u) fun e st'=>pack (yM mt b) (nF st.bx) st' fun s u=>some (e,s,u)) s u) fun r =>
    pI r.1 (fun e=>K e (cH (yM mt b) (nF st.bx) r.2.1 r.2.2)) (kJ b)
 | _,_,_=>none
def aFy (own:Bool) (st:St) (r:ResultVar) (K:PV→Option R):Option R :=
 match r with
 | .tmp t=>K (match own with | true=>gets st.fr t | false=>(gets st.fr t).plain)
 | .cell a t =>
  match szOf P t,agOf P t with
  | some n,some ag =>
   match gets st.fr a with
   | .ptr d id off=>if 0<n∧(ag=true∨n=1) then bnd (aX st.bx d id) fun cs=>cnd (vG cs) none (bnd (part off n ag cs) fun v=>K (match own,d with | true,0=>v | _,_=>(tC d v).plain)) else none
   | _=>none
  | _,_=>none
def aJH (st:St):List ResultVar→(List PV→Option R)→Option R
 | [],K=>K []
 | r::l,K=>aFy P false st r fun v=>aJH st l fun vs=>K (v::vs)
def aKs (fn:Func) (own:Bool) (st:St):Option (PV×UP) :=
 match fn.results.toList with
 | [r]=>aFy P own st r fun v=>bnd (tE v) fun v=>some (v,gJ st.bx)
 | rs=>aJH P st rs fun vs=>bnd (rU vs) fun vs=>some ((PV.tuple vs).plain,gJ st.bx)
def pX (args:List PV) (up:UP):St:={fr:=jS args 0 (List.range args.length),bx:=[]::up}
def kB (fn:Func) (args:List PV) (up:UP):Option (PV×UP) :=
 match fn.body with
 | some c=>if args.length≤nt then aR P mt nt O LP c (pX args up) fun e st =>
   match e with
   | .brk _=>none
   | .nrm=>aKs P fn mt.own st
   | .ret=>aKs P fn mt.own st
  else none
 | none=>none
end code
def oP:Nat→bL→bL
 | 0,_,_,_=>none
 | n+1,body,s,u=>bnd (body s u) fun r =>
  match r.1 with
  | .nrm=>oP n body r.2.1 r.2.2
  | e=>some (e,r.2.1,r.2.2)
open PV
abbrev Mem:=Nat→Nat→Option Value
abbrev BM:=Nat→Nat→Option Nat
structure Base where
 n:Nat
 g:Mem
instance:Coe Base Nat:=⟨Base.n⟩
def Glob (base:Base) (M:Mem):Prop:=∀ b i v,base.g b i=some v→M b i=some v
theorem Glob.mono {base:Base} {M M':Mem} (h:Glob base M) (hM:∀ b i v,M b i=some v→M' b i=some v):Glob base M':=fun b i v hv=>hM b i v (h b i v hv)
theorem jT {α:Type}:∀ (l:List α) (i:Nat),nth l i=l[i]?
 | [],_=>by simp [nth]
 | _::_,0=>by simp [nth]
 | _::l,i+1=>by simp [nth,jT l i]
theorem aBF (l:List PV) (i:Nat):gt l i=(l[i]?).getD .bot:=by
 unfold gt;rw [jT];cases l[i]?<;>rfl
theorem fY {α:Type}:∀ (l:List α) (i:Nat) (v:α),putNth l i v=l.set i v
 | [],_,_=>by simp [putNth]
 | _::_,0,_=>by simp [putNth]
 | _::l,i+1,v=>by simp [putNth,fY l i v]
theorem dL {α:Type}:∀ (vs:List α) (l:List α) (i:Nat),(putAt l i vs).length=l.length
 | [],_,_=>rfl
 | v::vs,l,i=>by simp [putAt,dL vs,fY]
theorem gZ {α:Type}:∀ (vs:List α) (l:List α) (i j:Nat),i+vs.length≤l.length →
  (putAt l i vs)[j]?=if i≤j∧j<i+vs.length then vs[j-i]? else l[j]?
 | [],l,i,j,_=>by simp [putAt];intro h1 h2;omega
 | v::vs,l,i,j,h=>by
  simp only [putAt,fY]
  rw [gZ vs _ _ _ (by simp at h ⊢;omega)]
  simp only [List.length_cons] at h ⊢
  by_cases h1:i+1≤j∧j<i+1+vs.length
  ·rw [if_pos h1,if_pos (by omega)]
   have:j-i=(j-(i+1))+1:=by omega
   rw [this];simp
  ·rw [if_neg h1]
   by_cases h2:j=i
   ·subst h2
    rw [if_pos (by omega)]
    simp;rw [List.getElem?_set_self (by omega)]
   ·rw [if_neg (by omega),List.getElem?_set_ne (by omega)]
theorem iV {α:Type} (l:List (Nat×α)) (i j:Nat) (v:α):look ((i,v)::l) j=if i=j then some v else look l j:=rfl
theorem dM (l:List (Nat×PV)) (i j:Nat) (v:PV):gets ((i,v)::l) j=if i=j then v else gets l j:=by
 by_cases h:i=j<;>simp [gets,look,h]
def okEl (s:Nat) (e:PV):Prop:=e.solid=true∧e.plain=e∧e.cells.length=s∧0<s
inductive Rv (M:Mem) (B:BM):PV→Value→Prop
 | bot (v:Value):Rv M B .bot v
 | und:Rv M B .und undef
 | bool (b:Bool):Rv M B (.bool b) (.bool b)
 | int (k:IntKind) (n:Int):Rv M B (.int k n) (.int k n)
 | str (s:List UInt8):Rv M B (.str s) (.string ⟨s.toArray⟩)
 | agg (cs:List PV) (vs:Array Value) (f:Nat→Value) (hl:vs.size=cs.length) (hf:∀ i,i<cs.length→vs[i]?=some (f i))
   (hr:∀ i c,cs[i]?=some c→Rv M B c (f i)):Rv M B (.agg cs) (.agg vs)
 | tuple (cs:List PV) (vs:Array Value) (f:Nat→Value) (hl:vs.size=cs.length) (hf:∀ i,i<cs.length→vs[i]?=some (f i))
   (hr:∀ i c,cs[i]?=some c→Rv M B c (f i)):Rv M B (.tuple cs) (.tuple vs)
 | nil (o:Bool):Rv M B (.slice [] [] o) (.slice none 0 0)
 | slice (es bs:List PV) (o:Bool) (a:Addr) (cap s:Nat) (f:Nat→Nat→Value) (ha:0<cap→a.spot=none) (hc:es.length+bs.length≤cap)
   (ho:o=true→(es=[]→cap=0)∧bs=[]∧(es≠[]→a.off=0)) (hel:∀ (i:Nat) (e:PV),(es++bs)[i]?=some e→okEl s e)
   (hm:∀ (i:Nat) (e:PV) (j:Nat),(es++bs)[i]?=some e→j<s→M a.block (a.off+i*s+j)=some (f i j))
   (hr:∀ (i:Nat) (e:PV) (j:Nat) (c:PV),(es++bs)[i]?=some e→e.cells[j]?=some c→Rv M B c (f i j)):Rv M B (.slice es bs o) (.slice (some a) es.length cap)
 | mk0 (sz:Nat) (a:Addr) (cap:Nat) (ha:a.spot=none∧a.off=0):Rv M B (.mk0 sz) (.slice (some a) 0 cap)
 | ref (e:PV) (a:Addr) (s:Nat) (f:Nat→Value) (ha:a.spot=none) (hel:okEl s e) (hm:∀ j,j<s→M a.block (a.off+j)=some (f j))
   (hr:∀ j c,e.cells[j]?=some c→Rv M B c (f j)):Rv M B (.ref e) (.pointer (some a))
 | ptr (d id off b:Nat) (hb:B d id=some b):Rv M B (.ptr d id off) (.pointer (some ⟨b,off,none⟩))
 | nilptr:Rv M B .nilptr (.pointer none)
 | rsl (d id n sz b cap:Nat) (hb:B d id=some b) (hc:n≤cap):Rv M B (.rsl d id n sz) (.slice (some ⟨b,0,none⟩) n cap)
 | rslNil (d id sz:Nat) (oa:Option Addr):Rv M B (.rsl d id 0 sz) (.slice oa 0 0)
 | func (fn:Fn) (first caps:List PV) (vf vc:Array Value) (f g:Nat→Value) (hp:∀ c,c∈first++caps→c.plain=c)
   (hl:vf.size=first.length) (hf:∀ i,i<first.length→vf[i]?=some (f i)) (hrf:∀ i c,first[i]?=some c→Rv M B c (f i))
   (hl':vc.size=caps.length) (hg:∀ i,i<caps.length→vc[i]?=some (g i)) (hrg:∀ i c,caps[i]?=some c→Rv M B c (g i)) :
   Rv M B (.func fn first caps) (.func fn vf vc)
 | nilFunc:Rv M B .nilFunc .nilFunc
 | vec (sz:Nat) (E:List PV) (b cap:Nat) (hne:E≠[]) (hc:E.length≤cap) (h0:0<sz) (hE:∀ e∈E,okVe sz e=true) (hm:cap≤9223372036854775807):Rv M B (.vec sz E) (.slice (some ⟨b,0,none⟩) E.length cap)
 | vecNil (sz:Nat) (oa:Option Addr):Rv M B (.vec sz []) (.slice oa 0 0)
theorem Rv.mono {M M':Mem} {B B':BM} (hM:∀ b i v,M b i=some v→M' b i=some v) (hB:∀ d id b,B d id=some b→B' d id=some b)
  {p:PV} {v:Value} (h:Rv M B p v):Rv M' B' p v:=by
 induction h with
 | bot v=>exact .bot v
 | und=>exact .und
 | bool b=>exact .bool b
 | int k n=>exact .int k n
 | str s=>exact .str s
 | agg cs vs f hl hf _ ih=>exact .agg cs vs f hl hf ih
 | tuple cs vs f hl hf _ ih=>exact .tuple cs vs f hl hf ih
 | nil o=>exact .nil o
 | slice es bs o a cap s f ha hc ho hel hm _ ih=>exact .slice es bs o a cap s f ha hc ho hel (fun i e j h1 h2=>hM _ _ _ (hm i e j h1 h2)) ih
 | mk0 sz a cap ha=>exact .mk0 sz a cap ha
 | ref e a s f ha hel hm _ ih=>exact .ref e a s f ha hel (fun j hj=>hM _ _ _ (hm j hj)) ih
 | ptr d id off b hb=>exact .ptr d id off b (hB _ _ _ hb)
 | rsl d id n sz b cap hb hc=>exact .rsl d id n sz b cap (hB _ _ _ hb) hc
 | rslNil d id sz oa=>exact .rslNil d id sz oa
 | nilptr=>exact .nilptr
 | func fn first caps vf vc f g hp hl hf _ hl' hg _ ih ih'=>exact .func fn first caps vf vc f g hp hl hf ih hl' hg ih'
 | vec sz E b cap hne hc h0 hE hm=>exact .vec sz E b cap hne hc h0 hE hm
 | vecNil sz oa=>exact .vecNil sz oa
 | nilFunc=>exact .nilFunc
theorem okEl.cell {s:Nat} {e:PV} (h:okEl s e) {j:Nat} {c:PV} (hc:e.cells[j]?=some c):c.solid1=true:=by
 obtain ⟨hs,_,_,_⟩:=h
 cases e with
 | agg cs =>
  simp only [PV.solid,List.all_eq_true] at hs
  exact hs c (List.mem_of_getElem? (by simpa [cells] using hc))
 | _ =>
  simp only [PV.cells] at hc
  obtain rfl:j=0:=by
   cases j with
   | zero=>rfl
   | succ j=>simp at hc
  simp at hc;subst hc;simpa [PV.solid] using hs
theorem Rv.anyB1 {M:Mem} {B:BM} (B':BM) {p:PV} {v:Value} (h:Rv M B p v):p.solid1=true→Rv M B' p v:=by
 induction h with
 | bool b=>intro _;exact .bool b
 | int k n=>intro _;exact .int k n
 | str s=>intro _;exact .str s
 | nil o=>intro _;exact .nil o
 | slice es bs o a cap s f ha hc ho hel hm _ ih=>intro _;exact .slice es bs o a cap s f ha hc ho hel hm (fun i e j c h1 h2=>ih i e j c h1 h2 ((hel i e h1).cell h2))
 | mk0 sz a cap ha=>intro _;exact .mk0 sz a cap ha
 | _=>intro h;simp [PV.solid1] at h
theorem Rv.anyB {M:Mem} {B:BM} (B':BM) {p:PV} {v:Value} (h:Rv M B p v) (hs:p.solid=true):Rv M B' p v:=by
 cases h with
 | agg cs vs f hl hf hr =>
  simp only [PV.solid,List.all_eq_true] at hs
  exact .agg cs vs f hl hf fun i c hc=>(hr i c hc).anyB1 B' (hs c (List.mem_of_getElem? hc))
 | bot v=>simp [PV.solid,PV.solid1] at hs
 | und=>simp [PV.solid,PV.solid1] at hs
 | bool b=>exact .bool b
 | int k n=>exact .int k n
 | str s=>exact .str s
 | tuple=>simp [PV.solid,PV.solid1] at hs
 | nil o=>exact .nil o
 | slice es bs o a cap s f ha hc ho hel hm hr=>exact (Rv.slice es bs o a cap s f ha hc ho hel hm hr).anyB1 B' rfl
 | mk0 sz a cap ha=>exact .mk0 sz a cap ha
 | ref=>simp [PV.solid,PV.solid1] at hs
 | ptr=>simp [PV.solid,PV.solid1] at hs
 | rsl=>simp [PV.solid,PV.solid1] at hs
 | rslNil=>simp [PV.solid,PV.solid1] at hs
 | nilptr=>simp [PV.solid,PV.solid1] at hs
 | func=>simp [PV.solid,PV.solid1] at hs
 | vec=>simp [PV.solid,PV.solid1] at hs
 | vecNil=>simp [PV.solid,PV.solid1] at hs
 | nilFunc=>simp [PV.solid,PV.solid1] at hs
theorem Rv.anyBfree {M:Mem} {B:BM} (B':BM) {p:PV} {v:Value} (h:Rv M B p v) (hs:p.free=true):Rv M B' p v:=by
 cases h with
 | func fn first caps vf vc f g hp hl hf hrf hl' hg hrg =>
  simp only [PV.free,Bool.and_eq_true,List.all_eq_true] at hs
  exact .func fn first caps vf vc f g hp hl hf (fun i c hc=>(hrf i c hc).anyB B' (hs.1 c (List.mem_of_getElem? hc))) hl' hg (fun i c hc=>(hrg i c hc).anyB B' (hs.2 c (List.mem_of_getElem? hc)))
 | vec sz E b cap hne hc h0 hE hm=>exact .vec sz E b cap hne hc h0 hE hm
 | vecNil sz oa=>exact .vecNil sz oa
 | nilFunc=>exact .nilFunc
 | bot v=>simp [PV.free,PV.solid,PV.solid1] at hs
 | und=>simp [PV.free,PV.solid,PV.solid1] at hs
 | bool b=>exact .bool b
 | int k n=>exact .int k n
 | str s=>exact .str s
 | agg cs vs f hl hf hr=>exact (Rv.agg cs vs f hl hf hr).anyB B' (by simpa [PV.free] using hs)
 | tuple=>simp [PV.free,PV.solid,PV.solid1] at hs
 | nil o=>exact .nil o
 | slice es bs o a cap s f ha hc ho hel hm hr=>exact (Rv.slice es bs o a cap s f ha hc ho hel hm hr).anyB B' rfl
 | mk0 sz a cap ha=>exact .mk0 sz a cap ha
 | ref=>simp [PV.free,PV.solid,PV.solid1] at hs
 | ptr=>simp [PV.free,PV.solid,PV.solid1] at hs
 | rsl=>simp [PV.free,PV.solid,PV.solid1] at hs
 | rslNil=>simp [PV.free,PV.solid,PV.solid1] at hs
 | nilptr=>simp [PV.free,PV.solid,PV.solid1] at hs
theorem Rv.plain1 {M:Mem} {B:BM} {p:PV} {v:Value} (h:Rv M B p v):Rv M B p.plain1 v:=by
 cases h with
 | slice es bs o a cap s f ha hc ho hel hm hr =>
  refine .slice es [] false a cap s f ha (by simp;omega) (by simp) ?_ ?_ ?_
  ·intro i e he;simp at he;exact hel i e (by rw [List.getElem?_append_left (by have:=(List.getElem?_eq_some_iff.1 he).1;exact this)];exact he)
  ·intro i e j he hj;simp at he;exact hm i e j (by rw [List.getElem?_append_left (by have:=(List.getElem?_eq_some_iff.1 he).1;exact this)];exact he) hj
  ·intro i e j c he hc';simp at he;exact hr i e j c (by rw [List.getElem?_append_left (by have:=(List.getElem?_eq_some_iff.1 he).1;exact this)];exact he) hc'
 | mk0 sz a cap ha =>
  exact .slice [] [] false a cap 1 (fun _ _=>undef) (fun _=>ha.1) (by simp) (by simp) (by simp) (by simp) (by simp)
 | nil o=>exact .nil false
 | agg cs vs f hl hf hr=>exact .agg cs vs f hl hf hr
 | tuple cs vs f hl hf hr=>exact .tuple cs vs f hl hf hr
 | bot v=>exact .bot v
 | und=>exact .und
 | bool b=>exact .bool b
 | int k n=>exact .int k n
 | str s=>exact .str s
 | ref e a s f ha hel hm hr=>exact .ref e a s f ha hel hm hr
 | ptr d id off b hb=>exact .ptr d id off b hb
 | rsl d id n sz b cap hb hc=>exact .rsl d id n sz b cap hb hc
 | rslNil d id sz oa=>exact .rslNil d id sz oa
 | nilptr=>exact .nilptr
 | func fn first caps vf vc f g hp hl hf hrf hl' hg hrg=>exact .func fn first caps vf vc f g hp hl hf hrf hl' hg hrg
 | vec=>exact .bot _
 | vecNil=>exact .bot _
 | nilFunc=>exact .nilFunc
theorem Rv.plainA {M:Mem} {B:BM} {p:PV} {v:Value} (h:Rv M B p v):Rv M B p.plainA v:=by
 cases h with
 | agg cs vs f hl hf hr =>
  refine .agg _ vs f (by simpa using hl) (by simpa using hf) ?_
  intro i c hc
  simp only [List.getElem?_map,Option.map_eq_some_iff] at hc
  obtain ⟨c0,h0,rfl⟩:=hc
  exact (hr i c0 h0).plain1
 | slice es bs o a cap s f ha hc ho hel hm hr=>exact (Rv.slice es bs o a cap s f ha hc ho hel hm hr).plain1
 | mk0 sz a cap ha=>exact (Rv.mk0 sz a cap ha).plain1
 | nil o=>exact (Rv.nil o).plain1
 | tuple cs vs f hl hf hr=>exact (Rv.tuple cs vs f hl hf hr).plain1
 | bot v=>exact .bot v
 | und=>exact .und
 | bool b=>exact .bool b
 | int k n=>exact .int k n
 | str s=>exact .str s
 | ref e a s f ha hel hm hr=>exact .ref e a s f ha hel hm hr
 | ptr d id off b hb=>exact .ptr d id off b hb
 | rsl d id n sz b cap hb hc=>exact .rsl d id n sz b cap hb hc
 | rslNil d id sz oa=>exact .rslNil d id sz oa
 | nilptr=>exact .nilptr
 | func fn first caps vf vc f g hp hl hf hrf hl' hg hrg=>exact .func fn first caps vf vc f g hp hl hf hrf hl' hg hrg
 | vec=>exact .bot _
 | vecNil=>exact .bot _
 | nilFunc=>exact .nilFunc
theorem Rv.plain {M:Mem} {B:BM} {p:PV} {v:Value} (h:Rv M B p v):Rv M B p.plain v:=by
 cases h with
 | tuple cs vs f hl hf hr =>
  refine .tuple _ vs f (by simpa using hl) (by simpa using hf) ?_
  intro i c hc
  simp only [List.getElem?_map,Option.map_eq_some_iff] at hc
  obtain ⟨c0,h0,rfl⟩:=hc
  exact (hr i c0 h0).plainA
 | agg cs vs f hl hf hr=>exact (Rv.agg cs vs f hl hf hr).plainA
 | slice es bs o a cap s f ha hc ho hel hm hr=>exact (Rv.slice es bs o a cap s f ha hc ho hel hm hr).plainA
 | mk0 sz a cap ha=>exact (Rv.mk0 sz a cap ha).plainA
 | nil o=>exact (Rv.nil o).plainA
 | bot v=>exact .bot v
 | und=>exact .und
 | bool b=>exact .bool b
 | int k n=>exact .int k n
 | str s=>exact .str s
 | ref e a s f ha hel hm hr=>exact .ref e a s f ha hel hm hr
 | ptr d id off b hb=>exact .ptr d id off b hb
 | rsl d id n sz b cap hb hc=>exact .rsl d id n sz b cap hb hc
 | rslNil d id sz oa=>exact .rslNil d id sz oa
 | nilptr=>exact .nilptr
 | func fn first caps vf vc f g hp hl hf hrf hl' hg hrg=>exact .func fn first caps vf vc f g hp hl hf hrf hl' hg hrg
 | vec=>exact .bot _
 | vecNil=>exact .bot _
 | nilFunc=>exact .nilFunc
theorem aB8 (p:PV):p.plain1.plain1=p.plain1:=by cases p<;>rfl
theorem aPx (p:PV):p.plainA.plainA=p.plainA:=by
 cases p with
 | agg cs=>simp [PV.plainA,Function.comp_def,aB8]
 | _=>simp [PV.plainA,PV.plain1]
theorem aJI (p:PV):p.plain.plain=p.plain:=by
 cases p with
 | tuple vs=>simp [PV.plain,Function.comp_def,aPx]
 | agg cs=>simp [PV.plain,PV.plainA,Function.comp_def,aB8]
 | _=>simp [PV.plain,PV.plainA,PV.plain1]
theorem Rv.ofAtom {M:Mem} {B:BM} (v:Value):Rv M B (ofAtom v) v:=by
 unfold Ev.ofAtom
 split<;>first
  | exact .bool _
  | exact .int _ _
  | exact .str _
  | exact .nil _
  | exact .nilptr
  | exact .nilFunc
  | exact .bot _
theorem Rv.ofValue {M:Mem} {B:BM} (v:Value):Rv M B (ofValue v) v:=by
 unfold Ev.ofValue
 split
 ·rename_i cs
  refine .agg _ cs (fun i=>cs.getD i undef) (by simp) (by intro i hi;simp at hi;simp [hi]) ?_
  intro i c hc
  simp only [List.getElem?_map,Option.map_eq_some_iff,Array.getElem?_toList] at hc
  obtain ⟨v0,h0,rfl⟩:=hc
  simp [h0,Rv.ofAtom]
 ·exact .ofAtom _
def bV:Nat→(Nat→Nat)→Nat
 | 0,_=>0
 | n+1,f=>bV n f+f n
theorem cR {f g:Nat→Nat}:∀ (n:Nat),(∀ i,i<n→f i=g i)→bV n f=bV n g
 | 0,_=>rfl
 | n+1,h=>by simp only [bV];rw [cR n (fun i hi=>h i (by omega)),h n (by omega)]
theorem aDp {f g:Nat→Nat}:∀ (n:Nat),(∀ i,i<n→f i≤g i)→bV n f≤bV n g
 | 0,_=>Nat.le_refl _
 | n+1,h=>by simp only [bV];have:=aDp n (fun i hi=>h i (by omega));have:=h n (by omega);omega
theorem aDq {f g:Nat→Nat} {k:Nat}:∀ (n:Nat),k<n→(∀ i,i<n→i≠k→f i=g i)→bV n f+g k=bV n g+f k
 | 0,hk,_=>by omega
 | n+1,hk,h=>by
  simp only [bV]
  by_cases e:k=n
  ·subst e
   rw [cR k (fun i hi=>h i (by omega) (by omega))];omega
  ·have:=aDq n (by omega) (fun i hi hne=>h i (by omega) hne)
   rw [h n (by omega) (Ne.symm e)];omega
theorem aDr {f:Nat→Nat} {k:Nat}:∀ (n:Nat),k<n→f k≤bV n f
 | 0,hk=>by omega
 | n+1,hk=>by
  simp only [bV]
  by_cases e:k=n
  ·subst e;omega
  ·have:=aDr (f:=f) n (by omega:k<n);omega
def sumL {α:Type} (f:α→Nat):List α→Nat
 | []=>0
 | a::l=>f a+sumL f l
theorem aDs {α:Type} {f:α→Nat}:∀ (l:List α),(∀ a∈l,f a=0)→sumL f l=0
 | [],_=>rfl
 | a::l,h=>by simp [sumL,h a (by simp),aDs l (fun x hx=>h x (by simp [hx]))]
theorem aGW {α:Type} {f:α→Nat} {a:α}:∀ (l:List α),a∈l→f a≤sumL f l
 | [],h=>by simp at h
 | x::l,h=>by
  simp only [sumL]
  rcases List.mem_cons.1 h with rfl | h
  ·omega
  ·have:=aGW (f:=f) l h;omega
def dH (g:Nat→List PV→Nat):aV→Nat
 | []=>0
 | (id,cs)::l=>g id cs+dH g l
def fZ (g:Nat→Nat→List PV→Nat):Nat→List aV→Nat
 | _,[]=>0
 | d,f::r=>dH (g d) f+fZ g (d+1) r
theorem aFz (g:Nat→List PV→Nat):∀ (a b:aV),dH g (a++b)=dH g a+dH g b
 | [],b=>by simp [dH]
 | (i,c)::a,b=>by simp [dH,aFz g a b];omega
theorem kC {α:Type} {v:α} {i:Nat}:∀ {l:List (Nat×α)},look l i=some v→(i,v)∈l
 | [],h=>by simp [look] at h
 | (j,u)::l,h=>by
  simp only [look] at h
  split at h
  ·rename_i e;subst e;cases h;simp
  ·exact List.mem_cons_of_mem _ (kC h)
theorem gK {α:Type} {v:α} {i:Nat}:∀ {l:List (Nat×α)},(l.map (·.1)).Nodup→(i,v)∈l→look l i=some v
 | [],_,h=>by simp at h
 | (j,u)::l,hn,h=>by
  simp only [List.map_cons,List.nodup_cons] at hn
  simp only [look]
  rcases List.mem_cons.1 h with e | h
  ·cases e;simp
  ·rw [if_neg (by intro e;subst e;exact hn.1 (List.mem_map.2 ⟨_,h,rfl⟩))];exact gK hn.2 h
theorem yN {α:Type} {i:Nat}:∀ {l:List (Nat×α)},look l i=none↔i∉l.map (·.1)
 | []=>by simp [look]
 | (j,u)::l=>by
  simp only [look,List.map_cons,List.mem_cons,not_or]
  split
  ·rename_i e;simp [e]
  ·rename_i e;rw [yN (l:=l)];exact ⟨fun h=>⟨fun h'=>e h'.symm,h⟩,fun h=>h.2⟩
theorem eM {g g':Nat→List PV→Nat}:∀ (f:aV),(∀ id cs,(id,cs)∈f→g id cs=g' id cs)→dH g f=dH g' f
 | [],_=>rfl
 | (i,c)::f,h=>by simp only [dH];rw [h i c (by simp),eM f (fun id cs hm=>h id cs (by simp [hm]))]
theorem aMw {g g':Nat→List PV→Nat} {id:Nat} {cs cs':List PV}:∀ (f:aV),(f.map (·.1)).Nodup→look f id=some cs →
  (∀ i c,(i,c)∈f→i≠id→g' i c=g i c)→dH g' (tX f id cs')+g id cs=dH g f+g' id cs'
 | [],_,h,_=>by simp [look] at h
 | (i,c)::f,hn,hl,hg=>by
  simp only [List.map_cons,List.nodup_cons] at hn
  simp only [look] at hl
  simp only [tX]
  by_cases e:i=id
  ·subst e
   simp only [if_true,Option.some.injEq] at hl
   subst hl
   simp only [if_true,dH]
   rw [eM f (g:=g') (g':=g) (fun j c' hm=>hg j c' (by simp [hm]) (by intro e;subst e;exact hn.1 (List.mem_map.2 ⟨_,hm,rfl⟩)))]
   omega
  ·simp only [if_neg e,dH]
   simp only [if_neg e] at hl
   have:=aMw (g:=g) (g':=g') (cs':=cs') f hn.2 hl (fun j c' hm hne=>hg j c' (by simp [hm]) hne)
   rw [hg i c (by simp) e];omega
theorem yO {g:Nat→List PV→Nat} {id:Nat} {cs:List PV}:∀ (f:aV),(id,cs)∈f→g id cs≤dH g f
 | [],h=>by simp at h
 | (i,c)::f,h=>by
  simp only [dH]
  rcases List.mem_cons.1 h with e | h
  ·cases e;omega
  ·have:=yO (g:=g) f h;omega
def own1:PV→Value→Option Nat
 | .slice (_::_) _ true,.slice (some a) _ _=>some a.block
 | .mk0 _,.slice (some a) _ _=>some a.block
 | .vec _ (_::_),.slice (some a) _ _=>some a.block
 | _,_=>none
def bO (w:World) (blk j:Nat):Value:=(w.cell? ⟨blk,j,none⟩).getD undef
def c1 (p:PV) (v:Value) (b:Nat):Nat:=if own1 p v=some b then 1 else 0
structure HOk (M:Mem) (w:World) (base:Base) (B:BM) (b lo hi:Nat):Prop where
 old:base≤b
 nobox:∀ d id,B d id≠some b
 row:∃ arr T fz,w.heap[b]?=some (.cells arr T fz)∧hi≤arr.size∧∀ i,i<hi→¬ (fz.1≤i∧i<fz.2)
 free:∀ i,lo≤i→M b i=none
def h1 (M:Mem) (w:World) (base:Base) (B:BM):PV→Value→Prop
 | .slice (e::_) _ true,.slice (some a) len cap=>HOk M w base B a.block (a.off+len*e.cells.length) (a.off+cap*e.cells.length)
 | .mk0 sz,.slice (some a) _ cap=>HOk M w base B a.block a.off (a.off+cap*sz)
 | .vec sz (e::E),.slice (some a) _ cap=>HOk M w base B a.block 0 (cap*sz)∧∀ (j:Nat) (c:PV),((e::E).flatMap cells)[j]?=some c→Rv M (fun _ _=>none) c (bO w a.block j)
 | _,_=>True
theorem tY {M:Mem} {w:World} {base:Base} {B:BM} {p:PV} {v:Value} (h:own1 p v=none):h1 M w base B p v:=by
 unfold h1;unfold own1 at h
 split<;>simp_all
def zipA (p:PV) (v:Value):List (PV×Value) :=
 match p,v with
 | .agg cs,.agg vs=>cs.zip vs.toList
 | p,v=>[(p,v)]
def atoms (p:PV) (v:Value):List (PV×Value) :=
 match p,v with
 | .tuple ps,.tuple vs=>(ps.zip vs.toList).flatMap fun x=>zipA x.1 x.2
 | p,v=>zipA p v
def cV (p:PV) (v:Value) (b:Nat):Nat:=sumL (fun x=>c1 x.1 x.2 b) (atoms p v)
def hV (M:Mem) (w:World) (base:Base) (B:BM) (p:PV) (v:Value):Prop:=∀ x∈atoms p v,h1 M w base B x.1 x.2
def dV (p:PV) (v:Value):Prop:=∀ x∈atoms p v,own1 x.1 x.2=none
theorem dV.c {p:PV} {v:Value} (h:dV p v) (b:Nat):cV p v b=0:=aDs _ fun x hx=>by simp [c1,h x hx]
theorem dV.h {p:PV} {v:Value} (h:dV p v) (M:Mem) (w:World) (base:Base) (B:BM):hV M w base B p v:=fun x hx=>tY (h x hx)
theorem aB9 (p:PV) (v:Value):own1 p.plain1 v=none:=by cases p<;>cases v<;>simp [PV.plain1,own1]
theorem pJ (es bs:List PV) (v:Value):own1 (.slice es bs false) v=none:=by cases es<;>cases v<;>simp [own1]
theorem rX (cs:List PV) (v:Value):own1 (.agg cs) v=none:=by cases v<;>rfl
theorem aJJ (cs:List PV) (v:Value):own1 (.tuple cs) v=none:=by cases v<;>rfl
theorem cX (p:PV) (v:Value):∀ x∈zipA p.plainA v,own1 x.1 x.2=none:=by
 intro x hx
 cases p with
 | agg cs =>
  cases v with
  | agg vs =>
   simp only [PV.plainA,zipA] at hx
   obtain ⟨c,hc⟩:∃ c,c∈cs∧x.1=c.plain1:=by
    have:=(List.of_mem_zip (show (x.1,x.2)∈_ from hx)).1
    simp only [List.mem_map] at this
    obtain ⟨c,hc,e⟩:=this
    exact ⟨c,hc,e.symm⟩
   rw [hc.2];exact aB9 _ _
  | _=>simp only [PV.plainA,zipA,List.mem_singleton] at hx;subst hx;exact rX _ _
 | tuple ps=>simp only [PV.plainA,PV.plain1,zipA,List.mem_singleton] at hx;subst hx;exact aJJ _ _
 | _ =>
  simp only [PV.plainA,PV.plain1,zipA,List.mem_singleton] at hx
  subst hx
  first
   | exact pJ _ _ _
   | (cases v<;>rfl)
theorem bT (p:PV) (v:Value):dV p.plain v:=by
 intro x hx
 cases p with
 | tuple ps =>
  cases v with
  | tuple vs =>
   simp only [PV.plain,atoms,List.mem_flatMap] at hx
   obtain ⟨y,hy,hx⟩:=hx
   have:=(List.of_mem_zip (show (y.1,y.2)∈_ from hy)).1
   simp only [List.mem_map] at this
   obtain ⟨c,_,e⟩:=this
   rw [← e] at hx
   exact cX c y.2 x hx
  | _ =>
   simp only [PV.plain,atoms,zipA,List.mem_singleton] at hx
   subst hx;exact aJJ _ _
 | agg cs=>exact cX (.agg cs) v x hx
 | slice es bs o=>exact cX (.slice es bs o) v x hx
 | mk0 sz=>exact cX (.mk0 sz) v x hx
 | bot=>exact cX .bot v x hx
 | und=>exact cX .und v x hx
 | bool b=>exact cX (.bool b) v x hx
 | int k n=>exact cX (.int k n) v x hx
 | str s=>exact cX (.str s) v x hx
 | ref e=>exact cX (.ref e) v x hx
 | ptr d i o=>exact cX (.ptr d i o) v x hx
 | nilptr=>exact cX .nilptr v x hx
 | rsl d i n z=>exact cX (.rsl d i n z) v x hx
 | vec z E=>exact cX (.vec z E) v x hx
 | func f a b=>exact cX (.func f a b) v x hx
 | nilFunc=>exact cX .nilFunc v x hx
theorem bR {p:PV} {v:Value} (h:p.plain=p):dV p v:=by rw [← h];exact bT p v
theorem nG (p:PV):dV p undef:=by
 intro x hx
 cases p with
 | tuple ps=>simp [atoms,undef] at hx
 | agg cs=>simp only [atoms,undef,zipA,List.mem_singleton] at hx;subst hx;exact rX _ _
 | _=>simp only [atoms,undef,zipA,List.mem_singleton] at hx;subst hx;simp [own1]
def cS (w:World) (blk:Nat):Nat→List PV→Nat→Nat
 | _,[],_=>0
 | j,c::cs,b=>c1 c (bO w blk j) b+cS w blk (j+1) cs b
def cBox (w:World) (ob:Option Nat) (cs:List PV) (b:Nat):Nat :=
 match ob with
 | some blk=>cS w blk 0 (phys cs) b
 | none=>0
def cBx (w:World) (B:BM) (bx:List aV) (b:Nat):Nat:=fZ (fun d id cs=>cBox w (B d id) cs b) 0 bx
def cF (fr:List (Nat×PV)) (tm:Array Value) (b:Nat):Nat:=bV tm.size fun i=>cV (gets fr i) (tm.getD i undef) b
def upB (d:Nat) (B:BM):BM:=fun e id=>B (d+e) id
def Cons (M:Mem) (w:World):Prop:=∀ b i v,M b i=some v→∃ arr T fz,w.heap[b]?=some (.cells arr T fz)∧arr[i]?=some v
structure BoxOk (M:Mem) (w:World) (base:Base) (B:BM) (d blk:Nat) (cs:List PV):Prop where
 old:base≤blk
 row:∃ arr T fz,w.heap[blk]?=some (.cells arr T fz)∧(phys cs).length≤arr.size∧∀ i,i<(phys cs).length→¬ (fz.1≤i∧i<fz.2)
 free:∀ i,M blk i=none
 rel:∀ (j:Nat) (c:PV),(phys cs)[j]?=some c→Rv M (upB d B) c (bO w blk j)∧h1 M w base B c (bO w blk j)∧fits 0 c=true
def okV:List PV→Prop
 | [.vec sz E]=>0<sz∧∀ e∈E,okVe sz e=true
 | _=>True
def bCp (B:BM) (d id:Nat) (cs:List PV):Prop:=B d id=none∧∃ sz,cs=[.vec sz []]
structure BRel (M:Mem) (w:World) (base:Base) (B:BM) (bx:List aV):Prop where
 nodup:∀ (d:Nat) (f:aV),bx[d]?=some f→(f.map (·.1)).Nodup
 dom:∀ d id,aX bx d id=none→B d id=none
 ok:∀ d id cs,aX bx d id=some cs→okV cs∧((∃ blk,B d id=some blk∧BoxOk M w base B d blk cs)∨bCp B d id cs)
 inj:∀ d id d' id' blk,B d id=some blk→B d' id'=some blk→d=d'∧id=id'
def tot (fr:List (Nat×PV)) (tm:Array Value) (w:World) (B:BM) (bx:List aV) (b:Nat):Nat:=cF fr tm b+cBx w B bx b
structure SR (base:Base) (M:Mem) (B:BM) (st:St) (tm:Array Value) (w:World):Prop where
 cons:Cons M w
 slot:∀ i,Rv M B (gets st.fr i) (tm.getD i undef)
 slotH:∀ i,hV M w base B (gets st.fr i) (tm.getD i undef)
 box:BRel M w base B st.bx
 one:∀ b,tot st.fr tm w B st.bx b≤1
 glob:Glob base M
 base:base≤w.heap.size
def touch (t:Nat→Nat) (B:BM) (b:Nat):Prop:=1≤t b∨∃ d id,B d id=some b
structure Evo (w:World) (M:Mem) (t:Nat→Nat) (B:BM) (w':World) (M':Mem) (t':Nat→Nat) (B':BM):Prop where
 os:w'.os=w.os
 tape:w'.tape=w.tape
 output:w'.output=w.output
 size:w.heap.size≤w'.heap.size
 mono:∀ b i v,M b i=some v→M' b i=some v
 keep:∀ b,b<w.heap.size→¬ touch t B b→w'.heap[b]?=w.heap[b]?∧∀ i,M' b i=M b i
 tle:∀ b,b<w.heap.size→t' b≤t b
 bxs:∀ d id b,B' d id=some b→b<w.heap.size→∃ d' id',B d' id'=some b
 outer:∀ d id,B' (d+1) id=B (d+1) id
theorem Evo.refl (w:World) (M:Mem) (t:Nat→Nat) (B:BM):Evo w M t B w M t B :=
 ⟨rfl,rfl,rfl,Nat.le_refl _,fun _ _ _ h=>h,fun _ _ _=>⟨rfl,fun _=>rfl⟩,fun _ _=>Nat.le_refl _,fun d id b h _=>⟨d,id,h⟩,fun _ _=>rfl⟩
theorem Evo.touch {w w':World} {M M':Mem} {t t':Nat→Nat} {B B':BM} (h:Evo w M t B w' M' t' B') {b:Nat} (hb:b<w.heap.size) (ht:touch t' B' b):touch t B b:=by
 rcases ht with h1 | ⟨d,id,h2⟩
 ·exact .inl (Nat.le_trans h1 (h.tle b hb))
 ·exact .inr (h.bxs d id b h2 hb)
theorem Evo.trans {w w1 w2:World} {M M1 M2:Mem} {t t1 t2:Nat→Nat} {B B1 B2:BM} (h:Evo w M t B w1 M1 t1 B1) (k:Evo w1 M1 t1 B1 w2 M2 t2 B2):Evo w M t B w2 M2 t2 B2 where
 os:=k.os.trans h.os
 tape:=k.tape.trans h.tape
 output:=k.output.trans h.output
 size:=Nat.le_trans h.size k.size
 mono:=fun b i v hv=>k.mono b i v (h.mono b i v hv)
 keep:=fun b hb hn=>by
  obtain ⟨e1,m1⟩:=h.keep b hb hn
  obtain ⟨e2,m2⟩:=k.keep b (Nat.lt_of_lt_of_le hb h.size) (fun ht=>hn (h.touch hb ht))
  exact ⟨e2.trans e1,fun i=>(m2 i).trans (m1 i)⟩
 tle:=fun b hb=>Nat.le_trans (k.tle b (Nat.lt_of_lt_of_le hb h.size)) (h.tle b hb)
 bxs:=fun d id b hb hs=>by
  obtain ⟨d1,i1,h1⟩:=k.bxs d id b hb (Nat.lt_of_lt_of_le hs h.size)
  exact h.bxs d1 i1 b h1 hs
 outer:=fun d id=>(k.outer d id).trans (h.outer d id)
def putT (tm:Array Value) (dst:Option Nat) (v:Value):Array Value :=
 match dst with
 | some d=>tm.setIfInBounds d v
 | none=>tm
theorem aSa (a:Act) (dst:Option Nat) (v:Value):(a.put dst v).tmps=putT a.tmps dst v:=by cases dst<;>rfl
theorem aJK (a:Act) (dst:Option Nat) (v:Value):(a.put dst v).defers=a.defers:=by cases dst<;>rfl
theorem fB (tm:Array Value) (dst:Option Nat) (v:Value):(putT tm dst v).size=tm.size:=by cases dst<;>simp [putT]
theorem aXR (l m:List (Nat×PV)) (i:Nat):gets (l++m) i=match look l i with | some v=>v | none=>gets m i:=by
 induction l with
 | nil=>rfl
 | cons x l ih =>
  obtain ⟨j,v⟩:=x
  rw [List.cons_append,dM,iV,ih]
  by_cases e:j=i<;>simp [e]
theorem yP (nt:Nat) (dst:Option Nat) (p:PV) (fr:List (Nat×PV)) (i:Nat) :
  gets (dstW nt dst p++fr) i=if dst=some i∧i<nt then p else gets fr i:=by
 unfold dstW
 cases dst with
 | none=>simp
 | some d =>
  simp only [Option.some.injEq]
  by_cases h:d<nt
  ·simp only [h,if_true,List.cons_append,List.nil_append,dM]
   by_cases e:d=i
   ·subst e;simp [h]
   ·simp [e]
  ·simp only [h,if_false,List.nil_append]
   rw [if_neg (by rintro ⟨rfl,h'⟩;exact h h')]
theorem aDt (tm:Array Value) (dst:Option Nat) (v:Value) (i:Nat) :
  (putT tm dst v).getD i undef=if dst=some i∧i<tm.size then v else tm.getD i undef:=by
 unfold putT
 cases dst with
 | none=>simp
 | some d =>
  simp only [Option.some.injEq,Array.getD_eq_getD_getElem?,Array.getElem?_setIfInBounds]
  by_cases e:d=i
  ·subst e
   by_cases h:d<tm.size<;>simp [h]
  ·simp [e]
section
variable {base : Base} {M : Mem} {B : BM} {st : St} {tm : Array Value} {w : World}
theorem SR.world (h:SR base M B st tm w) {M':Mem} {w':World} (hc:Cons M' w') (hm:∀ b i v,M b i=some v→M' b i=some v)
  (hb:∀ d id b,B d id=some b→w'.heap[b]?=w.heap[b]?∧∀ i,M' b i=M b i)
  (ho:∀ b,1≤tot st.fr tm w B st.bx b→w'.heap[b]?=w.heap[b]?∧∀ i,M' b i=M b i) (hs:w.heap.size≤w'.heap.size) :
  SR base M' B st tm w'∧∀ b,tot st.fr tm w' B st.bx b=tot st.fr tm w B st.bx b:=by
 have hcell:∀ d id b j,B d id=some b→bO w' b j=bO w b j:=by
  intro d id b j hB
  simp [bO,World.cell?,(hb d id b hB).1]
 have hcells:∀ d id b (cs:List PV) (j x:Nat),B d id=some b→cS w' b j cs x=cS w b j cs x:=by
  intro d id b cs j x hB
  induction cs generalizing j with
  | nil=>rfl
  | cons c cs ih=>simp [cS,hcell d id b j hB,ih]
 have hbox:∀ d id cs x,cBox w' (B d id) cs x=cBox w (B d id) cs x:=by
  intro d id cs x
  unfold cBox
  cases hB:B d id with
  | none=>rfl
  | some b=>exact hcells d id b (phys cs) 0 x hB
 have hbx:∀ x,cBx w' B st.bx x=cBx w B st.bx x:=by
  intro x
  unfold cBx
  have:(fun d id cs=>cBox w' (B d id) cs x)=fun d id cs=>cBox w (B d id) cs x:=by
   funext d id cs;exact hbox d id cs x
  rw [this]
 have htot:∀ x,tot st.fr tm w' B st.bx x=tot st.fr tm w B st.bx x:=fun x=>by simp [tot,hbx]
 have hh1:∀ p v,(∀ x,own1 p v=some x→1≤tot st.fr tm w B st.bx x)→h1 M w base B p v→h1 M' w' base B p v:=by
  intro p v hown h1p
  unfold h1 at h1p ⊢
  split
  ·rename_i e es bs a len cap
   obtain ⟨e1,e2⟩:=ho a.block (hown a.block (by simp [own1]))
   obtain ⟨o,nb,⟨arr,T,fz,hr,hsz,hf⟩,fr⟩:=h1p
   exact ⟨o,nb,⟨arr,T,fz,by rw [e1];exact hr,hsz,hf⟩,fun i hi=>by rw [e2];exact fr i hi⟩
  ·rename_i sz a len cap
   obtain ⟨e1,e2⟩:=ho a.block (hown a.block (by simp [own1]))
   obtain ⟨o,nb,⟨arr,T,fz,hr,hsz,hf⟩,fr⟩:=h1p
   exact ⟨o,nb,⟨arr,T,fz,by rw [e1];exact hr,hsz,hf⟩,fun i hi=>by rw [e2];exact fr i hi⟩
  ·rename_i sz e es a len cap
   obtain ⟨e1,e2⟩:=ho a.block (hown a.block (by simp [own1]))
   obtain ⟨⟨o,nb,⟨arr,T,fz,hr,hsz,hf⟩,fr⟩,hcont⟩:=h1p
   refine ⟨⟨o,nb,⟨arr,T,fz,by rw [e1];exact hr,hsz,hf⟩,fun i hi=>by rw [e2];exact fr i hi⟩,fun j c hc => ?_⟩
   have:bO w' a.block j=bO w a.block j:=by simp [bO,World.cell?,e1]
   rw [this]
   exact (hcont j c hc).mono hm (fun _ _ _ hx=>hx)
  ·trivial
 refine ⟨⟨hc,fun i=>(h.slot i).mono hm (fun _ _ _ hx=>hx),?_,?_,fun b=>by rw [htot];exact h.one b,h.glob.mono hm,Nat.le_trans h.base hs⟩,htot⟩
 ·intro i x hx
  by_cases hi:i<tm.size
  ·refine hh1 x.1 x.2 (fun b hb' => ?_) (h.slotH i x hx)
   have h1':c1 x.1 x.2 b=1:=by simp [c1,hb']
   have h2:c1 x.1 x.2 b≤cV (gets st.fr i) (tm.getD i undef) b:=aGW (f:=fun y=>c1 y.1 y.2 b) _ hx
   have h3:=aDr (f:=fun i=>cV (gets st.fr i) (tm.getD i undef) b) tm.size hi
   simp only [tot,cF];omega
  ·have:tm.getD i undef=undef:=by simp [Array.getD,hi]
   rw [this] at hx
   exact tY (nG _ x hx)
 ·refine ⟨h.box.nodup,h.box.dom,?_,h.box.inj⟩
  intro d id cs hbx'
  obtain ⟨hv,hbk⟩:=h.box.ok d id cs hbx'
  refine ⟨hv,?_⟩
  rcases hbk with ⟨blk,hB,⟨o,⟨arr,T,fz,hr,hsz,hfz⟩,fr,rel⟩⟩ | hno
  rotate_left
  ·exact .inr hno
  left
  refine ⟨blk,hB,o,⟨arr,T,fz,by rw [(hb d id blk hB).1];exact hr,hsz,hfz⟩,fun i=>by rw [(hb d id blk hB).2];exact fr i,?_⟩
  intro j c hj
  rw [hcell d id blk j hB]
  obtain ⟨r1,r2,r3⟩:=rel j c hj
  refine ⟨r1.mono hm (fun _ _ _ hx=>hx),hh1 _ _ (fun b hb' => ?_) r2,r3⟩
  have k1:c1 c (bO w blk j) b=1:=by simp [c1,hb']
  have key:∀ (l:List PV) (k j:Nat) (c:PV),l[j]?=some c→c1 c (bO w blk (k+j)) b≤cS w blk k l b:=by
   intro l
   induction l with
   | nil=>intro k j c hj;simp at hj
   | cons a l ih =>
    intro k j c hj
    cases j with
    | zero=>simp at hj;subst hj;simp [cS]
    | succ j=>simp at hj;have:=ih (k+1) j c hj;simp only [cS];rw [show k+(j+1)=k+1+j by omega];omega
  have k2:=key (phys cs) 0 j c hj
  rw [Nat.zero_add] at k2
  have k3:cBox w (B d id) cs b≤cBx w B st.bx b:=by
   have gen:∀ (bx:List aV) (d0 d:Nat),aX bx d id=some cs→cBox w (B (d0+d) id) cs b≤fZ (fun d id cs=>cBox w (B d id) cs b) d0 bx:=by
    intro bx
    induction bx with
    | nil=>intro d0 d hh;simp [aX,nth] at hh
    | cons f r ih =>
     intro d0 d hh
     simp only [fZ]
     cases d with
     | zero =>
      simp only [aX,nth] at hh
      have:=yO (g:=fun id cs=>cBox w (B d0 id) cs b) f (kC hh)
      simp only [Nat.add_zero];omega
     | succ d =>
      simp only [aX,nth] at hh
      have:=ih (d0+1) d hh
      rw [show d0+(d+1)=d0+1+d by omega];omega
   have:=gen st.bx 0 d hbx'
   rw [Nat.zero_add] at this
   exact this
  rw [hB] at k3
  simp only [cBox] at k3
  simp only [tot];omega
theorem SR.put (h:SR base M B st tm w) (dst:Option Nat) {p:PV} {v:Value} (hr:Rv M B p v) (hh:hV M w base B p v)
  (ht:∀ b,tot st.fr tm w B st.bx b+cV p v b≤1) :
  SR base M B {st with fr:=dstW tm.size dst p++st.fr} (putT tm dst v) w ∧
   ∀ b,tot (dstW tm.size dst p++st.fr) (putT tm dst v) w B st.bx b≤tot st.fr tm w B st.bx b+cV p v b:=by
 have hget:∀ i,(gets (dstW tm.size dst p++st.fr) i=p∧(putT tm dst v).getD i undef=v)∨(gets (dstW tm.size dst p++st.fr) i=gets st.fr i∧(putT tm dst v).getD i undef=tm.getD i undef):=by
  intro i
  rw [yP,aDt]
  by_cases e:dst=some i∧i<tm.size
  ·exact .inl ⟨if_pos e,if_pos e⟩
  ·exact .inr ⟨if_neg e,if_neg e⟩
 have hle:∀ b,tot (dstW tm.size dst p++st.fr) (putT tm dst v) w B st.bx b≤tot st.fr tm w B st.bx b+cV p v b:=by
  intro b
  simp only [tot,cF,fB]
  have key:bV tm.size (fun i=>cV (gets (dstW tm.size dst p++st.fr) i) ((putT tm dst v).getD i undef) b)≤bV tm.size (fun i=>cV (gets st.fr i) (tm.getD i undef) b)+cV p v b:=by
   cases hd:dst with
   | none=>simp [dstW,putT]
   | some d =>
    by_cases hlt:d<tm.size
    ·have:=aDq (f:=fun i=>cV (gets (dstW tm.size (some d) p++st.fr) i) ((putT tm (some d) v).getD i undef) b) (g:=fun i=>cV (gets st.fr i) (tm.getD i undef) b) (k:=d) tm.size hlt (fun i _ hne=>by
      simp only [yP,aDt,Option.some.injEq]
      rw [if_neg (by omega),if_neg (by omega)])
     simp only [yP,aDt,hlt,and_self,if_true] at this
     simp only [yP,aDt]
     omega
    ·rw [cR (g:=fun i=>cV (gets st.fr i) (tm.getD i undef) b) tm.size (fun i hi=>by
      simp only [yP,aDt,Option.some.injEq]
      rw [if_neg (by omega),if_neg (by omega)])]
     omega
  omega
 refine ⟨⟨h.cons,fun i => ?_,fun i => ?_,h.box,fun b=>Nat.le_trans (hle b) (ht b),h.glob,h.base⟩,hle⟩
 ·rcases hget i with ⟨e1,e2⟩ | ⟨e1,e2⟩
  ·show Rv M B (gets (dstW tm.size dst p++st.fr) i) _
   rw [e1,e2];exact hr
  ·show Rv M B (gets (dstW tm.size dst p++st.fr) i) _
   rw [e1,e2];exact h.slot i
 ·rcases hget i with ⟨e1,e2⟩ | ⟨e1,e2⟩
  ·show hV M w base B (gets (dstW tm.size dst p++st.fr) i) _
   rw [e1,e2];exact hh
  ·show hV M w base B (gets (dstW tm.size dst p++st.fr) i) _
   rw [e1,e2];exact h.slotH i
theorem SR.putN (h:SR base M B st tm w) (dst:Option Nat) {p:PV} {v:Value} (hr:Rv M B p v) (hn:dV p v) :
  SR base M B {st with fr:=dstW tm.size dst p++st.fr} (putT tm dst v) w ∧
   ∀ b,tot (dstW tm.size dst p++st.fr) (putT tm dst v) w B st.bx b≤tot st.fr tm w B st.bx b:=by
 obtain ⟨h1,h2⟩:=h.put dst hr (hn.h M w base B) (fun b=>by rw [hn.c b];exact h.one b)
 exact ⟨h1,fun b=>by have:=h2 b;rw [hn.c b] at this;exact this⟩
theorem SR.take (h:SR base M B st tm w) (t:Nat) :
  SR base M B {st with fr:=(t,(gets st.fr t).plain)::st.fr} tm w ∧
   ∀ b,tot ((t,(gets st.fr t).plain)::st.fr) tm w B st.bx b+cV (gets st.fr t) (tm.getD t undef) b=tot st.fr tm w B st.bx b:=by
 have hle:∀ b,tot ((t,(gets st.fr t).plain)::st.fr) tm w B st.bx b+cV (gets st.fr t) (tm.getD t undef) b=tot st.fr tm w B st.bx b:=by
  intro b
  simp only [tot,cF]
  by_cases hlt:t<tm.size
  ·have:=aDq (f:=fun i=>cV (gets ((t,(gets st.fr t).plain)::st.fr) i) (tm.getD i undef) b) (g:=fun i=>cV (gets st.fr i) (tm.getD i undef) b) (k:=t) tm.size hlt (fun i _ hne=>by
    simp only [dM];rw [if_neg (Ne.symm hne)])
   simp only [dM,if_true] at this
   rw [(bT (gets st.fr t) (tm.getD t undef)).c b] at this
   simp only [dM]
   omega
  ·rw [cR (g:=fun i=>cV (gets st.fr i) (tm.getD i undef) b) tm.size (fun i hi=>by
    simp only [dM];rw [if_neg (by omega)])]
   have:tm.getD t undef=undef:=by simp [Array.getD,hlt]
   rw [this,(nG _).c b];rfl
 refine ⟨⟨h.cons,fun i => ?_,fun i => ?_,h.box,fun b => ?_,h.glob,h.base⟩,hle⟩
 ·show Rv M B (gets ((t,(gets st.fr t).plain)::st.fr) i) _
  rw [dM];split
  ·rename_i e;subst e;exact (h.slot t).plain
  ·exact h.slot i
 ·show hV M w base B (gets ((t,(gets st.fr t).plain)::st.fr) i) _
  rw [dM];split
  ·exact (bT _ _).h M w base B
  ·exact h.slotH i
 ·have:=hle b;have:=h.one b;show tot ((t,(gets st.fr t).plain)::st.fr) tm w B st.bx b≤1;omega
theorem SR.opd (h:SR base M B st tm w) (d:List Deferred) (x:Operand):Rv M B (Ev.opd st.fr x) ((Act.mk tm d).eval x):=by
 cases x with
 | tmp t=>exact h.slot t
 | const v=>exact Rv.ofValue v
 | global g=>exact .bot _
 | func f=>exact .func _ [] [] #[] #[] (fun _=>undef) (fun _=>undef) (by simp) rfl (by simp) (by simp) rfl (by simp) (by simp)
theorem rY (v:Value):own1 (ofAtom v) v=none:=by
 unfold ofAtom;split<;>first | rfl | simp [own1]
theorem gL (v:Value):dV (ofValue v) v:=by
 intro x hx
 unfold ofValue at hx
 split at hx
 ·rename_i cs
  simp only [atoms,zipA] at hx
  obtain ⟨i,hi⟩:=List.mem_iff_getElem?.1 hx
  simp only [List.zip_eq_zipWith,List.getElem?_zipWith,List.getElem?_map] at hi
  cases hc:cs.toList[i]? with
  | none=>simp [hc] at hi
  | some c=>simp [hc] at hi;subst hi;exact rY c
 ·have:x=(ofAtom v,v):=by
   unfold ofAtom at hx ⊢
   split at hx<;>simp_all [atoms,zipA]
  subst this;exact rY v
theorem oQ (fr:List (Nat×PV)) (x:Operand) (a:Act) (hx:∀ t,x ≠ .tmp t):dV (opd fr x) (a.eval x):=by
 cases x with
 | tmp t=>exact absurd rfl (hx t)
 | const v=>exact gL v
 | global g=>intro y hy;simp [opd,atoms,zipA] at hy;subst hy;rfl
 | func f=>intro y hy;simp [opd,atoms,zipA] at hy;subst hy;rfl
theorem SR.opvF (h:SR base M B st tm w) (d:List Deferred) (x:Operand) :
  Rv M B (opv st.fr false x) ((Act.mk tm d).eval x)∧dV (opv st.fr false x) ((Act.mk tm d).eval x):=by
 cases x with
 | tmp t=>exact ⟨(h.slot t).plain,bT _ _⟩
 | const v=>exact ⟨Rv.ofValue v,gL v⟩
 | global g=>exact ⟨.bot _,oQ st.fr (.global g) ⟨tm,d⟩ (by simp)⟩
 | func f=>exact ⟨h.opd d (.func f),oQ st.fr (.func f) ⟨tm,d⟩ (by simp)⟩
theorem SR.opvT (h:SR base M B st tm w) (d:List Deferred) (tk:Bool) (x:Operand) :
  Rv M B (opv st.fr tk x) ((Act.mk tm d).eval x)∧hV M w base B (opv st.fr tk x) ((Act.mk tm d).eval x) ∧
  SR base M B {st with fr:=left st.fr tk x++st.fr} tm w ∧
  ∀ b,tot (left st.fr tk x++st.fr) tm w B st.bx b+cV (opv st.fr tk x) ((Act.mk tm d).eval x) b=tot st.fr tm w B st.bx b:=by
 cases tk with
 | false =>
  obtain ⟨h1,h2⟩:=h.opvF d x
  have hl:left st.fr false x=[]:=by cases x<;>rfl
  rw [hl]
  exact ⟨h1,h2.h M w base B,h,fun b=>by rw [h2.c b];rfl⟩
 | true =>
  cases x with
  | tmp t =>
   obtain ⟨h1,h2⟩:=h.take t
   exact ⟨h.slot t,h.slotH t,h1,h2⟩
  | const v=>exact ⟨Rv.ofValue v,(gL v).h M w base B,h,fun b=>by show _+cV (ofValue v) v b=_;rw [(gL v).c b];rfl⟩
  | global g=>exact ⟨.bot _,(oQ st.fr (.global g) ⟨tm,d⟩ (by simp)).h M w base B,h,fun b=>by rw [show opv st.fr true (.global g)=Ev.opd st.fr (.global g) from rfl,(oQ st.fr (.global g) ⟨tm,d⟩ (by simp)).c b];rfl⟩
  | func f=>exact ⟨h.opd d (.func f),(oQ st.fr (.func f) ⟨tm,d⟩ (by simp)).h M w base B,h,fun b=>by rw [show opv st.fr true (.func f)=Ev.opd st.fr (.func f) from rfl,(oQ st.fr (.func f) ⟨tm,d⟩ (by simp)).c b];rfl⟩
end
theorem vI {f f' g : Nat → Nat} {len off : Nat} : ∀ (n : Nat), off + n ≤ len → (∀ i, i < len → ¬ (off ≤ i ∧ i < off + n) → f' i = f i) →
  (∀ j, j < n → f' (off + j) = g j) → bV len f' + bV n (fun j => f (off + j)) = bV len f + bV n g
 | 0, _, h1, _ => by
  have := cR (f := f') (g := f) len (fun i hi => h1 i hi (by omega))
  simp [bV, this]
 | n + 1, hl, h1, h2 => by
  have ih := vI (len := len) (off := off) (f := f) (f' := fun i => if i = off + n then f i else f' i) (g := g) n (by omega)
   (fun i hi hn => by
    by_cases e : i = off + n
    ·simp [e]
    ·have hx : ¬ (off ≤ i ∧ i < off + (n + 1)) := by omega
     have := h1 i hi hx
     simp [e, this])
   (fun j hj => by
    have hx : ¬ (off + j = off + n) := by omega
    simp [hx, h2 j (by omega)]; intro h; omega)
  have k := aDq (f := f') (g := fun i => if i = off + n then f i else f' i) (k := off + n) len (by omega) (fun i _ hne => by simp [hne])
  simp only [if_true] at k
  simp only [bV]
  have := h2 n (by omega)
  omega
theorem gA {f:Nat→Nat}:∀ (n:Nat),(∀ i,i<n→f i=0)→bV n f=0
 | 0,_=>rfl
 | n+1,h=>by simp [bV,gA n (fun i hi=>h i (by omega)),h n (by omega)]
theorem lA (w:World) (blk:Nat) (b:Nat):∀ (cs:List PV) (k:Nat),cS w blk k cs b=bV cs.length fun j=>c1 (cs.getD j .bot) (bO w blk (k+j)) b
 | [],_=>rfl
 | c::cs,k=>by
  have ih:=lA w blk b cs (k+1)
  simp only [cS,ih,List.length_cons]
  have sh:∀ (n:Nat) (f:Nat→Nat),bV (n+1) f=f 0+bV n (fun j=>f (j+1)):=by
   intro n f
   induction n with
   | zero=>simp [bV]
   | succ n ih=>rw [bV,ih];simp only [bV];omega
  rw [sh]
  simp only [List.getD_cons_zero,Nat.add_zero,List.getD_cons_succ]
  congr 1
  apply cR
  intro j _
  rw [show k+1+j=k+(j+1) by omega]
theorem aSb (b:Nat):∀ (cs:List PV) (vs:List Value),cs.length=vs.length →
  sumL (fun x=>c1 x.1 x.2 b) (cs.zip vs)=bV cs.length fun j=>c1 (cs.getD j .bot) (vs.getD j undef) b
 | [],[],_=>rfl
 | [],_::_,h=>by simp at h
 | _::_,[],h=>by simp at h
 | c::cs,v::vs,h=>by
  have ih:=aSb b cs vs (by simpa using h)
  simp only [List.zip_cons_cons,sumL,ih,List.length_cons]
  have sh:∀ (n:Nat) (f:Nat→Nat),bV (n+1) f=f 0+bV n (fun j=>f (j+1)):=by
   intro n f
   induction n with
   | zero=>simp [bV]
   | succ n ih=>rw [bV,ih];simp only [bV];omega
  rw [sh]
  simp
theorem aVD (cs:List PV) (vs:Array Value) (b:Nat) (h:vs.size=cs.length) :
  cV (.agg cs) (.agg vs) b=bV cs.length fun j=>c1 (cs.getD j .bot) (vs.getD j undef) b:=by
 have:=aSb b cs vs.toList (by simp [h])
 simp only [cV,atoms,zipA,this]
 apply cR
 intro j hj
 simp [List.getD_eq_getElem?_getD,Array.getD_eq_getD_getElem?]
theorem aGX {p:PV} (hp:∀ cs,p ≠ .agg cs):p.cells=[p]:=by
 cases p<;>first | rfl | (exact absurd rfl (hp _))
theorem aGY {p:PV} {v:Value} (hp:∀ cs,p ≠ .agg cs) (ht:∀ cs,p ≠ .tuple cs):atoms p v=[(p,v)]:=by
 cases p<;>first | rfl | (exact absurd rfl (hp _)) | (exact absurd rfl (ht _))
theorem yQ {p:PV} {v:Value} (hp:∀ cs,p ≠ .agg cs) (ht:∀ cs,p ≠ .tuple cs) (b:Nat):cV p v b=c1 p v b:=by
 simp [cV,aGY hp ht,sumL]
theorem aDu {M:Mem} {w:World} {base:Base} {B:BM} {p:PV} {v:Value} (hp:∀ cs,p ≠ .agg cs) (ht:∀ cs,p ≠ .tuple cs):hV M w base B p v↔h1 M w base B p v:=by
 simp [hV,aGY hp ht]
theorem Rv.oneCell {M:Mem} {B:BM} {p:PV} {v:Value} {d:Nat} (h:Rv M B p v) (hf:fits d p=true):v.oneCell'=true:=by
 cases h<;>first | rfl | simp [fits,PV.solid1] at hf
theorem Rv.raise1 {M:Mem} {B:BM} {p:PV} {v:Value} {d:Nat} (h:Rv M (upB d B) p v) (hf:fits 0 p=true):Rv M B (Ev.raise1 d p) v:=by
 cases h with
 | ptr e id off b hb=>exact .ptr (e+d) id off b (by simpa [upB,Nat.add_comm] using hb)
 | rsl e id n sz b cap hb hc=>exact .rsl (e+d) id n sz b cap (by simpa [upB,Nat.add_comm] using hb) hc
 | rslNil e id sz oa=>exact .rslNil (e+d) id sz oa
 | ref e a s f ha hel hm hr=>exact .ref e a s f ha hel hm fun j c hc=>(hr j c hc).anyB1 B (hel.cell hc)
 | func fn first caps vf vc f g hp hl hf' hrf hl' hg hrg=>exact (Rv.func fn first caps vf vc f g hp hl hf' hrf hl' hg hrg).anyBfree B (by simpa [PV.free,fits] using hf)
 | nilptr=>exact .nilptr
 | nilFunc=>exact .nilFunc
 | vec=>simp [fits,PV.solid1] at hf
 | vecNil=>simp [fits,PV.solid1] at hf
 | bool b=>exact .bool b
 | int k n=>exact .int k n
 | str s=>exact .str s
 | nil o=>exact .nil o
 | slice es bs o a cap s f ha hc ho hel hm hr=>exact (Rv.slice es bs o a cap s f ha hc ho hel hm hr).anyB1 B rfl
 | mk0 sz a cap ha=>exact .mk0 sz a cap ha
 | bot v=>simp [fits,PV.solid1] at hf
 | und=>simp [fits,PV.solid1] at hf
 | agg=>simp [fits,PV.solid1] at hf
 | tuple=>simp [fits,PV.solid1] at hf
theorem Rv.lower1 {M:Mem} {B:BM} {p:PV} {v:Value} {d:Nat} (h:Rv M B p v) (hf:fits d p=true):Rv M (upB d B) (Ev.lower1 d p) v:=by
 cases h with
 | ptr e id off b hb=>exact .ptr (e-d) id off b (by simp only [fits,decide_eq_true_eq] at hf;simp only [upB];rw [show d+(e-d)=e by omega];exact hb)
 | rsl e id n sz b cap hb hc=>exact .rsl (e-d) id n sz b cap (by simp only [fits,decide_eq_true_eq] at hf;simp only [upB];rw [show d+(e-d)=e by omega];exact hb) hc
 | rslNil e id sz oa=>exact .rslNil (e-d) id sz oa
 | ref e a s f ha hel hm hr=>exact .ref e a s f ha hel hm fun j c hc=>(hr j c hc).anyB1 _ (hel.cell hc)
 | func fn first caps vf vc f g hp hl hf' hrf hl' hg hrg=>exact (Rv.func fn first caps vf vc f g hp hl hf' hrf hl' hg hrg).anyBfree _ (by simpa [PV.free,fits] using hf)
 | nilptr=>exact .nilptr
 | nilFunc=>exact .nilFunc
 | vec=>simp [fits,PV.solid1] at hf
 | vecNil=>simp [fits,PV.solid1] at hf
 | bool b=>exact .bool b
 | int k n=>exact .int k n
 | str s=>exact .str s
 | nil o=>exact .nil o
 | slice es bs o a cap s f ha hc ho hel hm hr=>exact (Rv.slice es bs o a cap s f ha hc ho hel hm hr).anyB1 _ rfl
 | mk0 sz a cap ha=>exact .mk0 sz a cap ha
 | bot v=>simp [fits,PV.solid1] at hf
 | und=>simp [fits,PV.solid1] at hf
 | agg=>simp [fits,PV.solid1] at hf
 | tuple=>simp [fits,PV.solid1] at hf
theorem aJL {d:Nat} {p:PV} (h:fits d p=true):fits 0 (Ev.lower1 d p)=true:=by
 cases p<;>simp_all [fits,Ev.lower1]
theorem aTS (d:Nat) (p:PV) (v:Value):own1 (Ev.lower1 d p) v=own1 p v:=by
 cases p<;>first | rfl | (cases v<;>rfl)
theorem aJM (d:Nat) (p:PV) (v:Value):own1 (Ev.raise1 d p) v=own1 p v:=by
 cases p<;>first | rfl | (cases v<;>rfl)
theorem aXS {M:Mem} {w:World} {base:Base} {B:BM} (d:Nat) (p:PV) (v:Value):h1 M w base B (Ev.lower1 d p) v↔h1 M w base B p v:=by
 cases p<;>first | exact Iff.rfl | (cases v<;>exact Iff.rfl)
theorem aSc {M:Mem} {w:World} {base:Base} {B:BM} (d:Nat) (p:PV) (v:Value):h1 M w base B (Ev.raise1 d p) v↔h1 M w base B p v:=by
 cases p<;>first | exact Iff.rfl | (cases v<;>exact Iff.rfl)
theorem aKt (B:BM):upB 0 B=B:=by funext d id;simp [upB]
theorem aGZ (p:PV):Ev.raise1 0 p=p:=by cases p<;>rfl
theorem aPy (p:PV):Ev.lower1 0 p=p:=by cases p<;>rfl
theorem aKu (d:Nat) (p:PV):tC d p=match p with | .agg cs => .agg (cs.map (Ev.raise1 d)) | p=>Ev.raise1 d p:=by
 cases d with
 | zero =>
  simp only [tC]
  split
  ·rename_i cs
   have:(Ev.raise1 0)=id:=by funext p;exact aGZ p
   rw [this];simp
  ·rw [aGZ]
 | succ d=>rfl
theorem yR (d:Nat) (vs:List PV):oN d vs=vs.map (Ev.lower1 d):=by
 cases d with
 | zero =>
  have:(Ev.lower1 0)=id:=by funext p;exact aPy p
  rw [this];simp [oN]
 | succ d=>rfl
theorem bD (f:aV) (r:List aV) (id:Nat):aX (f::r) 0 id=look f id:=rfl
theorem dR (f:aV) (r:List aV) (d id:Nat):aX (f::r) (d+1) id=aX r d id:=rfl
theorem qS (d id:Nat):aX [] d id=none:=rfl
theorem aPz (f:aV) (id i:Nat) (cs:List PV):look (tX f id cs) i=if i=id∧(look f id).isSome then some cs else look f i:=by
 induction f with
 | nil=>simp [tX,look]
 | cons x f ih =>
  obtain ⟨j,c⟩:=x
  simp only [tX]
  by_cases e:j=id
  ·subst e
   simp only [if_true,iV]
   by_cases e2:j=i
   ·subst e2;simp
   ·simp [e2,Ne.symm e2]
  ·simp only [if_neg e,iV,ih]
   by_cases e2:j=i
   ·subst e2;simp [e]
   ·simp [e2,e]
theorem aPA (f:aV) (id:Nat) (cs:List PV):(tX f id cs).map (·.1)=f.map (·.1):=by
 induction f with
 | nil=>rfl
 | cons x f ih =>
  obtain ⟨j,c⟩:=x
  simp only [tX]
  split
  ·rename_i e;simp
  ·simp [ih]
theorem yS:∀ (bx:List aV) (d id d' id':Nat) (cs cs0:List PV),aX bx d id=some cs0 →
  aX (bZ bx d id cs) d' id'=if d'=d∧id'=id then some cs else aX bx d' id'
 | [],d,id,d',id',cs,cs0,h=>by simp [aX,nth] at h
 | f::r,0,id,d',id',cs,cs0,h=>by
  simp only [bD] at h
  cases d' with
  | zero=>simp only [bZ,bD,aPz,h];simp
  | succ d'=>simp [bZ,dR]
 | f::r,d+1,id,d',id',cs,cs0,h=>by
  simp only [dR] at h
  cases d' with
  | zero=>simp [bZ,bD]
  | succ d'=>simp only [bZ,dR];rw [yS r d id d' id' cs cs0 h];simp
theorem aDv:∀ (bx:List aV) (d id:Nat) (cs:List PV) (e:Nat),((bZ bx d id cs)[e]?).map (fun f=>f.map (·.1))=(bx[e]?).map (fun f=>f.map (·.1))
 | [],_,_,_,_=>by simp [bZ]
 | f::r,0,id,cs,e=>by cases e<;>simp [bZ,aPA]
 | f::r,d+1,id,cs,e=>by
  cases e with
  | zero=>simp [bZ]
  | succ e=>simpa [bZ] using aDv r d id cs e
theorem aBQ {bx:List aV} (hn:∀ (d:Nat) (f:aV),bx[d]?=some f→(f.map (·.1)).Nodup) (d id:Nat) (cs:List PV) :
  ∀ (e:Nat) (f:aV),(bZ bx d id cs)[e]?=some f→(f.map (·.1)).Nodup:=by
 intro e f he
 have:=aDv bx d id cs e
 rw [he] at this
 cases hb:bx[e]? with
 | none=>rw [hb] at this;simp at this
 | some g=>rw [hb] at this;simp only [Option.map_some,Option.some.injEq] at this;rw [this];exact hn e g hb
theorem qT {g g':Nat→Nat→List PV→Nat}:∀ (bx:List aV) (d0:Nat),(∀ (d:Nat) (f:aV),bx[d]?=some f→dH (g (d0+d)) f=dH (g' (d0+d)) f)→fZ g d0 bx=fZ g' d0 bx
 | [],_,_=>rfl
 | f::r,d0,h=>by
  simp only [fZ]
  rw [show dH (g d0) f=dH (g' d0) f from by simpa using h 0 f rfl]
  rw [qT (g:=g) (g':=g') r (d0+1) (fun d f' hf=>by have:=h (d+1) f' (by simpa using hf);rwa [show d0+(d+1)=d0+1+d by omega] at this)]
theorem aMx {g g':Nat→Nat→List PV→Nat} {id:Nat} {cs cs':List PV}:∀ (bx:List aV) (d0 d:Nat),
  (∀ (e:Nat) (f:aV),bx[e]?=some f→(f.map (·.1)).Nodup)→aX bx d id=some cs →
  (∀ e i c,aX bx e i=some c→¬ (e=d∧i=id)→g' (d0+e) i c=g (d0+e) i c) →
  fZ g' d0 (bZ bx d id cs')+g (d0+d) id cs=fZ g d0 bx+g' (d0+d) id cs'
 | [],_,d,_,h,_=>by simp [aX,nth] at h
 | f::r,d0,0,hn,h,hg=>by
  have hnf:=hn 0 f rfl
  simp only [bD] at h
  simp only [bZ,fZ,Nat.add_zero]
  have k1:=aMw (g:=g d0) (g':=g' d0) (cs':=cs') f hnf h (fun i c hm hne=>hg 0 i c (gK hnf hm) (by omega))
  have k2:fZ g' (d0+1) r=fZ g (d0+1) r:=qT r (d0+1) fun d f' hf'=>eM f' fun i c hm=>by
   have:=hg (d+1) i c (by rw [dR];unfold aX;rw [jT,hf'];exact gK (hn (d+1) f' (by simpa using hf')) hm) (by omega)
   rwa [show d0+(d+1)=d0+1+d by omega] at this
  omega
 | f::r,d0,d+1,hn,h,hg=>by
  have hnf:=hn 0 f rfl
  simp only [dR] at h
  simp only [bZ,fZ]
  have k1:dH (g' d0) f=dH (g d0) f:=eM f fun i c hm=>hg 0 i c (gK hnf hm) (by omega)
  have k2:=aMx (g:=g) (g':=g') (cs':=cs') r (d0+1) d (fun e f' hf'=>hn (e+1) f' (by simpa using hf')) h (fun e i c hc hne=>by
   have:=hg (e+1) i c (by simpa [dR] using hc) (by omega)
   rwa [show d0+(e+1)=d0+1+e by omega] at this)
  rw [show d0+(d+1)=d0+1+d by omega]
  omega
theorem HOk.lt {M:Mem} {w:World} {base:Base} {B:BM} {b lo hi:Nat} (h:HOk M w base B b lo hi):b<w.heap.size:=by
 obtain ⟨_,_,⟨arr,T,fz,hr,_⟩,_⟩:=h
 exact (Array.getElem?_eq_some_iff.1 hr).1
theorem h1.world {M M':Mem} {w w':World} {base:Base} {B B':BM} {p:PV} {v:Value} (h:h1 M w base B p v) (hm:∀ b i v,M b i=some v→M' b i=some v)
  (hw:∀ b,own1 p v=some b→b<w.heap.size→w'.heap[b]?=w.heap[b]?∧(∀ i,M' b i=M b i)∧∀ d id,B' d id=some b→B d id=some b):h1 M' w' base B' p v:=by
 unfold h1 at h ⊢
 split
 ·rename_i e es bs a len cap
  obtain ⟨k1,k2,k3⟩:=hw a.block (by simp [own1]) h.lt
  obtain ⟨o,nb,⟨arr,T,fz,hr,hsz,hf⟩,fr⟩:=h
  exact ⟨o,fun d id hB=>nb d id (k3 d id hB),⟨arr,T,fz,by rw [k1];exact hr,hsz,hf⟩,fun i hi=>by rw [k2];exact fr i hi⟩
 ·rename_i sz a len cap
  obtain ⟨k1,k2,k3⟩:=hw a.block (by simp [own1]) h.lt
  obtain ⟨o,nb,⟨arr,T,fz,hr,hsz,hf⟩,fr⟩:=h
  exact ⟨o,fun d id hB=>nb d id (k3 d id hB),⟨arr,T,fz,by rw [k1];exact hr,hsz,hf⟩,fun i hi=>by rw [k2];exact fr i hi⟩
 ·rename_i sz e es a len cap
  obtain ⟨k1,k2,k3⟩:=hw a.block (by simp [own1]) h.1.lt
  obtain ⟨⟨o,nb,⟨arr,T,fz,hr,hsz,hf⟩,fr⟩,hcont⟩:=h
  refine ⟨⟨o,fun d id hB=>nb d id (k3 d id hB),⟨arr,T,fz,by rw [k1];exact hr,hsz,hf⟩,fun i hi=>by rw [k2];exact fr i hi⟩,fun j c hc => ?_⟩
  have:bO w' a.block j=bO w a.block j:=by simp [bO,World.cell?,k1]
  rw [this]
  exact (hcont j c hc).mono hm (fun _ _ _ hx=>hx)
 ·trivial
theorem h1.hok {M:Mem} {w:World} {base:Base} {B:BM} {p:PV} {v:Value} (h:h1 M w base B p v) {b:Nat} (ho:own1 p v=some b):∃ lo hi,HOk M w base B b lo hi:=by
 unfold own1 at ho
 split at ho
 ·simp at ho;subst ho
  exact ⟨_,_,(show HOk M w base B _ _ _ from h)⟩
 ·simp at ho;subst ho
  exact ⟨_,_,(show HOk M w base B _ _ _ from h)⟩
 ·simp at ho;subst ho
  exact ⟨_,_,h.1⟩
 ·simp at ho
theorem h1.nobox {M:Mem} {w:World} {base:Base} {B:BM} {p:PV} {v:Value} (h:h1 M w base B p v) {b:Nat} (ho:own1 p v=some b):(∀ d id,B d id≠some b)∧b<w.heap.size:=by
 obtain ⟨lo,hi,h'⟩:=h.hok ho
 exact ⟨h'.nobox,h'.lt⟩
theorem BRel.get {M:Mem} {w:World} {base:Base} {B:BM} {bx:List aV} (h:BRel M w base B bx) {d id:Nat} {cs:List PV} (hb:aX bx d id=some cs) {blk:Nat} (hB:B d id=some blk):BoxOk M w base B d blk cs:=by
 rcases (h.ok d id cs hb).2 with ⟨blk',hB',ok⟩ | hno
 ·rw [hB] at hB';cases hB';exact ok
 ·rw [hno.1] at hB;simp at hB
section
variable {base : Base} {M : Mem} {B : BM} {st : St} {tm : Array Value} {w : World}
def setB (B:BM) (id blk:Nat):BM:=fun d i=>if d=0∧i=id then some blk else B d i
theorem SR.newRow (h:SR base M B st tm w) {b0:aV} {r:List aV} (hbx:st.bx=b0::r) {id:Nat} (hid:look b0 id=none) {cs:List PV} {xs:Array Value} {T:TypeId} {fz:Nat×Nat} {w':World} {blk:Nat}
  (hblk:w.heap.size≤blk) (hold:∀ b,b<w.heap.size→w'.heap[b]?=w.heap[b]?) (hnew:w'.heap[blk]?=some (.cells xs T fz)) (hsz:w.heap.size≤w'.heap.size)
  (hl:(phys cs).length≤xs.size) (hfz:∀ i,i<(phys cs).length→¬ (fz.1≤i∧i<fz.2)) (hv:okV cs)
  (hr:∀ (j:Nat) (c:PV),(phys cs)[j]?=some c→Rv M B c (xs.getD j undef)∧h1 M w base B c (xs.getD j undef)∧fits 0 c=true)
  (ht:∀ b,tot st.fr tm w B st.bx b+bV (phys cs).length (fun j=>c1 ((phys cs).getD j .bot) (xs.getD j undef) b)≤1) :
  SR base M (setB B id blk) {st with bx:=((id,cs)::b0)::r} tm w' ∧
   ∀ b,tot st.fr tm w' (setB B id blk) (((id,cs)::b0)::r) b=tot st.fr tm w B st.bx b+bV (phys cs).length (fun j=>c1 ((phys cs).getD j .bot) (xs.getD j undef) b):=by
 have hMn:∀ i,M blk i=none:=by
  intro i
  cases hm:M blk i with
  | none=>rfl
  | some v=>obtain ⟨arr,T',fz',hx,_⟩:=h.cons _ _ _ hm;have:=(Array.getElem?_eq_some_iff.1 hx).1;omega
 have hBlt:∀ d i b,B d i=some b→b<w.heap.size:=by
  intro d i b hB
  cases hbo:aX st.bx d i with
  | none=>rw [h.box.dom d i hbo] at hB;simp at hB
  | some cs =>
   have ok:=h.box.get hbo hB
   obtain ⟨arr,T',fz',hx,_⟩:=ok.row
   exact (Array.getElem?_eq_some_iff.1 hx).1
 have hB0:B 0 id=none:=h.box.dom 0 id (by rw [hbx,bD];exact hid)
 have hmonoB:∀ d i b,B d i=some b→setB B id blk d i=some b:=by
  intro d i b hB
  unfold setB
  rw [if_neg (by rintro ⟨rfl,rfl⟩;rw [hB0] at hB;simp at hB)]
  exact hB
 have hback:∀ d i b,setB B id blk d i=some b→b<w.heap.size→B d i=some b:=by
  intro d i b hB hlt
  unfold setB at hB
  split at hB
  ·simp at hB;omega
  ·exact hB
 have hh:∀ p v,h1 M w base B p v→h1 M w' base (setB B id blk) p v:=fun p v hp=>hp.world (fun _ _ _ hx=>hx) fun b _ hlt=>⟨hold b hlt,fun _=>rfl,fun d i hB=>hback d i b hB hlt⟩
 have hcellv:∀ b j,b<w.heap.size→bO w' b j=bO w b j:=fun b j hb=>by simp [bO,World.cell?,hold b hb]
 have hcellnew:∀ j,bO w' blk j=xs.getD j undef:=fun j=>by simp [bO,World.cell?,hnew,Array.getD_eq_getD_getElem?]
 have hcc:∀ b (cs:List PV) j x,b<w.heap.size→cS w' b j cs x=cS w b j cs x:=by
  intro b cs j x hb
  induction cs generalizing j with
  | nil=>rfl
  | cons c cs ih=>simp [cS,hcellv b j hb,ih]
 have htot:∀ b,tot st.fr tm w' (setB B id blk) (((id,cs)::b0)::r) b=tot st.fr tm w B st.bx b+bV (phys cs).length (fun j=>c1 ((phys cs).getD j .bot) (xs.getD j undef) b):=by
  intro b
  simp only [tot,cBx,hbx,fZ,dH,Nat.zero_add]
  have e1:cBox w' (setB B id blk 0 id) cs b=bV (phys cs).length (fun j=>c1 ((phys cs).getD j .bot) (xs.getD j undef) b):=by
   simp only [setB,and_self,if_true,cBox]
   rw [lA]
   apply cR
   intro j _
   rw [Nat.zero_add,hcellnew]
  have e2:∀ d i cs,aX st.bx d i=some cs→cBox w' (setB B id blk d i) cs b=cBox w (B d i) cs b:=by
   intro d i cs hb'
   cases hB':B d i with
   | some blk' =>
    rw [hmonoB d i blk' hB']
    simp only [cBox]
    exact hcc blk' (phys cs) 0 b (hBlt d i blk' hB')
   | none =>
    have:setB B id blk d i=none:=by
     unfold setB
     rw [if_neg]
     ·exact hB'
     ·rintro ⟨rfl,rfl⟩
      rw [hbx,bD,hid] at hb';simp at hb'
    rw [this];rfl
  have e3:dH (fun i cs=>cBox w' (setB B id blk 0 i) cs b) b0=dH (fun i cs=>cBox w (B 0 i) cs b) b0:=by
   refine eM b0 fun i cs hm=>e2 0 i cs ?_
   rw [hbx,bD]
   exact gK (h.box.nodup 0 b0 (by rw [hbx];rfl)) hm
  have e4:fZ (fun d i cs=>cBox w' (setB B id blk d i) cs b) 1 r=fZ (fun d i cs=>cBox w (B d i) cs b) 1 r:=by
   refine qT r 1 fun d f hf=>eM f fun i cs hm=>e2 (1+d) i cs ?_
   rw [hbx,Nat.add_comm,dR]
   unfold aX
   rw [jT,hf]
   exact gK (h.box.nodup (d+1) f (by rw [hbx];simpa using hf)) hm
  rw [e1,e3,e4]
  omega
 refine ⟨⟨?_,fun i=>(h.slot i).mono (fun _ _ _ hx=>hx) hmonoB,fun i x hx=>hh _ _ (h.slotH i x hx),?_,fun b=>by show tot st.fr tm w' _ _ b≤1;rw [htot];exact ht b,h.glob,Nat.le_trans h.base hsz⟩,htot⟩
 ·intro b i v hm
  obtain ⟨arr,T',fz,hx,hv⟩:=h.cons b i v hm
  exact ⟨arr,T',fz,by rw [hold b (Array.getElem?_eq_some_iff.1 hx).1];exact hx,hv⟩
 ·refine ⟨?_,?_,?_,?_⟩
  ·intro d f hf
   cases d with
   | zero =>
    simp at hf;subst hf
    simp only [List.map_cons,List.nodup_cons]
    exact ⟨yN.1 hid,h.box.nodup 0 b0 (by rw [hbx];rfl)⟩
   | succ d=>exact h.box.nodup (d+1) f (by rw [hbx];simpa using hf)
  ·intro d i hb'
   show setB B id blk d i=none
   cases d with
   | zero =>
    simp only [bD,iV] at hb'
    split at hb'
    ·simp at hb'
    ·rename_i e
     unfold setB
     rw [if_neg (by rintro ⟨_,e2⟩;exact e e2.symm)]
     exact h.box.dom 0 i (by rw [hbx,bD];exact hb')
   | succ d =>
    unfold setB
    rw [if_neg (by omega)]
    exact h.box.dom (d+1) i (by rw [hbx];exact hb')
  ·intro d i cs hb'
   by_cases e:d=0∧i=id
   ·obtain ⟨rfl,rfl⟩:=e
    simp only [bD,iV,if_true,Option.some.injEq] at hb'
    subst hb'
    refine ⟨hv,.inl ⟨blk,by simp [setB],Nat.le_trans h.base hblk,⟨xs,T,fz,hnew,hl,hfz⟩,hMn,?_⟩⟩
    intro j c hj
    obtain ⟨r1,r2,r3⟩:=hr j c hj
    rw [hcellnew]
    refine ⟨?_,hh _ _ r2,r3⟩
    rw [aKt]
    exact r1.mono (fun _ _ _ hx=>hx) hmonoB
   ·have hb2:aX st.bx d i=some cs:=by
     rw [hbx]
     cases d with
     | zero =>
      simp only [bD,iV] at hb' ⊢
      rw [if_neg (by intro e2;exact e ⟨rfl,e2.symm⟩)] at hb'
      exact hb'
     | succ d=>exact hb'
    obtain ⟨hv',hbk⟩:=h.box.ok d i cs hb2
    refine ⟨hv',?_⟩
    rcases hbk with ⟨blk',hB',ok⟩ | hno
    rotate_left
    ·refine .inr ⟨?_,hno.2⟩
     unfold setB;rw [if_neg e];exact hno.1
    have hlt:=hBlt d i blk' hB'
    refine .inl ⟨blk',hmonoB d i blk' hB',ok.old,?_,ok.free,?_⟩
    ·obtain ⟨arr,T',fz',hx,hs⟩:=ok.row
     exact ⟨arr,T',fz',by rw [hold blk' hlt];exact hx,hs⟩
    ·intro j c hj
     obtain ⟨r1,r2,r3⟩:=ok.rel j c hj
     rw [hcellv blk' j hlt]
     exact ⟨r1.mono (fun _ _ _ hx=>hx) (fun d' i' b' hx=>hmonoB _ _ _ hx),hh _ _ r2,r3⟩
  ·intro d i d' i' b hB1 hB2
   have sp:∀ d i b,setB B id blk d i=some b→(b=blk∧d=0∧i=id)∨(b<w.heap.size∧B d i=some b):=by
    intro d i b hB
    unfold setB at hB
    split at hB
    ·rename_i e;simp at hB;exact .inl ⟨hB.symm,e.1,e.2⟩
    ·exact .inr ⟨hBlt d i b hB,hB⟩
   rcases sp d i b hB1 with ⟨e1,e2,e3⟩ | ⟨e1,e2⟩<;>rcases sp d' i' b hB2 with ⟨f1,f2,f3⟩ | ⟨f1,f2⟩
   ·exact ⟨e2.trans f2.symm,e3.trans f3.symm⟩
   ·omega
   ·omega
   ·exact h.box.inj d i d' i' b e2 f2
theorem yT {vs:List PV} (h:∀ c∈vs,fits 0 c=true):phys vs=vs∧vG vs=false:=by
 unfold phys vG
 split
 ·have:=h _ (List.mem_singleton.2 rfl);simp [fits,PV.solid1] at this
 ·exact ⟨rfl,rfl⟩
theorem aVE {vs:List PV} (h:vG vs=false):okV vs:=by
 unfold okV
 split
 ·simp [vG] at h
 ·trivial
theorem SR.newBox (h:SR base M B st tm w) {b0:aV} {r:List aV} (hbx:st.bx=b0::r) {id:Nat} (hid:look b0 id=none) {vs:List PV} {xs:Array Value} {T:TypeId} {w':World}
  (hw:w'.heap=w.heap.push (.cells xs T (0,0))) (hl:xs.size=vs.length)
  (hr:∀ (j:Nat) (c:PV),vs[j]?=some c→Rv M B c (xs.getD j undef)∧h1 M w base B c (xs.getD j undef)∧fits 0 c=true)
  (ht:∀ b,tot st.fr tm w B st.bx b+bV vs.length (fun j=>c1 (vs.getD j .bot) (xs.getD j undef) b)≤1) :
  SR base M (setB B id w.heap.size) {st with bx:=((id,vs)::b0)::r} tm w' ∧
   ∀ b,tot st.fr tm w' (setB B id w.heap.size) (((id,vs)::b0)::r) b=tot st.fr tm w B st.bx b+bV vs.length (fun j=>c1 (vs.getD j .bot) (xs.getD j undef) b):=by
 obtain ⟨e1,e2⟩:=yT (vs:=vs) fun c hc=>by
  obtain ⟨j,hj⟩:=List.mem_iff_getElem?.1 hc
  exact (hr j c hj).2.2
 have:=h.newRow hbx hid (cs:=vs) (xs:=xs) (T:=T) (fz:=(0,0)) (w':=w') (Nat.le_refl _) (fun b hb=>by rw [hw,Array.getElem?_push,if_neg (by omega)]) (by rw [hw];simp) (by rw [hw];simp)
  (by rw [e1];omega) (by simp) (aVE e2) (by rw [e1];exact hr) (by rw [e1];exact ht)
 rw [e1] at this
 exact this
theorem SR.setRow (h:SR base M B st tm w) {d id blk:Nat} {cs cs':List PV} (hb:aX st.bx d id=some cs) (hB:B d id=some blk) {w':World}
  (hw:∀ b,b≠blk→w'.heap[b]?=w.heap[b]?) (hsz:w'.heap.size=w.heap.size) (hrow:∃ arr T fz,w'.heap[blk]?=some (.cells arr T fz)∧(phys cs').length≤arr.size∧∀ i,i<(phys cs').length→¬ (fz.1≤i∧i<fz.2))
  (hv:okV cs')
  (hr:∀ (j:Nat) (c:PV),(phys cs')[j]?=some c→Rv M (upB d B) c (bO w' blk j)∧h1 M w base B c (bO w' blk j)∧fits 0 c=true)
  (ht:∀ b,tot st.fr tm w B st.bx b+cS w' blk 0 (phys cs') b≤1+cS w blk 0 (phys cs) b) :
  SR base M B {st with bx:=bZ st.bx d id cs'} tm w' ∧
   ∀ b,tot st.fr tm w' B (bZ st.bx d id cs') b+cS w blk 0 (phys cs) b=tot st.fr tm w B st.bx b+cS w' blk 0 (phys cs') b:=by
 have ok:=h.box.get hb hB
 have hne:∀ p v b,h1 M w base B p v→own1 p v=some b→b≠blk:=by
  intro p v b hp ho e;subst e
  exact (hp.nobox ho).1 d id hB
 have hh:∀ p v,h1 M w base B p v→h1 M w' base B p v:=fun p v hp=>hp.world (fun _ _ _ hx=>hx) fun b ho _=>⟨hw b (hne p v b hp ho),fun _=>rfl,fun d i hx=>hx⟩
 have hcellv:∀ b j,b≠blk→bO w' b j=bO w b j:=fun b j hb=>by simp [bO,World.cell?,hw b hb]
 have hcc:∀ b (cs:List PV) j x,b≠blk→cS w' b j cs x=cS w b j cs x:=by
  intro b cs j x hb
  induction cs generalizing j with
  | nil=>rfl
  | cons c cs ih=>simp [cS,hcellv b j hb,ih]
 have htot:∀ b,tot st.fr tm w' B (bZ st.bx d id cs') b+cS w blk 0 (phys cs) b=tot st.fr tm w B st.bx b+cS w' blk 0 (phys cs') b:=by
  intro b
  have:=aMx (g:=fun d i cs=>cBox w (B d i) cs b) (g':=fun d i cs=>cBox w' (B d i) cs b) (cs':=cs') st.bx 0 d h.box.nodup hb (by
   intro e i c hc hne'
   cases hB2:B e i with
   | none=>simp only [Nat.zero_add,hB2,cBox]
   | some blk2 =>
    simp only [Nat.zero_add,hB2,cBox]
    exact hcc blk2 (phys c) 0 b (by intro e2;subst e2;exact hne' (h.box.inj e i d id _ hB2 hB)))
  simp only [Nat.zero_add,hB,cBox] at this
  simp only [tot,cBx,cBox]
  omega
 refine ⟨⟨?_,h.slot,fun i x hx=>hh _ _ (h.slotH i x hx),?_,fun b=>by have:=htot b;have:=ht b;show tot st.fr tm w' B (bZ st.bx d id cs') b≤1;omega,h.glob,by rw [hsz];exact h.base⟩,htot⟩
 ·intro b i v hm
  obtain ⟨arr,T,fz,hx,hv⟩:=h.cons b i v hm
  exact ⟨arr,T,fz,by rw [hw b (by intro e;subst e;rw [ok.free] at hm;simp at hm)];exact hx,hv⟩
 ·refine ⟨aBQ h.box.nodup d id cs',?_,?_,h.box.inj⟩
  ·intro d' id' hn
   show B d' id'=none
   rw [yS st.bx d id d' id' cs' cs hb] at hn
   split at hn
   ·simp at hn
   ·exact h.box.dom d' id' hn
  ·intro d' id' cs2 hn
   rw [yS st.bx d id d' id' cs' cs hb] at hn
   split at hn
   ·rename_i e
    obtain ⟨rfl,rfl⟩:=e
    cases hn
    refine ⟨hv,.inl ⟨blk,hB,ok.old,hrow,ok.free,?_⟩⟩
    intro j c hj
    obtain ⟨r1,r2,r3⟩:=hr j c hj
    exact ⟨r1,hh _ _ r2,r3⟩
   ·rename_i e
    obtain ⟨hv2,hbk⟩:=h.box.ok d' id' cs2 hn
    refine ⟨hv2,?_⟩
    rcases hbk with ⟨blk2,hB2,ok2⟩ | hno
    rotate_left
    ·exact .inr hno
    have hne2:blk2≠blk:=by intro e2;subst e2;exact e (h.box.inj d' id' d id _ hB2 hB)
    obtain ⟨arr,T,fz,hx,hs⟩:=ok2.row
    refine .inl ⟨blk2,hB2,ok2.old,⟨arr,T,fz,by rw [hw blk2 hne2];exact hx,hs⟩,ok2.free,?_⟩
    intro j c hj
    obtain ⟨r1,r2,r3⟩:=ok2.rel j c hj
    rw [hcellv blk2 j hne2]
    exact ⟨r1,hh _ _ r2,r3⟩
theorem vJ {cs:List PV} (h:vG cs=false):phys cs=cs:=by
 unfold vG at h;unfold phys
 split at h
 ·simp at h
 ·rfl
theorem SR.setBox (h:SR base M B st tm w) {d id blk:Nat} {cs cs':List PV} (hb:aX st.bx d id=some cs) (hB:B d id=some blk) (hnv:vG cs=false) (hlen:cs'.length=cs.length) {w':World}
  (hw:∀ b,b≠blk→w'.heap[b]?=w.heap[b]?) (hsz:w'.heap.size=w.heap.size) (hrow:∃ arr T fz,w'.heap[blk]?=some (.cells arr T fz)∧cs.length≤arr.size∧∀ i,i<cs.length→¬ (fz.1≤i∧i<fz.2))
  (hr:∀ (j:Nat) (c:PV),cs'[j]?=some c→Rv M (upB d B) c (bO w' blk j)∧h1 M w base B c (bO w' blk j)∧fits 0 c=true)
  (ht:∀ b,tot st.fr tm w B st.bx b+cS w' blk 0 cs' b≤1+cS w blk 0 cs b) :
  SR base M B {st with bx:=bZ st.bx d id cs'} tm w' ∧
   ∀ b,tot st.fr tm w' B (bZ st.bx d id cs') b+cS w blk 0 cs b=tot st.fr tm w B st.bx b+cS w' blk 0 cs' b:=by
 obtain ⟨e1,e2⟩:=yT (vs:=cs') fun c hc=>by
  obtain ⟨j,hj⟩:=List.mem_iff_getElem?.1 hc
  exact (hr j c hj).2.2
 have e3:=vJ hnv
 have:=h.setRow hb hB (cs':=cs') (w':=w') hw hsz (by rw [e1];obtain ⟨arr,T,fz,q1,q2,q3⟩:=hrow;exact ⟨arr,T,fz,q1,by omega,by rw [hlen];exact q3⟩) (aVE e2) (by rw [e1];exact hr) (by rw [e1,e3];exact ht)
 rw [e1,e3] at this
 exact this
end
theorem aB {α β:Type} {x:Option α} {k:α→Option β} {r:β} (h:bnd x k=some r):∃ a,x=some a∧k a=some r:=by
 cases x with
 | none=>simp [bnd] at h
 | some a=>exact ⟨a,rfl,h⟩
theorem aZ {β:Type} {c:Bool} {x y:Option β} {r:β} (h:cnd c x y=some r):(c=true∧x=some r)∨(c=false∧y=some r):=by
 cases c
 ·exact .inr ⟨rfl,h⟩
 ·exact .inl ⟨rfl,h⟩
def Flat (p:PV):Prop:=(∃ b,p = .bool b)∨(∃ k n,p = .int k n)∨(∃ s,p = .str s)
theorem Flat.no {p:PV} (h:Flat p) (v:Value):dV p v:=by
 rcases h with ⟨b,rfl⟩ | ⟨k,n,rfl⟩ | ⟨s,rfl⟩<;>(intro x hx;simp [atoms,zipA] at hx;subst hx;cases v<;>rfl)
section
variable {P : Program} {M : Mem} {B : BM} (w : World)
theorem dE {t:TypeId} {n:Nat} (h:szOf P t=some n):(sizeOf t).run P w = .ok n w:=by
 unfold szOf at h
 cases hi:P.info? t with
 | none=>simp [hi] at h
 | some i=>simp [hi] at h;subst h;simp [sizeOf,typeInfo,hi]
theorem tZ {t:TypeId} {ag:Bool} (h:agOf P t=some ag):(isAgg t).run P w = .ok ag w:=by
 unfold agOf at h
 cases hd:P.underlying t with
 | none=>simp [hd] at h
 | some d=>cases d<;>simp_all [isAgg,underlying]
theorem pY {t:TypeId} {z:PV} (h:aFx P t=some z):∃ v,(zeroValue t).run P w = .ok v w∧z=ofValue v∧∃ i,P.info? t=some i∧i.zero=some v:=by
 unfold aFx at h
 cases hi:P.info? t with
 | none=>simp [hi] at h
 | some i =>
  simp only [hi,Option.map_eq_some_iff] at h
  obtain ⟨v,hv,rfl⟩:=h
  exact ⟨v,by simp [zeroValue,typeInfo,hi,hv],rfl,i,rfl,hv⟩
theorem aDw (s:List UInt8):(ByteArray.mk s.toArray).toList=s:=by rw [ByteArray.toList_eq]
theorem Rv.int_inv {k:IntKind} {n:Int} {v:Value} (h:Rv M B (.int k n) v):v = .int k n:=by cases h;rfl
theorem Rv.bool_inv {b:Bool} {v:Value} (h:Rv M B (.bool b) v):v = .bool b:=by cases h;rfl
theorem Rv.str_inv {s:List UInt8} {v:Value} (h:Rv M B (.str s) v):v = .string ⟨s.toArray⟩:=by cases h;rfl
theorem aTT {op:BinOp} {k:IntKind} {a b:Int} {r:PV} (t:TypeId) (h:lX op k a b=some r) (h1:op ≠ .shl) (h2:op ≠ .shr) :
  ∃ v,(binOp op t (.int k a) (.int k b)).run P w = .ok v w∧(∀ M B,Rv M B r v)∧Flat r:=by
 cases op<;>simp only [lX,Option.some.injEq] at h<;>(try contradiction)
 case quo =>
  split at h
  ·simp at h
  ·rename_i hb;cases h
   exact ⟨_,by first | (simp [binOp,Op.intDiv,hb];done) | (simp [binOp,Op.intDiv,hb];rfl),fun _ _ => .int _ _,.inr (.inl ⟨_,_,rfl⟩)⟩
 case rem =>
  split at h
  ·simp at h
  ·rename_i hb;cases h
   exact ⟨_,by first | (simp [binOp,Op.intDiv,hb];done) | (simp [binOp,Op.intDiv,hb];rfl),fun _ _ => .int _ _,.inr (.inl ⟨_,_,rfl⟩)⟩
 case add=>subst h;exact ⟨.int k (k.wrap (a+b)),by simp [binOp,Op.intArith],fun _ _ => .int _ _,.inr (.inl ⟨_,_,rfl⟩)⟩
 case sub=>subst h;exact ⟨.int k (k.wrap (a-b)),by simp [binOp,Op.intArith],fun _ _ => .int _ _,.inr (.inl ⟨_,_,rfl⟩)⟩
 case mul=>subst h;exact ⟨.int k (k.wrap (a*b)),by simp [binOp,Op.intArith],fun _ _ => .int _ _,.inr (.inl ⟨_,_,rfl⟩)⟩
 case and=>subst h;exact ⟨.int k (bits .and k a b),by simp [binOp,Op.intBits,bits],fun _ _ => .int _ _,.inr (.inl ⟨_,_,rfl⟩)⟩
 case or=>subst h;exact ⟨.int k (bits .or k a b),by simp [binOp,Op.intBits,bits],fun _ _ => .int _ _,.inr (.inl ⟨_,_,rfl⟩)⟩
 case xor=>subst h;exact ⟨.int k (bits .xor k a b),by simp [binOp,Op.intBits,bits],fun _ _ => .int _ _,.inr (.inl ⟨_,_,rfl⟩)⟩
 case andNot=>subst h;exact ⟨.int k (bits .andNot k a b),by simp [binOp,Op.intBits,bits],fun _ _ => .int _ _,.inr (.inl ⟨_,_,rfl⟩)⟩
 all_goals
  subst h
  exact ⟨.bool _,by simp [binOp,Op.intCmp],fun _ _ => .bool _,.inl ⟨_,rfl⟩⟩
theorem aTU {op:BinOp} {a b:List UInt8} {r:PV} (t:TypeId) (h:aVz op a b=some r) :
  ∃ v,(binOp op t (.string ⟨a.toArray⟩) (.string ⟨b.toArray⟩)).run P w = .ok v w∧(∀ M B,Rv M B r v)∧Flat r:=by
 have e1:∀ op',(binOp op' t (.string ⟨a.toArray⟩) (.string ⟨b.toArray⟩))=Op.stringOp op' ⟨a.toArray⟩ ⟨b.toArray⟩:=by intro op';cases op'<;>rfl
 rw [e1]
 cases op<;>simp only [aVz,Option.some.injEq] at h<;>(try contradiction)
 case add =>
  split at h
  ·rename_i hl;cases h
   refine ⟨.string (⟨a.toArray⟩++⟨b.toArray⟩),?_,?_,.inr (.inr ⟨_,rfl⟩)⟩
   ·have hs:¬ (((ByteArray.mk a.toArray).size+(ByteArray.mk b.toArray).size:Nat):Int)>IntKind.i64.max:=by
     have:(ByteArray.mk a.toArray).size+(ByteArray.mk b.toArray).size=a.length+b.length:=by simp [ByteArray.size]
     rw [this]
     simp only [lim] at hl
     have:IntKind.i64.max=9223372036854775807:=by decide
     omega
    simp only [Op.stringOp,if_neg hs]
    simp
   ·intro M B
    have:(ByteArray.mk a.toArray++ByteArray.mk b.toArray)=⟨(a++b).toArray⟩:=by
     apply ByteArray.ext;simp
    rw [this];exact .str _
  ·simp at h
 all_goals
  subst h
  exact ⟨_,by first | (simp [Op.stringOp,aDw];done) | (simp [Op.stringOp,aDw];rfl),fun _ _ => .bool _,.inl ⟨_,rfl⟩⟩
theorem bAw {op:BinOp} {x y r:PV} {a b:Value} (t:TypeId) (h:bin op x y=some r) (hx:Rv M B x a) (hy:Rv M B y b) :
  ∃ v,(binOp op t a b).run P w = .ok v w∧(∀ M B,Rv M B r v)∧Flat r∧(∀ cs,a ≠ .agg cs)∧a ≠ .nilIface:=by
 unfold bin at h
 split at h
 ·rename_i k m k' n
  rw [hx.int_inv,hy.int_inv]
  split at h
  ·split at h
   ·simp at h
   ·rename_i hn;cases h
    exact ⟨_,by first | (simp [binOp,Op.shift,hn];done) | (simp [binOp,Op.shift,hn];rfl),fun _ _ => .int _ _,.inr (.inl ⟨_,_,rfl⟩),by simp,by simp⟩
  ·split at h
   ·simp at h
   ·rename_i hn;cases h
    exact ⟨_,by first | (simp [binOp,Op.shift,hn];done) | (simp [binOp,Op.shift,hn];rfl),fun _ _ => .int _ _,.inr (.inl ⟨_,_,rfl⟩),by simp,by simp⟩
  ·rename_i h1 h2
   split at h
   ·rename_i e;subst e
    obtain ⟨v,hv,hr,hf⟩:=aTT (P:=P) w t h (fun e=>h1 e) (fun e=>h2 e)
    exact ⟨v,hv,hr,hf,by simp,by simp⟩
   ·simp at h
 ·rw [hx.str_inv,hy.str_inv]
  obtain ⟨v,hv,hr,hf⟩:=aTU (P:=P) w t h
  exact ⟨v,hv,hr,hf,by simp,by simp⟩
 ·simp at h
theorem uA (op:BinOp) (t:TypeId) (x y:Operand) {a b:Value} (h1:∀ cs,a ≠ .agg cs) (h2:a ≠ .nilIface):(eqGuard op t x y a b).run P w = .ok () w:=by
 cases a<;>first
  | exact absurd rfl h2
  | exact absurd rfl (h1 _)
  | (cases op<;>rfl)
def aG0 (t:TypeId) (ag:Bool) (n off:Nat) (xs:Array Value) (x:Value):Prop :=
 match ag with
 | true=>x = .agg (xs.extract off (off+n))∧off+n≤xs.size
 | false=>xs[off]?=some x
theorem aSd {t:TypeId} {n off:Nat} {ag:Bool} {xs:Array Value} (hn:szOf P t=some n) (ha:agOf P t=some ag) (h:off+n≤xs.size) (h0:0<n) :
  ∃ x,(Go.part t xs off).run P w = .ok x w∧aG0 t ag n off xs x:=by
 unfold Go.part
 simp only [Sem.run_bind,tZ w ha,Result.andThen_ok]
 cases ag with
 | true=>simp only [if_true,Sem.run_bind,dE w hn,Result.andThen_ok,Sem.run_pure];exact ⟨_,rfl,rfl,h⟩
 | false =>
  have hlt:off<xs.size:=by omega
  simp only [Bool.false_eq_true,if_false,Array.getElem?_eq_getElem hlt,Sem.run_pure]
  exact ⟨_,rfl,by simp [aG0,hlt]⟩
theorem aVF {l:List PV} {i:Nat} (h:gt l i ≠ .bot):l[i]?=some (gt l i):=by
 rw [aBF] at h ⊢
 cases hl:l[i]? with
 | none=>simp [hl] at h
 | some v=>rfl
theorem aG1 {X Y:List PV} {r:Bool}:∀ (l m:List (Nat×Nat)),eqAt X Y (l++m)=some r→∃ a b,eqAt X Y l=some a∧eqAt X Y m=some b∧r=(a&&b)
 | [],m,h=>⟨true,r,rfl,h,by simp⟩
 | (i,k)::l,m,h=>by
  simp only [List.cons_append,eqAt] at h
  split at h
  ·rename_i a b h1 h2
   cases h
   obtain ⟨c,e,h3,h4,rfl⟩:=aG1 l m h2
   exact ⟨a&&c,e,by simp [eqAt,h1,h3],h4,by simp [Bool.and_assoc]⟩
  ·simp at h
theorem aKv {X Y:List PV} {i k:Nat} {r:Bool} (h:eqAt X Y [(i,k)]=some r):aBN k (gt X i) (gt Y i)=some r:=by
 simp only [eqAt] at h
 split at h
 ·rename_i a b h1 h2;cases h2;simp at h;subst h;exact h1
 ·simp at h
theorem aG2 {X Y : List PV} {xs ys : Array Value} (hX : ∀ (i : Nat) (c : PV), X[i]? = some c → ∃ v, xs[i]? = some v ∧ Rv M B c v) (hY : ∀ (i : Nat) (c : PV), Y[i]? = some c → ∃ v, ys[i]? = some v ∧ Rv M B c v) :
  ∀ (d D : Nat) (t : TypeId) (off n : Nat) (ag : Bool) (ls : List (Nat × Nat)) (r : Bool) (x y : Value), aBP P d t off = some ls → eqAt X Y ls = some r → szOf P t = some n → agOf P t = some ag →
   aG0 t ag n off xs x → aG0 t ag n off ys y → d ≤ D → (Op.equalIn D t x y).run P w = .ok r w
 | 0, D, t, off, n, ag, ls, r, x, y, h, _, _, _, _, _, _ => by simp [aBP] at h
 | d + 1, 0, t, off, n, ag, ls, r, x, y, h, _, _, _, _, _, hD => by omega
 | d + 1, D + 1, t, off, n, ag, ls, r, x, y, h, he, hn, ha, hx, hy, hD => by
  have leaf : ∀ k, aBN k (gt X off) (gt Y off) = some r → ag = false → ∃ p q, Rv M B (gt X off) p ∧ Rv M B (gt Y off) q ∧ x = p ∧ y = q := by
   intro k hk hag
   subst hag
   have n1 : gt X off ≠ .bot := by intro e; rw [e] at hk; unfold aBN at hk; split at hk <;> simp_all
   have n2 : gt Y off ≠ .bot := by intro e; rw [e] at hk; unfold aBN at hk; split at hk <;> simp_all
   obtain ⟨p, hp, rp⟩ := hX off _ (aVF n1)
   obtain ⟨q, hq, rq⟩ := hY off _ (aVF n2)
   simp only [aG0] at hx hy
   rw [hx] at hp; rw [hy] at hq
   cases hp; cases hq
   exact ⟨_, _, rp, rq, rfl, rfl⟩
  unfold aBP at h
  split at h
  ·rename_i hu
   cases h
   have hk := aKv he
   have hag : ag = false := by simp [agOf, hu] at ha; exact ha
   obtain ⟨p, q, rp, rq, rfl, rfl⟩ := leaf 0 hk hag
   unfold aBN at hk
   split at hk
   ·simp at *
   ·simp at *
   ·rename_i a b e1 e2 e3
    cases hk
    rw [e2] at rp; rw [e3] at rq
    rw [rp.bool_inv, rq.bool_inv]
    exact run_equalIn_bool' w D t a b hu
   ·simp at hk
  ·rename_i k0 hu
   cases h
   have hk := aKv he
   have hag : ag = false := by simp [agOf, hu] at ha; exact ha
   obtain ⟨p, q, rp, rq, rfl, rfl⟩ := leaf 1 hk hag
   unfold aBN at hk
   split at hk
   ·rename_i k a k' b e1 e2 e3
    split at hk
    ·rename_i ek; subst ek; cases hk
     rw [e2] at rp; rw [e3] at rq
     rw [rp.int_inv, rq.int_inv]
     exact run_equalIn_int w D t k k0 a b hu
    ·simp at hk
   ·simp at *
   ·simp at *
   ·simp at hk
  ·rename_i hu
   cases h
   have hk := aKv he
   have hag : ag = false := by simp [agOf, hu] at ha; exact ha
   obtain ⟨p, q, rp, rq, rfl, rfl⟩ := leaf 2 hk hag
   unfold aBN at hk
   split at hk
   ·simp at *
   ·rename_i a b e1 e2 e3
    cases hk
    rw [e2] at rp; rw [e3] at rq
    rw [rp.str_inv, rq.str_inv]
    have := run_equalIn_string (P := P) w D t ⟨a.toArray⟩ ⟨b.toArray⟩ hu
    rw [this, aDw, aDw]
   ·simp at *
   ·simp at hk
  ·rename_i fs hu
   split at h
   ·rename_i sz hst hsz
    rw [hn] at hsz; cases hsz
    have hag : ag = true := by simp [agOf, hu] at ha; exact ha
    subst hag
    simp only [aG0] at hx hy
    obtain ⟨rfl, hxs⟩ := hx
    obtain ⟨rfl, hys⟩ := hy
    have hfo : P.fieldsOf t = fs := by simp [Program.fieldsOf, hu]
    rw [run_equalIn_struct w D t _ _ (by rw [hfo]; exact hu) hst, hfo]
    clear hfo hu leaf
    generalize fs.toList = l at h
    induction l generalizing ls r with
    | nil =>
     simp only [List.foldr_nil] at h
     cases h
     simp only [eqAt] at he
     cases he
     simp [Op.eqFields]
    | cons f l ih =>
     simp only [List.foldr_cons] at h
     split at h
     ·rename_i n' l1 l2 hname hn' hl1 hl2
      split at h
      ·rename_i hlay
       cases h
       obtain ⟨a, b, ha1, hb1, rfl⟩ := aG1 l1 l2 he
       have hne : f.name ≠ "_" := by simpa using hname
       obtain ⟨ag', hag'⟩ : ∃ ag', agOf P f.type = some ag' := by
        unfold agOf
        cases hd : P.underlying f.type with
        | none =>
         cases d with
         | zero => simp [aBP] at hl1
         | succ d => simp [aBP, hd] at hl1
        | some d' => cases d' <;> simp
       have hsx : (xs.extract off (off + n)).size = n := by simp; omega
       have hsy : (ys.extract off (off + n)).size = n := by simp; omega
       obtain ⟨px, hpx, qx⟩ := aSd (P := P) w (xs := xs.extract off (off + n)) (off := f.offset) hn' hag' (by omega) hlay.2
       obtain ⟨py, hpy, qy⟩ := aSd (P := P) w (xs := ys.extract off (off + n)) (off := f.offset) hn' hag' (by omega) hlay.2
       have tr : ∀ (zs : Array Value) (p : Value), off + n ≤ zs.size → aG0 f.type ag' n' f.offset (zs.extract off (off + n)) p → aG0 f.type ag' n' (off + f.offset) zs p := by
        intro zs p hz hp
        cases ag' with
        | true =>
         simp only [aG0] at hp ⊢
         obtain ⟨rfl, _⟩ := hp
         refine ⟨?_, by omega⟩
         rw [Array.extract_extract]
         congr 2
         omega
        | false =>
         simp only [aG0] at hp ⊢
         rw [Array.getElem?_extract] at hp
         split at hp
         ·exact hp
         ·simp at hp
       have hcell := aG2 hX hY d D f.type (off + f.offset) n' ag' l1 a px py hl1 ha1 hn' hag' (tr xs px hxs qx) (tr ys py hys qy) (by omega)
       simp only [Op.eqFields, if_pos hne, Sem.run_bind, hpx, hpy, Result.andThen_ok, hcell]
       cases a with
       | true => simp only [Bool.not_true, Bool.false_eq_true, if_false, Bool.true_and]; exact ih l2 b hb1 hl2
       | false => simp
      ·simp at h
     ·simp at h
   ·simp at h
  ·simp at h
end
def Aft (base:Base) (M:Mem) (B:BM) (st:St) (tm:Array Value) (w:World) (e:Eff) (tm':Array Value) (w':World):Prop :=
 tm'.size=tm.size∧∃ M' B',SR base M' B' (e.app st) tm' w' ∧
 Evo w M (tot st.fr tm w B st.bx) B w' M' (tot (e.app st).fr tm' w' B' (e.app st).bx) B'
section
variable {P : Program} {base : Base} {M : Mem} {B : BM} {st : St} {tm : Array Value} {w : World} {next : Act → World → Prop} {Q : Exit → Act → World → Prop}
theorem aKw (a:Act) (dst:Option Nat) (v:Value):a.put dst v=⟨putT a.tmps dst v,a.defers⟩:=by cases dst<;>rfl
theorem upon_value {o:Oper} {a:Act} {v:Value} {w w':World} {e:Eff} (hrun:(execOp a.eval o).run P w = .ok (.value v) w')
  (hk:Aft base M B st a.tmps w e (putT a.tmps o.dst v) w') (hn:∀ tm' w',Aft base M B st a.tmps w e tm' w'→next ⟨tm',a.defers⟩ w') :
  o.upon P a next Q ((execOp a.eval o).run P w):=by
 rw [hrun,Oper.upon_value,aKw]
 exact hn _ _ hk
theorem xU (st:St) (ws:List (Nat×PV)):({ws:=ws}:Eff).app st={st with fr:=ws++st.fr}:=by
 cases st with
 | mk fr bx=>cases bx<;>rfl
theorem jL (h:SR base M B st tm w) {dst:Option Nat} {p:PV} {v:Value} (hr:Rv M B p v) (hn:dV p v) :
  Aft base M B st tm w {ws:=dstW tm.size dst p} (putT tm dst v) w:=by
 obtain ⟨h1,h2⟩:=h.putN dst hr hn
 refine ⟨fB _ _ _,M,B,?_,?_⟩
 ·rw [xU];exact h1
 ·rw [xU]
  exact {Evo.refl w M (tot st.fr tm w B st.bx) B with tle:=fun b _=>h2 b}
theorem aKx (h:SR base M B st tm w) {dst:Option Nat} {lv:List (Nat×PV)} {p:PV} {v:Value} (h1:SR base M B {st with fr:=lv++st.fr} tm w)
  (hr:Rv M B p v) (hh:hV M w base B p v) (ht:∀ b,tot (lv++st.fr) tm w B st.bx b+cV p v b≤tot st.fr tm w B st.bx b) :
  Aft base M B st tm w {ws:=dstW tm.size dst p++lv} (putT tm dst v) w:=by
 obtain ⟨k1,k2⟩:=h1.put dst hr hh (fun b=>Nat.le_trans (ht b) (h.one b))
 refine ⟨fB _ _ _,M,B,?_,?_⟩
 ·rw [xU,List.append_assoc];exact k1
 ·rw [xU,List.append_assoc]
  exact {Evo.refl w M (tot st.fr tm w B st.bx) B with tle:=fun b _=>Nat.le_trans (k2 b) (ht b)}
theorem dV.of1 {p:PV} {v:Value} (hp:∀ cs,p ≠ .agg cs) (ht:∀ cs,p ≠ .tuple cs) (h:own1 p v=none):dV p v:=by
 intro x hx;rw [aGY hp ht] at hx;simp at hx;subst hx;exact h
theorem mB (d id off:Nat) (v:Value):dV (.ptr d id off) v:=dV.of1 (by simp) (by simp) (by cases v<;>rfl)
theorem aG3 (e:PV) (v:Value):dV (.ref e) v:=dV.of1 (by simp) (by simp) (by cases v<;>rfl)
theorem qH (f:Fn) (a b:List PV) (v:Value):dV (.func f a b) v:=dV.of1 (by simp) (by simp) (by cases v<;>rfl)
theorem kK (es bs:List PV) (v:Value):dV (.slice es bs false) v:=dV.of1 (by simp) (by simp) (pJ es bs v)
theorem aCa (bs:List PV) (o:Bool) (v:Value):dV (.slice [] bs o) v:=dV.of1 (by simp) (by simp) (by cases v<;>rfl)
theorem Rv.int_of {x:PV} {a:Value} {k:IntKind} {n:Int} (h:Rv M B x a) (e:x = .int k n):a = .int k n:=by subst e;exact h.int_inv
theorem bBD {op:UnOp} {x r:PV} {a:Value} (h:un op x=some r) (hx:Rv M B x a):∃ v,(Op.unary op a).run P w = .ok v w∧(∀ M B,Rv M B r v)∧Flat r:=by
 unfold un at h
 split at h
 ·cases h;rw [hx.bool_inv];exact ⟨_,rfl,fun _ _ => .bool _,.inl ⟨_,rfl⟩⟩
 ·cases h;rw [hx.int_inv];exact ⟨_,rfl,fun _ _ => .int _ _,.inr (.inl ⟨_,_,rfl⟩)⟩
 ·cases h;rw [hx.int_inv];exact ⟨.int _ _,by simp [Op.unary,Op.intBits,bits],fun _ _ => .int _ _,.inr (.inl ⟨_,_,rfl⟩)⟩
 ·simp at h
theorem aJN {x y r:PV} {a b:Value} (hx:Rv M B x a) (hy:Rv M B y b) :
  (mn x y=some r→∃ v,(Builtin.min2 a b).run P w = .ok v w∧(∀ M B,Rv M B r v)∧Flat r)∧(mx x y=some r→∃ v,(Builtin.max2 a b).run P w = .ok v w∧(∀ M B,Rv M B r v)∧Flat r):=by
 constructor
 ·intro h;unfold mn at h
  split at h
  ·cases h;rw [hx.int_inv,hy.int_inv];exact ⟨_,rfl,fun _ _ => .int _ _,.inr (.inl ⟨_,_,rfl⟩)⟩
  ·simp at h
 ·intro h;unfold mx at h
  split at h
  ·cases h;rw [hx.int_inv,hy.int_inv];exact ⟨_,rfl,fun _ _ => .int _ _,.inr (.inl ⟨_,_,rfl⟩)⟩
  ·simp at h
theorem aXT {x r:PV} {a:Value} {t ty:TypeId} (h:len 0 x=some r) (hx:Rv M B x a) (ht:P.underlying t=some .string) :
  ∃ v,(Builtin.len_ #[t] ty #[a]).run P w = .ok v w∧(∀ M B,Rv M B r v)∧Flat r:=by
 obtain ⟨n,hn,h⟩:=aB h
 cases h
 unfold lenN at hn
 split at hn
 ·cases hn
  rw [hx.str_inv]
  rename_i s _
  refine ⟨.int .i64 s.length,?_,fun _ _ => .int _ _,.inr (.inl ⟨_,_,rfl⟩)⟩
  simp only [Builtin.len_,List.getElem?_toArray,List.getElem?_cons_zero,Sem.run_bind,run_underlying ht,Result.andThen_ok,Sem.run_pure,goInt]
  rfl
 ·simp at *
 ·simp at *
 ·simp at *
 ·simp at hn
theorem aXU {x r:PV} {a:Value} {t ty e:TypeId} (h:len 1 x=some r) (hx:Rv M B x a) (ht:P.underlying t=some (.slice e)) :
  ∃ v,(Builtin.len_ #[t] ty #[a]).run P w = .ok v w∧(∀ M B,Rv M B r v)∧Flat r:=by
 obtain ⟨n,hn,h⟩:=aB h
 cases h
 unfold lenN at hn
 split at hn
 ·simp at *
 ·cases hn
  cases hx with
  | nil o=>exact ⟨.int .i64 _,by simp [Builtin.len_,run_underlying ht,goInt],fun _ _ => .int _ _,.inr (.inl ⟨_,_,rfl⟩)⟩
  | slice es bs o a cap s f ha hc ho hel hm hr=>exact ⟨.int .i64 _,by simp [Builtin.len_,run_underlying ht,goInt],fun _ _ => .int _ _,.inr (.inl ⟨_,_,rfl⟩)⟩
 ·cases hn
  cases hx
  exact ⟨.int .i64 _,by simp [Builtin.len_,run_underlying ht,goInt],fun _ _ => .int _ _,.inr (.inl ⟨_,_,rfl⟩)⟩
 ·cases hn
  cases hx with
  | rsl _ _ _ _ b cap hb hc=>exact ⟨.int .i64 _,by simp [Builtin.len_,run_underlying ht,goInt],fun _ _ => .int _ _,.inr (.inl ⟨_,_,rfl⟩)⟩
  | rslNil _ _ _ oa=>exact ⟨.int .i64 _,by simp [Builtin.len_,run_underlying ht,goInt],fun _ _ => .int _ _,.inr (.inl ⟨_,_,rfl⟩)⟩
 ·simp at hn
theorem Addr.add_none (a:Addr) (n:Nat) (h:a.spot=none):a.add n=⟨a.block,a.off+n,none⟩:=by
 unfold Addr.add
 split
 ·rename_i e;subst e;cases a;simp_all
 ·rfl
theorem vK {fs:Array Field} {i off n:Nat} {ag:Bool} (h:pW P fs i=some (off,n,ag)) :
  ∃ f,fs[i]?=some f∧f.offset=off∧szOf P f.type=some n∧agOf P f.type=some ag:=by
 unfold pW at h
 split at h
 ·rename_i f hf
  split at h
  ·rename_i n' a' hn ha
   cases h
   exact ⟨f,hf,rfl,hn,ha⟩
  ·simp at h
 ·simp at h
theorem aVG {s off n:Nat} {ag:Bool} {e p:PV} (he:okEl s e) (h:fld off n ag e=some p) (hn:0<n) :
  ∃ cs,e = .agg cs∧okEl (if ag then n else 1) p∧(∀ (j:Nat) (c:PV),p.cells[j]?=some c→cs[off+j]?=some c∧off+j<s)∧(ag=true→∃ ps,p = .agg ps)∧(ag=false→(∀ cs,p ≠ .agg cs)∧(∀ cs,p ≠ .tuple cs)):=by
 unfold fld at h
 split at h
 ·rename_i cs
  obtain ⟨h1,h2,h3,h4⟩:=he
  simp only [PV.cells] at h3
  simp only [PV.solid,List.all_eq_true] at h1
  simp only [PV.plain,PV.plainA,PV.agg.injEq] at h2
  have hpl:∀ (j:Nat) (c:PV),cs[j]?=some c→c.plain1=c:=by
   intro j c hc
   have:(cs.map PV.plain1)[j]?=some c:=by rw [h2];exact hc
   simp only [List.getElem?_map,hc,Option.map_some,Option.some.injEq] at this
   exact this
  refine ⟨cs,rfl,?_⟩
  unfold part at h
  cases ag with
  | true =>
   simp only at h
   split at h
   ·rename_i hle
    cases h
    have hg:∀ (j:Nat) (c:PV),((cs.drop off).take n)[j]?=some c→cs[off+j]?=some c:=by
     intro j c hc
     rw [List.getElem?_take] at hc
     split at hc
     ·rwa [List.getElem?_drop] at hc
     ·simp at hc
    refine ⟨⟨?_,?_,?_,by simpa using hn⟩,?_,fun _=>⟨_,rfl⟩,by simp⟩
    ·simp only [PV.solid,List.all_eq_true]
     intro c hc
     exact h1 c (List.mem_of_mem_drop (List.mem_of_mem_take hc))
    ·simp only [PV.plain,PV.plainA,PV.agg.injEq]
     apply List.ext_getElem?
     intro j
     rw [List.getElem?_map]
     cases hc:((cs.drop off).take n)[j]? with
     | none=>rfl
     | some c=>simp only [Option.map_some,hpl (off+j) c (hg j c hc)]
    ·simp [PV.cells];omega
    ·intro j c hc
     refine ⟨hg j c hc,?_⟩
     have:=(List.getElem?_eq_some_iff.1 (hg j c hc)).1
     omega
   ·simp at h
  | false =>
   simp only [jT] at h
   have hs:=h1 p (List.mem_of_getElem? h)
   have hp:=hpl off p h
   have hlt:=(List.getElem?_eq_some_iff.1 h).1
   have na:∀ cs,p ≠ .agg cs:=by intro cs e;subst e;simp [PV.solid1] at hs
   have nt:∀ cs,p ≠ .tuple cs:=by intro cs e;subst e;simp [PV.solid1] at hs
   have hcell:=aGX na
   refine ⟨⟨?_,?_,by simp [hcell],by simp⟩,?_,by simp,fun _=>⟨na,nt⟩⟩
   ·cases p<;>first | exact hs | exact absurd rfl (na _)
   ·cases p<;>first | exact hp | exact absurd rfl (na _) | exact absurd rfl (nt _)
   ·intro j c hc
    rw [hcell] at hc
    cases j with
    | zero=>simp at hc;subst hc;exact ⟨h,by omega⟩
    | succ j=>simp at hc
 ·simp at h
theorem aPB {x r:PV} {a:Value} {s f off n:Nat} {ag:Bool} {fs:Array Field} (hu:P.underlying s=some (.struct fs)) (hf:pW P fs f=some (off,n,ag)) (hn:0<n)
  (h:fad off n ag x=some r) (hx:Rv M B x a):∃ v,(Instr.fieldAt s a f).run P w = .ok v w∧Rv M B r v∧((∃ d i o,r = .ptr d i o)∨∃ e,r = .ref e):=by
 obtain ⟨fd,hfd,rfl,hsz,hag⟩:=vK hf
 have key:∀ ad:Addr,ad.spot=none→(Instr.fieldAt s (.pointer (some ad)) f).run P w = .ok (.pointer (some ⟨ad.block,ad.off+fd.offset,none⟩)) w:=by
  intro ad hsp
  simp only [Instr.fieldAt,Sem.run_bind,run_underlying hu,Result.andThen_ok,hfd,Instr.sureAddr,Sem.run_pure,fieldPlace,dE w hsz]
  rw [if_neg (by omega)]
  simp [Addr.add_none ad _ hsp]
 unfold fad at h
 split at h
 ·rename_i d id o
  cases h
  cases hx with
  | ptr d id o b hb=>exact ⟨_,key ⟨b,o,none⟩ rfl,.ptr d id (o+fd.offset) b hb,.inl ⟨_,_,_,rfl⟩⟩
 ·rename_i v
  obtain ⟨p,hp,h⟩:=aB h
  cases h
  cases hx with
  | ref e ad sz g ha hel hm hr =>
   obtain ⟨cs,rfl,hok,hcells,h1,h2⟩:=aVG hel hp hn
   refine ⟨_,key ad ha,?_,.inr ⟨_,rfl⟩⟩
   refine .ref p ⟨ad.block,ad.off+fd.offset,none⟩ _ (fun j=>g (fd.offset+j)) rfl hok ?_ ?_
   ·intro j hj
    have hl:j<p.cells.length:=by rw [hok.2.2.1];exact hj
    have:=(hcells j _ (List.getElem?_eq_getElem hl)).2
    have:=hm (fd.offset+j) this
    rw [show ad.off+fd.offset+j=ad.off+(fd.offset+j) by omega];exact this
   ·intro j c hc
    exact hr (fd.offset+j) c (hcells j c hc).1
 ·simp at h
theorem aMy {r:PV} {xs:Array Value} {cs:List PV} {t off n:Nat} {ag:Bool} (hsz:szOf P t=some n) (hag:agOf P t=some ag) (h:part off n ag cs=some r) (hx:Rv M B (.agg cs) (.agg xs)) :
  ∃ v,(Go.part t xs off).run P w = .ok v w∧Rv M B r v:=by
 cases hx with
 | agg _ _ f hl hf hr =>
  unfold part at h
  cases ag with
  | true =>
   simp only at h
   split at h
   ·rename_i hle
    cases h
    refine ⟨.agg (xs.extract off (off+n)),by simp [Go.part,tZ w hag,dE w hsz],?_⟩
    refine .agg _ _ (fun i=>f (off+i)) (by simp;omega) ?_ ?_
    ·intro i hi
     simp at hi
     rw [Array.getElem?_extract,if_pos (by omega)]
     exact hf (off+i) (by omega)
    ·intro i c hc
     rw [List.getElem?_take] at hc
     split at hc
     ·rw [List.getElem?_drop] at hc;exact hr _ _ hc
     ·simp at hc
   ·simp at h
  | false =>
   simp only [jT] at h
   have hlt:=(List.getElem?_eq_some_iff.1 h).1
   exact ⟨f off,by simp [Go.part,tZ w hag,hf off hlt],hr off r h⟩
theorem aVH {x r:PV} {a:Value} {s f off n:Nat} {ag:Bool} {fs:Array Field} (hu:P.underlying s=some (.struct fs)) (hf:pW P fs f=some (off,n,ag))
  (h:fld off n ag x=some r) (hx:Rv M B x a):∃ v,(Instr.field s a f).run P w = .ok v w∧Rv M B r v:=by
 obtain ⟨fd,hfd,rfl,hsz,hag⟩:=vK hf
 unfold fld at h
 split at h
 ·rename_i cs
  have hx':=hx
  cases hx with
  | agg _ xs g hl hg hr =>
   obtain ⟨v,hv,rv⟩:=aMy (P:=P) (w:=w) hsz hag h hx'
   exact ⟨v,by simp [Instr.field,run_underlying hu,hfd,asAgg,hv],rv⟩
 ·simp at h
theorem aPC {x i r:PV} {a b:Value} {t e n:Nat} (hu:P.underlying t=some (.slice e)) (hsz:szOf P e=some n) (h:ix n x i=some r) (hx:Rv M B x a) (hi:Rv M B i b) :
  ∃ v,(Instr.indexAt t a b).run P w = .ok v w∧Rv M B r v∧((∃ e,r = .ref e)∨∃ d i o,r = .ptr d i o):=by
 unfold ix at h
 split at h
 ·rename_i es bs o k m
  split at h
  ·simp at h
  ·rename_i hneg
   obtain ⟨el,hel,h⟩:=aB h
   split at h
   ·rename_i hlen
    cases h
    rw [jT] at hel
    have hlt:=(List.getElem?_eq_some_iff.1 hel).1
    rw [hi.int_inv]
    cases hx with
    | nil o=>simp at hel
    | slice es bs o ad cap s f ha hc ho hok hm hr =>
     have ha:=ha (by omega)
     have hin:(es++bs)[m.toNat]?=some el:=by rw [List.getElem?_append_left hlt];exact hel
     have hs:=hok _ _ hin
     have hsn:s=n:=by rw [← hs.2.2.1];exact hlen.1
     subst hsn
     refine ⟨.pointer (some ⟨ad.block,ad.off+m.toNat*s,none⟩),?_,?_,.inl ⟨_,rfl⟩⟩
     ·have c1:0≤m:=by omega
      have c2:m<(es.length:Int):=by omega
      simp [Instr.indexAt,run_underlying hu,asIntOf,c1,c2,dE w hsz,Addr.add_none ad _ ha]
     ·exact .ref el _ s (fun j=>f m.toNat j) rfl hs (fun j hj=>hm _ _ j hin hj) (fun j c hc=>hr _ _ j c hin hc)
   ·simp at h
 ·rename_i d id nn sz k m
  split at h
  ·rename_i hm
   cases h
   rw [hi.int_inv]
   cases hx with
   | rsl _ _ _ _ bk cap hb hc =>
    refine ⟨.pointer (some ⟨bk,0+m.toNat*n,none⟩),?_,?_,.inr ⟨_,_,_,rfl⟩⟩
    ·have c1:0≤m:=hm.1
     have c2:m<(nn:Int):=by omega
     simp [Instr.indexAt,run_underlying hu,asIntOf,c1,c2,dE w hsz,Addr.add_none ⟨bk,0,none⟩ _ rfl]
    ·rw [Nat.zero_add];exact .ptr d id _ bk hb
   | rslNil=>omega
  ·simp at h
 ·simp at h
theorem aMz {x i r:PV} {a b:Value} {t e len n:Nat} (hu:P.underlying t=some (.array len e)) (hsz:szOf P e=some n) (h:bAr len n x i=some r) (hx:Rv M B x a) (hi:Rv M B i b) :
  ∃ v,(Instr.indexAt t a b).run P w = .ok v w∧Rv M B r v∧∃ d i o,r = .ptr d i o:=by
 unfold bAr at h
 split at h
 ·rename_i d id o k m
  split at h
  ·rename_i hm
   cases h
   rw [hi.int_inv]
   cases hx with
   | ptr d id o bk hb =>
    refine ⟨.pointer (some ⟨bk,o+m.toNat*n,none⟩),?_,.ptr d id _ bk hb,⟨_,_,_,rfl⟩⟩
    simp [Instr.indexAt,run_underlying hu,asIntOf,Instr.sureAddr,hm.1,hm.2,dE w hsz,Addr.add_none (⟨bk,o,none⟩:Addr) _ rfl]
  ·simp at h
 ·simp at h
theorem aMA {x i r:PV} {a b:Value} {t:Nat} (hu:P.underlying t=some .string) (h:tD x i=some r) (hx:Rv M B x a) (hi:Rv M B i b) :
  ∃ v,(Instr.index t a b).run P w = .ok v w∧(∀ M B,Rv M B r v)∧Flat r:=by
 unfold tD at h
 split at h
 ·rename_i s k m
  split at h
  ·simp at h
  ·rename_i hneg
   obtain ⟨c,hc,h⟩:=aB h
   cases h
   rw [jT] at hc
   have hlt:=(List.getElem?_eq_some_iff.1 hc).1
   have he:=(List.getElem?_eq_some_iff.1 hc).2
   rw [hi.int_inv,hx.str_inv]
   refine ⟨.int .u8 c.toNat,?_,fun _ _ => .int _ _,.inr (.inl ⟨_,_,rfl⟩)⟩
   have c1:0≤m:=by omega
   have hb:(ByteArray.mk s.toArray)[m.toNat]?=some c:=by
    have:m.toNat<(ByteArray.mk s.toArray).size:=by simpa [ByteArray.size] using hlt
    rw [getElem?_pos (ByteArray.mk s.toArray) m.toNat this]
    show some (s.toArray[m.toNat]'_)=some c
    simp [he]
   simp [Instr.index,asIntOf,run_underlying hu,c1,hb]
 ·simp at h
theorem aMB {x i r:PV} {a b:Value} {t e len n:Nat} {ag:Bool} (hu:P.underlying t=some (.array len e)) (hsz:szOf P e=some n) (hag:agOf P e=some ag) (h:bAs len n ag x i=some r) (hx:Rv M B x a) (hi:Rv M B i b) :
  ∃ v,(Instr.index t a b).run P w = .ok v w∧Rv M B r v:=by
 unfold bAs at h
 split at h
 ·rename_i cs k m
  split at h
  ·rename_i hm
   rw [hi.int_inv]
   have hx':=hx
   cases hx with
   | agg _ xs g hl hg hr =>
    obtain ⟨v,hv,rv⟩:=aMy (P:=P) (w:=w) hsz hag h hx'
    exact ⟨v,by simp [Instr.index,asIntOf,run_underlying hu,hm.1,hm.2,dE w hsz,hv],rv⟩
  ·simp at h
 ·simp at h
end
end Go.Ev

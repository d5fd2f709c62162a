import Derived.Calls
import Derived.Scope
import Derived.LoopN
import Derived.Laws.CopyRow
import Derived.Laws.Append
import Derived.Laws.Slices
import Derived.Laws.IdiomStrings
import Derived.Laws.BytesString
import Derived.Laws.StructEq
import Derived.Laws.Tables
import Derived.Laws.MakeOwn
set_option linter.unusedVariables false
set_option linter.unusedSimpArgs false
namespace Go.Ev
theorem aad:type_of% @List.mem_of_getElem?:=@List.mem_of_getElem?
theorem aa0:type_of% @Bool.and_eq_true:=@Bool.and_eq_true
theorem aak:type_of% @List.all_eq_true:=@List.all_eq_true
theorem aa1:type_of% @Nat.le_refl:=@Nat.le_refl
theorem aa3:type_of% @List.mem_cons:=@List.mem_cons
theorem aaE:type_of% @List.mem_flatMap:=@List.mem_flatMap
theorem aa5:type_of% @Nat.le_trans:=@Nat.le_trans
theorem aaF:type_of% @Nat.lt_of_lt_of_le:=@Nat.lt_of_lt_of_le
theorem aaj:type_of% @List.cons_append:=@List.cons_append
theorem aae:type_of% @Nat.zero_add:=@Nat.zero_add
theorem aaQ:type_of% @Option.some.injEq:=@Option.some.injEq
theorem aao:type_of% @List.mem_iff_getElem?:=@List.mem_iff_getElem?
theorem aag:type_of% @Array.getElem?_eq_some_iff:=@Array.getElem?_eq_some_iff
theorem ab1:type_of% @List.map_cons:=@List.map_cons
theorem aaR:type_of% @List.nodup_cons:=@List.nodup_cons
theorem aa2:type_of% @List.getElem?_eq_some_iff:=@List.getElem?_eq_some_iff
theorem aaw:type_of% @List.mem_singleton:=@List.mem_singleton
theorem abt:type_of% @Array.getElem?_eq_getElem:=@Array.getElem?_eq_getElem
theorem aax:type_of% @List.append_assoc:=@List.append_assoc
theorem abb:type_of% @List.getElem?_take:=@List.getElem?_take
theorem abu:type_of% @List.getElem?_drop:=@List.getElem?_drop
theorem aaS:type_of% @List.ext_getElem?:=@List.ext_getElem?
theorem aa9:type_of% @List.getElem?_map:=@List.getElem?_map
theorem aam:type_of% @Nat.add_mul:=@Nat.add_mul
theorem aat:type_of% @Option.map_some:=@Option.map_some
theorem aa4:type_of% @List.getElem?_eq_getElem:=@List.getElem?_eq_getElem
theorem aaq:type_of% @List.getElem?_append_left:=@List.getElem?_append_left
theorem abG:type_of% @List.getElem?_zip_eq_some:=@List.getElem?_zip_eq_some
theorem abq:type_of% @Array.getElem?_push:=@Array.getElem?_push
theorem aaB:type_of% @Array.getD_eq_getD_getElem?:=@Array.getD_eq_getD_getElem?
theorem aau:type_of% @List.length_map:=@List.length_map
theorem aan:type_of% @Option.map_eq_some_iff:=@Option.map_eq_some_iff
theorem aaa:type_of% @Option.some.inj:=@Option.some.inj
theorem aaX:type_of% @List.getD_eq_getElem?_getD:=@List.getD_eq_getElem?_getD
theorem aaN:type_of% @Option.getD_some:=@Option.getD_some
theorem abv:type_of% @Bool.false_eq_true:=@Bool.false_eq_true
theorem aaT:type_of% @Sem.run_bind:=@Sem.run_bind
theorem aac:type_of% @List.append_nil:=@List.append_nil
theorem aaH:type_of% @List.length_nil:=@List.length_nil
theorem ab6:type_of% @Result.andThen_ok:=@Result.andThen_ok
theorem ab7:type_of% @Sem.run_pure:=@Sem.run_pure
theorem ab2:type_of% @List.flatMap_cons:=@List.flatMap_cons
theorem aar:type_of% @List.length_append:=@List.length_append
theorem aaU:type_of% @List.map_congr_left:=@List.map_congr_left
theorem aaI:type_of% @Nat.mul_comm:=@Nat.mul_comm
theorem ab8:type_of% @Nat.div_add_mod:=@Nat.div_add_mod
theorem abc:type_of% @Nat.mod_lt:=@Nat.mod_lt
theorem aas:type_of% @Nat.mul_le_mul_right:=@Nat.mul_le_mul_right
theorem aah:type_of% @List.mem_map:=@List.mem_map
theorem ab9:type_of% @List.getElem?_set_self:=@List.getElem?_set_self
theorem aaC:type_of% @List.getElem?_set_ne:=@List.getElem?_set_ne
theorem aav:type_of% @List.mem_range:=@List.mem_range
theorem aaO:type_of% @List.length_set:=@List.length_set
theorem abr:type_of% @List.getElem?_toArray:=@List.getElem?_toArray
theorem abh:type_of% @List.getElem?_cons_zero:=@List.getElem?_cons_zero
theorem abi:type_of% @List.getElem?_cons_succ:=@List.getElem?_cons_succ
theorem abw:type_of% @Array.getElem?_append_left:=@Array.getElem?_append_left
theorem abH:type_of% @Array.getElem?_append_right:=@Array.getElem?_append_right
theorem aaJ:type_of% @List.getElem?_append_right:=@List.getElem?_append_right
end Go.Ev
namespace Go.Ev
inductive PV where
 | bot
 | und
 | bool (b:Bool)
 | int (k:IntKind) (n:Int)
 | str (s:List UInt8)
 | agg (cs:List PV)
 | tuple (vs:List PV)
 | slice (es bs:List PV) (own:Bool)
 | mk0 (sz:Nat)
 | ref (v:PV)
 | ptr (d id off:Nat)
 | nilptr
 | rsl (d id n sz:Nat)
 | vec (sz:Nat) (E:List PV)
 | mp (d id:Nat)
 | mpv (kd:Nat) (E:List PV)
 | func (fn:Fn) (first caps:List PV)
 | nilFunc
 deriving Inhabited
namespace PV
def cells:PV->List PV
 | agg cs=>cs
 | v=>[v]
def plain1:PV->PV
 | slice es _ _=>slice es [] false
 | mk0 _=>slice [] [] false
 | vec _ _=>bot
 | mpv _ _=>bot
 | v=>v
def plainA:PV->PV
 | agg cs=>agg (cs.map plain1)
 | v=>plain1 v
def plain:PV->PV
 | tuple vs=>tuple (vs.map plainA)
 | v=>plainA v
def solid1:PV->Bool
 | bool _ | int _ _ | str _ | slice _ _ _ | mk0 _=>true
 | _=>false
def solid:PV->Bool
 | agg cs=>cs.all solid1
 | v=>solid1 v
def free:PV->Bool
 | func _ b c=>b.all solid&&c.all solid
 | nilFunc=>true
 | vec _ _=>true
 | v=>solid v
end PV
open PV
def ofAtom:Value->PV
 | .bool b => .bool b
 | .int k n => .int k n
 | .string s => .str s.data.toList
 | .slice none 0 0 => .slice [] [] true
 | .pointer none => .nilptr
 | .nilFunc => .nilFunc
 | _ => .bot
def ofValue:Value->PV
 | .agg cs => .agg (cs.toList.map ofAtom)
 | v=>ofAtom v
def lim:Nat:=274877906944
abbrev gP:=List (Nat×List PV)
structure St where
 fr:List (Nat×PV)
 bx:List gP
abbrev UP:=List gP
def look {α:Type}:List (Nat×α)->Nat->Option α
 | [],_=>none
 | (i,v)::l,j=>if i=j then some v else look l j
def gets (fr:List (Nat×PV)) (i:Nat):PV :=
 match look fr i with
 | some v=>v
 | none => .bot
def nth {α:Type}:List α->Nat->Option α
 | [],_=>none
 | a::_,0=>some a
 | _::l,n+1=>nth l n
def gt (l:List PV) (i:Nat):PV :=
 match nth l i with
 | some v=>v
 | none => .bot
def putNth {α:Type}:List α->Nat->α->List α
 | [],_,_=>[]
 | _::l,0,v=>v::l
 | a::l,n+1,v=>a::putNth l n v
def putAt {α} (l:List α) (i:Nat):List α->List α
 | []=>l
 | v::vs=>putAt (putNth l i v) (i+1) vs
def sP:gP->Nat->List PV->gP
 | [],_,_=>[]
 | (i,c)::l,j,b=>if i=j then (i,b)::l else (i,c)::sP l j b
def bnd {α β:Type} (x:Option α) (k:α->Option β):Option β :=
 match x with
 | some a=>k a
 | none=>none
def cnd {β:Type} (c:Bool) (x y:Option β):Option β :=
 match c with
 | true=>x
 | false=>y
def bits (c:BinOp) (k:IntKind) (x y:Int):Int :=
 let a:=BitVec.ofInt k.bits x
 let b:=BitVec.ofInt k.bits y
 match c with
 | .and=>k.wrap (a &&& b).toNat
 | .or=>k.wrap (a ||| b).toNat
 | .xor=>k.wrap (a ^^^ b).toNat
 | _=>k.wrap (a &&& ~~~b).toNat
def sQ (c:BinOp) (k:IntKind) (a b:Int):Option PV :=
 match c with
 | .add=>some (.int k (k.wrap (a+b)))
 | .sub=>some (.int k (k.wrap (a-b)))
 | .mul=>some (.int k (k.wrap (a*b)))
 | .quo=>if b=0 then none else some (.int k (k.wrap (a.tdiv b)))
 | .rem=>if b=0 then none else some (.int k (a.tmod b))
 | .and=>some (.int k (bits .and k a b))
 | .or=>some (.int k (bits .or k a b))
 | .xor=>some (.int k (bits .xor k a b))
 | .andNot=>some (.int k (bits .andNot k a b))
 | .eql=>some (.bool (a==b))
 | .neq=>some (.bool (a != b))
 | .lss=>some (.bool (a<b))
 | .leq=>some (.bool (a<=b))
 | .gtr=>some (.bool (a>b))
 | .geq=>some (.bool (a≥b))
 | _=>none
def aXx (c:BinOp) (a b:List UInt8):Option PV :=
 match c with
 | .add=>if a.length+b.length<=lim then some (.str (a++b)) else none
 | .eql=>some (.bool (a==b))
 | .neq=>some (.bool (!(a==b)))
 | .lss=>some (.bool (Op.bytesLess a b))
 | .leq=>some (.bool (Op.bytesLess a b||a==b))
 | .gtr=>some (.bool (!(Op.bytesLess a b||a==b)))
 | .geq=>some (.bool (!Op.bytesLess a b))
 | _=>none
def bin (c:BinOp) (x y:PV):Option PV :=
 match x,y with
 | .int k a,.int k' b =>
  match c with
  | .shl=>if b<0 then none else some (.int k (k.wrap (a*2 ^ min b.toNat k.bits)))
  | .shr=>if b<0 then none else some (.int k (a.fdiv (2 ^ min b.toNat k.bits)))
  | c=>if k=k' then sQ c k a b else none
 | .str a,.str b=>aXx c a b
 | _,_=>none
def aFV (k:Nat) (x y:PV):Option Bool :=
 match k,x,y with
 | 1,.int k a,.int k' b=>if k=k' then some (a==b) else none
 | 2,.str a,.str b=>some (a==b)
 | 0,.bool a,.bool b=>some (a==b)
 | _,_,_=>none
def eqAt (xs ys:List PV):List (Nat×Nat)->Option Bool
 | []=>some true
 | (i,k)::l =>
  match aFV k (gt xs i) (gt ys i),eqAt xs ys l with
  | some b,some c=>some (b&&c)
  | _,_=>none
def eqs (n:Nat) (a:List (Nat×Nat)) (x y:PV):Option Bool :=
 match x,y with
 | .agg xs,.agg ys=>if xs.length=n/\ys.length=n then eqAt xs ys a else none
 | _,_=>none
def eqB (x y:PV):Option Bool :=
 match x,y with
 | .bool a,.bool b=>some (a==b)
 | _,_=>none
def un (a:UnOp) (x:PV):Option PV :=
 match a,x with
 | .not,.bool b=>some (.bool (!b))
 | .neg,.int k n=>some (.int k (k.wrap (0-n)))
 | .xor,.int k n=>some (.int k (bits .xor k (if k.signed then -1 else k.max) n))
 | _,_=>none
def part (off size:Nat) (b:Bool) (cs:List PV):Option PV :=
 match b with
 | true=>if off+size<=cs.length then some (.agg ((cs.drop off).take size)) else none
 | false=>nth cs off
def fld (off size:Nat) (a:Bool) (x:PV):Option PV :=
 match x with
 | .agg cs=>part off size a cs
 | _=>none
def fad (off size:Nat) (a:Bool) (x:PV):Option PV :=
 match x with
 | .ptr d id o=>some (.ptr d id (o+off))
 | .ref v=>bnd (fld off size a v) fun p=>some (.ref p)
 | _=>none
def sR (size:Nat) (b:Bool) (x:PV):Option (List PV) :=
 match b,x with
 | true,.agg cs=>if cs.length=size then some ((List.range size).map (gt cs)) else none
 | true,_=>none
 | false,.agg _=>none
 | false,.tuple _=>none
 | false,.bot=>none
 | false,.und=>none
 | false,v=>match size with
  | 1=>some [v]
  | _=>none
def aU7 (size:Nat) (b:Bool) (x:PV):Option PV :=
 match b,x with
 | true,.agg cs=>if cs.length=size then some x else none
 | true,_=>none
 | false,.agg _=>none
 | false,.tuple _=>none
 | false,v=>some v
def bD (bx:List gP) (d id:Nat):Option (List PV) :=
 match nth bx d with
 | some b=>look b id
 | none=>none
def cN (bx:List gP) (d id:Nat) (cs:List PV):List gP :=
 match bx,d with
 | [],_=>[]
 | b::r,0=>sP b id cs::r
 | b::r,d+1=>b::cN r d id cs
def raise1 (d:Nat):PV->PV
 | .ptr e id o => .ptr (e+d) id o
 | .rsl e id n s => .rsl (e+d) id n s
 | .mp e id => .mp (e+d) id
 | v=>v
def aBg (d:Nat) (v:PV):PV :=
 match d with
 | 0=>v
 | d+1=>match v with
  | .agg cs => .agg (cs.map (raise1 (d+1)))
  | v=>raise1 (d+1) v
def lower1 (d:Nat):PV->PV
 | .ptr e id o => .ptr (e-d) id o
 | .rsl e id n s => .rsl (e-d) id n s
 | .mp e id => .mp (e-d) id
 | v=>v
def vP (d:Nat) (vs:List PV):List PV :=
 match d with
 | 0=>vs
 | d+1=>vs.map (lower1 (d+1))
def dN (a:Bool) (v:PV):List PV :=
 match a with
 | true=>match v with
  | .agg cs=>cs.map plain1
  | _=>[]
 | false=>[plain1 v]
def phys:List PV->List PV
 | [.vec _ E]=>E.flatMap cells
 | [.mpv _ _]=>[]
 | cs=>cs
def nW:List PV->Bool
 | [.vec _ _]=>true
 | [.mpv _ _]=>true
 | _=>false
def xG:List PV->Bool
 | [.mpv _ _]=>true
 | _=>false
def bIX (sz:Nat) (E:List PV) (off n:Nat) (b:Bool):Option PV :=
 bnd (nth E (off / sz)) fun e=>bnd (part (off % sz) n b e.cells) fun v=>some v.plain
def reb (e:PV) (cs:List PV):PV :=
 match e with
 | .agg _ => .agg cs
 | e=>match cs with
  | [c]=>c
  | _=>e
def vput (sz:Nat) (E:List PV) (off:Nat) (vs:List PV):Option (List PV) :=
 bnd (nth E (off / sz)) fun e=>if off % sz+vs.length<=sz/\vs.all solid1=true then some (putNth E (off / sz) (reb e (putAt e.cells (off % sz) (vs.map plain1)))) else none
def okVc:PV->Bool
 | .bool _ | .int _ _ | .str _=>true
 | .slice _ [] false=>true
 | _=>false
def okVe (sz:Nat) (e:PV):Bool:=e.cells.length==sz&&e.cells.all okVc
def aOe:PV->Bool
 | .bool _ | .int _ _ | .str _=>true
 | _=>false
def scal:PV->Bool
 | .tuple vs=>vs.all aOe
 | v=>aOe v
def fits (d:Nat):PV->Bool
 | .ptr e _ _=>d<=e
 | .rsl e _ _ _=>d<=e
 | .mp e _=>d<=e
 | .func _ b c=>b.all solid&&c.all solid
 | .ref _=>true
 | .nilptr=>true
 | .nilFunc=>true
 | v=>solid1 v
def ix (size:Nat) (x i:PV):Option PV :=
 match x,i with
 | .slice es _ _,.int _ n=>if n<0 then none else
  bnd (nth es n.toNat) fun e=>if e.cells.length=size/\0<size then some (.ref e) else none
 | .rsl d id n sz,.int _ k=>if 0<=k/\k.toNat<n/\sz=size then some (.ptr d id (k.toNat*size)) else none
 | _,_=>none
def bHb (n size:Nat) (x i:PV):Option PV :=
 match x,i with
 | .ptr d id o,.int _ k=>if 0<=k/\k<n then some (.ptr d id (o+k.toNat*size)) else none
 | _,_=>none
def aU8 (x i:PV):Option PV :=
 match x,i with
 | .str s,.int _ n=>if n<0 then none else bnd (nth s n.toNat) fun b=>some (.int .u8 b.toNat)
 | _,_=>none
def bHc (n size:Nat) (a:Bool) (x i:PV):Option PV :=
 match x,i with
 | .agg cs,.int _ k=>if 0<=k/\k<n then part (k.toNat*size) size a cs else none
 | _,_=>none
def szOk (size:Nat):List PV->Bool
 | []=>true
 | e::_=>e.cells.length==size
def aDx (x:PV):Option Nat :=
 match x with
 | .int _ n=>if n<0 then none else some n.toNat
 | _=>none
def aIZ (size:Nat) (x:PV) (l h:Nat):Option PV :=
 match x,size with
 | .str s,0=>if l<=h/\h<=s.length then some (.str ((s.take h).drop l)) else none
 | .slice es bs _,n+1=>if l<=h/\h<=es.length+bs.length/\szOk (n+1) (es++bs)=true then some (.slice (((es++bs).take h).drop l) ((es++bs).drop h) false) else none
 | .mk0 _,_+1=>if l=0/\h=0 then some (.slice [] [] false) else none
 | _,_=>none
def lenN (k:Nat) (x:PV):Option Nat :=
 match x,k with
 | .str s,0=>some s.length
 | .slice es _ _,_+1=>some es.length
 | .mk0 _,_+1=>some 0
 | .rsl _ _ n _,_+1=>some n
 | _,_=>none
def len (k:Nat) (x:PV):Option PV:=bnd (lenN k x) fun n=>some (.int .i64 n)
def bIY (size:Nat) (x:PV):Option PV:=bnd (lenN size x) fun n=>aIZ size x 0 n
def bIZ (size:Nat) (x l:PV):Option PV:=bnd (lenN size x) fun n=>bnd (aDx l) fun l=>aIZ size x l n
def aZg (size:Nat) (x h:PV):Option PV:=bnd (aDx h) fun h=>aIZ size x 0 h
def bI0 (size:Nat) (x l h:PV):Option PV:=bnd (aDx l) fun l=>bnd (aDx h) fun h=>aIZ size x l h
def bGH (x:PV):Option PV :=
 match x with
 | .slice _ _ _=>some (.slice [] [] true)
 | .mk0 _=>some (.slice [] [] true)
 | _=>none
def iW (s:List UInt8):List PV:=s.map fun b => .int .u8 b.toNat
def slOr (sz:Nat) (E:List PV):PV :=
 match E with
 | [] => .mk0 sz
 | E => .slice E [] true
def apd (size:Nat) (x y:PV):Option PV :=
 match x,y with
 | .slice A _ true,.slice B _ _=>if A.length+B.length<=lim/\szOk size A=true/\szOk size B=true then some (.slice (A++B) [] true) else none
 | .mk0 sz,.slice B _ _=>if B.length<=lim/\sz=size/\szOk size B=true then some (slOr sz B) else none
 | _,_=>none
def bAZ (x y:PV):Option PV :=
 match x,y with
 | .slice A _ true,.str s=>if A.length+s.length<=lim/\szOk 1 A=true then some (.slice (A++iW s) [] true) else none
 | .mk0 sz,.str s=>if s.length<=lim/\sz=1 then some (slOr sz (iW s)) else none
 | _,_=>none
def apdV (size:Nat) (x y:PV):Option (List PV) :=
 match x,y with
 | .slice [] _ true,.slice B _ _=>if B.length<=lim/\szOk size B=true then some B else none
 | _,_=>none
def bHd (size:Nat) (x:PV):Option (List PV) :=
 match x with
 | .slice E _ true=>if 0<size/\E.all (fun e=>e.cells.length==size&&e.cells.all aOe)=true then some E else none
 | _=>none
def el (size:Nat) (x:PV):Option PV :=
 if x.solid=true/\x.cells.length=size/\0<size then some x.plain else none
def aFJ (kd:Nat):PV->Bool
 | .str _=>Nat.beq kd 0
 | .agg [.int .i64 _,.int .i64 _]=>Nat.beq kd 1
 | _=>false
def keq:PV->PV->Bool
 | .str a,.str b=>a==b
 | .agg [.int .i64 a,.int .i64 b],.agg [.int .i64 c,.int .i64 d]=>a==c&&b==d
 | _,_=>false
def aOf (k:PV):List PV->Option PV
 | []=>none
 | .tuple [q,v]::l=>match keq k q with
  | true=>some v
  | false=>aOf k l
 | _::l=>aOf k l
def bA0 (kd:Nat) (E:List PV) (k z:PV):Option (PV×Bool) :=
 match aFJ kd k,aOf k E with
 | true,some v=>some (v,true)
 | true,none=>some (z.plain1,false)
 | false,_=>none
def aJ3 (kd:Nat) (E:List PV) (k z:PV) (c:Bool):Option PV:=bnd (bA0 kd E k z) fun r=>some (match c with | true => .tuple [r.1,.bool r.2] | false=>r.1)
def aHl (k v:PV):List PV->List PV
 | []=>[.tuple [k,v]]
 | .tuple [q,u]::l=>match keq k q with
  | true => .tuple [k,v]::l
  | false => .tuple [q,u]::aHl k v l
 | x::l=>x::aHl k v l
def mput (kd:Nat) (E:List PV) (k v:PV):Option (List PV) :=
 match aFJ kd k,v.solid1 with
 | true,true=>some (aHl k v.plain1 E)
 | _,_=>none
def bGI (x:PV):Option UInt8 :=
 match x with
 | .int .u8 n=>some (UInt8.ofNat n.toNat)
 | _=>none
def aHm:List PV->Option (List UInt8)
 | []=>some []
 | x::l =>
  match bGI x,aHm l with
  | some b,some r=>some (b::r)
  | _,_=>none
def bHe (x:PV):Option PV :=
 match x with
 | .slice es _ _=>bnd (aHm es) fun s=>some (.str s)
 | .mk0 _=>some (.str [])
 | _=>none
def aU9 (x:PV):Option PV :=
 match x with
 | .str s=>some (slOr 1 (iW s))
 | _=>none
def bEb (k:IntKind) (x:PV):Option PV :=
 match x with
 | .int _ n=>some (.int k (k.wrap n))
 | _=>none
def ext (i:Nat) (x:PV):Option PV :=
 match x with
 | .tuple vs=>nth vs i
 | _=>none
def aDy (x:PV):Option Bool :=
 match x with
 | .bool b=>some b
 | _=>none
def mn (x y:PV):Option PV :=
 match x,y with
 | .int k a,.int _ b=>some (.int k (if b<a then b else a))
 | _,_=>none
def mx (x y:PV):Option PV :=
 match x,y with
 | .int k a,.int _ b=>some (.int k (if b>a then b else a))
 | _,_=>none
def aFW:PV->PV
 | .ptr d id o => .ptr (d+1) id o
 | .rsl d id n s => .rsl (d+1) id n s
 | .mp d id => .mp (d+1) id
 | v=>v
def shift:PV->PV
 | .func f a b => .func f (a.map aFW) (b.map aFW)
 | .agg cs => .agg (cs.map aFW)
 | v=>aFW v
def sh0:PV->Bool
 | .ptr _ _ _ | .rsl _ _ _ _ | .mp _ _ | .ref _ | .nilptr | .nilFunc | .bot | .und=>true
 | .func _ a b=>a.all solid&&b.all solid
 | v=>v.solid
def shOk:PV->Bool
 | .func _ a b=>a.all sh0&&b.all sh0
 | .agg cs=>cs.all sh0
 | v=>sh0 v
def pC:PV->Option PV
 | .ptr 0 _ _=>none
 | .ptr (d+1) id o=>some (.ptr d id o)
 | .rsl 0 _ _ _=>none
 | .rsl (d+1) id n s=>some (.rsl d id n s)
 | .mp 0 _=>none
 | .mp (d+1) id=>some (.mp d id)
 | .ref v=>some (.ref v)
 | .nilptr=>some .nilptr
 | v=>if v.free then some v else none
def uX:List PV->Option (List PV)
 | []=>some []
 | x::l =>
  match pC x,uX l with
  | some y,some r=>some (y::r)
  | _,_=>none
def aBh:PV->Option PV
 | .agg cs=>bnd (uX cs) fun cs=>some (.agg cs)
 | v=>pC v
def aAx:List PV->Option (List PV)
 | []=>some []
 | x::l =>
  match aBh x,aAx l with
  | some y,some r=>some (y::r)
  | _,_=>none
def out:PV->Option PV
 | .tuple vs=>bnd (aAx vs) fun vs=>some (.tuple vs)
 | v=>aBh v
structure Hints where
 takes:List Nat:=[]
 gens:List Nat:=[]
 keeps:List (Nat×List Nat):=[]
 own:Bool:=false
 drop:Bool:=false
 sel:Bool:=false
 one:List (Nat×List (Nat×Nat)×Nat×Nat×Nat):=[]
 frz:List (Nat×List Nat):=[]
 frl:List (Nat×List Nat):=[]
 vecs:List (Nat×Nat):=[]
 brw:List Nat:=[]
abbrev Orc:=FuncId->List PV->UP->Option (PV×UP)
inductive Ex where
 | nrm
 | brk (id:Nat)
 | ret
abbrev aAv:=List PV->UP->Option (Ex×List PV×UP)
structure Eff where
 cr:List (Nat×Nat×Nat×Nat):=[]
 cw:List (Nat×Nat×Nat×List PV):=[]
 ws:List (Nat×PV):=[]
 nw:List (Nat×List PV):=[]
 up:Option UP:=none
def fC (bx:List gP):List (Nat×Nat×Nat×List PV)->List gP
 | []=>bx
 | (d,id,o,vs)::l =>
  match bD bx d id with
  | some cs=>fC (cN bx d id (putAt cs o vs)) l
  | none=>fC bx l
def aDf (bx:List gP) (a:List (Nat×List PV)):List gP :=
 match bx,a with
 | bx,[]=>bx
 | b::r,a=>(a++b)::r
 | [],_=>[]
def Eff.app (e:Eff) (st:St):St :=
 { fr:=e.ws++st.fr,bx:=match e.up with | some u=>u | none=>aDf (fC st.bx e.cw) e.nw}
def opd (fr:List (Nat×PV)):Operand->PV
 | .tmp t=>gets fr t
 | .const v=>ofValue v
 | .global _ => .bot
 | .func f => .func (.func f) [] []
def has (l:List Nat) (i:Nat):Bool:=l.any (· == i)
def hasO (l:List Nat):Option Nat->Bool
 | some i=>has l i
 | none=>false
def opv (fr:List (Nat×PV)) (a:Bool):Operand->PV
 | .tmp t=>match a with | true=>gets fr t | false=>(gets fr t).plain
 | x=>opd fr x
def left (fr:List (Nat×PV)) (a:Bool):Operand->List (Nat×PV)
 | .tmp t=>match a with | true=>[(t,(gets fr t).plain)] | false=>[]
 | _=>[]
def dstW (a:Nat) (d:Option Nat) (v:PV):List (Nat×PV) :=
 match d with
 | some d=>if d<a then [(d,v)] else []
 | none=>[]
section types
variable (P : Program)
def szOf (t:TypeId):Option Nat:=(P.info? t).map (·.size)
def agOf (t:TypeId):Option Bool :=
 match P.underlying t with
 | some (.struct _)=>some true
 | some (.array _ _)=>some true
 | some _=>some false
 | none=>none
def aFX (t:TypeId):Option PV :=
 match P.info? t with
 | some i=>i.zero.map ofValue
 | none=>none
def aDz (i:TypeInfo):Bool :=
 match i.zero with
 | some z=>z.cells.size==i.size
 | none=>false
def aFY : Nat -> TypeId -> Nat -> Option (List (Nat × Nat))
 | 0, _, _ => none
 | d + 1, t, off =>
  match P.underlying t with
  | some .bool => some [(off, 0)]
  | some (.int _) => some [(off, 1)]
  | some .string => some [(off, 2)]
  | some (.struct fs) =>
   match P.stoodInHeld t, szOf P t with
   | false, some sz =>
    fs.toList.foldr (fun f a =>
     match f.name == "_", szOf P f.type, aFY d f.type (off + f.offset), a with
     | false, some n, some l, some r => if f.offset + n <= sz /\ 0 < n then some (l ++ r) else none
     | _, _, _, _ => none) (some [])
   | _, _ => none
  | _ => none
end types
def aGu (place:Nat->Option (Nat×Nat×Bool)) {R}:List (Nat×PV)->List PV->(List PV->Option R)->Option R
 | [],cs,K=>K cs
 | (i,v)::rest,cs,K =>
  match place i with
  | some (off,size,a)=>bnd (sR size a v) fun vs=>if off+size<=cs.length then aGu place rest (putAt cs off vs) K else none
  | none=>none
def aDA (size:Nat) {R}:List (Nat×PV)->List PV->(List PV->Option R)->Option R
 | [],es,K=>K es
 | (i,v)::rest,es,K=>bnd (el size v) fun e=>if i<es.length then aDA size rest (putNth es i e) K else none
def aP7:List (Nat×Nat)->Nat->Nat->Nat->Option Nat
 | [],_,_,_=>none
 | (e,i)::l,d,id,j=>match Nat.beq d e&&Nat.beq id i with
  | true=>some j
  | false=>aP7 l d id (j+1)
def renL (f:PV->Option PV):List PV->Option (List PV)
 | []=>some []
 | c::l=>match f c,renL f l with
  | some a,some r=>some (a::r)
  | _,_=>none
def ren1 (σ:List (Nat×Nat)) (d:Nat):PV->Option PV
 | .ptr e id o=>bnd (aP7 σ (d+e) id 0) fun j=>some (.ptr 0 j o)
 | .mp e id=>bnd (aP7 σ (d+e) id 0) fun j=>some (.mp 0 j)
 | c=>match okVc c with
  | true=>some c
  | false=>none
def renC (f:PV->Option PV) (cs:List PV):Option (List PV) :=
 match cs with
 | [.mpv _ _]=>some cs
 | cs=>renL f cs
def arg1 (σ:List (Nat×Nat)):PV->Option PV
 | .ptr d id o=>match d with
  | 0=>none
  | d+1=>bnd (aP7 σ d id 0) fun j=>some (.ptr 1 j o)
 | .mp d id=>match d with
  | 0=>none
  | d+1=>bnd (aP7 σ d id 0) fun j=>some (.mp 1 j)
 | c=>match c.solid with
  | true=>some c
  | false=>none
def argA (σ:List (Nat×Nat)):PV->Option PV
 | .func f a b=>match renL (arg1 σ) a,renL (arg1 σ) b with
  | some d,some b'=>some (.func f d b')
  | _,_=>none
 | c=>arg1 σ c
def selF (σ:List (Nat×Nat)) (u:UP):List (Nat×Nat)->Nat->Option gP
 | [],_=>some []
 | (d,id)::l,j=>match bD u d id with
  | some cs=>match renC (ren1 σ d) cs,selF σ u l (j+1) with
   | some cs',some r=>some ((j,cs')::r)
   | _,_=>none
  | none=>none
def hasP (l:List (Nat×Nat)) (p:Nat×Nat):Bool:=l.any fun q=>Nat.beq q.1 p.1&&Nat.beq q.2 p.2
def ndP:List (Nat×Nat)->Bool
 | []=>true
 | p::l => !hasP l p&&ndP l
def okW (cs vs:List PV):Bool :=
 match cs,vs with
 | [.mpv k _],[.mpv k' _]=>Nat.beq k k'
 | _,vs=>vs.all okVc && !xG cs
open Classical in
noncomputable def wr1 (fr:gP) (u:UP) (j off n:Nat):Option (List PV) :=
 match look fr j with
 | some cs =>
  let vs:=(List.range n).map fun i=>gt ((bD u 0 j).getD []) (off+i)
  if u=[sP fr j (putAt cs off vs)]/\okW cs vs=true/\off+n<=cs.length then some vs else none
 | none=>none
noncomputable section
def mapT (P:Program) (t:TypeId):Option (Nat×PV) :=
 match P.underlying t with
 | some (.map k e) =>
  match aFX P e with
  | some z=>match z.solid1,P.underlying k with
   | true,some .string=>some (0,z)
   | true,some (.array 2 i)=>match P.underlying i,szOf P i,szOf P k with
    | some (.int .i64),some 1,some 2=>some (1,z)
    | _,_,_=>none
   | _,_=>none
  | none=>none
 | _=>none
def aBA (O:Orc) {R} (g:FuncId) (args:List PV) (K:PV->Option R):Option R :=
 cnd (args.all free) (bnd (O g args []) fun r=>match r.2 with | []=>K r.1 | _=>none) none
def xH (P:Program) (fs:Array Field) (i:Nat):Option (Nat×Nat×Bool) :=
 match fs[i]? with
 | some f=>match szOf P f.type,agOf P f.type with
  | some n,some a=>some (f.offset,n,a)
  | _,_=>none
 | none=>none
def bA1 (a:Hints) (d:Option Nat):Option Nat :=
 match d with
 | some d=>look a.vecs d
 | none=>none
def lB (a:Nat) (st:St) (d:Option Nat):Option Nat :=
 match d,st.bx with
 | some d,b::_=>match look b d with
  | none=>if d<a then some d else none
  | some _=>none
 | _,_=>none
def sS {R:Type} (a:Nat) (o:Oper) (sz:Nat) (E:List PV) (lv:List (Nat×PV)) (st:St) (K:Eff->Option R):Option R :=
 match lB a st o.dst with
 | some id=>K {ws:=(id,.rsl 0 id E.length sz)::lv,nw:=[(id,[.vec sz E])]}
 | none=>none
def rdV:List PV->List (Nat×Nat×Nat×Nat)
 | []=>[]
 | .rsl 0 id _ _::l=>(0,id,0,1)::rdV l
 | _::l=>rdV l
def brwV (bx:List gP) (v:PV):PV :=
 match v with
 | .rsl 0 id n _ =>
  match bD bx 0 id with
  | some [.vec _ E] => .slice (E.take n) [] false
  | _ => .bot
 | v=>v
def aOg (bx:List gP) (v:PV):Bool :=
 match v with
 | .rsl 0 id n sz =>
  match bD bx 0 id with
  | some [.vec a E]=>Nat.beq sz a&&Nat.ble n E.length
  | _=>false
 | _=>true
def bI1 (b:Bool) (z l c:PV):Option (List PV) :=
 bnd (aDx l) fun n=>bnd (aDx c) fun m=>if n<=lim/\n=m/\b=true then some (List.replicate n z) else none
def bHf (i:TypeInfo) (l c:PV):Option (List PV) :=
 match i.zero with
 | some z=>bI1 (okVe i.size (ofValue z)) (ofValue z) l c
 | none=>none
def mkSl (size:Nat) (c:PV):Option PV:=bnd (aDx c) fun n=>if n<=lim then some (.mk0 size) else none
section op
variable (P : Program) (mt : Hints) (nt : Nat) (O : Orc) {R : Type}
def oneO (mt:Hints):Option Nat->Option (List (Nat×Nat)×Nat×Nat×Nat)
 | some d=>look mt.one d
 | none=>none
def rdP (bx:List gP) (σ:List (Nat×Nat)):List (Nat×Nat×Nat×Nat):=σ.map fun q=>(q.1,q.2,0,((bD bx q.1 q.2).getD []).length)
def uB (xs:List Operand):List Nat:=xs.filterMap fun | .tmp t=>some t | _=>none
def aAy:List Nat->Bool
 | []=>true
 | i::l => !has l i&&aAy l
def lW (o:Oper) (c:Call) (st:St) (K:Eff->Option R):Option R :=
 let ρ:=opd st.fr
 let h:=hasO mt.takes o.dst
 match c.callee with
 | .value f =>
  match ρ f with
  | .func (.func g) b d =>
   let args:=b++c.args.toList.map (opv st.fr h)++d
   let lv:=c.args.toList.flatMap (left st.fr h)
   match !h||aAy (uB c.args.toList),hasO mt.gens o.dst with
   | false,_=>none
   | true,true=>cnd (args.all shOk) (match oneO mt o.dst with
     | some (σ,j,off,n)=>cnd (ndP σ) (bnd (renL (argA σ) (args.map shift)) fun a=>bnd (selF σ st.bx σ 0) fun fr=>bnd (O g a [fr]) fun r=>cnd r.1.free (bnd (wr1 fr r.2 j off n) fun vs=>bnd (nth σ j) fun p =>
       K {cr:=rdP st.bx σ,cw:=[(p.1,p.2,off,vs)],ws:=dstW nt o.dst r.1++lv}) none) none
     | none=>bnd (O g (args.map shift) st.bx) fun r=>K {ws:=dstW nt o.dst r.1++lv,up:=some r.2}) none
   | true,false =>
    match hasO mt.brw o.dst,bA1 mt o.dst,h with
    | true,_,_=>cnd (args.all (aOg st.bx)) (aBA O g (args.map (brwV st.bx)) fun r=>cnd (scal r) (K {cr:=rdV args,ws:=dstW nt o.dst r++lv}) none) none
    | false,some _,true=>none
    | false,some sz,false=>aBA O g args fun r=>bnd (bHd sz r) fun E=>sS nt o sz E lv st K
    | false,none,_=>aBA O g args fun r=>K {ws:=dstW nt o.dst r++lv}
  | _=>none
 | .builtin .len =>
  match c.args.toList,c.argTypes.toList with
  | [x],[t] =>
   match P.underlying t with
   | some .string=>bnd (len 0 (ρ x)) fun v=>K {ws:=dstW nt o.dst v}
   | some (.slice _)=>bnd (len 1 (ρ x)) fun v=>K {ws:=dstW nt o.dst v}
   | _=>none
  | _,_=>none
 | .builtin .append =>
  match c.args.toList,c.argTypes.toList with
  | [x,y],[t,u] =>
   match P.underlying t,P.underlying u with
   | some (.slice e),some (.slice _) =>
    match P.info? e with
    | some i=>if 0<i.size/\i.bytes<=512/\aDz i=true then
      match bA1 mt o.dst with
      | some _=>bnd (apdV i.size (opd st.fr x) (ρ y)) fun E=>sS nt o i.size E (left st.fr true x) st K
      | none=>bnd (apd i.size (opd st.fr x) (ρ y)) fun v=>K {ws:=dstW nt o.dst v++left st.fr true x} else none
    | none=>none
   | some (.slice e),some .string =>
    match P.info? e with
    | some i=>if i.size=1/\i.bytes<=512/\aDz i=true then
      bnd (bAZ (opd st.fr x) (ρ y)) fun v=>K {ws:=dstW nt o.dst v++left st.fr true x} else none
    | none=>none
   | _,_=>none
  | _,_=>none
 | .builtin .min =>
  match c.args.toList with
  | [x,y]=>bnd (mn (ρ x) (ρ y)) fun v=>K {ws:=dstW nt o.dst v}
  | _=>none
 | .builtin .max =>
  match c.args.toList with
  | [x,y]=>bnd (mx (ρ x) (ρ y)) fun v=>K {ws:=dstW nt o.dst v}
  | _=>none
 | _=>none
def yS (o:Oper) (t:TypeId) (x:Operand) (c b m:Option Operand) (st:St) (K:Eff->Option R):Option R :=
 let ρ:=opd st.fr
 let a v:Option R:=K {ws:=dstW nt o.dst v}
 match P.underlying t with
 | some .string =>
  match c,b,m with
  | none,none,none=>bnd (bIY 0 (ρ x)) a
  | some l,none,none=>bnd (bIZ 0 (ρ x) (ρ l)) a
  | none,some h,none=>bnd (aZg 0 (ρ x) (ρ h)) a
  | some l,some h,none=>bnd (bI0 0 (ρ x) (ρ l) (ρ h)) a
  | _,_,_=>none
 | some (.slice e) =>
  match szOf P e with
  | some 0=>none
  | some n =>
   match c,b,m with
   | none,none,none=>bnd (bIY n (ρ x)) a
   | some l,none,none=>bnd (bIZ n (ρ x) (ρ l)) a
   | none,some h,none=>bnd (aZg n (ρ x) (ρ h)) a
   | some l,some h,none=>bnd (bI0 n (ρ x) (ρ l) (ρ h)) a
   | none,some (.const (.int .i64 0)),some (.const (.int .i64 0))=>bnd (bGH (ρ x)) a
   | _,_,_=>none
  | none=>none
 | _=>none
def yT (o:Oper) (c:BinOp) (t:TypeId) (x y:PV) (K:Eff->Option R):Option R :=
 let a v:Option R:=K {ws:=dstW nt o.dst v}
 match c with
 | .eql =>
  match P.underlying t with
  | some (.int _)=>bnd (bin .eql x y) a
  | some .string=>bnd (bin .eql x y) a
  | some .bool=>bnd (eqB x y) fun b=>a (.bool b)
  | some (.struct _) =>
   match szOf P t,aFY P 20 t 0,P.eqGuardType P.depth t with
   | some n,some d,false=>bnd (eqs n d x y) fun b=>a (.bool b)
   | _,_,_=>none
  | _=>none
 | .neq =>
  match P.underlying t with
  | some (.int _)=>bnd (bin .neq x y) a
  | some .string=>bnd (bin .neq x y) a
  | some .bool=>bnd (eqB x y) fun b=>a (.bool (!b))
  | some (.struct _) =>
   match szOf P t,aFY P 20 t 0,P.eqGuardType P.depth t with
   | some n,some d,false=>bnd (eqs n d x y) fun b=>a (.bool (!b))
   | _,_,_=>none
  | _=>none
 | c=>bnd (bin c x y) a
def aHn (o:Oper) (s d:TypeId) (x:PV) (K:Eff->Option R):Option R :=
 let a v:Option R:=K {ws:=dstW nt o.dst v}
 match P.underlying s,P.underlying d with
 | some (.int _),some (.int k)=>bnd (bEb k x) a
 | some (.slice e),some .string =>
  match P.underlying e with
  | some (.int .u8)=>bnd (bHe x) a
  | _=>none
 | some .string,some (.slice e) =>
  match P.underlying e with
  | some (.int .u8)=>bnd (aU9 x) a
  | _=>none
 | _,_=>none
def newBox (o:Oper) (n:Nat) (a:Bool) (v:PV) (lv:List (Nat×PV)) (st:St) (K:Eff->Option R):Option R :=
 match lB nt st o.dst with
 | some id=>bnd (sR n a v) fun cs=>cnd (cs.all (fits 0)) (K {ws:=(id,.ptr 0 id 0)::lv,nw:=[(id,cs)]}) none
 | none=>none
def aX (o:Oper) (st:St) (K:Eff->Option R):Option R :=
 let ρ:=opd st.fr
 let B:=hasO mt.takes o.dst
 let g v:Option R:=K {ws:=dstW nt o.dst v}
 match o.op with
 | .move x=>K {ws:=dstW nt o.dst (opv st.fr B x)++left st.fr B x}
 | .assign x=>K {ws:=dstW nt o.dst (opv st.fr true x)++left st.fr true x}
 | .pick c a b=>bnd (aDy (ρ c)) fun t=>cnd t (K {ws:=dstW nt o.dst (opv st.fr false a)}) (K {ws:=dstW nt o.dst (opv st.fr false b)})
 | .alloc t =>
  match szOf P t,agOf P t,aFX P t with
  | some n,some j,some z=>newBox nt o n j z [] st K
  | _,_,_=>none
 | .box t x =>
  match szOf P t,agOf P t with
  | some n,some j=>newBox nt o n j (opv st.fr true x) (left st.fr true x) st K
  | _,_=>none
 | .build t ps =>
  match P.underlying t,aFX P t with
  | some (.struct fs),some (.agg z) =>
   if fs.toList.all (fun f=>(P.info? f.type).isSome)=true then aGu (xH P fs) (ps.toList.map fun p=>(p.1,opv st.fr false p.2)) z fun cs=>K {ws:=dstW nt o.dst (.agg cs)} else none
  | some (.array _ e),some (.agg z) =>
   match szOf P e,agOf P e with
   | some n,some j=>aGu (fun i=>some (i*n,n,j)) (ps.toList.map fun p=>(p.1,opv st.fr false p.2)) z fun cs=>K {ws:=dstW nt o.dst (.agg cs)}
   | _,_=>none
  | _,_=>none
 | .buildSlice t n ps =>
  match P.underlying t with
  | some (.slice e) =>
   match szOf P e,aFX P e with
   | some sz,some z=>if n*sz<=16777216/\z.cells.length=sz then
     bnd (match n with | 0=>some .bot | _=>el sz z) fun z=>aDA sz (ps.toList.map fun p=>(p.1,opv st.fr false p.2)) (List.replicate n z) fun es=>g (.slice es [] true) else none
   | _,_=>none
  | _=>none
 | .load t p =>
  match szOf P t,agOf P t with
  | some n,some j =>
   match opd st.fr p with
   | .ptr d id off =>
    if 0<n/\(j=true∨n=1) then bnd (bD st.bx d id) fun cs=>match cs with
     | [.vec sz E]=>bnd (bIX sz E off n j) fun v=>K {cr:=[(d,id,0,1)],ws:=dstW nt o.dst v}
     | [.mpv _ _]=>none
     | cs=>bnd (part off n j cs) fun v =>
     match B with
     | true=>K {cr:=[(d,id,off,n)],cw:=[(d,id,off,dN j v)],ws:=dstW nt o.dst (aBg d v)}
     | false=>K {cr:=[(d,id,off,n)],ws:=dstW nt o.dst (aBg d v).plain} else none
   | .ref v=>bnd (aU7 n j v) fun v=>g v.plain
   | _=>none
  | _,_=>none
 | .store t p x =>
  match szOf P t,agOf P t with
  | some n,some j =>
   match opd st.fr p,o.dst with
   | .ptr d id off,none =>
    bnd (bD st.bx d id) fun cs=>bnd (sR n j (opv st.fr true x)) fun vs =>
     match cs with
     | [.vec sz E]=>if 0<n then bnd (vput sz E off vs) fun C=>K {cr:=[(d,id,0,1)],cw:=[(d,id,0,[.vec sz C])],ws:=left st.fr true x} else none
     | [.mpv _ _]=>none
     | cs=>cnd (vs.all (fits d)) (if off+n<=cs.length/\0<n then K {cw:=[(d,id,off,vP d vs)],ws:=left st.fr true x} else none) none
   | _,_=>none
  | _,_=>none
 | .nilCheck x =>
  match opd st.fr x with
  | .ptr d id off=>g (.ptr d id off)
  | .ref v=>g (.ref v)
  | .func (.func f) a b=>g (.func (.func f) a b)
  | _=>none
 | .binOp A t x y _=>yT P nt o A t (ρ x) (ρ y) K
 | .unOp A _ x=>bnd (un A (ρ x)) g
 | .convert s d x=>aHn P nt o s d (ρ x) K
 | .makeSlice t l c =>
  match P.underlying t with
  | some (.slice e) =>
   match P.info? e with
   | some i=>if 0<i.size/\i.bytes<=512/\aDz i=true then
     match bA1 mt o.dst with
     | some _=>bnd (bHf i (ρ l) (ρ c)) fun E=>sS nt o i.size E [] st K
     | none=>match l with
      | .const (.int .i64 0)=>bnd (mkSl i.size (ρ c)) g
      | _=>none
    else none
   | none=>none
  | _=>none
 | .makeMap t r =>
  match mapT P t,r,lB nt st o.dst with
  | some (kd,_),none,some id=>K {ws:=[(id,.mp 0 id)],nw:=[(id,[.mpv kd []])]}
  | _,_,_=>none
 | .lookup t m k c =>
  match mapT P t,opd st.fr m with
  | some (kd,z),.mp d id =>
   match bD st.bx d id with
   | some [.mpv u E]=>match Nat.beq kd u with
    | true=>bnd (aJ3 kd E (ρ k) z c) fun v=>K {cr:=[(d,id,0,1)],ws:=dstW nt o.dst v}
    | false=>none
   | _=>none
  | _,_=>none
 | .mapUpdate t m k v =>
  match mapT P t,opd st.fr m,o.dst with
  | some (kd,_),.mp d id,none =>
   match bD st.bx d id with
   | some [.mpv u E]=>match Nat.beq kd u with
    | true=>bnd (mput kd E (ρ k) (ρ v)) fun C=>K {cr:=[(d,id,0,1)],cw:=[(d,id,0,[.mpv kd C])]}
    | false=>none
   | _=>none
  | _,_,_=>none
 | .makeFunc D q w=>g (.func D (q.toList.map fun x=>(opd st.fr x).plain) (w.toList.map fun x=>(opd st.fr x).plain))
 | .slice t x l h m=>yS P nt o t x l h m st K
 | .fieldAddr s x f =>
  match P.underlying s with
  | some (.struct fs) =>
   match xH P fs f with
   | some (off,n,j)=>if 0<n then bnd (fad off n j (ρ x)) g else none
   | none=>none
  | _=>none
 | .field s x f =>
  match P.underlying s with
  | some (.struct fs) =>
   match xH P fs f with
   | some (off,n,j)=>bnd (fld off n j (ρ x)) fun v=>g v.plain
   | none=>none
  | _=>none
 | .indexAddr t x i =>
  match P.underlying t with
  | some (.slice e) =>
   match szOf P e with
   | some n=>bnd (ix n (ρ x) (ρ i)) g
   | none=>none
  | some (.array len e) =>
   match szOf P e with
   | some n=>if 0<n then bnd (bHb len n (ρ x) (ρ i)) g else none
   | none=>none
  | _=>none
 | .index t x i =>
  match P.underlying t with
  | some .string=>bnd (aU8 (ρ x) (ρ i)) g
  | some (.array len e) =>
   match szOf P e,agOf P e with
   | some n,some j=>bnd (bHc len n j (ρ x) (ρ i)) fun v=>g v.plain
   | _,_=>none
  | _=>none
 | .extract x i=>bnd (ext i (ρ x)) fun v=>g v.plain
 | .call c=>lW P mt nt O o c st K
 | _=>none
end op
end
open PV
noncomputable section
def gQ (b:Hints) (o:Oper):List Nat :=
 let a xs:List Nat:=xs.filterMap fun | .tmp t=>some t | _=>none
 match o.op with
 | .move x=>if hasO b.takes o.dst then a [x] else []
 | .assign x=>a [x]
 | .box _ x=>a [x]
 | .store _ _ x=>a [x]
 | .call c =>
  match c.callee with
  | .builtin .append=>match c.args.toList with
   | x::_=>a [x]
   | []=>[]
  | .value _=>if hasO b.takes o.dst then a c.args.toList else []
  | _=>[]
 | _=>[]
def aLT (a:Hints) (o:Oper):List Nat:=o.dst.toList++gQ a o
def aE4 (a:Array Oper):Nat->Oper->List Nat
 | 0,_=>[]
 | n+1,o =>
  match o.guard with
  | some (g,_)=>match a[g]? with
   | some q=>q.dst.toList++aE4 a n q
   | none=>[]
  | none=>[]
def aDB (a:Array Oper) (o:Oper):List Nat :=
 (o.op.operands.toList.filterMap fun | .tmp t=>some t | _=>none)++aE4 a (a.size+1) o
def disj (a b:List Nat):Bool:=a.all fun x => !has b x
def bA2 (b:Hints) (a:Array Oper) (x y:Oper):Bool :=
 disj (aLT b x) (aDB a y++aLT b y)&&disj (aLT b y) (aDB a x)
def vQ (bs:Array Nat) (i j:Nat):Bool:=(bs.getD j 0).testBit i
def aCc (c : Hints) (b : Array Oper) (bs : Array Nat) : Bool :=
 (List.range b.size).all fun j =>
  match b[j]? with
  | none => false
  | some y =>
   (y.after.all fun e => !Region.binds .any e || decide (e.on < j)) &&
   (match y.guard with
    | some (g, _) => decide (g < j) && vQ bs g j
    | none => true) &&
   (List.range j).all fun i =>
    match b[i]? with
    | none => false
    | some x => (!vQ bs i j || y.after.any fun e => Region.binds .any e && (e.on == i || (decide (i < e.on) && vQ bs i e.on))) && (vQ bs i j || bA2 c b x y)
structure Foot where
 rd:List (Nat×Nat×Nat×Nat)
 wr:List (Nat×Nat×Nat×Nat)
 nw:List Nat
def bI2 (a b:Nat×Nat×Nat×Nat):Bool :=
 a.1==b.1&&a.2.1==b.2.1&&decide (a.2.2.1<b.2.2.1+b.2.2.2)&&decide (b.2.2.1<a.2.2.1+a.2.2.2)
def aRY (a b:List (Nat×Nat×Nat×Nat)):Bool:=a.all fun x=>b.all fun y => !bI2 x y
def aXy (a:List Nat) (b:Foot):Bool:=a.all fun i => !has b.nw i&&b.rd.all (fun x => !(x.1==0&&x.2.1==i))&&b.wr.all fun x => !(x.1==0&&x.2.1==i)
def aOU (a b:Foot):Bool:=aRY a.wr b.wr&&aRY a.wr b.rd&&aRY a.rd b.wr&&aXy a.nw b&&aXy b.nw a
def Eff.foot (e:Eff):Foot:=⟨e.cr,e.cw.map fun c=>(c.1,c.2.1,c.2.2.1,c.2.2.2.length),e.nw.map (·.1)⟩
def wO (bs:Array Nat):List (Nat×Foot)->Bool
 | []=>true
 | (j,f)::l=>(l.all fun x=>vQ bs x.1 j||aOU x.2 f)&&wO bs l
def aVa (bs:Array Nat) (n i:Nat):Bool:=(List.range n).all fun k=>k==i||(if k<i then vQ bs k i else vQ bs i k)
section code
variable (P : Program) (mt : Hints) (nt : Nat) (O : Orc) (LP : aAv -> aAv) {R : Type}
def brB (v:PV) (k:Bool->Option R):Option R:=bnd (aDy v) fun b=>cnd b (k true) (k false)
def nX (a:Array Oper):Nat->Oper->St->(Bool->St->Option R)->Option R
 | 0,_,_,_=>none
 | n+1,o,st,K =>
  match o.guard with
  | none=>K true st
  | some (g,c) =>
   match a[g]? with
   | some q =>
    match q.dst with
    | some s=>nX a n q st fun d st =>
     match d with
     | true=>brB (gets st.fr s) fun b=>K (b==c) {st with fr:=(s,.bool b)::st.fr}
     | false=>match gets st.fr s with
      | .und=>K false st
      | _=>none
    | none=>none
   | none=>none
def qC (a:Array Oper):List Oper->St->(St->Option R)->Option R
 | [],st,K=>K st
 | o::c,st,K=>nX a (a.size+1) o st fun b st =>
  match b with
  | true=>aX P mt nt O o st fun e=>qC a c (e.app st) K
  | false=>qC a c {st with fr:=dstW nt o.dst .und++st.fr} K
def eF (a:Array Oper):Nat->List Oper->List (Nat×Foot)->St->(List (Nat×Foot)->St->Option R)->Option R
 | _,[],c,st,K=>K c st
 | i,o::d,c,st,K=>nX a (a.size+1) o st fun b st =>
  match b with
  | true=>aX P mt nt O o st fun e =>
   match e.up with
   | some _ =>
    match aVa (Region.before a) a.size i with
    | true=>eF a (i+1) d c (e.app st) K
    | false=>none
   | none=>eF a (i+1) d ((i,e.foot)::c) (e.app st) K
  | false=>eF a (i+1) d c {st with fr:=dstW nt o.dst .und++st.fr} K
def rE (bx:List gP):List (Nat×Nat) :=
 match bx with
 | b::_=>b.map fun x=>(x.1,x.2.length)
 | []=>[]
def flat (b:gP):List (Nat×Nat)->List PV
 | []=>[]
 | (i,n)::l=>(match look b i with
  | some cs=>(List.range n).map (gt cs)
  | none=>List.replicate n .bot)++flat b l
def aOV (s:List PV):Nat->List (Nat×Nat)->gP
 | _,[]=>[]
 | k,(i,n)::l=>(i,(List.range n).map fun j=>gt s (k+j))::aOV s (k+n) l
def qD (s:List PV):Nat->List Nat->List (Nat×PV)
 | _,[]=>[]
 | k,i::l=>(i,gt s k)::qD s (k+1) l
def uC (bx:List gP):gP :=
 match bx with
 | b::_=>b
 | []=>[]
def mQ (bx:List gP):List gP :=
 match bx with
 | _::r=>r
 | []=>[]
def tX (kp:List Nat) (sh:List (Nat×Nat)) (st:St):List PV:=kp.map (gets st.fr)++flat (uC st.bx) sh
def dV (kp:List Nat) (sh:List (Nat×Nat)) (s:List PV) (u:UP):St :=
 { fr:=qD s 0 kp,bx:=aOV s kp.length sh::u}
def insideN (c:List (Nat×Nat)):Nat->PV->Bool
 | n,v=>match v with
  | .ptr 0 id _=>c.any fun x=>x.1==id
  | .ptr (_+1) _ _=>true
  | .rsl 0 id _ _=>c.any fun x=>x.1==id
  | .rsl (_+1) _ _ _=>true
  | .mp 0 id=>c.any fun x=>x.1==id
  | .mp (_+1) _=>true
  | .mpv _ _=>true
  | .vec _ _=>true
  | .agg cs=>cs.all solid1
  | .func _ b d=>match n with
   | 0=>b.all solid&&d.all solid
   | n+1=>b.all (insideN c n)&&d.all (insideN c n)
  | .ref _=>true
  | .nilptr=>true
  | .nilFunc=>true
  | .bot=>true
  | v=>solid1 v
def inside (a:List (Nat×Nat)) (v:PV):Bool:=insideN a 3 v
def nY (sh:List (Nat×Nat)) (b:gP):Bool :=
 sh.all fun x=>match look b x.1 with
  | some cs=>cs.length==x.2
  | none=>false
def aP8 (id:Nat):PV->Bool
 | .ptr 0 i _=>i==id
 | .rsl 0 i _ _=>i==id
 | .mp 0 i=>i==id
 | .agg _=>true
 | .tuple _=>true
 | .func _ b c => !(b.all solid&&c.all solid)
 | _=>false
def ment (id:Nat):Nat->PV->Bool
 | n,v=>match v with
  | .agg cs=>cs.any (aP8 id)
  | .tuple cs=>cs.any fun _=>true
  | .func _ a b=>match n with
   | 0=>true
   | n+1=>a.any (ment id n)||b.any (ment id n)
  | v=>aP8 id v
def aGv (id:Nat) (v:PV):PV :=
 match ment id 3 v with
 | true => .bot
 | false=>v
def uD (bx:List gP) (id:Nat):List gP :=
 match bx with
 | b::r=>(b.filter fun x => !(x.1==id))::r
 | []=>[]
def aI0 {R} (t:Nat) (st:St) (K:St->Option R):Option R :=
 match gets st.fr t with
 | .rsl 0 id n sz =>
  match bD st.bx 0 id with
  | some [.vec b E] =>
   match Nat.beq sz b,(uC st.bx).all fun x=>x.1==id||x.2.all fun c => !ment id 3 c with
   | true,true=>cnd (Nat.ble n E.length) (K {fr:=(t,.slice (E.take n) [] false)::st.fr.map fun x=>(x.1,aGv id x.2),bx:=uD st.bx id}) none
   | _,_=>none
  | _=>none
 | .vec _ E=>K {fr:=(t,.slice E [] false)::(t,.bot)::st.fr,bx:=st.bx}
 | _=>K st
def aZh {R:Type} (t sz:Nat) (st:St) (K:St->Option R):Option R :=
 match gets st.fr t with
 | .slice [] [] true=>K {fr:=(t,.vec sz [])::st.fr,bx:=st.bx}
 | _=>K st
def aBi {R}:List Nat->St->(St->Option R)->Option R
 | [],st,K=>K st
 | t::l,st,K=>match t / 1048576 with
  | 0=>aI0 t st fun st=>aBi l st K
  | sz+1=>aZh (t % 1048576) (sz+1) st fun st=>aBi l st K
def aHo {R} (l:List (Nat×List Nat)) (i:Nat) (st:St) (K:St->Option R):Option R :=
 match look l i with
 | some l=>aBi l st K
 | none=>K st
def pack (kp:List Nat) (sh:List (Nat×Nat)) (st:St) (K:List PV->UP->Option R):Option R :=
 match nY sh (uC st.bx),(uC st.bx).all fun x=>sh.any fun y=>y.1==x.1 with
 | true,true=>K (tX kp sh st) (mQ st.bx)
 | true,false=>cnd ((tX kp sh st).all (inside sh)) (K (tX kp sh st) (mQ st.bx)) none
 | false,_=>none
def kK:Code->Nat
 | .region i _ _=>i
 | .seq a _=>kK a
 | .block _ b=>kK b
 | .loop b=>kK b
 | .scope b=>kK b
 | _=>0
def aBB (mt:Hints) (c:Code):List Nat :=
 match look mt.keeps (kK c) with
 | some l=>l
 | none=>[]
def rG:Code->List (Option Nat)
 | .exit i=>[some i]
 | .ret=>[none]
 | .seq a b=>rG a++(rG b).filter fun x => !(rG a).any (· == x)
 | .cond _ a b=>rG a++(rG b).filter fun x => !(rG a).any (· == x)
 | .block id b=>(rG b).filter fun x => !(x==some id)
 | .scope b=>rG b
 | .loop b=>rG b
 | _=>[]
def exIs {R:Type} (e:Ex) (w:Option Nat) (x y:Option R):Option R :=
 match e,w with
 | .brk i,some j=>if i=j then x else y
 | .ret,none=>x
 | _,_=>y
def exOf:Option Nat->Ex
 | some i => .brk i
 | none => .ret
def yU {R} (e:Ex) (K:Ex->Option R):List (Option Nat)->Option R
 | []=>none
 | w::l=>exIs e w (K (exOf w)) (yU e K l)
def aDC (c:Operand) (b:Bool) (st:St):St :=
 match c with
 | .tmp t=>{st with fr:=(t,.bool b)::st.fr}
 | _=>st
def bC {R}:Code->St->(Ex->St->Option R)->Option R
 | .skip,st,K=>K .nrm st
 | .label _,st,K=>K .nrm st
 | .region g d f,st,K=>aHo mt.frz g st fun st =>
  match f with
  | false=>qC P mt nt O d d.toList st (K .nrm)
  | true =>
   match aCc mt d (Region.before d) with
   | true=>eF P mt nt O d 0 d.toList [] st fun j st =>
    match wO (Region.before d) j with
    | true=>K .nrm st
    | false=>none
   | false=>none
 | .seq a b,st,K=>bC a st fun e st =>
  match e with
  | .nrm=>bC b st K
  | .brk i=>K (.brk i) st
  | .ret=>K .ret st
 | .cond c a b,st,K=>brB (opd st.fr c) fun t =>
  match t with
  | true=>bC a (aDC c true st) K
  | false=>bC b (aDC c false st) K
 | .block id b,st,K=>bC b st fun e st =>
  match e with
  | .nrm=>K .nrm st
  | .brk i=>if i=id then K .nrm st else K (.brk i) st
  | .ret=>K .ret st
 | .scope b,st,K=>bC b st K
 | .exit id,st,K=>K (.brk id) st
 | .ret,st,K=>K .ret st
 | .loop b,st,K=>aHo mt.frl (kK b) st fun st =>
  pack (aBB mt b) (rE st.bx) st fun s u =>
   bnd (LP (fun s u=>bC b (dV (aBB mt b) (rE st.bx) s u) fun e h=>pack (aBB mt b) (rE st.bx) h fun s u=>some (e,s,u)) s u) fun r =>
    yU r.1 (fun e=>K e (dV (aBB mt b) (rE st.bx) r.2.1 r.2.2)) (rG b)
 | _,_,_=>none
def aJ4 (b:Bool) (st:St) (r:ResultVar) (K:PV->Option R):Option R :=
 match r with
 | .tmp t=>K (match b with | true=>gets st.fr t | false=>(gets st.fr t).plain)
 | .cell a t =>
  match szOf P t,agOf P t with
  | some n,some c =>
   match gets st.fr a with
   | .ptr d id off=>if 0<n/\(c=true∨n=1) then bnd (bD st.bx d id) fun cs=>cnd (nW cs) none (bnd (part off n c cs) fun v=>K (match b,d with | true,0=>v | _,_=>(aBg d v).plain)) else none
   | _=>none
  | _,_=>none
def aRZ (st:St):List ResultVar->(List PV->Option R)->Option R
 | [],K=>K []
 | r::l,K=>aJ4 P false st r fun v=>aRZ st l fun vs=>K (v::vs)
def aLU (c:Func) (a:Bool) (st:St):Option (PV×UP) :=
 match c.results.toList with
 | [r]=>aJ4 P a st r fun v=>bnd (aBh v) fun v=>some (v,mQ st.bx)
 | b=>aRZ P st b fun vs=>bnd (aAx vs) fun vs=>some ((PV.tuple vs).plain,mQ st.bx)
def xI (args:List PV) (a:UP):St:={fr:=qD args 0 (List.range args.length),bx:=[]::a}
def uY (a:Func) (args:List PV) (b:UP):Option (PV×UP) :=
 match a.body with
 | some c=>if args.length<=nt then bC P mt nt O LP c (xI args b) fun e st =>
   match e with
   | .brk _=>none
   | .nrm=>aLU P a mt.own st
   | .ret=>aLU P a mt.own st
  else none
 | none=>none
end code
def aBj:Nat->aAv->aAv
 | 0,_,_,_=>none
 | n+1,body,s,u=>bnd (body s u) fun r =>
  match r.1 with
  | .nrm=>aBj n body r.2.1 r.2.2
  | e=>some (e,r.2.1,r.2.2)
end
open PV
abbrev Mem:=Nat->Nat->Option Value
abbrev BM:=Nat->Nat->Option Nat
structure Base where
 n:Nat
 g:Mem
instance:Coe Base Nat:=⟨Base.n⟩
def Glob (base:Base) (M:Mem):Prop:=∀ b i v,base.g b i=some v->M b i=some v
theorem Glob.mono {base M M'} (h:Glob base M) (a:∀ b i v,M b i=some v->M' b i=some v):Glob base M':=fun b i v hv=>a b i v (h b i v hv)
theorem jU {α}:∀ (l:List α) i,nth l i=l[i]?
 | [],_=>by simp [nth]
 | _::_,0=>by simp [nth]
 | _::l,i+1=>by simp [nth,jU l i]
theorem aHp l i:gt l i=(l[i]?).getD .bot:=by
 unfold gt;rw [jU];grind
theorem lC {α}:∀ (l:List α) i v,putNth l i v=l.set i v
 | [],_,_=>by simp [putNth]
 | _::_,0,_=>by simp [putNth]
 | _::l,i+1,v=>by simp [putNth,lC l i v]
theorem eM {α}:∀ (vs:List α) l i,(putAt l i vs).length=l.length
 | [],_,_=>rfl
 | v::vs,l,i=>by simp [putAt,eM vs,lC]
theorem iX {α}:∀ (vs:List α) l i j,i+vs.length<=l.length ->
  (putAt l i vs)[j]?=if i<=j/\j<i+vs.length then vs[j-i]? else l[j]?
 | [],l,i,j,_=>by simp [putAt];omega
 | v::vs,l,i,j,h=>by
  simp [putAt,lC];rw [iX vs _ _ _ (by grind)];grind
theorem nZ {α} (l:List (Nat×α)) i j v:look ((i,v)::l) j=if i=j then some v else look l j:=rfl
theorem gL l i j v:gets ((i,v)::l) j=if i=j then v else gets l j:=by
 by_cases h:i=j<;>simp [gets,look,h]
def okEl (s:Nat) (e:PV):Prop:=e.solid=true/\e.plain=e/\e.cells.length=s/\0<s
inductive Rv (M:Mem) (B:BM):PV->Value->Prop
 | bot (v:Value):Rv M B .bot v
 | und:Rv M B .und undef
 | bool (b:Bool):Rv M B (.bool b) (.bool b)
 | int (k:IntKind) (n:Int):Rv M B (.int k n) (.int k n)
 | str (s:List UInt8):Rv M B (.str s) (.string ⟨s.toArray⟩)
 | agg (cs:List PV) (vs:Array Value) (f:Nat->Value) (hl:vs.size=cs.length) (hf:∀ i,i<cs.length->vs[i]?=some (f i))
   (hr:∀ i c,cs[i]?=some c->Rv M B c (f i)):Rv M B (.agg cs) (.agg vs)
 | tuple (cs:List PV) (vs:Array Value) (f:Nat->Value) (hl:vs.size=cs.length) (hf:∀ i,i<cs.length->vs[i]?=some (f i))
   (hr:∀ i c,cs[i]?=some c->Rv M B c (f i)):Rv M B (.tuple cs) (.tuple vs)
 | nil (o:Bool):Rv M B (.slice [] [] o) (.slice none 0 0)
 | slice (es bs:List PV) (o:Bool) (a:Addr) (cap s:Nat) (f:Nat->Nat->Value) (ha:0<cap->a.spot=none) (hc:es.length+bs.length<=cap)
   (ho:o=true->(es=[]->cap=0)/\bs=[]/\(es≠[]->a.off=0)) (hel:∀ (i:Nat) (e:PV),(es++bs)[i]?=some e->okEl s e)
   (hm:∀ (i:Nat) (e:PV) (j:Nat),(es++bs)[i]?=some e->j<s->M a.block (a.off+i*s+j)=some (f i j))
   (hr:∀ (i:Nat) (e:PV) (j:Nat) (c:PV),(es++bs)[i]?=some e->e.cells[j]?=some c->Rv M B c (f i j)):Rv M B (.slice es bs o) (.slice (some a) es.length cap)
 | mk0 (sz:Nat) (a:Addr) (cap:Nat) (ha:a.spot=none/\a.off=0):Rv M B (.mk0 sz) (.slice (some a) 0 cap)
 | ref (e:PV) (a:Addr) (s:Nat) (f:Nat->Value) (ha:a.spot=none) (hel:okEl s e) (hm:∀ j,j<s->M a.block (a.off+j)=some (f j))
   (hr:∀ j c,e.cells[j]?=some c->Rv M B c (f j)):Rv M B (.ref e) (.pointer (some a))
 | ptr (d id off b:Nat) (hb:B d id=some b):Rv M B (.ptr d id off) (.pointer (some ⟨b,off,none⟩))
 | nilptr:Rv M B .nilptr (.pointer none)
 | rsl (d id n sz b cap:Nat) (hb:B d id=some b) (hc:n<=cap):Rv M B (.rsl d id n sz) (.slice (some ⟨b,0,none⟩) n cap)
 | mp (d id b:Nat) (hb:B d id=some b):Rv M B (.mp d id) (.map (some b))
 | rslNil (d id sz:Nat) (oa:Option Addr):Rv M B (.rsl d id 0 sz) (.slice oa 0 0)
 | func (fn:Fn) (first caps:List PV) (vf vc:Array Value) (f g:Nat->Value) (hp:∀ c,c∈first++caps->c.plain=c)
   (hl:vf.size=first.length) (hf:∀ i,i<first.length->vf[i]?=some (f i)) (hrf:∀ i c,first[i]?=some c->Rv M B c (f i))
   (hl':vc.size=caps.length) (hg:∀ i,i<caps.length->vc[i]?=some (g i)) (hrg:∀ i c,caps[i]?=some c->Rv M B c (g i)) :
   Rv M B (.func fn first caps) (.func fn vf vc)
 | nilFunc:Rv M B .nilFunc .nilFunc
 | vec (sz:Nat) (E:List PV) (b cap:Nat) (hne:E≠[]) (hc:E.length<=cap) (h0:0<sz) (hE:∀ e∈E,okVe sz e=true) (hm:cap<=9223372036854775807):Rv M B (.vec sz E) (.slice (some ⟨b,0,none⟩) E.length cap)
 | vecNil (sz:Nat) (oa:Option Addr):Rv M B (.vec sz []) (.slice oa 0 0)
theorem Rv.mono {M M' B B'} (Q:∀ b i v,M b i=some v->M' b i=some v) (O:∀ d id b,B d id=some b->B' d id=some b)
  {p v} (h:Rv M B p v):Rv M' B' p v:=by
 induction h with
 | bot v=>exact .bot v
 | und=>exact .und
 | bool b=>exact .bool b
 | int k n=>exact .int k n
 | str s=>exact .str s
 | agg cs vs f r t _ c=>exact .agg cs vs f r t c
 | tuple cs vs f r t _ c=>exact .tuple cs vs f r t c
 | nil o=>exact .nil o
 | slice es bs o a cap s f w u G l C _ c=>exact .slice es bs o a cap s f w u G l (fun i e j R S=>by grind) c
 | mk0 sz a cap w=>exact .mk0 sz a cap w
 | ref e a s f w l C _ c=>exact .ref e a s f w l (fun j P=>by grind) c
 | ptr d id off b D=>exact .ptr d id off b (by grind)
 | rsl d id n sz b cap D u=>exact .rsl d id n sz b cap (by grind) u
 | rslNil d id sz A=>exact .rslNil d id sz A
 | mp d id b D=>exact .mp d id b (by grind)
 | nilptr=>exact .nilptr
 | func F m q J L f g N r t _ y I _ c z=>exact .func F m q J L f g N r t c y I z
 | vec sz E b cap x u H K C=>exact .vec sz E b cap x u H K C
 | vecNil sz A=>exact .vecNil sz A
 | nilFunc=>exact .nilFunc
theorem okEl.cell {s e} (h:okEl s e) {j:Nat} {c} (a:e.cells[j]?=some c):c.solid1=true:=by
 obtain ⟨b,_,_,_⟩:=h;cases e with
 | agg cs =>
  simp [PV.solid] at b;exact b c (aad (by simpa [cells] using a))
 | _ =>
  simp [PV.cells] at a;obtain rfl:j=0:=by
   cases j with
   | zero=>rfl
   | succ j=>simp at a
  simp at a;subst a;simpa [PV.solid] using b
theorem Rv.anyB1 {M B} B' {p v} (h:Rv M B p v):p.solid1=true->Rv M B' p v:=by
 induction h with
 | bool b=>intro _;exact .bool b
 | int k n=>intro _;exact .int k n
 | str s=>intro _;exact .str s
 | nil o=>intro _;exact .nil o
 | slice es bs o a cap s f g q t d u _ r=>intro _;exact .slice es bs o a cap s f g q t d u (fun i e j c m l=>r i e j c m l ((d i e m).cell l))
 | mk0 sz a cap g=>intro _;exact .mk0 sz a cap g
 | _=>intro h;simp [PV.solid1] at h
theorem Rv.anyB {M B} B' {p v} (h:Rv M B p v) (d:p.solid=true):Rv M B' p v:=by
 cases h with
 | agg cs vs f q m e =>
  simp [PV.solid] at d;exact .agg cs vs f q m fun i c g=>(e i c g).anyB1 B' (by grind)
 | bot v=>simp [PV.solid,PV.solid1] at d
 | und=>simp [PV.solid,PV.solid1] at d
 | bool b=>exact .bool b
 | int k n=>exact .int k n
 | str s=>exact .str s
 | tuple=>simp [PV.solid,PV.solid1] at d
 | nil o=>exact .nil o
 | slice es bs o a cap s f j g t l r e=>exact (Rv.slice es bs o a cap s f j g t l r e).anyB1 B' rfl
 | mk0 sz a cap j=>exact .mk0 sz a cap j
 | ref=>simp [PV.solid,PV.solid1] at d
 | ptr=>simp [PV.solid,PV.solid1] at d
 | rsl=>simp [PV.solid,PV.solid1] at d
 | rslNil=>simp [PV.solid,PV.solid1] at d
 | mp=>simp [PV.solid,PV.solid1] at d
 | nilptr=>simp [PV.solid,PV.solid1] at d
 | func=>simp [PV.solid,PV.solid1] at d
 | vec=>simp [PV.solid,PV.solid1] at d
 | vecNil=>simp [PV.solid,PV.solid1] at d
 | nilFunc=>simp [PV.solid,PV.solid1] at d
theorem Rv.anyBfree {M B} B' {p v} (h:Rv M B p v) (d:p.free=true):Rv M B' p v:=by
 cases h with
 | func D j l I J f g L r w z q G u =>
  simp [PV.free,aa0,aak] at d;exact .func D j l I J f g L r w (fun i c e=>(z i c e).anyB B' (by grind)) q G (fun i c e=>(u i c e).anyB B' (by grind))
 | vec sz E b cap m e F K A=>exact .vec sz E b cap m e F K A
 | vecNil sz H=>exact .vecNil sz H
 | nilFunc=>exact .nilFunc
 | bot v=>simp [PV.free,PV.solid,PV.solid1] at d
 | und=>simp [PV.free,PV.solid,PV.solid1] at d
 | bool b=>exact .bool b
 | int k n=>exact .int k n
 | str s=>exact .str s
 | agg cs vs f r w t=>exact (Rv.agg cs vs f r w t).anyB B' (by simpa [PV.free] using d)
 | tuple=>simp [PV.free,PV.solid,PV.solid1] at d
 | nil o=>exact .nil o
 | slice es bs o a cap s f x e C y A t=>exact (Rv.slice es bs o a cap s f x e C y A t).anyB B' rfl
 | mk0 sz a cap x=>exact .mk0 sz a cap x
 | ref=>simp [PV.free,PV.solid,PV.solid1] at d
 | ptr=>simp [PV.free,PV.solid,PV.solid1] at d
 | rsl=>simp [PV.free,PV.solid,PV.solid1] at d
 | rslNil=>simp [PV.free,PV.solid,PV.solid1] at d
 | mp=>simp [PV.free,PV.solid,PV.solid1] at d
 | nilptr=>simp [PV.free,PV.solid,PV.solid1] at d
theorem Rv.plain1 {M B p v} (h:Rv M B p v):Rv M B p.plain1 v:=by
 cases h with
 | slice es bs o a cap s f t z I c A l =>
  refine .slice es [] false a cap s f t (by grind) (by simp) ?_ ?_ ?_;· intro i e J;exact c i e (by grind)
  all_goals grind
 | mk0 sz a cap t =>
  exact .slice [] [] false a cap 1 (fun _ _=>undef) (fun _=>t.1) (by simp) (by simp) (by simp) (by simp) (by simp)
 | nil o=>exact .nil false
 | agg cs vs f q r l=>exact .agg cs vs f q r l
 | tuple cs vs f q r l=>exact .tuple cs vs f q r l
 | bot v=>exact .bot v
 | und=>exact .und
 | bool b=>exact .bool b
 | int k n=>exact .int k n
 | str s=>exact .str s
 | ref e a s f t c A l=>exact .ref e a s f t c A l
 | ptr d id off b u=>exact .ptr d id off b u
 | rsl d id n sz b cap u z=>exact .rsl d id n sz b cap u z
 | rslNil d id sz E=>exact .rslNil d id sz E
 | mp d id b u=>exact .mp d id b u
 | nilptr=>exact .nilptr
 | func C j m F G f g H q r y w D x=>exact .func C j m F G f g H q r y w D x
 | vec=>exact .bot _
 | vecNil=>exact .bot _
 | nilFunc=>exact .nilFunc
theorem Rv.plainA {M B p v} (h:Rv M B p v):Rv M B p.plainA v:=by
 cases h with
 | agg cs vs f w x j =>
  refine .agg _ vs f (by grind) (by grind) ?_;intro i c q;simp at q;obtain ⟨D,G,rfl⟩:=q;exact (j i D G).plain1
 | slice es bs o a cap s f t q E l C j=>exact (Rv.slice es bs o a cap s f t q E l C j).plain1
 | mk0 sz a cap t=>exact (Rv.mk0 sz a cap t).plain1
 | nil o=>exact (Rv.nil o).plain1
 | tuple cs vs f w x j=>exact (Rv.tuple cs vs f w x j).plain1
 | bot v=>exact .bot v
 | und=>exact .und
 | bool b=>exact .bool b
 | int k n=>exact .int k n
 | str s=>exact .str s
 | ref e a s f t l C j=>exact .ref e a s f t l C j
 | ptr d id off b u=>exact .ptr d id off b u
 | rsl d id n sz b cap u q=>exact .rsl d id n sz b cap u q
 | rslNil d id sz I=>exact .rslNil d id sz I
 | mp d id b u=>exact .mp d id b u
 | nilptr=>exact .nilptr
 | func F m r J K f g L w x A y H z=>exact .func F m r J K f g L w x A y H z
 | vec=>exact .bot _
 | vecNil=>exact .bot _
 | nilFunc=>exact .nilFunc
theorem Rv.plain {M B p v} (h:Rv M B p v):Rv M B p.plain v:=by
 cases h with
 | tuple cs vs f w x j =>
  refine .tuple _ vs f (by grind) (by grind) ?_;intro i c q;simp at q;obtain ⟨D,G,rfl⟩:=q;exact (j i D G).plainA
 | agg cs vs f w x j=>exact (Rv.agg cs vs f w x j).plainA
 | slice es bs o a cap s f t q E l C j=>exact (Rv.slice es bs o a cap s f t q E l C j).plainA
 | mk0 sz a cap t=>exact (Rv.mk0 sz a cap t).plainA
 | nil o=>exact (Rv.nil o).plainA
 | bot v=>exact .bot v
 | und=>exact .und
 | bool b=>exact .bool b
 | int k n=>exact .int k n
 | str s=>exact .str s
 | ref e a s f t l C j=>exact .ref e a s f t l C j
 | ptr d id off b u=>exact .ptr d id off b u
 | rsl d id n sz b cap u q=>exact .rsl d id n sz b cap u q
 | rslNil d id sz I=>exact .rslNil d id sz I
 | mp d id b u=>exact .mp d id b u
 | nilptr=>exact .nilptr
 | func F m r J K f g L w x A y H z=>exact .func F m r J K f g L w x A y H z
 | vec=>exact .bot _
 | vecNil=>exact .bot _
 | nilFunc=>exact .nilFunc
theorem aCd (p:PV):p.plain1.plain1=p.plain1:=by cases p<;>rfl
theorem aVb (p:PV):p.plainA.plainA=p.plainA:=by
 cases p with
 | agg cs=>simp [PV.plainA,aCd]
 | _=>simp [PV.plainA,PV.plain1]
theorem aOW (p:PV):p.plain.plain=p.plain:=by
 cases p with
 | tuple vs=>simp [PV.plain,aVb]
 | agg cs=>simp [PV.plain,PV.plainA,aCd]
 | _=>simp [PV.plain,PV.plainA,PV.plain1]
theorem Rv.ofAtom {M B} v:Rv M B (ofAtom v) v:=by
 unfold Ev.ofAtom;split<;>first
  | exact .bool _
  | exact .int _ _
  | exact .str _
  | exact .nil _
  | exact .nilptr
  | exact .nilFunc
  | exact .bot _
theorem Rv.ofValue {M B} v:Rv M B (ofValue v) v:=by
 unfold Ev.ofValue;split;· rename_i cs;refine .agg _ cs (fun i=>cs.getD i undef) (by simp) (by simp_all) ?_;intro i c a;simp at a;obtain ⟨v0,b,rfl⟩:=a;simp [b,Rv.ofAtom]
 exact .ofAtom _
def dA:Nat->(Nat->Nat)->Nat
 | 0,_=>0
 | n+1,f=>dA n f+f n
theorem gW {f g}:∀ n,(∀ i,i<n->f i=g i)->dA n f=dA n g
 | 0,_=>rfl
 | n+1,h=>by simp [dA];rw [gW n (fun i a=>h i (by omega)),h n (by omega)]
theorem aHq {f g}:∀ n,(∀ i,i<n->f i<=g i)->dA n f<=dA n g
 | 0,_=>aa1 _
 | n+1,h=>by simp [dA];have:=aHq n (fun i a=>h i (by omega));grind
theorem aHr {f g k}:∀ n,k<n->(∀ i,i<n->i≠k->f i=g i)->dA n f+g k=dA n g+f k
 | 0,c,_=>by omega
 | n+1,c,h=>by
  simp [dA];by_cases e:k=n;· subst e;rw [gW k (fun i b=>h i (by omega) (by omega))];omega
  have:=aHr n (by omega) (fun i b a=>h i (by omega) a);grind
theorem aHs {f k}:∀ n,k<n->f k<=dA n f
 | 0,a=>by omega
 | n+1,a=>by
  simp [dA];by_cases e:k=n;· grind
  have:=aHs (f:=f) n (by omega:k<n);omega
def sumL {α:Type} (f:α->Nat):List α->Nat
 | []=>0
 | a::l=>f a+sumL f l
theorem aLV {α} (f:α->Nat):∀ l m,sumL f (l++m)=sumL f l+sumL f m
 | [],m=>by simp [sumL]
 | a::l,m=>by simp [sumL,aLV f l m];omega
theorem aDD {α} {f:α->Nat}:∀ l,(∀ a∈l,f a=0)->sumL f l=0
 | [],_=>rfl
 | a::l,h=>by simp [sumL,h a (by simp),aDD l (fun x b=>h x (by grind))]
theorem aI1 {α} {f:α->Nat} {a}:∀ l,a∈l->f a<=sumL f l
 | [],h=>by grind
 | x::l,h=>by
  simp [sumL];rcases aa3.1 h with rfl | h;· omega
  have:=aI1 (f:=f) l h;omega
def fS (g:Nat->List PV->Nat):gP->Nat
 | []=>0
 | (id,cs)::l=>g id cs+fS g l
def jL (g:Nat->Nat->List PV->Nat):Nat->List gP->Nat
 | _,[]=>0
 | d,f::r=>fS (g d) f+jL g (d+1) r
theorem aJ5 g:∀ a b,fS g (a++b)=fS g a+fS g b
 | [],b=>by simp [fS]
 | (i,c)::a,b=>by simp [fS,aJ5 g a b];omega
theorem nN {α} {v:α} {i}:∀ {l},look l i=some v->(i,v)∈l
 | [],h=>by simp [look] at h
 | (j,u)::l,h=>by
  simp [look] at h;split at h;· grind
  exact List.mem_cons_of_mem _ (nN h)
theorem kL {α} {v:α} {i}:∀ {l},(l.map (·.1)).Nodup->(i,v)∈l->look l i=some v
 | [],_,h=>by grind
 | (j,u)::l,a,h=>by
  simp at a;simp [look];rcases aa3.1 h with e | h;· grind
  rw [if_neg (by grind)];exact kL a.2 h
theorem aDE {α} {i}:∀ {l:List (Nat×α)},look l i=none↔i∉l.map (·.1)
 | []=>by simp [look]
 | (j,u)::l=>by
  simp [look];split;· grind
  rw [aDE (l:=l)];grind
theorem gX {g g'}:∀ f,(∀ id cs,(id,cs)∈f->g id cs=g' id cs)->fS g f=fS g' f
 | [],_=>rfl
 | (i,c)::f,h=>by simp [fS];rw [h i c (by simp),gX f (fun id cs a=>h id cs (by grind))]
theorem aR0 {g g' id cs cs'}:∀ (f:gP),(f.map (·.1)).Nodup->look f id=some cs ->
  (∀ i c,(i,c)∈f->i≠id->g' i c=g i c)->fS g' (sP f id cs')+g id cs=fS g f+g' id cs'
 | [],_,h,_=>by simp [look] at h
 | (i,c)::f,b,a,m=>by
  simp at b;simp [look] at a;simp [sP];by_cases e:i=id;· subst e;simp at a;subst a;simp [fS];rw [gX f (g:=g') (g':=g) (fun j d l=>by grind)];omega
  simp [if_neg e,fS];simp [if_neg e] at a;have:=aR0 (g:=g) (g':=g') (cs':=cs') f b.2 a (fun j d l k=>by grind);grind
theorem aDF {g id cs}:∀ f,(id,cs)∈f->g id cs<=fS g f
 | [],h=>by grind
 | (i,c)::f,h=>by
  simp [fS];rcases aa3.1 h with e | h;· grind
  have:=aDF (g:=g) f h;omega
def own1:PV->Value->Option Nat
 | .slice (_::_) _ true,.slice (some a) _ _=>some a.block
 | .mk0 _,.slice (some a) _ _=>some a.block
 | .vec _ (_::_),.slice (some a) _ _=>some a.block
 | _,_=>none
def cP (w:World) (blk j:Nat):Value:=(w.cell? ⟨blk,j,none⟩).getD undef
def c1 (p:PV) (v:Value) (b:Nat):Nat:=if own1 p v=some b then 1 else 0
structure HOk (M:Mem) (w:World) (base:Base) (B:BM) (b lo hi:Nat):Prop where
 old:base<=b
 nobox:∀ d id,B d id≠some b
 row:∃ arr T fz,w.heap[b]?=some (.cells arr T fz)/\hi<=arr.size/\∀ i,i<hi->¬ (fz.1<=i/\i<fz.2)
 free:∀ i,lo<=i->M b i=none
def h1 (M:Mem) (w:World) (base:Base) (B:BM):PV->Value->Prop
 | .slice (e::_) _ true,.slice (some a) len cap=>HOk M w base B a.block (a.off+len*e.cells.length) (a.off+cap*e.cells.length)
 | .mk0 sz,.slice (some a) _ cap=>HOk M w base B a.block a.off (a.off+cap*sz)
 | .vec sz (e::E),.slice (some a) _ cap=>HOk M w base B a.block 0 (cap*sz)/\∀ j c,((e::E).flatMap cells)[j]?=some c->Rv M (fun _ _=>none) c (cP w a.block j)
 | _,_=>True
theorem yL {M w base B p v} (h:own1 p v=none):h1 M w base B p v:=by
 unfold h1;unfold own1 at h;grind
def zipA (p:PV) (v:Value):List (PV×Value) :=
 match p,v with
 | .agg cs,.agg vs=>cs.zip vs.toList
 | p,v=>[(p,v)]
def atoms (p:PV) (v:Value):List (PV×Value) :=
 match p,v with
 | .tuple ps,.tuple vs=>(ps.zip vs.toList).flatMap fun x=>zipA x.1 x.2
 | p,v=>zipA p v
def cV (p:PV) (v:Value) (b:Nat):Nat:=sumL (fun x=>c1 x.1 x.2 b) (atoms p v)
def hV (M:Mem) (w:World) (base:Base) (B:BM) (p:PV) (v:Value):Prop:=∀ x∈atoms p v,h1 M w base B x.1 x.2
def fD (p:PV) (v:Value):Prop:=∀ x∈atoms p v,own1 x.1 x.2=none
theorem fD.c {p v} (h:fD p v) b:cV p v b=0:=aDD _ fun x a=>by simp [c1,h x a]
theorem fD.h {p v} (h:fD p v) M w base B:hV M w base B p v:=fun x a=>yL (h x a)
theorem aGw (p:PV) v:own1 p.plain1 v=none:=by cases p<;>cases v<;>simp [PV.plain1,own1]
theorem wP es bs v:own1 (.slice es bs false) v=none:=by cases es<;>cases v<;>simp [own1]
theorem aAz cs v:own1 (.agg cs) v=none:=by cases v<;>rfl
theorem aOX cs v:own1 (.tuple cs) v=none:=by cases v<;>rfl
theorem eQ (p:PV) v:∀ x∈zipA p.plainA v,own1 x.1 x.2=none:=by
 intro x a;cases p with
 | agg cs =>
  cases v with
  | agg vs =>
   obtain ⟨c,b⟩:∃ c,c∈cs/\x.1=c.plain1:=by
    have:=(List.of_mem_zip (show (x.1,x.2)∈_ from a)).1;grind
   rw [b.2];exact aGw _ _
  | _=>simp [zipA] at a;subst a;exact aAz _ _
 | tuple ps=>simp [PV.plainA,PV.plain1,zipA] at a;subst a;exact aOX _ _
 | _ =>
  simp [PV.plainA,PV.plain1,zipA] at a;subst a;first
   | exact wP _ _ _
   | (cases v<;>rfl)
theorem cU (p:PV) v:fD p.plain v:=by
 intro x g;cases p with
 | tuple ps =>
  cases v with
  | tuple vs =>
   simp only [PV.plain,atoms,aaE] at g;obtain ⟨y,hy,g⟩:=g;have:=(List.of_mem_zip (show (y.1,y.2)∈_ from hy)).1;simp at this;obtain ⟨c,_,e⟩:=this;rw [<- e] at g;exact eQ c y.2 x g
  | _ =>
   simp [PV.plain,atoms,zipA] at g;subst g;exact aOX _ _
 | agg cs=>exact eQ (.agg cs) v x g
 | slice es bs o=>exact eQ (.slice es bs o) v x g
 | mk0 sz=>exact eQ (.mk0 sz) v x g
 | bot=>exact eQ .bot v x g
 | und=>exact eQ .und v x g
 | bool b=>exact eQ (.bool b) v x g
 | int k n=>exact eQ (.int k n) v x g
 | str s=>exact eQ (.str s) v x g
 | ref e=>exact eQ (.ref e) v x g
 | ptr d i o=>exact eQ (.ptr d i o) v x g
 | nilptr=>exact eQ .nilptr v x g
 | rsl d i n z=>exact eQ (.rsl d i n z) v x g
 | vec z E=>exact eQ (.vec z E) v x g
 | mp d i=>exact eQ (.mp d i) v x g
 | mpv kd E=>exact eQ (.mpv kd E) v x g
 | func f a b=>exact eQ (.func f a b) v x g
 | nilFunc=>exact eQ .nilFunc v x g
theorem cD {p v} (h:p.plain=p):fD p v:=by rw [<- h];exact cU p v
theorem uE p:fD p undef:=by
 intro x a;cases p with
 | tuple ps=>simp [atoms,undef] at a
 | agg cs=>simp [atoms,undef,zipA] at a;subst a;exact aAz _ _
 | _=>simp [atoms,undef,zipA] at a;subst a;simp [own1]
def dX (w:World) (blk:Nat):Nat->List PV->Nat->Nat
 | _,[],_=>0
 | j,c::cs,b=>c1 c (cP w blk j) b+dX w blk (j+1) cs b
def cBox (w:World) (a:Option Nat) (cs:List PV) (b:Nat):Nat :=
 match a with
 | some blk=>dX w blk 0 (phys cs) b
 | none=>0
def cBx (w:World) (B:BM) (bx:List gP) (b:Nat):Nat:=jL (fun d id cs=>cBox w (B d id) cs b) 0 bx
def cF (fr:List (Nat×PV)) (a:Array Value) (b:Nat):Nat:=dA a.size fun i=>cV (gets fr i) (a.getD i undef) b
def upB (d:Nat) (B:BM):BM:=fun e id=>B (d+e) id
def Cons (M:Mem) (w:World):Prop:=∀ b i v,M b i=some v->∃ arr T fz,w.heap[b]?=some (.cells arr T fz)/\arr[i]?=some v
def keyV:PV->Value
 | .str s => .string ⟨s.toArray⟩
 | .agg [.int .i64 a,.int .i64 b] => .agg #[.int .i64 a,.int .i64 b]
 | _=>undef
def EntR (M:Mem) (kd:Nat) (e:PV) (m:MapEntry):Prop:=∃ k v,e = .tuple [k,v]/\aFJ kd k=true/\m.key=keyV k/\v.solid1=true/\v.plain1=v/\Rv M (fun _ _=>none) v m.val
def EntL (M:Mem) (kd:Nat) (E:List PV) (es:Array MapEntry):Prop:=E.length=es.size/\∀ (i:Nat) e m,E[i]?=some e->es[i]?=some m->EntR M kd e m
def aBk (M:Mem) (w:World) (blk:Nat) (cs:List PV):Prop :=
 match cs with
 | [.mpv kd E]=>∃ es b,w.heap[blk]?=some (.map es b)/\EntL M kd E es
 | cs=>∃ arr T fz,w.heap[blk]?=some (.cells arr T fz)/\(phys cs).length<=arr.size/\∀ i,i<(phys cs).length->¬ (fz.1<=i/\i<fz.2)
theorem EntL.mono {M M' kd E es} (h:EntL M kd E es) (f:∀ b i v,M b i=some v->M' b i=some v):EntL M' kd E es :=
 ⟨h.1,fun i e m c o=>by
  obtain ⟨k,v,l,j,a,g,n,d⟩:=h.2 i e m c o;exact ⟨k,v,l,j,a,g,n,d.mono f (fun _ _ _ h=>h)⟩⟩
theorem aBk.congr {M M' w w' blk cs} (h:aBk M w blk cs) (c:∀ b i v,M b i=some v->M' b i=some v) (e:w'.heap[blk]?=w.heap[blk]?):aBk M' w' blk cs:=by
 unfold aBk at h ⊢;split at h;· obtain ⟨es,a,f,d⟩:=h;exact ⟨es,a,by grind,d.mono c⟩
 grind
theorem aBk.ex {M w blk cs} (h:aBk M w blk cs):∃ o,w.heap[blk]?=some o:=by
 unfold aBk at h;grind
theorem aBk.cells {M w blk cs} (h:aBk M w blk cs) (a:xG cs=false):∃ arr T fz,w.heap[blk]?=some (.cells arr T fz)/\(phys cs).length<=arr.size/\∀ i,i<(phys cs).length->¬ (fz.1<=i/\i<fz.2):=by
 unfold aBk at h;split at h;· simp [xG] at a
 exact h
theorem aBk.of {M w blk cs} (a:xG cs=false) (h:∃ arr T fz,w.heap[blk]?=some (.cells arr T fz)/\(phys cs).length<=arr.size/\∀ i,i<(phys cs).length->¬ (fz.1<=i/\i<fz.2)):aBk M w blk cs:=by
 unfold aBk;split;· simp [xG] at a
 exact h
structure BoxOk (M:Mem) (w:World) (base:Base) (B:BM) (d blk:Nat) (cs:List PV):Prop where
 old:base<=blk
 row:aBk M w blk cs
 free:∀ i,M blk i=none
 rel:∀ (j:Nat) (c:PV),(phys cs)[j]?=some c->Rv M (upB d B) c (cP w blk j)/\h1 M w base B c (cP w blk j)/\fits 0 c=true
def okV:List PV->Prop
 | [.vec sz E]=>0<sz/\∀ e∈E,okVe sz e=true
 | _=>True
def bKo (B:BM) (d id:Nat) (cs:List PV):Prop:=B d id=none/\∃ sz,cs=[.vec sz []]
structure BRel (M:Mem) (w:World) (base:Base) (B:BM) (bx:List gP):Prop where
 nodup:∀ (d:Nat) (f:gP),bx[d]?=some f->(f.map (·.1)).Nodup
 dom:∀ d id,bD bx d id=none->B d id=none
 ok:∀ d id cs,bD bx d id=some cs->okV cs/\((∃ blk,B d id=some blk/\BoxOk M w base B d blk cs)∨bKo B d id cs)
 inj:∀ d id d' id' blk,B d id=some blk->B d' id'=some blk->d=d'/\id=id'
def tot (fr:List (Nat×PV)) (a:Array Value) (w:World) (B:BM) (bx:List gP) (b:Nat):Nat:=cF fr a b+cBx w B bx b
structure SR (base:Base) (M:Mem) (B:BM) (st:St) (tm:Array Value) (w:World):Prop where
 cons:Cons M w
 slot:∀ i,Rv M B (gets st.fr i) (tm.getD i undef)
 slotH:∀ i,hV M w base B (gets st.fr i) (tm.getD i undef)
 box:BRel M w base B st.bx
 one:∀ b,tot st.fr tm w B st.bx b<=1
 glob:Glob base M
 base:base<=w.heap.size
def touch (t:Nat->Nat) (B:BM) (b:Nat):Prop:=1<=t b∨∃ d id,B d id=some b
structure Evo (w:World) (M:Mem) (t:Nat->Nat) (B:BM) (w':World) (M':Mem) (t':Nat->Nat) (B':BM):Prop where
 os:w'.os=w.os
 tape:w'.tape=w.tape
 output:w'.output=w.output
 size:w.heap.size<=w'.heap.size
 mono:∀ b i v,M b i=some v->M' b i=some v
 keep:∀ b,b<w.heap.size->¬ touch t B b->w'.heap[b]?=w.heap[b]?/\∀ i,M' b i=M b i
 tle:∀ b,b<w.heap.size->t' b<=t b
 bxs:∀ d id b,B' d id=some b->b<w.heap.size->∃ d' id',B d' id'=some b
 outer:∀ d id,B' (d+1) id=B (d+1) id
theorem Evo.refl w M t B:Evo w M t B w M t B :=
 ⟨rfl,rfl,rfl,by omega,fun _ _ _ h=>h,fun _ _ _=>⟨rfl,fun _=>rfl⟩,fun _ _=>by omega,fun d id b h _=>⟨d,id,h⟩,fun _ _=>rfl⟩
theorem Evo.touch {w w' M M' t a B B'} (h:Evo w M t B w' M' a B') {b} (c:b<w.heap.size) (e:touch a B' b):touch t B b:=by
 rcases e with g | ⟨d,id,f⟩;· exact .inl (aa5 g (h.tle b c))
 exact .inr (h.bxs d id b f c)
theorem Evo.trans {w p o M n g t l c B e m} (h:Evo w M t B p n l e) (k:Evo p n l e o g c m):Evo w M t B o g c m where
 os:=k.os.trans h.os
 tape:=k.tape.trans h.tape
 output:=k.output.trans h.output
 size:=aa5 h.size k.size
 mono:=fun b i v hv=>k.mono b i v (h.mono b i v hv)
 keep:=fun b a j=>by
  obtain ⟨y,z⟩:=h.keep b a j;obtain ⟨x,A⟩:=k.keep b (by grind) (fun q=>j (h.touch a q));grind
 tle:=fun b a=>aa5 (k.tle b (aaF a h.size)) (h.tle b a)
 bxs:=fun d id b a f=>by
  obtain ⟨r,s,u⟩:=k.bxs d id b a (aaF f h.size);exact h.bxs r s b u f
 outer:=fun d id=>(k.outer d id).trans (h.outer d id)
def putT (a:Array Value) (dst:Option Nat) (v:Value):Array Value :=
 match dst with
 | some d=>a.setIfInBounds d v
 | none=>a
theorem aXz (a:Act) (dst:Option Nat) v:(a.put dst v).tmps=putT a.tmps dst v:=by cases dst<;>rfl
theorem aOY (a:Act) (dst:Option Nat) v:(a.put dst v).defers=a.defers:=by cases dst<;>rfl
theorem iH a dst v:(putT a dst v).size=a.size:=by cases dst<;>simp [putT]
theorem bEc l m i:gets (l++m) i=match look l i with | some v=>v | none=>gets m i:=by
 induction l with
 | nil=>rfl
 | cons x l a =>
  rw [aaj,gL,nZ,a];grind
theorem aLW a dst p fr i :
  gets (dstW a dst p++fr) i=if dst=some i/\i<a then p else gets fr i:=by
 unfold dstW;cases dst with
 | none=>simp
 | some d =>
  by_cases h:d<a;· simp [h,gL];grind
  grind
theorem aP9 a dst v i :
  (putT a dst v).getD i undef=if dst=some i/\i<a.size then v else a.getD i undef:=by
 unfold putT;cases dst with
 | none=>simp
 | some d =>
  simp;grind
section
variable {base : Base} {M : Mem} {B : BM} {st : St} {tm : Array Value} {w : World}
theorem SR.world (h:SR base M B st tm w) {M' w'} (Y:Cons M' w') (N:∀ b i v,M b i=some v->M' b i=some v)
  (hb:∀ d id b,B d id=some b->w'.heap[b]?=w.heap[b]?/\∀ i,M' b i=M b i)
  (W:∀ b,1<=tot st.fr tm w B st.bx b->w'.heap[b]?=w.heap[b]?/\∀ i,M' b i=M b i) (hs:w.heap.size<=w'.heap.size) :
  SR base M' B st tm w'/\∀ b,tot st.fr tm w' B st.bx b=tot st.fr tm w B st.bx b:=by
 have q:∀ d id b j,B d id=some b->cP w' b j=cP w b j:=by
  intro d id b j s;simp [cP,World.cell?,(hb d id b s).1]
 have R:∀ d id b cs j x,B d id=some b->dX w' b j cs x=dX w b j cs x:=by
  intro d id b cs j x s;induction cs generalizing j with
  | nil=>rfl
  | cons c cs O=>simp [dX,q d id b j s,O]
 have hbox:∀ d id cs x,cBox w' (B d id) cs x=cBox w (B d id) cs x:=by
  intro d id cs x;unfold cBox;cases s:B d id with
  | none=>rfl
  | some b=>exact by grind
 have hbx:∀ x,cBx w' B st.bx x=cBx w B st.bx x:=by
  intro x;unfold cBx;have:(fun d id cs=>cBox w' (B d id) cs x)=fun d id cs=>cBox w (B d id) cs x:=by
   funext d id cs;exact by grind
  rw [this]
 have E:∀ x,tot st.fr tm w' B st.bx x=tot st.fr tm w B st.bx x:=fun x=>by simp [tot,hbx]
 have Q:∀ p v,(∀ x,own1 p v=some x->1<=tot st.fr tm w B st.bx x)->h1 M w base B p v->h1 M' w' base B p v:=by
  intro p v n z;unfold h1 at z ⊢;split;· rename_i e es bs a len cap;obtain ⟨H,K⟩:=W a.block (n a.block (by simp [own1]));obtain ⟨o,I,⟨arr,T,fz,J,m,P⟩,fr⟩:=z;exact ⟨o,I,⟨arr,T,fz,by rw [H];exact J,m,P⟩,fun i D=>by rw [K];exact fr i D⟩
  ·rename_i sz a len cap;obtain ⟨H,K⟩:=W a.block (n a.block (by simp [own1]));obtain ⟨o,I,⟨arr,T,fz,J,m,P⟩,fr⟩:=z;exact ⟨o,I,⟨arr,T,fz,by rw [H];exact J,m,P⟩,fun i D=>by rw [K];exact fr i D⟩
  ·rename_i sz e es a len cap;obtain ⟨H,K⟩:=W a.block (n a.block (by simp [own1]));obtain ⟨⟨o,I,⟨arr,T,fz,J,m,P⟩,fr⟩,F⟩:=z;refine ⟨⟨o,I,⟨arr,T,fz,by rw [H];exact J,m,P⟩,fun i D=>by rw [K];exact fr i D⟩,fun j c Y => ?_⟩;have:cP w' a.block j=cP w a.block j:=by simp [cP,World.cell?,H]
   rw [this];exact (F j c Y).mono N (fun _ _ _ t=>t)
  trivial
 refine ⟨⟨Y,fun i=>(h.slot i).mono N (fun _ _ _ t=>t),?_,?_,fun b=>by rw [E];exact h.one b,h.glob.mono N,aa5 h.base hs⟩,E⟩
 ·intro i x t;by_cases D:i<tm.size
  ·refine Q x.1 x.2 (fun b G => ?_) (h.slotH i x t);have h1':c1 x.1 x.2 b=1:=by simp [c1,G]
   have h2:c1 x.1 x.2 b<=cV (gets st.fr i) (tm.getD i undef) b:=aI1 (f:=fun y=>c1 y.1 y.2 b) _ t;have h3:=aHs (f:=fun i=>cV (gets st.fr i) (tm.getD i undef) b) tm.size D;simp only [tot,cF];omega
  have:tm.getD i undef=undef:=by simp [Array.getD,D]
  rw [this] at t;exact yL (uE _ x t)
 refine ⟨h.box.nodup,h.box.dom,?_,h.box.inj⟩;intro d id cs A;obtain ⟨hv,hbk⟩:=h.box.ok d id cs A;refine ⟨hv,?_⟩;rcases hbk with ⟨blk,s,⟨o,L,fr,X⟩⟩ | V;rotate_left;· exact .inr V
 left;refine ⟨blk,s,o,L.congr N (hb d id blk s).1,fun i=>by rw [(hb d id blk s).2];exact fr i,?_⟩;intro j c u;rw [q d id blk j s];obtain ⟨r1,r2,r3⟩:=X j c u;refine ⟨r1.mono N (fun _ _ _ t=>t),Q _ _ (fun b G => ?_) r2,r3⟩;have k1:c1 c (cP w blk j) b=1:=by simp [c1,G]
 have Z:∀ l k j c,l[j]?=some c->c1 c (cP w blk (k+j)) b<=dX w blk k l b:=by
  intro l;induction l with
  | nil=>intro k j c u;simp at u
  | cons a l O =>
   intro k j c u;cases j with
   | zero=>simp at u;subst u;simp [dX]
   | succ j=>simp at u;have:=O (k+1) j c u;simp [dX];rw [show k+(j+1)=k+1+j by omega];omega
 have k2:=Z (phys cs) 0 j c u;rw [aae] at k2;have k3:cBox w (B d id) cs b<=cBx w B st.bx b:=by
  have U:∀ bx C d,bD bx d id=some cs->cBox w (B (C+d) id) cs b<=jL (fun d id cs=>cBox w (B d id) cs b) C bx:=by
   intro bx;induction bx with
   | nil=>intro C d S;simp [bD,nth] at S
   | cons f r O =>
    intro C d S;simp [jL];cases d with
    | zero =>
     have:=aDF (g:=fun id cs=>cBox w (B C id) cs b) f (nN S);simp;omega
    | succ d =>
     have:=O (C+1) d S;rw [show C+(d+1)=C+1+d by omega];omega
  have:=U st.bx 0 d A;rw [aae] at this;exact this
 rw [s] at k3;simp [cBox] at k3;simp [tot];omega
theorem SR.put (h:SR base M B st tm w) dst {p v} (n:Rv M B p v) (m:hV M w base B p v)
  (s:∀ b,tot st.fr tm w B st.bx b+cV p v b<=1) :
  SR base M B {st with fr:=dstW tm.size dst p++st.fr} (putT tm dst v) w /\
   ∀ b,tot (dstW tm.size dst p++st.fr) (putT tm dst v) w B st.bx b<=tot st.fr tm w B st.bx b+cV p v b:=by
 have a:∀ i,(gets (dstW tm.size dst p++st.fr) i=p/\(putT tm dst v).getD i undef=v)∨(gets (dstW tm.size dst p++st.fr) i=gets st.fr i/\(putT tm dst v).getD i undef=tm.getD i undef):=by
  intro i;rw [aLW,aP9];grind
 have j:∀ b,tot (dstW tm.size dst p++st.fr) (putT tm dst v) w B st.bx b<=tot st.fr tm w B st.bx b+cV p v b:=by
  intro b;simp only [tot,cF,iH];have q:dA tm.size (fun i=>cV (gets (dstW tm.size dst p++st.fr) i) ((putT tm dst v).getD i undef) b)<=dA tm.size (fun i=>cV (gets st.fr i) (tm.getD i undef) b)+cV p v b:=by
   cases r:dst with
   | none=>simp [dstW,putT]
   | some d =>
    by_cases l:d<tm.size
    ·have:=aHr (f:=fun i=>cV (gets (dstW tm.size (some d) p++st.fr) i) ((putT tm (some d) v).getD i undef) b) (g:=fun i=>cV (gets st.fr i) (tm.getD i undef) b) (k:=d) tm.size l (fun i _ o=>by
      simp only [aLW,aP9,aaQ];rw [if_neg (by omega),if_neg (by omega)])
     grind
    rw [gW (g:=fun i=>cV (gets st.fr i) (tm.getD i undef) b) tm.size (fun i t=>by
     simp only [aLW,aP9,aaQ];rw [if_neg (by omega),if_neg (by omega)])]
    omega
  omega
 refine ⟨⟨h.cons,fun i => ?_,fun i => ?_,h.box,fun b=>by grind,h.glob,h.base⟩,j⟩
 ·rcases a i with ⟨e,c⟩ | ⟨e,c⟩;· rw [e,c];exact n
  rw [e,c];exact h.slot i
 rcases a i with ⟨e,c⟩ | ⟨e,c⟩;· rw [e,c];exact m
 show hV M w base B (gets (dstW tm.size dst p++st.fr) i) _;rw [e,c];exact h.slotH i
theorem SR.putN (h:SR base M B st tm w) dst {p v} (e:Rv M B p v) (a:fD p v) :
  SR base M B {st with fr:=dstW tm.size dst p++st.fr} (putT tm dst v) w /\
   ∀ b,tot (dstW tm.size dst p++st.fr) (putT tm dst v) w B st.bx b<=tot st.fr tm w B st.bx b:=by
 obtain ⟨f,d⟩:=h.put dst e (a.h M w base B) (fun b=>by rw [a.c b];exact h.one b);exact ⟨f,fun b=>by have:=d b;rw [a.c b] at this;omega⟩
theorem SR.take (h:SR base M B st tm w) t :
  SR base M B {st with fr:=(t,(gets st.fr t).plain)::st.fr} tm w /\
   ∀ b,tot ((t,(gets st.fr t).plain)::st.fr) tm w B st.bx b+cV (gets st.fr t) (tm.getD t undef) b=tot st.fr tm w B st.bx b:=by
 have a:∀ b,tot ((t,(gets st.fr t).plain)::st.fr) tm w B st.bx b+cV (gets st.fr t) (tm.getD t undef) b=tot st.fr tm w B st.bx b:=by
  intro b;simp only [tot,cF];by_cases d:t<tm.size
  ·have:=aHr (f:=fun i=>cV (gets ((t,(gets st.fr t).plain)::st.fr) i) (tm.getD i undef) b) (g:=fun i=>cV (gets st.fr i) (tm.getD i undef) b) (k:=t) tm.size d (fun i _ j=>by
    simp [gL];grind)
   simp only [gL,if_true] at this;rw [(cU (gets st.fr t) (tm.getD t undef)).c b] at this;simp only [gL];omega
  rw [gW (g:=fun i=>cV (gets st.fr i) (tm.getD i undef) b) tm.size (fun i l=>by
   simp [gL];grind)]
  have:tm.getD t undef=undef:=by grind
  rw [this,(uE _).c b];rfl
 refine ⟨⟨h.cons,fun i => ?_,fun i => ?_,h.box,fun b => ?_,h.glob,h.base⟩,a⟩
 ·rw [gL];split;· rename_i e;subst e;exact (h.slot t).plain
  exact h.slot i
 ·rw [gL];split;· exact (cU _ _).h M w base B
  exact h.slotH i
 have:=a b;have:=h.one b;grind
theorem SR.opd (h:SR base M B st tm w) d x:Rv M B (Ev.opd st.fr x) ((Act.mk tm d).eval x):=by
 cases x with
 | tmp t=>exact h.slot t
 | const v=>exact Rv.ofValue v
 | global g=>exact .bot _
 | func f=>exact .func _ [] [] #[] #[] (fun _=>undef) (fun _=>undef) (by simp) rfl (by simp) (by simp) rfl (by simp) (by simp)
theorem aAA v:own1 (ofAtom v) v=none:=by
 unfold ofAtom;split<;>first | rfl | simp
theorem lX v:fD (ofValue v) v:=by
 intro x a;unfold ofValue at a;split at a
 ·rename_i cs;simp [atoms,zipA] at a;obtain ⟨i,b⟩:=aao.1 a;simp only [List.zip_eq_zipWith,List.getElem?_zipWith] at b;cases d:cs.toList[i]? with
  | none=>grind
  | some c=>simp [d] at b;subst b;exact aAA c
 have:x=(ofAtom v,v):=by
  unfold ofAtom at a ⊢;split at a<;>simp_all [atoms,zipA]
 subst this;exact aAA v
theorem aBC fr x (a:Act) (b:∀ t,x ≠ .tmp t):fD (opd fr x) (a.eval x):=by
 cases x with
 | tmp t=>grind
 | const v=>exact lX v
 | global g=>intro y hy;simp [opd,atoms,zipA] at hy;subst hy;rfl
 | func f=>intro y hy;simp [opd,atoms,zipA] at hy;subst hy;rfl
theorem SR.opvF (h:SR base M B st tm w) d x :
  Rv M B (opv st.fr false x) ((Act.mk tm d).eval x)/\fD (opv st.fr false x) ((Act.mk tm d).eval x):=by
 cases x with
 | tmp t=>exact ⟨(h.slot t).plain,cU _ _⟩
 | const v=>exact ⟨Rv.ofValue v,lX v⟩
 | global g=>exact ⟨.bot _,aBC st.fr (.global g) ⟨tm,d⟩ (by simp)⟩
 | func f=>exact ⟨h.opd d (.func f),aBC st.fr (.func f) ⟨tm,d⟩ (by simp)⟩
theorem SR.opvT (h:SR base M B st tm w) d a x :
  Rv M B (opv st.fr a x) ((Act.mk tm d).eval x)/\hV M w base B (opv st.fr a x) ((Act.mk tm d).eval x) /\
  SR base M B {st with fr:=left st.fr a x++st.fr} tm w /\
  ∀ b,tot (left st.fr a x++st.fr) tm w B st.bx b+cV (opv st.fr a x) ((Act.mk tm d).eval x) b=tot st.fr tm w B st.bx b:=by
 cases a with
 | false =>
  obtain ⟨i,e⟩:=h.opvF d x;have j:left st.fr false x=[]:=by cases x<;>rfl
  rw [j];exact ⟨i,e.h M w base B,h,fun b=>by rw [e.c b];rfl⟩
 | true =>
  cases x with
  | tmp t =>
   obtain ⟨i,e⟩:=h.take t;exact ⟨h.slot t,h.slotH t,i,e⟩
  | const v=>exact ⟨Rv.ofValue v,(lX v).h M w base B,h,fun b=>by show _+cV (ofValue v) v b=_;rw [(lX v).c b];rfl⟩
  | global g=>exact ⟨.bot _,(aBC st.fr (.global g) ⟨tm,d⟩ (by simp)).h M w base B,h,fun b=>by rfl⟩
  | func f=>exact ⟨h.opd d (.func f),(aBC st.fr (.func f) ⟨tm,d⟩ (by simp)).h M w base B,h,fun b=>by rfl⟩
end
theorem aCe {f f' g len off} : ∀ n, off + n <= len -> (∀ i, i < len -> ¬ (off <= i /\ i < off + n) -> f' i = f i) ->
  (∀ j, j < n -> f' (off + j) = g j) -> dA len f' + dA n (fun j => f (off + j)) = dA len f + dA n g
 | 0, _, b, _ => by
  have := gW (f := f') (g := f) len (fun i c => by grind);simp [dA, this]
 | n + 1, m, b, h => by
  have l := aCe (len := len) (off := off) (f := f) (f' := fun i => if i = off + n then f i else f' i) (g := g) n (by omega)
   (fun i c e => by
    grind)
   (fun j d => by
    grind)
  have k := aHr (f := f') (g := fun i => if i = off + n then f i else f' i) (k := off + n) len (by omega) (fun i _ a => by grind);simp [dA];grind
theorem nB {f}:∀ n,(∀ i,i<n->f i=0)->dA n f=0
 | 0,_=>rfl
 | n+1,h=>by simp [dA,nB n (fun i a=>h i (by omega)),h n (by omega)]
theorem rT w blk b:∀ cs k,dX w blk k cs b=dA cs.length fun j=>c1 (cs.getD j .bot) (cP w blk (k+j)) b
 | [],_=>rfl
 | c::cs,k=>by
  have a:=rT w blk b cs (k+1);simp [dX];have sh:∀ n f,dA (n+1) f=f 0+dA n (fun j=>f (j+1)):=by
   intro n f;induction n with
   | zero=>simp [dA]
   | succ n a=>rw [dA,a];simp [dA];omega
  grind
theorem aXA b:∀ (cs:List PV) vs,cs.length=vs.length ->
  sumL (fun x=>c1 x.1 x.2 b) (cs.zip vs)=dA cs.length fun j=>c1 (cs.getD j .bot) (vs.getD j undef) b
 | [],[],_=>rfl
 | [],_::_,h=>by grind
 | _::_,[],h=>by grind
 | c::cs,v::vs,h=>by
  have a:=aXA b cs vs (by grind);simp [sumL];have sh:∀ n f,dA (n+1) f=f 0+dA n (fun j=>f (j+1)):=by
   intro n f;induction n with
   | zero=>simp [dA]
   | succ n a=>rw [dA,a];simp [dA];omega
  grind
theorem bA3 cs vs b (h:vs.size=cs.length) :
  cV (.agg cs) (.agg vs) b=dA cs.length fun j=>c1 (cs.getD j .bot) (vs.getD j undef) b:=by
 have:=aXA b cs vs.toList (by simp [h]);simp only [cV,atoms,zipA,this];simp
theorem aLX {p:PV} (a:∀ cs,p ≠ .agg cs):p.cells=[p]:=by
 cases p<;>first | rfl | grind
theorem aLY {p v} (b:∀ cs,p ≠ .agg cs) (a:∀ cs,p ≠ .tuple cs):atoms p v=[(p,v)]:=by
 cases p<;>first | rfl | grind | grind
theorem aDG {p v} (c:∀ cs,p ≠ .agg cs) (a:∀ cs,p ≠ .tuple cs) b:cV p v b=c1 p v b:=by
 simp [cV,aLY c a,sumL]
theorem aHt {M w base B p v} (b:∀ cs,p ≠ .agg cs) (a:∀ cs,p ≠ .tuple cs):hV M w base B p v↔h1 M w base B p v:=by
 simp [hV,aLY b a]
theorem Rv.oneCell {M B p v d} (h:Rv M B p v) (a:fits d p=true):v.oneCell'=true:=by
 cases h<;>first | rfl | simp [fits,PV.solid1] at a
theorem Rv.raise1 {M B p v d} (h:Rv M (upB d B) p v) (l:fits 0 p=true):Rv M B (Ev.raise1 d p) v:=by
 cases h with
 | ptr e id off b u=>exact .ptr (e+d) id off b (by simpa [upB,Nat.add_comm] using u)
 | rsl e id n sz b cap u q=>exact .rsl (e+d) id n sz b cap (by simpa [upB,Nat.add_comm] using u) q
 | rslNil e id sz H=>exact .rslNil (e+d) id sz H
 | mp e id b u=>exact .mp (e+d) id b (by simpa [upB,Nat.add_comm] using u)
 | ref e a s f t i C y=>exact .ref e a s f t i C fun j c q=>(y j c q).anyB1 B (i.cell q)
 | func F m r I J f g K D w A x G z=>exact (Rv.func F m r I J f g K D w A x G z).anyBfree B (by simpa [PV.free,fits] using l)
 | nilptr=>exact .nilptr
 | nilFunc=>exact .nilFunc
 | vec=>simp [fits,PV.solid1] at l
 | vecNil=>simp [fits,PV.solid1] at l
 | bool b=>exact .bool b
 | int k n=>exact .int k n
 | str s=>exact .str s
 | nil o=>exact .nil o
 | slice es bs o a cap s f t q E i C y=>exact (Rv.slice es bs o a cap s f t q E i C y).anyB1 B rfl
 | mk0 sz a cap t=>exact .mk0 sz a cap t
 | bot v=>simp [fits,PV.solid1] at l
 | und=>simp [fits,PV.solid1] at l
 | agg=>simp [fits,PV.solid1] at l
 | tuple=>simp [fits,PV.solid1] at l
theorem Rv.lower1 {M B p v d} (h:Rv M B p v) (i:fits d p=true):Rv M (upB d B) (Ev.lower1 d p) v:=by
 cases h with
 | ptr e id off b C=>exact .ptr (e-d) id off b (by simp [fits] at i;simp [upB];grind)
 | rsl e id n sz b cap C q=>exact .rsl (e-d) id n sz b cap (by simp [fits] at i;simp [upB];grind) q
 | rslNil e id sz H=>exact .rslNil (e-d) id sz H
 | mp e id b C=>exact .mp (e-d) id b (by simp [fits] at i;simp [upB];grind)
 | ref e a s f t l A x=>exact .ref e a s f t l A fun j c q=>(x j c q).anyB1 _ (l.cell q)
 | func F m r I J f g K D u z w G y=>exact (Rv.func F m r I J f g K D u z w G y).anyBfree _ (by simpa [PV.free,fits] using i)
 | nilptr=>exact .nilptr
 | nilFunc=>exact .nilFunc
 | vec=>simp [fits,PV.solid1] at i
 | vecNil=>simp [fits,PV.solid1] at i
 | bool b=>exact .bool b
 | int k n=>exact .int k n
 | str s=>exact .str s
 | nil o=>exact .nil o
 | slice es bs o a cap s f t q E l A x=>exact (Rv.slice es bs o a cap s f t q E l A x).anyB1 _ rfl
 | mk0 sz a cap t=>exact .mk0 sz a cap t
 | bot v=>simp [fits,PV.solid1] at i
 | und=>simp [fits,PV.solid1] at i
 | agg=>simp [fits,PV.solid1] at i
 | tuple=>simp [fits,PV.solid1] at i
theorem aOZ {d p} (h:fits d p=true):fits 0 (Ev.lower1 d p)=true:=by
 cases p<;>simp_all [fits,Ev.lower1]
theorem aZi d p v:own1 (Ev.lower1 d p) v=own1 p v:=by
 cases p<;>first | rfl | (cases v<;>rfl)
theorem aO0 d p v:own1 (Ev.raise1 d p) v=own1 p v:=by
 cases p<;>first | rfl | (cases v<;>rfl)
theorem bEd {M w base B} d p v:h1 M w base B (Ev.lower1 d p) v↔h1 M w base B p v:=by
 cases p<;>first | exact Iff.rfl | (cases v<;>exact Iff.rfl)
theorem aXB {M w base B} d p v:h1 M w base B (Ev.raise1 d p) v↔h1 M w base B p v:=by
 cases p<;>first | exact Iff.rfl | (cases v<;>exact Iff.rfl)
theorem aQa B:upB 0 B=B:=by funext d id;simp [upB]
theorem aLZ p:Ev.raise1 0 p=p:=by cases p<;>rfl
theorem aVc p:Ev.lower1 0 p=p:=by cases p<;>rfl
theorem aQb d p:aBg d p=match p with | .agg cs => .agg (cs.map (Ev.raise1 d)) | p=>Ev.raise1 d p:=by
 cases d with
 | zero =>
  simp [aBg];split
  ·have  := by funext p;exact aLZ p
   simp_all
  rw [aLZ]
 | succ d=>rfl
theorem aDH d vs:vP d vs=vs.map (Ev.lower1 d):=by
 cases d with
 | zero =>
  have  := by funext p;exact aVc p
  rw [this];simp [vP]
 | succ d=>rfl
theorem bI f r id:bD (f::r) 0 id=look f id:=rfl
theorem jP f r d id:bD (f::r) (d+1) id=bD r d id:=rfl
theorem yV d id:bD [] d id=none:=rfl
theorem aVd f id i cs:look (sP f id cs) i=if i=id/\(look f id).isSome then some cs else look f i:=by
 induction f with
 | nil=>simp [sP,look]
 | cons x f a =>
  obtain ⟨j,c⟩:=x;simp [sP];by_cases e:j=id;· subst e;simp [nZ];grind
  simp [if_neg e,nZ];grind
theorem aVe f id cs:(sP f id cs).map (·.1)=f.map (·.1):=by
 induction f with
 | nil=>rfl
 | cons x f a =>
  simp [sP];grind
theorem yW:∀ bx d id b a cs c,bD bx d id=some c ->
  bD (cN bx d id cs) b a=if b=d/\a=id then some cs else bD bx b a
 | [],d,id,b,a,cs,c,h=>by simp [bD,nth] at h
 | f::r,0,id,b,a,cs,c,h=>by
  simp [bI] at h;cases b with
  | zero=>simp only [cN,bI,aVd,h];simp
  | succ b=>simp [cN,jP]
 | f::r,d+1,id,b,a,cs,c,h=>by
  cases b with
  | zero=>simp [cN,bI]
  | succ b=>simp only [cN,jP];rw [yW r d id b a cs c h];simp
theorem aCf:∀ bx d id cs (e:Nat),((cN bx d id cs)[e]?).map (fun f=>f.map (·.1))=(bx[e]?).map (fun f=>f.map (·.1))
 | [],_,_,_,_=>by simp [cN]
 | f::r,0,id,cs,e=>by cases e<;>simp [cN,aVe]
 | f::r,d+1,id,cs,e=>by
  cases e with
  | zero=>simp [cN]
  | succ e=>simpa [cN] using aCf r d id cs e
theorem aFZ {bx} (b:∀ (d:Nat) f,bx[d]?=some f->(f.map (·.1)).Nodup) d id cs :
  ∀ (e:Nat) f,(cN bx d id cs)[e]?=some f->(f.map (·.1)).Nodup:=by
 intro e f a;have:=aCf bx d id cs e;grind
theorem yX {g g'}:∀ bx a,(∀ d f,bx[d]?=some f->fS (g (a+d)) f=fS (g' (a+d)) f)->jL g a bx=jL g' a bx
 | [],_,_=>rfl
 | f::r,a,h=>by
  simp [jL];rw [show fS (g a) f=fS (g' a) f from by simpa using h 0 f rfl,yX (g:=g) (g':=g') r (a+1) (fun d f' b=>by have:=h (d+1) f' (by grind);grind)]
theorem aR1 {g g' id cs cs'}:∀ bx a d,
  (∀ (e:Nat) f,bx[e]?=some f->(f.map (·.1)).Nodup)->bD bx d id=some cs ->
  (∀ e i c,bD bx e i=some c->¬ (e=d/\i=id)->g' (a+e) i c=g (a+e) i c) ->
  jL g' a (cN bx d id cs')+g (a+d) id cs=jL g a bx+g' (a+d) id cs'
 | [],_,d,_,h,_=>by simp [bD,nth] at h
 | f::r,a,0,l,h,k=>by
  have b:=l 0 f rfl;simp [cN,jL];have q:=aR0 (g:=g a) (g':=g' a) (cs':=cs') f b h (fun i c m n=>k 0 i c (kL b m) (by omega));have o:jL g' (a+1) r=jL g (a+1) r:=yX r (a+1) fun d f' j=>gX f' fun i c m=>by
   have:=k (d+1) i c (by rw [jP];unfold bD;rw [jU,j];exact kL (l (d+1) f' (by grind)) m) (by omega);grind
  omega
 | f::r,a,d+1,l,h,k=>by
  have b:=l 0 f rfl;simp [cN,jL];have q  := gX f fun i c m=>k 0 i c (kL b m) (by omega);have o:=aR1 (g:=g) (g':=g') (cs':=cs') r (a+1) d (fun e f' j=>l (e+1) f' (by grind)) h (fun e i c p n=>by
   have:=k (e+1) i c (by simpa [jP] using p) (by omega);grind)
  grind
theorem HOk.lt {M w base B b c a} (h:HOk M w base B b c a):b<w.heap.size:=by
 obtain ⟨_,_,⟨arr,T,fz,d,_⟩,_⟩:=h;grind
theorem h1.world {M M' w w' base B B' p v} (h:h1 M w base B p v) (z:∀ b i v,M b i=some v->M' b i=some v)
  (r:∀ b,own1 p v=some b->b<w.heap.size->w'.heap[b]?=w.heap[b]?/\(∀ i,M' b i=M b i)/\∀ d id,B' d id=some b->B d id=some b):h1 M' w' base B' p v:=by
 unfold h1 at h ⊢;split;· rename_i e es bs a len cap;obtain ⟨k,l,u⟩:=r a.block (by simp [own1]) h.lt;obtain ⟨o,t,⟨arr,T,fz,n,f,q⟩,fr⟩:=h;exact ⟨o,fun d id s=>by grind,⟨arr,T,fz,by rw [k];exact n,f,q⟩,fun i m=>by rw [l];exact fr i m⟩
 ·rename_i sz a len cap;obtain ⟨k,l,u⟩:=r a.block (by simp [own1]) h.lt;obtain ⟨o,t,⟨arr,T,fz,n,f,q⟩,fr⟩:=h;exact ⟨o,fun d id s=>by grind,⟨arr,T,fz,by rw [k];exact n,f,q⟩,fun i m=>by rw [l];exact fr i m⟩
 ·rename_i sz e es a len cap;obtain ⟨k,l,u⟩:=r a.block (by simp [own1]) h.1.lt;obtain ⟨⟨o,t,⟨arr,T,fz,n,f,q⟩,fr⟩,g⟩:=h;refine ⟨⟨o,fun d id s=>by grind,⟨arr,T,fz,by rw [k];exact n,f,q⟩,fun i m=>by rw [l];exact fr i m⟩,fun j c y => ?_⟩;have:cP w' a.block j=cP w a.block j:=by simp [cP,World.cell?,k]
  rw [this];exact (g j c y).mono z (fun _ _ _ x=>x)
 trivial
theorem h1.hok {M w base B p v} (h:h1 M w base B p v) {b} (a:own1 p v=some b):∃ d c,HOk M w base B b d c:=by
 unfold own1 at a;split at a;· simp at a;subst a;exact ⟨_,_,(show HOk M w base B _ _ _ from h)⟩
 ·simp at a;subst a;exact ⟨_,_,(show HOk M w base B _ _ _ from h)⟩
 ·simp at a;subst a;exact ⟨_,_,h.1⟩
 grind
theorem h1.nobox {M w base B p v} (h:h1 M w base B p v) {b} (c:own1 p v=some b):(∀ d id,B d id≠some b)/\b<w.heap.size:=by
 obtain ⟨f,e,a⟩:=h.hok c;exact ⟨a.nobox,a.lt⟩
theorem BRel.get {M w base B bx} (h:BRel M w base B bx) {d id cs} (g:bD bx d id=some cs) {blk} (f:B d id=some blk):BoxOk M w base B d blk cs:=by
 rcases (h.ok d id cs g).2 with ⟨c,e,i⟩ | b;· grind
 rw [b.1] at f;grind
section
variable {base : Base} {M : Mem} {B : BM} {st : St} {tm : Array Value} {w : World}
def setB (B:BM) (id blk:Nat):BM:=fun d i=>if d=0/\i=id then some blk else B d i
theorem SR.newAt (h:SR base M B st tm w) {C r} (k:st.bx=C::r) {id} (G:look C id=none) {cs} {xs:Array Value} {w' blk}
  (L:w.heap.size<=blk) (t:∀ b,b<w.heap.size->w'.heap[b]?=w.heap[b]?) (N:aBk M w' blk cs) (hsz:w.heap.size<=w'.heap.size)
  (m:∀ j,j<(phys cs).length->cP w' blk j=xs.getD j undef) (hv:okV cs)
  (hr:∀ j c,(phys cs)[j]?=some c->Rv M B c (xs.getD j undef)/\h1 M w base B c (xs.getD j undef)/\fits 0 c=true)
  (ht:∀ b,tot st.fr tm w B st.bx b+dA (phys cs).length (fun j=>c1 ((phys cs).getD j .bot) (xs.getD j undef) b)<=1) :
  SR base M (setB B id blk) {st with bx:=((id,cs)::C)::r} tm w' /\
   ∀ b,tot st.fr tm w' (setB B id blk) (((id,cs)::C)::r) b=tot st.fr tm w B st.bx b+dA (phys cs).length (fun j=>c1 ((phys cs).getD j .bot) (xs.getD j undef) b):=by
 have T:∀ i,M blk i=none:=by
  intro i;cases F:M blk i with
  | none=>rfl
  | some v=>obtain ⟨arr,T',fz',n,_⟩:=h.cons _ _ _ F;have:=(aag.1 n).1;omega
 have P:∀ d i b,B d i=some b->b<w.heap.size:=by
  intro d i b q;cases O:bD st.bx d i with
  | none=>rw [h.box.dom d i O] at q;simp at q
  | some cs =>
   have J:=h.box.get O q;obtain ⟨o,n⟩:=J.row.ex;exact (aag.1 n).1
 have Q  := h.box.dom 0 id (by rw [k,bI];exact G);have g:∀ d i b,B d i=some b->setB B id blk d i=some b:=by
  intro d i b q;unfold setB;rw [if_neg (by rintro ⟨rfl,rfl⟩;rw [Q] at q;simp at q)];exact q
 have E:∀ d i b,setB B id blk d i=some b->b<w.heap.size->B d i=some b:=by
  intro d i b q u;unfold setB at q;split at q;· simp at q;omega
  exact q
 have hh:∀ p v,h1 M w base B p v->h1 M w' base (setB B id blk) p v:=fun p v hp=>hp.world (fun _ _ _ n=>n) fun b _ u=>⟨t b u,fun _=>rfl,fun d i q=>E d i b q u⟩;have s:∀ b j,b<w.heap.size->cP w' b j=cP w b j:=fun b j Z=>by simp [cP,World.cell?,t b Z]
 have hcc:∀ b cs j x,b<w.heap.size->dX w' b j cs x=dX w b j cs x:=by
  intro b cs j x Z;induction cs generalizing j with
  | nil=>rfl
  | cons c cs ih=>simp [dX,s b j Z,ih]
 have D:∀ b,tot st.fr tm w' (setB B id blk) (((id,cs)::C)::r) b=tot st.fr tm w B st.bx b+dA (phys cs).length (fun j=>c1 ((phys cs).getD j .bot) (xs.getD j undef) b):=by
  intro b;simp only [tot,cBx,k,jL,fS,aae];have S:cBox w' (setB B id blk 0 id) cs b=dA (phys cs).length (fun j=>c1 ((phys cs).getD j .bot) (xs.getD j undef) b):=by
   simp only [setB,and_self,if_true,cBox];rw [rT];apply gW;intro j H;rw [aae,m j H]
  have z:∀ d i cs,bD st.bx d i=some cs->cBox w' (setB B id blk d i) cs b=cBox w (B d i) cs b:=by
   intro d i cs a;cases y:B d i with
   | some l =>
    rw [g d i l y];simp [cBox];exact by grind
   | none =>
    have:setB B id blk d i=none:=by
     unfold setB;rw [if_neg];· exact y
     rintro ⟨rfl,rfl⟩;rw [k,bI,G] at a;simp at a
    rw [this];rfl
  have X  := by
   refine gX C fun i cs F=>z 0 i cs ?_;rw [k,bI];exact kL (h.box.nodup 0 C (by rw [k];rfl)) F
  have e4:jL (fun d i cs=>cBox w' (setB B id blk d i) cs b) 1 r=jL (fun d i cs=>cBox w (B d i) cs b) 1 r:=by
   refine yX r 1 fun d f I=>gX f fun i cs F=>z (1+d) i cs ?_;rw [k,Nat.add_comm,jP];unfold bD;rw [jU,I];exact kL (h.box.nodup (d+1) f (by rw [k];simpa using I)) F
  rw [S,X,e4];omega
 refine ⟨⟨?_,fun i=>(h.slot i).mono (fun _ _ _ n=>n) g,fun i x n=>hh _ _ (h.slotH i x n),?_,fun b=>by show tot st.fr tm w' _ _ b<=1;rw [D];exact ht b,h.glob,aa5 h.base hsz⟩,D⟩;· intro b i v F;obtain ⟨arr,T',fz,n,hv⟩:=h.cons b i v F;exact ⟨arr,T',fz,by rw [t b (aag.1 n).1];exact n,hv⟩
 refine ⟨?_,?_,?_,?_⟩
 ·intro d f I;cases d with
  | zero =>
   simp at I;subst I;simp only [ab1,aaR];exact ⟨aDE.1 G,h.box.nodup 0 C (by rw [k];rfl)⟩
  | succ d=>exact h.box.nodup (d+1) f (by rw [k];simpa using I)
 ·intro d i a;show setB B id blk d i=none;cases d with
  | zero =>
   simp [bI,nZ] at a;split at a;· simp at a
   rename_i e;unfold setB;rw [if_neg (by rintro ⟨_,z⟩;exact e z.symm)];exact h.box.dom 0 i (by rw [k,bI];exact a)
  | succ d =>
   unfold setB;rw [if_neg (by omega)];exact h.box.dom (d+1) i (by rw [k];exact a)
 ·intro d i cs a;by_cases e:d=0/\i=id;· obtain ⟨rfl,rfl⟩:=e;simp [bI,nZ] at a;subst a;refine ⟨hv,.inl ⟨blk,by simp [setB],aa5 h.base L,N,T,?_⟩⟩;intro j c H;obtain ⟨r1,R,r3⟩:=hr j c H;rw [m j (aa2.1 H).1];refine ⟨?_,hh _ _ R,r3⟩;rw [aQa];exact r1.mono (fun _ _ _ n=>n) g
  have U:bD st.bx d i=some cs:=by
   rw [k];cases d with
   | zero =>
    simp [bI,nZ] at a ⊢;rw [if_neg (by intro z;exact e ⟨rfl,z.symm⟩)] at a;exact a
   | succ d=>exact a
  obtain ⟨hv',hbk⟩:=h.box.ok d i cs U;refine ⟨hv',?_⟩;rcases hbk with ⟨l,y,J⟩ | K;rotate_left;· refine .inr ⟨?_,K.2⟩;unfold setB;rw [if_neg e];exact K.1
  have u:=P d i l y;refine .inl ⟨l,g d i l y,J.old,?_,J.free,?_⟩;· exact J.row.congr (fun _ _ _ n=>n) (t l u)
  intro j c H;obtain ⟨r1,R,r3⟩:=J.rel j c H;rw [s l j u];exact ⟨r1.mono (fun _ _ _ n=>n) (fun V W b' n=>g _ _ _ n),hh _ _ R,r3⟩
 intro d i V W b hB1 Y;have sp:∀ d i b,setB B id blk d i=some b->(b=blk/\d=0/\i=id)∨(b<w.heap.size/\B d i=some b):=by
  intro d i b q;unfold setB at q;split at q;· simp at q;exact by omega
  exact by grind
 rcases sp d i b hB1 with ⟨S,z,X⟩ | ⟨S,z⟩<;>rcases sp V W b Y with ⟨f1,f2,f3⟩ | ⟨f1,f2⟩;· exact ⟨z.trans f2.symm,X.trans f3.symm⟩
 ·omega
 ·omega
 exact h.box.inj d i V W b z f2
theorem SR.newRow (h:SR base M B st tm w) {f r} (k:st.bx=f::r) {id} (g:look f id=none) {cs xs T fz w' blk}
  (d:w.heap.size<=blk) (e:∀ b,b<w.heap.size->w'.heap[b]?=w.heap[b]?) (a:w'.heap[blk]?=some (.cells xs T fz)) (l:w.heap.size<=w'.heap.size)
  (p:(phys cs).length<=xs.size) (m:∀ i,i<(phys cs).length->¬ (fz.1<=i/\i<fz.2)) (q:xG cs=false) (hv:okV cs)
  (n:∀ j c,(phys cs)[j]?=some c->Rv M B c (xs.getD j undef)/\h1 M w base B c (xs.getD j undef)/\fits 0 c=true)
  (o:∀ b,tot st.fr tm w B st.bx b+dA (phys cs).length (fun j=>c1 ((phys cs).getD j .bot) (xs.getD j undef) b)<=1) :
  SR base M (setB B id blk) {st with bx:=((id,cs)::f)::r} tm w' /\
   ∀ b,tot st.fr tm w' (setB B id blk) (((id,cs)::f)::r) b=tot st.fr tm w B st.bx b+dA (phys cs).length (fun j=>c1 ((phys cs).getD j .bot) (xs.getD j undef) b) :=
 h.newAt k g d e (aBk.of q ⟨xs,T,fz,a,p,m⟩) l (fun j _=>by simp [cP,World.cell?,a]) hv n o
theorem aDI {vs} (h:∀ c∈vs,fits 0 c=true):phys vs=vs/\nW vs=false:=by
 unfold phys nW;split;· have:=h _ (aaw.2 rfl);simp [fits,PV.solid1] at this
 ·have:=h _ (aaw.2 rfl);simp [fits,PV.solid1] at this
 simp
theorem aXC {vs} (h:nW vs=false):okV vs:=by
 unfold okV;split;· simp [nW] at h
 trivial
theorem yY {vs} (h:nW vs=false):xG vs=false:=by
 unfold xG;split;· simp [nW] at h
 rfl
theorem SR.newBox (h:SR base M B st tm w) {a r} (e:st.bx=a::r) {id} (d:look a id=none) {vs xs T w'}
  (i:w'.heap=w.heap.push (.cells xs T (0,0))) (p:xs.size=vs.length)
  (k:∀ j c,vs[j]?=some c->Rv M B c (xs.getD j undef)/\h1 M w base B c (xs.getD j undef)/\fits 0 c=true)
  (n:∀ b,tot st.fr tm w B st.bx b+dA vs.length (fun j=>c1 (vs.getD j .bot) (xs.getD j undef) b)<=1) :
  SR base M (setB B id w.heap.size) {st with bx:=((id,vs)::a)::r} tm w' /\
   ∀ b,tot st.fr tm w' (setB B id w.heap.size) (((id,vs)::a)::r) b=tot st.fr tm w B st.bx b+dA vs.length (fun j=>c1 (vs.getD j .bot) (xs.getD j undef) b):=by
 obtain ⟨m,f⟩:=aDI (vs:=vs) fun c g=>by
  obtain ⟨j,l⟩:=aao.1 g;grind
 have:=h.newRow e d (cs:=vs) (xs:=xs) (T:=T) (fz:=(0,0)) (w':=w') (aa1 _) (fun b o=>by grind) (by grind) (by grind)
  (by grind) (by simp) (yY f) (aXC f) (by grind) (by grind)
 grind
theorem SR.setRow (h:SR base M B st tm w) {d id blk cs cs'} (r:bD st.bx d id=some cs) (t:B d id=some blk) {w'}
  (S:∀ b,b≠blk->w'.heap[b]?=w.heap[b]?) (L:w'.heap.size=w.heap.size) (y:aBk M w' blk cs')
  (hv:okV cs')
  (V:∀ j c,(phys cs')[j]?=some c->Rv M (upB d B) c (cP w' blk j)/\h1 M w base B c (cP w' blk j)/\fits 0 c=true)
  (X:∀ b,tot st.fr tm w B st.bx b+dX w' blk 0 (phys cs') b<=1+dX w blk 0 (phys cs) b) :
  SR base M B {st with bx:=cN st.bx d id cs'} tm w' /\
   ∀ b,tot st.fr tm w' B (cN st.bx d id cs') b+dX w blk 0 (phys cs) b=tot st.fr tm w B st.bx b+dX w' blk 0 (phys cs') b:=by
 have P:=h.box.get r t;have W:∀ p v b,h1 M w base B p v->own1 p v=some b->b≠blk:=by
  intro p v b R U e;subst e;exact (R.nobox U).1 d id t
 have I:∀ p v,h1 M w base B p v->h1 M w' base B p v:=fun p v R=>R.world (fun _ _ _ n=>n) fun b U _=>⟨by grind,fun _=>rfl,fun d i n=>n⟩;have k:∀ b j,b≠blk->cP w' b j=cP w b j:=fun b j r=>by simp [cP,World.cell?,S b r]
 have G:∀ b cs j x,b≠blk->dX w' b j cs x=dX w b j cs x:=by
  intro b cs j x r;induction cs generalizing j with
  | nil=>rfl
  | cons c cs Y=>simp [dX,k b j r,Y]
 have s:∀ b,tot st.fr tm w' B (cN st.bx d id cs') b+dX w blk 0 (phys cs) b=tot st.fr tm w B st.bx b+dX w' blk 0 (phys cs') b:=by
  intro b;have:=aR1 (g:=fun d i cs=>cBox w (B d i) cs b) (g':=fun d i cs=>cBox w' (B d i) cs b) (cs':=cs') st.bx 0 d h.box.nodup r (by
   intro e i c Z A;cases m:B e i with
   | none=>simp [m,cBox]
   | some f =>
    simp [m];exact G f (phys c) 0 b (by intro F;subst F;exact A (h.box.inj e i d id _ m t)))
  simp [t,cBox] at this;simp [tot,cBx,cBox];omega
 refine ⟨⟨?_,h.slot,fun i x n=>I _ _ (h.slotH i x n),?_,fun b=>by have:=s b;have:=X b;show tot st.fr tm w' B (cN st.bx d id cs') b<=1;omega,h.glob,by rw [L];exact h.base⟩,s⟩;· intro b i v H;obtain ⟨arr,T,fz,n,hv⟩:=h.cons b i v H;exact ⟨arr,T,fz,by rw [S b (by intro e;subst e;rw [P.free] at H;simp at H)];exact n,hv⟩
 refine ⟨aFZ h.box.nodup d id cs',?_,?_,h.box.inj⟩
 ·intro u l o;rw [yW st.bx d id u l cs' cs r] at o;split at o;· simp at o
  exact h.box.dom u l o
 intro u l O o;rw [yW st.bx d id u l cs' cs r] at o;split at o;· rename_i e;obtain ⟨rfl,rfl⟩:=e;cases o;refine ⟨hv,.inl ⟨blk,t,P.old,y,P.free,?_⟩⟩;intro j c J;obtain ⟨K,D,Q⟩:=V j c J;exact ⟨K,I _ _ D,Q⟩
 rename_i e;obtain ⟨C,N⟩:=h.box.ok u l O o;refine ⟨C,?_⟩;rcases N with ⟨f,m,q⟩ | E;rotate_left;· exact .inr E
 have z:f≠blk:=by intro F;subst F;exact e (h.box.inj u l d id _ m t)
 refine .inl ⟨f,m,q.old,q.row.congr (fun _ _ _ n=>n) (by grind),q.free,?_⟩;intro j c J;obtain ⟨K,D,Q⟩:=q.rel j c J;rw [k f j z];exact ⟨K,I _ _ D,Q⟩
theorem uF {cs} (h:nW cs=false):phys cs=cs:=by
 unfold nW at h;unfold phys;grind
theorem SR.setBox (h:SR base M B st tm w) {d id blk cs cs'} (o:bD st.bx d id=some cs) (m:B d id=some blk) (a:nW cs=false) (k:cs'.length=cs.length) {w'}
  (l:∀ b,b≠blk->w'.heap[b]?=w.heap[b]?) (e:w'.heap.size=w.heap.size) (g:∃ arr T fz,w'.heap[blk]?=some (.cells arr T fz)/\cs.length<=arr.size/\∀ i,i<cs.length->¬ (fz.1<=i/\i<fz.2))
  (s:∀ j c,cs'[j]?=some c->Rv M (upB d B) c (cP w' blk j)/\h1 M w base B c (cP w' blk j)/\fits 0 c=true)
  (r:∀ b,tot st.fr tm w B st.bx b+dX w' blk 0 cs' b<=1+dX w blk 0 cs b) :
  SR base M B {st with bx:=cN st.bx d id cs'} tm w' /\
   ∀ b,tot st.fr tm w' B (cN st.bx d id cs') b+dX w blk 0 cs b=tot st.fr tm w B st.bx b+dX w' blk 0 cs' b:=by
 obtain ⟨q,f⟩:=aDI (vs:=cs') fun c n=>by
  obtain ⟨j,p⟩:=aao.1 n;grind
 have t:=uF a;have:=h.setRow o m (cs':=cs') (w':=w') l e (aBk.of (yY f) (by grind)) (aXC f) (by grind) (by grind);grind
end
theorem aB {α β} {x} {k:α->Option β} {r} (h:bnd x k=some r):∃ a,x=some a/\k a=some r:=by
 cases x with
 | none=>simp [bnd] at h
 | some a=>exact ⟨a,rfl,h⟩
theorem bQ {β} {c} {x y:Option β} {r} (h:cnd c x y=some r):(c=true/\x=some r)∨(c=false/\y=some r):=by
 cases c;· exact .inr ⟨rfl,h⟩
 exact .inl ⟨rfl,h⟩
def Flat (p:PV):Prop:=(∃ b,p = .bool b)∨(∃ k n,p = .int k n)∨(∃ s,p = .str s)
theorem Flat.no {p} (h:Flat p) v:fD p v:=by
 rcases h with ⟨b,rfl⟩ | ⟨k,n,rfl⟩ | ⟨s,rfl⟩<;>(intro x a;simp [atoms,zipA] at a;subst a;cases v<;>rfl)
section
variable {P : Program} {M : Mem} {B : BM} (w : World)
theorem eX {t n} (h:szOf P t=some n):(sizeOf t).run P w = .ok n w:=by
 unfold szOf at h;cases a:P.info? t with
 | none=>grind
 | some i=>simp [a] at h;subst h;simp [sizeOf,typeInfo,a]
theorem aBD {t a} (h:agOf P t=some a):(isAgg t).run P w = .ok a w:=by
 unfold agOf at h;cases b:P.underlying t with
 | none=>grind
 | some d=>cases d<;>simp_all [isAgg,underlying]
theorem sT {t z} (h:aFX P t=some z):∃ v,(zeroValue t).run P w = .ok v w/\z=ofValue v/\∃ i,P.info? t=some i/\i.zero=some v:=by
 unfold aFX at h;cases a:P.info? t with
 | none=>grind
 | some i =>
  simp [a] at h;obtain ⟨v,hv,rfl⟩:=h;exact ⟨v,by simp [zeroValue,typeInfo,a,hv],rfl,i,rfl,hv⟩
theorem aR2 s:(ByteArray.mk s.toArray).toList=s:=by simp
theorem Rv.int_inv {k n v} (h:Rv M B (.int k n) v):v = .int k n:=by cases h;rfl
theorem Rv.bool_inv {b v} (h:Rv M B (.bool b) v):v = .bool b:=by cases h;rfl
theorem Rv.str_inv {s v} (h:Rv M B (.str s) v):v = .string ⟨s.toArray⟩:=by cases h;rfl
theorem aZj {c k a b r} t (h:sQ c k a b=some r) (f:c ≠ .shl) (e:c ≠ .shr) :
  ∃ v,(binOp c t (.int k a) (.int k b)).run P w = .ok v w/\(∀ M B,Rv M B r v)/\Flat r:=by
 cases c<;>simp only [sQ,aaQ] at h<;>(try contradiction);case quo =>
  split at h;· grind
  rename_i d;cases h;exact ⟨_,by first | (simp [binOp,Op.intDiv,d]) | (simp),fun _ _ => .int _ _,.inr (.inl ⟨_,_,rfl⟩)⟩
 case rem =>
  split at h;· grind
  rename_i d;cases h;exact ⟨_,by first | (simp [binOp,Op.intDiv,d]) | (simp),fun _ _ => .int _ _,.inr (.inl ⟨_,_,rfl⟩)⟩
 case add=>subst h;exact ⟨.int k (k.wrap (a+b)),by simp [binOp,Op.intArith],fun _ _ => .int _ _,.inr (.inl ⟨_,_,rfl⟩)⟩
 case sub=>subst h;exact ⟨.int k (k.wrap (a-b)),by simp [binOp,Op.intArith],fun _ _ => .int _ _,.inr (.inl ⟨_,_,rfl⟩)⟩
 case mul=>subst h;exact ⟨.int k (k.wrap (a*b)),by simp [binOp,Op.intArith],fun _ _ => .int _ _,.inr (.inl ⟨_,_,rfl⟩)⟩
 case and=>subst h;exact ⟨.int k (bits .and k a b),by simp [binOp,Op.intBits,bits],fun _ _ => .int _ _,.inr (.inl ⟨_,_,rfl⟩)⟩
 case or=>subst h;exact ⟨.int k (bits .or k a b),by simp [binOp,Op.intBits,bits],fun _ _ => .int _ _,.inr (.inl ⟨_,_,rfl⟩)⟩
 case xor=>subst h;exact ⟨.int k (bits .xor k a b),by simp [binOp,Op.intBits,bits],fun _ _ => .int _ _,.inr (.inl ⟨_,_,rfl⟩)⟩
 case andNot=>subst h;exact ⟨.int k (bits .andNot k a b),by simp [binOp,Op.intBits,bits],fun _ _ => .int _ _,.inr (.inl ⟨_,_,rfl⟩)⟩
 all_goals
  subst h;exact ⟨.bool _,by simp [binOp,Op.intCmp],fun _ _ => .bool _,.inl ⟨_,rfl⟩⟩
theorem aZk {d a b r} t (h:aXx d a b=some r) :
  ∃ v,(binOp d t (.string ⟨a.toArray⟩) (.string ⟨b.toArray⟩)).run P w = .ok v w/\(∀ M B,Rv M B r v)/\Flat r:=by
 have g:∀ c,(binOp c t (.string ⟨a.toArray⟩) (.string ⟨b.toArray⟩))=Op.stringOp c ⟨a.toArray⟩ ⟨b.toArray⟩:=by intro c;cases c<;>rfl
 rw [g];cases d<;>simp only [aXx,aaQ] at h<;>(try contradiction);case add =>
  split at h
  ·rename_i f;cases h;refine ⟨.string (⟨a.toArray⟩++⟨b.toArray⟩),?_,?_,.inr (.inr ⟨_,rfl⟩)⟩
   ·have e:¬ (((ByteArray.mk a.toArray).size+(ByteArray.mk b.toArray).size:Nat):Int)>IntKind.i64.max:=by
     have:(ByteArray.mk a.toArray).size+(ByteArray.mk b.toArray).size=a.length+b.length:=by simp [ByteArray.size]
     simp [lim] at f;have:IntKind.i64.max=9223372036854775807:=by decide
     omega
    simp only [Op.stringOp,if_neg e];simp
   intro M B;exact .str _
  grind
 all_goals
  subst h;exact ⟨_,by first | (simp [Op.stringOp]) | (simp),fun _ _ => .bool _,.inl ⟨_,rfl⟩⟩
theorem bHg {g x y r a b} t (h:bin g x y=some r) (f:Rv M B x a) (d:Rv M B y b) :
  ∃ v,(binOp g t a b).run P w = .ok v w/\(∀ M B,Rv M B r v)/\Flat r/\(∀ cs,a ≠ .agg cs)/\a ≠ .nilIface:=by
 unfold bin at h;split at h
 ·rw [f.int_inv,d.int_inv];split at h
  ·split at h;· grind
   rename_i c;cases h;exact ⟨_,by first | (simp [binOp,Op.shift,c]) | (simp),fun _ _ => .int _ _,.inr (.inl ⟨_,_,rfl⟩),by simp,by simp⟩
  ·split at h;· grind
   rename_i c;cases h;exact ⟨_,by first | (simp [binOp,Op.shift,c]) | (simp),fun _ _ => .int _ _,.inr (.inl ⟨_,_,rfl⟩),by simp,by simp⟩
  rename_i k j;split at h;· obtain ⟨v,hv,i,l⟩:=aZj (P:=P) w t h (fun e=>k e) (fun e=>j e);grind
  grind
 ·rw [f.str_inv,d.str_inv];obtain ⟨v,hv,i,l⟩:=aZk (P:=P) w t h;grind
 grind
theorem aBE c t x y {a b} (e:∀ cs,a ≠ .agg cs) (d:a ≠ .nilIface):(eqGuard c t x y a b).run P w = .ok () w:=by
 cases a<;>first
  | exact absurd rfl d
  | exact absurd rfl (e _)
  | (cases c<;>rfl)
def aL0 (t:TypeId) (ag:Bool) (n off:Nat) (xs:Array Value) (x:Value):Prop :=
 match ag with
 | true=>x = .agg (xs.extract off (off+n))/\off+n<=xs.size
 | false=>xs[off]?=some x
theorem aXD {t n off b xs} (c:szOf P t=some n) (d:agOf P t=some b) (h:off+n<=xs.size) (e:0<n) :
  ∃ x,(Go.part t xs off).run P w = .ok x w/\aL0 t b n off xs x:=by
 unfold Go.part;simp [aBD w d];cases b with
 | true=>simp only [eX w c];exact ⟨_,rfl,rfl,h⟩
 | false =>
  have a:off<xs.size:=by omega
  simp only [abt a];exact ⟨_,rfl,by simp [aL0]⟩
theorem bA4 {l i} (h:gt l i ≠ .bot):l[i]?=some (gt l i):=by
 rw [aHp] at h ⊢;grind
theorem aL1 {X Y r}:∀ l m,eqAt X Y (l++m)=some r->∃ a b,eqAt X Y l=some a/\eqAt X Y m=some b/\r=(a&&b)
 | [],m,h=>⟨true,r,rfl,h,by simp⟩
 | (i,k)::l,m,h=>by
  simp [eqAt] at h;split at h;· rename_i a b j g;obtain ⟨c,e,f,d,rfl⟩:=aL1 l m g;exact ⟨a&&c,e,by simp [eqAt,j,f],d,by grind⟩
  grind
theorem aQc {X Y i k r} (h:eqAt X Y [(i,k)]=some r):aFV k (gt X i) (gt Y i)=some r:=by
 simp [eqAt] at h;grind
theorem aL2 {X Y xs ys} (u:∀ (i:Nat) c,X[i]?=some c->∃ v,xs[i]?=some v/\Rv M B c v) (z:∀ (i:Nat) c,Y[i]?=some c->∃ v,ys[i]?=some v/\Rv M B c v) :
  ∀ d D t off n ag ls r x y,aFY P d t off=some ls->eqAt X Y ls=some r->szOf P t=some n->agOf P t=some ag ->
   aL0 t ag n off xs x->aL0 t ag n off ys y->d<=D->(Op.equalIn D t x y).run P w = .ok r w
 | 0,D,t,off,n,ag,ls,r,x,y,h,_,_,_,_,_,_=>by simp [aFY] at h
 | d+1,0,t,off,n,ag,ls,r,x,y,h,_,_,_,_,_,R=>by omega
 | d+1,D+1,t,off,n,ag,ls,r,x,y,h,he,S,ha,hx,hy,R=>by
  have leaf:∀ k,aFV k (gt X off) (gt Y off)=some r->ag=false->∃ p q,Rv M B (gt X off) p/\Rv M B (gt Y off) q/\x=p/\y=q:=by
   intro k hk hag;subst hag;have U:gt X off ≠ .bot:=by intro e;rw [e] at hk;unfold aFV at hk;split at hk<;>simp_all
   have O:gt Y off ≠ .bot:=by intro e;rw [e] at hk;unfold aFV at hk;split at hk<;>simp_all
   obtain ⟨p,hp,rp⟩:=u off _ (bA4 U);obtain ⟨q,o,rq⟩:=z off _ (bA4 O);simp [aL0] at hx hy;rw [hx] at hp;rw [hy] at o;cases hp;cases o;exact ⟨_,_,rp,rq,rfl,rfl⟩
  unfold aFY at h;split at h
  ·rename_i hu;cases h;have hk:=aQc he;have hag  := by simp [agOf,hu] at ha;exact ha
   obtain ⟨p,q,rp,rq,rfl,rfl⟩:=leaf 0 hk hag;unfold aFV at hk;split at hk;· simp at *
   ·simp at *
   ·rename_i a b s e2 e3;cases hk;rw [e2] at rp;rw [e3] at rq;rw [rp.bool_inv,rq.bool_inv];exact run_equalIn_bool' w D t a b hu
   simp at hk
  ·rename_i N hu;cases h;have hk:=aQc he;have hag  := by simp [agOf,hu] at ha;exact ha
   obtain ⟨p,q,rp,rq,rfl,rfl⟩:=leaf 1 hk hag;unfold aFV at hk;split at hk
   ·rename_i k a k' b s e2 e3;split at hk;· rename_i I;subst I;cases hk;rw [e2] at rp;rw [e3] at rq;rw [rp.int_inv,rq.int_inv];exact run_equalIn_int w D t k N a b hu
    simp at hk
   ·simp at *
   ·simp at *
   simp at hk
  ·rename_i hu;cases h;have hk:=aQc he;have hag  := by simp [agOf,hu] at ha;exact ha
   obtain ⟨p,q,rp,rq,rfl,rfl⟩:=leaf 2 hk hag;unfold aFV at hk;split at hk;· simp at *
   ·rename_i a b s e2 e3;cases hk;rw [e2] at rp;rw [e3] at rq;rw [rp.str_inv,rq.str_inv];have:=run_equalIn_string (P:=P) w D t ⟨a.toArray⟩ ⟨b.toArray⟩ hu;rw [this,aR2,aR2]
   ·simp at *
   simp at hk
  ·rename_i fs hu;split at h
   ·rename_i sz m hsz;rw [S] at hsz;cases hsz;have hag  := by simp [agOf,hu] at ha;exact ha
    subst hag;simp [aL0] at hx hy;obtain ⟨rfl,F⟩:=hx;obtain ⟨rfl,E⟩:=hy;have hfo:P.fieldsOf t=fs:=by simp [Program.fieldsOf,hu]
    rw [run_equalIn_struct w D t _ _ (by rw [hfo];exact hu) m,hfo];clear hfo hu leaf;generalize fs.toList=l at h;induction l generalizing ls r with
    | nil =>
     simp [List.foldr_nil] at h;cases h;simp [eqAt] at he;cases he;simp [Op.eqFields]
    | cons f l ih =>
     simp [List.foldr_cons] at h;split at h
     ·rename_i n' A V hname hn' hl1 T;split at h
      ·rename_i hlay;cases h;obtain ⟨a,b,g,Q,rfl⟩:=aL1 A V he;have hne  := by simpa using hname
       obtain ⟨ag',hag'⟩:∃ ag',agOf P f.type=some ag':=by
        unfold agOf;cases K:P.underlying f.type with
        | none =>
         cases d with
         | zero=>simp [aFY] at hl1
         | succ d=>simp [aFY,K] at hl1
        | some H=>cases H<;>simp
       have J:(xs.extract off (off+n)).size=n:=by simp;omega
       have L:(ys.extract off (off+n)).size=n:=by simp;omega
       obtain ⟨G,hpx,qx⟩:=aXD (P:=P) w (xs:=xs.extract off (off+n)) (off:=f.offset) hn' hag' (by omega) hlay.2;obtain ⟨C,j,Z⟩:=aXD (P:=P) w (xs:=ys.extract off (off+n)) (off:=f.offset) hn' hag' (by omega) hlay.2;have W:∀ zs p,off+n<=zs.size->aL0 f.type ag' n' f.offset (zs.extract off (off+n)) p->aL0 f.type ag' n' (off+f.offset) zs p:=by
        intro zs p hz hp;cases ag' with
        | true =>
         simp only [aL0] at hp ⊢;obtain ⟨rfl,_⟩:=hp;refine ⟨?_,by omega⟩;rw [Array.extract_extract];congr 2;omega
        | false =>
         simp [aL0] at hp ⊢;rw [Array.getElem?_extract] at hp;split at hp;· exact hp
         simp at hp
       have hcell:=aL2 u z d D f.type (off+f.offset) n' ag' A a G C hl1 g hn' hag' (by grind) (by grind) (by omega);simp [Op.eqFields,if_pos hne,hpx,j,hcell];cases a with
       | true=>exact by grind
       | false=>simp
      simp at h
     simp at h
   simp at h
  simp at h
end
def Aft (base:Base) (M:Mem) (B:BM) (st:St) (tm:Array Value) (w:World) (e:Eff) (tm':Array Value) (w':World):Prop :=
 tm'.size=tm.size/\∃ M' B',SR base M' B' (e.app st) tm' w' /\
 Evo w M (tot st.fr tm w B st.bx) B w' M' (tot (e.app st).fr tm' w' B' (e.app st).bx) B'
section
variable {P : Program} {base : Base} {M : Mem} {B : BM} {st : St} {tm : Array Value} {w : World} {next : Act -> World -> Prop} {Q : Exit -> Act -> World -> Prop}
theorem aQd (a:Act) (dst:Option Nat) v:a.put dst v=⟨putT a.tmps dst v,a.defers⟩:=by cases dst<;>rfl
theorem upon_value {o a v w w' e} (b:(execOp a.eval o).run P w = .ok (.value v) w')
  (d:Aft base M B st a.tmps w e (putT a.tmps o.dst v) w') (f:∀ c w',Aft base M B st a.tmps w e c w'->next ⟨c,a.defers⟩ w') :
  o.upon P a next Q ((execOp a.eval o).run P w):=by
 rw [b,Oper.upon_value,aQd];grind
theorem aJ6 st ws:({ws:=ws}:Eff).app st={st with fr:=ws++st.fr}:=by
 cases st with
 | mk fr bx=>cases bx<;>rfl
theorem pE (h:SR base M B st tm w) {dst p v} (c:Rv M B p v) (e:fD p v) :
  Aft base M B st tm w {ws:=dstW tm.size dst p} (putT tm dst v) w:=by
 obtain ⟨d,a⟩:=h.putN dst c e;refine ⟨iH _ _ _,M,B,?_,?_⟩;· exact d
 exact {Evo.refl w M (tot st.fr tm w B st.bx) B with tle:=fun b _=>a b}
theorem aQe (h:SR base M B st tm w) {dst lv p v} (f:SR base M B {st with fr:=lv++st.fr} tm w)
  (e:Rv M B p v) (d:hV M w base B p v) (a:∀ b,tot (lv++st.fr) tm w B st.bx b+cV p v b<=tot st.fr tm w B st.bx b) :
  Aft base M B st tm w {ws:=dstW tm.size dst p++lv} (putT tm dst v) w:=by
 obtain ⟨c,g⟩:=f.put dst e d (fun b=>aa5 (a b) (h.one b));refine ⟨iH _ _ _,M,B,?_,?_⟩;· rw [aJ6,aax];exact c
 rw [aJ6,aax];exact {Evo.refl w M (tot st.fr tm w B st.bx) B with tle:=fun b _=>by grind}
theorem fD.of1 {p v} (c:∀ cs,p ≠ .agg cs) (b:∀ cs,p ≠ .tuple cs) (h:own1 p v=none):fD p v:=by
 intro x a;rw [aLY c b] at a;grind
theorem oA d id off v:fD (.ptr d id off) v:=fD.of1 (by simp) (by simp) (by cases v<;>rfl)
theorem aL3 e v:fD (.ref e) v:=fD.of1 (by simp) (by simp) (by cases v<;>rfl)
theorem rU f a b v:fD (.func f a b) v:=fD.of1 (by simp) (by simp) (by cases v<;>rfl)
theorem rH es a v:fD (.slice es a false) v:=fD.of1 (by simp) (by simp) (wP es a v)
theorem aGx a o v:fD (.slice [] a o) v:=fD.of1 (by simp) (by simp) (by cases v<;>rfl)
theorem Rv.int_of {x a k n} (h:Rv M B x a) (e:x = .int k n):a = .int k n:=by subst e;exact h.int_inv
theorem bI3 {c x r a} (h:un c x=some r) (b:Rv M B x a):∃ v,(Op.unary c a).run P w = .ok v w/\(∀ M B,Rv M B r v)/\Flat r:=by
 unfold un at h;split at h;· cases h;rw [b.bool_inv];exact ⟨_,rfl,fun _ _ => .bool _,.inl ⟨_,rfl⟩⟩
 ·cases h;rw [b.int_inv];exact ⟨_,rfl,fun _ _ => .int _ _,.inr (.inl ⟨_,_,rfl⟩)⟩
 ·cases h;rw [b.int_inv];exact ⟨.int _ _,by simp [Op.unary,Op.intBits,bits],fun _ _ => .int _ _,.inr (.inl ⟨_,_,rfl⟩)⟩
 grind
theorem aO1 {x y r a b} (d:Rv M B x a) (c:Rv M B y b) :
  (mn x y=some r->∃ v,(Builtin.min2 a b).run P w = .ok v w/\(∀ M B,Rv M B r v)/\Flat r)/\(mx x y=some r->∃ v,(Builtin.max2 a b).run P w = .ok v w/\(∀ M B,Rv M B r v)/\Flat r):=by
 constructor
 ·intro h;unfold mn at h;split at h;· cases h;rw [d.int_inv,c.int_inv];exact ⟨_,rfl,fun _ _ => .int _ _,.inr (.inl ⟨_,_,rfl⟩)⟩
  grind
 intro h;unfold mx at h;split at h;· cases h;rw [d.int_inv,c.int_inv];exact ⟨_,rfl,fun _ _ => .int _ _,.inr (.inl ⟨_,_,rfl⟩)⟩
 grind
theorem bEe {x r a t ty} (h:len 0 x=some r) (d:Rv M B x a) (c:P.underlying t=some .string) :
  ∃ v,(Builtin.len_ #[t] ty #[a]).run P w = .ok v w/\(∀ M B,Rv M B r v)/\Flat r:=by
 obtain ⟨n,b,h⟩:=aB h;cases h;unfold lenN at b;split at b;· cases b;rw [d.str_inv];rename_i s _;refine ⟨.int .i64 s.length,?_,fun _ _ => .int _ _,.inr (.inl ⟨_,_,rfl⟩)⟩;simp [Builtin.len_,run_underlying c];rfl
 all_goals grind
theorem bEf {x r a t ty e} (h:len 1 x=some r) (g:Rv M B x a) (d:P.underlying t=some (.slice e)) :
  ∃ v,(Builtin.len_ #[t] ty #[a]).run P w = .ok v w/\(∀ M B,Rv M B r v)/\Flat r:=by
 obtain ⟨n,c,h⟩:=aB h;cases h;unfold lenN at c;split at c;· omega
 ·cases c;cases g with
  | nil o=>exact ⟨.int .i64 _,by simp [Builtin.len_,run_underlying d,goInt],fun _ _ => .int _ _,.inr (.inl ⟨_,_,rfl⟩)⟩
  | slice es m o a cap s f l i u j y k=>exact ⟨.int .i64 _,by simp [Builtin.len_,run_underlying d,goInt],fun _ _ => .int _ _,.inr (.inl ⟨_,_,rfl⟩)⟩
 ·cases c;cases g;exact ⟨.int .i64 _,by simp [Builtin.len_,run_underlying d,goInt],fun _ _ => .int _ _,.inr (.inl ⟨_,_,rfl⟩)⟩
 ·cases c;cases g with
  | rsl _ _ _ _ b cap q i=>exact ⟨.int .i64 _,by simp [Builtin.len_,run_underlying d,goInt],fun _ _ => .int _ _,.inr (.inl ⟨_,_,rfl⟩)⟩
  | rslNil _ _ _ p=>exact ⟨.int .i64 _,by simp [Builtin.len_,run_underlying d,goInt],fun _ _ => .int _ _,.inr (.inl ⟨_,_,rfl⟩)⟩
 grind
theorem Addr.add_none (a:Addr) n (h:a.spot=none):a.add n=⟨a.block,a.off+n,none⟩:=by
 unfold Addr.add;split;· cases a;simp_all
 rfl
theorem aCg {fs i off n a} (h:xH P fs i=some (off,n,a)) :
  ∃ f,fs[i]?=some f/\f.offset=off/\szOf P f.type=some n/\agOf P f.type=some a:=by
 unfold xH at h;grind
theorem bA5 {s off n f e p} (r:okEl s e) (h:fld off n f e=some p) (u:0<n) :
  ∃ cs,e = .agg cs/\okEl (if f then n else 1) p/\(∀ j c,p.cells[j]?=some c->cs[off+j]?=some c/\off+j<s)/\(f=true->∃ ps,p = .agg ps)/\(f=false->(∀ cs,p ≠ .agg cs)/\(∀ cs,p ≠ .tuple cs)):=by
 unfold fld at h;split at h
 ·rename_i cs;obtain ⟨m,l,o,x⟩:=r;simp [PV.cells] at o;simp [PV.solid] at m;simp [PV.plain,PV.plainA] at l;have d:∀ (j:Nat) c,cs[j]?=some c->c.plain1=c:=by
   intro j c a;have:(cs.map PV.plain1)[j]?=some c:=by rw [l];exact a
   simp [a] at this;exact this
  refine ⟨cs,rfl,?_⟩;unfold part at h;cases f with
  | true =>
   simp only at h;split at h
   ·rename_i q;cases h;have i:∀ j c,((cs.drop off).take n)[j]?=some c->cs[off+j]?=some c:=by
     intro j c a;rw [abb] at a;split at a;· rwa [abu] at a
     simp at a
    refine ⟨⟨?_,?_,?_,by simpa using u⟩,?_,fun _=>⟨_,rfl⟩,by simp⟩;· simp [PV.solid];intro c a;exact by grind
    ·simp only [PV.plain,PV.plainA,PV.agg.injEq];apply aaS;intro j;rw [aa9];cases a:((cs.drop off).take n)[j]? with
     | none=>rfl
     | some c=>simp [d (off+j) c (i j c a)]
    ·simp [PV.cells];omega
    intro j c a;refine ⟨i j c a,?_⟩;have:=(aa2.1 (i j c a)).1;omega
   simp at h
  | false =>
   simp [jU] at h;have g:=m p (aad h);have w:=d off p h;have t:=(aa2.1 h).1;have k:∀ cs,p ≠ .agg cs:=by intro cs e;subst e;simp [PV.solid1] at g
   have v:∀ cs,p ≠ .tuple cs:=by intro cs e;subst e;simp [PV.solid1] at g
   have b:=aLX k;refine ⟨⟨?_,?_,by simp [b],by simp⟩,?_,by simp,fun _=>⟨k,v⟩⟩;· cases p<;>first | exact g | exact by grind
   ·cases p<;>first | exact w | exact by grind | exact by grind
   intro j c a;rw [b] at a;cases j with
   | zero=>simp at a;subst a;exact ⟨h,by omega⟩
   | succ j=>simp at a
 simp at h
theorem aVf {x r a} {s f off n:Nat} {C fs} (H:P.underlying s=some (.struct fs)) (G:xH P fs f=some (off,n,C)) (E:0<n)
  (h:fad off n C x=some r) (A:Rv M B x a):∃ v,(Instr.fieldAt s a f).run P w = .ok v w/\Rv M B r v/\((∃ d i o,r = .ptr d i o)∨∃ e,r = .ref e):=by
 obtain ⟨m,y,rfl,t,K⟩:=aCg G;have key:∀ k,k.spot=none->(Instr.fieldAt s (.pointer (some k)) f).run P w = .ok (.pointer (some ⟨k.block,k.off+m.offset,none⟩)) w:=by
  intro k z;simp [Instr.fieldAt,run_underlying H,y,Instr.sureAddr,fieldPlace,eX w t];rw [if_neg (by omega)];simp [Addr.add_none k _ z]
 unfold fad at h;split at h
 ·rename_i d id o;cases h;cases A with
  | ptr d id o b L=>exact ⟨_,by grind,.ptr d id (o+m.offset) b L,by simp⟩
 ·obtain ⟨p,N,h⟩:=aB h;cases h;cases A with
  | ref e k sz g J u S F =>
   obtain ⟨cs,rfl,q,l,O,R⟩:=bA5 u N E;refine ⟨_,key k J,?_,by simp⟩;refine .ref p ⟨k.block,k.off+m.offset,none⟩ _ (fun j=>g (m.offset+j)) rfl q ?_ ?_
   ·intro j D;have Q:j<p.cells.length:=by rw [q.2.2.1];exact D
    grind
   intro j c I;exact F (m.offset+j) c (l j c I).1
 grind
theorem aR3 {r xs cs} {t off n:Nat} {d} (b:szOf P t=some n) (a:agOf P t=some d) (h:part off n d cs=some r) (e:Rv M B (.agg cs) (.agg xs)) :
  ∃ v,(Go.part t xs off).run P w = .ok v w/\Rv M B r v:=by
 cases e with
 | agg _ _ f k j g =>
  unfold part at h;cases d with
  | true =>
   simp only at h;split at h;· cases h;refine ⟨.agg (xs.extract off (off+n)),by simp [Go.part,aBD w a,eX w b],?_⟩;refine .agg _ _ (fun i=>f (off+i)) (by grind) ?_ ?_;all_goals grind
   grind
  | false =>
   simp [jU] at h;have c:=(aa2.1 h).1;exact ⟨f off,by simp [Go.part,aBD w a,j off c],g off r h⟩
theorem bA6 {x r a} {s f off n:Nat} {j fs} (m:P.underlying s=some (.struct fs)) (l:xH P fs f=some (off,n,j))
  (h:fld off n j x=some r) (i:Rv M B x a):∃ v,(Instr.field s a f).run P w = .ok v w/\Rv M B r v:=by
 obtain ⟨q,e,rfl,b,c⟩:=aCg l;unfold fld at h;split at h
 ·have d:=i;cases i with
  | agg _ xs g t p o =>
   obtain ⟨v,hv,k⟩:=aR3 (P:=P) (w:=w) b c h d;exact ⟨v,by simp [Instr.field,run_underlying m,e,asAgg,hv],k⟩
 grind
theorem aVg {x i r a b} {t e n:Nat} (G:P.underlying t=some (.slice e)) (g:szOf P e=some n) (h:ix n x i=some r) (F:Rv M B x a) (E:Rv M B i b) :
  ∃ v,(Instr.indexAt t a b).run P w = .ok v w/\Rv M B r v/\((∃ e,r = .ref e)∨∃ d i o,r = .ptr d i o):=by
 unfold ix at h;split at h
 ·rename_i es J o k m;split at h;· grind
  rename_i L;obtain ⟨D,l,h⟩:=aB h;split at h
  ·rename_i K;cases h;rw [jU] at l;have O:=(aa2.1 l).1;rw [E.int_inv];cases F with
   | nil o=>grind
   | slice es J o q cap s f y I T C N U =>
    have y:=y (by omega);have p:(es++J)[m.toNat]?=some D:=by grind
    have H:=C _ _ p;have z:s=n:=by rw [<- H.2.2.1];omega
    subst z;refine ⟨.pointer (some ⟨q.block,q.off+m.toNat*s,none⟩),?_,?_,by simp⟩
    ·have u:0<=m:=by omega
     have A:m<es.length:=by omega
     simp [Instr.indexAt,run_underlying G,asIntOf,u,A,eX w g,Addr.add_none q _ y]
    exact .ref D _ s (fun j=>f m.toNat j) rfl H (fun j S=>by grind) (fun j c I=>by grind)
  grind
 ·rename_i d id Q sz k m;split at h
  ·rename_i N;cases h;rw [E.int_inv];cases F with
   | rsl _ _ _ _ bk cap R I =>
    refine ⟨.pointer (some ⟨bk,0+m.toNat*n,none⟩),?_,?_,by simp⟩
    ·have u  := N.1;have A:m<Q:=by omega
     simp [Instr.indexAt,run_underlying G,asIntOf,u,A,eX w g,Addr.add_none ⟨bk,0,none⟩ _ rfl]
    rw [aae];exact .ptr d id _ bk R
   | rslNil=>omega
  grind
 grind
theorem aR4 {x i r a b} {t e len n:Nat} (p:P.underlying t=some (.array len e)) (c:szOf P e=some n) (h:bHb len n x i=some r) (g:Rv M B x a) (j:Rv M B i b) :
  ∃ v,(Instr.indexAt t a b).run P w = .ok v w/\Rv M B r v/\∃ d i o,r = .ptr d i o:=by
 unfold bHb at h;split at h
 ·rename_i d id o k m;split at h
  ·rename_i f;cases h;rw [j.int_inv];cases g with
   | ptr d id o bk l =>
    refine ⟨.pointer (some ⟨bk,o+m.toNat*n,none⟩),?_,.ptr d id _ bk l,⟨_,_,_,rfl⟩⟩;simp [Instr.indexAt,run_underlying p,asIntOf,Instr.sureAddr,f.1,f.2,eX w c,Addr.add_none (⟨bk,o,none⟩:Addr) _ rfl]
  grind
 grind
theorem aR5 {x i r a b} {t:Nat} (n:P.underlying t=some .string) (h:aU8 x i=some r) (g:Rv M B x a) (j:Rv M B i b) :
  ∃ v,(Instr.index t a b).run P w = .ok v w/\(∀ M B,Rv M B r v)/\Flat r:=by
 unfold aU8 at h;split at h
 ·rename_i s k m;split at h;· grind
  obtain ⟨c,e,h⟩:=aB h;cases h;rw [jU] at e;have d:=(aa2.1 e).1;rw [j.int_inv,g.str_inv];refine ⟨.int .u8 c.toNat,?_,fun _ _ => .int _ _,.inr (.inl ⟨_,_,rfl⟩)⟩;have f:0<=m:=by omega
  have l:(ByteArray.mk s.toArray)[m.toNat]?=some c:=by
   have  := by simpa [ByteArray.size] using d
   rw [getElem?_pos (ByteArray.mk s.toArray) m.toNat this];show some (s.toArray[m.toNat]'_)=some c;grind
  simp [Instr.index,asIntOf,run_underlying n,f,l]
 grind
theorem aR6 {x i r a b} {t e len n:Nat} {k} (o:P.underlying t=some (.array len e)) (c:szOf P e=some n) (d:agOf P e=some k) (h:bHc len n k x i=some r) (j:Rv M B x a) (p:Rv M B i b) :
  ∃ v,(Instr.index t a b).run P w = .ok v w/\Rv M B r v:=by
 unfold bHc at h;split at h
 ·split at h
  ·rename_i l;rw [p.int_inv];have f:=j;cases j with
   | agg _ xs g u s q =>
    obtain ⟨v,hv,m⟩:=aR3 (P:=P) (w:=w) c d h f;exact ⟨v,by simp [Instr.index,asIntOf,run_underlying o,l.1,l.2,eX w c,hv],m⟩
  grind
 grind
end
section
variable {P : Program} {base : Base} {M : Mem} {B : BM} {st : St} {tm : Array Value} {w : World}
theorem aZl {x n} (h:aDx x=some n):∃ (k:IntKind) (m:Int),x = .int k m/\0<=m/\n=m.toNat:=by
 unfold aDx at h;grind
theorem aVh {s n l} (a:∀ (i:Nat) e,l[i]?=some e->okEl s e) (h:szOk n l=true) (b:l≠[]):s=n:=by
 cases l with
 | nil=>grind
 | cons e l =>
  have:=(a 0 e rfl).2.2.1;simp [szOk] at h;omega
theorem Rv.sub {es b o a n l h} (F:Rv M B (.slice es b o) a) (K:l<=h) (x:h<=es.length+b.length) (t:szOk n (es++b)=true) :
  ∃ d len cap,a = .slice d len cap/\len=es.length/\es.length+b.length<=cap /\
   Rv M B (.slice (((es++b).take h).drop l) ((es++b).drop h) false) (sliced d l h cap n):=by
 cases F with
 | nil o =>
  simp at x;obtain rfl:l=0:=by omega
  obtain rfl:h=0:=by omega
  refine ⟨none,0,0,rfl,rfl,by simp,?_⟩;simp;exact .nil false
 | slice es b o d cap s f P I L w J N =>
  refine ⟨some d,es.length,cap,rfl,rfl,I,?_⟩;have g:(((es++b).take h).drop l).length=h-l:=by simp;omega
  have k:((es++b).drop h).length=es.length+b.length-h:=by simp
  have p:∀ i e,(((es++b).take h).drop l++(es++b).drop h)[i]?=some e->(es++b)[l+i]?=some e:=by
   grind
  by_cases m:cap=l
  ·have D:h=l:=by omega
   subst D;have C:((es++b).take h).drop h=[]:=by simp
   have G:(es++b).drop h=[]:=by simp;omega
   rw [C,G];subst m;simp [sliced];exact .slice [] [] false d 0 1 (fun _ _=>undef) (fun O=>by omega) (by simp) (by simp) (by simp) (by simp) (by simp)
  have r:sliced (some d) l h cap n = .slice (some ⟨d.block,d.off+l*n,none⟩) (((es++b).take h).drop l).length (cap-l):=by
   simp [sliced,if_neg m,Addr.add_none d _ (by grind),g]
  rw [r];refine .slice _ _ false ⟨d.block,d.off+l*n,none⟩ (cap-l) s (fun i j=>f (l+i) j) (fun _=>rfl) (by rw [g,k];omega) (by simp) ?_ ?_ ?_;· intro i e u;exact by grind
  ·intro i e j u z;have v:=p i e u;have q:es++b≠[]:=by intro E;rw [E] at v;simp at v
   have H  := aVh w t q;subst H;have:=J (l+i) e j v z;rw [show d.off+l*s+i*s+j=d.off+(l+i)*s+j by rw [aam];omega];exact this
  intro i e j c u y;exact by grind
theorem bA7 {x r a} {t e n l h:Nat} (m:P.underlying t=some (.slice e)) (f:szOf P e=some (n+1)) (c:aIZ (n+1) x l h=some r) (j:Rv M B x a)
  {k q} (s:∀ len cap,lenN (n+1) x=some len->h<=cap->l<=h->len<=cap->(Instr.sliceBounds true len cap k q none).run P w = .ok (l,h,cap) w) :
  ∃ v,(Instr.sliceAt t a k q none).run P w = .ok v w/\Rv M B r v/\fD r v:=by
 unfold aIZ at c;split at c;· omega
 ·rename_i es z o y i;cases i;split at c;· rename_i b;cases c;obtain ⟨d,len,cap,rfl,rfl,u,g⟩:=j.sub b.1 b.2.1 b.2.2;refine ⟨_,?_,g,rH _ _ _⟩;have:=s es.length cap rfl (by omega) b.1 (by omega);simp [Instr.sliceAt,Instr.slice,run_underlying m,this,eX w f,sliced]
  grind
 ·split at c
  ·rename_i b;obtain ⟨rfl,rfl⟩:=b;cases c;cases j with
   | mk0 sz d cap p =>
    refine ⟨sliced (some d) 0 0 cap (n+1),?_,?_,rH _ _ _⟩;· have:=s 0 cap rfl (by omega) (by omega) (by omega);simp [Instr.sliceAt,Instr.slice,run_underlying m,this,eX w f,sliced]
    by_cases b:cap=0;· subst b;exact .slice [] [] false d 0 1 (fun _ _=>undef) (fun _=>p.1) (by simp) (by simp) (by simp) (by simp) (by simp)
    simp only [sliced,if_neg b,aat,Addr.add_none d _ p.1];exact .slice [] [] false ⟨d.block,d.off+0*(n+1),none⟩ (cap-0) 1 (fun _ _=>undef) (fun _=>rfl) (by simp) (by simp) (by simp) (by simp) (by simp)
  grind
 grind
theorem aZm {x r a} {t l h:Nat} (j:P.underlying t=some .string) (b:aIZ 0 x l h=some r) (f:Rv M B x a)
  {d c} (i:∀ len,lenN 0 x=some len->h<=len->l<=h->(Instr.sliceBounds false len len d c none).run P w = .ok (l,h,len) w) :
  ∃ v,(Instr.sliceAt t a d c none).run P w = .ok v w/\(∀ M B,Rv M B r v)/\Flat r:=by
 unfold aIZ at b;split at b
 ·rename_i s _;split at b
  ·rename_i e;cases b;rw [f.str_inv];refine ⟨.string ((ByteArray.mk s.toArray).extract l h),?_,?_,.inr (.inr ⟨_,rfl⟩)⟩
   ·have g:(ByteArray.mk s.toArray).size=s.length:=by simp [ByteArray.size]
    have:=i s.length rfl e.2 e.1;simp [Instr.sliceAt,Instr.slice,run_underlying j];simp_all
   intro M B;have:(ByteArray.mk s.toArray).extract l h=⟨((s.take h).drop l).toArray⟩:=by
    apply ByteArray.ext;simp [List.drop_take]
   rw [this];exact .str _
  grind
 all_goals grind
theorem aR7 b len cap:(Instr.sliceBounds b len cap none none none).run P w = .ok (0,len,cap) w:=by simp [Instr.sliceBounds]
theorem aR8 b len cap k l (a:0<=l) (c:l.toNat<=len):(Instr.sliceBounds b len cap (some (.int k l)) none none).run P w = .ok (l.toNat,len,cap) w:=by
 have:=run_sliceBound (P:=P) w k l len .sliceB a (by omega);simp [Instr.sliceBounds,this]
theorem aR9 b len cap k h (a:0<=h) (c:h.toNat<=cap):(Instr.sliceBounds b len cap none (some (.int k h)) none).run P w = .ok (0,h.toNat,cap) w:=by
 have:=run_sliceBound (P:=P) w k h cap (if b then .sliceAcap else .sliceAlen) a (by omega);simp [Instr.sliceBounds,this]
theorem aSa b len cap k k' l h (d:0<=l) (g:l.toNat<=h.toNat) (a:0<=h) (f:h.toNat<=cap) :
  (Instr.sliceBounds b len cap (some (.int k l)) (some (.int k' h)) none).run P w = .ok (l.toNat,h.toNat,cap) w:=by
 have e:=run_sliceBound (P:=P) w k' h cap (if b then .sliceAcap else .sliceAlen) a (by omega);have c:=run_sliceBound (P:=P) w k l h.toNat .sliceB d (by omega);simp [Instr.sliceBounds,e,c]
theorem bA8 {x r a s d k q} (c:P.underlying s=some q) (e:P.underlying d=some (.int k)) (h:bEb k x=some r) (b:Rv M B x a) :
  ∃ v,(convert s d a).run P w = .ok v w/\(∀ M B,Rv M B r v)/\Flat r:=by
 unfold bEb at h;split at h;· cases h;rw [b.int_inv];exact ⟨.int k _,by simp [convert,run_underlying c,run_underlying e,Conv.intToInt],fun _ _ => .int _ _,.inr (.inl ⟨_,_,rfl⟩)⟩
 grind
theorem aJ7:∀ es s,aHm es=some s->s.length=es.length/\∀ (i:Nat) b,s[i]?=some b->∃ n,es[i]?=some (.int .u8 n)/\b=UInt8.ofNat n.toNat
 | [],s,h=>by simp [aHm] at h;grind
 | e::es,s,h=>by
  simp [aHm] at h;split at h
  ·rename_i b r d a;obtain ⟨g,f⟩:=aJ7 es r a;refine ⟨by grind,?_⟩;intro i c j;cases i with
   | zero =>
    unfold bGI at d;grind
   | succ i=>grind
  grind
theorem aHu a len cap (b:List Int) (h:(loadCells a len).run P w = .ok (b.map (Value.int .u8)).toArray w) :
  (Conv.bytesToString (.slice (some a) len cap)).run P w = .ok (.string ⟨(b.map fun n=>UInt8.ofNat n.toNat).toArray⟩) w:=by
 rw [run_bytesToString w a len cap b h];have c:∀ (b:List Int) (r:ByteArray),b.foldl (fun r n=>r.push (UInt8.ofNat n.toNat)) r=⟨r.data++(b.map fun n=>UInt8.ofNat n.toNat).toArray⟩:=by
  intro b;induction b with
  | nil=>simp
  | cons n b d=>simp_all
 simp_all
theorem bA9 {x r a s d e} (c:P.underlying s=some (.slice e)) (he:P.underlying e=some (.int .u8)) (g:P.underlying d=some .string)
  (z:Cons M w) (h:bHe x=some r) (t:Rv M B x a):∃ v,(convert s d a).run P w = .ok v w/\(∀ M B,Rv M B r v)/\Flat r:=by
 unfold bHe at h;split at h
 ·rename_i es u o;obtain ⟨str,hstr,h⟩:=aB h;cases h;obtain ⟨p,A⟩:=aJ7 es str hstr;refine ⟨.string ⟨str.toArray⟩,?_,fun _ _ => .str _,.inr (.inr ⟨_,rfl⟩)⟩;cases t with
  | nil o =>
   simp at p;subst p;rw [run_convert_bytes_string w s d e none 0 0 c he g];rfl
  | slice es u o ad cap sz f C q F l D y =>
   rw [run_convert_bytes_string w s d e (some ad) es.length cap c he g]
   -- the numbers
   let ns  := es.map fun e=>match e with | .int _ n=>n | _=>0;have b:∀ i,i<es.length->∃ n,es[i]?=some (.int .u8 n)/\ns[i]?=some n/\str[i]?=some (UInt8.ofNat n.toNat):=by
    intro i E;have hi2:i<str.length:=by omega
    obtain ⟨n,h1,k⟩:=A i str[i] (by simp);exact ⟨n,h1,by simp [ns,h1],by rw [aa4 hi2,k]⟩
   have hload:(loadCells ad es.length).run P w = .ok (ns.map (Value.int .u8)).toArray w:=by
    have hlen:es.length=(ns.map (Value.int .u8)).length:=by simp [ns]
    rw [hlen];apply run_loadCells_list;intro j v hj;have hj'  := by have:=(aa2.1 hj).1;simpa [ns] using this
    obtain ⟨n,h1,k,_⟩:=b j hj';have hin:(es++u)[j]?=some (.int .u8 n):=by rw [aaq hj'];exact h1
    have m:=l j _ hin;have hsz1:sz=1:=m.2.2.1.symm;subst hsz1;have hMem:=D j _ 0 hin (by omega);have hv:=y j _ 0 (.int .u8 n) hin (by simp [PV.cells]);rw [hv.int_inv] at hMem;simp at hMem;obtain ⟨arr,T,fz,hrow,hget⟩:=z _ _ _ hMem;rw [aa9,k] at hj;simp at hj;subst hj;rw [Addr.add_none ad j (by grind)];simp [World.cell?,hrow,hget]
   rw [aHu ad es.length cap ns hload];congr 4;apply aaS;grind
 ·cases h;cases t with
  | mk0 sz ad cap C =>
   refine ⟨.string ⟨#[]⟩,?_,fun _ _ => .str [],.inr (.inr ⟨_,rfl⟩)⟩;rw [run_convert_bytes_string w s d e (some ad) 0 cap c he g];rfl
 simp at h
end
section
variable {P : Program} {base : Base} {M : Mem} {B : BM} {st : St} {tm : Array Value} {w : World}
theorem aAB cs:(List.range cs.length).map (gt cs)=cs:=by
 apply aaS;intro i;by_cases h:i<cs.length;· simp [h,aHp]
 grind
theorem aSb {v:Value} (h:v.oneCell'=true):v.cells = #[v]:=by cases v<;>first | rfl | simp [Value.oneCell'] at h
theorem Rv.oneCell2 {p v} (h:Rv M B p v) (d:∀ cs,p ≠ .agg cs) (c:∀ cs,p ≠ .tuple cs) (b:p ≠ .bot) (a:p ≠ .und):v.oneCell'=true:=by
 cases h<;>first | rfl | grind | grind | grind | grind
theorem aL4 {n D p cs v} (h:sR n D p=some cs) (l:Rv M B p v) :
  cs.length=n/\v.cells.size=n/\(∀ j c,cs[j]?=some c->Rv M B c (v.cells.getD j undef)) /\
   (∀ b,dA cs.length (fun j=>c1 (cs.getD j .bot) (v.cells.getD j undef) b)=cV p v b) /\
   (∀ w base,hV M w base B p v->∀ j c,cs[j]?=some c->h1 M w base B c (v.cells.getD j undef)):=by
 unfold sR at h;split at h
 ·rename_i C;split at h
  ·rename_i m;subst m;rw [aAB] at h;cases h;cases l with
   | agg _ vs f m A l =>
    have u:∀ i,i<cs.length->vs.getD i undef=f i:=by intro i E;simp [A i E]
    refine ⟨rfl,m,?_,fun b=>(bA3 cs vs b m).symm,?_⟩;· intro j c d;have g:=(aa2.1 d).1;have r:=l j c d;show Rv M B c (vs.getD j undef);rw [u j g];exact r
    intro w base t j c d;have g:=(aa2.1 d).1;refine t (c,vs.getD j undef) ?_;show (c,vs.getD j undef)∈cs.zip vs.toList;apply aad (i:=j);rw [abG];exact ⟨d,by simp [A j g]⟩
  simp at h
 ·simp at h
 ·simp at h
 ·simp at h
 ·simp at h
 ·simp at h
 rename_i s o q z;split at h
 ·cases h;have x  := fun cs e=>s cs e;have y  := fun cs e=>o cs e;have k:=l.oneCell2 x y (fun e=>q e) (fun e=>z e);rw [aSb k];refine ⟨rfl,rfl,?_,?_,?_⟩
  ·intro j c d;cases j with
   | zero=>simp at d;subst d;exact l
   | succ j=>simp at d
  ·intro b;rw [aDG x y];simp [dA]
  intro w base t j c d;cases j with
  | zero=>simp at d;subst d;exact (aHt x y).1 t
  | succ j=>simp at d
 simp at h
theorem aE5 {n l p cs v d} (h:sR n l p=some cs) (i:Rv M B p v) (f:cs.all (fits d)=true) :
  cs.length=n/\v.cells.size=n/\(∀ j c,cs[j]?=some c->Rv M B c (v.cells.getD j undef)/\fits d c=true/\(v.cells.getD j undef).oneCell'=true) /\
   (∀ b,dA cs.length (fun j=>c1 (cs.getD j .bot) (v.cells.getD j undef) b)=cV p v b) /\
   (∀ w base,hV M w base B p v->∀ j c,cs[j]?=some c->h1 M w base B c (v.cells.getD j undef)):=by
 obtain ⟨o,k,g,q,m⟩:=aL4 h i;rw [aak] at f;refine ⟨o,k,?_,q,m⟩;intro j c e;have a:=f c (aad e);exact ⟨g j c e,a,(g j c e).oneCell a⟩
theorem aVi (st:St) ws a r nw (b:st.bx=a::r):({ws:=ws,nw:=[nw]}:Eff).app st=⟨ws++st.fr,(nw::a)::r⟩:=by
 cases st with
 | mk fr bx=>subst b;rfl
theorem jV {a dst id} (h:lB a st dst=some id):dst=some id/\id<a/\∃ b r,st.bx=b::r/\look b id=none:=by
 unfold lB at h;grind
theorem bBa (h:SR base M B st tm w) {o n x p v lv e T}
  (he:newBox tm.size o n x p lv st some=some e) (h1s:SR base M B {st with fr:=lv++st.fr} tm w) (m:Rv M B p v) (E:hV M w base B p v)
  (ht:∀ b,tot (lv++st.fr) tm w B st.bx b+cV p v b<=tot st.fr tm w B st.bx b) :
  Aft base M B st tm w e (putT tm o.dst (.pointer (some ⟨w.heap.size,0,none⟩))) {w with heap:=w.heap.push (.cells v.cells T (0,0))}:=by
 unfold newBox at he;split at he
 ·rename_i id hid;obtain ⟨hdst,hlt,D,r,hbx,hlook⟩:=jV hid;obtain ⟨cs,hcs,he⟩:=aB he;rcases bQ he with ⟨t,he⟩ | ⟨_,he⟩
  ·cases he;obtain ⟨G,k,hrel,hcnt,u⟩:=aE5 hcs m t;obtain ⟨y,f⟩:=h1s.newBox (w':={w with heap:=w.heap.push (.cells v.cells T (0,0))}) (xs:=v.cells) (T:=T) (vs:=cs) hbx hlook rfl (by omega)
    (fun j c hc=>⟨(hrel j c hc).1,by grind,(hrel j c hc).2.1⟩) (fun b=>by rw [hcnt b];exact aa5 (ht b) (h.one b))
   have hrp:Rv M (setB B id w.heap.size) (.ptr 0 id 0) (.pointer (some ⟨w.heap.size,0,none⟩)) := .ptr 0 id 0 _ (by simp [setB]);obtain ⟨s,C⟩:=y.putN o.dst hrp (oA _ _ _ _);unfold Aft;rw [aVi st _ D r (id,cs) hbx];have hws:dstW tm.size o.dst (.ptr 0 id 0)++(lv++st.fr)=(id,.ptr 0 id 0)::lv++st.fr:=by simp [dstW,hdst,hlt]
   refine ⟨iH _ _ _,M,setB B id w.heap.size,?_,?_⟩;· rw [<- hws];exact s
   rw [<- hws];refine ⟨rfl,rfl,rfl,by simp,fun _ _ _ l=>l,?_,?_,?_,fun d z=>by simp [setB]⟩;· intro b hb _;exact ⟨by simp only [abq];rw [if_neg (by omega)],fun _=>rfl⟩
   ·intro b hb;have g:=C b;have q:=f b;have H:=hcnt b;have F:=ht b;simp only at g q ⊢;omega
   intro d i b hB hb;unfold setB at hB;split at hB;· simp at hB;omega
   exact ⟨d,i,hB⟩
  simp at he
 simp at he
theorem sU {d id blk cs} (h:SR base M B st tm w) (g:bD st.bx d id=some cs) (f:B d id=some blk) (k:xG cs=false:=by first | rfl | exact yY (by assumption) | assumption):∃ arr T fz,w.heap[blk]?=some (.cells arr T fz)/\(phys cs).length<=arr.size/\(∀ i,i<(phys cs).length->¬ (fz.1<=i/\i<fz.2)) /\
  BoxOk M w base B d blk cs/\∀ j,j<(phys cs).length->w.cell? ⟨blk,j,none⟩=some (cP w blk j):=by
 have e:=h.box.get g f;obtain ⟨arr,T,fz,a,b,c⟩:=e.row.cells k;refine ⟨arr,T,fz,a,b,c,e,?_⟩;intro j l;have:j<arr.size:=by omega
 simp [cP,World.cell?,a,this]
theorem aBl {t n:Nat} {a blk off} (d:szOf P t=some n) (e:agOf P t=some a) (c:∀ j,j<n->w.cell? ⟨blk,off+j,none⟩=some (cP w blk (off+j))) (b:a=false->0<n) :
  (Instr.loadAt t (.pointer (some ⟨blk,off,none⟩))).run P w = .ok (if a then .agg ((List.range n).map fun j=>cP w blk (off+j)).toArray else cP w blk off) w:=by
 simp [Instr.loadAt,Instr.sureAddr,loadVar,aBD w e];cases a with
 | true =>
  simp [eX w d];rw [run_loadCells w ⟨blk,off,none⟩ n (fun j=>cP w blk (off+j)) (fun j f=>by rw [Addr.add_none _ _ rfl];grind)];rfl
 | false =>
  have:=c 0 (b rfl);simp_all
theorem aQf {d blk off n ag cs0 cs v} (E:BoxOk M w base B d blk cs0) (hcs0:phys cs0=cs) (h:part off n ag cs=some v) (p:ag=false->n=1) :
  off+n<=cs.length /\
  Rv M B (aBg d v) (if ag then .agg ((List.range n).map fun j=>cP w blk (off+j)).toArray else cP w blk off) /\
  hV M w base B (aBg d v) (if ag then .agg ((List.range n).map fun j=>cP w blk (off+j)).toArray else cP w blk off) /\
  (∀ b,cV (aBg d v) (if ag then .agg ((List.range n).map fun j=>cP w blk (off+j)).toArray else cP w blk off) b=dA n (fun j=>c1 (cs.getD (off+j) .bot) (cP w blk (off+j)) b)) /\
  (dN ag v).length=n/\∀ j c,(dN ag v)[j]?=some c->∃ c0,cs[off+j]?=some c0/\c=c0.plain1:=by
 obtain ⟨_,_,_,okrel⟩:=E;rw [hcs0] at okrel;unfold part at h;cases ag with
 | true =>
  simp only at h;split at h
  ·rename_i k;cases h;have hlen:((cs.drop off).take n).length=n:=by simp;omega
   have g:∀ j c,((cs.drop off).take n)[j]?=some c->cs[off+j]?=some c/\j<n:=by
    intro j c hc;rw [abb] at hc;split at hc;· exact ⟨by rwa [abu] at hc,by assumption⟩
    simp at hc
   have hra:aBg d (.agg ((cs.drop off).take n)) = .agg (((cs.drop off).take n).map (Ev.raise1 d)):=aQb d _;have z:(((List.range n).map fun j=>cP w blk (off+j)).toArray).size=n:=by simp
   have l:∀ j,j<n->(((List.range n).map fun j=>cP w blk (off+j)).toArray).getD j undef=cP w blk (off+j):=by
    intro j hj;simp [aaB,hj]
   rw [hra];simp only [if_true];refine ⟨k,?_,?_,?_,?_,?_⟩
   ·refine .agg _ _ (fun j=>cP w blk (off+j)) (by simp;omega) ?_ ?_;· intro i hi;simp only [aau,hlen] at hi;simp [hi]
    intro i c hc;rw [aa9,aan] at hc;obtain ⟨c0,h0,rfl⟩:=hc;obtain ⟨f,r2,r3⟩:=okrel (off+i) c0 (g i c0 h0).1;exact f.raise1 r3
   ·intro x s;simp only [atoms,zipA] at s;obtain ⟨i,hi⟩:=aao.1 s;rw [abG] at hi;obtain ⟨q,r⟩:=hi;rw [aa9,aan] at q;obtain ⟨c0,h0,C⟩:=q;obtain ⟨f,r2,r3⟩:=okrel (off+i) c0 (g i c0 h0).1;have m:=(g i c0 h0).2;have o:x.2=cP w blk (off+i):=by
     have:(((List.range n).map fun j=>cP w blk (off+j)).toArray.toList)[i]?=some (cP w blk (off+i)):=by simp [m]
     rw [this] at r;exact (aaa r).symm
    rw [<- C,o];exact (aXB d c0 _).2 r2
   ·intro b;rw [bA3 _ _ _ (by simp;omega),aau,hlen];apply gW;intro j hj;rw [l j hj];have hj2:off+j<cs.length:=by omega
    have u:((cs.drop off).take n)[j]?=some cs[off+j]:=by
     rw [abb,if_pos hj,abu,aa4 hj2]
    have o:((((cs.drop off).take n).map (Ev.raise1 d)).getD j .bot)=Ev.raise1 d cs[off+j]:=by
     rw [aaX,aa9,u];rfl
    rw [o];simp [c1,aO0,aaX,aa4 hj2,aaN]
   ·simp [dN];omega
   intro j c hc;simp only [dN,aa9,aan] at hc;obtain ⟨c0,h0,rfl⟩:=hc;exact ⟨c0,(g j c0 h0).1,rfl⟩
  simp at h
 | false =>
  simp [jU] at h;have y:=p rfl;subst y;have t:=(aa2.1 h).1;obtain ⟨f,r2,r3⟩:=okrel off v h;have D:∀ cs,v ≠ .agg cs:=by intro cs e;subst e;simp [fits,PV.solid1] at r3
  have F:∀ cs,v ≠ .tuple cs:=by intro cs e;subst e;simp [fits,PV.solid1] at r3
  have hra:aBg d v=Ev.raise1 d v:=by
   rw [aQb];cases v<;>first | rfl | exact absurd rfl (D _)
  have na':∀ cs,Ev.raise1 d v ≠ .agg cs:=by intro cs e;cases v<;>simp_all [Ev.raise1]
  have nt':∀ cs,Ev.raise1 d v ≠ .tuple cs:=by intro cs e;cases v<;>simp_all [Ev.raise1]
  rw [hra];simp [abv,if_false];refine ⟨by omega,f.raise1 r3,(aHt na' nt').2 ((aXB d v _).2 r2),?_,by simp [dN],?_⟩;· intro b;rw [aDG na' nt'];simp [dA,Nat.add_zero,aae,c1,aO0,h]
  intro j c hc;cases j with
  | zero=>simp [dN] at hc;subst hc;exact ⟨v,by simpa using h,rfl⟩
  | succ j=>simp [dN] at hc
theorem vR bx d id off vs cs (h:bD bx d id=some cs):fC bx [(d,id,off,vs)]=cN bx d id (putAt cs off vs):=by
 simp [fC,h]
theorem rV bx:aDf bx []=bx:=by cases bx<;>rfl
theorem aHv {c} (a:∀ b,b<w.heap.size->c b<=tot st.fr tm w B st.bx b):Evo w M (tot st.fr tm w B st.bx) B w M c B :=
 { Evo.refl w M (tot st.fr tm w B st.bx) B with tle:=a}
theorem bEg (h : SR base M B st tm w) {dst} {t n d id off : Nat} {ag a cs v} {e : Eff}
  (hn : szOf P t = some n) (ha : agOf P t = some ag) (hn1 : ag = false -> n = 1) (hp : Rv M B (.ptr d id off) a) (hb : bD st.bx d id = some cs) (hnv : nW cs = false) (hv : part off n ag cs = some v) :
  ∃ x, (Instr.loadAt t a).run P w = .ok x w /\
   Aft base M B st tm w { cr := [(d, id, off, n)], ws := dstW tm.size dst (aBg d v).plain } (putT tm dst x) w /\
   Aft base M B st tm w { cr := [(d, id, off, n)], cw := [(d, id, off, dN ag v)], ws := dstW tm.size dst (aBg d v) } (putT tm dst x) w := by
 cases hp with
 | ptr _ _ _ blk hB =>
  have hph := uF hnv;obtain ⟨arr, T, fz, hrow, hsz, hfz, ok, hcell⟩ := sU h hb hB;rw [hph] at hsz hcell hfz;obtain ⟨hle, r1, r2, r3, r4, r5⟩ := aQf ok hph hv hn1;refine ⟨_, aBl hn ha (fun j hj => hcell _ (by omega)) (fun e => by have := hn1 e; omega), ?_, ?_⟩;· obtain ⟨k1, k2⟩ := h.putN dst r1.plain (cU _ _);have happ : ({ cr := [(d, id, off, n)], ws := dstW tm.size dst (aBg d v).plain } : Eff).app st = { st with fr := dstW tm.size dst (aBg d v).plain ++ st.fr } := aJ6 st _;unfold Aft;rw [happ];exact ⟨iH _ _ _, M, B, k1, aHv fun b _ => k2 b⟩
  ·have hlen : (putAt cs off (dN ag v)).length = cs.length := eM _ _ _;have hget : ∀ (j : Nat) c, (putAt cs off (dN ag v))[j]? = some c -> ∃ c0, cs[j]? = some c0 /\ (c = c0 ∨ c = c0.plain1) := by
    intro j c hc;rw [iX _ _ _ _ (by omega)] at hc;split at hc;· rename_i hj;obtain ⟨c0, h0, rfl⟩ := r5 _ _ hc;rw [show off + (j - off) = j by omega] at h0;exact ⟨c0, h0, .inr rfl⟩
    ·exact ⟨c, hc, .inl rfl⟩
   have hcnt : ∀ b, dX w blk 0 (putAt cs off (dN ag v)) b + dA n (fun j => c1 (cs.getD (off + j) .bot) (cP w blk (off + j)) b) = dX w blk 0 cs b := by
    intro b;rw [rT, rT, hlen];have := aCe (f := fun j => c1 (cs.getD j .bot) (cP w blk (0 + j)) b) (f' := fun j => c1 ((putAt cs off (dN ag v)).getD j .bot) (cP w blk (0 + j)) b) (g := fun _ => 0) (len := cs.length) (off := off) n hle
     (fun i hi hni => by
      simp only [aaX];rw [iX _ _ _ _ (by omega), if_neg (by omega)])
     (fun j hj => by
      simp only [aaX];rw [iX _ _ _ _ (by omega), if_pos (by omega)];have hjl : off + j - off < (dN ag v).length := by omega
      obtain ⟨c0, _, e0⟩ := r5 _ _ (aa4 hjl);rw [aa4 hjl, aaN, e0];simp [c1, aGw])
    simp only [aae] at this ⊢;rw [nB (f := fun _ => 0) n (fun _ _ => rfl)] at this;omega
   obtain ⟨k1, k2⟩ := h.setBox (w' := w) hb hB hnv hlen (fun _ _ => rfl) rfl ⟨arr, T, fz, hrow, hsz, hfz⟩ (by
    intro j c hc;obtain ⟨c0, h0, hcc⟩ := hget j c hc;obtain ⟨q1, q2, q3⟩ := ok.rel j c0 (by rw [hph]; exact h0);rcases hcc with rfl | rfl;· exact ⟨q1, q2, q3⟩
    refine ⟨q1.plain1, yL (aGw _ _), ?_⟩;cases c0 <;> simp_all [PV.plain1, fits, PV.solid1]) (by
    intro b;have := h.one b;have := hcnt b;omega)
   have hone : ∀ b, tot st.fr tm w B (cN st.bx d id (putAt cs off (dN ag v))) b + cV (aBg d v) (if ag then .agg ((List.range n).map fun j => cP w blk (off + j)).toArray else cP w blk off) b = tot st.fr tm w B st.bx b := by
    intro b;have e1 := k2 b;have e2 := hcnt b;have e3 := r3 b;omega
   obtain ⟨q1, q2⟩ := k1.put dst r1 r2 (fun b => by have := hone b; have := h.one b; simp; omega);have happ : ({ cr := [(d, id, off, n)], cw := [(d, id, off, dN ag v)], ws := dstW tm.size dst (aBg d v) } : Eff).app st = ⟨dstW tm.size dst (aBg d v) ++ st.fr, cN st.bx d id (putAt cs off (dN ag v))⟩ := by
    simp [Eff.app, vR _ _ _ _ _ _ hb, rV]
   unfold Aft;rw [happ];refine ⟨iH _ _ _, M, B, q1, aHv fun b _ => ?_⟩;have e1 := q2 b;have e2 := hone b;simp at e1 ⊢;omega
theorem aVj (h:SR base M B st tm w) {dst} {t n:Nat} {r a x v}
  (D:szOf P t=some n) (u:agOf P t=some r) (H:Rv M B (.ref x) a) (hv:aU7 n r x=some v) :
  ∃ y,(Instr.loadAt t a).run P w = .ok y w/\Aft base M B st tm w {ws:=dstW tm.size dst v.plain} (putT tm dst y) w:=by
 cases H with
 | ref e d s f l k I q =>
  have b:∀ j,j<s->w.cell? (d.add j)=some (f j):=by
   intro j C;obtain ⟨arr,T,fz,g,G⟩:=h.cons _ _ _ (I j C);rw [Addr.add_none d j l];simp [World.cell?,g,G]
  unfold aU7 at hv;split at hv
  ·rename_i cs;split at hv
   ·rename_i J;cases hv;have o:s=n:=by have:=k.2.2.1;simp [PV.cells] at this;omega
    subst o;refine ⟨.agg ((List.range s).map f).toArray,?_,?_⟩;· simp [Instr.loadAt,aaT,Instr.sureAddr,loadVar,aBD w u,eX w D,run_loadCells w d s f b]
    refine pE h (Rv.plain ?_) (cU _ _);refine .agg cs _ f (by grind) (by grind) ?_;intro i c F;exact q i c F
   grind
  ·grind
  ·grind
  ·grind
  rename_i m z;cases hv;have E:=aLX (p:=x) (fun cs e=>m cs e);have o:s=1:=by have:=k.2.2.1;grind
  subst o;refine ⟨f 0,?_,?_⟩
  ·have:=b 0 (by omega);rw [Addr.add_none d 0 l] at this;have e:(⟨d.block,d.off+0,none⟩:Addr)=d:=by cases d;simp_all
   rw [e] at this;simp [Instr.loadAt,Instr.sureAddr,loadVar,aBD w u,this]
  exact pE h (q 0 x (by grind)).plain (cU _ _)
theorem sW P g o t fz:∀ vs i b w,w.heap[g]?=some (.cells b t fz)->o+i+vs.length<=b.size ->
  (∀ v∈vs,v.oneCell'=true)->(∀ j,j<vs.length->¬ (fz.1<=o+i+j/\o+i+j<fz.2)) ->
  (storeCells ⟨g,o,none⟩ vs i).run P w = .ok () (w.setRow g (b.toList.take (o+i)++vs++b.toList.drop (o+i+vs.length)).toArray)
 | [],i,b,w,d,_,_,_=>by
  simp only [storeCells,aac,aaH,Nat.add_zero,List.take_append_drop,Array.toArray_toList];rw [setRow_self w g b t fz d];rfl
 | v::rest,i,b,w,d,m,s,l=>by
  have p:o+i<b.size:=by simp at m;omega
  have h:(⟨g,o,none⟩:Addr).add i=⟨g,o+i,none⟩:=Addr.add_none _ _ rfl;have c:w.cell? ⟨g,o+i,none⟩=some b[o+i]:=by simp [World.cell?,d,p]
  have f:w.frozen? ⟨g,o+i,none⟩=false:=by
   have:=l 0 (by simp);simp only [World.frozen?,d];simp [Nat.add_zero] at this;simp;omega
  have k:(store ((⟨g,o,none⟩:Addr).add i) v).run P w = .ok () (w.setRow g (b.setIfInBounds (o+i) v)):=by
   rw [h,run_store P w _ v _ (by grind),c];simp [f,setCell_eq_setRow w g (o+i) b t fz v d]
  have n:=sW P g o t fz rest (i+1) (b.setIfInBounds (o+i) v) (w.setRow g (b.setIfInBounds (o+i) v)) (setRow_heap w g b _ t _ d) (by simp at m ⊢;omega) (fun x q=>by grind)
   (fun j r=>by have:=l (j+1) (by simp;omega);rw [show o+(i+1)+j=o+i+(j+1) by omega];exact this)
  simp only [storeCells,aaT,k,ab6,n,setRow_setRow];congr 3;have e:=list_seg_step b.toList (o+i) v rest (by omega);simpa [Nat.add_assoc] using e
theorem bBb (a:Array Value) o vs (h:o+vs.length<=a.size) j :
  (a.toList.take o++vs++a.toList.drop (o+vs.length)).toArray[j]?=if o<=j/\j<o+vs.length then vs[j-o]? else a[j]?:=by
 grind
theorem aXE (a:Array Value) o vs (h:o+vs.length<=a.size):(a.toList.take o++vs++a.toList.drop (o+vs.length)).toArray.size=a.size:=by
 grind
theorem aO2 (h : SR base M B st tm w) {t n d id off : Nat} {ag a v p cs0 cs0' cs vs lv}
  (hn : szOf P t = some n) (hp : Rv M B (.ptr d id off) a) (hb : bD st.bx d id = some cs0) (hph : phys cs0 = cs) (hvs : sR n ag p = some vs) (hf : vs.all (fits d) = true) (hoff : off + n <= cs.length)
  (hph' : phys cs0' = putAt cs off (vP d vs)) (hv' : okV cs0')
  (h1s : SR base M B { st with fr := lv ++ st.fr } tm w) (hr : Rv M B p v) (hh : hV M w base B p v)
  (ht : ∀ b, tot (lv ++ st.fr) tm w B st.bx b + cV p v b <= tot st.fr tm w B st.bx b) (hm : xG cs0 = false := by first | rfl | exact yY (by assumption)) (hm' : xG cs0' = false := by first | rfl | exact yY (by assumption)) :
  ∃ w', (Instr.storeAt t a v).run P w = .ok () w' /\ ∀ e , e.app st = ⟨lv ++ st.fr, cN st.bx d id cs0'⟩ -> Aft base M B st tm w e tm w' := by
 obtain ⟨hl, hvsz, hrel, hcnt, hh1⟩ := aE5 hvs hr hf;cases hp with
 | ptr _ _ _ blk hB =>
  obtain ⟨arr, T, fz, hrow, hsz, hfz, ok, hcell⟩ := sU h hb hB;rw [hph] at hsz hcell hfz;have hst := sW P blk off T fz v.cells.toList 0 arr w hrow (by simp; omega) (by
   intro x hx;obtain ⟨j, hj⟩ := aao.1 hx;have hjl : j < vs.length := by have := (aa2.1 hj).1; simp at this; omega
   have := (hrel j vs[j] (aa4 hjl)).2.2;rw [aaB] at this;rw [Array.getElem?_toList] at hj;rw [hj] at this;exact this) (by intro j hj; refine hfz _ ?_; simp at hj; omega)
  simp only [Nat.add_zero] at hst;generalize hnew : (arr.toList.take off ++ v.cells.toList ++ arr.toList.drop (off + v.cells.toList.length)).toArray = arr' at hst;have hvl : v.cells.toList.length = n := by simp [hvsz]
  have hsize : arr'.size = arr.size := by rw [<- hnew]; exact aXE _ _ _ (by simp; omega)
  have hget : ∀ j, arr'[j]? = if off <= j /\ j < off + n then v.cells[j - off]? else arr[j]? := by
   intro j;rw [<- hnew, bBb _ _ _ (by simp; omega), hvl];split <;> simp
  let w' := w.setRow blk arr';have hrow' : w'.heap[blk]? = some (.cells arr' T fz) := setRow_heap w blk arr arr' T _ hrow;have hcv : ∀ j, cP w' blk j = if off <= j /\ j < off + n then v.cells.getD (j - off) undef else cP w blk j := by
   intro j;simp only [cP, World.cell?, hrow', hrow];rw [show (if (none : Option Nat).isSome = true then none else arr'[j]?) = arr'[j]? from rfl, hget];by_cases e : off <= j /\ j < off + n;· rw [if_pos e, if_pos e, aaB]
   rw [if_neg e, if_neg e]; rfl
  have hlow : ∀ (j : Nat), (vP d vs)[j]? = (vs[j]?).map (Ev.lower1 d) := by intro j; rw [aDH, aa9]
  have hlowl : (vP d vs).length = n := by rw [aDH]; simp [hl]
  have hlen : (putAt cs off (vP d vs)).length = cs.length := eM _ _ _;have hcc : ∀ b, dX w' blk 0 (putAt cs off (vP d vs)) b + dA n (fun j => c1 (cs.getD (off + j) .bot) (cP w blk (off + j)) b) = dX w blk 0 cs b + cV p v b := by
   intro b;rw [rT, rT, hlen, <- hcnt b, hl];have := aCe (f := fun j => c1 (cs.getD j .bot) (cP w blk (0 + j)) b) (f' := fun j => c1 ((putAt cs off (vP d vs)).getD j .bot) (cP w' blk (0 + j)) b) (g := fun j => c1 (vs.getD j .bot) (v.cells.getD j undef) b) (len := cs.length) (off := off) n hoff
    (fun i hi hni => by
     simp [aaX, aae];rw [iX _ _ _ _ (by omega), if_neg (by omega), hcv, if_neg (by omega)])
    (fun j hj => by
     simp [aaX, aae];rw [iX _ _ _ _ (by omega), if_pos (by omega), hcv, if_pos (by omega), show off + j - off = j by omega, hlow];have hjl : j < vs.length := by omega
     rw [aa4 hjl];simp [c1, aZi])
   simp [aae] at this ⊢;exact this
  have hh1' : ∀ q x, h1 M w base B q x -> h1 M w base B q x := fun _ _ h => h;obtain ⟨k1, k2⟩ := h1s.setRow (w' := w') (cs' := cs0') hb hB (fun b hbne => setRow_other w blk b arr' hbne) (setRow_size w blk arr') (aBk.of hm' ⟨arr', T, fz, hrow', by rw [hph', hlen]; omega, by rw [hph', hlen]; exact hfz⟩) hv' (by
   intro j c hc;rw [hph',iX _ _ _ _ (by omega)] at hc;rw [hcv];split at hc;· rename_i hj;rw [hlowl] at hj;rw [if_pos hj];rw [hlow, aan] at hc;obtain ⟨c0, h0, rfl⟩ := hc;obtain ⟨q1, q2, q3⟩ := hrel _ c0 h0;exact ⟨q1.lower1 q2, (bEd d c0 _).2 (hh1 w base hh _ c0 h0), aOZ q2⟩
   rename_i hj;rw [hlowl] at hj;rw [if_neg hj];exact ok.rel j c (by rw [hph]; exact hc)) (by
   intro b;rw [hph', hph];have e1 := hcc b;have e2 := ht b;have e3 := h.one b;simp;omega)
  rw [hph', hph] at k2;refine ⟨w', ?_, ?_⟩;· simp only [Instr.storeAt, aaT, Instr.sureAddr, ab7, ab6, storeVar, eX w hn];rw [if_neg (by omega)];exact hst
  intro e happ;unfold Aft;rw [happ];refine ⟨rfl, M, B, k1, rfl, rfl, rfl, by simp [w'], fun _ _ _ hx => hx, ?_, ?_, fun d i b hB _ => ⟨d, i, hB⟩, fun _ _ => rfl⟩;· intro b hlt hnt;exact ⟨setRow_other w blk b arr' (by intro e; subst e; exact hnt (.inr ⟨d, id, hB⟩)), fun _ => rfl⟩
  intro b _;have e1 := k2 b;have e2 := hcc b;have e3 := ht b;simp at e1 ⊢;omega
theorem bBc (h:SR base M B st tm w) {t n d id off:Nat} {F a v p cs vs lv}
  (A:szOf P t=some n) (u:Rv M B (.ptr d id off) a) (q:bD st.bx d id=some cs) (l:nW cs=false) (e:sR n F p=some vs) (s:vs.all (fits d)=true) (g:off+n<=cs.length)
  (m:SR base M B {st with fr:=lv++st.fr} tm w) (r:Rv M B p v) (y:hV M w base B p v)
  (C:∀ b,tot (lv++st.fr) tm w B st.bx b+cV p v b<=tot st.fr tm w B st.bx b) :
  ∃ w',(Instr.storeAt t a v).run P w = .ok () w'/\Aft base M B st tm w {cw:=[(d,id,off,vP d vs)],ws:=lv} tm w':=by
 have o:=uF l;have i:∃ blk,B d id=some blk:=by cases u with | ptr _ _ _ blk i=>grind
 obtain ⟨blk,i⟩:=i;have ok:=h.box.get q i;have f:∀ c∈putAt cs off (vP d vs),fits 0 c=true:=by
  intro c E;obtain ⟨j,k⟩:=aao.1 E;rw [iX _ _ _ _ (by rw [aDH,aau];have:=(aE5 e r s).1;omega)] at k;split at k;· rw [aDH,aa9,aan] at k;obtain ⟨H,I,rfl⟩:=k;exact aOZ (by grind)
  exact (ok.rel j c (by grind)).2.2
 obtain ⟨z,D⟩:=aDI f;obtain ⟨w',G,x⟩:=aO2 (P:=P) h (cs0':=putAt cs off (vP d vs)) A u q o e s g z (aXC D) m r y C;exact ⟨w',G,x _ (by simp [Eff.app,vR _ _ _ _ _ _ q,rV])⟩
theorem qY {sz}:∀ (E:List PV),(∀ e∈E,e.cells.length=sz)->∀ i j,j<sz->(E.flatMap cells)[i*sz+j]?=(E[i]?).bind fun e=>e.cells[j]?
 | [],_,i,j,_=>by simp
 | e::E,h,i,j,a=>by
  cases i with
  | zero=>grind
  | succ i =>
   have:=qY E (fun x b=>by grind) i j a;grind
theorem pF {sz}:∀ (E:List PV),(∀ e∈E,e.cells.length=sz)->(E.flatMap cells).length=E.length*sz
 | [],_=>by simp
 | e::E,h=>by
  rw [ab2,aar,h e (by simp),pF E fun x a=>h x (by grind)];grind
theorem uG {c} (h:okVc c=true):c.solid1=true:=by
 unfold okVc at h;split at h<;>first | rfl | grind
theorem aL5 {c:PV} (h:c.solid1=true):okVc c.plain1=true:=by cases c<;>first | rfl | simp [PV.solid1] at h
theorem aLm {c} (h:okVc c=true) v:own1 c v=none:=by
 unfold okVc at h;split at h<;>first | (cases v<;>rfl) | (exact wP _ _ _) | grind
theorem bBd {c} (h:okVc c=true):c.plain1=c:=by
 unfold okVc at h;split at h<;>first | rfl | grind
theorem vS {sz e}:okVe sz e=true↔e.cells.length=sz/\∀ c∈e.cells,okVc c=true:=by
 simp [okVe]
theorem kR {sz e} (h:okVe sz e=true):e.cells.length=sz/\∀ c∈e.cells,c.solid1=true :=
 ⟨(vS.1 h).1,fun c a=>uG ((vS.1 h).2 c a)⟩
theorem aHw {d c} (h:c.solid1=true):Ev.raise1 d c=c:=by cases c<;>first | rfl | simp [PV.solid1] at h
theorem aQg {d c} (h:c.solid1=true):Ev.lower1 d c=c:=by cases c<;>first | rfl | simp [PV.solid1] at h
theorem aGy {d c} (h:c.solid1=true):fits d c=true:=by cases c<;>first | rfl | simp [PV.solid1] at h
theorem aVk {d c} (h:c.solid=true):aBg d c=c:=by
 rw [aQb];cases c with
 | agg cs =>
  simp [PV.solid] at h;simp;conv=>rhs;rw [<- List.map_id cs]
  exact aaU fun c a=>aHw (h c a)
 | _=>exact aHw (by simpa [PV.solid] using h)
theorem bBe {sz off n g E e v0} (m:0<sz) (j:∀ e∈E,okVe sz e=true) (b:nth E (off / sz)=some e) (h:part (off % sz) n g e.cells=some v0) :
  part off n g (E.flatMap cells)=some v0/\v0.solid=true:=by
 have c  := fun e b=>(kR (j e b)).1;rw [jU] at b;have i:=aad b;have q:=(aa2.1 b).1;obtain ⟨r,p⟩:=kR (j e i);have a:off=off / sz*sz+off % sz:=by rw [aaI];exact (ab8 off sz).symm
 have d:off % sz<sz:=abc _ m;unfold part at h ⊢;cases g with
 | true =>
  simp only at h ⊢;split at h
  ·rename_i l;have f:off+n<=(E.flatMap cells).length:=by
    rw [pF E c];have:(off / sz+1)*sz<=E.length*sz:=aas sz q;rw [aam] at this;omega
   rw [if_pos f];have o:((E.flatMap cells).drop off).take n=(e.cells.drop (off % sz)).take n:=by
    apply aaS;intro k;rw [abb,abb];split
    ·rw [abu,abu];conv=>lhs;rw [a,Nat.add_assoc]
     rw [qY E c _ _ (by omega),b];rfl
    rfl
   simp [PV.solid];exact by grind
  simp at h
 | false =>
  simp [jU] at h ⊢;have hv:=p v0 (aad h);refine ⟨?_,by cases v0<;>first | exact hv | simp [PV.solid1] at hv⟩;conv=>lhs;rw [a]
  rw [qY E c _ _ d,b];exact h
theorem aVl (h:SR base M B st tm w) {dst} {t n d id off sz:Nat} {i a E v}
  (s:szOf P t=some n) (F:agOf P t=some i) (c:i=false->n=1) (I:Rv M B (.ptr d id off) a) (o:bD st.bx d id=some [.vec sz E]) (hv:bIX sz E off n i=some v) :
  ∃ x,(Instr.loadAt t a).run P w = .ok x w/\Aft base M B st tm w {cr:=[(d,id,0,1)],ws:=dstW tm.size dst v} (putT tm dst x) w:=by
 cases I with
 | ptr _ _ _ blk r =>
  obtain ⟨D,H⟩:okV [.vec sz E]:=(h.box.ok d id _ o).1;obtain ⟨arr,T,fz,m,u,y,ok,k⟩:=sU h o r;obtain ⟨e,C,hv⟩:=aB hv;obtain ⟨v0,z,hv⟩:=aB hv;cases hv;obtain ⟨g,f⟩:=bBe D H C z;obtain ⟨q,l,J,O,L,N⟩:=aQf ok rfl g c;rw [aVk f] at l;refine ⟨_,aBl s F (fun j K=>by grind) (fun e=>by have:=c e;omega),?_⟩;obtain ⟨G,p⟩:=h.putN dst l.plain (cU _ _);exact ⟨iH _ _ _,M,B,G,aHv fun b _=>p b⟩
theorem aSc {c:PV} (h:c.solid1=true):c.cells=[c]:=by cases c<;>first | rfl | simp [PV.solid1] at h
theorem bBf {e cs} (b:cs.length=e.cells.length) (a:∀ c∈cs,c.solid1=true):(reb e cs).cells=cs:=by
 cases e with
 | agg _=>rfl
 | _ =>
  match cs,b with
  | [c],_=>exact aSc (a c (by simp))
theorem bEh {sz off E E' vs} (hs:0<sz) (hE:∀ e∈E,okVe sz e=true) (h:vput sz E off vs=some E') :
  (E'.flatMap cells)=putAt (E.flatMap cells) off (vs.map PV.plain1)/\off+vs.length<=(E.flatMap cells).length/\(∀ e∈E',okVe sz e=true)/\∀ c∈vs,c.solid1=true:=by
 have hE':∀ e∈E,e.cells.length=sz:=fun e he=>(kR (hE e he)).1;obtain ⟨e,he,h⟩:=aB h;split at h
 ·rename_i hc;obtain ⟨hle,hsol⟩:=hc;cases h;rw [jU] at he;have hem:=aad he;have hi:=(aa2.1 he).1;obtain ⟨hl,hcs⟩:=kR (hE e hem);have hoff:off=off / sz*sz+off % sz:=by rw [aaI];exact (ab8 off sz).symm
  have hvs:∀ c∈vs,c.solid1=true:=fun c hc=>by grind
  have hvp:∀ c∈vs.map PV.plain1,okVc c=true:=fun c hc=>by
   obtain ⟨x,hx,rfl⟩:=aah.1 hc;exact aL5 (hvs x hx)
  have hcs':=(vS.1 (hE e hem)).2;have hlm:(vs.map PV.plain1).length=vs.length:=by simp
  generalize vs.map PV.plain1=us at hvp hlm;have hpl:(putAt e.cells (off % sz) us).length=e.cells.length:=eM _ _ _;have hps:∀ c∈putAt e.cells (off % sz) us,okVc c=true:=by
   intro c hc;obtain ⟨j,hj⟩:=aao.1 hc;rw [iX _ _ _ _ (by omega)] at hj;split at hj;· exact by grind
   exact by grind
  have hrc:=bBf hpl fun c hc=>uG (hps c hc);have hnew:∀ x∈putNth E (off / sz) (reb e (putAt e.cells (off % sz) us)),okVe sz x=true:=by
   intro x hx;rw [lC] at hx;rcases List.mem_or_eq_of_mem_set hx with hx | rfl;· exact hE x hx
   rw [vS,hrc];exact ⟨by omega,hps⟩
  have hnew':∀ x∈putNth E (off / sz) (reb e (putAt e.cells (off % sz) us)),x.cells.length=sz:=fun x hx=>(kR (hnew x hx)).1;have hlen:(E.flatMap cells).length=E.length*sz:=pF E hE';have hb:off+vs.length<=(E.flatMap cells).length:=by
   rw [hlen];have:(off / sz+1)*sz<=E.length*sz:=aas sz hi;rw [aam] at this;omega
  refine ⟨?_,hb,hnew,hvs⟩;apply aaS;intro k;have hk:k=k / sz*sz+k % sz:=by rw [aaI];exact (ab8 k sz).symm
  have hkm:k % sz<sz:=abc _ hs;rw [iX _ _ _ _ (by omega)];conv=>lhs;rw [hk,qY _ hnew' _ _ hkm,lC]
  by_cases e1:k / sz=off / sz
  ·rw [e1,ab9 hi];simp [hrc];rw [iX _ _ _ _ (by omega)];have hke:k=off / sz*sz+k % sz:=by rw [<- e1];exact hk
   by_cases e2:off % sz<=k % sz/\k % sz<off % sz+us.length;· rw [if_pos e2,if_pos (by omega)];congr 1;omega
   rw [if_neg e2,if_neg (by omega)];conv=>rhs;rw [hke,qY E hE' _ _ hkm,he]
   rfl
  rw [aaC (fun x=>e1 x.symm),if_neg];· conv=>rhs;rw [hk,qY E hE' _ _ hkm]
  rintro ⟨h1,h2⟩;apply e1;have a1:off / sz<=k / sz:=Nat.div_le_div_right h1;have a2:k<(off / sz+1)*sz:=by
   rw [aam,Nat.one_mul];omega
  have a3  := (Nat.div_lt_iff_lt_mul hs).2 a2;omega
 simp at h
theorem aSd {n b p vs} (h:sR n b p=some vs) (d:∀ c∈vs,c.solid1=true):sR n b p.plain=some (vs.map PV.plain1):=by
 unfold sR at h;split at h
 ·split at h;· rename_i e;cases h;simp only [PV.plain,PV.plainA,sR,aau,e,if_true,aaQ,List.map_map];apply aaU;intro i a;have a:=aav.1 a;simp [aHp];rw [aa4 (by omega)];rfl
  simp at h
 ·simp at h
 ·simp at h
 ·simp at h
 ·simp at h
 ·simp at h
 split at h;· cases h;have:=d p (by simp);cases p<;>first | rfl | simp [PV.solid1] at this
 simp at h
theorem aSe (h:SR base M B st tm w) {t n d id off sz:Nat} {I a v p E l vs lv}
  (F:szOf P t=some n) (N:Rv M B (.ptr d id off) a) (m:bD st.bx d id=some [.vec sz E]) (j:sR n I p=some vs) (C:0<n) (i:vput sz E off vs=some l)
  (k:SR base M B {st with fr:=lv++st.fr} tm w) (q:Rv M B p v) (O:hV M w base B p v)
  (Q:∀ b,tot (lv++st.fr) tm w B st.bx b+cV p v b<=tot st.fr tm w B st.bx b) :
  ∃ w',(Instr.storeAt t a v).run P w = .ok () w'/\Aft base M B st tm w {cr:=[(d,id,0,1)],cw:=[(d,id,0,[.vec sz l])],ws:=lv} tm w':=by
 obtain ⟨u,L⟩:okV [.vec sz E]:=(h.box.ok d id _ m).1;obtain ⟨D,R,H,o⟩:=bEh u L i;have g:=aSd j o;have r:∀ c∈vs.map PV.plain1,c.solid1=true:=fun c f=>by
  obtain ⟨x,G,rfl⟩:=aah.1 f;exact uG (aL5 (o x G))
 have e:vP d (vs.map PV.plain1)=vs.map PV.plain1:=by
  rw [aDH];conv=>rhs;rw [<- List.map_id (vs.map PV.plain1)]
  exact aaU fun c f=>aQg (r c f)
 have s:(vs.map PV.plain1).all (fits d)=true:=aak.2 fun c f=>aGy (r c f);have y:=(aE5 g q.plain s).1;have K:(vs.map PV.plain1).length=vs.length:=by simp
 obtain ⟨w',J,z⟩:=aO2 (P:=P) h (cs0':=[.vec sz l]) F N m (cs:=E.flatMap cells) rfl g s (by omega) (by rw [e];exact D) ⟨u,H⟩ k q.plain ((cU _ _).h _ _ _ _)
  (fun b=>by rw [(cU _ _).c b];grind)
 exact ⟨w',J,z _ (by simp [Eff.app,vR _ _ _ _ _ _ m,rV,putAt,putNth])⟩
end
section
variable {P : Program} {base : Base} {M : Mem} {B : BM} {st : St} {tm : Array Value} {w : World}
theorem bGJ {p v b} (h:1<=cV p v b):∃ x∈atoms p v,own1 x.1 x.2=some b:=by
 unfold cV at h;generalize atoms p v=l at h;induction l with
 | nil=>simp [sumL] at h
 | cons x l a =>
  simp [sumL] at h;by_cases e:own1 x.1 x.2=some b;· grind
  have:c1 x.1 x.2 b=0:=by simp [c1,e]
  grind
theorem aHx {f}:∀ n,1<=dA n f->∃ i,i<n/\1<=f i
 | 0,h=>by simp [dA] at h
 | n+1,h=>by
  simp [dA] at h;by_cases e:1<=f n;· grind
  obtain ⟨i,a,b⟩:=aHx (f:=f) n (by omega);grind
theorem aSf {g}:∀ bx a,(∀ (e:Nat) f,bx[e]?=some f->(f.map (·.1)).Nodup)->1<=jL g a bx->∃ d id cs,bD bx d id=some cs/\1<=g (a+d) id cs
 | [],_,_,h=>by simp [jL] at h
 | f::r,a,b,h=>by
  simp [jL] at h;by_cases e:1<=jL g (a+1) r;· obtain ⟨d,id,cs,j,c⟩:=aSf r (a+1) (fun e f' l=>b (e+1) f' (by grind)) e;exact ⟨d+1,id,cs,j,by grind⟩
  have i:1<=fS (g a) f:=by omega
  have:∃ id cs,(id,cs)∈f/\1<=g a id cs:=by
   clear h e b;induction f with
   | nil=>simp [fS] at i
   | cons x f m =>
    simp [fS] at i;grind
  obtain ⟨id,cs,k,c⟩:=this;exact ⟨0,id,cs,kL (b 0 f rfl) k,c⟩
theorem SR.tot_own (h:SR base M B st tm w) {b} (q:1<=tot st.fr tm w B st.bx b):b<w.heap.size/\(∀ d id,B d id≠some b)/\base<=b:=by
 have l:∀ p v,h1 M w base B p v->own1 p v=some b->b<w.heap.size/\(∀ d id,B d id≠some b)/\base<=b:=by
  intro p v n a;have:=n.nobox a;obtain ⟨z,r,s⟩:=n.hok a;exact ⟨this.2,this.1,s.old⟩
 unfold tot at q;by_cases e:1<=cF st.fr tm b;· obtain ⟨i,r,k⟩:=aHx _ e;obtain ⟨x,t,a⟩:=bGJ k;exact l _ _ (h.slotH i x t) a
 have m:1<=cBx w B st.bx b:=by omega
 obtain ⟨d,id,cs,y,c⟩:=aSf st.bx 0 h.box.nodup m;rcases (h.box.ok d id cs y).2 with ⟨blk,o,u⟩ | g;rotate_left;· simp [g.1,cBox] at c
 simp [o,cBox] at c;rw [rT] at c;obtain ⟨j,C,k⟩:=aHx _ c;have f:(phys cs)[j]?=some (phys cs)[j]:=by simp
 obtain ⟨_,A,_⟩:=u.rel j _ f;have a:own1 (phys cs)[j] (cP w blk j)=some b:=by
  unfold c1 at k;grind
 grind
theorem SR.box_lt (h:SR base M B st tm w) {d id b} (c:B d id=some b):b<w.heap.size/\base<=b:=by
 cases a:bD st.bx d id with
 | none=>rw [h.box.dom d id a] at c;grind
 | some cs =>
  have e:=h.box.get a c;obtain ⟨o,f⟩:=e.row.ex;exact ⟨(aag.1 f).1,e.old⟩
structure RowRel (M:Mem) (B:BM) (s:Nat) (es:List PV) (arr:Array Value):Prop where
 pos:0<s
 size:es.length*s<=arr.size
 el:∀ (i:Nat) (e:PV),es[i]?=some e->okEl s e
 rel:∀ (i:Nat) (e:PV) (j:Nat) (c:PV),es[i]?=some e->e.cells[j]?=some c->Rv M B c (arr.getD (i*s+j) undef)
theorem RowRel.mono {M M' s es arr} (h:RowRel M B s es arr) (d:∀ b i v,M b i=some v->M' b i=some v):RowRel M' B s es arr :=
 ⟨h.pos,h.size,h.el,fun i e j c g f=>(h.rel i e j c g f).mono d (fun _ _ _ a=>a)⟩
def addM (M:Mem) (blk:Nat) (c a:Nat) (arr:Array Value):Mem:=fun b i=>if b=blk/\c<=i/\i<a then arr[i]? else M b i
theorem aQh (h:SR base M B st tm w) {dst lv} (h1s:SR base M B {st with fr:=lv++st.fr} tm w)
  (K:∀ b,tot (lv++st.fr) tm w B st.bx b<=tot st.fr tm w B st.bx b) {s cap es arr T fz w'}
  (hrow:RowRel M B s es arr) (hcap:es.length<=cap) (u:cap*s<=arr.size) (l:∀ i,i<arr.size->¬ (fz.1<=i/\i<fz.2))
  (hw:w'.heap=w.heap.push (.cells arr T fz)) (k:w'.os=w.os) (z:w'.tape=w.tape) (f:w'.output=w.output) {r}
  (hr:(r = .slice es [] true/\(es=[]->cap=0))∨(r = .mk0 s/\es=[])) :
  Aft base M B st tm w {ws:=dstW tm.size dst r++lv} (putT tm dst (.slice (some ⟨w.heap.size,0,none⟩) es.length cap)) w':=by
 have hold:∀ b,b<w.heap.size->w'.heap[b]?=w.heap[b]?:=fun b hb=>by rw [hw,abq,if_neg (by omega)]
 have hnew:w'.heap[w.heap.size]?=some (.cells arr T fz):=by rw [hw];simp
 have hMn:∀ i,M w.heap.size i=none:=by
  intro i;cases J:M w.heap.size i with
  | none=>rfl
  | some v=>obtain ⟨arr,D,fz,hx,_⟩:=h.cons _ _ _ J;simp at hx
 let M':=addM M w.heap.size 0 (es.length*s) arr;have hmono:∀ b i v,M b i=some v->M' b i=some v:=by
  intro b i v hv;show addM M w.heap.size 0 (es.length*s) arr b i=some v;unfold addM;rw [if_neg (by rintro ⟨rfl,_⟩;rw [hMn] at hv;simp at hv)];exact hv
 have hsame:∀ b,b≠w.heap.size->∀ i,M' b i=M b i:=by
  intro b hb i;show addM M w.heap.size 0 (es.length*s) arr b i=M b i;unfold addM;rw [if_neg (by rintro ⟨e,_⟩;exact hb e)]
 have hcons:Cons M' w':=by
  intro b i v hv;by_cases hb:b=w.heap.size
  ·subst hb;have:addM M w.heap.size 0 (es.length*s) arr w.heap.size i=some v:=hv;unfold addM at this;split at this;· exact ⟨arr,T,fz,hnew,this⟩
   rw [hMn] at this;simp at this
  rw [hsame b hb] at hv;obtain ⟨F,D,p,hx,hy⟩:=h.cons b i v hv;exact ⟨F,D,p,by rw [hold b (aag.1 hx).1];exact hx,hy⟩
 obtain ⟨H,C⟩:=h1s.world (M':=M') (w':=w') hcons hmono
  (fun d id b hB=>by have:=(h.box_lt hB).1;exact ⟨by grind,hsame b (by omega)⟩)
  (fun b hb=>by have:=(h1s.tot_own hb).1;exact ⟨by grind,hsame b (by omega)⟩) (by rw [hw];simp)
 have hrel:RowRel M' B s es arr:=hrow.mono hmono;have t:Rv M' B (.slice es [] (if es=[] then false else true)) (.slice (some ⟨w.heap.size,0,none⟩) es.length cap):=by
  refine .slice es [] _ ⟨w.heap.size,0,none⟩ cap s (fun i j=>arr.getD (i*s+j) undef) (fun _=>rfl) (by simpa using hcap) (by intro hx;exact ⟨fun e=>by simp [e] at hx,rfl,fun _=>rfl⟩) ?_ ?_ ?_;· intro i e he;rw [aac] at he;exact hrow.el i e he
  ·intro i e j he O;rw [aac] at he;have y:=(aa2.1 he).1;have E  := by
    have:(i+1)*s<=es.length*s:=aas s y;rw [aam] at this;omega
   show addM M w.heap.size 0 (es.length*s) arr w.heap.size (0+i*s+j)=_;unfold addM;rw [if_pos ⟨rfl,by omega,by omega⟩,aae];have:i*s+j<arr.size:=by have:=hrow.size;omega
   simp [this]
  intro i e j c he hc;rw [aac] at he;exact hrel.rel i e j c he hc
 have hrv':Rv M' B r (.slice (some ⟨w.heap.size,0,none⟩) es.length cap):=by
  rcases hr with ⟨rfl,hc⟩ | ⟨rfl,rfl⟩
  ·by_cases e:es=[];· subst e;obtain rfl:=hc rfl;exact .slice [] [] true ⟨w.heap.size,0,none⟩ 0 s (fun _ _=>undef) (fun _=>rfl) (by simp) (by simp) (by simp) (by simp) (by simp)
   simpa [e] using t
  exact .mk0 s ⟨w.heap.size,0,none⟩ cap ⟨rfl,rfl⟩
 have hHOk:HOk M' w' base B w.heap.size (es.length*s) (cap*s):=by
  refine ⟨h.base,fun d id hB=>by have:=(h.box_lt hB).1;omega,⟨arr,T,fz,hnew,u,fun i y=>l i (by omega)⟩,?_⟩;intro i y;show addM M w.heap.size 0 (es.length*s) arr w.heap.size i=none;unfold addM;rw [if_neg (by omega)];exact hMn i
 have hna:∀ cs,r ≠ .agg cs:=by rcases hr with ⟨rfl,_⟩ | ⟨rfl,_⟩<;>simp
 have hnt:∀ cs,r ≠ .tuple cs:=by rcases hr with ⟨rfl,_⟩ | ⟨rfl,_⟩<;>simp
 have q:hV M' w' base B r (.slice (some ⟨w.heap.size,0,none⟩) es.length cap):=by
  rw [aHt hna hnt];rcases hr with ⟨rfl,_⟩ | ⟨rfl,rfl⟩
  ·cases es with
   | nil=>trivial
   | cons e es =>
    have he:=(hrow.el 0 e rfl).2.2.1;show HOk M' w' base B w.heap.size (0+(es.length+1)*e.cells.length) (0+cap*e.cells.length);rw [he,aae,aae];exact hHOk
  show HOk M' w' base B w.heap.size 0 (0+cap*s);rw [aae];simpa using hHOk
 have hcnt:∀ b,cV r (.slice (some ⟨w.heap.size,0,none⟩) es.length cap) b<=if b=w.heap.size then 1 else 0:=by
  intro b;rw [aDG hna hnt];unfold c1;have:∀ x,own1 r (.slice (some ⟨w.heap.size,0,none⟩) es.length cap)=some x->x=w.heap.size:=by
   intro x hx;rcases hr with ⟨rfl,_⟩ | ⟨rfl,_⟩
   ·cases es with
    | nil=>simp [own1] at hx
    | cons e es=>simp [own1] at hx;exact hx.symm
   simp [own1] at hx;exact hx.symm
  split;· rename_i e;rw [if_pos (this b e)];exact by omega
  omega
 have N:tot (lv++st.fr) tm w B st.bx w.heap.size=0:=by
  cases hc:tot (lv++st.fr) tm w B st.bx w.heap.size with
  | zero=>rfl
  | succ n=>have:=(h1s.tot_own (b:=w.heap.size) (by simp;omega)).1;omega
 obtain ⟨G,I⟩:=H.put dst hrv' q (fun b=>by
  have g:=C b;have m:=hcnt b;have o:=h1s.one b;simp at g o ⊢;split at m;· rename_i e;subst e;omega
  omega)
 unfold Aft;rw [aJ6,aax];refine ⟨iH _ _ _,M',B,G,k,z,f,by rw [hw];simp,hmono,?_,?_,fun d i b hB _=>⟨d,i,hB⟩,fun _ _=>rfl⟩;· intro b hb _;exact ⟨hold b hb,hsame b (by omega)⟩
 intro b hb;have g:=I b;have m:=hcnt b;have o:=C b;have L:=K b;rw [if_neg (by omega)] at m;simp at g o ⊢;omega
end
section
variable {P : Program} {base : Base} {M : Mem} {B : BM} {st : St} {tm : Array Value} {w : World}
theorem aO3 off:∀ (l:List Value) k (cells:Array Value),off+k+l.length<=cells.size ->
  ((l.zipIdx k).foldl (fun cs (c,j)=>cs.setIfInBounds (off+j) c) cells).size=cells.size /\
  ∀ i,((l.zipIdx k).foldl (fun cs (c,j)=>cs.setIfInBounds (off+j) c) cells)[i]?=if off+k<=i/\i<off+k+l.length then l[i-(off+k)]? else cells[i]?
 | [],k,cells,_=>⟨rfl,fun i=>by simp;omega⟩
 | v::l,k,cells,h=>by
  simp;obtain ⟨b,a⟩:=aO3 off l (k+1) (cells.setIfInBounds (off+k) v) (by grind);grind
theorem aSg {place cells i off size v rest} (g:place i=some (off,size)) (e:v.cells.size=size) (f:off+size<=cells.size) :
  ∃ a,Instr.fill place cells ((i,v)::rest)=Instr.fill place a rest/\a.size=cells.size /\
   ∀ k,a[k]?=if off<=k/\k<off+size then v.cells[k-off]? else cells[k]?:=by
 obtain ⟨d,b⟩:=aO3 off v.cells.toList 0 cells (by grind);refine ⟨v.cells.zipIdx.foldl (fun cs (c,j)=>cs.setIfInBounds (off+j) c) cells,?_,?_,?_⟩;· simp [Instr.fill];grind
 ·rw [<- Array.foldl_toList,Array.toList_zipIdx];exact d
 intro k;rw [<- Array.foldl_toList,Array.toList_zipIdx,b];grind
theorem aVm {p:PV} (h:p.solid=true):p.plain.solid=true:=by
 cases p with
 | agg cs =>
  simp only [PV.solid,PV.plain,PV.plainA,aak,aah] at h ⊢;rintro c ⟨a,b,rfl⟩;have:=h a b;cases a<;>simp_all [PV.plain1,PV.solid1]
 | tuple vs=>simp [PV.solid,PV.solid1] at h
 | _=>simp_all [PV.solid,PV.plain,PV.plainA,PV.plain1,PV.solid1]
theorem aVn {p:PV} (a:∀ cs,p ≠ .tuple cs):p.plain.cells=p.cells.map PV.plain1:=by
 cases p with
 | tuple vs=>grind
 | agg cs=>simp [PV.plain,PV.plainA,PV.cells]
 | _=>simp [PV.plain,PV.plainA,PV.plain1,PV.cells]
theorem bGK {size p e v} (h : el size p = some e) (n : Rv M B p v) : okEl size e /\ v.cells.size = size /\ ∀ j c, e.cells[j]? = some c -> Rv M B c (v.cells.getD j undef) := by
  unfold el at h;split at h
  · rename_i a;obtain ⟨l, o, q⟩ := a;cases h;have t : ∀ cs, p ≠ .tuple cs := by intro cs e; subst e; simp [PV.solid, PV.solid1] at l
    have m : okEl size p.plain := ⟨aVm l, aOW p, by rw [aVn t]; grind, q⟩;have i := n.plain;refine ⟨m, ?_⟩;cases n with
    | agg cs vs f x u s =>
      simp [PV.cells] at o;refine ⟨by show vs.size = size; omega, ?_⟩;intro j c a;have d  := i;cases d with
      | agg _ _ g _ w k =>
        have b : (cs.map PV.plain1)[j]? = some c := a;have r := (aa2.1 b).1;have := k j c b;show Rv M B c (vs.getD j undef);simp_all
    | _ =>
      first
        | (simp [PV.solid, PV.solid1] at l; done)
        | (refine ⟨by simpa [PV.cells, Value.cells] using o, ?_⟩;intro j c a;cases j with
           | zero => simp [PV.plain, PV.plainA, PV.plain1, PV.cells] at a; subst a; exact i
           | succ j => simp [PV.plain, PV.plainA, PV.plain1, PV.cells] at a)
  grind
theorem aSh {size} (hs:0<size) {vals:Nat->Value}:∀ ps vs es es' arr,
  ps.length=vs.length->(∀ (k:Nat) x y,ps[k]?=some x->vs[k]?=some y->x.1=y.1/\Rv M B x.2 y.2) ->
  aDA size ps es some=some es'->RowRel M B size es arr->arr.size=es.length*size ->
  ∃ arr',Instr.fill (fun i=>some (i*size,size)) arr vs=some arr'/\RowRel M B size es' arr'/\arr'.size=arr.size/\es'.length=es.length
 | [],vs,es,es',arr,hl,_,h,hr,hsz=>by
  simp [aDA] at h;subst h;have:vs=[]:=by cases vs<;>simp_all
  subst this;exact ⟨arr,rfl,hr,rfl,rfl⟩
 | (i,v)::ps,[],es,es',arr,hl,_,h,hr,hsz=>by simp at hl
 | (i,v)::ps,(i',x)::vs,es,es',arr,hl,hrel,h,hr,hsz=>by
  simp [aDA] at h;obtain ⟨e,he,h⟩:=aB h;split at h
  ·rename_i hlt;obtain ⟨rfl,hvx⟩:=hrel 0 (i,v) (i',x) rfl rfl;obtain ⟨hok,hxs,hcells⟩:=bGK he hvx;have hb:i*size+size<=arr.size:=by
    rw [hsz];have:(i+1)*size<=es.length*size:=aas size hlt;rw [aam] at this;omega
   obtain ⟨arr1,h1,h2,h3⟩:=aSg (place:=fun i=>some (i*size,size)) (rest:=vs) (i:=i) (cells:=arr) (v:=x) rfl hxs hb;have hr1:RowRel M B size (putNth es i e) arr1:=by
    refine ⟨hs,?_,?_,?_⟩;· rw [lC,aaO,h2];exact hr.size
    ·intro k e' hk;rw [lC,List.getElem?_set] at hk;split at hk;· cases hk;exact hok
     exact hr.el k e' hk
    intro k e' j c hk hc;have hok':okEl size e':=by
     have hk2:=hk;rw [lC,List.getElem?_set] at hk2;split at hk2;· cases hk2;exact hok
     exact hr.el k e' hk2
    have hj  := by
     have h5:=(aa2.1 hc).1;rw [hok'.2.2.1] at h5;exact h5
    rw [aaB,h3];rw [lC,List.getElem?_set] at hk;by_cases ek:i=k;· subst ek;rw [if_pos (by omega),show i*size+j-i*size=j by omega,<- Array.getD_eq_getD_getElem?];exact by grind
    rw [if_neg ek] at hk;have hne:¬ (i*size<=k*size+j/\k*size+j<i*size+size):=by
     rcases Nat.lt_or_gt_of_ne ek with hlt' | hlt';· have:(i+1)*size<=k*size:=aas size hlt';rw [aam] at this;omega
     have:(k+1)*size<=i*size:=aas size hlt';rw [aam] at this;omega
    rw [if_neg hne,<- Array.getD_eq_getD_getElem?];exact hr.rel k e' j c hk hc
   obtain ⟨arr',q1,q2,q3,q4⟩:=aSh hs (vals:=vals) ps vs (putNth es i e) es' arr1 (by simpa using hl) (fun k x y hx hy=>hrel (k+1) x y (by simpa using hx) (by simpa using hy)) h hr1 (by rw [h2,hsz,lC,aaO]);exact ⟨arr',by rw [h1];exact q1,q2,by omega,by rw [q4,lC,aaO]⟩
  simp at h
theorem aVo (a:Array Value) n k (b:k<n):((Array.range n).map (a[· % a.size]!))[k]?=some (a[k % a.size]!):=by grind
theorem aOh {t e n sz:Nat} {z} {ps:Array (Nat×Operand)} {es} (a:Act) (htm:a.tmps=tm) (h:SR base M B st tm w)
  (D:P.underlying t=some (.slice e)) (hsz:szOf P e=some sz) (H:aFX P e=some z) (r:n*sz<=16777216) (L:z.cells.length=sz)
  z' (hz':n=0∨el sz z=some z') (hf:aDA sz (ps.toList.map fun p=>(p.1,opv st.fr false p.2)) (List.replicate n z') some=some es) :
  ∃ arr,(Instr.buildSlice t n (ps.map fun (i,x)=>(i,a.eval x))).run P w = .ok (.slice (some ⟨w.heap.size,0,none⟩) n n) {w with heap:=w.heap.push (.cells arr e (0,0))} /\
   (n=0->es=[])/\(0<n->RowRel M B sz es arr/\es.length=n/\arr.size=n*sz):=by
 obtain ⟨zv,hzr,rfl,_⟩:=sT (P:=P) w H;have hops:∀ (k:Nat) x y,(ps.toList.map fun p=>(p.1,opv st.fr false p.2))[k]?=some x->(ps.toList.map fun p=>(p.1,a.eval p.2))[k]?=some y->x.1=y.1/\Rv M B x.2 y.2:=by
  intro k x y u s;rw [aa9,aan] at u s;obtain ⟨p,O,rfl⟩:=u;obtain ⟨q,o,rfl⟩:=s;rw [O] at o;cases o;refine ⟨rfl,?_⟩;have:=(h.opvF a.defers p.2).1;rw [<- htm] at this;exact this
 have C:(ps.map fun (i,x)=>(i,a.eval x)).toList=ps.toList.map fun p=>(p.1,a.eval p.2):=by simp
 cases n with
 | zero =>
  have hes  := by
   cases hps:ps.toList with
   | nil=>rw [hps] at hf;simp [aDA] at hf;exact hf
   | cons x l =>
    rw [hps] at hf;simp [ab1,aDA] at hf;obtain ⟨m,_,hf⟩:=aB hf;simp at hf
  have hps0:ps.toList=[]:=by
   cases hps:ps.toList with
   | nil=>rfl
   | cons x l =>
    rw [hps] at hf;simp [ab1] at hf;obtain ⟨m,_,hf⟩:=aB hf;simp at hf
  refine ⟨#[],?_,fun _=>hes,fun h0=>by omega⟩;have hps1  := by apply Array.ext';simpa using hps0
  subst hps1;simp [Instr.buildSlice,run_underlying D,eX w hsz];simp [Instr.fill,newRow];congr 2;apply Array.ext';simp
 | succ n =>
  have hz2:el sz (ofValue zv)=some z':=by
   rcases hz' with h0 | h0;· omega
   exact h0
  obtain ⟨hok,b,hzc⟩:=bGK hz2 (Rv.ofValue (M:=M) (B:=B) zv);have hpos:=hok.2.2.2;let arr0  := (Array.range ((n+1)*sz)).map (zv.cells[· % zv.cells.size]!);have d:RowRel M B sz (List.replicate (n+1) z') arr0:=by
   refine ⟨hpos,by simp [arr0],?_,?_⟩
   ·intro i m he;rw [List.getElem?_replicate] at he;split at he;· cases he;exact hok
    simp at he
   intro i m j c he v;rw [List.getElem?_replicate] at he;split at he
   ·rename_i K;cases he;have I  := by have:=(aa2.1 v).1;rw [hok.2.2.1] at this;exact this
    have hlt:i*sz+j<(n+1)*sz:=by
     have:(i+1)*sz<=(n+1)*sz:=aas sz K;rw [aam] at this;omega
    have hcell:=hzc j c v;have:arr0.getD (i*sz+j) undef=zv.cells.getD j undef:=by
     rw [aaB,aVo _ _ _ hlt,aaN,b];have G:(i*sz+j) % sz=j:=by rw [aaI,Nat.mul_add_mod];exact Nat.mod_eq_of_lt I
     rw [G];have g:j<zv.cells.size:=by omega
     simp [g]
    rw [this];exact hcell
   simp at he
  obtain ⟨arr',E,F,N,J⟩:=aSh hpos (vals:=fun _=>undef) _ _ (List.replicate (n+1) z') es arr0 (by simp) hops hf d (by simp [arr0]);refine ⟨arr',?_,fun h0=>by omega,fun _=>⟨F,by rw [J];simp,by rw [N];simp [arr0]⟩⟩;have f:(n+1)*sz≠0:=by
   exact by grind
  simp [Instr.buildSlice,run_underlying D,eX w hsz];rw [if_neg (by omega:¬ ((n+1)*sz>2 ^ 24)),if_neg f];simp [hzr];have  := E;rw [this];simp [newRow]
structure AggRel (M:Mem) (w:World) (base:Base) (B:BM) (cs:List PV) (xs:Array Value):Prop where
 size:xs.size=cs.length
 rel:∀ (j:Nat) (c:PV),cs[j]?=some c->Rv M B c (xs.getD j undef)/\h1 M w base B c (xs.getD j undef)
theorem aSi {place place'} (hpl : ∀ i off n o, place i = some (off, n, o) -> place' i = some (off, n)) :
  ∀ ps vs cs cs' xs, ps.length = vs.length ->
  (∀ (k : Nat) x y, ps[k]? = some x -> vs[k]? = some y -> x.1 = y.1 /\ Rv M B x.2 y.2 /\ hV M w base B x.2 y.2) ->
  aGu place ps cs some = some cs' -> AggRel M w base B cs xs ->
  ∃ xs', Instr.fill place' xs vs = some xs' /\ AggRel M w base B cs' xs' /\
   ∀ b, dA cs'.length (fun j => c1 (cs'.getD j .bot) (xs'.getD j undef) b) <= dA cs.length (fun j => c1 (cs.getD j .bot) (xs.getD j undef) b) + sumL (fun x => cV x.1.2 x.2.2 b) (ps.zip vs)
 | [], vs, cs, cs', xs, hl, _, h, hr => by
  simp [aGu] at h; subst h;have : vs = [] := by cases vs <;> simp_all
  subst this;exact ⟨xs, rfl, hr, fun b => by simp⟩
 | (i, v) :: ps, [], cs, cs', xs, hl, _, h, hr => by simp at hl
 | (i, v) :: ps, (z, x) :: vs, cs, cs', xs, hl, hrel, h, hr => by
  simp [aGu] at h;split at h
  ·rename_i off n o hpi;obtain ⟨ws, hws, h⟩ := aB h;split at h
   ·rename_i hle;obtain ⟨rfl, hvx, hvh⟩ := hrel 0 (i, v) (z, x) rfl rfl;simp at hvx hvh;obtain ⟨m, D, u, r, G⟩ := aL4 hws hvx;obtain ⟨xs1, h1', d, h3'⟩ := aSg (place := place') (rest := vs) (i := i) (cells := xs) (v := x) (hpl _ _ _ _ hpi) D (by rw [hr.size]; exact hle);have hget : ∀ j, (putAt cs off ws)[j]? = if off <= j /\ j < off + n then ws[j - off]? else cs[j]? := by
     intro j; rw [iX _ _ _ _ (by omega), m]
    have hxget : ∀ j, xs1.getD j undef = if off <= j /\ j < off + n then x.cells.getD (j - off) undef else xs.getD j undef := by
     intro j;rw [aaB, h3'];split <;> rw [<- Array.getD_eq_getD_getElem?]
    have hr1 : AggRel M w base B (putAt cs off ws) xs1 := by
     refine ⟨by rw [d, hr.size, eM], ?_⟩;intro j c hc;rw [hget] at hc;rw [hxget];split at hc;· rename_i e; rw [if_pos e]; exact ⟨u _ c hc, by grind⟩
     rename_i e; rw [if_neg e]; exact hr.rel j c hc
    obtain ⟨xs', s, p, C⟩ := aSi hpl ps vs (putAt cs off ws) cs' xs1 (by simpa using hl) (fun k a b A E => hrel (k + 1) a b (by simpa using A) (by simpa using E)) h hr1;refine ⟨xs', by rw [h1']; exact s, p, fun b => ?_⟩;have q := C b;have I := aCe (f := fun j => c1 (cs.getD j .bot) (xs.getD j undef) b) (f' := fun j => c1 ((putAt cs off ws).getD j .bot) (xs1.getD j undef) b) (g := fun j => c1 (ws.getD j .bot) (x.cells.getD j undef) b) (len := cs.length) (off := off) n hle
     (fun k H l => by
      simp only [aaX];rw [hget, if_neg l, hxget, if_neg l])
     (fun j F => by
      simp only [aaX];rw [hget, if_pos (by omega), hxget, if_pos (by omega), show off + j - off = j by omega])
    have t := r b;rw [m] at t;rw [eM] at q;simp only [List.zip_cons_cons, sumL];omega
   simp at h
  simp at h
theorem aVp {z}:AggRel M w base B (z.toList.map ofAtom) z/\∀ b,dA (z.toList.map ofAtom).length (fun j=>c1 ((z.toList.map ofAtom).getD j .bot) (z.getD j undef) b)=0:=by
 constructor;· refine ⟨by simp,?_⟩;intro j c d;rw [aa9,aan] at d;obtain ⟨v,hv,rfl⟩:=d;rw [Array.getElem?_toList] at hv;simp [hv];exact ⟨Rv.ofAtom v,yL (aAA v)⟩
 intro b;apply nB;intro j a;simp at a;simp [a,c1,aAA]
theorem AggRel.done {cs xs} (h:AggRel M w base B cs xs):Rv M B (.agg cs) (.agg xs)/\hV M w base B (.agg cs) (.agg xs):=by
 have f:∀ i,i<cs.length->xs[i]?=some (xs.getD i undef):=by
  intro i a;have:i<xs.size:=by rw [h.size];exact a
  simp_all
 refine ⟨.agg cs xs (fun i=>xs.getD i undef) h.size f fun i c e=>(h.rel i c e).1,?_⟩;intro x b;simp [atoms,zipA] at b;obtain ⟨i,a⟩:=aao.1 b;rw [abG] at a;obtain ⟨d,g⟩:=a;have:=(h.rel i x.1 d).2;grind
theorem lefts (h:SR base M B st tm w) d:∀ (ps:List (Nat×Operand)),
  (∀ (k:Nat) x y,(ps.map fun p=>(p.1,opv st.fr true p.2))[k]?=some x->(ps.map fun p=>(p.1,(Act.mk tm d).eval p.2))[k]?=some y->x.1=y.1/\Rv M B x.2 y.2/\hV M w base B x.2 y.2)
 | ps=>by
  intro k x y b c;rw [aa9,aan] at b c;obtain ⟨p,f,rfl⟩:=b;obtain ⟨g,e,_,_⟩:=h.opvT d true p.2;grind
end
section
variable {P : Program} {base : Base} {M : Mem} {B : BM} {st : St} {tm : Array Value} {w : World}
theorem aDJ {t u ty e i d} (ht:P.underlying t=some (.slice e)) (hu:P.underlying u=some d) (hd:∀ k,d ≠ .int k) (hi:P.info? e=some i)
  bs sLen sCap (hc:sLen<=sCap) y (hl:(Builtin.lenOf y).run P w = .ok 0 w) (hf:(Builtin.firstCells i.size 0 y).run P w = .ok #[] w) :
  (Builtin.append_ #[t,u] ty #[.slice bs sLen sCap,y]).run P w = .ok (.slice bs sLen sCap) w:=by
 have hz:(match d with | .int _=>true | _=>false)=false:=by cases d<;>first | rfl | exact by grind
 cases bs with
 | none =>
  simp [Builtin.append_,abr,abh,abi,aaT,run_underlying ht,ab6,sizeOf,typeInfo,run_program,hi,ab7,run_underlying hu];cases d<;>first | exact absurd rfl (hd _) | simp [hl,hf,hc]
 | some a =>
  simp [Builtin.append_,abr,abh,abi,aaT,run_underlying ht,ab6,sizeOf,typeInfo,run_program,hi,ab7,run_underlying hu];cases d<;>first | exact absurd rfl (hd _) | simp [hl,hf,hc,storeCells]
theorem aOi {t u ty e i d} (h : P.underlying t = some (.slice e)) (a : P.underlying u = some d) (c : ∀ k, d ≠ .int k) (p : P.info? e = some i)
  g o sLen sCap m (b : sLen + m <= sCap) y news (q : (Builtin.lenOf y).run P w = .ok m w) (hf : (Builtin.firstCells i.size m y).run P w = .ok news.toArray w)
  {arr T fz} (hrow : w.heap[g]? = some (.cells arr T fz)) (l : o + sLen * i.size + news.length <= arr.size) (n : ∀ v ∈ news, v.oneCell' = true)
  (hfz : ∀ j, j < news.length -> ¬ (fz.1 <= o + sLen * i.size + j /\ o + sLen * i.size + j < fz.2)) :
  (Builtin.append_ #[t, u] ty #[.slice (some ⟨g, o, none⟩) sLen sCap, y]).run P w = .ok (.slice (some ⟨g, o, none⟩) (sLen + m) sCap)
   (w.setRow g (arr.toList.take (o + sLen * i.size) ++ news ++ arr.toList.drop (o + sLen * i.size + news.length)).toArray) := by
 have hst := sW P g (o + sLen * i.size) T fz news 0 arr w hrow (by omega) n (by simpa using hfz);have f : (⟨g, o, none⟩ : Addr).add (sLen * i.size) = ⟨g, o + sLen * i.size, none⟩ := Addr.add_none _ _ rfl;simp [Builtin.append_, abr, abh, abi, aaT, run_underlying h, ab6, sizeOf, typeInfo, run_program, p, ab7, run_underlying a];cases d <;> first | exact absurd rfl (c _) | simp [q, hf, b, f, hst]
theorem aF0 {t u ty e i d z} (h:P.underlying t=some (.slice e)) (b:P.underlying u=some d) (f:∀ k,d ≠ .int k) (j:P.info? e=some i) (a:i.zero=some z)
  bs sLen sCap m (c:sCap<sLen+m) y (olds news:List Value) (n:(Builtin.lenOf y).run P w = .ok m w)
  (hf:(Builtin.firstCells i.size m y).run P w.drew = .ok news.toArray w.drew) (o:(Builtin.firstCells i.size sLen (.slice bs sLen sCap)).run P w.drew = .ok olds.toArray w.drew)
  (hlim:(sLen+m)*i.bytes<=140737488355328) (l:sLen+m<=9223372036854775807) :
  ∃ cap,sLen+m<=cap/\(Builtin.append_ #[t,u] ty #[.slice bs sLen sCap,y]).run P w = .ok (.slice (some ⟨w.heap.size,0,none⟩) (sLen+m) cap)
   (w.drew.alloc (.cells (olds.toArray++news.toArray++Builtin.zeroCells z.cells (cap-(sLen+m))) e)):=by
 refine ⟨grownCap w (sLen+m) sCap e,by simp only [grownCap,Question.cut];omega,?_⟩;have g  := by omega
 have h63'  := by omega
 have h48'  := by
  have:=growslice_fits (bytes:=i.bytes) c hlim;omega
 simp [Builtin.append_,run_underlying h,run_underlying b,f,sizeOf,typeInfo,zeroValue,j,a,n,g,h63',h48',Question.forced,hf,o,newRow,grownCap];grind
structure ElRel (M:Mem) (B:BM) (s:Nat) (es:List PV) (g:Nat->Value):Prop where
 el:∀ (i:Nat) (e:PV),es[i]?=some e->okEl s e
 rel:∀ (i:Nat) (e:PV) (j:Nat) (c:PV),es[i]?=some e->e.cells[j]?=some c->Rv M B c (g (i*s+j))/\(g (i*s+j)).oneCell'=true
theorem aQi {s e c} {j:Nat} {v} (b:okEl s e) (f:e.cells[j]?=some c) (a:Rv M B c v):v.oneCell'=true:=by
 have g:=b.cell f;exact a.oneCell (d:=0) (by cases c<;>simp_all [PV.solid1,fits])
theorem aGz {es C o a len cap} (h:Rv M B (.slice es C o) (.slice (some a) len cap)) (J:Cons M w) {s} (I:szOk s es=true) :
  ∃ g,ElRel M B s es g/\len=es.length/\∀ w',w'.heap=w.heap->(Builtin.firstCells s es.length (.slice (some a) len cap)).run P w' = .ok ((List.range (es.length*s)).map g).toArray w':=by
 cases h with
 | slice _ _ _ _ _ b f N z L r K F =>
  by_cases p:es=[];· subst p;refine ⟨fun _=>undef,⟨by simp,by simp⟩,rfl,?_⟩;simp [Builtin.firstCells,loadCells,loadCellsFrom]
  have l:∀ (i:Nat) e,es[i]?=some e->(es++C)[i]?=some e:=by
   grind
  have x:b=s:=aVh (fun i e n=>by grind) I p;subst x;have d  := by
   cases es with
   | nil=>exact by grind
   | cons e es=>exact (r 0 e rfl).2.2.2
  refine ⟨fun k=>f (k / b) (k % b),⟨fun i e n=>by grind,?_⟩,rfl,?_⟩
  ·intro i e j c n m;have t:=r i e (l i e n);have y  := by have:=(aa2.1 m).1;rw [t.2.2.1] at this;exact this
   have D:(i*b+j) / b=i:=by rw [aaI,Nat.mul_add_div d,Nat.div_eq_of_lt y];rfl
   have G:(i*b+j) % b=j:=by rw [aaI,Nat.mul_add_mod];exact Nat.mod_eq_of_lt y
   simp [D,G];have:=F i e j c (l i e n) m;exact ⟨this,aQi t m this⟩
  intro w' v;apply run_loadCells;intro k E;have u  := Nat.div_lt_of_lt_mul (by rw [aaI];exact E);have n:=aa4 u;have:=K (k / b) _ (k % b) (l _ _ n) (abc _ d);obtain ⟨arr,T,fz,q,A⟩:=J _ _ _ this;rw [Addr.add_none a k (by grind)];have H:a.off+k / b*b+k % b=a.off+k:=by have:=ab8 k b;rw [aaI] at this;omega
  rw [H] at A;simp [World.cell?,v,q,A]
theorem ElRel.row {A E g1 g2 s rest} (n:ElRel M B s A g1) (m:ElRel M B s E g2) (p:0<s) :
  RowRel M B s (A++E) (((List.range (A.length*s)).map g1).toArray++((List.range (E.length*s)).map g2).toArray++rest):=by
 have f:∀ k,k<(A.length+E.length)*s->(((List.range (A.length*s)).map g1).toArray++((List.range (E.length*s)).map g2).toArray++rest).getD k undef=if k<A.length*s then g1 k else g2 (k-A.length*s):=by
  intro k q;rw [aam] at q;rw [aaB,abw (by simp;omega)];by_cases e:k<A.length*s;· rw [if_pos e,abw (by simpa using e)];simp [e]
  rw [if_neg e,abH (by simp;omega)];have:k-A.length*s<E.length*s:=by omega
  simp [this]
 refine ⟨p,by simp [aam],?_,?_⟩
 ·intro i e b;by_cases d:i<A.length;· rw [aaq d] at b;exact n.el i e b
  rw [aaJ (by omega)] at b;exact m.el _ e b
 intro i e j c b l;have o:okEl s e:=by
  by_cases d:i<A.length;· rw [aaq d] at b;exact n.el i e b
  rw [aaJ (by omega)] at b;exact m.el _ e b
 have r  := by have:=(aa2.1 l).1;rw [o.2.2.1] at this;exact this
 have g  := by have:=(aa2.1 b).1;simpa using this
 have h:i*s+j<(A.length+E.length)*s:=by
  have:(i+1)*s<=(A.length+E.length)*s:=aas s g;rw [aam] at this;omega
 rw [f _ h];by_cases d:i<A.length
 ·rw [aaq d] at b;have:i*s+j<A.length*s:=by
   have:(i+1)*s<=A.length*s:=aas s d;rw [aam] at this;omega
  rw [if_pos this];exact (n.rel i e j c b l).1
 rw [aaJ (by omega)] at b;have t:A.length*s<=i*s:=aas s (by omega);rw [if_neg (by omega),show i*s+j-A.length*s=(i-A.length)*s+j by rw [Nat.sub_mul];omega];exact (m.rel _ e j c b l).1
theorem bHh (h : SR base M B st tm w) {dst lv} (h1s : SR base M B { st with fr := lv ++ st.fr } tm w) {p ad cap s A E g2}
  (Z : 0 < s) (L : ElRel M B s A (fun k => ((M ad.block (ad.off + k)).getD undef))) (G : ∀ k, k < A.length * s -> (M ad.block (ad.off + k)).isSome = true) (O : ElRel M B s E g2) (D : E ≠ [])
  (u : ad.spot = none) (y : ad.off = 0) (hk : HOk M w base B ad.block (ad.off + A.length * s) (ad.off + cap * s)) (hroom : A.length + E.length <= cap)
  (N : own1 p (.slice (some ad) A.length cap) = some ad.block) (P : cV p (.slice (some ad) A.length cap) ad.block = 1)
  (F : ∀ b, tot (lv ++ st.fr) tm w B st.bx b + cV p (.slice (some ad) A.length cap) b <= tot st.fr tm w B st.bx b)
  {arr T fz} (hrow : w.heap[ad.block]? = some (.cells arr T fz)) (X : ad.off + cap * s <= arr.size) :
  Aft base M B st tm w { ws := dstW tm.size dst (.slice (A ++ E) [] true) ++ lv } (putT tm dst (.slice (some ad) (A.length + E.length) cap))
   (w.setRow ad.block (arr.toList.take (ad.off + A.length * s) ++ (List.range (E.length * s)).map g2 ++ arr.toList.drop (ad.off + A.length * s + ((List.range (E.length * s)).map g2).length)).toArray) := by
 have hfits : ad.off + A.length * s + ((List.range (E.length * s)).map g2).length <= arr.size := by
  simp;have : (A.length + E.length) * s <= cap * s := aas s hroom;rw [aam] at this; omega
 generalize hnew : (arr.toList.take (ad.off + A.length * s) ++ (List.range (E.length * s)).map g2 ++ arr.toList.drop (ad.off + A.length * s + ((List.range (E.length * s)).map g2).length)).toArray = arr';have z : arr'.size = arr.size := by rw [<- hnew]; exact aXE _ _ _ hfits
 have hget : ∀ j, arr'[j]? = if ad.off + A.length * s <= j /\ j < ad.off + A.length * s + E.length * s then some (g2 (j - (ad.off + A.length * s))) else arr[j]? := by
  intro j;rw [<- hnew, bBb _ _ _ hfits];simp;split
  ·rename_i e;have : j - (ad.off + A.length * s) < E.length * s := by omega
   simp [this]
  rfl
 let w' := w.setRow ad.block arr';let lo := ad.off + A.length * s;let M' := addM M ad.block lo (lo + E.length * s) arr';have hM' : ∀ b i, M' b i = if b = ad.block /\ lo <= i /\ i < lo + E.length * s then arr'[i]? else M b i := fun _ _ => rfl;have hrow' : w'.heap[ad.block]? = some (.cells arr' T fz) := setRow_heap w ad.block arr arr' T _ hrow;have hother : ∀ b, b ≠ ad.block -> w'.heap[b]? = w.heap[b]? := fun b hb => setRow_other w ad.block b arr' hb;have hmono : ∀ b i v, M b i = some v -> M' b i = some v := by
  intro b i v hv;rw [hM', if_neg (by rintro ⟨rfl, Y, _⟩; rw [hk.free i Y] at hv; simp at hv)];exact hv
 have hsame : ∀ b, b ≠ ad.block -> ∀ i, M' b i = M b i := fun b hb i => by rw [hM', if_neg (by rintro ⟨e, _⟩; exact hb e)]
 have hcons : Cons M' w' := by
  intro b i v hv;by_cases hb : b = ad.block
  ·subst hb;rw [hM'] at hv;split at hv;· exact ⟨arr', T, fz, hrow', hv⟩
   rename_i hn;obtain ⟨H, r, g, x1, x2⟩ := h.cons _ i v hv;rw [hrow] at x1; cases x1;refine ⟨arr', T, fz, hrow', ?_⟩;have hlt : ¬ lo <= i := by intro a; rw [hk.free i a] at hv; simp at hv
   rw [hget, if_neg (by show ¬ (lo <= i /\ _); omega)]; exact x2
  rw [hsame b hb] at hv;obtain ⟨H, r, g, x1, x2⟩ := h.cons b i v hv;exact ⟨H, r, g, by rw [hother b hb]; exact x1, x2⟩
 have hz : tot (lv ++ st.fr) tm w B st.bx ad.block = 0 := by
  have := F ad.block; have := h.one ad.block; omega
 obtain ⟨U, J⟩ := h1s.world (M' := M') (w' := w') hcons hmono
  (fun d id b hB => by
   have hb : b ≠ ad.block := by intro e; subst e; exact hk.nobox d id hB
   exact ⟨hother b hb, hsame b hb⟩)
  (fun b x => by
   have hb : b ≠ ad.block := by intro e; subst e; simp at x; omega
   exact ⟨hother b hb, hsame b hb⟩) (by simp [w'])
 have hAn : (A ++ E) ≠ [] := by simp [D]
 have hcellM : ∀ i e j, (A ++ E)[i]? = some e -> j < s -> M' ad.block (ad.off + i * s + j) = some (if i < A.length then (M ad.block (ad.off + (i * s + j))).getD undef else g2 ((i - A.length) * s + j)) := by
  intro i e j he K;have f  := by have := (aa2.1 he).1; simpa using this
  by_cases hi : i < A.length
  ·have hlt : i * s + j < A.length * s := by
    have : (i + 1) * s <= A.length * s := aas s hi;rw [aam] at this; omega
   rw [if_pos hi, hM', if_neg (by show ¬ (_ /\ lo <= _ /\ _); omega), show ad.off + i * s + j = ad.off + (i * s + j) by omega];have := G _ hlt;cases W : M ad.block (ad.off + (i * s + j)) with
   | none => rw [W] at this; simp at this
   | some v => rfl
  have R : A.length * s <= i * s := aas s (by omega);have hlt  := by
   have : (i + 1) * s <= (A.length + E.length) * s := aas s f;rw [aam] at this; omega
  rw [aam] at hlt;have hin : lo <= ad.off + i * s + j /\ ad.off + i * s + j < lo + E.length * s := by show ad.off + A.length * s <= _ /\ _ < ad.off + A.length * s + E.length * s; omega
  rw [if_neg hi, hM', if_pos ⟨rfl, hin⟩, hget, if_pos hin];congr 2;rw [Nat.sub_mul]; omega
 have hok : ∀ (i : Nat) e, (A ++ E)[i]? = some e -> okEl s e := by
  intro i e he;by_cases hi : i < A.length;· rw [aaq hi] at he; exact L.el i e he
  rw [aaJ (by omega)] at he; exact O.el _ e he
 have C : Rv M' B (.slice (A ++ E) [] true) (.slice (some ad) (A.length + E.length) cap) := by
  have e1 : A.length + E.length = (A ++ E).length := by simp
  rw [e1];refine .slice (A ++ E) [] true ad cap s (fun i j => if i < A.length then (M ad.block (ad.off + (i * s + j))).getD undef else g2 ((i - A.length) * s + j)) (fun _ => u) (by simpa using hroom) (by intro _; exact ⟨fun e => absurd e hAn, rfl, fun _ => y⟩) ?_ ?_ ?_;· intro i e he; rw [aac] at he; exact hok i e he
  ·intro i e j he K; rw [aac] at he; exact hcellM i e j he K
  intro i e j c he I;rw [aac] at he;by_cases hi : i < A.length;· rw [aaq hi] at he;simp [if_pos hi];exact ((L.rel i e j c he I).1).mono hmono (fun _ _ _ m => m)
  rw [aaJ (by omega)] at he;simp [if_neg hi];exact ((O.rel _ e j c he I).1).mono hmono (fun _ _ _ m => m)
 have hHOk : HOk M' w' base B ad.block (ad.off + (A.length + E.length) * s) (ad.off + cap * s) := by
  obtain ⟨o, Q, ⟨H, r, g, x1, x2, x3⟩, fr⟩ := hk;rw [hrow] at x1; cases x1;refine ⟨o, Q, ⟨arr', T, fz, hrow', by omega, x3⟩, ?_⟩;intro i hi;rw [aam] at hi;rw [hM', if_neg (by show ¬ (_ /\ _ /\ i < ad.off + A.length * s + E.length * s); omega)];exact fr i (by omega)
 have t : hV M' w' base B (.slice (A ++ E) [] true) (.slice (some ad) (A.length + E.length) cap) := by
  rw [aHt (by simp) (by simp)];obtain ⟨e0, l0, hl0⟩ : ∃ e0 l0, A ++ E = e0 :: l0 := by
   cases hAE : A ++ E with
   | nil => exact absurd hAE hAn
   | cons e0 l0 => exact ⟨e0, l0, rfl⟩
  have l := (hok 0 e0 (by rw [hl0]; rfl)).2.2.1;rw [hl0];show HOk M' w' base B ad.block (ad.off + (A.length + E.length) * e0.cells.length) (ad.off + cap * e0.cells.length);rw [l]; exact hHOk
 have hcnt : ∀ b, cV (.slice (A ++ E) [] true) (.slice (some ad) (A.length + E.length) cap) b <= if b = ad.block then 1 else 0 := by
  intro b;rw [aDG (by simp) (by simp)];unfold c1;split
  ·rename_i e;have : own1 (.slice (A ++ E) [] true) (.slice (some ad) (A.length + E.length) cap) = some ad.block := by
    cases hAE : A ++ E with
    | nil => exact absurd hAE hAn
    | cons e0 l0 => rfl
   rw [this] at e;rw [if_pos (aaa e).symm]; exact aa1 _
  omega
 obtain ⟨S, V⟩ := U.put dst C t (fun b => by
  have e1 := J b;have n := hcnt b;have q := h1s.one b;simp at e1 q ⊢;split at n;· rename_i e; subst e; omega
  omega)
 show Aft base M B st tm w _ _ w';unfold Aft;rw [aJ6, aax];refine ⟨iH _ _ _, M', B, S, rfl, rfl, rfl, by simp [w'], hmono, ?_, ?_, fun d i b hB _ => ⟨d, i, hB⟩, fun _ _ => rfl⟩
 ·intro b hb hnt;have hb' : b ≠ ad.block := by
   intro e; subst e;apply hnt; left;have := F ad.block; omega
  exact ⟨hother b hb', hsame b hb'⟩
 intro b hb;have e1 := V b;have n := hcnt b;have q := J b;have e4 := F b;simp at e1 q ⊢;split at n;· rename_i e; subst e; omega
 omega
end
section
variable {P : Program} {base : Base} {M : Mem} {B : BM} {st : St} {tm : Array Value} {w : World}
theorem aCh {i} (h:aDz i=true):∃ z,i.zero=some z/\z.cells.size=i.size:=by
 unfold aDz at h;grind
theorem aE6 (h : SR base M B st tm w) {dst lv} (h1s : SR base M B { st with fr := lv ++ st.fr } tm w) {p v} (hr : Rv M B p v) (J : hV M w base B p v)
  (O : ∀ b, tot (lv ++ st.fr) tm w B st.bx b + cV p v b <= tot st.fr tm w B st.bx b)
  {t u ty e i d} (hut : P.underlying t = some (.slice e)) (Z : P.underlying u = some d) (C : ∀ k, d ≠ .int k) (R : P.info? e = some i)
  (hs : 0 < i.size) (I : i.bytes <= 512) (hz : aDz i = true) {y E g2} (hE : ElRel M B i.size E g2) (S : (Builtin.lenOf y).run P w = .ok E.length w)
  (Y : ∀ w' , w'.heap = w.heap -> (Builtin.firstCells i.size E.length y).run P w' = .ok ((List.range (E.length * i.size)).map g2).toArray w') {r A}
  (hp : (∃ bs, p = .slice A bs true /\ szOk i.size A = true /\ r = .slice (A ++ E) [] true) ∨ (p = .mk0 i.size /\ A = [] /\ r = slOr i.size E)) (hlim : A.length + E.length <= lim) :
  ∃ v' w', (Builtin.append_ #[t, u] ty #[v, y]).run P w = .ok v' w' /\ Aft base M B st tm w { ws := dstW tm.size dst r ++ lv } (putT tm dst v') w' := by
 obtain ⟨z, D, V⟩ := aCh hz
 -- the handle
 have hform : ∃ bs cap, v = .slice bs A.length cap /\ A.length <= cap /\ (bs = none -> A = [] /\ cap = 0) := by
  rcases hp with ⟨bs, rfl, _, _⟩ | ⟨rfl, rfl, _⟩
  ·cases hr with
   | nil o => exact ⟨none, 0, rfl, by simp, fun _ => ⟨rfl, rfl⟩⟩
   | slice _ _ _ ad cap s f ha hc ho hel hm hrr => exact ⟨some ad, cap, rfl, by omega, by simp⟩
  cases hr with
  | mk0 sz ad cap ha => exact ⟨some ad, cap, rfl, by simp, by simp⟩
 obtain ⟨bs, cap, rfl, hcap, hnil⟩ := hform;by_cases hne : E = []
 ·subst hne;have W : r = p := by
   rcases hp with ⟨G, rfl, _, rfl⟩ | ⟨rfl, rfl, rfl⟩
   ·cases hr with
    | nil o => rfl
    | slice _ _ _ ad cap s f ha hc ho hel hm hrr => rw [(ho rfl).2.1, aac]
   rfl
  have hf0 := Y w rfl;simp [aaH, Nat.zero_mul, List.range_zero, List.map_nil] at hf0;refine ⟨_, w, aDJ (P := P) (ty := ty) hut Z C R bs A.length cap hcap y S hf0, ?_⟩;rw [W];exact aQe h h1s hr J O
 by_cases hroom : A.length + E.length <= cap
 ·-- room: the handle is in memory
  obtain ⟨ad, rfl⟩ : ∃ ad, bs = some ad := by
   cases bs with
   | none => obtain ⟨_, rfl⟩ := hnil rfl; exfalso; apply hne; cases E with
    | nil => rfl
    | cons a l => simp at hroom
   | some ad => exact ⟨ad, rfl⟩
  have q : 0 < E.length := by cases E with
   | nil => exact by grind
   | cons a l => simp
  have key : ad.spot = none /\ ad.off = 0 /\ HOk M w base B ad.block (ad.off + A.length * i.size) (ad.off + cap * i.size) /\ own1 p (.slice (some ad) A.length cap) = some ad.block /\
    cV p (.slice (some ad) A.length cap) ad.block = 1 /\ ElRel M B i.size A (fun k => ((M ad.block (ad.off + k)).getD undef)) /\ (∀ k, k < A.length * i.size -> (M ad.block (ad.off + k)).isSome = true) /\ r = .slice (A ++ E) [] true := by
   rcases hp with ⟨G, rfl, hsz, rfl⟩ | ⟨rfl, rfl, rfl⟩
   ·cases hr with
    | slice _ _ _ _ _ s f ha hc ho hel hm hrr =>
     have hb0 := (ho rfl).2.1;subst hb0;have F : A ≠ [] := by intro e; have := (ho rfl).1 e; omega
     have hin : ∀ (k : Nat) x, A[k]? = some x -> (A ++ [])[k]? = some x := by intro k x hx; rw [aac]; exact hx
     have hss : s = i.size := aVh (fun k x hx => by grind) hsz F;subst hss;obtain ⟨a0, A', rfl⟩ : ∃ a0 A', A = a0 :: A' := by cases A with
      | nil => exact by grind
      | cons a0 A' => exact ⟨a0, A', rfl⟩
     have n := (hel 0 a0 rfl).2.2.1;have hk : HOk M w base B ad.block (ad.off + (a0 :: A').length * a0.cells.length) (ad.off + cap * a0.cells.length) := (aHt (by simp) (by simp)).1 J;rw [n] at hk;refine ⟨by grind, by grind, hk, rfl, ?_, ?_, ?_, rfl⟩;· rw [aDG (by simp) (by simp)]; simp [c1, own1]
     ·refine ⟨fun k x hx => by grind, ?_⟩;intro k x j c hx hcj;have hok := hel k x (hin k x hx);have N : j < i.size := by have := (aa2.1 hcj).1; rw [hok.2.2.1] at this; exact this
      have h5 := hm k x j (hin k x hx) N;have h6 := hrr k x j c (hin k x hx) hcj;rw [show ad.off + k * i.size + j = ad.off + (k * i.size + j) by omega] at h5;simp [h5, aaN];exact ⟨h6, aQi hok hcj h6⟩
     intro k hk';have hlt : k / i.size < (a0 :: A').length := Nat.div_lt_of_lt_mul (by rw [aaI]; exact hk');have hx := aa4 hlt;have h5 := hm (k / i.size) _ (k % i.size) (hin _ _ hx) (abc _ hs);rw [show ad.off + k / i.size * i.size + k % i.size = ad.off + k by have := ab8 k i.size; rw [aaI] at this; omega] at h5;simp [h5]
   cases hr with
   | mk0 _ _ _ ha =>
    have hk : HOk M w base B ad.block ad.off (ad.off + cap * i.size) := (aHt (by simp) (by simp)).1 J;refine ⟨ha.1, ha.2, by simpa using hk, rfl, ?_, ⟨by simp, by simp⟩, by simp, ?_⟩;· rw [aDG (by simp) (by simp)]; simp [c1, own1]
    cases E with
    | nil => exact by grind
    | cons a l => rfl
  obtain ⟨H, L, hk, hown, g, U, Q, rfl⟩ := key;obtain ⟨arr, T, fz, hrow, hsz, m⟩ := hk.row;have hmul  := by
   have  := aas i.size hroom;rw [aam] at this; exact this
  have e : ad = ⟨ad.block, ad.off, none⟩ := by cases ad; simp_all
  have hrun := aOi (P := P) (w := w) (ty := ty) hut Z C R ad.block ad.off A.length cap E.length hroom y ((List.range (E.length * i.size)).map g2) S (Y w rfl) hrow (by simp; omega) (by
    intro x hx;simp [aah, aav] at hx;obtain ⟨k, hk', rfl⟩ := hx;have hlt  := Nat.div_lt_of_lt_mul (by rw [aaI]; exact hk');have he := aa4 hlt;have hok := hE.el _ _ he;have X : k % i.size < (E[k / i.size]).cells.length := by rw [hok.2.2.1]; exact abc _ hs
    have := (hE.rel _ _ (k % i.size) _ he (aa4 X)).2;rwa [show k / i.size * i.size + k % i.size = k by have := ab8 k i.size; rw [aaI] at this; omega] at this) (by
    intro j N;simp at N;exact m _ (by omega))
  rw [<- e] at hrun;exact ⟨_, _, hrun, bHh h h1s hs U Q hE hne H L hk hroom hown g O hrow hsz⟩
 have q : 0 < E.length := by cases E with
  | nil => exact by omega
  | cons a l => simp
 have hold : ∃ g1, ElRel M B i.size A g1 /\ (Builtin.firstCells i.size A.length (.slice bs A.length cap)).run P w.drew = .ok ((List.range (A.length * i.size)).map g1).toArray w.drew := by
  rcases hp with ⟨G, rfl, hsz, rfl⟩ | ⟨rfl, rfl, rfl⟩
  ·cases bs with
   | none =>
    obtain ⟨rfl, rfl⟩ := hnil rfl;exact ⟨fun _ => undef, ⟨by simp, by simp⟩, by simp [Builtin.firstCells]⟩
   | some ad =>
    obtain ⟨g1, q1, q2, q3⟩ := aGz (P := P) hr h.cons hsz;exact ⟨g1, q1, q3 w.drew rfl⟩
  cases bs with
  | none => exact ⟨fun _ => undef, ⟨by simp, by simp⟩, by simp [Builtin.firstCells]⟩
  | some ad => exact ⟨fun _ => undef, ⟨by simp, by simp⟩, by simp [Builtin.firstCells, loadCells, loadCellsFrom]⟩
 obtain ⟨g1, U, ho⟩ := hold;simp [lim] at hlim;have K  := by
  have  := Nat.mul_le_mul hlim I;omega
 obtain ⟨cap', hcap', hrun⟩ := aF0 (P := P) (w := w) (ty := ty) hut Z C R D bs A.length cap E.length (by omega) y _ _ S (Y w.drew rfl) ho K (by omega);have hr2 : r = .slice (A ++ E) [] true := by
  rcases hp with ⟨G, rfl, _, rfl⟩ | ⟨rfl, rfl, rfl⟩;· rfl
  cases E with
  | nil => exact by grind
  | cons a l => rfl
 refine ⟨_, _, hrun, ?_⟩;have := aQh h (dst := dst) h1s (fun b => by have := O b; omega) (s := i.size) (cap := cap') (es := A ++ E) (fz := (0, 0)) (T := e)
  (w' := w.drew.alloc (.cells (((List.range (A.length * i.size)).map g1).toArray ++ ((List.range (E.length * i.size)).map g2).toArray ++ Builtin.zeroCells z.cells (cap' - (A.length + E.length))) e))
  (U.row hE hs) (by simpa using hcap') (by
   rw [Array.size_append, Array.size_append, size_zeroCells, V];simp;have h7 : cap' = (A.length + E.length) + (cap' - (A.length + E.length)) := by omega
   have h8 : cap' * i.size = (A.length + E.length) * i.size + (cap' - (A.length + E.length)) * i.size := by rw [<- Nat.add_mul, <- h7]
   rw [aam] at h8;omega) (by simp) rfl rfl rfl rfl (r := r) (.inl ⟨hr2, fun hx => by exfalso; apply hne; simp at hx; exact hx.2⟩)
 simpa using this
theorem bHi (h:SR base M B st tm w) {dst lv} (h1s:SR base M B {st with fr:=lv++st.fr} tm w) {p q r v y} (l:Rv M B p v) (c:hV M w base B p v)
  (g:∀ b,tot (lv++st.fr) tm w B st.bx b+cV p v b<=tot st.fr tm w B st.bx b) (F:Rv M B q y)
  {t u ty e G i} (hut:P.underlying t=some (.slice e)) (m:P.underlying u=some (.slice G)) (j:P.info? e=some i)
  (n:0<i.size) (hby:i.bytes<=512) (d:aDz i=true) (ha:apd i.size p q=some r) :
  ∃ k w',(Builtin.append_ #[t,u] ty #[v,y]).run P w = .ok k w'/\Aft base M B st tm w {ws:=dstW tm.size dst r++lv} (putT tm dst k) w':=by
 have hyE:∀ E bs o,q = .slice E bs o->szOk i.size E=true->∃ g2,ElRel M B i.size E g2/\(Builtin.lenOf y).run P w = .ok E.length w/\∀ w',w'.heap=w.heap->(Builtin.firstCells i.size E.length y).run P w' = .ok ((List.range (E.length*i.size)).map g2).toArray w':=by
  intro E bs o x hsz;subst x;cases F with
  | nil o=>exact ⟨fun _=>undef,⟨by simp,by simp⟩,rfl,fun w' _=>by simp [Builtin.firstCells]⟩
  | slice _ _ _ C cap s f ha2 hc D hel H hrr =>
   obtain ⟨g2,q1,q2,q3⟩:=aGz (P:=P) (Rv.slice E bs o C cap s f ha2 hc D hel H hrr) h.cons hsz;exact ⟨g2,q1,rfl,q3⟩
 unfold apd at ha;split at ha
 ·rename_i A bs E bs' o;split at ha;· rename_i hc;obtain ⟨g2,q1,q2,q3⟩:=hyE E bs' o rfl hc.2.2;exact aE6 h h1s l c g hut m (by simp) j n hby d q1 q2 q3 (A:=A) (by grind) hc.1
  grind
 ·rename_i sz E bs' o;split at ha;· rename_i hc;cases ha;obtain ⟨z,rfl,a⟩:=hc;obtain ⟨g2,q1,q2,q3⟩:=hyE E bs' o rfl a;exact aE6 h h1s l c g hut m (by simp) j n hby d q1 q2 q3 (A:=[]) (by simp) (by grind)
  grind
 grind
theorem aXF s:ElRel M B 1 (iW s) (fun k => .int .u8 ((s.getD k 0).toNat:Int)):=by
 have f:∀ (i:Nat) e,(iW s)[i]?=some e->∃ b,s[i]?=some b/\e = .int .u8 b.toNat:=by
  intro i e a;simp [iW] at a;grind
 refine ⟨?_,?_⟩;· intro i e a;obtain ⟨b,_,rfl⟩:=f i e a;exact ⟨rfl,rfl,rfl,by omega⟩
 intro i e j c a d;obtain ⟨b,g,rfl⟩:=f i e a;cases j with
 | zero =>
  simp [PV.cells] at d;subst d;simp [g];exact ⟨.int _ _,rfl⟩
 | succ j=>simp [PV.cells] at d
theorem bBg (s:List UInt8):(s.map fun b=>Value.int .u8 b.toNat)=(List.range s.length).map fun k=>Value.int .u8 ((s.getD k 0).toNat:Int):=by
 apply aaS;grind
theorem aZn (h:SR base M B st tm w) {dst lv} (a:SR base M B {st with fr:=lv++st.fr} tm w) {p q r v y} (E:Rv M B p v) (n:hV M w base B p v)
  (x:∀ b,tot (lv++st.fr) tm w B st.bx b+cV p v b<=tot st.fr tm w B st.bx b) (J:Rv M B q y)
  {t u ty e i} (c:P.underlying t=some (.slice e)) (F:P.underlying u=some .string) (C:P.info? e=some i)
  (G:i.size=1) (g:i.bytes<=512) (o:aDz i=true) (j:bAZ p q=some r) :
  ∃ D w',(Builtin.append_ #[t,u] ty #[v,y]).run P w = .ok D w'/\Aft base M B st tm w {ws:=dstW tm.size dst r++lv} (putT tm dst D) w':=by
 have d:∀ s,q = .str s->(Builtin.lenOf y).run P w = .ok (iW s).length w/\∀ w',w'.heap=w.heap->(Builtin.firstCells i.size (iW s).length y).run P w' = .ok ((List.range ((iW s).length*i.size)).map fun k=>Value.int .u8 ((s.getD k 0).toNat:Int)).toArray w':=by
  intro s H;subst H;rw [J.str_inv];have I:(iW s).length=s.length:=by simp [iW]
  rw [I,G];refine ⟨by simp [Builtin.lenOf,ByteArray.size],fun w' _ => ?_⟩;simp only [Builtin.firstCells,Nat.mul_one];rw [<- bBg];simp
 have f:∀ s,ElRel M B i.size (iW s) (fun k => .int .u8 ((s.getD k 0).toNat:Int)):=by intro s;rw [G];exact aXF s
 have z:∀ s,(iW s).length=s.length:=by simp [iW]
 unfold bAZ at j;split at j
 ·rename_i A K s;split at j;· obtain ⟨m,l⟩:=d s rfl;exact aE6 h a E n x c F (by simp) C (by omega) g o (f s) m l (A:=A) (by grind) (by grind)
  grind
 ·rename_i sz s;split at j;· obtain ⟨m,l⟩:=d s rfl;exact aE6 h a E n x c F (by simp) C (by omega) g o (f s) m l (A:=[]) (by grind) (by grind)
  grind
 grind
theorem aVq (h : SR base M B st tm w) {dst x r a s d e} (q : P.underlying s = some .string) (t : P.underlying d = some (.slice e)) (p : P.underlying e = some (.int .u8))
  (i : Rv M B x a) (n : aU9 x = some r) : ∃ o w', (convert s d a).run P w = .ok o w' /\ Aft base M B st tm w { ws := dstW tm.size dst r } (putT tm dst o) w' := by
 unfold aU9 at n;split at n
 ·rename_i c;rw [i.str_inv];refine ⟨_, _, run_bytes_of_string (P := P) w s d e ⟨c.toArray⟩ q t p, ?_⟩;have u : (ByteArray.mk c.toArray).size = c.length := by simp [ByteArray.size]
  have f : c.length <= grownCap w (ByteArray.mk c.toArray).size 0 e := by simp [grownCap, Question.cut]; omega
  generalize grownCap w (ByteArray.mk c.toArray).size 0 e = cap at f;have g : bytesRow ⟨c.toArray⟩ cap = ((List.range c.length).map fun k => Value.int .u8 ((c.getD k 0).toNat : Int)).toArray ++ Array.replicate (cap - c.length) (.int .u8 0) := by
   unfold bytesRow;grind
  have m : RowRel M B 1 (iW c) (bytesRow ⟨c.toArray⟩ cap) := by
   have := (ElRel.row (A := []) (E := iW c) (g1 := fun _ => undef) (s := 1) (rest := Array.replicate (cap - c.length) (.int .u8 0)) (M := M) (B := B) ⟨by simp, by simp⟩ (aXF c) (by omega));rw [g];simpa [iW] using this
  have j : (bytesRow ⟨c.toArray⟩ cap).size = cap := by grind
  have := aQh h (dst := dst) (lv := []) (by simp_all) (fun b => aa1 _) (s := 1) (cap := cap) (es := iW c) (arr := bytesRow ⟨c.toArray⟩ cap) (T := e) (fz := ((bytesRow ⟨c.toArray⟩ cap).size, (bytesRow ⟨c.toArray⟩ cap).size + 1))
   (w' := w.drew.alloc (.cells (bytesRow ⟨c.toArray⟩ cap) e ((bytesRow ⟨c.toArray⟩ cap).size, (bytesRow ⟨c.toArray⟩ cap).size + 1)))
   m (by simpa [iW] using f) (by omega) (by omega) rfl rfl rfl rfl
   (r := slOr 1 (iW c)) (by
    cases c with
    | nil => exact .inr ⟨rfl, rfl⟩
    | cons a l => exact .inl ⟨rfl, fun i => by simp [iW] at i⟩)
  have v : (iW c).length = c.length := by simp [iW]
  grind
 grind
theorem aQj (h:SR base M B st tm w) {dst t e i z n x a} (q:P.underlying t=some (.slice e)) (v:P.info? e=some i) (p:i.zero=some z) (A:z.cells.size=i.size)
  (o:0<i.size) (g:i.bytes<=512) (y:n<=lim) (f:aDx x=some n) (l:Rv M B x a) :
  ∃ w',(Instr.makeSlice t (.int .i64 0) a).run P w = .ok (.slice (some ⟨w.heap.size,0,none⟩) 0 n) w' /\
   Aft base M B st tm w {ws:=dstW tm.size dst (.mk0 i.size)} (putT tm dst (.slice (some ⟨w.heap.size,0,none⟩) 0 n)) w':=by
 unfold aDx at f;split at f
 ·rename_i k m;split at f;· grind
  obtain rfl:m.toNat=n:=by grind
  rw [l.int_inv];have d:m.toNat<=274877906944:=y;have c:i.bytes*m<=281474976710656:=by
   have C  := Nat.mul_le_mul g d;grind
  have j:=run_make (P:=P) w t e i z q v p .i64 k 0 m (by omega) (by omega) c (by omega);have u:(madeCells z.cells (m.toNat*i.size)).size=m.toNat*i.size:=by
   unfold madeCells;simp
  have:=aQh h (dst:=dst) (lv:=[]) (by simp_all) (fun b=>aa1 _) (s:=i.size) (cap:=m.toNat) (es:=[]) (arr:=madeCells z.cells (m.toNat*i.size)) (T:=e) (fz:=(0,0))
   (w':=w.alloc (.cells (madeCells z.cells (m.toNat*i.size)) e)) ⟨o,by simp,by simp,by simp⟩ (by simp) (by omega) (by simp) rfl rfl rfl rfl (r := .mk0 i.size) (by simp)
  grind
 grind
end
end Go.Ev

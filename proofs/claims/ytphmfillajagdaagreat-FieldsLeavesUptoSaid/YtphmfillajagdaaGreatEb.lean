import Derived.Test.YtphmfillajagdaaGreatEa
import Derived.Laws.MakeOwn
set_option linter.unusedVariables false
set_option linter.unusedSimpArgs false
set_option linter.unusedSimpArgs false
namespace Go.Ev
open PV
section
variable {P : Program} {base : Base} {M : Mem} {B : BM} {st : St} {tm : Array Value} {w : World}
theorem aTc {x n} (h:aBp x=some n):∃ (k:IntKind) (m:Int),x = .int k m∧0≤m∧n=m.toNat:=by
 unfold aBp at h;grind
theorem aOC {s n l} (a:∀ (i:Nat) e,l[i]?=some e→okEl s e) (h:szOk n l=true) (b:l≠[]):s=n:=by
 cases l with
 | nil=>grind
 | cons e l =>
  have:=(a 0 e rfl).2.2.1;simp [szOk] at h;omega
theorem Rv.sub {es b o a n l h} (F:Rv M B (.slice es b o) a) (K:l≤h) (x:h≤es.length+b.length) (t:szOk n (es++b)=true) :
  ∃ d len cap,a = .slice d len cap∧len=es.length∧es.length+b.length≤cap ∧
   Rv M B (.slice (((es++b).take h).drop l) ((es++b).drop h) false) (sliced d l h cap n):=by
 cases F with
 | nil o =>
  simp at x;obtain rfl:l=0:=by omega
  obtain rfl:h=0:=by omega
  refine ⟨none,0,0,rfl,rfl,by simp,?_⟩;simp;exact .nil false
 | slice es b o d cap s f P I L w J N =>
  refine ⟨some d,es.length,cap,rfl,rfl,I,?_⟩;have g:(((es++b).take h).drop l).length=h-l:=by simp;omega
  have k:((es++b).drop h).length=es.length+b.length-h:=by simp
  have p:∀ i e,(((es++b).take h).drop l++(es++b).drop h)[i]?=some e→(es++b)[l+i]?=some e:=by
   grind
  by_cases m:cap=l
  ·have D:h=l:=by omega
   subst D;have C:((es++b).take h).drop h=[]:=by simp
   have G:(es++b).drop h=[]:=by simp;omega
   rw [C,G];subst m;simp [sliced];exact .slice [] [] false d 0 1 (fun _ _=>undef) (fun O=>by omega) (by simp) (by simp) (by simp) (by simp) (by simp)
  have r:sliced (some d) l h cap n = .slice (some ⟨d.block,d.off+l*n,none⟩) (((es++b).take h).drop l).length (cap-l):=by
   simp [sliced,if_neg m,Addr.add_none d _ (by grind),g]
  rw [r];refine .slice _ _ false ⟨d.block,d.off+l*n,none⟩ (cap-l) s (fun i j=>f (l+i) j) (fun _=>rfl) (by rw [g,k];omega) (by simp) ?_ ?_ ?_;· intro i e u;exact by grind
  ·intro i e j u z;have v:=p i e u;have q:es++b≠[]:=by intro E;rw [E] at v;simp at v
   have H  := aOC w t q;subst H;have:=J (l+i) e j v z;rw [show d.off+l*s+i*s+j=d.off+(l+i)*s+j by rw [Nat.add_mul];omega];exact this
  intro i e j c u y;exact by grind
theorem aU4 {x r a} {t e n l h:Nat} (m:P.underlying t=some (.slice e)) (f:szOf P e=some (n+1)) (c:aGe (n+1) x l h=some r) (j:Rv M B x a)
  {k q} (s:∀ len cap,lenN (n+1) x=some len→h≤cap→l≤h→len≤cap→(Instr.sliceBounds true len cap k q none).run P w = .ok (l,h,cap) w) :
  ∃ v,(Instr.sliceAt t a k q none).run P w = .ok v w∧Rv M B r v∧dU r v:=by
 unfold aGe at c;split at c;· omega
 ·rename_i es z o y i;cases i;split at c;· rename_i b;cases c;obtain ⟨d,len,cap,rfl,rfl,u,g⟩:=j.sub b.1 b.2.1 b.2.2;refine ⟨_,?_,g,kL _ _ _⟩;have:=s es.length cap rfl (by omega) b.1 (by omega);simp [Instr.sliceAt,Instr.slice,run_underlying m,this,dE w f,sliced]
  grind
 ·split at c
  ·rename_i b;obtain ⟨rfl,rfl⟩:=b;cases c;cases j with
   | mk0 sz d cap p =>
    refine ⟨sliced (some d) 0 0 cap (n+1),?_,?_,kL _ _ _⟩;· have:=s 0 cap rfl (by omega) (by omega) (by omega);simp [Instr.sliceAt,Instr.slice,run_underlying m,this,dE w f,sliced]
    by_cases b:cap=0;· subst b;exact .slice [] [] false d 0 1 (fun _ _=>undef) (fun _=>p.1) (by simp) (by simp) (by simp) (by simp) (by simp)
    simp only [sliced,if_neg b,Option.map_some,Addr.add_none d _ p.1];exact .slice [] [] false ⟨d.block,d.off+0*(n+1),none⟩ (cap-0) 1 (fun _ _=>undef) (fun _=>rfl) (by simp) (by simp) (by simp) (by simp) (by simp)
  grind
 grind
theorem aTd {x r a} {t l h:Nat} (j:P.underlying t=some .string) (b:aGe 0 x l h=some r) (f:Rv M B x a)
  {d c} (i:∀ len,lenN 0 x=some len→h≤len→l≤h→(Instr.sliceBounds false len len d c none).run P w = .ok (l,h,len) w) :
  ∃ v,(Instr.sliceAt t a d c none).run P w = .ok v w∧(∀ M B,Rv M B r v)∧Flat r:=by
 unfold aGe at b;split at b
 ·rename_i s _;split at b
  ·rename_i e;cases b;rw [f.str_inv];refine ⟨.string ((ByteArray.mk s.toArray).extract l h),?_,?_,.inr (.inr ⟨_,rfl⟩)⟩
   ·have g:(ByteArray.mk s.toArray).size=s.length:=by simp [ByteArray.size]
    have:=i s.length rfl e.2 e.1;simp [Instr.sliceAt,Instr.slice,run_underlying j];simp_all
   intro M B;have:(ByteArray.mk s.toArray).extract l h=⟨((s.take h).drop l).toArray⟩:=by
    apply ByteArray.ext;simp [List.drop_take]
   rw [this];exact .str _
  grind
 all_goals grind
theorem aLF b len cap:(Instr.sliceBounds b len cap none none none).run P w = .ok (0,len,cap) w:=by simp [Instr.sliceBounds]
theorem aLG b len cap k l (a:0≤l) (c:l.toNat≤len):(Instr.sliceBounds b len cap (some (.int k l)) none none).run P w = .ok (l.toNat,len,cap) w:=by
 have:=run_sliceBound (P:=P) w k l len .sliceB a (by omega);simp [Instr.sliceBounds,this]
theorem aLH b len cap k h (a:0≤h) (c:h.toNat≤cap):(Instr.sliceBounds b len cap none (some (.int k h)) none).run P w = .ok (0,h.toNat,cap) w:=by
 have:=run_sliceBound (P:=P) w k h cap (if b then .sliceAcap else .sliceAlen) a (by omega);simp [Instr.sliceBounds,this]
theorem aLI b len cap k k' l h (d:0≤l) (g:l.toNat≤h.toNat) (a:0≤h) (f:h.toNat≤cap) :
  (Instr.sliceBounds b len cap (some (.int k l)) (some (.int k' h)) none).run P w = .ok (l.toNat,h.toNat,cap) w:=by
 have e:=run_sliceBound (P:=P) w k' h cap (if b then .sliceAcap else .sliceAlen) a (by omega);have c:=run_sliceBound (P:=P) w k l h.toNat .sliceB d (by omega);simp [Instr.sliceBounds,e,c]
theorem aU5 {x r a s d k q} (c:P.underlying s=some q) (e:P.underlying d=some (.int k)) (h:aXi k x=some r) (b:Rv M B x a) :
  ∃ v,(convert s d a).run P w = .ok v w∧(∀ M B,Rv M B r v)∧Flat r:=by
 unfold aXi at h;split at h;· cases h;rw [b.int_inv];exact ⟨.int k _,by simp [convert,run_underlying c,run_underlying e,Conv.intToInt],fun _ _ => .int _ _,.inr (.inl ⟨_,_,rfl⟩)⟩
 grind
theorem aE0:∀ es s,aCI es=some s→s.length=es.length∧∀ (i:Nat) b,s[i]?=some b→∃ n,es[i]?=some (.int .u8 n)∧b=UInt8.ofNat n.toNat
 | [],s,h=>by simp [aCI] at h;grind
 | e::es,s,h=>by
  simp [aCI] at h;split at h
  ·rename_i b r d a;obtain ⟨g,f⟩:=aE0 es r a;refine ⟨by grind,?_⟩;intro i c j;cases i with
   | zero =>
    unfold aZH at d;grind
   | succ i=>grind
  grind
theorem aCR a len cap (b:List Int) (h:(loadCells a len).run P w = .ok (b.map (Value.int .u8)).toArray w) :
  (Conv.bytesToString (.slice (some a) len cap)).run P w = .ok (.string ⟨(b.map fun n=>UInt8.ofNat n.toNat).toArray⟩) w:=by
 rw [run_bytesToString w a len cap b h];have c:∀ (b:List Int) (r:ByteArray),b.foldl (fun r n=>r.push (UInt8.ofNat n.toNat)) r=⟨r.data++(b.map fun n=>UInt8.ofNat n.toNat).toArray⟩:=by
  intro b;induction b with
  | nil=>simp
  | cons n b d=>simp_all
 simp_all
theorem aU6 {x r a s d e} (c:P.underlying s=some (.slice e)) (he:P.underlying e=some (.int .u8)) (g:P.underlying d=some .string)
  (z:Cons M w) (h:bAb x=some r) (t:Rv M B x a):∃ v,(convert s d a).run P w = .ok v w∧(∀ M B,Rv M B r v)∧Flat r:=by
 unfold bAb at h;split at h
 ·rename_i es u o;obtain ⟨str,hstr,h⟩:=aB h;cases h;obtain ⟨p,A⟩:=aE0 es str hstr;refine ⟨.string ⟨str.toArray⟩,?_,fun _ _ => .str _,.inr (.inr ⟨_,rfl⟩)⟩;cases t with
  | nil o =>
   simp at p;subst p;rw [run_convert_bytes_string w s d e none 0 0 c he g];rfl
  | slice es u o ad cap sz f C q F l D y =>
   rw [run_convert_bytes_string w s d e (some ad) es.length cap c he g]
   -- the numbers
   let ns  := es.map fun e=>match e with | .int _ n=>n | _=>0;have b:∀ i,i<es.length→∃ n,es[i]?=some (.int .u8 n)∧ns[i]?=some n∧str[i]?=some (UInt8.ofNat n.toNat):=by
    intro i E;have hi2:i<str.length:=by omega
    obtain ⟨n,h1,k⟩:=A i str[i] (by simp);exact ⟨n,h1,by simp [ns,h1],by rw [List.getElem?_eq_getElem hi2,k]⟩
   have hload:(loadCells ad es.length).run P w = .ok (ns.map (Value.int .u8)).toArray w:=by
    have hlen:es.length=(ns.map (Value.int .u8)).length:=by simp [ns]
    rw [hlen];apply run_loadCells_list;intro j v hj;have hj'  := by have:=(List.getElem?_eq_some_iff.1 hj).1;simpa [ns] using this
    obtain ⟨n,h1,k,_⟩:=b j hj';have hin:(es++u)[j]?=some (.int .u8 n):=by rw [List.getElem?_append_left hj'];exact h1
    have m:=l j _ hin;have hsz1:sz=1:=m.2.2.1.symm;subst hsz1;have hMem:=D j _ 0 hin (by omega);have hv:=y j _ 0 (.int .u8 n) hin (by simp [PV.cells]);rw [hv.int_inv] at hMem;simp at hMem;obtain ⟨arr,T,fz,hrow,hget⟩:=z _ _ _ hMem;rw [List.getElem?_map,k] at hj;simp at hj;subst hj;rw [Addr.add_none ad j (by grind)];simp [World.cell?,hrow,hget]
   rw [aCR ad es.length cap ns hload];congr 4;apply List.ext_getElem?;grind
 ·cases h;cases t with
  | mk0 sz ad cap C =>
   refine ⟨.string ⟨#[]⟩,?_,fun _ _ => .str [],.inr (.inr ⟨_,rfl⟩)⟩;rw [run_convert_bytes_string w s d e (some ad) 0 cap c he g];rfl
 simp at h
end
section
variable {P : Program} {base : Base} {M : Mem} {B : BM} {st : St} {tm : Array Value} {w : World}
theorem rZ cs:(List.range cs.length).map (gt cs)=cs:=by
 apply List.ext_getElem?;intro i;by_cases h:i<cs.length;· simp [h,aBt]
 grind
theorem aLJ {v:Value} (h:v.oneCell'=true):v.cells = #[v]:=by cases v<;>first | rfl | simp [Value.oneCell'] at h
theorem Rv.oneCell2 {p v} (h:Rv M B p v) (d:∀ cs,p ≠ .agg cs) (c:∀ cs,p ≠ .tuple cs) (b:p ≠ .bot) (a:p ≠ .und):v.oneCell'=true:=by
 cases h<;>first | rfl | grind | grind | grind | grind
theorem aGr {n z p cs v} (h:mB n z p=some cs) (r:Rv M B p v) :
  cs.length=n∧v.cells.size=n∧(∀ j c,cs[j]?=some c→Rv M B c (v.cells.getD j undef)) ∧
   (∀ b,bT cs.length (fun j=>c1 (cs.getD j .bot) (v.cells.getD j undef) b)=cV p v b) ∧
   (∀ w base,hV M w base B p v→∀ j c,cs[j]?=some c→h1 M w base B c (v.cells.getD j undef)):=by
 unfold mB at h;split at h
 ·rename_i y;split at h
  ·rename_i k;subst k;rw [rZ] at h;cases h;cases r with
   | agg _ vs f k A r =>
    have x:∀ i,i<cs.length→vs.getD i undef=f i:=by simp_all
    refine ⟨rfl,k,?_,fun b=>(aUZ cs vs b k).symm,?_⟩;· intro j c g;show Rv M B c (vs.getD j undef);grind
    intro w base q j c g;refine q (c,vs.getD j undef) ?_;show (c,vs.getD j undef)∈cs.zip vs.toList;apply List.mem_of_getElem? (i:=j);grind
  grind
 ·grind
 ·grind
 ·grind
 ·grind
 ·grind
 rename_i o l m u;split at h
 ·cases h;have s  := fun cs e=>o cs e;have t  := fun cs e=>l cs e;have d:=r.oneCell2 s t (fun e=>m e) (fun e=>u e);rw [aLJ d];refine ⟨rfl,rfl,?_,?_,?_⟩
  ·intro j c g;cases j with
   | zero=>simp_all
   | succ j=>grind
  ·intro b;rw [xB s t];simp [bT]
  intro w base q j c g;cases j with
  | zero=>simp at g;subst g;exact (aCP s t).1 q
  | succ j=>grind
 grind
theorem aAo {n l p cs v d} (h:mB n l p=some cs) (i:Rv M B p v) (f:cs.all (fits d)=true) :
  cs.length=n∧v.cells.size=n∧(∀ j c,cs[j]?=some c→Rv M B c (v.cells.getD j undef)∧fits d c=true∧(v.cells.getD j undef).oneCell'=true) ∧
   (∀ b,bT cs.length (fun j=>c1 (cs.getD j .bot) (v.cells.getD j undef) b)=cV p v b) ∧
   (∀ w base,hV M w base B p v→∀ j c,cs[j]?=some c→h1 M w base B c (v.cells.getD j undef)):=by
 obtain ⟨o,k,g,q,m⟩:=aGr h i;rw [List.all_eq_true] at f;refine ⟨o,k,?_,q,m⟩;intro j c e;have a:=f c (List.mem_of_getElem? e);exact ⟨g j c e,a,(g j c e).oneCell a⟩
theorem aU7 (st:St) ws a r nw (b:st.bx=a::r):({ws:=ws,nw:=[nw]}:Eff).app st=⟨ws++st.fr,(nw::a)::r⟩:=by
 cases st with
 | mk fr bx=>subst b;rfl
theorem lC {a dst id} (h:kJ a st dst=some id):dst=some id∧id<a∧∃ b r,st.bx=b::r∧look b id=none:=by
 unfold kJ at h;grind
theorem aU8 (h:SR base M B st tm w) {o n s p v lv e T}
  (he:newBox tm.size o n s p lv st some=some e) (h1s:SR base M B {st with fr:=lv++st.fr} tm w) (k:Rv M B p v) (z:hV M w base B p v)
  (ht:∀ b,tot (lv++st.fr) tm w B st.bx b+cV p v b≤tot st.fr tm w B st.bx b) :
  Aft base M B st tm w e (putT tm o.dst (.pointer (some ⟨w.heap.size,0,none⟩))) {w with heap:=w.heap.push (.cells v.cells T (0,0))}:=by
 unfold newBox at he;split at he
 ·rename_i id hid;obtain ⟨hdst,hlt,x,r,hbx,hlook⟩:=lC hid;obtain ⟨cs,hcs,he⟩:=aB he;rcases bA he with ⟨m,he⟩ | ⟨_,he⟩
  ·cases he;obtain ⟨C,f,hrel,hcnt,q⟩:=aAo hcs k m;obtain ⟨t,y⟩:=h1s.newBox (w':={w with heap:=w.heap.push (.cells v.cells T (0,0))}) (xs:=v.cells) (T:=T) (vs:=cs) hbx hlook rfl (by omega)
    (fun j c hc=>⟨(hrel j c hc).1,by grind,(hrel j c hc).2.1⟩) (fun b=>by rw [hcnt b];exact Nat.le_trans (ht b) (h.one b))
   have hrp:Rv M (setB B id w.heap.size) (.ptr 0 id 0) (.pointer (some ⟨w.heap.size,0,none⟩)) := .ptr 0 id 0 _ (by simp [setB]);obtain ⟨D,E⟩:=t.putN o.dst hrp (mD _ _ _ _);unfold Aft;rw [aU7 st _ x r (id,cs) hbx];have l:dstW tm.size o.dst (.ptr 0 id 0)++(lv++st.fr)=(id,.ptr 0 id 0)::lv++st.fr:=by simp [dstW,hdst,hlt]
   refine ⟨fB _ _ _,M,setB B id w.heap.size,?_,?_⟩;· grind
   refine ⟨rfl,rfl,rfl,by simp,fun _ _ _ g=>g,?_,?_,?_,fun d u=>by simp [setB]⟩;· grind
   ·grind
   intro d i b hB F;unfold setB at hB;grind
  grind
 grind
theorem mE {d id blk cs} (h:SR base M B st tm w) (g:bB st.bx d id=some cs) (f:B d id=some blk):∃ arr T fz,w.heap[blk]?=some (.cells arr T fz)∧(phys cs).length≤arr.size∧(∀ i,i<(phys cs).length→¬ (fz.1≤i∧i<fz.2)) ∧
  BoxOk M w base B d blk cs∧∀ j,j<(phys cs).length→w.cell? ⟨blk,j,none⟩=some (bN w blk j):=by
 have e:=h.box.get g f;obtain ⟨arr,T,fz,a,b,c⟩:=e.row;refine ⟨arr,T,fz,a,b,c,e,?_⟩;intro j k;have:j<arr.size:=by omega
 simp [bN,World.cell?,a,this]
theorem tC {t n:Nat} {a blk off} (d:szOf P t=some n) (e:agOf P t=some a) (c:∀ j,j<n→w.cell? ⟨blk,off+j,none⟩=some (bN w blk (off+j))) (b:a=false→0<n) :
  (Instr.loadAt t (.pointer (some ⟨blk,off,none⟩))).run P w = .ok (if a then .agg ((List.range n).map fun j=>bN w blk (off+j)).toArray else bN w blk off) w:=by
 simp [Instr.loadAt,Instr.sureAddr,loadVar,tS w e];cases a with
 | true =>
  simp [dE w d];rw [run_loadCells w ⟨blk,off,none⟩ n (fun j=>bN w blk (off+j)) (fun j f=>by rw [Addr.add_none _ _ rfl];grind)];rfl
 | false =>
  have:=c 0 (b rfl);simp_all
theorem aJM {d blk off n ag cs0 cs v} (D:BoxOk M w base B d blk cs0) (hcs0:phys cs0=cs) (h:part off n ag cs=some v) (p:ag=false→n=1) :
  off+n≤cs.length ∧
  Rv M B (sY d v) (if ag then .agg ((List.range n).map fun j=>bN w blk (off+j)).toArray else bN w blk off) ∧
  hV M w base B (sY d v) (if ag then .agg ((List.range n).map fun j=>bN w blk (off+j)).toArray else bN w blk off) ∧
  (∀ b,cV (sY d v) (if ag then .agg ((List.range n).map fun j=>bN w blk (off+j)).toArray else bN w blk off) b=bT n (fun j=>c1 (cs.getD (off+j) .bot) (bN w blk (off+j)) b)) ∧
  (bV ag v).length=n∧∀ j c,(bV ag v)[j]?=some c→∃ c0,cs[off+j]?=some c0∧c=c0.plain1:=by
 obtain ⟨_,_,_,okrel⟩:=D;rw [hcs0] at okrel;unfold part at h;cases ag with
 | true =>
  simp only at h;split at h
  ·rename_i k;cases h;have hlen:((cs.drop off).take n).length=n:=by simp;omega
   have g:∀ j c,((cs.drop off).take n)[j]?=some c→cs[off+j]?=some c∧j<n:=by
    intro j c hc;rw [List.getElem?_take] at hc;split at hc;· exact ⟨by rwa [List.getElem?_drop] at hc,by assumption⟩
    simp at hc
   have hra:sY d (.agg ((cs.drop off).take n)) = .agg (((cs.drop off).take n).map (Ev.raise1 d)):=aJI d _;have z:(((List.range n).map fun j=>bN w blk (off+j)).toArray).size=n:=by simp
   have l:∀ j,j<n→(((List.range n).map fun j=>bN w blk (off+j)).toArray).getD j undef=bN w blk (off+j):=by
    intro j hj;simp [Array.getD_eq_getD_getElem?,hj]
   rw [hra];simp only [if_true];refine ⟨k,?_,?_,?_,?_,?_⟩
   ·refine .agg _ _ (fun j=>bN w blk (off+j)) (by simp;omega) ?_ ?_;· intro i hi;simp only [List.length_map,hlen] at hi;simp [hi]
    intro i c hc;rw [List.getElem?_map,Option.map_eq_some_iff] at hc;obtain ⟨c0,h0,rfl⟩:=hc;obtain ⟨f,r2,r3⟩:=okrel (off+i) c0 (g i c0 h0).1;exact f.raise1 r3
   ·intro x s;simp only [atoms,zipA] at s;obtain ⟨i,hi⟩:=List.mem_iff_getElem?.1 s;rw [List.getElem?_zip_eq_some] at hi;obtain ⟨q,r⟩:=hi;rw [List.getElem?_map,Option.map_eq_some_iff] at q;obtain ⟨c0,h0,C⟩:=q;obtain ⟨f,r2,r3⟩:=okrel (off+i) c0 (g i c0 h0).1;have m:=(g i c0 h0).2;have o:x.2=bN w blk (off+i):=by
     have:(((List.range n).map fun j=>bN w blk (off+j)).toArray.toList)[i]?=some (bN w blk (off+i)):=by simp [m]
     rw [this] at r;exact (Option.some.inj r).symm
    rw [← C,o];exact (aRz d c0 _).2 r2
   ·intro b;rw [aUZ _ _ _ (by simp;omega),List.length_map,hlen];apply eK;intro j hj;rw [l j hj];have hj2:off+j<cs.length:=by omega
    have u:((cs.drop off).take n)[j]?=some cs[off+j]:=by
     rw [List.getElem?_take,if_pos hj,List.getElem?_drop,List.getElem?_eq_getElem hj2]
    have o:((((cs.drop off).take n).map (Ev.raise1 d)).getD j .bot)=Ev.raise1 d cs[off+j]:=by
     rw [List.getD_eq_getElem?_getD,List.getElem?_map,u];rfl
    rw [o];simp only [c1,aIS,List.getD_eq_getElem?_getD,List.getElem?_eq_getElem hj2,Option.getD_some]
   ·simp [bV];omega
   ·intro j c hc;simp only [bV,List.getElem?_map,Option.map_eq_some_iff] at hc;obtain ⟨c0,h0,rfl⟩:=hc;exact ⟨c0,(g j c0 h0).1,rfl⟩
  ·simp at h
 | false =>
  simp [jS] at h;have y:=p rfl;subst y;have t:=(List.getElem?_eq_some_iff.1 h).1;obtain ⟨f,r2,r3⟩:=okrel off v h;have E:∀ cs,v ≠ .agg cs:=by intro cs e;subst e;simp [fits,PV.solid1] at r3
  have F:∀ cs,v ≠ .tuple cs:=by intro cs e;subst e;simp [fits,PV.solid1] at r3
  have hra:sY d v=Ev.raise1 d v:=by
   rw [aJI];cases v<;>first | rfl | exact by grind
  have na':∀ cs,Ev.raise1 d v ≠ .agg cs:=by intro cs e;cases v<;>simp_all [Ev.raise1]
  have nt':∀ cs,Ev.raise1 d v ≠ .tuple cs:=by intro cs e;cases v<;>simp_all [Ev.raise1]
  rw [hra];simp [Bool.false_eq_true,if_false];refine ⟨by omega,f.raise1 r3,(aCP na' nt').2 ((aRz d v _).2 r2),?_,by simp [bV],?_⟩;· intro b;rw [xB na' nt'];simp [bT,Nat.add_zero,Nat.zero_add,c1,aIS,List.getD_eq_getElem?_getD,h]
  intro j c hc;cases j with
  | zero=>simp [bV] at hc;subst hc;exact ⟨v,by simpa using h,rfl⟩
  | succ j=>simp [bV] at hc
theorem xF bx d id off vs cs (h:bB bx d id=some cs):cP bx [(d,id,off,vs)]=bW bx d id (putAt cs off vs):=by
 simp [cP,h]
theorem qD bx:wT bx []=bx:=by cases bx<;>rfl
theorem aFS {c} (a:∀ b,b<w.heap.size→c b≤tot st.fr tm w B st.bx b):Evo w M (tot st.fr tm w B st.bx) B w M c B :=
 { Evo.refl w M (tot st.fr tm w B st.bx) B with tle:=a}
theorem aXn (h : SR base M B st tm w) {dst} {t n d id off : Nat} {ag a cs v} {e : Eff}
  (hn : szOf P t = some n) (ha : agOf P t = some ag) (hn1 : ag = false → n = 1) (hp : Rv M B (.ptr d id off) a) (hb : bB st.bx d id = some cs) (hnv : uV cs = false) (hv : part off n ag cs = some v) :
  ∃ x, (Instr.loadAt t a).run P w = .ok x w ∧
   Aft base M B st tm w { cr := [(d, id, off, n)], ws := dstW tm.size dst (sY d v).plain } (putT tm dst x) w ∧
   Aft base M B st tm w { cr := [(d, id, off, n)], cw := [(d, id, off, bV ag v)], ws := dstW tm.size dst (sY d v) } (putT tm dst x) w := by
 cases hp with
 | ptr _ _ _ blk hB =>
  have hph := uY hnv;obtain ⟨arr, T, fz, hrow, hsz, hfz, ok, hcell⟩ := mE h hb hB;rw [hph] at hsz hcell hfz;obtain ⟨hle, r1, r2, r3, r4, r5⟩ := aJM ok hph hv hn1;refine ⟨_, tC hn ha (fun j hj => by grind) (fun e => by have := hn1 e; omega), ?_, ?_⟩;· obtain ⟨k1, k2⟩ := h.putN dst r1.plain (bS _ _);have happ : ({ cr := [(d, id, off, n)], ws := dstW tm.size dst (sY d v).plain } : Eff).app st = { st with fr := dstW tm.size dst (sY d v).plain ++ st.fr } := aGp st _;unfold Aft;rw [happ];exact ⟨fB _ _ _, M, B, k1, aFS fun b _ => k2 b⟩
  have hlen : (putAt cs off (bV ag v)).length = cs.length := dK _ _ _;have hget : ∀ (j : Nat) c, (putAt cs off (bV ag v))[j]? = some c → ∃ c0, cs[j]? = some c0 ∧ (c = c0 ∨ c = c0.plain1) := by
   intro j c hc;rw [iB _ _ _ _ (by omega)] at hc;split at hc;· rename_i hj;obtain ⟨c0, h0, rfl⟩ := r5 _ _ hc;rw [show off + (j - off) = j by omega] at h0;exact ⟨c0, h0, .inr rfl⟩
   exact ⟨c, hc, .inl rfl⟩
  have hcnt : ∀ b, cR w blk 0 (putAt cs off (bV ag v)) b + bT n (fun j => c1 (cs.getD (off + j) .bot) (bN w blk (off + j)) b) = cR w blk 0 cs b := by
   intro b;rw [lB, lB, hlen];have := uX (f := fun j => c1 (cs.getD j .bot) (bN w blk (0 + j)) b) (f' := fun j => c1 ((putAt cs off (bV ag v)).getD j .bot) (bN w blk (0 + j)) b) (g := fun _ => 0) (len := cs.length) (off := off) n hle
    (fun i hi hni => by
     simp only [List.getD_eq_getElem?_getD];rw [iB _ _ _ _ (by omega), if_neg (by omega)])
    (fun j hj => by
     simp only [List.getD_eq_getElem?_getD];rw [iB _ _ _ _ (by omega), if_pos (by omega)];have hjl : off + j - off < (bV ag v).length := by omega
     obtain ⟨c0, _, e0⟩ := r5 _ _ (List.getElem?_eq_getElem hjl);rw [List.getElem?_eq_getElem hjl, Option.getD_some, e0];simp [c1, aBu])
   simp [Nat.zero_add] at this ⊢;rw [iG (f := fun _ => 0) n (fun _ _ => rfl)] at this;omega
  obtain ⟨k1, k2⟩ := h.setBox (w' := w) hb hB hnv hlen (fun _ _ => rfl) rfl ⟨arr, T, fz, hrow, hsz, hfz⟩ (by
   intro j c hc;obtain ⟨c0, h0, hcc⟩ := hget j c hc;obtain ⟨q1, q2, q3⟩ := ok.rel j c0 (by rw [hph]; exact h0);rcases hcc with rfl | rfl;· exact ⟨q1, q2, q3⟩
   refine ⟨q1.plain1, tQ (aBu _ _), ?_⟩;cases c0 <;> simp_all [PV.plain1, fits, PV.solid1]) (by
   intro b;have := h.one b;have := hcnt b;omega)
  have hone : ∀ b, tot st.fr tm w B (bW st.bx d id (putAt cs off (bV ag v))) b + cV (sY d v) (if ag then .agg ((List.range n).map fun j => bN w blk (off + j)).toArray else bN w blk off) b = tot st.fr tm w B st.bx b := by
   intro b;have e1 := k2 b;have e2 := hcnt b;have e3 := r3 b;omega
  obtain ⟨q1, q2⟩ := k1.put dst r1 r2 (fun b => by have := hone b; have := h.one b; simp; omega);have happ : ({ cr := [(d, id, off, n)], cw := [(d, id, off, bV ag v)], ws := dstW tm.size dst (sY d v) } : Eff).app st = ⟨dstW tm.size dst (sY d v) ++ st.fr, bW st.bx d id (putAt cs off (bV ag v))⟩ := by
   simp [Eff.app, xF _ _ _ _ _ _ hb, qD]
  unfold Aft;rw [happ];refine ⟨fB _ _ _, M, B, q1, aFS fun b _ => ?_⟩;have e1 := q2 b;have e2 := hone b;simp at e1 ⊢;omega
theorem aOD (h:SR base M B st tm w) {dst} {t n:Nat} {r a x v}
  (D:szOf P t=some n) (u:agOf P t=some r) (H:Rv M B (.ref x) a) (hv:aOt n r x=some v) :
  ∃ y,(Instr.loadAt t a).run P w = .ok y w∧Aft base M B st tm w {ws:=dstW tm.size dst v.plain} (putT tm dst y) w:=by
 cases H with
 | ref e d s f l k I o =>
  have b:∀ j,j<s→w.cell? (d.add j)=some (f j):=by
   intro j C;obtain ⟨arr,T,fz,g,G⟩:=h.cons _ _ _ (I j C);rw [Addr.add_none d j l];simp [World.cell?,g,G]
  unfold aOt at hv;split at hv
  ·rename_i cs;split at hv
   ·cases hv;have q:s=n:=by have:=k.2.2.1;simp [PV.cells] at this;omega
    subst q;refine ⟨.agg ((List.range s).map f).toArray,?_,?_⟩;· simp [Instr.loadAt,Instr.sureAddr,loadVar,tS w u,dE w D,run_loadCells w d s f b]
    refine jG h (Rv.plain ?_) (bS _ _);refine .agg cs _ f (by grind) (by grind) ?_;intro i c F;exact o i c F
   grind
  ·grind
  ·grind
  ·grind
  rename_i m z;cases hv;have E:=aGj (p:=x) (fun cs e=>m cs e);have q:s=1:=by have:=k.2.2.1;grind
  refine ⟨f 0,?_,?_⟩
  ·have:=b 0 (by omega);rw [Addr.add_none d 0 l] at this;have e:(⟨d.block,d.off+0,none⟩:Addr)=d:=by cases d;simp_all
   rw [e] at this;simp [Instr.loadAt,Instr.sureAddr,loadVar,tS w u,this]
  exact jG h (o 0 x (by grind)).plain (bS _ _)
theorem mF P g o t fz:∀ vs i b w,w.heap[g]?=some (.cells b t fz)→o+i+vs.length≤b.size →
  (∀ v∈vs,v.oneCell'=true)→(∀ j,j<vs.length→¬ (fz.1≤o+i+j∧o+i+j<fz.2)) →
  (storeCells ⟨g,o,none⟩ vs i).run P w = .ok () (w.setRow g (b.toList.take (o+i)++vs++b.toList.drop (o+i+vs.length)).toArray)
 | [],i,b,w,d,_,_,_=>by
  simp only [List.append_nil,List.length_nil,Nat.add_zero,List.take_append_drop];rw [setRow_self w g b t fz d];rfl
 | v::rest,i,b,w,d,m,r,l=>by
  have s:o+i<b.size:=by simp at m;omega
  have h:(⟨g,o,none⟩:Addr).add i=⟨g,o+i,none⟩:=Addr.add_none _ _ rfl;have c:w.cell? ⟨g,o+i,none⟩=some b[o+i]:=by simp [World.cell?,d]
  have f:w.frozen? ⟨g,o+i,none⟩=false:=by
   have:=l 0 (by simp);simp only [World.frozen?,d];simp;omega
  have k:(store ((⟨g,o,none⟩:Addr).add i) v).run P w = .ok () (w.setRow g (b.setIfInBounds (o+i) v)):=by
   rw [h,run_store P w _ v _ (by grind),c];simp [f,setCell_eq_setRow w g (o+i) b t fz v d]
  have n:=mF P g o t fz rest (i+1) (b.setIfInBounds (o+i) v) (w.setRow g (b.setIfInBounds (o+i) v)) (setRow_heap w g b _ t _ d) (by simp at m ⊢;omega) (fun x p=>by grind)
   (fun j q=>by have:=l (j+1) (by simp;omega);rw [show o+(i+1)+j=o+i+(j+1) by omega];exact this)
  simp only [storeCells,Sem.run_bind,k,Result.andThen_ok,n,setRow_setRow];congr 3;have e:=list_seg_step b.toList (o+i) v rest (by omega);simpa [Nat.add_assoc] using e
theorem aU9 (a:Array Value) o vs (h:o+vs.length≤a.size) j :
  (a.toList.take o++vs++a.toList.drop (o+vs.length)).toArray[j]?=if o≤j∧j<o+vs.length then vs[j-o]? else a[j]?:=by
 grind
theorem aXo (a:Array Value) o vs (h:o+vs.length≤a.size):(a.toList.take o++vs++a.toList.drop (o+vs.length)).toArray.size=a.size:=by
 grind
theorem aIU (h : SR base M B st tm w) {t n d id off : Nat} {ag a v p cs0 cs0' cs vs lv}
  (hn : szOf P t = some n) (hp : Rv M B (.ptr d id off) a) (hb : bB st.bx d id = some cs0) (hph : phys cs0 = cs) (hvs : mB n ag p = some vs) (hf : vs.all (fits d) = true) (hoff : off + n ≤ cs.length)
  (hph' : phys cs0' = putAt cs off (oG d vs)) (hv' : okV cs0')
  (h1s : SR base M B { st with fr := lv ++ st.fr } tm w) (hr : Rv M B p v) (hh : hV M w base B p v)
  (ht : ∀ b, tot (lv ++ st.fr) tm w B st.bx b + cV p v b ≤ tot st.fr tm w B st.bx b) :
  ∃ w', (Instr.storeAt t a v).run P w = .ok () w' ∧ ∀ e , e.app st = ⟨lv ++ st.fr, bW st.bx d id cs0'⟩ → Aft base M B st tm w e tm w' := by
 obtain ⟨hl, hvsz, hrel, hcnt, hh1⟩ := aAo hvs hr hf;cases hp with
 | ptr _ _ _ blk hB =>
  obtain ⟨arr, T, fz, hrow, hsz, hfz, ok, hcell⟩ := mE h hb hB;rw [hph] at hsz hcell hfz;have hst := mF P blk off T fz v.cells.toList 0 arr w hrow (by simp; omega) (by
   intro x hx;obtain ⟨j, hj⟩ := List.mem_iff_getElem?.1 hx;have hjl  := by have := (List.getElem?_eq_some_iff.1 hj).1; simp at this; omega
   have := (hrel j vs[j] (by simp)).2.2;rw [Array.getD_eq_getD_getElem?] at this;rw [Array.getElem?_toList] at hj;rw [hj] at this;exact this) (by intro j hj; refine hfz _ ?_; simp at hj; omega)
  simp only [Nat.add_zero] at hst;generalize hnew : (arr.toList.take off ++ v.cells.toList ++ arr.toList.drop (off + v.cells.toList.length)).toArray = arr' at hst;have hvl : v.cells.toList.length = n := by simp [hvsz]
  have hsize : arr'.size = arr.size := by rw [← hnew]; exact by grind
  have hget : ∀ j, arr'[j]? = if off ≤ j ∧ j < off + n then v.cells[j - off]? else arr[j]? := by
   intro j;rw [← hnew, aU9 _ _ _ (by simp; omega), hvl];split <;> simp
  let w' := w.setRow blk arr';have hrow' : w'.heap[blk]? = some (.cells arr' T fz) := setRow_heap w blk arr arr' T _ hrow;have hcv : ∀ j, bN w' blk j = if off ≤ j ∧ j < off + n then v.cells.getD (j - off) undef else bN w blk j := by
   intro j;simp only [bN, World.cell?, hrow', hrow];rw [show (if (none : Option Nat).isSome = true then none else arr'[j]?) = arr'[j]? from rfl, hget];by_cases e : off ≤ j ∧ j < off + n;· rw [if_pos e, if_pos e, Array.getD_eq_getD_getElem?]
   rw [if_neg e, if_neg e]; rfl
  have hlow : ∀ (j : Nat), (oG d vs)[j]? = (vs[j]?).map (Ev.lower1 d) := by intro j; rw [xC, List.getElem?_map]
  have hlowl : (oG d vs).length = n := by rw [xC]; simp [hl]
  have hlen : (putAt cs off (oG d vs)).length = cs.length := dK _ _ _;have hcc : ∀ b, cR w' blk 0 (putAt cs off (oG d vs)) b + bT n (fun j => c1 (cs.getD (off + j) .bot) (bN w blk (off + j)) b) = cR w blk 0 cs b + cV p v b := by
   intro b;rw [lB, lB, hlen, ← hcnt b, hl];have := uX (f := fun j => c1 (cs.getD j .bot) (bN w blk (0 + j)) b) (f' := fun j => c1 ((putAt cs off (oG d vs)).getD j .bot) (bN w' blk (0 + j)) b) (g := fun j => c1 (vs.getD j .bot) (v.cells.getD j undef) b) (len := cs.length) (off := off) n hoff
    (fun i hi hni => by
     simp [List.getD_eq_getElem?_getD, Nat.zero_add];rw [iB _ _ _ _ (by omega), if_neg (by omega), hcv, if_neg (by omega)])
    (fun j hj => by
     simp [List.getD_eq_getElem?_getD];rw [iB _ _ _ _ (by omega), if_pos (by omega), hcv, if_pos (by omega), show off + j - off = j by omega, hlow];have hjl : j < vs.length := by omega
     rw [List.getElem?_eq_getElem hjl];simp [c1, aS9])
   simp at this ⊢;exact this
  have hh1' : ∀ q x, h1 M w base B q x → h1 M w base B q x := fun _ _ h => h;obtain ⟨k1, k2⟩ := h1s.setRow (w' := w') (cs' := cs0') hb hB (fun b hbne => setRow_other w blk b arr' hbne) (setRow_size w blk arr') ⟨arr', T, fz, hrow', by rw [hph', hlen]; omega, by rw [hph', hlen]; exact hfz⟩ hv' (by
   intro j c hc;rw [hph',iB _ _ _ _ (by omega)] at hc;rw [hcv];split at hc;· rename_i hj;rw [hlowl] at hj;rw [if_pos hj];rw [hlow, Option.map_eq_some_iff] at hc;obtain ⟨c0, h0, rfl⟩ := hc;obtain ⟨q1, q2, q3⟩ := hrel _ c0 h0;exact ⟨q1.lower1 q2, (aXk d c0 _).2 (by grind), aIR q2⟩
   rename_i hj;rw [hlowl] at hj;rw [if_neg hj];exact ok.rel j c (by rw [hph]; exact hc)) (by
   intro b;rw [hph', hph];have e1 := hcc b;have e2 := ht b;have e3 := h.one b;simp;omega)
  rw [hph', hph] at k2;refine ⟨w', ?_, ?_⟩;· simp only [Instr.storeAt, Sem.run_bind, Instr.sureAddr, Sem.run_pure, Result.andThen_ok, storeVar, dE w hn];rw [if_neg (by omega)];exact hst
  intro e happ;unfold Aft;rw [happ];refine ⟨rfl, M, B, k1, rfl, rfl, rfl, by simp [w'], fun _ _ _ hx => hx, ?_, ?_, fun d i b hB _ => ⟨d, i, hB⟩, fun _ _ => rfl⟩;· intro b hlt hnt;exact ⟨setRow_other w blk b arr' (by intro e; subst e; exact hnt (.inr ⟨d, id, hB⟩)), fun _ => rfl⟩
  intro b _;have e1 := k2 b;have e2 := hcc b;have e3 := ht b;simp at e1 ⊢;omega
theorem aVa (h:SR base M B st tm w) {t n d id off:Nat} {F a v p cs vs lv}
  (A:szOf P t=some n) (u:Rv M B (.ptr d id off) a) (q:bB st.bx d id=some cs) (l:uV cs=false) (e:mB n F p=some vs) (s:vs.all (fits d)=true) (g:off+n≤cs.length)
  (m:SR base M B {st with fr:=lv++st.fr} tm w) (r:Rv M B p v) (y:hV M w base B p v)
  (C:∀ b,tot (lv++st.fr) tm w B st.bx b+cV p v b≤tot st.fr tm w B st.bx b) :
  ∃ w',(Instr.storeAt t a v).run P w = .ok () w'∧Aft base M B st tm w {cw:=[(d,id,off,oG d vs)],ws:=lv} tm w':=by
 have o:=uY l;have i:∃ blk,B d id=some blk:=by cases u with | ptr _ _ _ blk i=>grind
 obtain ⟨blk,i⟩:=i;have ok:=h.box.get q i;have f:∀ c∈putAt cs off (oG d vs),fits 0 c=true:=by
  intro c E;obtain ⟨j,k⟩:=List.mem_iff_getElem?.1 E;rw [iB _ _ _ _ (by rw [xC,List.length_map];have:=(aAo e r s).1;omega)] at k;split at k;· rw [xC,List.getElem?_map,Option.map_eq_some_iff] at k;obtain ⟨H,I,rfl⟩:=k;exact aIR (by grind)
  exact (ok.rel j c (by grind)).2.2
 obtain ⟨z,D⟩:=xE f;obtain ⟨w',G,x⟩:=aIU (P:=P) h (cs0':=putAt cs off (oG d vs)) A u q o e s g z (aU0 D) m r y C;exact ⟨w',G,x _ (by simp [Eff.app,xF _ _ _ _ _ _ q,qD])⟩
theorem kE {sz}:∀ (E:List PV),(∀ e∈E,e.cells.length=sz)→∀ i j,j<sz→(E.flatMap cells)[i*sz+j]?=(E[i]?).bind fun e=>e.cells[j]?
 | [],_,i,j,_=>by simp
 | e::E,h,i,j,a=>by
  cases i with
  | zero=>grind
  | succ i =>
   have:=kE E (fun x b=>by grind) i j a;grind
theorem kF {sz}:∀ (E:List PV),(∀ e∈E,e.cells.length=sz)→(E.flatMap cells).length=E.length*sz
 | [],_=>by simp
 | e::E,h=>by
  rw [List.flatMap_cons,List.length_append,h e (by simp),kF E fun x a=>h x (by grind)];grind
theorem qE {c} (h:okVc c=true):c.solid1=true:=by
 unfold okVc at h;split at h<;>first | rfl | grind
theorem aGs {c:PV} (h:c.solid1=true):okVc c.plain1=true:=by cases c<;>first | rfl | simp [PV.solid1] at h
theorem aRB {c} (h:okVc c=true) v:own1 c v=none:=by
 unfold okVc at h;split at h<;>first | (cases v<;>rfl) | (exact pE _ _ _) | grind
theorem aVb {c} (h:okVc c=true):c.plain1=c:=by
 unfold okVc at h;split at h<;>first | rfl | grind
theorem oJ {sz e}:okVe sz e=true↔e.cells.length=sz∧∀ c∈e.cells,okVc c=true:=by
 simp [okVe]
theorem fT {sz e} (h:okVe sz e=true):e.cells.length=sz∧∀ c∈e.cells,c.solid1=true :=
 ⟨(oJ.1 h).1,fun c a=>qE ((oJ.1 h).2 c a)⟩
theorem aCS {d c} (h:c.solid1=true):Ev.raise1 d c=c:=by cases c<;>first | rfl | simp [PV.solid1] at h
theorem aJN {d c} (h:c.solid1=true):Ev.lower1 d c=c:=by cases c<;>first | rfl | simp [PV.solid1] at h
theorem aGt {d c} (h:c.solid1=true):fits d c=true:=by cases c<;>first | rfl | simp [PV.solid1] at h
theorem aOE {d c} (h:c.solid=true):sY d c=c:=by
 rw [aJI];cases c with
 | agg cs =>
  simp [PV.solid] at h;simp;conv=>rhs;rw [← List.map_id cs]
  exact List.map_congr_left fun c a=>aCS (h c a)
 | _=>exact aCS (by simpa [PV.solid] using h)
theorem aVc {sz off n f E e v0} (l:0<sz) (j:∀ e∈E,okVe sz e=true) (b:nth E (off / sz)=some e) (h:part (off % sz) n f e.cells=some v0) :
  part off n f (E.flatMap cells)=some v0∧v0.solid=true:=by
 have c  := fun e b=>(fT (j e b)).1;rw [jS] at b;have g:=List.mem_of_getElem? b;have p:=(List.getElem?_eq_some_iff.1 b).1;obtain ⟨q,o⟩:=fT (j e g);have a:off=off / sz*sz+off % sz:=by rw [Nat.mul_comm];exact (Nat.div_add_mod off sz).symm
 have d:off % sz<sz:=Nat.mod_lt _ l;unfold part at h ⊢;cases f with
 | true =>
  simp only at h ⊢;split at h
  ·have i:off+n≤(E.flatMap cells).length:=by
    rw [kF E c];have  := Nat.mul_le_mul_right sz p;grind
   have m:((E.flatMap cells).drop off).take n=(e.cells.drop (off % sz)).take n:=by
    apply List.ext_getElem?;intro k;rw [List.getElem?_take,List.getElem?_take];split
    ·rw [List.getElem?_drop,List.getElem?_drop];conv=>lhs;rw [a,Nat.add_assoc]
     rw [kE E c _ _ (by omega),b];rfl
    rfl
   simp only [PV.solid];grind
  grind
 | false =>
  simp [jS] at h ⊢;have hv:=o v0 (List.mem_of_getElem? h);refine ⟨?_,by cases v0<;>first | exact hv | simp [PV.solid1] at hv⟩;conv=>lhs;rw [a]
  rw [kE E c _ _ d,b];exact h
theorem aOF (h:SR base M B st tm w) {dst} {t n d id off sz:Nat} {i a E v}
  (s:szOf P t=some n) (F:agOf P t=some i) (g:i=false→n=1) (I:Rv M B (.ptr d id off) a) (o:bB st.bx d id=some [.vec sz E]) (hv:bBi sz E off n i=some v) :
  ∃ x,(Instr.loadAt t a).run P w = .ok x w∧Aft base M B st tm w {cr:=[(d,id,0,1)],ws:=dstW tm.size dst v} (putT tm dst x) w:=by
 cases I with
 | ptr _ _ _ blk r =>
  obtain ⟨D,H⟩:okV [.vec sz E]:=(h.box.ok d id _ o).1;obtain ⟨arr,T,fz,m,u,y,ok,k⟩:=mE h o r;obtain ⟨e,C,hv⟩:=aB hv;obtain ⟨v0,z,hv⟩:=aB hv;cases hv;obtain ⟨f,c⟩:=aVc D H C z;obtain ⟨q,l,J,O,L,N⟩:=aJM ok rfl f g;rw [aOE c] at l;refine ⟨_,tC s F (fun j K=>by grind) (fun e=>by grind),?_⟩;obtain ⟨G,p⟩:=h.putN dst l.plain (bS _ _);exact ⟨fB _ _ _,M,B,G,aFS fun b _=>p b⟩
theorem aLK {c:PV} (h:c.solid1=true):c.cells=[c]:=by cases c<;>first | rfl | simp [PV.solid1] at h
theorem aVd {e cs} (b:cs.length=e.cells.length) (a:∀ c∈cs,c.solid1=true):(reb e cs).cells=cs:=by
 cases e with
 | agg _=>rfl
 | _ =>
  match cs,b with
  | [c],_=>exact aLK (a c (by simp))
theorem aXp {sz off E E' vs} (hs:0<sz) (hE:∀ e∈E,okVe sz e=true) (h:vput sz E off vs=some E') :
  (E'.flatMap cells)=putAt (E.flatMap cells) off (vs.map PV.plain1)∧off+vs.length≤(E.flatMap cells).length∧(∀ e∈E',okVe sz e=true)∧∀ c∈vs,c.solid1=true:=by
 have hE'  := fun e he=>(fT (hE e he)).1;obtain ⟨e,he,h⟩:=aB h;split at h
 ·rename_i hc;obtain ⟨hle,hsol⟩:=hc;cases h;rw [jS] at he;have hem:=List.mem_of_getElem? he;have hi:=(List.getElem?_eq_some_iff.1 he).1;obtain ⟨hl,hcs⟩:=fT (hE e hem);have hoff:off=off / sz*sz+off % sz:=by rw [Nat.mul_comm];exact (Nat.div_add_mod off sz).symm
  have hvs:∀ c∈vs,c.solid1=true:=fun c hc=>by grind
  have hvp:∀ c∈vs.map PV.plain1,okVc c=true:=fun c hc=>by
   obtain ⟨x,hx,rfl⟩:=List.mem_map.1 hc;exact aGs (hvs x hx)
  have hcs':=(oJ.1 (hE e hem)).2;have hlm:(vs.map PV.plain1).length=vs.length:=by simp
  generalize vs.map PV.plain1=us at hvp hlm;have hpl:(putAt e.cells (off % sz) us).length=e.cells.length:=dK _ _ _;have hps:∀ c∈putAt e.cells (off % sz) us,okVc c=true:=by
   intro c hc;obtain ⟨j,hj⟩:=List.mem_iff_getElem?.1 hc;rw [iB _ _ _ _ (by omega)] at hj;split at hj;· exact by grind
   exact by grind
  have hrc:=aVd hpl fun c hc=>qE (hps c hc);have hnew:∀ x∈putNth E (off / sz) (reb e (putAt e.cells (off % sz) us)),okVe sz x=true:=by
   intro x hx;rw [fV] at hx;rcases List.mem_or_eq_of_mem_set hx with hx | rfl;· exact hE x hx
   rw [oJ,hrc];exact ⟨by omega,hps⟩
  have hnew'  := fun x hx=>(fT (hnew x hx)).1;have hlen  := kF E hE';have hb:off+vs.length≤(E.flatMap cells).length:=by
   have:(off / sz+1)*sz≤E.length*sz:=Nat.mul_le_mul_right sz hi;rw [Nat.add_mul] at this;omega
  refine ⟨?_,hb,hnew,hvs⟩;apply List.ext_getElem?;intro k;have hk:k=k / sz*sz+k % sz:=by rw [Nat.mul_comm];exact (Nat.div_add_mod k sz).symm
  have hkm:k % sz<sz:=Nat.mod_lt _ hs;rw [iB _ _ _ _ (by omega)];conv=>lhs;rw [hk,kE _ hnew' _ _ hkm,fV]
  by_cases e1:k / sz=off / sz
  ·rw [e1,List.getElem?_set_self hi];simp [hrc];rw [iB _ _ _ _ (by omega)];have hke:k=off / sz*sz+k % sz:=by rw [← e1];exact hk
   by_cases e2:off % sz≤k % sz∧k % sz<off % sz+us.length;· rw [if_pos e2,if_pos (by omega)];congr 1;omega
   rw [if_neg e2,if_neg (by omega)];conv=>rhs;rw [hke,kE E hE' _ _ hkm,he]
   rfl
  rw [List.getElem?_set_ne (fun x=>e1 x.symm),if_neg];· conv=>rhs;rw [hk,kE E hE' _ _ hkm]
  rintro ⟨h1,h2⟩;apply e1;have a1:off / sz≤k / sz:=Nat.div_le_div_right h1;have a2:k<(off / sz+1)*sz:=by
   rw [Nat.add_mul,Nat.one_mul];omega
  have a3  := (Nat.div_lt_iff_lt_mul hs).2 a2;omega
 simp at h
theorem aLL {n b p vs} (h:mB n b p=some vs) (d:∀ c∈vs,c.solid1=true):mB n b p.plain=some (vs.map PV.plain1):=by
 unfold mB at h;split at h
 ·split at h;· rename_i e;cases h;simp only [PV.plain,PV.plainA,mB,List.length_map,e,if_true,Option.some.injEq,List.map_map];apply List.map_congr_left;intro i a;have a:=List.mem_range.1 a;simp [aBt];rw [List.getElem?_eq_getElem (by omega)];rfl
  simp at h
 ·simp at h
 ·simp at h
 ·simp at h
 ·simp at h
 ·simp at h
 split at h;· cases h;have:=d p (by simp);cases p<;>first | rfl | simp [PV.solid1] at this
 simp at h
theorem aLM (h:SR base M B st tm w) {t n d id off sz:Nat} {I a v p E l vs lv}
  (F:szOf P t=some n) (N:Rv M B (.ptr d id off) a) (m:bB st.bx d id=some [.vec sz E]) (j:mB n I p=some vs) (C:0<n) (i:vput sz E off vs=some l)
  (k:SR base M B {st with fr:=lv++st.fr} tm w) (q:Rv M B p v) (O:hV M w base B p v)
  (Q:∀ b,tot (lv++st.fr) tm w B st.bx b+cV p v b≤tot st.fr tm w B st.bx b) :
  ∃ w',(Instr.storeAt t a v).run P w = .ok () w'∧Aft base M B st tm w {cr:=[(d,id,0,1)],cw:=[(d,id,0,[.vec sz l])],ws:=lv} tm w':=by
 obtain ⟨u,L⟩:okV [.vec sz E]:=(h.box.ok d id _ m).1;obtain ⟨D,R,H,o⟩:=aXp u L i;have g:=aLL j o;have r:∀ c∈vs.map PV.plain1,c.solid1=true:=fun c f=>by
  obtain ⟨x,G,rfl⟩:=List.mem_map.1 f;exact qE (aGs (o x G))
 have e:oG d (vs.map PV.plain1)=vs.map PV.plain1:=by
  rw [xC];conv=>rhs;rw [← List.map_id (vs.map PV.plain1)]
  exact List.map_congr_left fun c f=>aJN (r c f)
 have s:(vs.map PV.plain1).all (fits d)=true:=List.all_eq_true.2 fun c f=>aGt (r c f);have y:=(aAo g q.plain s).1;have K:(vs.map PV.plain1).length=vs.length:=by simp
 obtain ⟨w',J,z⟩:=aIU (P:=P) h (cs0':=[.vec sz l]) F N m (cs:=E.flatMap cells) rfl g s (by omega) (by rw [e];exact D) ⟨u,H⟩ k q.plain ((bS _ _).h _ _ _ _)
  (fun b=>by rw [(bS _ _).c b];grind)
 exact ⟨w',J,z _ (by simp [Eff.app,xF _ _ _ _ _ _ m,qD,putAt,putNth])⟩
end
section
variable {P : Program} {base : Base} {M : Mem} {B : BM} {st : St} {tm : Array Value} {w : World}
theorem aZI {p v b} (h:1≤cV p v b):∃ x∈atoms p v,own1 x.1 x.2=some b:=by
 unfold cV at h;generalize atoms p v=l at h;induction l with
 | nil=>simp [sumL] at h
 | cons x l a =>
  simp [sumL] at h;by_cases e:own1 x.1 x.2=some b;· grind
  have:c1 x.1 x.2 b=0:=by simp [c1,e]
  grind
theorem aCT {f}:∀ n,1≤bT n f→∃ i,i<n∧1≤f i
 | 0,h=>by simp [bT] at h
 | n+1,h=>by
  simp [bT] at h;by_cases e:1≤f n;· grind
  obtain ⟨i,a,b⟩:=aCT (f:=f) n (by omega);grind
theorem aLN {g}:∀ bx d0,(∀ (e:Nat) f,bx[e]?=some f→(f.map (·.1)).Nodup)→1≤fW g d0 bx→∃ d id cs,bB bx d id=some cs∧1≤g (d0+d) id cs
 | [],_,_,h=>by simp [fW] at h
 | f::r,d0,a,h=>by
  simp [fW] at h;by_cases e:1≤fW g (d0+1) r;· obtain ⟨d,id,cs,i,b⟩:=aLN r (d0+1) (fun e f' k=>a (e+1) f' (by grind)) e;exact ⟨d+1,id,cs,i,by grind⟩
  have c:1≤dT (g d0) f:=by omega
  have:∃ id cs,(id,cs)∈f∧1≤g d0 id cs:=by
   clear h e a;induction f with
   | nil=>simp [dT] at c
   | cons x f l =>
    simp [dT] at c;grind
  obtain ⟨id,cs,j,b⟩:=this;exact ⟨0,id,cs,gN (a 0 f rfl) j,b⟩
theorem SR.tot_own (h:SR base M B st tm w) {b} (o:1≤tot st.fr tm w B st.bx b):b<w.heap.size∧(∀ d id,B d id≠some b)∧base≤b:=by
 have key:∀ p v,h1 M w base B p v→own1 p v=some b→b<w.heap.size∧(∀ d id,B d id≠some b)∧base≤b:=by
  intro p v m a;have:=m.nobox a;obtain ⟨y,q,r⟩:=m.hok a;exact ⟨this.2,this.1,r.old⟩
 unfold tot at o;by_cases e:1≤cF st.fr tm b;· obtain ⟨i,q,k⟩:=aCT _ e;obtain ⟨x,s,a⟩:=aZI k;exact key _ _ (h.slotH i x s) a
 have l:1≤cBx w B st.bx b:=by omega
 obtain ⟨d,id,cs,u,c⟩:=aLN st.bx 0 h.box.nodup l;rcases (h.box.ok d id cs u).2 with ⟨blk,n,t⟩ | g;rotate_left;· simp [g.1,cBox] at c
 simp [n,cBox] at c;rw [lB] at c;obtain ⟨j,A,k⟩:=aCT _ c;have f:(phys cs)[j]?=some (phys cs)[j]:=by simp
 obtain ⟨_,z,_⟩:=t.rel j _ f;have a:own1 (phys cs)[j] (bN w blk j)=some b:=by
  unfold c1 at k;grind
 grind
theorem SR.box_lt (h:SR base M B st tm w) {d id b} (c:B d id=some b):b<w.heap.size∧base≤b:=by
 cases a:bB st.bx d id with
 | none=>rw [h.box.dom d id a] at c;grind
 | some cs =>
  have e:=h.box.get a c;obtain ⟨arr,g,fz,f,_⟩:=e.row;exact ⟨(Array.getElem?_eq_some_iff.1 f).1,e.old⟩
structure RowRel (M:Mem) (B:BM) (s:Nat) (es:List PV) (arr:Array Value):Prop where
 pos:0<s
 size:es.length*s≤arr.size
 el:∀ (i:Nat) (e:PV),es[i]?=some e→okEl s e
 rel:∀ (i:Nat) (e:PV) (j:Nat) (c:PV),es[i]?=some e→e.cells[j]?=some c→Rv M B c (arr.getD (i*s+j) undef)
theorem RowRel.mono {M M' s es arr} (h:RowRel M B s es arr) (d:∀ b i v,M b i=some v→M' b i=some v):RowRel M' B s es arr :=
 ⟨h.pos,h.size,h.el,fun i e j c g f=>(h.rel i e j c g f).mono d (fun _ _ _ a=>a)⟩
def addM (M:Mem) (blk:Nat) (lo hi:Nat) (arr:Array Value):Mem:=fun b i=>if b=blk∧lo≤i∧i<hi then arr[i]? else M b i
theorem aJO (h:SR base M B st tm w) {dst lv} (h1s:SR base M B {st with fr:=lv++st.fr} tm w)
  (O:∀ b,tot (lv++st.fr) tm w B st.bx b≤tot st.fr tm w B st.bx b) {s cap es arr T fz w'}
  (hrow:RowRel M B s es arr) (hcap:es.length≤cap) (p:cap*s≤arr.size) (k:∀ i,i<arr.size→¬ (fz.1≤i∧i<fz.2))
  (hw:w'.heap=w.heap.push (.cells arr T fz)) (g:w'.os=w.os) (t:w'.tape=w.tape) (f:w'.output=w.output) {r}
  (hr:(r = .slice es [] true∧(es=[]→cap=0))∨(r = .mk0 s∧es=[])) :
  Aft base M B st tm w {ws:=dstW tm.size dst r++lv} (putT tm dst (.slice (some ⟨w.heap.size,0,none⟩) es.length cap)) w':=by
 have hold:∀ b,b<w.heap.size→w'.heap[b]?=w.heap[b]?:=fun b hb=>by rw [hw,Array.getElem?_push,if_neg (by omega)]
 have hnew:w'.heap[w.heap.size]?=some (.cells arr T fz):=by rw [hw];simp
 have hMn:∀ i,M w.heap.size i=none:=by
  intro i;cases I:M w.heap.size i with
  | none=>rfl
  | some v=>obtain ⟨arr,u,fz,hx,_⟩:=h.cons _ _ _ I;simp at hx
 let M':=addM M w.heap.size 0 (es.length*s) arr;have hmono:∀ b i v,M b i=some v→M' b i=some v:=by
  intro b i v hv;show addM M w.heap.size 0 (es.length*s) arr b i=some v;unfold addM;rw [if_neg (by rintro ⟨rfl,_⟩;rw [hMn] at hv;simp at hv)];exact hv
 have hsame:∀ b,b≠w.heap.size→∀ i,M' b i=M b i:=by
  intro b hb i;show addM M w.heap.size 0 (es.length*s) arr b i=M b i;unfold addM;rw [if_neg (by rintro ⟨e,_⟩;exact hb e)]
 have hcons:Cons M' w':=by
  intro b i v hv;by_cases hb:b=w.heap.size
  ·subst hb;have:addM M w.heap.size 0 (es.length*s) arr w.heap.size i=some v:=hv;unfold addM at this;split at this;· exact ⟨arr,T,fz,hnew,this⟩
   rw [hMn] at this;simp at this
  rw [hsame b hb] at hv;obtain ⟨C,u,l,hx,D⟩:=h.cons b i v hv;exact ⟨C,u,l,by rw [hold b (Array.getElem?_eq_some_iff.1 hx).1];exact hx,D⟩
 obtain ⟨H,J⟩:=h1s.world (M':=M') (w':=w') hcons hmono
  (fun d id b hB=>by have:=(h.box_lt hB).1;exact ⟨by grind,hsame b (by omega)⟩)
  (fun b hb=>by have:=(h1s.tot_own hb).1;exact ⟨by grind,hsame b (by omega)⟩) (by rw [hw];simp)
 have hrel  := hrow.mono hmono;have o:Rv M' B (.slice es [] (if es=[] then false else true)) (.slice (some ⟨w.heap.size,0,none⟩) es.length cap):=by
  refine .slice es [] _ ⟨w.heap.size,0,none⟩ cap s (fun i j=>arr.getD (i*s+j) undef) (fun _=>rfl) (by simpa using hcap) (by intro hx;exact ⟨fun e=>by simp [e] at hx,rfl,fun _=>rfl⟩) ?_ ?_ ?_;· intro i e he;rw [List.append_nil] at he;exact hrow.el i e he
  ·intro i e j he N;rw [List.append_nil] at he;have q:=(List.getElem?_eq_some_iff.1 he).1;have y  := by
    have:(i+1)*s≤es.length*s:=Nat.mul_le_mul_right s q;rw [Nat.add_mul] at this;omega
   show addM M w.heap.size 0 (es.length*s) arr w.heap.size (0+i*s+j)=_;unfold addM;rw [if_pos ⟨rfl,by omega,by omega⟩,Nat.zero_add];have:i*s+j<arr.size:=by have:=hrow.size;omega
   simp [this]
  intro i e j c he hc;rw [List.append_nil] at he;exact hrel.rel i e j c he hc
 have hrv':Rv M' B r (.slice (some ⟨w.heap.size,0,none⟩) es.length cap):=by
  rcases hr with ⟨rfl,hc⟩ | ⟨rfl,rfl⟩
  ·by_cases e:es=[];· subst e;obtain rfl:=hc rfl;exact .slice [] [] true ⟨w.heap.size,0,none⟩ 0 s (fun _ _=>undef) (fun _=>rfl) (by simp) (by simp) (by simp) (by simp) (by simp)
   simpa [e] using o
  exact .mk0 s ⟨w.heap.size,0,none⟩ cap ⟨rfl,rfl⟩
 have hHOk:HOk M' w' base B w.heap.size (es.length*s) (cap*s):=by
  refine ⟨h.base,fun d id hB=>by have:=(h.box_lt hB).1;omega,⟨arr,T,fz,hnew,p,fun i q=>k i (by omega)⟩,?_⟩;intro i q;show addM M w.heap.size 0 (es.length*s) arr w.heap.size i=none;unfold addM;rw [if_neg (by omega)];exact hMn i
 have hna:∀ cs,r ≠ .agg cs:=by rcases hr with ⟨rfl,_⟩ | ⟨rfl,_⟩<;>simp
 have hnt:∀ cs,r ≠ .tuple cs:=by rcases hr with ⟨rfl,_⟩ | ⟨rfl,_⟩<;>simp
 have m:hV M' w' base B r (.slice (some ⟨w.heap.size,0,none⟩) es.length cap):=by
  rw [aCP hna hnt];rcases hr with ⟨rfl,_⟩ | ⟨rfl,rfl⟩
  ·cases es with
   | nil=>trivial
   | cons e es =>
    have he:=(hrow.el 0 e rfl).2.2.1;show HOk M' w' base B w.heap.size (0+(es.length+1)*e.cells.length) (0+cap*e.cells.length);rw [he,Nat.zero_add,Nat.zero_add];exact hHOk
  show HOk M' w' base B w.heap.size 0 (0+cap*s);rw [Nat.zero_add];simpa using hHOk
 have hcnt:∀ b,cV r (.slice (some ⟨w.heap.size,0,none⟩) es.length cap) b≤if b=w.heap.size then 1 else 0:=by
  intro b;rw [xB hna hnt];unfold c1;have:∀ x,own1 r (.slice (some ⟨w.heap.size,0,none⟩) es.length cap)=some x→x=w.heap.size:=by
   intro x hx;rcases hr with ⟨rfl,_⟩ | ⟨rfl,_⟩
   ·cases es with
    | nil=>simp [own1] at hx
    | cons e es=>simp [own1] at hx;exact hx.symm
   simp [own1] at hx;exact hx.symm
  split;· rename_i e;rw [if_pos (this b e)];exact by omega
  omega
 have L:tot (lv++st.fr) tm w B st.bx w.heap.size=0:=by
  cases hc:tot (lv++st.fr) tm w B st.bx w.heap.size with
  | zero=>rfl
  | succ n=>have:=(h1s.tot_own (b:=w.heap.size) (by simp;omega)).1;omega
 obtain ⟨F,K⟩:=H.put dst hrv' m (fun b=>by
  have z:=J b;have E:=hcnt b;have G:=h1s.one b;simp at z G ⊢;split at E;· rename_i e;subst e;omega
  omega)
 unfold Aft;rw [aGp,List.append_assoc];refine ⟨fB _ _ _,M',B,F,g,t,f,by rw [hw];simp,hmono,?_,?_,fun d i b hB _=>⟨d,i,hB⟩,fun _ _=>rfl⟩;all_goals grind
end
section
variable {P : Program} {base : Base} {M : Mem} {B : BM} {st : St} {tm : Array Value} {w : World}
theorem aIV off:∀ (l:List Value) k (cells:Array Value),off+k+l.length≤cells.size →
  ((l.zipIdx k).foldl (fun cs (c,j)=>cs.setIfInBounds (off+j) c) cells).size=cells.size ∧
  ∀ i,((l.zipIdx k).foldl (fun cs (c,j)=>cs.setIfInBounds (off+j) c) cells)[i]?=if off+k≤i∧i<off+k+l.length then l[i-(off+k)]? else cells[i]?
 | [],k,cells,_=>⟨rfl,fun i=>by simp;omega⟩
 | v::l,k,cells,h=>by
  simp;obtain ⟨b,a⟩:=aIV off l (k+1) (cells.setIfInBounds (off+k) v) (by grind);grind
theorem aLO {place cells i off size v rest} (g:place i=some (off,size)) (e:v.cells.size=size) (f:off+size≤cells.size) :
  ∃ a,Instr.fill place cells ((i,v)::rest)=Instr.fill place a rest∧a.size=cells.size ∧
   ∀ k,a[k]?=if off≤k∧k<off+size then v.cells[k-off]? else cells[k]?:=by
 obtain ⟨d,b⟩:=aIV off v.cells.toList 0 cells (by grind);refine ⟨v.cells.zipIdx.foldl (fun cs (c,j)=>cs.setIfInBounds (off+j) c) cells,?_,?_,?_⟩;· simp [Instr.fill];grind
 ·rw [← Array.foldl_toList,Array.toList_zipIdx];exact d
 intro k;rw [← Array.foldl_toList,Array.toList_zipIdx,b];grind
theorem aOG {p:PV} (h:p.solid=true):p.plain.solid=true:=by
 cases p with
 | agg cs =>
  simp only [PV.solid,PV.plain,PV.plainA,List.all_eq_true,List.mem_map] at h ⊢;rintro c ⟨a,b,rfl⟩;have:=h a b;cases a<;>simp_all [PV.plain1,PV.solid1]
 | tuple vs=>simp [PV.solid,PV.solid1] at h
 | _=>simp_all [PV.solid,PV.plain,PV.plainA,PV.plain1,PV.solid1]
theorem aOH {p:PV} (a:∀ cs,p ≠ .tuple cs):p.plain.cells=p.cells.map PV.plain1:=by
 cases p with
 | tuple vs=>grind
 | agg cs=>simp [PV.plain,PV.plainA,PV.cells]
 | _=>simp [PV.plain,PV.plainA,PV.plain1,PV.cells]
theorem aZJ {size p e v} (h : el size p = some e) (n : Rv M B p v) : okEl size e ∧ v.cells.size = size ∧ ∀ j c, e.cells[j]? = some c → Rv M B c (v.cells.getD j undef) := by
  unfold el at h;split at h
  · rename_i a;obtain ⟨l, o, q⟩ := a;cases h;have t : ∀ cs, p ≠ .tuple cs := by intro cs e; subst e; simp [PV.solid, PV.solid1] at l
    have m : okEl size p.plain := ⟨aOG l, aIO p, by rw [aOH t]; grind, q⟩;have i := n.plain;refine ⟨m, ?_⟩;cases n with
    | agg cs vs f x u s =>
      simp [PV.cells] at o;refine ⟨by show vs.size = size; omega, ?_⟩;intro j c a;have d  := i;cases d with
      | agg _ _ g _ w k =>
        have b : (cs.map PV.plain1)[j]? = some c := a;have r := (List.getElem?_eq_some_iff.1 b).1;have := k j c b;show Rv M B c (vs.getD j undef);simp_all
    | _ =>
      first
        | (simp [PV.solid, PV.solid1] at l; done)
        | (refine ⟨by simpa [PV.cells, Value.cells] using o, ?_⟩;intro j c a;cases j with
           | zero => simp [PV.plain, PV.plainA, PV.plain1, PV.cells] at a; subst a; exact i
           | succ j => simp [PV.plain, PV.plainA, PV.plain1, PV.cells] at a)
  grind
theorem aLP {size} (hs:0<size) {vals:Nat→Value}:∀ ps vs es es' arr,
  ps.length=vs.length→(∀ (k:Nat) x y,ps[k]?=some x→vs[k]?=some y→x.1=y.1∧Rv M B x.2 y.2) →
  wV size ps es some=some es'→RowRel M B size es arr→arr.size=es.length*size →
  ∃ arr',Instr.fill (fun i=>some (i*size,size)) arr vs=some arr'∧RowRel M B size es' arr'∧arr'.size=arr.size∧es'.length=es.length
 | [],vs,es,es',arr,hl,_,h,hr,hsz=>by
  simp [wV] at h;subst h;have:vs=[]:=by cases vs<;>simp_all
  subst this;exact ⟨arr,rfl,hr,rfl,rfl⟩
 | (i,v)::ps,[],es,es',arr,hl,_,h,hr,hsz=>by simp at hl
 | (i,v)::ps,(i',x)::vs,es,es',arr,hl,hrel,h,hr,hsz=>by
  simp [wV] at h;obtain ⟨e,he,h⟩:=aB h;split at h
  ·rename_i hlt;obtain ⟨rfl,hvx⟩:=hrel 0 (i,v) (i',x) rfl rfl;obtain ⟨hok,hxs,hcells⟩:=aZJ he hvx;have hb:i*size+size≤arr.size:=by
    rw [hsz];have:(i+1)*size≤es.length*size:=Nat.mul_le_mul_right size hlt;rw [Nat.add_mul] at this;omega
   obtain ⟨arr1,h1,h2,h3⟩:=aLO (place:=fun i=>some (i*size,size)) (rest:=vs) (i:=i) (cells:=arr) (v:=x) rfl hxs hb;have hr1:RowRel M B size (putNth es i e) arr1:=by
    refine ⟨hs,?_,?_,?_⟩;· rw [fV,List.length_set,h2];exact hr.size
    ·intro k e' hk;rw [fV,List.getElem?_set] at hk;split at hk;· cases hk;exact hok
     exact hr.el k e' hk
    intro k e' j c hk hc;have hok':okEl size e':=by
     have hk2:=hk;rw [fV,List.getElem?_set] at hk2;split at hk2;· cases hk2;exact hok
     exact hr.el k e' hk2
    have hj  := by
     have h5:=(List.getElem?_eq_some_iff.1 hc).1;rw [hok'.2.2.1] at h5;exact h5
    rw [Array.getD_eq_getD_getElem?,h3];rw [fV,List.getElem?_set] at hk;by_cases ek:i=k;· subst ek;rw [if_pos (by omega),show i*size+j-i*size=j by omega,← Array.getD_eq_getD_getElem?];exact by grind
    rw [if_neg ek] at hk;have hne:¬ (i*size≤k*size+j∧k*size+j<i*size+size):=by
     rcases Nat.lt_or_gt_of_ne ek with hlt' | hlt';· have:(i+1)*size≤k*size:=Nat.mul_le_mul_right size hlt';rw [Nat.add_mul] at this;omega
     have:(k+1)*size≤i*size:=Nat.mul_le_mul_right size hlt';rw [Nat.add_mul] at this;omega
    rw [if_neg hne,← Array.getD_eq_getD_getElem?];exact hr.rel k e' j c hk hc
   obtain ⟨arr',q1,q2,q3,q4⟩:=aLP hs (vals:=vals) ps vs (putNth es i e) es' arr1 (by simpa using hl) (fun k x y hx hy=>hrel (k+1) x y (by simpa using hx) (by simpa using hy)) h hr1 (by rw [h2,hsz,fV,List.length_set]);exact ⟨arr',by rw [h1];exact q1,q2,by omega,by rw [q4,fV,List.length_set]⟩
  simp at h
theorem aOI (a:Array Value) n k (b:k<n):((Array.range n).map (a[· % a.size]!))[k]?=some (a[k % a.size]!):=by grind
theorem aH1 {t e n sz:Nat} {z} {ps:Array (Nat×Operand)} {es} (a:Act) (htm:a.tmps=tm) (h:SR base M B st tm w)
  (D:P.underlying t=some (.slice e)) (hsz:szOf P e=some sz) (H:aEX P e=some z) (r:n*sz≤16777216) (L:z.cells.length=sz)
  z' (hz':n=0∨el sz z=some z') (hf:wV sz (ps.toList.map fun p=>(p.1,opv st.fr false p.2)) (List.replicate n z') some=some es) :
  ∃ arr,(Instr.buildSlice t n (ps.map fun (i,x)=>(i,a.eval x))).run P w = .ok (.slice (some ⟨w.heap.size,0,none⟩) n n) {w with heap:=w.heap.push (.cells arr e (0,0))} ∧
   (n=0→es=[])∧(0<n→RowRel M B sz es arr∧es.length=n∧arr.size=n*sz):=by
 obtain ⟨zv,hzr,rfl,_⟩:=pQ (P:=P) w H;have hops:∀ (k:Nat) x y,(ps.toList.map fun p=>(p.1,opv st.fr false p.2))[k]?=some x→(ps.toList.map fun p=>(p.1,a.eval p.2))[k]?=some y→x.1=y.1∧Rv M B x.2 y.2:=by
  intro k x y u s;rw [List.getElem?_map,Option.map_eq_some_iff] at u s;obtain ⟨p,O,rfl⟩:=u;obtain ⟨q,o,rfl⟩:=s;rw [O] at o;cases o;refine ⟨rfl,?_⟩;have:=(h.opvF a.defers p.2).1;rw [← htm] at this;exact this
 have C:(ps.map fun (i,x)=>(i,a.eval x)).toList=ps.toList.map fun p=>(p.1,a.eval p.2):=by simp
 cases n with
 | zero =>
  have hes  := by
   cases hps:ps.toList with
   | nil=>rw [hps] at hf;simp [wV] at hf;exact hf
   | cons x l =>
    rw [hps] at hf;simp [List.map_cons,wV] at hf;obtain ⟨m,_,hf⟩:=aB hf;simp at hf
  have hps0:ps.toList=[]:=by
   cases hps:ps.toList with
   | nil=>rfl
   | cons x l =>
    rw [hps] at hf;simp [List.map_cons] at hf;obtain ⟨m,_,hf⟩:=aB hf;simp at hf
  refine ⟨#[],?_,fun _=>hes,fun h0=>by omega⟩;have hps1  := by apply Array.ext';simpa using hps0
  subst hps1;simp [Instr.buildSlice,run_underlying D,dE w hsz];simp [Instr.fill,newRow];congr 2;apply Array.ext';simp
 | succ n =>
  have hz2:el sz (ofValue zv)=some z':=by
   rcases hz' with h0 | h0;· omega
   exact h0
  obtain ⟨hok,b,hzc⟩:=aZJ hz2 (Rv.ofValue (M:=M) (B:=B) zv);have hpos:=hok.2.2.2;let arr0  := (Array.range ((n+1)*sz)).map (zv.cells[· % zv.cells.size]!);have d:RowRel M B sz (List.replicate (n+1) z') arr0:=by
   refine ⟨hpos,by simp [arr0],?_,?_⟩
   ·intro i m he;rw [List.getElem?_replicate] at he;split at he;· cases he;exact hok
    simp at he
   intro i m j c he v;rw [List.getElem?_replicate] at he;split at he
   ·rename_i K;cases he;have I  := by have:=(List.getElem?_eq_some_iff.1 v).1;rw [hok.2.2.1] at this;exact this
    have hlt:i*sz+j<(n+1)*sz:=by
     have:(i+1)*sz≤(n+1)*sz:=Nat.mul_le_mul_right sz K;rw [Nat.add_mul] at this;omega
    have hcell:=hzc j c v;have:arr0.getD (i*sz+j) undef=zv.cells.getD j undef:=by
     rw [Array.getD_eq_getD_getElem?,aOI _ _ _ hlt,Option.getD_some,b];have G:(i*sz+j) % sz=j:=by rw [Nat.mul_comm,Nat.mul_add_mod];exact Nat.mod_eq_of_lt I
     rw [G];have g:j<zv.cells.size:=by omega
     simp [g]
    rw [this];exact hcell
   simp at he
  obtain ⟨arr',E,F,N,J⟩:=aLP hpos (vals:=fun _=>undef) _ _ (List.replicate (n+1) z') es arr0 (by simp) hops hf d (by simp [arr0]);refine ⟨arr',?_,fun h0=>by omega,fun _=>⟨F,by rw [J];simp,by rw [N];simp [arr0]⟩⟩;have f:(n+1)*sz≠0:=by
   exact by grind
  simp [Instr.buildSlice,run_underlying D,dE w hsz];rw [if_neg (by omega:¬ ((n+1)*sz>2 ^ 24)),if_neg f];simp [hzr];have  := E;rw [this];simp [newRow]
structure AggRel (M:Mem) (w:World) (base:Base) (B:BM) (cs:List PV) (xs:Array Value):Prop where
 size:xs.size=cs.length
 rel:∀ (j:Nat) (c:PV),cs[j]?=some c→Rv M B c (xs.getD j undef)∧h1 M w base B c (xs.getD j undef)
theorem aLQ {place place'} (hpl : ∀ i off n o, place i = some (off, n, o) → place' i = some (off, n)) :
  ∀ ps vs cs cs' xs, ps.length = vs.length →
  (∀ (k : Nat) x y, ps[k]? = some x → vs[k]? = some y → x.1 = y.1 ∧ Rv M B x.2 y.2 ∧ hV M w base B x.2 y.2) →
  aBq place ps cs some = some cs' → AggRel M w base B cs xs →
  ∃ xs', Instr.fill place' xs vs = some xs' ∧ AggRel M w base B cs' xs' ∧
   ∀ b, bT cs'.length (fun j => c1 (cs'.getD j .bot) (xs'.getD j undef) b) ≤ bT cs.length (fun j => c1 (cs.getD j .bot) (xs.getD j undef) b) + sumL (fun x => cV x.1.2 x.2.2 b) (ps.zip vs)
 | [], vs, cs, cs', xs, hl, _, h, hr => by
  simp [aBq] at h; subst h;have : vs = [] := by cases vs <;> simp_all
  subst this;exact ⟨xs, rfl, hr, fun b => by simp⟩
 | (i, v) :: ps, [], cs, cs', xs, hl, _, h, hr => by simp at hl
 | (i, v) :: ps, (z, x) :: vs, cs, cs', xs, hl, hrel, h, hr => by
  simp [aBq] at h;split at h
  ·rename_i off n o hpi;obtain ⟨ws, hws, h⟩ := aB h;split at h
   ·rename_i hle;obtain ⟨rfl, hvx, hvh⟩ := hrel 0 (i, v) (z, x) rfl rfl;simp at hvx hvh;obtain ⟨m, D, u, r, G⟩ := aGr hws hvx;obtain ⟨xs1, h1', d, h3'⟩ := aLO (place := place') (rest := vs) (i := i) (cells := xs) (v := x) (hpl _ _ _ _ hpi) D (by rw [hr.size]; exact hle);have hget : ∀ j, (putAt cs off ws)[j]? = if off ≤ j ∧ j < off + n then ws[j - off]? else cs[j]? := by
     intro j; rw [iB _ _ _ _ (by omega), m]
    have hxget : ∀ j, xs1.getD j undef = if off ≤ j ∧ j < off + n then x.cells.getD (j - off) undef else xs.getD j undef := by
     intro j;rw [Array.getD_eq_getD_getElem?, h3'];split <;> rw [← Array.getD_eq_getD_getElem?]
    have hr1 : AggRel M w base B (putAt cs off ws) xs1 := by
     refine ⟨by rw [d, hr.size, dK], ?_⟩;intro j c hc;rw [hget] at hc;rw [hxget];split at hc;· rename_i e; rw [if_pos e]; exact ⟨u _ c hc, by grind⟩
     rename_i e; rw [if_neg e]; exact hr.rel j c hc
    obtain ⟨xs', s, p, C⟩ := aLQ hpl ps vs (putAt cs off ws) cs' xs1 (by simpa using hl) (fun k a b A E => hrel (k + 1) a b (by simpa using A) (by simpa using E)) h hr1;refine ⟨xs', by rw [h1']; exact s, p, fun b => ?_⟩;have q := C b;have I := uX (f := fun j => c1 (cs.getD j .bot) (xs.getD j undef) b) (f' := fun j => c1 ((putAt cs off ws).getD j .bot) (xs1.getD j undef) b) (g := fun j => c1 (ws.getD j .bot) (x.cells.getD j undef) b) (len := cs.length) (off := off) n hle
     (fun k H l => by
      simp only [List.getD_eq_getElem?_getD];rw [hget, if_neg l, hxget, if_neg l])
     (fun j F => by
      simp only [List.getD_eq_getElem?_getD];rw [hget, if_pos (by omega), hxget, if_pos (by omega), show off + j - off = j by omega])
    have t := r b;rw [m] at t;rw [dK] at q;simp only [List.zip_cons_cons, sumL];omega
   simp at h
  simp at h
theorem aOJ {z}:AggRel M w base B (z.toList.map ofAtom) z∧∀ b,bT (z.toList.map ofAtom).length (fun j=>c1 ((z.toList.map ofAtom).getD j .bot) (z.getD j undef) b)=0:=by
 constructor;· refine ⟨by simp,?_⟩;intro j c d;rw [List.getElem?_map,Option.map_eq_some_iff] at d;obtain ⟨v,hv,rfl⟩:=d;rw [Array.getElem?_toList] at hv;simp [hv];exact ⟨Rv.ofAtom v,tQ (rY v)⟩
 intro b;apply iG;intro j a;simp at a;simp [a,c1,rY]
theorem AggRel.done {cs xs} (h:AggRel M w base B cs xs):Rv M B (.agg cs) (.agg xs)∧hV M w base B (.agg cs) (.agg xs):=by
 have f:∀ i,i<cs.length→xs[i]?=some (xs.getD i undef):=by
  intro i a;have:i<xs.size:=by rw [h.size];exact a
  simp_all
 refine ⟨.agg cs xs (fun i=>xs.getD i undef) h.size f fun i c e=>(h.rel i c e).1,?_⟩;intro x b;simp [atoms,zipA] at b;obtain ⟨i,a⟩:=List.mem_iff_getElem?.1 b;rw [List.getElem?_zip_eq_some] at a;obtain ⟨d,g⟩:=a;have:=(h.rel i x.1 d).2;grind
theorem lefts (h:SR base M B st tm w) d:∀ (ps:List (Nat×Operand)),
  (∀ (k:Nat) x y,(ps.map fun p=>(p.1,opv st.fr true p.2))[k]?=some x→(ps.map fun p=>(p.1,(Act.mk tm d).eval p.2))[k]?=some y→x.1=y.1∧Rv M B x.2 y.2∧hV M w base B x.2 y.2)
 | ps=>by
  intro k x y b c;rw [List.getElem?_map,Option.map_eq_some_iff] at b c;obtain ⟨p,f,rfl⟩:=b;obtain ⟨g,e,_,_⟩:=h.opvT d true p.2;grind
end
section
variable {P : Program} {base : Base} {M : Mem} {B : BM} {st : St} {tm : Array Value} {w : World}
theorem xG {t u ty e i d} (ht:P.underlying t=some (.slice e)) (hu:P.underlying u=some d) (hd:∀ k,d ≠ .int k) (hi:P.info? e=some i)
  bs sLen sCap (hc:sLen≤sCap) y (hl:(Builtin.lenOf y).run P w = .ok 0 w) (hf:(Builtin.firstCells i.size 0 y).run P w = .ok #[] w) :
  (Builtin.append_ #[t,u] ty #[.slice bs sLen sCap,y]).run P w = .ok (.slice bs sLen sCap) w:=by
 have hz:(match d with | .int _=>true | _=>false)=false:=by cases d<;>first | rfl | exact by grind
 cases bs with
 | none =>
  simp [Builtin.append_,List.getElem?_toArray,List.getElem?_cons_zero,List.getElem?_cons_succ,Sem.run_bind,run_underlying ht,Result.andThen_ok,sizeOf,typeInfo,run_program,hi,Sem.run_pure,run_underlying hu];cases d<;>first | exact absurd rfl (hd _) | simp [hl,hf,hc]
 | some a =>
  simp [Builtin.append_,List.getElem?_toArray,List.getElem?_cons_zero,List.getElem?_cons_succ,Sem.run_bind,run_underlying ht,Result.andThen_ok,sizeOf,typeInfo,run_program,hi,Sem.run_pure,run_underlying hu];cases d<;>first | exact absurd rfl (hd _) | simp [hl,hf,hc,storeCells]
theorem aH2 {t u ty e i d} (h : P.underlying t = some (.slice e)) (a : P.underlying u = some d) (c : ∀ k, d ≠ .int k) (p : P.info? e = some i)
  g o sLen sCap m (b : sLen + m ≤ sCap) y news (q : (Builtin.lenOf y).run P w = .ok m w) (hf : (Builtin.firstCells i.size m y).run P w = .ok news.toArray w)
  {arr T fz} (hrow : w.heap[g]? = some (.cells arr T fz)) (l : o + sLen * i.size + news.length ≤ arr.size) (n : ∀ v ∈ news, v.oneCell' = true)
  (hfz : ∀ j, j < news.length → ¬ (fz.1 ≤ o + sLen * i.size + j ∧ o + sLen * i.size + j < fz.2)) :
  (Builtin.append_ #[t, u] ty #[.slice (some ⟨g, o, none⟩) sLen sCap, y]).run P w = .ok (.slice (some ⟨g, o, none⟩) (sLen + m) sCap)
   (w.setRow g (arr.toList.take (o + sLen * i.size) ++ news ++ arr.toList.drop (o + sLen * i.size + news.length)).toArray) := by
 have hst := mF P g (o + sLen * i.size) T fz news 0 arr w hrow (by omega) n (by simpa using hfz);have f : (⟨g, o, none⟩ : Addr).add (sLen * i.size) = ⟨g, o + sLen * i.size, none⟩ := Addr.add_none _ _ rfl;simp [Builtin.append_, List.getElem?_toArray, List.getElem?_cons_zero, List.getElem?_cons_succ, Sem.run_bind, run_underlying h, Result.andThen_ok, sizeOf, typeInfo, run_program, p, Sem.run_pure, run_underlying a];cases d <;> first | exact absurd rfl (c _) | simp [q, hf, b, f, hst]
theorem aBc {t u ty e i d z} (h:P.underlying t=some (.slice e)) (b:P.underlying u=some d) (f:∀ k,d ≠ .int k) (j:P.info? e=some i) (a:i.zero=some z)
  bs sLen sCap m (c:sCap<sLen+m) y (olds news:List Value) (n:(Builtin.lenOf y).run P w = .ok m w)
  (hf:(Builtin.firstCells i.size m y).run P w.drew = .ok news.toArray w.drew) (o:(Builtin.firstCells i.size sLen (.slice bs sLen sCap)).run P w.drew = .ok olds.toArray w.drew)
  (hlim:(sLen+m)*i.bytes≤140737488355328) (l:sLen+m≤9223372036854775807) :
  ∃ cap,sLen+m≤cap∧(Builtin.append_ #[t,u] ty #[.slice bs sLen sCap,y]).run P w = .ok (.slice (some ⟨w.heap.size,0,none⟩) (sLen+m) cap)
   (w.drew.alloc (.cells (olds.toArray++news.toArray++Builtin.zeroCells z.cells (cap-(sLen+m))) e)):=by
 refine ⟨grownCap w (sLen+m) sCap e,by simp only [grownCap,Question.cut];omega,?_⟩;have g  := by omega
 have h63'  := by omega
 have h48'  := by
  have:=growslice_fits (bytes:=i.bytes) c hlim;omega
 simp [Builtin.append_,run_underlying h,run_underlying b,f,sizeOf,typeInfo,zeroValue,j,a,n,g,h63',h48',Question.forced,hf,o,newRow,grownCap];grind
structure ElRel (M:Mem) (B:BM) (s:Nat) (es:List PV) (g:Nat→Value):Prop where
 el:∀ (i:Nat) (e:PV),es[i]?=some e→okEl s e
 rel:∀ (i:Nat) (e:PV) (j:Nat) (c:PV),es[i]?=some e→e.cells[j]?=some c→Rv M B c (g (i*s+j))∧(g (i*s+j)).oneCell'=true
theorem aJP {s e c} {j:Nat} {v} (b:okEl s e) (f:e.cells[j]?=some c) (a:Rv M B c v):v.oneCell'=true:=by
 have g:=b.cell f;exact a.oneCell (d:=0) (by cases c<;>simp_all [PV.solid1,fits])
theorem aBw {es C o a len cap} (h:Rv M B (.slice es C o) (.slice (some a) len cap)) (J:Cons M w) {s} (I:szOk s es=true) :
  ∃ g,ElRel M B s es g∧len=es.length∧∀ w',w'.heap=w.heap→(Builtin.firstCells s es.length (.slice (some a) len cap)).run P w' = .ok ((List.range (es.length*s)).map g).toArray w':=by
 cases h with
 | slice _ _ _ _ _ b f N z L r K F =>
  by_cases p:es=[];· subst p;refine ⟨fun _=>undef,⟨by simp,by simp⟩,rfl,?_⟩;simp [Builtin.firstCells,loadCells,loadCellsFrom]
  have l:∀ (i:Nat) e,es[i]?=some e→(es++C)[i]?=some e:=by
   grind
  have x:b=s:=aOC (fun i e n=>by grind) I p;subst x;have d  := by
   cases es with
   | nil=>exact by grind
   | cons e es=>exact (r 0 e rfl).2.2.2
  refine ⟨fun k=>f (k / b) (k % b),⟨fun i e n=>by grind,?_⟩,rfl,?_⟩
  ·intro i e j c n m;have t:=r i e (l i e n);have y  := by have:=(List.getElem?_eq_some_iff.1 m).1;rw [t.2.2.1] at this;exact this
   have D:(i*b+j) / b=i:=by rw [Nat.mul_comm,Nat.mul_add_div d,Nat.div_eq_of_lt y];rfl
   have G:(i*b+j) % b=j:=by rw [Nat.mul_comm,Nat.mul_add_mod];exact Nat.mod_eq_of_lt y
   simp [D,G];have:=F i e j c (l i e n) m;exact ⟨this,aJP t m this⟩
  intro w' v;apply run_loadCells;intro k E;have u  := Nat.div_lt_of_lt_mul (by rw [Nat.mul_comm];exact E);have n:=List.getElem?_eq_getElem u;have:=K (k / b) _ (k % b) (l _ _ n) (Nat.mod_lt _ d);obtain ⟨arr,T,fz,q,A⟩:=J _ _ _ this;rw [Addr.add_none a k (by grind)];have H:a.off+k / b*b+k % b=a.off+k:=by have:=Nat.div_add_mod k b;rw [Nat.mul_comm] at this;omega
  rw [H] at A;simp [World.cell?,v,q,A]
theorem ElRel.row {A E g1 g2 s rest} (n:ElRel M B s A g1) (m:ElRel M B s E g2) (p:0<s) :
  RowRel M B s (A++E) (((List.range (A.length*s)).map g1).toArray++((List.range (E.length*s)).map g2).toArray++rest):=by
 have f:∀ k,k<(A.length+E.length)*s→(((List.range (A.length*s)).map g1).toArray++((List.range (E.length*s)).map g2).toArray++rest).getD k undef=if k<A.length*s then g1 k else g2 (k-A.length*s):=by
  intro k q;rw [Nat.add_mul] at q;rw [Array.getD_eq_getD_getElem?,Array.getElem?_append_left (by simp;omega)];by_cases e:k<A.length*s;· rw [if_pos e,Array.getElem?_append_left (by simpa using e)];simp [e]
  rw [if_neg e,Array.getElem?_append_right (by simp;omega)];have:k-A.length*s<E.length*s:=by omega
  simp [this]
 refine ⟨p,by simp [Nat.add_mul],?_,?_⟩
 ·intro i e b;by_cases d:i<A.length;· rw [List.getElem?_append_left d] at b;exact n.el i e b
  rw [List.getElem?_append_right (by omega)] at b;exact m.el _ e b
 intro i e j c b l;have o:okEl s e:=by
  by_cases d:i<A.length;· rw [List.getElem?_append_left d] at b;exact n.el i e b
  rw [List.getElem?_append_right (by omega)] at b;exact m.el _ e b
 have r  := by have:=(List.getElem?_eq_some_iff.1 l).1;rw [o.2.2.1] at this;exact this
 have g  := by have:=(List.getElem?_eq_some_iff.1 b).1;simpa using this
 have h:i*s+j<(A.length+E.length)*s:=by
  have:(i+1)*s≤(A.length+E.length)*s:=Nat.mul_le_mul_right s g;rw [Nat.add_mul] at this;omega
 rw [f _ h];by_cases d:i<A.length
 ·rw [List.getElem?_append_left d] at b;have:i*s+j<A.length*s:=by
   have:(i+1)*s≤A.length*s:=Nat.mul_le_mul_right s d;rw [Nat.add_mul] at this;omega
  rw [if_pos this];exact (n.rel i e j c b l).1
 rw [List.getElem?_append_right (by omega)] at b;have t:A.length*s≤i*s:=Nat.mul_le_mul_right s (by omega);rw [if_neg (by omega),show i*s+j-A.length*s=(i-A.length)*s+j by rw [Nat.sub_mul];omega];exact (m.rel _ e j c b l).1
theorem bAe (h : SR base M B st tm w) {dst lv} (h1s : SR base M B { st with fr := lv ++ st.fr } tm w) {p ad cap s A E g2}
  (Z : 0 < s) (L : ElRel M B s A (fun k => ((M ad.block (ad.off + k)).getD undef))) (G : ∀ k, k < A.length * s → (M ad.block (ad.off + k)).isSome = true) (O : ElRel M B s E g2) (D : E ≠ [])
  (u : ad.spot = none) (y : ad.off = 0) (hk : HOk M w base B ad.block (ad.off + A.length * s) (ad.off + cap * s)) (hroom : A.length + E.length ≤ cap)
  (N : own1 p (.slice (some ad) A.length cap) = some ad.block) (P : cV p (.slice (some ad) A.length cap) ad.block = 1)
  (F : ∀ b, tot (lv ++ st.fr) tm w B st.bx b + cV p (.slice (some ad) A.length cap) b ≤ tot st.fr tm w B st.bx b)
  {arr T fz} (hrow : w.heap[ad.block]? = some (.cells arr T fz)) (X : ad.off + cap * s ≤ arr.size) :
  Aft base M B st tm w { ws := dstW tm.size dst (.slice (A ++ E) [] true) ++ lv } (putT tm dst (.slice (some ad) (A.length + E.length) cap))
   (w.setRow ad.block (arr.toList.take (ad.off + A.length * s) ++ (List.range (E.length * s)).map g2 ++ arr.toList.drop (ad.off + A.length * s + ((List.range (E.length * s)).map g2).length)).toArray) := by
 have hfits : ad.off + A.length * s + ((List.range (E.length * s)).map g2).length ≤ arr.size := by
  simp;have : (A.length + E.length) * s ≤ cap * s := Nat.mul_le_mul_right s hroom;rw [Nat.add_mul] at this; omega
 generalize hnew : (arr.toList.take (ad.off + A.length * s) ++ (List.range (E.length * s)).map g2 ++ arr.toList.drop (ad.off + A.length * s + ((List.range (E.length * s)).map g2).length)).toArray = arr';have z : arr'.size = arr.size := by rw [← hnew]; exact aXo _ _ _ hfits
 have hget : ∀ j, arr'[j]? = if ad.off + A.length * s ≤ j ∧ j < ad.off + A.length * s + E.length * s then some (g2 (j - (ad.off + A.length * s))) else arr[j]? := by
  intro j;rw [← hnew, aU9 _ _ _ hfits];simp;split
  ·rename_i e;have : j - (ad.off + A.length * s) < E.length * s := by omega
   simp [this]
  rfl
 let w' := w.setRow ad.block arr';let lo := ad.off + A.length * s;let M' := addM M ad.block lo (lo + E.length * s) arr';have hM' : ∀ b i, M' b i = if b = ad.block ∧ lo ≤ i ∧ i < lo + E.length * s then arr'[i]? else M b i := fun _ _ => rfl;have hrow' : w'.heap[ad.block]? = some (.cells arr' T fz) := setRow_heap w ad.block arr arr' T _ hrow;have hother : ∀ b, b ≠ ad.block → w'.heap[b]? = w.heap[b]? := fun b hb => setRow_other w ad.block b arr' hb;have hmono : ∀ b i v, M b i = some v → M' b i = some v := by
  intro b i v hv;rw [hM', if_neg (by rintro ⟨rfl, Y, _⟩; rw [hk.free i Y] at hv; simp at hv)];exact hv
 have hsame : ∀ b, b ≠ ad.block → ∀ i, M' b i = M b i := fun b hb i => by rw [hM', if_neg (by rintro ⟨e, _⟩; exact hb e)]
 have hcons : Cons M' w' := by
  intro b i v hv;by_cases hb : b = ad.block
  ·subst hb;rw [hM'] at hv;split at hv;· exact ⟨arr', T, fz, hrow', hv⟩
   rename_i hn;obtain ⟨H, r, g, x1, x2⟩ := h.cons _ i v hv;rw [hrow] at x1; cases x1;refine ⟨arr', T, fz, hrow', ?_⟩;have hlt : ¬ lo ≤ i := by intro a; rw [hk.free i a] at hv; simp at hv
   rw [hget, if_neg (by show ¬ (lo ≤ i ∧ _); omega)]; exact x2
  rw [hsame b hb] at hv;obtain ⟨H, r, g, x1, x2⟩ := h.cons b i v hv;exact ⟨H, r, g, by rw [hother b hb]; exact x1, x2⟩
 have hz : tot (lv ++ st.fr) tm w B st.bx ad.block = 0 := by
  have := F ad.block; have := h.one ad.block; omega
 obtain ⟨U, J⟩ := h1s.world (M' := M') (w' := w') hcons hmono
  (fun d id b hB => by
   have hb : b ≠ ad.block := by intro e; subst e; exact hk.nobox d id hB
   exact ⟨hother b hb, hsame b hb⟩)
  (fun b x => by
   have hb : b ≠ ad.block := by intro e; subst e; simp at x; omega
   exact ⟨hother b hb, hsame b hb⟩) (by simp [w'])
 have hAn : (A ++ E) ≠ [] := by simp [D]
 have hcellM : ∀ i e j, (A ++ E)[i]? = some e → j < s → M' ad.block (ad.off + i * s + j) = some (if i < A.length then (M ad.block (ad.off + (i * s + j))).getD undef else g2 ((i - A.length) * s + j)) := by
  intro i e j he K;have f  := by have := (List.getElem?_eq_some_iff.1 he).1; simpa using this
  by_cases hi : i < A.length
  ·have hlt : i * s + j < A.length * s := by
    have : (i + 1) * s ≤ A.length * s := Nat.mul_le_mul_right s hi;rw [Nat.add_mul] at this; omega
   rw [if_pos hi, hM', if_neg (by show ¬ (_ ∧ lo ≤ _ ∧ _); omega), show ad.off + i * s + j = ad.off + (i * s + j) by omega];have := G _ hlt;cases W : M ad.block (ad.off + (i * s + j)) with
   | none => rw [W] at this; simp at this
   | some v => rfl
  have R : A.length * s ≤ i * s := Nat.mul_le_mul_right s (by omega);have hlt  := by
   have : (i + 1) * s ≤ (A.length + E.length) * s := Nat.mul_le_mul_right s f;rw [Nat.add_mul] at this; omega
  rw [Nat.add_mul] at hlt;have hin : lo ≤ ad.off + i * s + j ∧ ad.off + i * s + j < lo + E.length * s := by show ad.off + A.length * s ≤ _ ∧ _ < ad.off + A.length * s + E.length * s; omega
  rw [if_neg hi, hM', if_pos ⟨rfl, hin⟩, hget, if_pos hin];congr 2;rw [Nat.sub_mul]; omega
 have hok : ∀ (i : Nat) e, (A ++ E)[i]? = some e → okEl s e := by
  intro i e he;by_cases hi : i < A.length;· rw [List.getElem?_append_left hi] at he; exact L.el i e he
  rw [List.getElem?_append_right (by omega)] at he; exact O.el _ e he
 have C : Rv M' B (.slice (A ++ E) [] true) (.slice (some ad) (A.length + E.length) cap) := by
  have e1 : A.length + E.length = (A ++ E).length := by simp
  rw [e1];refine .slice (A ++ E) [] true ad cap s (fun i j => if i < A.length then (M ad.block (ad.off + (i * s + j))).getD undef else g2 ((i - A.length) * s + j)) (fun _ => u) (by simpa using hroom) (by intro _; exact ⟨fun e => absurd e hAn, rfl, fun _ => y⟩) ?_ ?_ ?_;· intro i e he; rw [List.append_nil] at he; exact hok i e he
  ·intro i e j he K; rw [List.append_nil] at he; exact hcellM i e j he K
  intro i e j c he I;rw [List.append_nil] at he;by_cases hi : i < A.length;· rw [List.getElem?_append_left hi] at he;simp [if_pos hi];exact ((L.rel i e j c he I).1).mono hmono (fun _ _ _ m => m)
  rw [List.getElem?_append_right (by omega)] at he;simp [if_neg hi];exact ((O.rel _ e j c he I).1).mono hmono (fun _ _ _ m => m)
 have hHOk : HOk M' w' base B ad.block (ad.off + (A.length + E.length) * s) (ad.off + cap * s) := by
  obtain ⟨o, Q, ⟨H, r, g, x1, x2, x3⟩, fr⟩ := hk;rw [hrow] at x1; cases x1;refine ⟨o, Q, ⟨arr', T, fz, hrow', by omega, x3⟩, ?_⟩;intro i hi;rw [Nat.add_mul] at hi;rw [hM', if_neg (by show ¬ (_ ∧ _ ∧ i < ad.off + A.length * s + E.length * s); omega)];exact fr i (by omega)
 have t : hV M' w' base B (.slice (A ++ E) [] true) (.slice (some ad) (A.length + E.length) cap) := by
  rw [aCP (by simp) (by simp)];obtain ⟨e0, l0, hl0⟩ : ∃ e0 l0, A ++ E = e0 :: l0 := by
   cases hAE : A ++ E with
   | nil => exact absurd hAE hAn
   | cons e0 l0 => exact ⟨e0, l0, rfl⟩
  have l := (hok 0 e0 (by rw [hl0]; rfl)).2.2.1;rw [hl0];show HOk M' w' base B ad.block (ad.off + (A.length + E.length) * e0.cells.length) (ad.off + cap * e0.cells.length);rw [l]; exact hHOk
 have hcnt : ∀ b, cV (.slice (A ++ E) [] true) (.slice (some ad) (A.length + E.length) cap) b ≤ if b = ad.block then 1 else 0 := by
  intro b;rw [xB (by simp) (by simp)];unfold c1;split
  ·rename_i e;have : own1 (.slice (A ++ E) [] true) (.slice (some ad) (A.length + E.length) cap) = some ad.block := by
    cases hAE : A ++ E with
    | nil => exact absurd hAE hAn
    | cons e0 l0 => rfl
   rw [this] at e;rw [if_pos (Option.some.inj e).symm]; exact Nat.le_refl _
  omega
 obtain ⟨S, V⟩ := U.put dst C t (fun b => by
  have e1 := J b;have n := hcnt b;have q := h1s.one b;simp at e1 q ⊢;split at n;· rename_i e; subst e; omega
  omega)
 show Aft base M B st tm w _ _ w';unfold Aft;rw [aGp, List.append_assoc];refine ⟨fB _ _ _, M', B, S, rfl, rfl, rfl, by simp [w'], hmono, ?_, ?_, fun d i b hB _ => ⟨d, i, hB⟩, fun _ _ => rfl⟩
 ·intro b hb hnt;have hb' : b ≠ ad.block := by
   intro e; subst e;apply hnt; left;have := F ad.block; omega
  exact ⟨hother b hb', hsame b hb'⟩
 intro b hb;have e1 := V b;have n := hcnt b;have q := J b;have e4 := F b;simp at e1 q ⊢;split at n;· rename_i e; subst e; omega
 omega
end
section
variable {P : Program} {base : Base} {M : Mem} {B : BM} {st : St} {tm : Array Value} {w : World}
theorem vA {i} (h:wU i=true):∃ z,i.zero=some z∧z.cells.size=i.size:=by
 unfold wU at h;grind
theorem aAp (h : SR base M B st tm w) {dst lv} (h1s : SR base M B { st with fr := lv ++ st.fr } tm w) {p v} (hr : Rv M B p v) (J : hV M w base B p v)
  (O : ∀ b, tot (lv ++ st.fr) tm w B st.bx b + cV p v b ≤ tot st.fr tm w B st.bx b)
  {t u ty e i d} (hut : P.underlying t = some (.slice e)) (Z : P.underlying u = some d) (C : ∀ k, d ≠ .int k) (R : P.info? e = some i)
  (hs : 0 < i.size) (I : i.bytes ≤ 512) (hz : wU i = true) {y E g2} (hE : ElRel M B i.size E g2) (S : (Builtin.lenOf y).run P w = .ok E.length w)
  (Y : ∀ w' , w'.heap = w.heap → (Builtin.firstCells i.size E.length y).run P w' = .ok ((List.range (E.length * i.size)).map g2).toArray w') {r A}
  (hp : (∃ bs, p = .slice A bs true ∧ szOk i.size A = true ∧ r = .slice (A ++ E) [] true) ∨ (p = .mk0 i.size ∧ A = [] ∧ r = slOr i.size E)) (hlim : A.length + E.length ≤ lim) :
  ∃ v' w', (Builtin.append_ #[t, u] ty #[v, y]).run P w = .ok v' w' ∧ Aft base M B st tm w { ws := dstW tm.size dst r ++ lv } (putT tm dst v') w' := by
 obtain ⟨z, D, V⟩ := vA hz
 -- the handle
 have hform : ∃ bs cap, v = .slice bs A.length cap ∧ A.length ≤ cap ∧ (bs = none → A = [] ∧ cap = 0) := by
  rcases hp with ⟨bs, rfl, _, _⟩ | ⟨rfl, rfl, _⟩
  ·cases hr with
   | nil o => exact ⟨none, 0, rfl, by simp, fun _ => ⟨rfl, rfl⟩⟩
   | slice _ _ _ ad cap s f ha hc ho hel hm hrr => exact ⟨some ad, cap, rfl, by omega, by simp⟩
  cases hr with
  | mk0 sz ad cap ha => exact ⟨some ad, cap, rfl, by simp, by simp⟩
 obtain ⟨bs, cap, rfl, hcap, hnil⟩ := hform;by_cases hne : E = []
 ·subst hne;have W : r = p := by
   rcases hp with ⟨G, rfl, _, rfl⟩ | ⟨rfl, rfl, rfl⟩
   ·cases hr with
    | nil o => rfl
    | slice _ _ _ ad cap s f ha hc ho hel hm hrr => rw [(ho rfl).2.1, List.append_nil]
   rfl
  have hf0 := Y w rfl;simp [List.length_nil, Nat.zero_mul, List.range_zero, List.map_nil] at hf0;refine ⟨_, w, xG (P := P) (ty := ty) hut Z C R bs A.length cap hcap y S hf0, ?_⟩;rw [W];exact aJL h h1s hr J O
 by_cases hroom : A.length + E.length ≤ cap
 ·-- room: the handle is in memory
  obtain ⟨ad, rfl⟩ : ∃ ad, bs = some ad := by
   cases bs with
   | none => obtain ⟨_, rfl⟩ := hnil rfl; exfalso; apply hne; cases E with
    | nil => rfl
    | cons a l => simp at hroom
   | some ad => exact ⟨ad, rfl⟩
  have q : 0 < E.length := by cases E with
   | nil => exact by grind
   | cons a l => simp
  have key : ad.spot = none ∧ ad.off = 0 ∧ HOk M w base B ad.block (ad.off + A.length * i.size) (ad.off + cap * i.size) ∧ own1 p (.slice (some ad) A.length cap) = some ad.block ∧
    cV p (.slice (some ad) A.length cap) ad.block = 1 ∧ ElRel M B i.size A (fun k => ((M ad.block (ad.off + k)).getD undef)) ∧ (∀ k, k < A.length * i.size → (M ad.block (ad.off + k)).isSome = true) ∧ r = .slice (A ++ E) [] true := by
   rcases hp with ⟨G, rfl, hsz, rfl⟩ | ⟨rfl, rfl, rfl⟩
   ·cases hr with
    | slice _ _ _ _ _ s f ha hc ho hel hm hrr =>
     have hb0 := (ho rfl).2.1;subst hb0;have F : A ≠ [] := by intro e; have := (ho rfl).1 e; omega
     have hin : ∀ (k : Nat) x, A[k]? = some x → (A ++ [])[k]? = some x := by intro k x hx; rw [List.append_nil]; exact hx
     have hss : s = i.size := aOC (fun k x hx => by grind) hsz F;subst hss;obtain ⟨a0, A', rfl⟩ : ∃ a0 A', A = a0 :: A' := by cases A with
      | nil => exact by grind
      | cons a0 A' => exact ⟨a0, A', rfl⟩
     have n := (hel 0 a0 rfl).2.2.1;have hk : HOk M w base B ad.block (ad.off + (a0 :: A').length * a0.cells.length) (ad.off + cap * a0.cells.length) := (aCP (by simp) (by simp)).1 J;rw [n] at hk;refine ⟨by grind, by grind, hk, rfl, ?_, ?_, ?_, rfl⟩;· rw [xB (by simp) (by simp)]; simp [c1, own1]
     ·refine ⟨fun k x hx => by grind, ?_⟩;intro k x j c hx hcj;have hok := hel k x (hin k x hx);have N : j < i.size := by have := (List.getElem?_eq_some_iff.1 hcj).1; rw [hok.2.2.1] at this; exact this
      have h5 := hm k x j (hin k x hx) N;have h6 := hrr k x j c (hin k x hx) hcj;rw [show ad.off + k * i.size + j = ad.off + (k * i.size + j) by omega] at h5;simp [h5, Option.getD_some];exact ⟨h6, aJP hok hcj h6⟩
     intro k hk';have hlt : k / i.size < (a0 :: A').length := Nat.div_lt_of_lt_mul (by rw [Nat.mul_comm]; exact hk');have hx := List.getElem?_eq_getElem hlt;have h5 := hm (k / i.size) _ (k % i.size) (hin _ _ hx) (Nat.mod_lt _ hs);rw [show ad.off + k / i.size * i.size + k % i.size = ad.off + k by have := Nat.div_add_mod k i.size; rw [Nat.mul_comm] at this; omega] at h5;simp [h5]
   cases hr with
   | mk0 _ _ _ ha =>
    have hk : HOk M w base B ad.block ad.off (ad.off + cap * i.size) := (aCP (by simp) (by simp)).1 J;refine ⟨ha.1, ha.2, by simpa using hk, rfl, ?_, ⟨by simp, by simp⟩, by simp, ?_⟩;· rw [xB (by simp) (by simp)]; simp [c1, own1]
    cases E with
    | nil => exact by grind
    | cons a l => rfl
  obtain ⟨H, L, hk, hown, g, U, Q, rfl⟩ := key;obtain ⟨arr, T, fz, hrow, hsz, m⟩ := hk.row;have hmul  := by
   have  := Nat.mul_le_mul_right i.size hroom;rw [Nat.add_mul] at this; exact this
  have e : ad = ⟨ad.block, ad.off, none⟩ := by cases ad; simp_all
  have hrun := aH2 (P := P) (w := w) (ty := ty) hut Z C R ad.block ad.off A.length cap E.length hroom y ((List.range (E.length * i.size)).map g2) S (Y w rfl) hrow (by simp; omega) (by
    intro x hx;simp [List.mem_map, List.mem_range] at hx;obtain ⟨k, hk', rfl⟩ := hx;have hlt  := Nat.div_lt_of_lt_mul (by rw [Nat.mul_comm]; exact hk');have he := List.getElem?_eq_getElem hlt;have hok := hE.el _ _ he;have X : k % i.size < (E[k / i.size]).cells.length := by rw [hok.2.2.1]; exact Nat.mod_lt _ hs
    have := (hE.rel _ _ (k % i.size) _ he (List.getElem?_eq_getElem X)).2;rwa [show k / i.size * i.size + k % i.size = k by have := Nat.div_add_mod k i.size; rw [Nat.mul_comm] at this; omega] at this) (by
    intro j N;simp at N;exact m _ (by omega))
  rw [← e] at hrun;exact ⟨_, _, hrun, bAe h h1s hs U Q hE hne H L hk hroom hown g O hrow hsz⟩
 have q : 0 < E.length := by cases E with
  | nil => exact by omega
  | cons a l => simp
 have hold : ∃ g1, ElRel M B i.size A g1 ∧ (Builtin.firstCells i.size A.length (.slice bs A.length cap)).run P w.drew = .ok ((List.range (A.length * i.size)).map g1).toArray w.drew := by
  rcases hp with ⟨G, rfl, hsz, rfl⟩ | ⟨rfl, rfl, rfl⟩
  ·cases bs with
   | none =>
    obtain ⟨rfl, rfl⟩ := hnil rfl;exact ⟨fun _ => undef, ⟨by simp, by simp⟩, by simp [Builtin.firstCells]⟩
   | some ad =>
    obtain ⟨g1, q1, q2, q3⟩ := aBw (P := P) hr h.cons hsz;exact ⟨g1, q1, q3 w.drew rfl⟩
  cases bs with
  | none => exact ⟨fun _ => undef, ⟨by simp, by simp⟩, by simp [Builtin.firstCells]⟩
  | some ad => exact ⟨fun _ => undef, ⟨by simp, by simp⟩, by simp [Builtin.firstCells, loadCells, loadCellsFrom]⟩
 obtain ⟨g1, U, ho⟩ := hold;simp [lim] at hlim;have K  := by
  have  := Nat.mul_le_mul hlim I;omega
 obtain ⟨cap', hcap', hrun⟩ := aBc (P := P) (w := w) (ty := ty) hut Z C R D bs A.length cap E.length (by omega) y _ _ S (Y w.drew rfl) ho K (by omega);have hr2 : r = .slice (A ++ E) [] true := by
  rcases hp with ⟨G, rfl, _, rfl⟩ | ⟨rfl, rfl, rfl⟩;· rfl
  cases E with
  | nil => exact by grind
  | cons a l => rfl
 refine ⟨_, _, hrun, ?_⟩;have := aJO h (dst := dst) h1s (fun b => by have := O b; omega) (s := i.size) (cap := cap') (es := A ++ E) (fz := (0, 0)) (T := e)
  (w' := w.drew.alloc (.cells (((List.range (A.length * i.size)).map g1).toArray ++ ((List.range (E.length * i.size)).map g2).toArray ++ Builtin.zeroCells z.cells (cap' - (A.length + E.length))) e))
  (U.row hE hs) (by simpa using hcap') (by
   rw [Array.size_append, Array.size_append, size_zeroCells, V];simp;have h7 : cap' = (A.length + E.length) + (cap' - (A.length + E.length)) := by omega
   have h8 : cap' * i.size = (A.length + E.length) * i.size + (cap' - (A.length + E.length)) * i.size := by rw [← Nat.add_mul, ← h7]
   rw [Nat.add_mul] at h8;omega) (by simp) rfl rfl rfl rfl (r := r) (.inl ⟨hr2, fun hx => by exfalso; apply hne; simp at hx; exact hx.2⟩)
 simpa using this
theorem bAf (h:SR base M B st tm w) {dst lv} (h1s:SR base M B {st with fr:=lv++st.fr} tm w) {p q r v y} (l:Rv M B p v) (c:hV M w base B p v)
  (g:∀ b,tot (lv++st.fr) tm w B st.bx b+cV p v b≤tot st.fr tm w B st.bx b) (F:Rv M B q y)
  {t u ty e G i} (hut:P.underlying t=some (.slice e)) (m:P.underlying u=some (.slice G)) (j:P.info? e=some i)
  (n:0<i.size) (hby:i.bytes≤512) (d:wU i=true) (ha:apd i.size p q=some r) :
  ∃ k w',(Builtin.append_ #[t,u] ty #[v,y]).run P w = .ok k w'∧Aft base M B st tm w {ws:=dstW tm.size dst r++lv} (putT tm dst k) w':=by
 have hyE:∀ E bs o,q = .slice E bs o→szOk i.size E=true→∃ g2,ElRel M B i.size E g2∧(Builtin.lenOf y).run P w = .ok E.length w∧∀ w',w'.heap=w.heap→(Builtin.firstCells i.size E.length y).run P w' = .ok ((List.range (E.length*i.size)).map g2).toArray w':=by
  intro E bs o x hsz;subst x;cases F with
  | nil o=>exact ⟨fun _=>undef,⟨by simp,by simp⟩,rfl,fun w' _=>by simp [Builtin.firstCells]⟩
  | slice _ _ _ C cap s f ha2 hc D hel H hrr =>
   obtain ⟨g2,q1,q2,q3⟩:=aBw (P:=P) (Rv.slice E bs o C cap s f ha2 hc D hel H hrr) h.cons hsz;exact ⟨g2,q1,rfl,q3⟩
 unfold apd at ha;split at ha
 ·rename_i A bs E bs' o;split at ha;· rename_i hc;obtain ⟨g2,q1,q2,q3⟩:=hyE E bs' o rfl hc.2.2;exact aAp h h1s l c g hut m (by simp) j n hby d q1 q2 q3 (A:=A) (by grind) hc.1
  grind
 ·rename_i sz E bs' o;split at ha;· rename_i hc;cases ha;obtain ⟨z,rfl,a⟩:=hc;obtain ⟨g2,q1,q2,q3⟩:=hyE E bs' o rfl a;exact aAp h h1s l c g hut m (by simp) j n hby d q1 q2 q3 (A:=[]) (by simp) (by grind)
  grind
 grind
theorem aRC s:ElRel M B 1 (eJ s) (fun k => .int .u8 ((s.getD k 0).toNat:Int)):=by
 have f:∀ (i:Nat) e,(eJ s)[i]?=some e→∃ b,s[i]?=some b∧e = .int .u8 b.toNat:=by
  intro i e a;simp [eJ] at a;grind
 refine ⟨?_,?_⟩;· intro i e a;obtain ⟨b,_,rfl⟩:=f i e a;exact ⟨rfl,rfl,rfl,by omega⟩
 intro i e j c a d;obtain ⟨b,g,rfl⟩:=f i e a;cases j with
 | zero =>
  simp [PV.cells] at d;subst d;simp [g];exact ⟨.int _ _,rfl⟩
 | succ j=>simp [PV.cells] at d
theorem aVe (s:List UInt8):(s.map fun b=>Value.int .u8 b.toNat)=(List.range s.length).map fun k=>Value.int .u8 ((s.getD k 0).toNat:Int):=by
 apply List.ext_getElem?;grind
theorem aTe (h:SR base M B st tm w) {dst lv} (a:SR base M B {st with fr:=lv++st.fr} tm w) {p q r v y} (E:Rv M B p v) (n:hV M w base B p v)
  (x:∀ b,tot (lv++st.fr) tm w B st.bx b+cV p v b≤tot st.fr tm w B st.bx b) (J:Rv M B q y)
  {t u ty e i} (c:P.underlying t=some (.slice e)) (F:P.underlying u=some .string) (C:P.info? e=some i)
  (G:i.size=1) (g:i.bytes≤512) (o:wU i=true) (j:aUW p q=some r) :
  ∃ D w',(Builtin.append_ #[t,u] ty #[v,y]).run P w = .ok D w'∧Aft base M B st tm w {ws:=dstW tm.size dst r++lv} (putT tm dst D) w':=by
 have d:∀ s,q = .str s→(Builtin.lenOf y).run P w = .ok (eJ s).length w∧∀ w',w'.heap=w.heap→(Builtin.firstCells i.size (eJ s).length y).run P w' = .ok ((List.range ((eJ s).length*i.size)).map fun k=>Value.int .u8 ((s.getD k 0).toNat:Int)).toArray w':=by
  intro s H;subst H;rw [J.str_inv];have I:(eJ s).length=s.length:=by simp [eJ]
  rw [I,G];refine ⟨by simp [Builtin.lenOf,ByteArray.size],fun w' _ => ?_⟩;simp only [Builtin.firstCells,Nat.mul_one];rw [← aVe];simp
 have f:∀ s,ElRel M B i.size (eJ s) (fun k => .int .u8 ((s.getD k 0).toNat:Int)):=by intro s;rw [G];exact aRC s
 have z:∀ s,(eJ s).length=s.length:=by simp [eJ]
 unfold aUW at j;split at j
 ·rename_i A K s;split at j;· obtain ⟨m,l⟩:=d s rfl;exact aAp h a E n x c F (by simp) C (by omega) g o (f s) m l (A:=A) (by grind) (by grind)
  grind
 ·rename_i sz s;split at j;· obtain ⟨m,l⟩:=d s rfl;exact aAp h a E n x c F (by simp) C (by omega) g o (f s) m l (A:=[]) (by grind) (by grind)
  grind
 grind
theorem aOK (h : SR base M B st tm w) {dst x r a s d e} (q : P.underlying s = some .string) (t : P.underlying d = some (.slice e)) (p : P.underlying e = some (.int .u8))
  (i : Rv M B x a) (n : aOu x = some r) : ∃ o w', (convert s d a).run P w = .ok o w' ∧ Aft base M B st tm w { ws := dstW tm.size dst r } (putT tm dst o) w' := by
 unfold aOu at n;split at n
 ·rename_i c;rw [i.str_inv];refine ⟨_, _, run_bytes_of_string (P := P) w s d e ⟨c.toArray⟩ q t p, ?_⟩;have u : (ByteArray.mk c.toArray).size = c.length := by simp [ByteArray.size]
  have f : c.length ≤ grownCap w (ByteArray.mk c.toArray).size 0 e := by simp [grownCap, Question.cut]; omega
  generalize grownCap w (ByteArray.mk c.toArray).size 0 e = cap at f;have g : bytesRow ⟨c.toArray⟩ cap = ((List.range c.length).map fun k => Value.int .u8 ((c.getD k 0).toNat : Int)).toArray ++ Array.replicate (cap - c.length) (.int .u8 0) := by
   unfold bytesRow;grind
  have m : RowRel M B 1 (eJ c) (bytesRow ⟨c.toArray⟩ cap) := by
   have := (ElRel.row (A := []) (E := eJ c) (g1 := fun _ => undef) (s := 1) (rest := Array.replicate (cap - c.length) (.int .u8 0)) (M := M) (B := B) ⟨by simp, by simp⟩ (aRC c) (by omega));rw [g];simpa [eJ] using this
  have j : (bytesRow ⟨c.toArray⟩ cap).size = cap := by grind
  have := aJO h (dst := dst) (lv := []) (by simp_all) (fun b => Nat.le_refl _) (s := 1) (cap := cap) (es := eJ c) (arr := bytesRow ⟨c.toArray⟩ cap) (T := e) (fz := ((bytesRow ⟨c.toArray⟩ cap).size, (bytesRow ⟨c.toArray⟩ cap).size + 1))
   (w' := w.drew.alloc (.cells (bytesRow ⟨c.toArray⟩ cap) e ((bytesRow ⟨c.toArray⟩ cap).size, (bytesRow ⟨c.toArray⟩ cap).size + 1)))
   m (by simpa [eJ] using f) (by omega) (by omega) rfl rfl rfl rfl
   (r := slOr 1 (eJ c)) (by
    cases c with
    | nil => exact .inr ⟨rfl, rfl⟩
    | cons a l => exact .inl ⟨rfl, fun i => by simp [eJ] at i⟩)
  have v : (eJ c).length = c.length := by simp [eJ]
  grind
 grind
theorem aJQ (h:SR base M B st tm w) {dst t e i z n x a} (q:P.underlying t=some (.slice e)) (v:P.info? e=some i) (p:i.zero=some z) (A:z.cells.size=i.size)
  (o:0<i.size) (g:i.bytes≤512) (y:n≤lim) (f:aBp x=some n) (l:Rv M B x a) :
  ∃ w',(Instr.makeSlice t (.int .i64 0) a).run P w = .ok (.slice (some ⟨w.heap.size,0,none⟩) 0 n) w' ∧
   Aft base M B st tm w {ws:=dstW tm.size dst (.mk0 i.size)} (putT tm dst (.slice (some ⟨w.heap.size,0,none⟩) 0 n)) w':=by
 unfold aBp at f;split at f
 ·rename_i k m;split at f;· grind
  obtain rfl:m.toNat=n:=by grind
  rw [l.int_inv];have d:m.toNat≤274877906944:=y;have c:i.bytes*m≤281474976710656:=by
   have C  := Nat.mul_le_mul g d;grind
  have j:=run_make (P:=P) w t e i z q v p .i64 k 0 m (by omega) (by omega) c (by omega);have u:(madeCells z.cells (m.toNat*i.size)).size=m.toNat*i.size:=by
   unfold madeCells;simp
  have:=aJO h (dst:=dst) (lv:=[]) (by simp_all) (fun b=>Nat.le_refl _) (s:=i.size) (cap:=m.toNat) (es:=[]) (arr:=madeCells z.cells (m.toNat*i.size)) (T:=e) (fz:=(0,0))
   (w':=w.alloc (.cells (madeCells z.cells (m.toNat*i.size)) e)) ⟨o,by simp,by simp,by simp⟩ (by simp) (by omega) (by simp) rfl rfl rfl rfl (r := .mk0 i.size) (by simp)
  grind
 grind
end
def nG (B:BM):BM:=fun d id=>match d with | 0=>none | d+1=>B d id
def noB:BM:=fun _ _=>none
def cA (args:List PV) (vals:Array Value) (b:Nat):Nat:=bT args.length fun i=>cV (args.getD i .bot) (vals.getD i undef) b
def tD (P:Program) (f:FuncId) (vals:Array Value) (w:World) (R:Value→World→Prop):Prop :=
 (∃ g gs,(callFunc f vals).run P w = .ok (.enter g gs) w∧Calls P g gs w fun e w'=>∃ v,e = .returned v∧R v w') ∨
 ∃ v w',(callFunc f vals).run P w = .ok (.value v) w'∧R v w'
structure CallPre (base:Base) (M:Mem) (B:BM) (args:List PV) (up:UP) (vals:Array Value) (w:World):Prop where
 cons:Cons M w
 size:vals.size=args.length
 rel:∀ (i:Nat) (p:PV),args[i]?=some p→Rv M (nG B) p (vals.getD i undef)∧hV M w base B p (vals.getD i undef)
 box:BRel M w base B up
 one:∀ b,cA args vals b+cBx w B up b≤1
 glob:Glob base M
 base:base≤w.heap.size
def gP (base:Base) (M:Mem) (B:BM) (args:List PV) (up:UP) (vals:Array Value) (w:World) (r:PV) (up':UP) (v:Value) (w':World):Prop :=
 ∃ M',Rv M' B r v∧hV M' w' base B r v∧BRel M' w' base B up'∧Cons M' w'∧(∀ b,cV r v b+cBx w' B up' b≤1) ∧
 Evo w M (fun b=>cA args vals b+cBx w B up b) B w' M' (fun b=>cV r v b+cBx w' B up' b) B
def aJR (P:Program) (G:Mem) (O:Orc):Prop :=
 ∀ f args up r up',O f args up=some (r,up')→∀ n w M B vals,CallPre ⟨n,G⟩ M B args up vals w→tD P f vals w (gP ⟨n,G⟩ M B args up vals w r up')
section
variable {P : Program} {base : Base} {M : Mem} {B : BM} {st : St} {tm : Array Value} {w : World} {next : Act → World → Prop} {Q : Exit → Act → World → Prop}
theorem tD.mono {f vals R d} (h:tD P f vals w R) (c:∀ v w',R v w'→d v w'):tD P f vals w d:=by
 rcases h with ⟨g,gs,b,a⟩ | ⟨v,w',b,a⟩;· exact .inl ⟨g,gs,b,a.mono fun e w' ⟨v,i,hv⟩=>⟨v,i,c v w' hv⟩⟩
 exact .inr ⟨v,w',b,c v w' a⟩
theorem aLR (h:SR base M B st tm w) d:∀ xs,rW (nC xs)=true →
  SR base M B {st with fr:=xs.flatMap (left st.fr true)++st.fr} tm w ∧
  ∀ b,tot (xs.flatMap (left st.fr true)++st.fr) tm w B st.bx b+sumL (fun x=>cV (opv st.fr true x) ((Act.mk tm d).eval x) b) xs=tot st.fr tm w B st.bx b
 | [],_=>⟨h,fun b=>rfl⟩
 | x::xs,k=>by
  have u:rW (nC xs)=true:=by
   cases x<;>simp [nC,List.filterMap_cons] at k ⊢ <;> first | exact k | (simp [rW,Bool.and_eq_true] at k;grind)
  obtain ⟨m,l⟩:=aLR h d xs u;cases x with
  | tmp t =>
   -- the slot is none of the others
   have j:t∉nC xs:=by
    simp [nC,List.filterMap_cons,rW,Bool.and_eq_true,Bool.not_eq_true'] at k;intro z;have o:=k.1;unfold has at o;rw [List.any_eq_false] at o;exact o t z (by simp)
   have e:∀ ys,t∉nC ys→gets (ys.flatMap (left st.fr true)++st.fr) t=gets st.fr t:=by
    intro ys;induction ys with
    | nil=>simp
    | cons y ys a =>
     intro i;cases y with
     | tmp s =>
      simp only [nC,List.filterMap_cons,List.mem_cons,not_or] at i;simp [List.flatMap_cons,left,List.cons_append,dL];rw [if_neg (Ne.symm i.1)];exact a i.2
     | const v=>simpa [left] using a (by simpa [nC] using i)
     | global g=>simpa [left] using a (by simpa [nC] using i)
     | func f=>simpa [left] using a (by simpa [nC] using i)
   have r:=e xs j;obtain ⟨p,q⟩:=m.take t;simp only [r] at p q;refine ⟨by simpa [left] using p,fun b => ?_⟩;have A:=q b;have n:=l b;show tot ((t,(gets st.fr t).plain)::(xs.flatMap (left st.fr true)++st.fr)) tm w B st.bx b+(cV (gets st.fr t) (tm.getD t undef) b+sumL (fun x=>cV (opv st.fr true x) ((Act.mk tm d).eval x) b) xs)=_;omega
  | const v =>
   refine ⟨by simpa [left] using m,fun b => ?_⟩;have n:=l b;have:cV (opv st.fr true (.const v)) ((Act.mk tm d).eval (.const v)) b=0:=(gO v).c b;simp [left,sumL];omega
  | global g =>
   refine ⟨by simpa [left] using m,fun b => ?_⟩;have n:=l b;have:cV (opv st.fr true (.global g)) ((Act.mk tm d).eval (.global g)) b=0:=(tR st.fr (.global g) ⟨tm,d⟩ (by simp)).c b;simp [left,sumL];omega
  | func f =>
   refine ⟨by simpa [left] using m,fun b => ?_⟩;have n:=l b;have:cV (opv st.fr true (.func f)) ((Act.mk tm d).eval (.func f)) b=0:=(tR st.fr (.func f) ⟨tm,d⟩ (by simp)).c b;simp [left,sumL];omega
theorem aZK (h:SR base M B st tm w) d xs :
  xs.flatMap (left st.fr false)=[]∧∀ b,sumL (fun x=>cV (opv st.fr false x) ((Act.mk tm d).eval x) b) xs=0:=by
 constructor
 ·induction xs with
  | nil=>rfl
  | cons x xs a=>rw [List.flatMap_cons,a];cases x<;>rfl
 intro b;exact aCO _ fun x _=>(h.opvF d x).2.c b
theorem aIW {α} [Inhabited α] (f:α→Nat):∀ l,sumL f l=bT l.length fun i=>f (l.getD i default)
 | []=>rfl
 | a::l=>by
  have sh:∀ n f,bT (n+1) f=f 0+bT n (fun j=>f (j+1)):=by
   intro n f;induction n with
   | zero=>simp [bT]
   | succ n b=>rw [bT,b];simp [bT];omega
  simp [sumL];rw [sh,aIW f l];simp
theorem tU {f}:∀ m n,bT (m+n) f=bT m f+bT n (fun i=>f (m+i))
 | m,0=>by simp [bT]
 | m,n+1=>by rw [← Nat.add_assoc];simp [bT];rw [tU m n];omega
theorem aGu:nG noB=noB:=by funext d id;cases d<;>rfl
theorem bBp (h:SR base M B st tm w) d {A j k v} (hv:Rv M B (.func A j k) v) o xs :
  ∃ m n,v = .func A m n ∧
   (m++(xs.map (Act.mk tm d).eval).toArray++n).size=(j++xs.map (opv st.fr o)++k).length ∧
   (∀ i p,(j++xs.map (opv st.fr o)++k)[i]?=some p→Rv M B p ((m++(xs.map (Act.mk tm d).eval).toArray++n).getD i undef)∧hV M w base B p ((m++(xs.map (Act.mk tm d).eval).toArray++n).getD i undef)) ∧
   ∀ b,cA (j++xs.map (opv st.fr o)++k) (m++(xs.map (Act.mk tm d).eval).toArray++n) b=sumL (fun x=>cV (opv st.fr o x) ((Act.mk tm d).eval x) b) xs:=by
 cases hv with
 | func _ _ _ m n f g C s I y t J u =>
  refine ⟨m,n,rfl,by simp [s,t],?_,?_⟩
  ·intro i p l;by_cases z:i<j.length
   ·rw [List.append_assoc,List.getElem?_append_left z] at l;have q:=C p (by simp [List.mem_of_getElem? l]);have:(m++(xs.map (Act.mk tm d).eval).toArray++n).getD i undef=f i:=by
     rw [Array.getD_eq_getD_getElem?,Array.append_assoc,Array.getElem?_append_left (by omega),I i z];rfl
    rw [this];exact ⟨y i p l,(aT q).h M w base B⟩
   by_cases N:i<j.length+xs.length
   ·rw [List.append_assoc,List.getElem?_append_right (by omega),List.getElem?_append_left (by simp;omega),List.getElem?_map,Option.map_eq_some_iff] at l;obtain ⟨x,F,rfl⟩:=l;have:(m++(xs.map (Act.mk tm d).eval).toArray++n).getD i undef=(Act.mk tm d).eval x:=by
     rw [Array.getD_eq_getD_getElem?,Array.append_assoc,Array.getElem?_append_right (by omega),Array.getElem?_append_left (by simp;omega)];simp [s,F]
    rw [this];obtain ⟨H,L,_⟩:=h.opvT d o x;exact ⟨H,L⟩
   rw [List.getElem?_append_right (by simp;omega)] at l;have q:=C p (by simp [List.mem_of_getElem? l]);have r  := (List.getElem?_eq_some_iff.1 l).1;have:(m++(xs.map (Act.mk tm d).eval).toArray++n).getD i undef=g (i-(j++xs.map (opv st.fr o)).length):=by
    rw [Array.getD_eq_getD_getElem?,Array.getElem?_append_right (by simp;omega)];have e:i-(m++(xs.map (Act.mk tm d).eval).toArray).size=i-(j++xs.map (opv st.fr o)).length:=by simp [s]
    rw [e,J _ r];rfl
   rw [this];exact ⟨u _ p l,(aT q).h M w base B⟩
  intro b;unfold cA;rw [List.length_append,List.length_append,tU,tU,List.length_map];have E:bT j.length (fun i=>cV ((j++xs.map (opv st.fr o)++k).getD i .bot) ((m++(xs.map (Act.mk tm d).eval).toArray++n).getD i undef) b)=0:=by
   apply iG;intro i l;exact (aT (by grind)).c b
  have K:bT k.length (fun i=>cV ((j++xs.map (opv st.fr o)++k).getD (j.length+xs.length+i) .bot) ((m++(xs.map (Act.mk tm d).eval).toArray++n).getD (j.length+xs.length+i) undef) b)=0:=by
   apply iG;intro i l;exact (aT (by grind)).c b
  rw [E,K,Nat.zero_add,Nat.add_zero,aIW];apply eK;intro i l;have D:(j++xs.map (opv st.fr o)++k).getD (j.length+i) .bot=opv st.fr o xs[i]:=by
   rw [List.getD_eq_getElem?_getD,List.append_assoc,List.getElem?_append_right (by omega),List.getElem?_append_left (by simp;omega)];simp [l]
  have G:(m++(xs.map (Act.mk tm d).eval).toArray++n).getD (j.length+i) undef=(Act.mk tm d).eval xs[i]:=by
   rw [Array.getD_eq_getD_getElem?,Array.append_assoc,Array.getElem?_append_right (by omega),Array.getElem?_append_left (by simp;omega)];simp [s,l]
  rw [D,G];simp [l]
end
section
variable {P : Program} {base : Base} {M : Mem} {B : BM} {st : St} {tm : Array Value} {w : World} {next : Act → World → Prop} {Q : Exit → Act → World → Prop}
theorem aRD {args vals b} (h:1≤cA args vals b):∃ (i:Nat) (p:PV),args[i]?=some p∧1≤cV p (vals.getD i undef) b:=by
 obtain ⟨i,a,c⟩:=aCT _ h;grind
theorem aRE {p v} (h:hV M w base B p v) {b} (g:1≤cV p v b):(∀ d id,B d id≠some b)∧b<w.heap.size∧base≤b:=by
 obtain ⟨x,e,c⟩:=aZI g;have a:=h x e;have:=a.nobox c;obtain ⟨j,i,f⟩:=a.hok c;exact ⟨this.1,this.2,f.old⟩
theorem aJS {M' w' B' p v} (h:hV M w base B p v) (j:∀ b i v,M b i=some v→M' b i=some v)
  (e:∀ b,1≤cV p v b→b<w.heap.size→w'.heap[b]?=w.heap[b]?∧(∀ i,M' b i=M b i)∧∀ d id,B' d id=some b→B d id=some b):hV M' w' base B' p v:=by
 intro x c;refine (h x c).world j fun b g a=>e b ?_ a;have:c1 x.1 x.2 b=1:=by simp [c1,g]
 have k:c1 x.1 x.2 b≤cV p v b:=aGh (f:=fun y=>c1 y.1 y.2 b) _ c;omega
theorem aLS (h : SR base M B st tm w) {dst lv} (h1s : SR base M B { st with fr := lv ++ st.fr } tm w) {args vals r v w'}
  (F : vals.size = args.length) (hrel : ∀ i p, args[i]? = some p → Rv M B p (vals.getD i undef) ∧ hV M w base B p (vals.getD i undef))
  (ht : ∀ b, tot (lv ++ st.fr) tm w B st.bx b + cA args vals b ≤ tot st.fr tm w B st.bx b) (hpost : gP base M noB args [] vals w r [] v w') :
  Aft base M B st tm w { ws := dstW tm.size dst r ++ lv } (putT tm dst v) w' := by
 obtain ⟨M', m, C, D, s, hone, evo⟩ := hpost;have hcb : ∀ w b, cBx w noB [] b = 0 := fun w b => rfl;have hAown : ∀ b, 1 ≤ cA args vals b → (∀ d id, B d id ≠ some b) ∧ b < w.heap.size := by
  intro b hb;obtain ⟨i, p, G, hcv⟩ := aRD hb;have := aRE (hrel i p G).2 hcv;exact ⟨this.1, this.2.1⟩
 have htouch : ∀ b, touch (fun b => cA args vals b + cBx w noB [] b) noB b ↔ 1 ≤ cA args vals b := by
  intro b;constructor
  ·rintro (c | ⟨d, id, e⟩);· have h1' : 1 ≤ cA args vals b + cBx w noB [] b := c;rw [hcb] at h1'; omega
   simp [noB] at e
  intro c; left;show 1 ≤ cA args vals b + cBx w noB [] b;omega
 have hkeep : ∀ b, b < w.heap.size → cA args vals b = 0 → w'.heap[b]? = w.heap[b]? ∧ ∀ i, M' b i = M b i := by
  intro b hb J;exact evo.keep b hb (by rw [htouch]; omega)
 obtain ⟨t, z⟩ := h1s.world (M' := M') (w' := w') s evo.mono
  (fun d id b hB => hkeep b (h.box_lt hB).1 (by
   grind))
  (fun b hb => hkeep b (h1s.tot_own hb).1 (by have := ht b; have := h.one b; simp at hb; omega)) evo.size
 have a : Rv M' B r v := m.mono (fun _ _ _ hx => hx) (fun d id b hb => by simp [noB] at hb);have hcr : ∀ b, b < w.heap.size → cV r v b ≤ cA args vals b := by
  intro b hb;have := evo.tle b hb;simp [hcb] at this; omega
 have hhB : hV M' w' base B r v := by
  intro x hx;have hx1 := C x hx;refine hx1.world (fun _ _ _ hx => hx) fun b k j => ⟨rfl, fun _ => rfl, fun d id hB => ?_⟩
  -- the block is no variable of ours
  have g : 1 ≤ cV r v b := by
   have : c1 x.1 x.2 b = 1 := by simp [c1, k]
   have e : c1 x.1 x.2 b ≤ cV r v b := aGh (f := fun y => c1 y.1 y.2 b) _ hx;omega
  have l := (h.box_lt hB).1;exact by grind
 have hsum : ∀ b, tot (lv ++ st.fr) tm w' B st.bx b + cV r v b ≤ 1 ∧ (b < w.heap.size → tot (lv ++ st.fr) tm w' B st.bx b + cV r v b ≤ tot st.fr tm w B st.bx b) := by
  intro b;have e1 := z b;have q := ht b;have H := h.one b;have I := hone b;simp at e1;by_cases hb : b < w.heap.size;· have := hcr b hb; exact ⟨by omega, fun _ => by omega⟩
  have : tot (lv ++ st.fr) tm w B st.bx b = 0 := by
   cases hx : tot (lv ++ st.fr) tm w B st.bx b with
   | zero => rfl
   | succ n => have := (h1s.tot_own (b := b) (by simp; omega)).1; omega
  exact ⟨by omega, fun E => by omega⟩
 obtain ⟨o, u⟩ := t.put dst a hhB (fun b => (hsum b).1);unfold Aft;rw [aGp, List.append_assoc];refine ⟨fB _ _ _, M', B, o, evo.os, evo.tape, evo.output, evo.size, evo.mono, ?_, ?_, fun d i b hB _ => ⟨d, i, hB⟩, fun _ _ => rfl⟩
 ·intro b hb hnt;refine hkeep b hb ?_;cases hx : cA args vals b with
  | zero => rfl
  | succ n => exfalso; apply hnt; left; have := ht b; omega
 intro b hb;have e1 := u b;have q := (hsum b).2 hb;simp at e1 ⊢;omega
theorem aOL (h:SR base M B st tm w) {dst lv} (h1s:SR base M B {st with fr:=lv++st.fr} tm w) {args vals r u v w'}
  (hrel:∀ i p,args[i]?=some p→hV M w base B p (vals.getD i undef))
  (ht:∀ b,tot (lv++st.fr) tm w B st.bx b+cA args vals b≤tot st.fr tm w B st.bx b) (hpost:gP base M B args st.bx vals w r u v w') :
  Aft base M B st tm w {ws:=dstW tm.size dst r++lv,up:=some u} (putT tm dst v) w':=by
 obtain ⟨M',q,l,hbx,t,g,evo⟩:=hpost;have c:∀ b,1≤cA args vals b→(∀ d id,B d id≠some b)∧b<w.heap.size:=by
  intro b hb;obtain ⟨i,p,x,hcv⟩:=aRD hb;have:=aRE (hrel i p x) hcv;exact ⟨this.1,this.2.1⟩
 have hFown:∀ b,1≤cF (lv++st.fr) tm b→b<w.heap.size∧w'.heap[b]?=w.heap[b]?∧(∀ i,M' b i=M b i):=by
  intro b hb;have j:=h1s.tot_own (b:=b) (by simp [tot];omega);refine ⟨j.1,evo.keep b j.1 ?_⟩;rintro (h1 | ⟨d,id,k⟩);· have e1:=ht b;have a:=h.one b;simp [tot] at e1 a;simp at h1;omega
  exact by grind
 have o:∀ b i,i<tm.size→cV (gets (lv++st.fr) i) (tm.getD i undef) b≤cF (lv++st.fr) tm b:=fun b i hi=>aCN (f:=fun i=>cV (gets (lv++st.fr) i) (tm.getD i undef) b) tm.size hi;have e:SR base M' B ⟨lv++st.fr,u⟩ tm w'∧∀ b,tot (lv++st.fr) tm w' B u b+cV r v b≤1∧(b<w.heap.size→tot (lv++st.fr) tm w' B u b+cV r v b≤tot st.fr tm w B st.bx b):=by
  have hsum:∀ b,tot (lv++st.fr) tm w' B u b+cV r v b≤1∧(b<w.heap.size→tot (lv++st.fr) tm w' B u b+cV r v b≤tot st.fr tm w B st.bx b):=by
   intro b;have e1:=ht b;have a:=h.one b;simp [tot] at e1 a ⊢;by_cases hb:b<w.heap.size;· have y:=evo.tle b hb;exact ⟨by omega,fun _=>by omega⟩
   grind
  refine ⟨⟨t,fun i=>(h1s.slot i).mono evo.mono (fun _ _ _ n=>n),?_,hbx,fun b=>by have:=(hsum b).1;show tot (lv++st.fr) tm w' B u b≤1;omega,h.glob.mono evo.mono,Nat.le_trans h.base evo.size⟩,hsum⟩;intro i;by_cases hi:i<tm.size;· refine aJS (h1s.slotH i) evo.mono fun b hcv _ => ?_;grind
  have:tm.getD i undef=undef:=by simp [hi]
  rw [this];exact (nF _).h M' w' base B
 obtain ⟨e,hsum⟩:=e;obtain ⟨s,z⟩:=e.put dst q l (fun b=>(hsum b).1);have happ:({ws:=dstW tm.size dst r++lv,up:=some u}:Eff).app st=⟨dstW tm.size dst r++(lv++st.fr),u⟩:=by simp [Eff.app]
 unfold Aft;rw [happ];refine ⟨fB _ _ _,M',B,s,evo.os,evo.tape,evo.output,evo.size,evo.mono,?_,?_,fun d i b m _=>⟨d,i,m⟩,fun _ _=>rfl⟩
 ·intro b hb hnt;refine evo.keep b hb ?_;rintro (h1 | k);· apply hnt;left;have e1:=ht b;simp [tot] at e1 ⊢;simp at h1;omega
  exact hnt (.inr k)
 grind
end
theorem bAg {c} (h:c.solid1=true) (a:c.plain1=c):okVc c=true:=by
 cases c with
 | slice es b o=>obtain ⟨rfl,rfl⟩:=a;rfl
 | mk0 sz=>simp [PV.plain1] at a
 | _=>first | rfl | simp [PV.solid1] at h
theorem okEl.ve {s e} (h:okEl s e):okVe s e=true:=by
 rw [oJ];refine ⟨h.2.2.1,fun c a => ?_⟩;obtain ⟨j,b⟩:=List.mem_iff_getElem?.1 a;refine bAg (h.cell b) ?_;have d:=h.2.1;cases e with
 | agg cs =>
  simp [PV.plain,PV.plainA] at d;have f:cs[j]?=some c:=b;grind
 | tuple cs=>have:=h.1;simp [PV.solid,PV.solid1] at this
 | _=>simp [PV.cells] at a;subst a;exact d
theorem okVe.el {s e} (h:okVe s e=true) (d:0<s):okEl s e:=by
 obtain ⟨f,a⟩:=oJ.1 h;refine ⟨?_,?_,f,d⟩
 ·cases e with
  | agg cs=>simp [PV.solid];exact fun c b=>qE (a c b)
  | _=>exact qE (a _ (List.mem_singleton.2 rfl))
 cases e with
 | agg cs =>
  simp [PV.plain,PV.plainA];conv=>rhs;rw [← List.map_id cs]
  exact List.map_congr_left fun c b=>aVb (a c b)
 | tuple cs=>have:=a (.tuple cs) (List.mem_singleton.2 rfl);simp [okVc] at this
 | _=>exact aVb (a _ (List.mem_singleton.2 rfl))
section
variable {P : Program} {base : Base} {M : Mem} {B : BM} {st : St} {tm : Array Value} {w : World}
theorem SR.noRow (h:SR base M B st tm w) {j r} (c:st.bx=j::r) {id} (l:look j id=none) {sz} (n:0<sz) :
  SR base M B {st with bx:=((id,[.vec sz []])::j)::r} tm w∧∀ b,tot st.fr tm w B (((id,[.vec sz []])::j)::r) b=tot st.fr tm w B st.bx b:=by
 have k  := h.box.dom 0 id (by rw [c,bF];omega);have g:∀ b,tot st.fr tm w B (((id,[.vec sz []])::j)::r) b=tot st.fr tm w B st.bx b:=by
  intro b;simp [tot,cBx,c,fW,dT,k,cBox]
 refine ⟨⟨h.cons,h.slot,h.slotH,⟨?_,?_,?_,h.box.inj⟩,fun b=>by rw [g];exact h.one b,h.glob,h.base⟩,g⟩
 ·intro d f m;cases d with
  | zero =>
   simp at m;subst m;simp only [List.map_cons,List.nodup_cons];exact ⟨wZ.1 l,h.box.nodup 0 j (by grind)⟩
  | succ d=>exact h.box.nodup (d+1) f (by grind)
 ·intro d i a;cases d with
  | zero =>
   simp [bF,iP] at a;split at a;· grind
   exact h.box.dom 0 i (by rw [c,bF];omega)
  | succ d=>exact h.box.dom (d+1) i (by rw [c];exact a)
 intro d i cs a;by_cases e:d=0∧i=id;· obtain ⟨rfl,rfl⟩:=e;simp [bF,iP] at a;subst a;exact ⟨⟨n,by simp⟩,.inr ⟨k,sz,rfl⟩⟩
 refine h.box.ok d i cs ?_;rw [c];cases d with
 | zero =>
  simp [bF,iP] at a ⊢;grind
 | succ d=>exact a
theorem aLT d id n sz v:dU (.rsl d id n sz) v:=dU.of1 (by simp) (by simp) (by cases v<;>rfl)
theorem qF (h : SR base M B st tm w) {o lv} (h1s : SR base M B { st with fr := lv ++ st.fr } tm w)
  (ht : ∀ b, tot (lv ++ st.fr) tm w B st.bx b ≤ tot st.fr tm w B st.bx b) {sz E e} (he : mC tm.size o sz E lv st some = some e) {w' v}
  (hold : ∀ b, b < w.heap.size → w'.heap[b]? = w.heap[b]?) (hsz : w.heap.size ≤ w'.heap.size) (hos : w'.os = w.os) (hta : w'.tape = w.tape) (hou : w'.output = w.output) (h0 : 0 < sz) (hE : ∀ x ∈ E, okVe sz x = true)
  (hrow : (∃ (blk cap : Nat) (xs : Array Value) (T : TypeId) (fz : Nat × Nat), v = .slice (some ⟨blk, 0, none⟩) E.length cap ∧ E.length ≤ cap ∧ w.heap.size ≤ blk ∧ w'.heap[blk]? = some (.cells xs T fz) ∧ E.length * sz ≤ xs.size ∧
    (∀ i, i < E.length * sz → ¬ (fz.1 ≤ i ∧ i < fz.2)) ∧ ∀ j c, (E.flatMap cells)[j]? = some c → Rv M B c (xs.getD j undef)) ∨ (E = [] ∧ ∃ oa, v = .slice oa 0 0)) :
  Aft base M B st tm w e (putT tm o.dst v) w' := by
 unfold mC at he;split at he
 ·rename_i id hid;obtain ⟨hdst, hlt, b0, r, hbx, hlook⟩ := lC hid;cases he;have hws : ∀ n, dstW tm.size o.dst (.rsl 0 id n sz) ++ (lv ++ st.fr) = (id, .rsl 0 id n sz) :: lv ++ st.fr := by simp [dstW, hdst, hlt]
  unfold Aft;rw [aU7 st _ b0 r (id, [.vec sz E]) hbx, ← hws];rcases hrow with ⟨blk, cap, xs, T, fz, rfl, hcap, hblk, hnew, hxs, hfz, hrel⟩ | ⟨rfl, oa, rfl⟩
  ·have hE'  := fun x hx => (fT (hE x hx)).1;have hok : ∀ (j : Nat) c, (E.flatMap cells)[j]? = some c → okVc c = true := by
    intro j c hc;obtain ⟨x, hx, hc'⟩ := List.mem_flatMap.1 (List.mem_of_getElem? hc);exact (oJ.1 (hE x hx)).2 c hc'
   have hz : ∀ b, bT (E.flatMap cells).length (fun j => c1 ((E.flatMap cells).getD j .bot) (xs.getD j undef) b) = 0 := by
    intro b;apply iG;intro j hj;have hj' : (E.flatMap cells)[j]? = some (E.flatMap cells)[j] := by simp
    simp [c1, hj', aRB (hok j _ hj')]
   obtain ⟨k1, k2⟩ := h1s.newRow (cs := [.vec sz E]) (xs := xs) (T := T) (fz := fz) (w' := w') (blk := blk) hbx hlook hblk hold hnew hsz (by show (E.flatMap cells).length ≤ _; rw [kF E hE']; exact hxs) (by show ∀ i, i < (E.flatMap cells).length → _; rw [kF E hE']; exact hfz) ⟨h0, hE⟩
    (fun j c hc => ⟨hrel j c hc, tQ (aRB (hok j c hc) _), aGt (qE (hok j c hc))⟩) (fun b => by
     show _ + bT (E.flatMap cells).length (fun j => c1 ((E.flatMap cells).getD j .bot) (xs.getD j undef) b) ≤ 1;rw [hz b]; exact Nat.le_trans (ht b) (h.one b))
   have hrp : Rv M (setB B id blk) (.rsl 0 id E.length sz) (.slice (some ⟨blk, 0, none⟩) E.length cap) := .rsl 0 id _ _ _ _ (by simp [setB]) hcap;obtain ⟨q1, q2⟩ := k1.putN o.dst hrp (aLT _ _ _ _ _);refine ⟨fB _ _ _, M, setB B id blk, q1, hos, hta, hou, hsz, fun _ _ _ hx => hx, fun b hb _ => ⟨hold b hb, fun _ => rfl⟩, ?_, ?_, fun d id' => by simp [setB]⟩;· intro b hb;have e1 := q2 b;have e2 := k2 b;have e3 : bT (phys [.vec sz E]).length (fun j => c1 ((phys [.vec sz E]).getD j .bot) (xs.getD j undef) b) = 0 := hz b;have e4 := ht b;simp only at e1 e2 ⊢;omega
   intro d i b hB hb;unfold setB at hB;split at hB;· simp at hB; omega
   exact ⟨d, i, hB⟩
  have hcons : Cons M w' := by
   intro b i v hm;obtain ⟨arr, T', fz', hx, hv⟩ := h.cons b i v hm;exact ⟨arr, T', fz', by rw [hold b (Array.getElem?_eq_some_iff.1 hx).1]; exact hx, hv⟩
  obtain ⟨j1, j2⟩ := h1s.world (M' := M) (w' := w') hcons (fun _ _ _ hx => hx) (fun d i b hB => ⟨hold b (h.box_lt hB).1, fun _ => rfl⟩) (fun b hb => ⟨hold b (h1s.tot_own hb).1, fun _ => rfl⟩) hsz;obtain ⟨k1, k2⟩ := j1.noRow (sz := sz) hbx hlook h0;obtain ⟨q1, q2⟩ := k1.putN o.dst (Rv.rslNil 0 id sz oa) (aLT _ _ _ _ _);refine ⟨fB _ _ _, M, B, q1, hos, hta, hou, hsz, fun _ _ _ hx => hx, fun b hb _ => ⟨hold b hb, fun _ => rfl⟩, ?_, fun d i b hB _ => ⟨d, i, hB⟩, fun _ _ => rfl⟩;grind
 simp at he
theorem aTf {z n} (h:okVe n (ofValue z)=true):∀ j c,(ofValue z).cells[j]?=some c→Rv M B c (z.cells.getD j undef):=by
 intro j c a;cases z with
 | agg cs =>
  simp [ofValue,PV.cells] at a;obtain ⟨v,hv,rfl⟩:=a;have:(Value.agg cs).cells.getD j undef=v:=by show cs.getD j undef=v;simp [hv]
  rw [this];exact .ofAtom v
 | tuple vs=>simp [ofValue,ofAtom,okVe,PV.cells,okVc] at h
 | _ =>
  have e:∀ v,(∀ cs,ofAtom v ≠ .agg cs):=by intro v cs;unfold ofAtom;split<;>simp
  simp [ofValue] at a ⊢;rw [aGj (e _)] at a;cases j with
  | zero=>simp at a;subst a;exact .ofAtom _
  | succ j=>simp at a
theorem aVf (h:SR base M B st tm w) {o t e i x y a b} (F:P.underlying t=some (.slice e)) (s:P.info? e=some i)
  (h0:0<i.size) (hby:i.bytes≤512) (g:wU i=true) (hx:Rv M B x a) (A:Rv M B y b) {E} (hE:bAc i x y=some E) {ef} (D:mC tm.size o i.size E [] st some=some ef) :
  ∃ d w',(Instr.makeSlice t a b).run P w = .ok d w'∧Aft base M B st tm w ef (putT tm o.dst d) w':=by
 obtain ⟨z,hzz,u⟩:=vA g;unfold bAc at hE;rw [hzz] at hE;simp at hE;obtain ⟨n,l,hE⟩:=aB hE;obtain ⟨m,K,hE⟩:=aB hE;split at hE
 ·rename_i G;obtain ⟨hlim,rfl,hok⟩:=G;cases hE;have num:∀ {p} {v} {k},aBp p=some k→Rv M B p v→∃ q,v = .int q k:=by
   intro p v k hk C;unfold aBp at hk;split at hk
   ·rename_i q j;split at hk;· grind
    have:j=k:=by grind
    rw [C.int_inv,this];simp
   grind
  obtain ⟨I,rfl⟩:=num l hx;obtain ⟨f,rfl⟩:=num K A;have hlim':n≤274877906944:=hlim;have hmul:(i.bytes:Int)*n≤281474976710656:=by
   have L  := Nat.mul_le_mul hby hlim';omega
  have hrun:=run_make (P:=P) w t e i z F s hzz I f n n (by omega) (by omega) hmul (by omega);have r:(madeCells z.cells (n*i.size)).size=n*i.size:=size_madeCells _ _;rw [Int.toNat_natCast] at hrun;refine ⟨_,_,hrun,?_⟩;have hel:∀ x∈List.replicate n (ofValue z),okVe i.size x=true:=fun x hx=>by grind
  have hel'  := fun x hx=>(fT (hel x hx)).1;refine qF (lv:=[]) h (by simp_all) (fun b=>Nat.le_refl _) D (fun b N=>by show (w.heap.push _)[b]?=_;grind) (by simp) rfl rfl rfl h0 hel (.inl ⟨w.heap.size,n,madeCells z.cells (n*i.size),e,(0,0),?_,?_,by omega,?_,?_,?_,?_⟩);· simp
  ·simp
  ·show (w.heap.push _)[w.heap.size]?=_;simp
  ·grind
  ·simp
  intro j c hj;have hlt:=(List.getElem?_eq_some_iff.1 hj).1;rw [kF _ hel',List.length_replicate] at hlt;have hk:j=j / i.size*i.size+j % i.size:=by rw [Nat.mul_comm];exact (Nat.div_add_mod j i.size).symm
  have H  := (Nat.div_lt_iff_lt_mul h0).2 hlt;rw [hk,kE _ hel' _ _ (Nat.mod_lt _ h0),List.getElem?_replicate,if_pos H] at hj;have J:=aTf (M:=M) (B:=B) hok (j % i.size) c hj;have:(madeCells z.cells (n*i.size)).getD j undef=z.cells.getD (j % i.size) undef:=by
   unfold madeCells;simp;grind
  grind
 grind
theorem aXq (h:SR base M B st tm w) {o lv} (h1s:SR base M B {st with fr:=lv++st.fr} tm w) {p q v y} (O:Rv M B p v)
  (I:∀ b,tot (lv++st.fr) tm w B st.bx b≤tot st.fr tm w B st.bx b) (N:Rv M B q y)
  {t u ty e U i} (hut:P.underlying t=some (.slice e)) (L:P.underlying u=some (.slice U)) (J:P.info? e=some i)
  (hs:0<i.size) (d:i.bytes≤512) (S:wU i=true) {E} (ha:apdV i.size p q=some E) {H} (K:mC tm.size o i.size E lv st some=some H) :
  ∃ F w',(Builtin.append_ #[t,u] ty #[v,y]).run P w = .ok F w'∧Aft base M B st tm w H (putT tm o.dst F) w':=by
 obtain ⟨z,hzz,T⟩:=vA S;unfold apdV at ha;split at ha
 ·rename_i X W bs' R;split at ha
  ·rename_i hc;cases ha;obtain ⟨hlim,hszk⟩:=hc;obtain ⟨g2,q1,q2,q3⟩:∃ g2,ElRel M B i.size E g2∧(Builtin.lenOf y).run P w = .ok E.length w∧∀ w',w'.heap=w.heap→(Builtin.firstCells i.size E.length y).run P w' = .ok ((List.range (E.length*i.size)).map g2).toArray w':=by
    cases N with
    | nil o=>exact ⟨fun _=>undef,⟨by simp,by simp⟩,rfl,fun w' _=>by simp [Builtin.firstCells]⟩
    | slice _ _ _ m cap s f r hc D hel G hrr =>
     obtain ⟨g2,q1,q2,q3⟩:=aBw (P:=P) (Rv.slice E bs' R m cap s f r hc D hel G hrr) h.cons hszk;exact ⟨g2,q1,rfl,q3⟩
   have C:∀ x∈E,okVe i.size x=true:=fun x hx=>by
    obtain ⟨k,n⟩:=List.mem_iff_getElem?.1 hx;exact (q1.el k x n).ve
   obtain ⟨oa,rfl⟩:∃ oa,v = .slice oa 0 0:=by
    cases O with
    | nil o=>simp
    | slice _ _ _ m cap s f ha hc D hel G hrr=>simp_all
   by_cases l:E=[];· subst l;have hf0:=q3 w rfl;simp at hf0;exact ⟨_,w,xG (P:=P) (ty:=ty) hut L (by simp) J oa 0 0 (by omega) y q2 hf0,qF h h1s I K (fun _ _=>rfl) (by omega) rfl rfl rfl hs C (by simp)⟩
   have Q:0<E.length:=by grind
   have hfz:(Builtin.firstCells i.size 0 (.slice oa 0 0)).run P w.drew = .ok (([]:List Value).toArray) w.drew:=by
    cases oa with
    | none=>simp [Builtin.firstCells]
    | some m=>simp [Builtin.firstCells,loadCells,loadCellsFrom]
   simp [lim] at hlim;have g  := by
    have:(0+E.length)*i.bytes≤274877906944*512:=Nat.mul_le_mul (by omega) d;omega
   obtain ⟨cap',hcap',hrun⟩:=aBc (P:=P) (w:=w) (ty:=ty) hut L (by simp) J hzz oa 0 0 E.length (by omega) y [] _ q2 (q3 w.drew rfl) hfz g (by omega);rw [Nat.zero_add] at hcap' hrun;refine ⟨_,_,hrun,?_⟩;have hRR:=ElRel.row (A:=[]) (E:=E) (g1:=fun _=>undef) (g2:=g2) (s:=i.size) (rest:=Builtin.zeroCells z.cells (cap'-E.length)) (M:=M) (B:=B) ⟨by simp,by simp⟩ q1 hs;simp at hRR;refine qF h h1s I K (fun b V=>by show (w.heap.push _)[b]?=_;grind) (by simp) rfl rfl rfl hs C
    (.inl ⟨w.heap.size,cap',_,e,(0,0),rfl,hcap',by omega,by show (w.heap.push _)[w.heap.size]?=_;simp,hRR.size,by simp,?_⟩)
   intro j c hc;have hE'  := fun x hx=>(fT (C x hx)).1;have n:j=j / i.size*i.size+j % i.size:=by rw [Nat.mul_comm];exact (Nat.div_add_mod j i.size).symm
   rw [n,kE E hE' _ _ (Nat.mod_lt _ hs)] at hc;cases hx:E[j / i.size]? with
   | none=>grind
   | some x =>
    rw [hx] at hc;have:=hRR.rel (j / i.size) x (j % i.size) c hx hc;grind
  grind
 grind
theorem aRF {M M' B B' c v} (h:aHZ c=true) (a:Rv M B c v):Rv M' B' c v:=by
 cases a with
 | bool b=>exact .bool b
 | int k n=>exact .int k n
 | str s=>exact .str s
 | _=>simp [aHZ] at h
theorem aXr (h:SR base M B st tm w) {o lv} (h1s:SR base M B {st with fr:=lv++st.fr} tm w) {args vals r v w'}
  (D:∀ i p,args[i]?=some p→hV M w base B p (vals.getD i undef))
  (R:∀ b,tot (lv++st.fr) tm w B st.bx b+cA args vals b≤tot st.fr tm w B st.bx b) (A:∀ b,cA args vals b=0) (hpost:gP base M noB args [] vals w r [] v w')
  {sz E} (hE:bAa sz r=some E) {e} (q:mC tm.size o sz E lv st some=some e) :
  Aft base M B st tm w e (putT tm o.dst v) w':=by
 obtain ⟨M',I,N,O,n,z,evo⟩:=hpost;have hcb:∀ w b,cBx w noB [] b=0:=fun w b=>rfl;have hkeep:∀ b,b<w.heap.size→w'.heap[b]?=w.heap[b]?:=by
  intro b K;refine (evo.keep b K ?_).1;rintro (h1 | ⟨d,id,h2⟩);· have k:1≤cA args vals b+cBx w noB [] b:=h1;rw [hcb,A] at k;omega
  simp [noB] at h2
 have ht':∀ b,tot (lv++st.fr) tm w B st.bx b≤tot st.fr tm w B st.bx b:=fun b=>by have:=R b;omega
 unfold bAa at hE;split at hE
 ·rename_i E0 Y;split at hE
  ·rename_i hcond;cases hE;obtain ⟨hs,hall⟩:=hcond;have hfl:∀ x∈E,x.cells.length=sz∧∀ c∈x.cells,aHZ c=true:=by
    intro x hx;have:=List.all_eq_true.1 hall x hx;simpa using this
   have hok:∀ x∈E,okVe sz x=true:=by
    intro x hx;rw [oJ];obtain ⟨h1,h2⟩:=hfl x hx;refine ⟨h1,fun c n => ?_⟩;have:=h2 c n;unfold aHZ at this;split at this<;>first | rfl | simp at this
   cases I with
   | nil o=>exact qF h h1s ht' q hkeep evo.size evo.os evo.tape evo.output hs hok (by simp)
   | slice _ _ _ a cap s f V hcp m hel F hrr =>
    by_cases hne:E=[];· subst hne;have:=(m rfl).1 rfl;subst this;exact qF h h1s ht' q hkeep evo.size evo.os evo.tape evo.output hs hok (by simp)
    have t:=(m rfl).2.1;subst t;have hof:=(m rfl).2.2 hne;simp at hcp hel F hrr;obtain ⟨x0,E0,rfl⟩:∃ x0 E0,E=x0::E0:=by cases E with
     | nil=>exact by grind
     | cons x0 E0=>exact ⟨x0,E0,rfl⟩
    have u:s=sz:=by rw [← (hel 0 x0 rfl).2.2.1];exact (hfl x0 (by simp)).1
    subst u;have L:a.spot=none:=by grind
    have G:HOk M' w' base noB a.block (a.off+(x0::E0).length*x0.cells.length) (a.off+cap*x0.cells.length):=(aCP (by simp) (by simp)).1 N;rw [(hfl x0 (by simp)).1,hof] at G;obtain ⟨arr,T,fz,hrow,y,H⟩:=G.row;have hblk:w.heap.size≤a.block:=by
     rcases Nat.lt_or_ge a.block w.heap.size with hlt | l
     ·have h1:=evo.tle a.block hlt;have h2:cV (.slice (x0::E0) [] true) (.slice (some a) (x0::E0).length cap) a.block=1:=by rw [xB (by simp) (by simp)];simp [c1,own1]
      simp only [hcb,A] at h1;omega
     exact l
    have S:∀ i x j,(x0::E0)[i]?=some x→j<s→arr[i*s+j]?=some (f i j):=by
     intro i x j hx P;have:=F i x j hx P;rw [hof,Nat.zero_add] at this;obtain ⟨C,W,J,q1,q2⟩:=n _ _ _ this;rw [hrow] at q1;cases q1;exact q2
    have U  := Nat.mul_le_mul_right s hcp;have Q:a=⟨a.block,0,none⟩:=by cases a;simp_all
    refine qF h h1s ht' q hkeep evo.size evo.os evo.tape evo.output hs hok
     (.inl ⟨a.block,cap,arr,T,fz,by rw [← Q],hcp,hblk,hrow,by omega,fun i X=>by grind,?_⟩)
    intro j c hc';have g  := fun x hx=>(hfl x hx).1;have hk':j=j / s*s+j % s:=by rw [Nat.mul_comm];exact (Nat.div_add_mod j s).symm
    have hmod:j % s<s:=Nat.mod_lt _ hs;rw [hk',kE _ g _ _ hmod] at hc';cases hx:(x0::E0)[j / s]? with
    | none=>rw [hx] at hc';simp at hc'
    | some x =>
     rw [hx] at hc';have q1:=hrr (j / s) x (j % s) c hx hc';have q2:=S (j / s) x (j % s) hx hmod;rw [← hk'] at q2;rw [Array.getD_eq_getD_getElem?,q2,Option.getD_some];exact aRF (by grind) q1
  simp at hE
 simp at hE
theorem aXs {M M' B B' r v} (h:scal r=true) (d:Rv M B r v):Rv M' B' r v∧dU r v:=by
 have b:∀ {c} {v},aHZ c=true→Rv M B c v→Rv M' B' c v∧dU c v:=by
  intro c v a hv;refine ⟨aRF a hv,aT ?_⟩;cases c<;>first | rfl | simp [aHZ] at a
 cases r with
 | tuple vs =>
  simp [scal] at h;cases d with
  | tuple _ xs f j e g =>
   refine ⟨.tuple _ xs f j e fun i c a=>by grind,aT ?_⟩;simp [PV.plain];conv=>rhs;rw [← List.map_id vs]
   refine List.map_congr_left fun c a => ?_;have:=h c a;cases c<;>first | rfl | simp [aHZ] at this
 | _=>exact b h d
noncomputable def lend (M:Mem) (w:World) (B:BM) (bx:List fM):Mem:=fun b i =>
 open Classical in
 match M b i with
 | some v=>some v
 | none=>if ∃ id sz E,bB bx 0 id=some [.vec sz E]∧B 0 id=some b then w.cell? ⟨b,i,none⟩ else none
theorem xH {M w B bx} b i v (h:M b i=some v):lend M w B bx b i=some v:=by
 unfold lend;rw [h]
theorem aVg (h:SR base M B st tm w):Cons (lend M w B st.bx) w:=by
 intro b i v hv;unfold lend at hv;split at hv;· rename_i x a;cases hv;exact h.cons b i _ a
 split at hv;· simp [World.cell?] at hv;grind
 grind
theorem aXt (h : SR base M B st tm w) {id sz n E} (u : bB st.bx 0 id = some [.vec sz E]) (N : n ≤ E.length) {v} (I : Rv M B (.rsl 0 id n sz) v) :
  Rv (lend M w B st.bx) noB (.slice (E.take n) [] false) v := by
 obtain ⟨K, C⟩ : okV [.vec sz E] := (h.box.ok 0 id _ u).1;have p : (E.take n).length = n := by simp; omega
 cases I with
 | rslNil _ _ _ L =>
  simp;cases L with
  | none => exact .nil false
  | some a => exact .slice [] [] false a 0 1 (fun _ _ => undef) (fun h => by omega) (by simp) (by simp) (by simp) (by simp) (by simp)
 | rsl _ _ _ _ blk cap x Q =>
  obtain ⟨arr, T, fz, z, D, G, A, g⟩ := mE h u x;have f  := fun e d => (fT (C e d)).1;have J  := kF E f;have O : ∀ k, k < E.length * sz → lend M w B st.bx blk k = some (bN w blk k) := by
   intro k P;unfold lend;rw [A.free k];simp only;rw [if_pos ⟨id, sz, E, u, x⟩];exact g k (by show k < (E.flatMap cells).length; omega)
  have r : ∀ (i : Nat) e, (E.take n ++ [])[i]? = some e → E[i]? = some e := by
   intro i e d;rw [List.append_nil, List.getElem?_take] at d;split at d;· exact d
   simp at d
  have y : ∀ i j, i < E.length → j < sz → i * sz + j < E.length * sz := by
   intro i j F q;have : (i + 1) * sz ≤ E.length * sz := Nat.mul_le_mul_right sz F;rw [Nat.add_mul] at this; omega
  have key := Rv.slice (M := lend M w B st.bx) (B := noB) (E.take n) [] false ⟨blk, 0, none⟩ cap sz (fun i j => bN w blk (i * sz + j)) (fun _ => rfl) (by simp; omega) (by simp)
   (fun i e d => okVe.el (by grind) K)
   (fun i e j d q => by
    exact by grind)
   (fun i e j c d m => by
    have l := r i e d;have t := f e (List.mem_of_getElem? l);have q : j < sz := by rw [← t]; exact (List.getElem?_eq_some_iff.1 m).1
    have s  := by
     show (E.flatMap cells)[i * sz + j]? = some c;rw [kE E f i j q, l]; exact m
    have o := (fT (C e (List.mem_of_getElem? l))).2 c (by grind);exact ((A.rel _ c s).1.anyB1 noB o).mono (fun b i v hv => xH b i v hv) (fun _ _ _ H => H))
  rw [p] at key;exact key
theorem bAh (h : SR base M B st tm w) {dst lv} (h1s : SR base M B { st with fr := lv ++ st.fr } tm w) {args args' vals r v w' c cr}
  (hrel : ∀ i p, args[i]? = some p → hV M w base B p (vals.getD i undef))
  (e : ∀ b, cA args' vals b ≤ cA args vals b)
  (z : ∀ b, tot (lv ++ st.fr) tm w B st.bx b + cA args vals b ≤ tot st.fr tm w B st.bx b) (l : ∀ b i v, M b i = some v → c b i = some v) (hpost : gP base c noB args' [] vals w r [] v w') (m : scal r = true) :
  Aft base M B st tm w { cr := cr, ws := dstW tm.size dst r ++ lv } (putT tm dst v) w' := by
 obtain ⟨M', j, x, g, o, a, evo⟩ := hpost;have f : ∀ w b, cBx w noB [] b = 0 := fun w b => rfl;have hAown : ∀ b, 1 ≤ cA args vals b → (∀ d id, B d id ≠ some b) ∧ b < w.heap.size := by
  intro b hb;obtain ⟨i, p, t, hcv⟩ := aRD hb;have := aRE (hrel i p t) hcv;grind
 have hkeep : ∀ b, b < w.heap.size → cA args vals b = 0 → w'.heap[b]? = w.heap[b]? := by
  intro b hb y;refine (evo.keep b hb ?_).1;rintro (C | ⟨d, id, s⟩);· grind
  simp [noB] at s
 have hcons : Cons M w' := fun b i v hv => o b i v (evo.mono b i v (by grind));obtain ⟨q, u⟩ := h1s.world (M' := M) (w' := w') hcons (fun _ _ _ hx => hx)
  (fun d id b hB => ⟨hkeep b (h.box_lt hB).1 (by
   grind), fun _ => rfl⟩)
  (fun b hb => ⟨hkeep b (h1s.tot_own hb).1 (by have := h.one b; grind), fun _ => rfl⟩) evo.size
 obtain ⟨hrB, hno⟩ := aXs (M' := M) (B' := B) m j;obtain ⟨k, D⟩ := q.putN dst hrB hno;have happ : ({ cr := cr, ws := dstW tm.size dst r ++ lv } : Eff).app st = { st with fr := dstW tm.size dst r ++ (lv ++ st.fr) } := by
  rw [← List.append_assoc]; exact aGp st _
 unfold Aft;rw [happ];refine ⟨fB _ _ _, M, B, k, evo.os, evo.tape, evo.output, evo.size, fun _ _ _ hx => hx, ?_, ?_, fun d i b hB _ => ⟨d, i, hB⟩, fun _ _ => rfl⟩
 ·intro b hb hnt;refine ⟨hkeep b hb ?_, fun _ => rfl⟩;cases hx : cA args vals b with
  | zero => rfl
  | succ n => exfalso; apply hnt; left; grind
 grind
theorem aIX {bx p} (h:aH0 bx p=true):(∃ id n sz E,p = .rsl 0 id n sz∧bB bx 0 id=some [.vec sz E]∧n≤E.length∧brwV bx p = .slice (E.take n) [] false)∨brwV bx p=p:=by
 unfold aH0 at h;split at h
 ·rename_i id n sz;split at h;· rename_i b E a;simp only [Bool.and_eq_true] at h;have c:=Nat.eq_of_beq_eq_true h.1;subst c;left;refine ⟨id,n,sz,E,rfl,a,Nat.le_of_ble_eq_true h.2,?_⟩;simp [brwV,a]
  grind
 unfold brwV;simp
theorem bAi (h:SR base M B st tm w) {args vals} (F:vals.size=args.length) (j:∀ i p,args[i]?=some p→Rv M B p (vals.getD i undef)∧hV M w base B p (vals.getD i undef))
  (u:∀ b,cA args vals b≤1) (f:∀ p∈args,aH0 st.bx p=true) (a:∀ p∈args.map (brwV st.bx),free p=true) :
  CallPre base (lend M w B st.bx) noB (args.map (brwV st.bx)) [] vals w∧∀ b,cA (args.map (brwV st.bx)) vals b≤cA args vals b:=by
 have k:∀ b,cA (args.map (brwV st.bx)) vals b≤cA args vals b:=by
  intro b;unfold cA;rw [List.length_map];apply aCL;intro i G;have C:(args.map (brwV st.bx)).getD i .bot=brwV st.bx args[i]:=by
   grind
  have I:args.getD i .bot=args[i]:=by grind
  rw [C,I];rcases aIX (f _ (List.getElem_mem G)) with ⟨id,n,sz,E,_,_,_,e⟩ | e;· rw [e,(kL _ _ _).c b];omega
  grind
 refine ⟨⟨aVg h,by grind,?_,⟨by simp,fun _ _ _=>rfl,by simp [qQ],by simp [noB]⟩,?_,h.glob.mono xH,h.base⟩,k⟩
 ·intro i p r;have l:=r;rw [List.getElem?_map,Option.map_eq_some_iff] at r;obtain ⟨q,s,rfl⟩:=r;obtain ⟨t,A⟩:=j i q s;rcases aIX (f q (List.mem_of_getElem? s)) with ⟨id,n,sz,E,rfl,o,D,e⟩ | e;· rw [e,aGu];exact ⟨aXt h o D t,(kL _ _ _).h _ _ _ _⟩
  have y:=a _ (List.mem_of_getElem? l);rw [e] at y ⊢;refine ⟨(t.anyBfree _ y).mono (fun b i v hv=>xH b i v hv) (fun _ _ _ m=>m),?_⟩;intro x m;have g:=A x m;refine (g.world (M':=lend M w B st.bx) (w':=w) (B':=noB) (fun b i v hv=>xH b i v hv) fun b H _=>⟨rfl,fun i => ?_,fun d id o=>by simp [noB] at o⟩);unfold lend;split;· grind
  rename_i hv;rw [if_neg,hv];rintro ⟨id,sz,E,_,z⟩;exact (g.nobox H).1 0 id z
 intro b;have e:cBx w noB [] b=0:=rfl;grind
end
end Go.Ev

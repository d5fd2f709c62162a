import Derived.Test.YtphmfillajagdaaGreatEa
import Derived.Laws.MakeOwn
set_option linter.unusedVariables false
set_option linter.unusedSimpArgs false
set_option linter.unusedSimpArgs false
namespace Go.Ev
open PV
section
variable {P : Program} {base : Base} {M : Mem} {B : BM} {st : St} {tm : Array Value} {w : World}
theorem aTV {x:PV} {n:Nat} (h:yK x=some n):∃ (k:IntKind) (m:Int),x = .int k m∧0≤m∧n=m.toNat:=by
 unfold yK at h
 split at h
 ·rename_i k m
  split at h
  ·simp at h
  ·rename_i hm;cases h;exact ⟨k,m,rfl,by omega,rfl⟩
 ·simp at h
theorem aPD {s n:Nat} {l:List PV} (hel:∀ (i:Nat) (e:PV),l[i]?=some e→okEl s e) (h:szOk n l=true) (hne:l≠[]):s=n:=by
 cases l with
 | nil=>exact absurd rfl hne
 | cons e l =>
  have:=(hel 0 e rfl).2.2.1
  simp [szOk] at h
  omega
theorem Rv.sub {es bs:List PV} {o:Bool} {a:Value} {n l h:Nat} (hx:Rv M B (.slice es bs o) a) (hl:l≤h) (hh:h≤es.length+bs.length) (hsz:szOk n (es++bs)=true) :
  ∃ ad len cap,a = .slice ad len cap∧len=es.length∧es.length+bs.length≤cap ∧
   Rv M B (.slice (((es++bs).take h).drop l) ((es++bs).drop h) false) (sliced ad l h cap n):=by
 cases hx with
 | nil o =>
  simp only [List.length_nil] at hh
  obtain rfl:l=0:=by omega
  obtain rfl:h=0:=by omega
  refine ⟨none,0,0,rfl,rfl,by simp,?_⟩
  simp [sliced]
  exact .nil false
 | slice es bs o ad cap s f ha hc ho hel hm hr =>
  refine ⟨some ad,es.length,cap,rfl,rfl,hc,?_⟩
  have hlen1:(((es++bs).take h).drop l).length=h-l:=by simp;omega
  have hlen2:((es++bs).drop h).length=es.length+bs.length-h:=by simp
  have hget:∀ (i:Nat) (e:PV),(((es++bs).take h).drop l++(es++bs).drop h)[i]?=some e→(es++bs)[l+i]?=some e:=by
   intro i e he
   by_cases hi:i<h-l
   ·rw [List.getElem?_append_left (by omega),List.getElem?_drop,List.getElem?_take,if_pos (by omega)] at he
    exact he
   ·rw [List.getElem?_append_right (by omega),hlen1,List.getElem?_drop] at he
    rw [show l+i=h+(i-(h-l)) by omega];exact he
  by_cases hcl:cap=l
  ·have h1:h=l:=by omega
   subst h1
   have e1:((es++bs).take h).drop h=[]:=by simp [List.drop_eq_nil_iff]
   have e2:(es++bs).drop h=[]:=by simp;omega
   rw [e1,e2]
   subst hcl
   simp only [sliced,if_true,Nat.sub_self]
   exact .slice [] [] false ad 0 1 (fun _ _=>undef) (fun h0=>absurd h0 (by omega)) (by simp) (by simp) (by simp) (by simp) (by simp)
  ·have hsl:sliced (some ad) l h cap n = .slice (some ⟨ad.block,ad.off+l*n,none⟩) (((es++bs).take h).drop l).length (cap-l):=by
    simp only [sliced,if_neg hcl,Option.map_some,Addr.add_none ad _ (ha (by omega)),hlen1]
   rw [hsl]
   refine .slice _ _ false ⟨ad.block,ad.off+l*n,none⟩ (cap-l) s (fun i j=>f (l+i) j) (fun _=>rfl) (by rw [hlen1,hlen2];omega) (by simp) ?_ ?_ ?_
   ·intro i e he;exact hel _ _ (hget i e he)
   ·intro i e j he hj
    have hg:=hget i e he
    have hne:es++bs≠[]:=by intro e0;rw [e0] at hg;simp at hg
    have hs:s=n:=aPD hel hsz hne
    subst hs
    have:=hm (l+i) e j hg hj
    rw [show ad.off+l*s+i*s+j=ad.off+(l+i)*s+j by rw [Nat.add_mul];omega]
    exact this
   ·intro i e j c he hc';exact hr _ _ _ _ (hget i e he) hc'
theorem aVI {x r:PV} {a:Value} {t e n l h:Nat} (hu:P.underlying t=some (.slice e)) (hsz:szOf P e=some (n+1)) (hs:aEw (n+1) x l h=some r) (hx:Rv M B x a)
  {lo hi:Option Value} (hb:∀ len cap,lenN (n+1) x=some len→h≤cap→l≤h→len≤cap→(Instr.sliceBounds true len cap lo hi none).run P w = .ok (l,h,cap) w) :
  ∃ v,(Instr.sliceAt t a lo hi none).run P w = .ok v w∧Rv M B r v∧dV r v:=by
 unfold aEw at hs
 split at hs
 ·simp at *
 ·rename_i es bs o n' hn'
  cases hn'
  split at hs
  ·rename_i hc
   cases hs
   obtain ⟨ad,len,cap,rfl,rfl,hcap,hrel⟩:=hx.sub hc.1 hc.2.1 hc.2.2
   refine ⟨_,?_,hrel,kK _ _ _⟩
   have:=hb es.length cap rfl (by omega) hc.1 (by omega)
   simp [Instr.sliceAt,Instr.slice,run_underlying hu,this,dE w hsz,sliced]
  ·simp at hs
 ·rename_i sz n' hn'
  cases hn'
  split at hs
  ·rename_i hc
   obtain ⟨rfl,rfl⟩:=hc
   cases hs
   cases hx with
   | mk0 sz ad cap ha =>
    refine ⟨sliced (some ad) 0 0 cap (n+1),?_,?_,kK _ _ _⟩
    ·have:=hb 0 cap rfl (by omega) (by omega) (by omega)
     simp [Instr.sliceAt,Instr.slice,run_underlying hu,this,dE w hsz,sliced]
    ·by_cases hc:cap=0
     ·subst hc
      simp only [sliced,if_true,Nat.sub_self]
      exact .slice [] [] false ad 0 1 (fun _ _=>undef) (fun _=>ha.1) (by simp) (by simp) (by simp) (by simp) (by simp)
     ·simp only [sliced,if_neg hc,Option.map_some,Addr.add_none ad _ ha.1]
      exact .slice [] [] false ⟨ad.block,ad.off+0*(n+1),none⟩ (cap-0) 1 (fun _ _=>undef) (fun _=>rfl) (by simp) (by simp) (by simp) (by simp) (by simp)
  ·simp at hs
 ·simp at hs
theorem aTW {x r:PV} {a:Value} {t l h:Nat} (hu:P.underlying t=some .string) (hs:aEw 0 x l h=some r) (hx:Rv M B x a)
  {lo hi:Option Value} (hb:∀ len,lenN 0 x=some len→h≤len→l≤h→(Instr.sliceBounds false len len lo hi none).run P w = .ok (l,h,len) w) :
  ∃ v,(Instr.sliceAt t a lo hi none).run P w = .ok v w∧(∀ M B,Rv M B r v)∧Flat r:=by
 unfold aEw at hs
 split at hs
 ·rename_i s _
  split at hs
  ·rename_i hc
   cases hs
   rw [hx.str_inv]
   refine ⟨.string ((ByteArray.mk s.toArray).extract l h),?_,?_,.inr (.inr ⟨_,rfl⟩)⟩
   ·have hsz:(ByteArray.mk s.toArray).size=s.length:=by simp [ByteArray.size]
    have:=hb s.length rfl hc.2 hc.1
    rw [← hsz] at this
    simp only [Instr.sliceAt,Instr.slice,Sem.run_bind,run_underlying hu,Result.andThen_ok]
    simp only [Option.isSome_none,Bool.false_eq_true,if_false,Sem.run_pure,Sem.run_bind,this,Result.andThen_ok]
   ·intro M B
    have:(ByteArray.mk s.toArray).extract l h=⟨((s.take h).drop l).toArray⟩:=by
     apply ByteArray.ext
     simp [ByteArray.data_extract,List.drop_take]
    rw [this];exact .str _
  ·simp at hs
 ·simp at *
 ·simp at *
 ·simp at hs
theorem aMC (b:Bool) (len cap:Nat):(Instr.sliceBounds b len cap none none none).run P w = .ok (0,len,cap) w:=by simp [Instr.sliceBounds]
theorem aMD (b:Bool) (len cap:Nat) (k:IntKind) (l:Int) (h0:0≤l) (h1:l.toNat≤len):(Instr.sliceBounds b len cap (some (.int k l)) none none).run P w = .ok (l.toNat,len,cap) w:=by
 have:=run_sliceBound (P:=P) w k l len .sliceB h0 (by omega)
 simp [Instr.sliceBounds,this]
theorem aME (b:Bool) (len cap:Nat) (k:IntKind) (h:Int) (h0:0≤h) (h1:h.toNat≤cap):(Instr.sliceBounds b len cap none (some (.int k h)) none).run P w = .ok (0,h.toNat,cap) w:=by
 have:=run_sliceBound (P:=P) w k h cap (if b then .sliceAcap else .sliceAlen) h0 (by omega)
 simp [Instr.sliceBounds,this]
theorem aMF (b:Bool) (len cap:Nat) (k k':IntKind) (l h:Int) (h0:0≤l) (h1:l.toNat≤h.toNat) (h2:0≤h) (h3:h.toNat≤cap) :
  (Instr.sliceBounds b len cap (some (.int k l)) (some (.int k' h)) none).run P w = .ok (l.toNat,h.toNat,cap) w:=by
 have e1:=run_sliceBound (P:=P) w k' h cap (if b then .sliceAcap else .sliceAlen) h2 (by omega)
 have e2:=run_sliceBound (P:=P) w k l h.toNat .sliceB h0 (by omega)
 simp [Instr.sliceBounds,e1,e2]
theorem aVJ {x r:PV} {a:Value} {s d:TypeId} {k:IntKind} {q:TypeDesc} (hs:P.underlying s=some q) (hd:P.underlying d=some (.int k)) (h:aXQ k x=some r) (hx:Rv M B x a) :
  ∃ v,(convert s d a).run P w = .ok v w∧(∀ M B,Rv M B r v)∧Flat r:=by
 unfold aXQ at h
 split at h
 ·cases h
  rw [hx.int_inv]
  exact ⟨.int k _,by simp [convert,run_underlying hs,run_underlying hd,Conv.intToInt],fun _ _ => .int _ _,.inr (.inl ⟨_,_,rfl⟩)⟩
 ·simp at h
theorem aFA:∀ (es:List PV) (s:List UInt8),aDm es=some s→s.length=es.length∧∀ (i:Nat) (b:UInt8),s[i]?=some b→∃ n:Int,es[i]?=some (.int .u8 n)∧b=UInt8.ofNat n.toNat
 | [],s,h=>by simp [aDm] at h;subst h;simp
 | e::es,s,h=>by
  simp only [aDm] at h
  split at h
  ·rename_i b r hb hr
   cases h
   obtain ⟨h1,h2⟩:=aFA es r hr
   refine ⟨by simp [h1],?_⟩
   intro i c hc
   cases i with
   | zero =>
    simp at hc;subst hc
    unfold aZ0 at hb
    split at hb
    ·rename_i n;cases hb;exact ⟨n,rfl,rfl⟩
    ·simp at hb
   | succ i=>simp at hc;simpa using h2 i c hc
  ·simp at h
theorem rZ (a:Addr) (len cap:Nat) (ns:List Int) (h:(loadCells a len).run P w = .ok (ns.map (Value.int .u8)).toArray w) :
  (Conv.bytesToString (.slice (some a) len cap)).run P w = .ok (.string ⟨(ns.map fun n=>UInt8.ofNat n.toNat).toArray⟩) w:=by
 rw [run_bytesToString w a len cap ns h]
 congr 2
 have gen:∀ (ns:List Int) (r:ByteArray),ns.foldl (fun r n=>r.push (UInt8.ofNat n.toNat)) r=⟨r.data++(ns.map fun n=>UInt8.ofNat n.toNat).toArray⟩:=by
  intro ns
  induction ns with
  | nil=>intro r;simp
  | cons n ns ih=>intro r;simp only [List.foldl_cons,ih,List.map_cons];simp [ByteArray.push]
 rw [gen]
 have:ByteArray.empty.data = #[]:=rfl
 rw [this];simp
theorem aVK {x r:PV} {a:Value} {s d e:TypeId} (hs:P.underlying s=some (.slice e)) (he:P.underlying e=some (.int .u8)) (hd:P.underlying d=some .string)
  (hc:Cons M w) (h:bAu x=some r) (hx:Rv M B x a):∃ v,(convert s d a).run P w = .ok v w∧(∀ M B,Rv M B r v)∧Flat r:=by
 unfold bAu at h
 split at h
 ·rename_i es bs o
  obtain ⟨str,hstr,h⟩:=aB h
  cases h
  obtain ⟨hl,hg⟩:=aFA es str hstr
  refine ⟨.string ⟨str.toArray⟩,?_,fun _ _ => .str _,.inr (.inr ⟨_,rfl⟩)⟩
  cases hx with
  | nil o =>
   simp at hl;subst hl
   rw [run_convert_bytes_string w s d e none 0 0 hs he hd]
   rfl
  | slice es bs o ad cap sz f ha hcap ho hel hm hr =>
   rw [run_convert_bytes_string w s d e (some ad) es.length cap hs he hd]
   -- the numbers
   let ns:List Int:=es.map fun e=>match e with | .int _ n=>n | _=>0
   have hns:∀ (i:Nat),i<es.length→∃ n:Int,es[i]?=some (.int .u8 n)∧ns[i]?=some n∧str[i]?=some (UInt8.ofNat n.toNat):=by
    intro i hi
    have hi2:i<str.length:=by omega
    obtain ⟨n,h1,h2⟩:=hg i str[i] (List.getElem?_eq_getElem hi2)
    exact ⟨n,h1,by simp [ns,h1],by rw [List.getElem?_eq_getElem hi2,h2]⟩
   have hload:(loadCells ad es.length).run P w = .ok (ns.map (Value.int .u8)).toArray w:=by
    have hlen:es.length=(ns.map (Value.int .u8)).length:=by simp [ns]
    rw [hlen]
    apply run_loadCells_list
    intro j v hj
    have hj':j<es.length:=by have:=(List.getElem?_eq_some_iff.1 hj).1;simpa [ns] using this
    obtain ⟨n,h1,h2,_⟩:=hns j hj'
    have hin:(es++bs)[j]?=some (.int .u8 n):=by rw [List.getElem?_append_left hj'];exact h1
    have hok:=hel j _ hin
    have hsz1:sz=1:=hok.2.2.1.symm
    subst hsz1
    have hMem:=hm j _ 0 hin (by omega)
    have hv:=hr j _ 0 (.int .u8 n) hin (by simp [PV.cells])
    rw [hv.int_inv] at hMem
    simp only [Nat.mul_one,Nat.add_zero] at hMem
    obtain ⟨arr,T,fz,hrow,hget⟩:=hc _ _ _ hMem
    rw [List.getElem?_map,h2] at hj
    simp at hj;subst hj
    rw [Addr.add_none ad j (ha (by have:=(List.getElem?_eq_some_iff.1 hin).1;simp only [List.length_append] at this;omega))]
    simp [World.cell?,hrow,hget]
   rw [rZ ad es.length cap ns hload]
   congr 4
   apply List.ext_getElem?
   intro i
   by_cases hi:i<es.length
   ·obtain ⟨n,_,h2,h3⟩:=hns i hi
    rw [List.getElem?_map,h2,h3];rfl
   ·rw [List.getElem?_eq_none (by simp [ns];omega),List.getElem?_eq_none (by omega)]
 ·cases h
  cases hx with
  | mk0 sz ad cap ha =>
   refine ⟨.string ⟨#[]⟩,?_,fun _ _ => .str [],.inr (.inr ⟨_,rfl⟩)⟩
   rw [run_convert_bytes_string w s d e (some ad) 0 cap hs he hd]
   have:(loadCells ad 0).run P w = .ok (([]:List Int).map (Value.int .u8)).toArray w:=by simp [loadCells,loadCellsFrom]
   rw [rZ ad 0 cap [] this]
   rfl
 ·simp at h
end
section
variable {P : Program} {base : Base} {M : Mem} {B : BM} {st : St} {tm : Array Value} {w : World}
theorem sA (cs:List PV):(List.range cs.length).map (gt cs)=cs:=by
 apply List.ext_getElem?
 intro i
 by_cases h:i<cs.length
 ·simp [h,aBF]
 ·rw [List.getElem?_eq_none (by simpa using h),List.getElem?_eq_none (by omega)]
theorem aMG {v:Value} (h:v.oneCell'=true):v.cells = #[v]:=by cases v<;>first | rfl | simp [Value.oneCell'] at h
theorem Rv.oneCell2 {p:PV} {v:Value} (h:Rv M B p v) (h1:∀ cs,p ≠ .agg cs) (h2:∀ cs,p ≠ .tuple cs) (h3:p ≠ .bot) (h4:p ≠ .und):v.oneCell'=true:=by
 cases h<;>first | rfl | exact absurd rfl h3 | exact absurd rfl h4 | exact absurd rfl (h1 _) | exact absurd rfl (h2 _)
theorem aG4 {n:Nat} {ag:Bool} {p:PV} {cs:List PV} {v:Value} (h:lY n ag p=some cs) (hr:Rv M B p v) :
  cs.length=n∧v.cells.size=n∧(∀ (j:Nat) (c:PV),cs[j]?=some c→Rv M B c (v.cells.getD j undef)) ∧
   (∀ b,bV cs.length (fun j=>c1 (cs.getD j .bot) (v.cells.getD j undef) b)=cV p v b) ∧
   (∀ w base,hV M w base B p v→∀ (j:Nat) (c:PV),cs[j]?=some c→h1 M w base B c (v.cells.getD j undef)):=by
 unfold lY at h
 split at h
 ·rename_i cs0
  split at h
  ·rename_i hl
   subst hl
   rw [sA] at h
   cases h
   cases hr with
   | agg _ vs f hl hg hr =>
    have hgd:∀ i,i<cs.length→vs.getD i undef=f i:=by intro i hi;simp [Array.getD_eq_getD_getElem?,hg i hi]
    refine ⟨rfl,hl,?_,fun b=>(aVD cs vs b hl).symm,?_⟩
    ·intro j c hc
     have hlt:=(List.getElem?_eq_some_iff.1 hc).1
     have r:=hr j c hc
     show Rv M B c (vs.getD j undef);rw [hgd j hlt];exact r
    ·intro w base hh j c hc
     have hlt:=(List.getElem?_eq_some_iff.1 hc).1
     show h1 M w base B c (vs.getD j undef)
     refine hh (c,vs.getD j undef) ?_
     show (c,vs.getD j undef)∈cs.zip vs.toList
     apply List.mem_of_getElem? (i:=j)
     rw [List.getElem?_zip_eq_some]
     exact ⟨hc,by simp [hgd j hlt,hg j hlt]⟩
  ·simp at h
 ·simp at h
 ·simp at h
 ·simp at h
 ·simp at h
 ·simp at h
 ·rename_i hna hnt hnb hnu
  split at h
  ·cases h
   have ha:∀ cs,p ≠ .agg cs:=fun cs e=>hna cs e
   have ht:∀ cs,p ≠ .tuple cs:=fun cs e=>hnt cs e
   have hone:=hr.oneCell2 ha ht (fun e=>hnb e) (fun e=>hnu e)
   rw [aMG hone]
   refine ⟨rfl,rfl,?_,?_,?_⟩
   ·intro j c hc
    cases j with
    | zero=>simp at hc;subst hc;exact hr
    | succ j=>simp at hc
   ·intro b
    rw [yQ ha ht]
    simp [bV]
   ·intro w base hh j c hc
    cases j with
    | zero=>simp at hc;subst hc;exact (aDu ha ht).1 hh
    | succ j=>simp at hc
  ·simp at h
theorem aA1 {n:Nat} {ag:Bool} {p:PV} {cs:List PV} {v:Value} {d:Nat} (h:lY n ag p=some cs) (hr:Rv M B p v) (hf:cs.all (fits d)=true) :
  cs.length=n∧v.cells.size=n∧(∀ (j:Nat) (c:PV),cs[j]?=some c→Rv M B c (v.cells.getD j undef)∧fits d c=true∧(v.cells.getD j undef).oneCell'=true) ∧
   (∀ b,bV cs.length (fun j=>c1 (cs.getD j .bot) (v.cells.getD j undef) b)=cV p v b) ∧
   (∀ w base,hV M w base B p v→∀ (j:Nat) (c:PV),cs[j]?=some c→h1 M w base B c (v.cells.getD j undef)):=by
 obtain ⟨a1,a2,a3,a4,a5⟩:=aG4 h hr
 rw [List.all_eq_true] at hf
 refine ⟨a1,a2,?_,a4,a5⟩
 intro j c hc
 have hfc:=hf c (List.mem_of_getElem? hc)
 exact ⟨a3 j c hc,hfc,(a3 j c hc).oneCell hfc⟩
theorem aVL (st:St) (ws:List (Nat×PV)) (b0:aV) (r:List aV) (nw:Nat×List PV) (hb:st.bx=b0::r):({ws:=ws,nw:=[nw]}:Eff).app st=⟨ws++st.fr,(nw::b0)::r⟩:=by
 cases st with
 | mk fr bx=>simp at hb;subst hb;rfl
theorem lB {nt:Nat} {dst:Option Nat} {id:Nat} (h:kI nt st dst=some id):dst=some id∧id<nt∧∃ b0 r,st.bx=b0::r∧look b0 id=none:=by
 unfold kI at h
 split at h
 ·rename_i d b r hb
  split at h
  ·rename_i hl
   split at h
   ·rename_i hlt;cases h;exact ⟨rfl,hlt,b,r,hb,hl⟩
   ·simp at h
  ·simp at h
 ·simp at h
theorem aVM (h:SR base M B st tm w) {o:Oper} {n:Nat} {ag:Bool} {p:PV} {v:Value} {lv:List (Nat×PV)} {e:Eff} {T:TypeId}
  (he:newBox tm.size o n ag p lv st some=some e) (h1s:SR base M B {st with fr:=lv++st.fr} tm w) (hr:Rv M B p v) (hh:hV M w base B p v)
  (ht:∀ b,tot (lv++st.fr) tm w B st.bx b+cV p v b≤tot st.fr tm w B st.bx b) :
  Aft base M B st tm w e (putT tm o.dst (.pointer (some ⟨w.heap.size,0,none⟩))) {w with heap:=w.heap.push (.cells v.cells T (0,0))}:=by
 unfold newBox at he
 split at he
 ·rename_i id hid
  obtain ⟨hdst,hlt,b0,r,hbx,hlook⟩:=lB hid
  obtain ⟨cs,hcs,he⟩:=aB he
  rcases aZ he with ⟨hf,he⟩ | ⟨_,he⟩
  ·cases he
   obtain ⟨hl,hsz,hrel,hcnt,hh1⟩:=aA1 hcs hr hf
   obtain ⟨k1,k2⟩:=h1s.newBox (w':={w with heap:=w.heap.push (.cells v.cells T (0,0))}) (xs:=v.cells) (T:=T) (vs:=cs) hbx hlook rfl (by omega)
    (fun j c hc=>⟨(hrel j c hc).1,hh1 w base hh j c hc,(hrel j c hc).2.1⟩) (fun b=>by rw [hcnt b];exact Nat.le_trans (ht b) (h.one b))
   have hrp:Rv M (setB B id w.heap.size) (.ptr 0 id 0) (.pointer (some ⟨w.heap.size,0,none⟩)) := .ptr 0 id 0 _ (by simp [setB])
   obtain ⟨q1,q2⟩:=k1.putN o.dst hrp (mB _ _ _ _)
   unfold Aft
   rw [aVL st _ b0 r (id,cs) hbx]
   have hws:dstW tm.size o.dst (.ptr 0 id 0)++(lv++st.fr)=(id,.ptr 0 id 0)::lv++st.fr:=by simp [dstW,hdst,hlt]
   refine ⟨fB _ _ _,M,setB B id w.heap.size,?_,?_⟩
   ·rw [← hws];exact q1
   ·rw [← hws]
    refine ⟨rfl,rfl,rfl,by simp,fun _ _ _ hx=>hx,?_,?_,?_,fun d id'=>by simp [setB]⟩
    ·intro b hb _
     exact ⟨by simp only [Array.getElem?_push];rw [if_neg (by omega)],fun _=>rfl⟩
    ·intro b hb
     have e1:=q2 b
     have e2:=k2 b
     have e3:=hcnt b
     have e4:=ht b
     simp only at e1 e2 ⊢
     omega
    ·intro d i b hB hb
     unfold setB at hB
     split at hB
     ·simp at hB;omega
     ·exact ⟨d,i,hB⟩
  ·simp at he
 ·simp at he
theorem mC {d id blk:Nat} {cs:List PV} (h:SR base M B st tm w) (hb:aX st.bx d id=some cs) (hB:B d id=some blk):∃ arr T fz,w.heap[blk]?=some (.cells arr T fz)∧(phys cs).length≤arr.size∧(∀ i,i<(phys cs).length→¬ (fz.1≤i∧i<fz.2)) ∧
  BoxOk M w base B d blk cs∧∀ j,j<(phys cs).length→w.cell? ⟨blk,j,none⟩=some (bO w blk j):=by
 have ok:=h.box.get hb hB
 obtain ⟨arr,T,fz,hrow,hsz,hfz⟩:=ok.row
 refine ⟨arr,T,fz,hrow,hsz,hfz,ok,?_⟩
 intro j hj
 have:j<arr.size:=by omega
 simp [bO,World.cell?,hrow,this]
theorem tG {t n:Nat} {ag:Bool} {blk off:Nat} (hn:szOf P t=some n) (ha:agOf P t=some ag) (hc:∀ j,j<n→w.cell? ⟨blk,off+j,none⟩=some (bO w blk (off+j))) (h0:ag=false→0<n) :
  (Instr.loadAt t (.pointer (some ⟨blk,off,none⟩))).run P w = .ok (if ag then .agg ((List.range n).map fun j=>bO w blk (off+j)).toArray else bO w blk off) w:=by
 simp only [Instr.loadAt,Sem.run_bind,Instr.sureAddr,Sem.run_pure,Result.andThen_ok,loadVar,tZ w ha]
 cases ag with
 | true =>
  simp only [if_true,Sem.run_bind,dE w hn,Result.andThen_ok,Sem.run_pure]
  rw [run_loadCells w ⟨blk,off,none⟩ n (fun j=>bO w blk (off+j)) (fun j hj=>by rw [Addr.add_none _ _ rfl];exact hc j hj)]
  rfl
 | false =>
  have:=hc 0 (h0 rfl)
  simp only [Nat.add_zero] at this
  simp [this]
theorem aKy {d blk off n:Nat} {ag:Bool} {cs0 cs:List PV} {v:PV} (ok:BoxOk M w base B d blk cs0) (hcs0:phys cs0=cs) (h:part off n ag cs=some v) (hn1:ag=false→n=1) :
  off+n≤cs.length ∧
  Rv M B (tC d v) (if ag then .agg ((List.range n).map fun j=>bO w blk (off+j)).toArray else bO w blk off) ∧
  hV M w base B (tC d v) (if ag then .agg ((List.range n).map fun j=>bO w blk (off+j)).toArray else bO w blk off) ∧
  (∀ b,cV (tC d v) (if ag then .agg ((List.range n).map fun j=>bO w blk (off+j)).toArray else bO w blk off) b=bV n (fun j=>c1 (cs.getD (off+j) .bot) (bO w blk (off+j)) b)) ∧
  (bX ag v).length=n∧∀ (j:Nat) (c:PV),(bX ag v)[j]?=some c→∃ c0,cs[off+j]?=some c0∧c=c0.plain1:=by
 obtain ⟨_,_,_,okrel⟩:=ok
 rw [hcs0] at okrel
 unfold part at h
 cases ag with
 | true =>
  simp only at h
  split at h
  ·rename_i hle
   cases h
   have hlen:((cs.drop off).take n).length=n:=by simp;omega
   have hg:∀ (j:Nat) (c:PV),((cs.drop off).take n)[j]?=some c→cs[off+j]?=some c∧j<n:=by
    intro j c hc
    rw [List.getElem?_take] at hc
    split at hc
    ·exact ⟨by rwa [List.getElem?_drop] at hc,by assumption⟩
    ·simp at hc
   have hra:tC d (.agg ((cs.drop off).take n)) = .agg (((cs.drop off).take n).map (Ev.raise1 d)):=aKu d _
   have hsz:(((List.range n).map fun j=>bO w blk (off+j)).toArray).size=n:=by simp
   have hgv:∀ j,j<n→(((List.range n).map fun j=>bO w blk (off+j)).toArray).getD j undef=bO w blk (off+j):=by
    intro j hj;simp [Array.getD_eq_getD_getElem?,hj]
   rw [hra]
   simp only [if_true]
   refine ⟨hle,?_,?_,?_,?_,?_⟩
   ·refine .agg _ _ (fun j=>bO w blk (off+j)) (by simp;omega) ?_ ?_
    ·intro i hi;simp only [List.length_map,hlen] at hi;simp [hi]
    ·intro i c hc
     rw [List.getElem?_map,Option.map_eq_some_iff] at hc
     obtain ⟨c0,h0,rfl⟩:=hc
     obtain ⟨r1,r2,r3⟩:=okrel (off+i) c0 (hg i c0 h0).1
     exact r1.raise1 r3
   ·intro x hx
    simp only [atoms,zipA] at hx
    obtain ⟨i,hi⟩:=List.mem_iff_getElem?.1 hx
    rw [List.getElem?_zip_eq_some] at hi
    obtain ⟨i1,i2⟩:=hi
    rw [List.getElem?_map,Option.map_eq_some_iff] at i1
    obtain ⟨c0,h0,e0⟩:=i1
    obtain ⟨r1,r2,r3⟩:=okrel (off+i) c0 (hg i c0 h0).1
    have hin:=(hg i c0 h0).2
    have e2:x.2=bO w blk (off+i):=by
     have:(((List.range n).map fun j=>bO w blk (off+j)).toArray.toList)[i]?=some (bO w blk (off+i)):=by simp [hin]
     rw [this] at i2;exact (Option.some.inj i2).symm
    rw [← e0,e2]
    exact (aSc d c0 _).2 r2
   ·intro b
    rw [aVD _ _ _ (by simp;omega),List.length_map,hlen]
    apply cR
    intro j hj
    rw [hgv j hj]
    have hj2:off+j<cs.length:=by omega
    have e1:((cs.drop off).take n)[j]?=some cs[off+j]:=by
     rw [List.getElem?_take,if_pos hj,List.getElem?_drop,List.getElem?_eq_getElem hj2]
    have e2:((((cs.drop off).take n).map (Ev.raise1 d)).getD j .bot)=Ev.raise1 d cs[off+j]:=by
     rw [List.getD_eq_getElem?_getD,List.getElem?_map,e1];rfl
    rw [e2]
    simp only [c1,aJM,List.getD_eq_getElem?_getD,List.getElem?_eq_getElem hj2,Option.getD_some]
   ·simp [bX];omega
   ·intro j c hc
    simp only [bX,List.getElem?_map,Option.map_eq_some_iff] at hc
    obtain ⟨c0,h0,rfl⟩:=hc
    exact ⟨c0,(hg j c0 h0).1,rfl⟩
  ·simp at h
 | false =>
  simp only [jT] at h
  have hn:=hn1 rfl
  subst hn
  have hlt:=(List.getElem?_eq_some_iff.1 h).1
  obtain ⟨r1,r2,r3⟩:=okrel off v h
  have na:∀ cs,v ≠ .agg cs:=by intro cs e;subst e;simp [fits,PV.solid1] at r3
  have nt:∀ cs,v ≠ .tuple cs:=by intro cs e;subst e;simp [fits,PV.solid1] at r3
  have hra:tC d v=Ev.raise1 d v:=by
   rw [aKu]
   cases v<;>first | rfl | exact absurd rfl (na _)
  have na':∀ cs,Ev.raise1 d v ≠ .agg cs:=by intro cs e;cases v<;>simp_all [Ev.raise1]
  have nt':∀ cs,Ev.raise1 d v ≠ .tuple cs:=by intro cs e;cases v<;>simp_all [Ev.raise1]
  rw [hra]
  simp only [Bool.false_eq_true,if_false]
  refine ⟨by omega,r1.raise1 r3,(aDu na' nt').2 ((aSc d v _).2 r2),?_,by simp [bX],?_⟩
  ·intro b
   rw [yQ na' nt']
   simp only [bV,Nat.add_zero,Nat.zero_add,c1,aJM,List.getD_eq_getElem?_getD,h,Option.getD_some]
  ·intro j c hc
   cases j with
   | zero=>simp [bX] at hc;subst hc;exact ⟨v,by simpa using h,rfl⟩
   | succ j=>simp [bX] at hc
theorem yU (bx:List aV) (d id off:Nat) (vs cs:List PV) (h:aX bx d id=some cs):cN bx [(d,id,off,vs)]=bZ bx d id (putAt cs off vs):=by
 simp [cN,h]
theorem nH (bx:List aV):rV bx []=bx:=by cases bx<;>rfl
theorem aGy {t':Nat→Nat} (hle:∀ b,b<w.heap.size→t' b≤tot st.fr tm w B st.bx b):Evo w M (tot st.fr tm w B st.bx) B w M t' B :=
 { Evo.refl w M (tot st.fr tm w B st.bx) B with tle:=hle}
theorem aXV (h : SR base M B st tm w) {dst : Option Nat} {t n d id off : Nat} {ag : Bool} {a : Value} {cs : List PV} {v : PV} {e : Eff}
  (hn : szOf P t = some n) (ha : agOf P t = some ag) (hn1 : ag = false → n = 1) (hp : Rv M B (.ptr d id off) a) (hb : aX st.bx d id = some cs) (hnv : vG cs = false) (hv : part off n ag cs = some v) :
  ∃ x, (Instr.loadAt t a).run P w = .ok x w ∧
   Aft base M B st tm w { cr := [(d, id, off, n)], ws := dstW tm.size dst (tC d v).plain } (putT tm dst x) w ∧
   Aft base M B st tm w { cr := [(d, id, off, n)], cw := [(d, id, off, bX ag v)], ws := dstW tm.size dst (tC d v) } (putT tm dst x) w := by
 cases hp with
 | ptr _ _ _ blk hB =>
  have hph := vJ hnv
  obtain ⟨arr, T, fz, hrow, hsz, hfz, ok, hcell⟩ := mC h hb hB
  rw [hph] at hsz hcell hfz
  obtain ⟨hle, r1, r2, r3, r4, r5⟩ := aKy ok hph hv hn1
  refine ⟨_, tG hn ha (fun j hj => hcell _ (by omega)) (fun e => by have := hn1 e; omega), ?_, ?_⟩
  ·obtain ⟨k1, k2⟩ := h.putN dst r1.plain (bT _ _)
   have happ : ({ cr := [(d, id, off, n)], ws := dstW tm.size dst (tC d v).plain } : Eff).app st = { st with fr := dstW tm.size dst (tC d v).plain ++ st.fr } := xU st _
   unfold Aft
   rw [happ]
   exact ⟨fB _ _ _, M, B, k1, aGy fun b _ => k2 b⟩
  ·have hlen : (putAt cs off (bX ag v)).length = cs.length := dL _ _ _
   have hget : ∀ (j : Nat) (c : PV), (putAt cs off (bX ag v))[j]? = some c → ∃ c0, cs[j]? = some c0 ∧ (c = c0 ∨ c = c0.plain1) := by
    intro j c hc
    rw [gZ _ _ _ _ (by omega)] at hc
    split at hc
    ·rename_i hj
     obtain ⟨c0, h0, rfl⟩ := r5 _ _ hc
     rw [show off + (j - off) = j by omega] at h0
     exact ⟨c0, h0, .inr rfl⟩
    ·exact ⟨c, hc, .inl rfl⟩
   have hcnt : ∀ b, cS w blk 0 (putAt cs off (bX ag v)) b + bV n (fun j => c1 (cs.getD (off + j) .bot) (bO w blk (off + j)) b) = cS w blk 0 cs b := by
    intro b
    rw [lA, lA, hlen]
    have := vI (f := fun j => c1 (cs.getD j .bot) (bO w blk (0 + j)) b) (f' := fun j => c1 ((putAt cs off (bX ag v)).getD j .bot) (bO w blk (0 + j)) b) (g := fun _ => 0) (len := cs.length) (off := off) n hle
     (fun i hi hni => by
      simp only [List.getD_eq_getElem?_getD]
      rw [gZ _ _ _ _ (by omega), if_neg (by omega)])
     (fun j hj => by
      simp only [List.getD_eq_getElem?_getD]
      rw [gZ _ _ _ _ (by omega), if_pos (by omega)]
      have hjl : off + j - off < (bX ag v).length := by omega
      obtain ⟨c0, _, e0⟩ := r5 _ _ (List.getElem?_eq_getElem hjl)
      rw [List.getElem?_eq_getElem hjl, Option.getD_some, e0]
      simp [c1, aB9])
    simp only [Nat.zero_add] at this ⊢
    rw [gA (f := fun _ => 0) n (fun _ _ => rfl)] at this
    omega
   obtain ⟨k1, k2⟩ := h.setBox (w' := w) hb hB hnv hlen (fun _ _ => rfl) rfl ⟨arr, T, fz, hrow, hsz, hfz⟩ (by
    intro j c hc
    obtain ⟨c0, h0, hcc⟩ := hget j c hc
    obtain ⟨q1, q2, q3⟩ := ok.rel j c0 (by rw [hph]; exact h0)
    rcases hcc with rfl | rfl
    ·exact ⟨q1, q2, q3⟩
    ·refine ⟨q1.plain1, tY (aB9 _ _), ?_⟩
     cases c0 <;> simp_all [PV.plain1, fits, PV.solid1]) (by
    intro b
    have := h.one b
    have := hcnt b
    omega)
   have hone : ∀ b, tot st.fr tm w B (bZ st.bx d id (putAt cs off (bX ag v))) b + cV (tC d v) (if ag then .agg ((List.range n).map fun j => bO w blk (off + j)).toArray else bO w blk off) b = tot st.fr tm w B st.bx b := by
    intro b
    have e1 := k2 b
    have e2 := hcnt b
    have e3 := r3 b
    omega
   obtain ⟨q1, q2⟩ := k1.put dst r1 r2 (fun b => by have := hone b; have := h.one b; simp only; omega)
   have happ : ({ cr := [(d, id, off, n)], cw := [(d, id, off, bX ag v)], ws := dstW tm.size dst (tC d v) } : Eff).app st = ⟨dstW tm.size dst (tC d v) ++ st.fr, bZ st.bx d id (putAt cs off (bX ag v))⟩ := by
    simp [Eff.app, yU _ _ _ _ _ _ hb, nH]
   unfold Aft
   rw [happ]
   refine ⟨fB _ _ _, M, B, q1, aGy fun b _ => ?_⟩
   have e1 := q2 b
   have e2 := hone b
   simp only at e1 ⊢
   omega
theorem aPE (h : SR base M B st tm w) {dst : Option Nat} {t n : Nat} {ag : Bool} {a : Value} {x v : PV}
    (hn : szOf P t = some n) (ha : agOf P t = some ag) (hp : Rv M B (.ref x) a) (hv : aPu n ag x = some v) :
    ∃ y, (Instr.loadAt t a).run P w = .ok y w ∧ Aft base M B st tm w { ws := dstW tm.size dst v.plain } (putT tm dst y) w := by
  cases hp with
  | ref e ad s f hsp hel hm hr =>
    have hcell : ∀ j, j < s → w.cell? (ad.add j) = some (f j) := by
      intro j hj
      obtain ⟨arr, T, fz, hrow, hg⟩ := h.cons _ _ _ (hm j hj)
      rw [Addr.add_none ad j hsp]
      simp [World.cell?, hrow, hg]
    unfold aPu at hv
    split at hv
    · rename_i cs
      split at hv
      · rename_i hl
        cases hv
        have hs : s = n := by have := hel.2.2.1; simp only [PV.cells] at this; omega
        subst hs
        refine ⟨.agg ((List.range s).map f).toArray, ?_, ?_⟩
        · simp only [Instr.loadAt, Sem.run_bind, Instr.sureAddr, Sem.run_pure, Result.andThen_ok, loadVar, tZ w ha, if_true, dE w hn, run_loadCells w ad s f hcell]
        · refine jL h (Rv.plain ?_) (bT _ _)
          refine .agg cs _ f (by simp; omega) (by intro i hi; have hs2 : i < s := by omega
                                                  simp [hs2]) ?_
          intro i c hc; exact hr i c hc
      · simp at hv
    · simp at hv
    · simp at hv
    · simp at hv
    · rename_i hna hnt
      cases hv
      have hcs := aGX (p := x) (fun cs e => hna cs e)
      have hs : s = 1 := by have := hel.2.2.1; rw [hcs] at this; simpa using this.symm
      subst hs
      refine ⟨f 0, ?_, ?_⟩
      · have := hcell 0 (by omega)
        rw [Addr.add_none ad 0 hsp] at this
        have e : (⟨ad.block, ad.off + 0, none⟩ : Addr) = ad := by cases ad; simp_all
        rw [e] at this
        simp [Instr.loadAt, Instr.sureAddr, loadVar, tZ w ha, this]
      · exact jL h (hr 0 x (by rw [hcs]; rfl)).plain (bT _ _)
theorem mD (P:Program) (g o:Nat) (t:TypeId) (fz:Nat×Nat):∀ (vs:List Value) (i:Nat) (cur:Array Value) (w:World),w.heap[g]?=some (.cells cur t fz)→o+i+vs.length≤cur.size →
  (∀ v∈vs,v.oneCell'=true)→(∀ j,j<vs.length→¬ (fz.1≤o+i+j∧o+i+j<fz.2)) →
  (storeCells ⟨g,o,none⟩ vs i).run P w = .ok () (w.setRow g (cur.toList.take (o+i)++vs++cur.toList.drop (o+i+vs.length)).toArray)
 | [],i,cur,w,hg,_,_,_=>by
  simp only [storeCells,List.append_nil,List.length_nil,Nat.add_zero,List.take_append_drop,Array.toArray_toList]
  rw [setRow_self w g cur t fz hg]
  rfl
 | v::rest,i,cur,w,hg,hl,h1,hf=>by
  have hi:o+i<cur.size:=by simp at hl;omega
  have hadd:(⟨g,o,none⟩:Addr).add i=⟨g,o+i,none⟩:=Addr.add_none _ _ rfl
  have hcell:w.cell? ⟨g,o+i,none⟩=some cur[o+i]:=by simp [World.cell?,hg,hi]
  have hfro:w.frozen? ⟨g,o+i,none⟩=false:=by
   have:=hf 0 (by simp)
   simp only [World.frozen?,hg]
   simp only [Nat.add_zero] at this
   simp only [Bool.and_eq_false_iff,decide_eq_false_iff_not]
   omega
  have hst:(store ((⟨g,o,none⟩:Addr).add i) v).run P w = .ok () (w.setRow g (cur.setIfInBounds (o+i) v)):=by
   rw [hadd,run_store P w _ v _ (h1 v (by simp)),hcell]
   simp [hfro,setCell_eq_setRow w g (o+i) cur t fz v hg]
  have ih:=mD P g o t fz rest (i+1) (cur.setIfInBounds (o+i) v) (w.setRow g (cur.setIfInBounds (o+i) v)) (setRow_heap w g cur _ t _ hg) (by simp at hl ⊢;omega) (fun x hx=>h1 x (by simp [hx]))
   (fun j hj=>by have:=hf (j+1) (by simp;omega);rw [show o+(i+1)+j=o+i+(j+1) by omega];exact this)
  simp only [storeCells,Sem.run_bind,hst,Result.andThen_ok,ih,setRow_setRow]
  congr 3
  have e:=list_seg_step cur.toList (o+i) v rest (by simp at hl ⊢;omega)
  simpa [Array.toList_setIfInBounds,Nat.add_assoc] using e
theorem aVN (cur:Array Value) (o:Nat) (vs:List Value) (h:o+vs.length≤cur.size) (j:Nat) :
  (cur.toList.take o++vs++cur.toList.drop (o+vs.length)).toArray[j]?=if o≤j∧j<o+vs.length then vs[j-o]? else cur[j]?:=by
 simp only [List.getElem?_toArray]
 have hlt:(cur.toList.take o).length=o:=by simp;omega
 by_cases h1:j<o
 ·rw [if_neg (by omega),List.append_assoc,List.getElem?_append_left (by omega),List.getElem?_take,if_pos h1];simp
 ·by_cases h2:j<o+vs.length
  ·rw [if_pos (by omega),List.getElem?_append_left (by simp;omega),List.getElem?_append_right (by omega),hlt]
  ·rw [if_neg (by omega),List.getElem?_append_right (by simp;omega),List.getElem?_drop]
   simp only [List.length_append,hlt,Array.getElem?_toList]
   congr 1;omega
theorem aSe (cur:Array Value) (o:Nat) (vs:List Value) (h:o+vs.length≤cur.size):(cur.toList.take o++vs++cur.toList.drop (o+vs.length)).toArray.size=cur.size:=by
 simp;omega
theorem aJO (h : SR base M B st tm w) {t n d id off : Nat} {ag : Bool} {a v : Value} {p : PV} {cs0 cs0' cs vs : List PV} {lv : List (Nat × PV)}
  (hn : szOf P t = some n) (hp : Rv M B (.ptr d id off) a) (hb : aX st.bx d id = some cs0) (hph : phys cs0 = cs) (hvs : lY n ag p = some vs) (hf : vs.all (fits d) = true) (hoff : off + n ≤ cs.length)
  (hph' : phys cs0' = putAt cs off (oN d vs)) (hv' : okV cs0')
  (h1s : SR base M B { st with fr := lv ++ st.fr } tm w) (hr : Rv M B p v) (hh : hV M w base B p v)
  (ht : ∀ b, tot (lv ++ st.fr) tm w B st.bx b + cV p v b ≤ tot st.fr tm w B st.bx b) :
  ∃ w', (Instr.storeAt t a v).run P w = .ok () w' ∧ ∀ e : Eff, e.app st = ⟨lv ++ st.fr, bZ st.bx d id cs0'⟩ → Aft base M B st tm w e tm w' := by
 obtain ⟨hl, hvsz, hrel, hcnt, hh1⟩ := aA1 hvs hr hf
 cases hp with
 | ptr _ _ _ blk hB =>
  obtain ⟨arr, T, fz, hrow, hsz, hfz, ok, hcell⟩ := mC h hb hB
  rw [hph] at hsz hcell hfz
  have hst := mD P blk off T fz v.cells.toList 0 arr w hrow (by simp; omega) (by
   intro x hx
   obtain ⟨j, hj⟩ := List.mem_iff_getElem?.1 hx
   have hjl : j < vs.length := by have := (List.getElem?_eq_some_iff.1 hj).1; simp at this; omega
   have := (hrel j vs[j] (List.getElem?_eq_getElem hjl)).2.2
   rw [Array.getD_eq_getD_getElem?] at this
   rw [Array.getElem?_toList] at hj
   rw [hj] at this
   exact this) (by intro j hj; refine hfz _ ?_; simp at hj; omega)
  simp only [Nat.add_zero] at hst
  generalize hnew : (arr.toList.take off ++ v.cells.toList ++ arr.toList.drop (off + v.cells.toList.length)).toArray = arr' at hst
  have hvl : v.cells.toList.length = n := by simp [hvsz]
  have hsize : arr'.size = arr.size := by rw [← hnew]; exact aSe _ _ _ (by simp; omega)
  have hget : ∀ j, arr'[j]? = if off ≤ j ∧ j < off + n then v.cells[j - off]? else arr[j]? := by
   intro j
   rw [← hnew, aVN _ _ _ (by simp; omega), hvl]
   split <;> simp
  let w' := w.setRow blk arr'
  have hrow' : w'.heap[blk]? = some (.cells arr' T fz) := setRow_heap w blk arr arr' T _ hrow
  have hcv : ∀ j, bO w' blk j = if off ≤ j ∧ j < off + n then v.cells.getD (j - off) undef else bO w blk j := by
   intro j
   simp only [bO, World.cell?, hrow', hrow]
   rw [show (if (none : Option Nat).isSome = true then (none : Option Value) else arr'[j]?) = arr'[j]? from rfl, hget]
   by_cases e : off ≤ j ∧ j < off + n
   ·rw [if_pos e, if_pos e, Array.getD_eq_getD_getElem?]
   ·rw [if_neg e, if_neg e]; rfl
  have hlow : ∀ (j : Nat), (oN d vs)[j]? = (vs[j]?).map (Ev.lower1 d) := by intro j; rw [yR, List.getElem?_map]
  have hlowl : (oN d vs).length = n := by rw [yR]; simp [hl]
  have hlen : (putAt cs off (oN d vs)).length = cs.length := dL _ _ _
  have hcc : ∀ b, cS w' blk 0 (putAt cs off (oN d vs)) b + bV n (fun j => c1 (cs.getD (off + j) .bot) (bO w blk (off + j)) b) = cS w blk 0 cs b + cV p v b := by
   intro b
   rw [lA, lA, hlen, ← hcnt b, hl]
   have := vI (f := fun j => c1 (cs.getD j .bot) (bO w blk (0 + j)) b) (f' := fun j => c1 ((putAt cs off (oN d vs)).getD j .bot) (bO w' blk (0 + j)) b) (g := fun j => c1 (vs.getD j .bot) (v.cells.getD j undef) b) (len := cs.length) (off := off) n hoff
    (fun i hi hni => by
     simp only [List.getD_eq_getElem?_getD, Nat.zero_add]
     rw [gZ _ _ _ _ (by omega), if_neg (by omega), hcv, if_neg (by omega)])
    (fun j hj => by
     simp only [List.getD_eq_getElem?_getD, Nat.zero_add]
     rw [gZ _ _ _ _ (by omega), if_pos (by omega), hcv, if_pos (by omega), show off + j - off = j by omega, hlow]
     have hjl : j < vs.length := by omega
     rw [List.getElem?_eq_getElem hjl]
     simp [c1, aTS])
   simp only [Nat.zero_add] at this ⊢
   exact this
  have hh1' : ∀ q x, h1 M w base B q x → h1 M w base B q x := fun _ _ h => h
  obtain ⟨k1, k2⟩ := h1s.setRow (w' := w') (cs' := cs0') hb hB (fun b hbne => setRow_other w blk b arr' hbne) (setRow_size w blk arr') ⟨arr', T, fz, hrow', by rw [hph', hlen]; omega, by rw [hph', hlen]; exact hfz⟩ hv' (by
   intro j c hc
   rw [hph'] at hc
   rw [gZ _ _ _ _ (by omega)] at hc
   rw [hcv]
   split at hc
   ·rename_i hj
    rw [hlowl] at hj
    rw [if_pos hj]
    rw [hlow, Option.map_eq_some_iff] at hc
    obtain ⟨c0, h0, rfl⟩ := hc
    obtain ⟨q1, q2, q3⟩ := hrel _ c0 h0
    exact ⟨q1.lower1 q2, (aXS d c0 _).2 (hh1 w base hh _ c0 h0), aJL q2⟩
   ·rename_i hj
    rw [hlowl] at hj
    rw [if_neg hj]
    exact ok.rel j c (by rw [hph]; exact hc)) (by
   intro b
   rw [hph', hph]
   have e1 := hcc b
   have e2 := ht b
   have e3 := h.one b
   simp only
   omega)
  rw [hph', hph] at k2
  refine ⟨w', ?_, ?_⟩
  ·simp only [Instr.storeAt, Sem.run_bind, Instr.sureAddr, Sem.run_pure, Result.andThen_ok, storeVar, dE w hn]
   rw [if_neg (by omega)]
   exact hst
  ·intro e happ
   unfold Aft
   rw [happ]
   refine ⟨rfl, M, B, k1, rfl, rfl, rfl, by simp [w'], fun _ _ _ hx => hx, ?_, ?_, fun d i b hB _ => ⟨d, i, hB⟩, fun _ _ => rfl⟩
   ·intro b hlt hnt
    exact ⟨setRow_other w blk b arr' (by intro e; subst e; exact hnt (.inr ⟨d, id, hB⟩)), fun _ => rfl⟩
   ·intro b _
    have e1 := k2 b
    have e2 := hcc b
    have e3 := ht b
    simp only at e1 ⊢
    omega
theorem aVO (h:SR base M B st tm w) {t n d id off:Nat} {ag:Bool} {a v:Value} {p:PV} {cs vs:List PV} {lv:List (Nat×PV)}
  (hn:szOf P t=some n) (hp:Rv M B (.ptr d id off) a) (hb:aX st.bx d id=some cs) (hnv:vG cs=false) (hvs:lY n ag p=some vs) (hf:vs.all (fits d)=true) (hoff:off+n≤cs.length)
  (h1s:SR base M B {st with fr:=lv++st.fr} tm w) (hr:Rv M B p v) (hh:hV M w base B p v)
  (ht:∀ b,tot (lv++st.fr) tm w B st.bx b+cV p v b≤tot st.fr tm w B st.bx b) :
  ∃ w',(Instr.storeAt t a v).run P w = .ok () w'∧Aft base M B st tm w {cw:=[(d,id,off,oN d vs)],ws:=lv} tm w':=by
 have hph:=vJ hnv
 have hB:∃ blk,B d id=some blk:=by cases hp with | ptr _ _ _ blk hB=>exact ⟨blk,hB⟩
 obtain ⟨blk,hB⟩:=hB
 have ok:=h.box.get hb hB
 have hall:∀ c∈putAt cs off (oN d vs),fits 0 c=true:=by
  intro c hc
  obtain ⟨j,hj⟩:=List.mem_iff_getElem?.1 hc
  rw [gZ _ _ _ _ (by rw [yR,List.length_map];have:=(aA1 hvs hr hf).1;omega)] at hj
  split at hj
  ·rw [yR,List.getElem?_map,Option.map_eq_some_iff] at hj
   obtain ⟨c0,h0,rfl⟩:=hj
   exact aJL (List.all_eq_true.1 hf c0 (List.mem_of_getElem? h0))
  ·exact (ok.rel j c (by rw [hph];exact hj)).2.2
 obtain ⟨e1,e2⟩:=yT hall
 obtain ⟨w',k1,k2⟩:=aJO (P:=P) h (cs0':=putAt cs off (oN d vs)) hn hp hb hph hvs hf hoff e1 (aVE e2) h1s hr hh ht
 exact ⟨w',k1,k2 _ (by simp [Eff.app,yU _ _ _ _ _ _ hb,nH])⟩
theorem kD {sz:Nat}:∀ (E:List PV),(∀ e∈E,e.cells.length=sz)→∀ i j,j<sz→(E.flatMap cells)[i*sz+j]?=(E[i]?).bind fun e=>e.cells[j]?
 | [],_,i,j,_=>by simp
 | e::E,h,i,j,hj=>by
  have he:=h e (by simp)
  rw [List.flatMap_cons]
  cases i with
  | zero=>rw [Nat.zero_mul,Nat.zero_add,List.getElem?_append_left (by omega)];simp
  | succ i =>
   rw [Nat.add_mul,List.getElem?_append_right (by omega)]
   have:=kD E (fun x hx=>h x (by simp [hx])) i j hj
   rw [show i*sz+1*sz+j-e.cells.length=i*sz+j by omega,this];simp
theorem kE {sz:Nat}:∀ (E:List PV),(∀ e∈E,e.cells.length=sz)→(E.flatMap cells).length=E.length*sz
 | [],_=>by simp
 | e::E,h=>by
  rw [List.flatMap_cons,List.length_append,h e (by simp),kE E fun x hx=>h x (by simp [hx])]
  simp [Nat.add_mul];omega
theorem qI {c:PV} (h:okVc c=true):c.solid1=true:=by
 unfold okVc at h
 split at h<;>first | rfl | simp at h
theorem aG5 {c:PV} (h:c.solid1=true):okVc c.plain1=true:=by cases c<;>first | rfl | simp [PV.solid1] at h
theorem aSf {c:PV} (h:okVc c=true) (v:Value):own1 c v=none:=by
 unfold okVc at h
 split at h<;>first | (cases v<;>rfl) | (exact pJ _ _ _) | simp at h
theorem aVP {c:PV} (h:okVc c=true):c.plain1=c:=by
 unfold okVc at h
 split at h<;>first | rfl | simp at h
theorem oR {sz:Nat} {e:PV}:okVe sz e=true↔e.cells.length=sz∧∀ c∈e.cells,okVc c=true:=by
 simp [okVe]
theorem fU {sz:Nat} {e:PV} (h:okVe sz e=true):e.cells.length=sz∧∀ c∈e.cells,c.solid1=true :=
 ⟨(oR.1 h).1,fun c hc=>qI ((oR.1 h).2 c hc)⟩
theorem aDx {d:Nat} {c:PV} (h:c.solid1=true):Ev.raise1 d c=c:=by cases c<;>first | rfl | simp [PV.solid1] at h
theorem aKz {d:Nat} {c:PV} (h:c.solid1=true):Ev.lower1 d c=c:=by cases c<;>first | rfl | simp [PV.solid1] at h
theorem aG6 {d:Nat} {c:PV} (h:c.solid1=true):fits d c=true:=by cases c<;>first | rfl | simp [PV.solid1] at h
theorem aPF {d:Nat} {c:PV} (h:c.solid=true):tC d c=c:=by
 rw [aKu]
 cases c with
 | agg cs =>
  simp only [PV.solid,List.all_eq_true] at h
  simp only [PV.agg.injEq]
  conv=>rhs;rw [← List.map_id cs]
  exact List.map_congr_left fun c hc=>aDx (h c hc)
 | _=>exact aDx (by simpa [PV.solid] using h)
theorem aVQ {sz off n:Nat} {ag:Bool} {E:List PV} {e v0:PV} (hs:0<sz) (hE:∀ e∈E,okVe sz e=true) (he:nth E (off / sz)=some e) (h:part (off % sz) n ag e.cells=some v0) :
  part off n ag (E.flatMap cells)=some v0∧v0.solid=true:=by
 have hE':∀ e∈E,e.cells.length=sz:=fun e he=>(fU (hE e he)).1
 rw [jT] at he
 have hem:=List.mem_of_getElem? he
 have hi:=(List.getElem?_eq_some_iff.1 he).1
 obtain ⟨hl,hc⟩:=fU (hE e hem)
 have hoff:off=off / sz*sz+off % sz:=by rw [Nat.mul_comm];exact (Nat.div_add_mod off sz).symm
 have hmod:off % sz<sz:=Nat.mod_lt _ hs
 unfold part at h ⊢
 cases ag with
 | true =>
  simp only at h ⊢
  split at h
  ·rename_i hle
   have hle2:off+n≤(E.flatMap cells).length:=by
    rw [kE E hE']
    have:(off / sz+1)*sz≤E.length*sz:=Nat.mul_le_mul_right sz hi
    rw [Nat.add_mul] at this
    omega
   rw [if_pos hle2]
   have heq:((E.flatMap cells).drop off).take n=(e.cells.drop (off % sz)).take n:=by
    apply List.ext_getElem?
    intro k
    rw [List.getElem?_take,List.getElem?_take]
    split
    ·rename_i hk
     rw [List.getElem?_drop,List.getElem?_drop]
     conv=>lhs;rw [hoff,Nat.add_assoc]
     rw [kD E hE' _ _ (by omega),he];rfl
    ·rfl
   rw [heq]
   refine ⟨h,?_⟩
   cases h
   simp only [PV.solid,List.all_eq_true]
   intro c hc'
   exact hc c (List.mem_of_mem_drop (List.mem_of_mem_take hc'))
  ·simp at h
 | false =>
  simp only [jT] at h ⊢
  have hv:=hc v0 (List.mem_of_getElem? h)
  refine ⟨?_,by cases v0<;>first | exact hv | simp [PV.solid1] at hv⟩
  conv=>lhs;rw [hoff]
  rw [kD E hE' _ _ hmod,he]
  exact h
theorem aPG (h:SR base M B st tm w) {dst:Option Nat} {t n d id off sz:Nat} {ag:Bool} {a:Value} {E:List PV} {v:PV}
  (hn:szOf P t=some n) (ha:agOf P t=some ag) (hn1:ag=false→n=1) (hp:Rv M B (.ptr d id off) a) (hb:aX st.bx d id=some [.vec sz E]) (hv:bBy sz E off n ag=some v) :
  ∃ x,(Instr.loadAt t a).run P w = .ok x w∧Aft base M B st tm w {cr:=[(d,id,0,1)],ws:=dstW tm.size dst v} (putT tm dst x) w:=by
 cases hp with
 | ptr _ _ _ blk hB =>
  obtain ⟨hs,hE⟩:okV [.vec sz E]:=(h.box.ok d id _ hb).1
  obtain ⟨arr,T,fz,hrow,hsz,hfz,ok,hcell⟩:=mC h hb hB
  obtain ⟨e,he,hv⟩:=aB hv
  obtain ⟨v0,h0,hv⟩:=aB hv
  cases hv
  obtain ⟨hp0,hsol⟩:=aVQ hs hE he h0
  obtain ⟨hle,r1,r2,r3,r4,r5⟩:=aKy ok rfl hp0 hn1
  rw [aPF hsol] at r1
  refine ⟨_,tG hn ha (fun j hj=>hcell _ (show off+j<(E.flatMap cells).length from Nat.lt_of_lt_of_le (Nat.add_lt_add_left hj off) hle)) (fun e=>by have:=hn1 e;omega),?_⟩
  obtain ⟨k1,k2⟩:=h.putN dst r1.plain (bT _ _)
  have happ:({cr:=[(d,id,0,1)],ws:=dstW tm.size dst v0.plain}:Eff).app st={st with fr:=dstW tm.size dst v0.plain++st.fr}:=xU st _
  unfold Aft
  rw [happ]
  exact ⟨fB _ _ _,M,B,k1,aGy fun b _=>k2 b⟩
theorem aMH {c:PV} (h:c.solid1=true):c.cells=[c]:=by cases c<;>first | rfl | simp [PV.solid1] at h
theorem aVR {e:PV} {cs:List PV} (hl:cs.length=e.cells.length) (hs:∀ c∈cs,c.solid1=true):(reb e cs).cells=cs:=by
 cases e with
 | agg _=>rfl
 | _ =>
  simp only [PV.cells,List.length_singleton] at hl
  match cs,hl with
  | [c],_=>exact aMH (hs c (by simp))
theorem aXW {sz off:Nat} {E E' vs:List PV} (hs:0<sz) (hE:∀ e∈E,okVe sz e=true) (h:vput sz E off vs=some E') :
  (E'.flatMap cells)=putAt (E.flatMap cells) off (vs.map PV.plain1)∧off+vs.length≤(E.flatMap cells).length∧(∀ e∈E',okVe sz e=true)∧∀ c∈vs,c.solid1=true:=by
 have hE':∀ e∈E,e.cells.length=sz:=fun e he=>(fU (hE e he)).1
 obtain ⟨e,he,h⟩:=aB h
 split at h
 ·rename_i hc
  obtain ⟨hle,hsol⟩:=hc
  cases h
  rw [jT] at he
  have hem:=List.mem_of_getElem? he
  have hi:=(List.getElem?_eq_some_iff.1 he).1
  obtain ⟨hl,hcs⟩:=fU (hE e hem)
  have hoff:off=off / sz*sz+off % sz:=by rw [Nat.mul_comm];exact (Nat.div_add_mod off sz).symm
  have hvs:∀ c∈vs,c.solid1=true:=fun c hc=>List.all_eq_true.1 hsol c hc
  have hvp:∀ c∈vs.map PV.plain1,okVc c=true:=fun c hc=>by
   obtain ⟨x,hx,rfl⟩:=List.mem_map.1 hc
   exact aG5 (hvs x hx)
  have hcs':=(oR.1 (hE e hem)).2
  have hlm:(vs.map PV.plain1).length=vs.length:=by simp
  generalize vs.map PV.plain1=us at hvp hlm
  have hpl:(putAt e.cells (off % sz) us).length=e.cells.length:=dL _ _ _
  have hps:∀ c∈putAt e.cells (off % sz) us,okVc c=true:=by
   intro c hc
   obtain ⟨j,hj⟩:=List.mem_iff_getElem?.1 hc
   rw [gZ _ _ _ _ (by omega)] at hj
   split at hj
   ·exact hvp c (List.mem_of_getElem? hj)
   ·exact hcs' c (List.mem_of_getElem? hj)
  have hrc:=aVR hpl fun c hc=>qI (hps c hc)
  have hnew:∀ x∈putNth E (off / sz) (reb e (putAt e.cells (off % sz) us)),okVe sz x=true:=by
   intro x hx
   rw [fY] at hx
   rcases List.mem_or_eq_of_mem_set hx with hx | rfl
   ·exact hE x hx
   ·rw [oR,hrc];exact ⟨by omega,hps⟩
  have hnew':∀ x∈putNth E (off / sz) (reb e (putAt e.cells (off % sz) us)),x.cells.length=sz:=fun x hx=>(fU (hnew x hx)).1
  have hlen:(E.flatMap cells).length=E.length*sz:=kE E hE'
  have hb:off+vs.length≤(E.flatMap cells).length:=by
   rw [hlen]
   have:(off / sz+1)*sz≤E.length*sz:=Nat.mul_le_mul_right sz hi
   rw [Nat.add_mul] at this
   omega
  refine ⟨?_,hb,hnew,hvs⟩
  apply List.ext_getElem?
  intro k
  have hk:k=k / sz*sz+k % sz:=by rw [Nat.mul_comm];exact (Nat.div_add_mod k sz).symm
  have hkm:k % sz<sz:=Nat.mod_lt _ hs
  rw [gZ _ _ _ _ (by omega)]
  conv=>lhs;rw [hk,kD _ hnew' _ _ hkm,fY]
  by_cases e1:k / sz=off / sz
  ·rw [e1,List.getElem?_set_self hi]
   simp only [Option.bind_some,hrc]
   rw [gZ _ _ _ _ (by omega)]
   have hke:k=off / sz*sz+k % sz:=by rw [← e1];exact hk
   by_cases e2:off % sz≤k % sz∧k % sz<off % sz+us.length
   ·rw [if_pos e2,if_pos (by omega)];congr 1;omega
   ·rw [if_neg e2,if_neg (by omega)]
    conv=>rhs;rw [hke,kD E hE' _ _ hkm,he]
    rfl
  ·rw [List.getElem?_set_ne (fun x=>e1 x.symm)]
   rw [if_neg]
   ·conv=>rhs;rw [hk,kD E hE' _ _ hkm]
   ·rintro ⟨h1,h2⟩
    apply e1
    have a1:off / sz≤k / sz:=Nat.div_le_div_right h1
    have a2:k<(off / sz+1)*sz:=by
     rw [Nat.add_mul,Nat.one_mul]
     have:off+vs.length≤off / sz*sz+sz:=by
      conv=>lhs;rw [hoff]
      omega
     omega
    have a3:k / sz<off / sz+1:=(Nat.div_lt_iff_lt_mul hs).2 a2
    omega
 ·simp at h
theorem aMI {n:Nat} {ag:Bool} {p:PV} {vs:List PV} (h:lY n ag p=some vs) (hs:∀ c∈vs,c.solid1=true):lY n ag p.plain=some (vs.map PV.plain1):=by
 unfold lY at h
 split at h
 ·rename_i cs
  split at h
  ·rename_i hl
   cases h
   simp only [PV.plain,PV.plainA,lY,List.length_map,hl,if_true,Option.some.injEq,List.map_map]
   apply List.map_congr_left
   intro i hi
   have hi:=List.mem_range.1 hi
   rw [aBF]
   simp only [List.getElem?_map,Function.comp_apply,aBF]
   rw [List.getElem?_eq_getElem (by omega)];rfl
  ·simp at h
 ·simp at h
 ·simp at h
 ·simp at h
 ·simp at h
 ·simp at h
 ·split at h
  ·cases h
   have:=hs p (by simp)
   cases p<;>first | rfl | simp [PV.solid1] at this
  ·simp at h
theorem aMJ (h:SR base M B st tm w) {t n d id off sz:Nat} {ag:Bool} {a v:Value} {p:PV} {E E' vs:List PV} {lv:List (Nat×PV)}
  (hn:szOf P t=some n) (hp:Rv M B (.ptr d id off) a) (hb:aX st.bx d id=some [.vec sz E]) (hvs:lY n ag p=some vs) (hn0:0<n) (hput:vput sz E off vs=some E')
  (h1s:SR base M B {st with fr:=lv++st.fr} tm w) (hr:Rv M B p v) (hh:hV M w base B p v)
  (ht:∀ b,tot (lv++st.fr) tm w B st.bx b+cV p v b≤tot st.fr tm w B st.bx b) :
  ∃ w',(Instr.storeAt t a v).run P w = .ok () w'∧Aft base M B st tm w {cr:=[(d,id,0,1)],cw:=[(d,id,0,[.vec sz E'])],ws:=lv} tm w':=by
 obtain ⟨hs,hE⟩:okV [.vec sz E]:=(h.box.ok d id _ hb).1
 obtain ⟨e1,e2,e3,e4⟩:=aXW hs hE hput
 have hcp:=aMI hvs e4
 have e5:∀ c∈vs.map PV.plain1,c.solid1=true:=fun c hc=>by
  obtain ⟨x,hx,rfl⟩:=List.mem_map.1 hc
  exact qI (aG5 (e4 x hx))
 have hlow:oN d (vs.map PV.plain1)=vs.map PV.plain1:=by
  rw [yR]
  conv=>rhs;rw [← List.map_id (vs.map PV.plain1)]
  exact List.map_congr_left fun c hc=>aKz (e5 c hc)
 have hf:(vs.map PV.plain1).all (fits d)=true:=List.all_eq_true.2 fun c hc=>aG6 (e5 c hc)
 have hlen:=(aA1 hcp hr.plain hf).1
 have hlm:(vs.map PV.plain1).length=vs.length:=by simp
 obtain ⟨w',k1,k2⟩:=aJO (P:=P) h (cs0':=[.vec sz E']) hn hp hb (cs:=E.flatMap cells) rfl hcp hf (by omega) (by rw [hlow];exact e1) ⟨hs,e3⟩ h1s hr.plain ((bT _ _).h _ _ _ _)
  (fun b=>by rw [(bT _ _).c b];have:=ht b;omega)
 exact ⟨w',k1,k2 _ (by simp [Eff.app,yU _ _ _ _ _ _ hb,nH,putAt,putNth])⟩
end
section
variable {P : Program} {base : Base} {M : Mem} {B : BM} {st : St} {tm : Array Value} {w : World}
theorem aZ2 {p:PV} {v:Value} {b:Nat} (h:1≤cV p v b):∃ x∈atoms p v,own1 x.1 x.2=some b:=by
 unfold cV at h
 generalize atoms p v=l at h
 induction l with
 | nil=>simp [sumL] at h
 | cons x l ih =>
  simp only [sumL] at h
  by_cases e:own1 x.1 x.2=some b
  ·exact ⟨x,by simp,e⟩
  ·have:c1 x.1 x.2 b=0:=by simp [c1,e]
   obtain ⟨y,hy,ho⟩:=ih (by omega)
   exact ⟨y,by simp [hy],ho⟩
theorem aDy {f:Nat→Nat}:∀ (n:Nat),1≤bV n f→∃ i,i<n∧1≤f i
 | 0,h=>by simp [bV] at h
 | n+1,h=>by
  simp only [bV] at h
  by_cases e:1≤f n
  ·exact ⟨n,by omega,e⟩
  ·obtain ⟨i,hi,hf⟩:=aDy (f:=f) n (by omega)
   exact ⟨i,by omega,hf⟩
theorem aMK {g:Nat→Nat→List PV→Nat}:∀ (bx:List aV) (d0:Nat),(∀ (e:Nat) (f:aV),bx[e]?=some f→(f.map (·.1)).Nodup)→1≤fZ g d0 bx→∃ d id cs,aX bx d id=some cs∧1≤g (d0+d) id cs
 | [],_,_,h=>by simp [fZ] at h
 | f::r,d0,hn,h=>by
  simp only [fZ] at h
  by_cases e:1≤fZ g (d0+1) r
  ·obtain ⟨d,id,cs,hb,hg⟩:=aMK r (d0+1) (fun e f' hf=>hn (e+1) f' (by simpa using hf)) e
   exact ⟨d+1,id,cs,hb,by rwa [show d0+(d+1)=d0+1+d by omega]⟩
  ·have hp:1≤dH (g d0) f:=by omega
   have:∃ id cs,(id,cs)∈f∧1≤g d0 id cs:=by
    clear h e hn
    induction f with
    | nil=>simp [dH] at hp
    | cons x f ih =>
     obtain ⟨i,c⟩:=x
     simp only [dH] at hp
     by_cases e:1≤g d0 i c
     ·exact ⟨i,c,by simp,e⟩
     ·obtain ⟨i',c',hm,hg⟩:=ih (by omega)
      exact ⟨i',c',by simp [hm],hg⟩
   obtain ⟨id,cs,hm,hg⟩:=this
   exact ⟨0,id,cs,gK (hn 0 f rfl) hm,hg⟩
theorem SR.tot_own (h:SR base M B st tm w) {b:Nat} (ht:1≤tot st.fr tm w B st.bx b):b<w.heap.size∧(∀ d id,B d id≠some b)∧base≤b:=by
 have key:∀ p v,h1 M w base B p v→own1 p v=some b→b<w.heap.size∧(∀ d id,B d id≠some b)∧base≤b:=by
  intro p v hp ho
  have:=hp.nobox ho
  obtain ⟨lo,hi,hk⟩:=hp.hok ho
  exact ⟨this.2,this.1,hk.old⟩
 unfold tot at ht
 by_cases e:1≤cF st.fr tm b
 ·obtain ⟨i,hi,hc⟩:=aDy _ e
  obtain ⟨x,hx,ho⟩:=aZ2 hc
  exact key _ _ (h.slotH i x hx) ho
 ·have hBx:1≤cBx w B st.bx b:=by omega
  unfold cBx at hBx
  obtain ⟨d,id,cs,hb,hg⟩:=aMK st.bx 0 h.box.nodup hBx
  rcases (h.box.ok d id cs hb).2 with ⟨blk,hB,ok⟩ | hno
  rotate_left
  ·simp [hno.1,cBox] at hg
  simp only [Nat.zero_add,hB,cBox] at hg
  rw [lA] at hg
  obtain ⟨j,hj,hc⟩:=aDy _ hg
  simp only [Nat.zero_add] at hc
  have hcs:(phys cs)[j]?=some (phys cs)[j]:=List.getElem?_eq_getElem hj
  obtain ⟨_,r2,_⟩:=ok.rel j _ hcs
  simp only [List.getD_eq_getElem?_getD,hcs,Option.getD_some] at hc
  have ho:own1 (phys cs)[j] (bO w blk j)=some b:=by
   unfold c1 at hc
   split at hc
   ·assumption
   ·simp at hc
  exact key _ _ r2 ho
theorem SR.box_lt (h:SR base M B st tm w) {d id b:Nat} (hB:B d id=some b):b<w.heap.size∧base≤b:=by
 cases hbo:aX st.bx d id with
 | none=>rw [h.box.dom d id hbo] at hB;simp at hB
 | some cs =>
  have ok:=h.box.get hbo hB
  obtain ⟨arr,T',fz,hx,_⟩:=ok.row
  exact ⟨(Array.getElem?_eq_some_iff.1 hx).1,ok.old⟩
structure RowRel (M:Mem) (B:BM) (s:Nat) (es:List PV) (arr:Array Value):Prop where
 pos:0<s
 size:es.length*s≤arr.size
 el:∀ (i:Nat) (e:PV),es[i]?=some e→okEl s e
 rel:∀ (i:Nat) (e:PV) (j:Nat) (c:PV),es[i]?=some e→e.cells[j]?=some c→Rv M B c (arr.getD (i*s+j) undef)
theorem RowRel.mono {M M':Mem} {s:Nat} {es:List PV} {arr:Array Value} (h:RowRel M B s es arr) (hM:∀ b i v,M b i=some v→M' b i=some v):RowRel M' B s es arr :=
 ⟨h.pos,h.size,h.el,fun i e j c h1 h2=>(h.rel i e j c h1 h2).mono hM (fun _ _ _ hx=>hx)⟩
def addM (M:Mem) (blk:Nat) (lo hi:Nat) (arr:Array Value):Mem:=fun b i=>if b=blk∧lo≤i∧i<hi then arr[i]? else M b i
theorem aKA (h:SR base M B st tm w) {dst:Option Nat} {lv:List (Nat×PV)} (h1s:SR base M B {st with fr:=lv++st.fr} tm w)
  (ht:∀ b,tot (lv++st.fr) tm w B st.bx b≤tot st.fr tm w B st.bx b) {s cap:Nat} {es:List PV} {arr:Array Value} {T:TypeId} {fz:Nat×Nat} {w':World}
  (hrow:RowRel M B s es arr) (hcap:es.length≤cap) (hsz:cap*s≤arr.size) (hfz:∀ i,i<arr.size→¬ (fz.1≤i∧i<fz.2))
  (hw:w'.heap=w.heap.push (.cells arr T fz)) (hos:w'.os=w.os) (hta:w'.tape=w.tape) (hou:w'.output=w.output) {r:PV}
  (hr:(r = .slice es [] true∧(es=[]→cap=0))∨(r = .mk0 s∧es=[])) :
  Aft base M B st tm w {ws:=dstW tm.size dst r++lv} (putT tm dst (.slice (some ⟨w.heap.size,0,none⟩) es.length cap)) w':=by
 have hold:∀ b,b<w.heap.size→w'.heap[b]?=w.heap[b]?:=fun b hb=>by rw [hw,Array.getElem?_push,if_neg (by omega)]
 have hnew:w'.heap[w.heap.size]?=some (.cells arr T fz):=by rw [hw];simp
 have hMn:∀ i,M w.heap.size i=none:=by
  intro i
  cases hm:M w.heap.size i with
  | none=>rfl
  | some v=>obtain ⟨arr,T',fz,hx,_⟩:=h.cons _ _ _ hm;simp at hx
 let M':=addM M w.heap.size 0 (es.length*s) arr
 have hmono:∀ b i v,M b i=some v→M' b i=some v:=by
  intro b i v hv
  show addM M w.heap.size 0 (es.length*s) arr b i=some v
  unfold addM
  rw [if_neg (by rintro ⟨rfl,_⟩;rw [hMn] at hv;simp at hv)]
  exact hv
 have hsame:∀ b,b≠w.heap.size→∀ i,M' b i=M b i:=by
  intro b hb i
  show addM M w.heap.size 0 (es.length*s) arr b i=M b i
  unfold addM;rw [if_neg (by rintro ⟨e,_⟩;exact hb e)]
 have hcons:Cons M' w':=by
  intro b i v hv
  by_cases hb:b=w.heap.size
  ·subst hb
   have:addM M w.heap.size 0 (es.length*s) arr w.heap.size i=some v:=hv
   unfold addM at this
   split at this
   ·exact ⟨arr,T,fz,hnew,this⟩
   ·rw [hMn] at this;simp at this
  ·rw [hsame b hb] at hv
   obtain ⟨a',T',fz',hx,hy⟩:=h.cons b i v hv
   exact ⟨a',T',fz',by rw [hold b (Array.getElem?_eq_some_iff.1 hx).1];exact hx,hy⟩
 obtain ⟨k1,k2⟩:=h1s.world (M':=M') (w':=w') hcons hmono
  (fun d id b hB=>by have:=(h.box_lt hB).1;exact ⟨hold b this,hsame b (by omega)⟩)
  (fun b hb=>by have:=(h1s.tot_own hb).1;exact ⟨hold b this,hsame b (by omega)⟩) (by rw [hw];simp)
 have hrel:RowRel M' B s es arr:=hrow.mono hmono
 have hrv:Rv M' B (.slice es [] (if es=[] then false else true)) (.slice (some ⟨w.heap.size,0,none⟩) es.length cap):=by
  refine .slice es [] _ ⟨w.heap.size,0,none⟩ cap s (fun i j=>arr.getD (i*s+j) undef) (fun _=>rfl) (by simpa using hcap) (by intro hx;exact ⟨fun e=>by simp [e] at hx,rfl,fun _=>rfl⟩) ?_ ?_ ?_
  ·intro i e he;rw [List.append_nil] at he;exact hrow.el i e he
  ·intro i e j he hj
   rw [List.append_nil] at he
   have hi:=(List.getElem?_eq_some_iff.1 he).1
   have hlt:i*s+j<es.length*s:=by
    have:(i+1)*s≤es.length*s:=Nat.mul_le_mul_right s hi
    rw [Nat.add_mul] at this;omega
   show addM M w.heap.size 0 (es.length*s) arr w.heap.size (0+i*s+j)=_
   unfold addM
   rw [if_pos ⟨rfl,by omega,by omega⟩,Nat.zero_add]
   have:i*s+j<arr.size:=by have:=hrow.size;omega
   simp [Array.getD_eq_getD_getElem?,this]
  ·intro i e j c he hc
   rw [List.append_nil] at he
   exact hrel.rel i e j c he hc
 have hrv':Rv M' B r (.slice (some ⟨w.heap.size,0,none⟩) es.length cap):=by
  rcases hr with ⟨rfl,hc⟩ | ⟨rfl,rfl⟩
  ·by_cases e:es=[]
   ·subst e
    obtain rfl:=hc rfl
    exact .slice [] [] true ⟨w.heap.size,0,none⟩ 0 s (fun _ _=>undef) (fun _=>rfl) (by simp) (by simp) (by simp) (by simp) (by simp)
   ·simpa [e] using hrv
  ·exact .mk0 s ⟨w.heap.size,0,none⟩ cap ⟨rfl,rfl⟩
 have hHOk:HOk M' w' base B w.heap.size (es.length*s) (cap*s):=by
  refine ⟨h.base,fun d id hB=>by have:=(h.box_lt hB).1;omega,⟨arr,T,fz,hnew,hsz,fun i hi=>hfz i (by omega)⟩,?_⟩
  intro i hi
  show addM M w.heap.size 0 (es.length*s) arr w.heap.size i=none
  unfold addM
  rw [if_neg (by omega)];exact hMn i
 have hna:∀ cs,r ≠ .agg cs:=by rcases hr with ⟨rfl,_⟩ | ⟨rfl,_⟩<;>simp
 have hnt:∀ cs,r ≠ .tuple cs:=by rcases hr with ⟨rfl,_⟩ | ⟨rfl,_⟩<;>simp
 have hhv:hV M' w' base B r (.slice (some ⟨w.heap.size,0,none⟩) es.length cap):=by
  rw [aDu hna hnt]
  rcases hr with ⟨rfl,_⟩ | ⟨rfl,rfl⟩
  ·cases es with
   | nil=>trivial
   | cons e es =>
    have he:=(hrow.el 0 e rfl).2.2.1
    show HOk M' w' base B w.heap.size (0+(es.length+1)*e.cells.length) (0+cap*e.cells.length)
    rw [he,Nat.zero_add,Nat.zero_add]
    exact hHOk
  ·show HOk M' w' base B w.heap.size 0 (0+cap*s)
   rw [Nat.zero_add]
   simpa using hHOk
 have hcnt:∀ b,cV r (.slice (some ⟨w.heap.size,0,none⟩) es.length cap) b≤if b=w.heap.size then 1 else 0:=by
  intro b
  rw [yQ hna hnt]
  unfold c1
  have:∀ x,own1 r (.slice (some ⟨w.heap.size,0,none⟩) es.length cap)=some x→x=w.heap.size:=by
   intro x hx
   rcases hr with ⟨rfl,_⟩ | ⟨rfl,_⟩
   ·cases es with
    | nil=>simp [own1] at hx
    | cons e es=>simp [own1] at hx;exact hx.symm
   ·simp [own1] at hx;exact hx.symm
  split
  ·rename_i e;rw [if_pos (this b e)];exact Nat.le_refl _
  ·omega
 have hz:tot (lv++st.fr) tm w B st.bx w.heap.size=0:=by
  cases hc:tot (lv++st.fr) tm w B st.bx w.heap.size with
  | zero=>rfl
  | succ n=>have:=(h1s.tot_own (b:=w.heap.size) (by simp only;omega)).1;omega
 obtain ⟨q1,q2⟩:=k1.put dst hrv' hhv (fun b=>by
  have e1:=k2 b
  have e2:=hcnt b
  have e3:=h1s.one b
  simp only at e1 e3 ⊢
  split at e2
  ·rename_i e;subst e;omega
  ·omega)
 unfold Aft
 rw [xU,List.append_assoc]
 refine ⟨fB _ _ _,M',B,q1,hos,hta,hou,by rw [hw];simp,hmono,?_,?_,fun d i b hB _=>⟨d,i,hB⟩,fun _ _=>rfl⟩
 ·intro b hb _
  exact ⟨hold b hb,hsame b (by omega)⟩
 ·intro b hb
  have e1:=q2 b
  have e2:=hcnt b
  have e3:=k2 b
  have e4:=ht b
  rw [if_neg (by omega)] at e2
  simp only at e1 e3 ⊢
  omega
end
section
variable {P : Program} {base : Base} {M : Mem} {B : BM} {st : St} {tm : Array Value} {w : World}
theorem aJP (off:Nat):∀ (l:List Value) (k:Nat) (cells:Array Value),off+k+l.length≤cells.size →
  ((l.zipIdx k).foldl (fun cs (c,j)=>cs.setIfInBounds (off+j) c) cells).size=cells.size ∧
  ∀ i,((l.zipIdx k).foldl (fun cs (c,j)=>cs.setIfInBounds (off+j) c) cells)[i]?=if off+k≤i∧i<off+k+l.length then l[i-(off+k)]? else cells[i]?
 | [],k,cells,_=>⟨rfl,fun i=>by simp;intro h1 h2;omega⟩
 | v::l,k,cells,h=>by
  simp only [List.zipIdx_cons,List.foldl_cons]
  simp only [List.length_cons] at h
  obtain ⟨h1,h2⟩:=aJP off l (k+1) (cells.setIfInBounds (off+k) v) (by simp;omega)
  refine ⟨by rw [h1];simp,fun i => ?_⟩
  rw [h2]
  simp only [List.length_cons]
  by_cases e1:off+(k+1)≤i∧i<off+(k+1)+l.length
  ·rw [if_pos e1,if_pos (by omega)]
   rw [show i-(off+k)=(i-(off+(k+1)))+1 by omega];simp
  ·rw [if_neg e1,Array.getElem?_setIfInBounds]
   by_cases e2:off+k=i
   ·subst e2
    rw [if_pos rfl,if_pos (by omega),if_pos (by omega)];simp
   ·rw [if_neg e2,if_neg (by omega)]
theorem aML {place:Nat→Option (Nat×Nat)} {cells:Array Value} {i off size:Nat} {v:Value} {rest:List (Nat×Value)} (hp:place i=some (off,size)) (hs:v.cells.size=size) (hl:off+size≤cells.size) :
  ∃ cells',Instr.fill place cells ((i,v)::rest)=Instr.fill place cells' rest∧cells'.size=cells.size ∧
   ∀ k,cells'[k]?=if off≤k∧k<off+size then v.cells[k-off]? else cells[k]?:=by
 obtain ⟨h1,h2⟩:=aJP off v.cells.toList 0 cells (by simp;omega)
 refine ⟨v.cells.zipIdx.foldl (fun cs (c,j)=>cs.setIfInBounds (off+j) c) cells,?_,?_,?_⟩
 ·simp only [Instr.fill,hp]
  have:(decide (v.cells.size≠size)||decide (off+v.cells.size>cells.size))=false:=by simp;omega
  rw [if_neg (by rw [this];simp)]
 ·rw [← Array.foldl_toList,Array.toList_zipIdx];exact h1
 ·intro k
  rw [← Array.foldl_toList,Array.toList_zipIdx,h2]
  simp only [Nat.add_zero,Array.length_toList,Array.getElem?_toList,hs]
theorem aPH {p:PV} (h:p.solid=true):p.plain.solid=true:=by
 cases p with
 | agg cs =>
  simp only [PV.solid,PV.plain,PV.plainA,List.all_eq_true,List.mem_map] at h ⊢
  rintro c ⟨c0,h0,rfl⟩
  have:=h c0 h0
  cases c0<;>simp_all [PV.plain1,PV.solid1]
 | tuple vs=>simp [PV.solid,PV.solid1] at h
 | _=>simp_all [PV.solid,PV.plain,PV.plainA,PV.plain1,PV.solid1]
theorem aPI {p:PV} (ht:∀ cs,p ≠ .tuple cs):p.plain.cells=p.cells.map PV.plain1:=by
 cases p with
 | tuple vs=>exact absurd rfl (ht vs)
 | agg cs=>simp [PV.plain,PV.plainA,PV.cells]
 | _=>simp [PV.plain,PV.plainA,PV.plain1,PV.cells]
theorem aZ3 {size : Nat} {p e : PV} {v : Value} (h : el size p = some e) (hr : Rv M B p v) : okEl size e ∧ v.cells.size = size ∧ ∀ (j : Nat) (c : PV), e.cells[j]? = some c → Rv M B c (v.cells.getD j undef) := by
  unfold el at h
  split at h
  · rename_i hc
    obtain ⟨h1, h2, h3⟩ := hc
    cases h
    have ht : ∀ cs, p ≠ .tuple cs := by intro cs e; subst e; simp [PV.solid, PV.solid1] at h1
    have hok : okEl size p.plain := ⟨aPH h1, aJI p, by rw [aPI ht]; simpa using h2, h3⟩
    have hrp := hr.plain
    refine ⟨hok, ?_⟩
    cases hr with
    | agg cs vs f hl hf hrr =>
      simp only [PV.cells] at h2
      refine ⟨by show vs.size = size; omega, ?_⟩
      intro j c hc
      have hrp' : Rv M B (.agg (cs.map PV.plain1)) (.agg vs) := hrp
      cases hrp' with
      | agg _ _ g _ hg hrg =>
        have hc' : (cs.map PV.plain1)[j]? = some c := hc
        have hlt := (List.getElem?_eq_some_iff.1 hc').1
        have := hrg j c hc'
        have hgj := hg j hlt
        show Rv M B c (vs.getD j undef)
        simp [Array.getD_eq_getD_getElem?, hgj]
        exact this
    | _ =>
      first
        | (simp [PV.solid, PV.solid1] at h1; done)
        | (refine ⟨by simpa [PV.cells, Value.cells] using h2, ?_⟩
           intro j c hc
           cases j with
           | zero => simp [PV.plain, PV.plainA, PV.plain1, PV.cells] at hc; subst hc; exact hrp
           | succ j => simp [PV.plain, PV.plainA, PV.plain1, PV.cells] at hc)
  · simp at h
theorem aMM {size:Nat} (hs:0<size) {vals:Nat→Value}:∀ (ps:List (Nat×PV)) (vs:List (Nat×Value)) (es es':List PV) (arr:Array Value),
  ps.length=vs.length→(∀ (k:Nat) (x:Nat×PV) (y:Nat×Value),ps[k]?=some x→vs[k]?=some y→x.1=y.1∧Rv M B x.2 y.2) →
  xY size ps es some=some es'→RowRel M B size es arr→arr.size=es.length*size →
  ∃ arr',Instr.fill (fun i=>some (i*size,size)) arr vs=some arr'∧RowRel M B size es' arr'∧arr'.size=arr.size∧es'.length=es.length
 | [],vs,es,es',arr,hl,_,h,hr,hsz=>by
  simp [xY] at h;subst h
  have:vs=[]:=by cases vs<;>simp_all
  subst this
  exact ⟨arr,rfl,hr,rfl,rfl⟩
 | (i,v)::ps,[],es,es',arr,hl,_,h,hr,hsz=>by simp at hl
 | (i,v)::ps,(i',x)::vs,es,es',arr,hl,hrel,h,hr,hsz=>by
  simp only [xY] at h
  obtain ⟨e,he,h⟩:=aB h
  split at h
  ·rename_i hlt
   obtain ⟨rfl,hvx⟩:=hrel 0 (i,v) (i',x) rfl rfl
   obtain ⟨hok,hxs,hcells⟩:=aZ3 he hvx
   have hb:i*size+size≤arr.size:=by
    rw [hsz]
    have:(i+1)*size≤es.length*size:=Nat.mul_le_mul_right size hlt
    rw [Nat.add_mul] at this;omega
   obtain ⟨arr1,h1,h2,h3⟩:=aML (place:=fun i=>some (i*size,size)) (rest:=vs) (i:=i) (cells:=arr) (v:=x) rfl hxs hb
   have hr1:RowRel M B size (putNth es i e) arr1:=by
    refine ⟨hs,?_,?_,?_⟩
    ·rw [fY,List.length_set,h2];exact hr.size
    ·intro k e' hk
     rw [fY,List.getElem?_set] at hk
     split at hk
     ·cases hk;exact hok
     ·exact hr.el k e' hk
    ·intro k e' j c hk hc
     have hok':okEl size e':=by
      have hk2:=hk
      rw [fY,List.getElem?_set] at hk2
      split at hk2
      ·cases hk2;exact hok
      ·exact hr.el k e' hk2
     have hj:j<size:=by
      have h5:=(List.getElem?_eq_some_iff.1 hc).1
      rw [hok'.2.2.1] at h5;exact h5
     rw [Array.getD_eq_getD_getElem?,h3]
     rw [fY,List.getElem?_set] at hk
     by_cases ek:i=k
     ·subst ek
      rw [if_pos rfl,if_pos hlt] at hk
      cases hk
      rw [if_pos (by omega),show i*size+j-i*size=j by omega,← Array.getD_eq_getD_getElem?]
      exact hcells j c hc
     ·rw [if_neg ek] at hk
      have hne:¬ (i*size≤k*size+j∧k*size+j<i*size+size):=by
       rintro ⟨a1,a2⟩
       rcases Nat.lt_or_gt_of_ne ek with hlt' | hlt'
       ·have:(i+1)*size≤k*size:=Nat.mul_le_mul_right size hlt'
        rw [Nat.add_mul] at this;omega
       ·have:(k+1)*size≤i*size:=Nat.mul_le_mul_right size hlt'
        rw [Nat.add_mul] at this;omega
      rw [if_neg hne,← Array.getD_eq_getD_getElem?]
      exact hr.rel k e' j c hk hc
   obtain ⟨arr',q1,q2,q3,q4⟩:=aMM hs (vals:=vals) ps vs (putNth es i e) es' arr1 (by simpa using hl) (fun k x y hx hy=>hrel (k+1) x y (by simpa using hx) (by simpa using hy)) h hr1 (by rw [h2,hsz,fY,List.length_set])
   exact ⟨arr',by rw [h1];exact q1,q2,by omega,by rw [q4,fY,List.length_set]⟩
  ·simp at h
theorem aPJ (zero:Array Value) (n k:Nat) (hk:k<n):((Array.range n).map (zero[· % zero.size]!))[k]?=some (zero[k % zero.size]!):=by simp [hk]
theorem aIG {t e n sz:Nat} {z:PV} {ps:Array (Nat×Operand)} {es:List PV} (a:Act) (htm:a.tmps=tm) (h:SR base M B st tm w)
  (hu:P.underlying t=some (.slice e)) (hsz:szOf P e=some sz) (hz:aFx P e=some z) (hlim:n*sz≤16777216) (hzl:z.cells.length=sz)
  (z':PV) (hz':n=0∨el sz z=some z') (hf:xY sz (ps.toList.map fun p=>(p.1,opv st.fr false p.2)) (List.replicate n z') some=some es) :
  ∃ arr,(Instr.buildSlice t n (ps.map fun (i,x)=>(i,a.eval x))).run P w = .ok (.slice (some ⟨w.heap.size,0,none⟩) n n) {w with heap:=w.heap.push (.cells arr e (0,0))} ∧
   (n=0→es=[])∧(0<n→RowRel M B sz es arr∧es.length=n∧arr.size=n*sz):=by
 obtain ⟨zv,hzr,rfl,_⟩:=pY (P:=P) w hz
 have hops:∀ (k:Nat) (x:Nat×PV) (y:Nat×Value),(ps.toList.map fun p=>(p.1,opv st.fr false p.2))[k]?=some x→(ps.toList.map fun p=>(p.1,a.eval p.2))[k]?=some y→x.1=y.1∧Rv M B x.2 y.2:=by
  intro k x y hx hy
  rw [List.getElem?_map,Option.map_eq_some_iff] at hx hy
  obtain ⟨p,hp,rfl⟩:=hx
  obtain ⟨q,hq,rfl⟩:=hy
  rw [hp] at hq;cases hq
  refine ⟨rfl,?_⟩
  have:=(h.opvF a.defers p.2).1
  rw [← htm] at this
  exact this
 have hpsl:(ps.map fun (i,x)=>(i,a.eval x)).toList=ps.toList.map fun p=>(p.1,a.eval p.2):=by simp
 cases n with
 | zero =>
  have hes:es=[]:=by
   cases hps:ps.toList with
   | nil=>rw [hps] at hf;simp [xY] at hf;exact hf
   | cons x l =>
    rw [hps] at hf
    simp only [List.map_cons,xY] at hf
    obtain ⟨e',_,hf⟩:=aB hf
    simp at hf
  have hps0:ps.toList=[]:=by
   cases hps:ps.toList with
   | nil=>rfl
   | cons x l =>
    rw [hps] at hf
    simp only [List.map_cons,xY] at hf
    obtain ⟨e',_,hf⟩:=aB hf
    simp at hf
  refine ⟨#[],?_,fun _=>hes,fun h0=>by omega⟩
  have hps1:ps = #[]:=by apply Array.ext';simpa using hps0
  subst hps1
  simp only [Instr.buildSlice,Sem.run_bind,run_underlying hu,Result.andThen_ok,dE w hsz,Nat.zero_mul]
  simp [Instr.fill,newRow]
  congr 2
  apply Array.ext'
  simp
 | succ n =>
  have hz2:el sz (ofValue zv)=some z':=by
   rcases hz' with h0 | h0
   ·omega
   ·exact h0
  obtain ⟨hok,hzs,hzc⟩:=aZ3 hz2 (Rv.ofValue (M:=M) (B:=B) zv)
  have hpos:=hok.2.2.2
  let arr0:Array Value:=(Array.range ((n+1)*sz)).map (zv.cells[· % zv.cells.size]!)
  have hr0:RowRel M B sz (List.replicate (n+1) z') arr0:=by
   refine ⟨hpos,by simp [arr0],?_,?_⟩
   ·intro i e' he
    rw [List.getElem?_replicate] at he
    split at he
    ·cases he;exact hok
    ·simp at he
   ·intro i e' j c he hc
    rw [List.getElem?_replicate] at he
    split at he
    ·rename_i hi
     cases he
     have hj:j<sz:=by have:=(List.getElem?_eq_some_iff.1 hc).1;rw [hok.2.2.1] at this;exact this
     have hlt:i*sz+j<(n+1)*sz:=by
      have:(i+1)*sz≤(n+1)*sz:=Nat.mul_le_mul_right sz hi
      rw [Nat.add_mul] at this;omega
     have hcell:=hzc j c hc
     have:arr0.getD (i*sz+j) undef=zv.cells.getD j undef:=by
      simp only [arr0]
      rw [Array.getD_eq_getD_getElem?,aPJ _ _ _ hlt,Option.getD_some,hzs]
      have hm:(i*sz+j) % sz=j:=by rw [Nat.mul_comm,Nat.mul_add_mod];exact Nat.mod_eq_of_lt hj
      rw [hm]
      have hjs:j<zv.cells.size:=by omega
      simp [Array.getD_eq_getD_getElem?,hjs]
     rw [this];exact hcell
    ·simp at he
  obtain ⟨arr',q1,q2,q3,q4⟩:=aMM hpos (vals:=fun _=>undef) _ _ (List.replicate (n+1) z') es arr0 (by simp) hops hf hr0 (by simp [arr0])
  refine ⟨arr',?_,fun h0=>by omega,fun _=>⟨q2,by rw [q4];simp,by rw [q3];simp [arr0]⟩⟩
  have hnz:(n+1)*sz≠0:=by
   exact Nat.ne_of_gt (Nat.mul_pos (Nat.succ_pos n) hpos)
  simp only [Instr.buildSlice,Sem.run_bind,run_underlying hu,Result.andThen_ok,dE w hsz]
  rw [if_neg (by omega:¬ ((n+1)*sz>2 ^ 24)),if_neg hnz]
  simp only [Sem.run_bind,hzr,Result.andThen_ok,Sem.run_pure,hpsl]
  have:Instr.fill (fun i=>some (i*sz,sz)) ((Array.range ((n+1)*sz)).map (zv.cells[· % zv.cells.size]!)) (ps.toList.map fun p=>(p.1,a.eval p.2))=some arr':=q1
  rw [this]
  simp [newRow]
structure AggRel (M:Mem) (w:World) (base:Base) (B:BM) (cs:List PV) (xs:Array Value):Prop where
 size:xs.size=cs.length
 rel:∀ (j:Nat) (c:PV),cs[j]?=some c→Rv M B c (xs.getD j undef)∧h1 M w base B c (xs.getD j undef)
theorem aMN {place : Nat → Option (Nat × Nat × Bool)} {place' : Nat → Option (Nat × Nat)} (hpl : ∀ i off n ag, place i = some (off, n, ag) → place' i = some (off, n)) :
  ∀ (ps : List (Nat × PV)) (vs : List (Nat × Value)) (cs cs' : List PV) (xs : Array Value), ps.length = vs.length →
  (∀ (k : Nat) (x : Nat × PV) (y : Nat × Value), ps[k]? = some x → vs[k]? = some y → x.1 = y.1 ∧ Rv M B x.2 y.2 ∧ hV M w base B x.2 y.2) →
  aB6 place ps cs some = some cs' → AggRel M w base B cs xs →
  ∃ xs', Instr.fill place' xs vs = some xs' ∧ AggRel M w base B cs' xs' ∧
   ∀ b, bV cs'.length (fun j => c1 (cs'.getD j .bot) (xs'.getD j undef) b) ≤ bV cs.length (fun j => c1 (cs.getD j .bot) (xs.getD j undef) b) + sumL (fun x => cV x.1.2 x.2.2 b) (ps.zip vs)
 | [], vs, cs, cs', xs, hl, _, h, hr => by
  simp [aB6] at h; subst h
  have : vs = [] := by cases vs <;> simp_all
  subst this
  exact ⟨xs, rfl, hr, fun b => by simp [sumL]⟩
 | (i, v) :: ps, [], cs, cs', xs, hl, _, h, hr => by simp at hl
 | (i, v) :: ps, (i', x) :: vs, cs, cs', xs, hl, hrel, h, hr => by
  simp only [aB6] at h
  split at h
  ·rename_i off n ag hpi
   obtain ⟨ws, hws, h⟩ := aB h
   split at h
   ·rename_i hle
    obtain ⟨rfl, hvx, hvh⟩ := hrel 0 (i, v) (i', x) rfl rfl
    simp only at hvx hvh
    obtain ⟨q1, q2, q3, q4, q5⟩ := aG4 hws hvx
    obtain ⟨xs1, h1', h2', h3'⟩ := aML (place := place') (rest := vs) (i := i) (cells := xs) (v := x) (hpl _ _ _ _ hpi) q2 (by rw [hr.size]; exact hle)
    have hget : ∀ j, (putAt cs off ws)[j]? = if off ≤ j ∧ j < off + n then ws[j - off]? else cs[j]? := by
     intro j; rw [gZ _ _ _ _ (by omega), q1]
    have hxget : ∀ j, xs1.getD j undef = if off ≤ j ∧ j < off + n then x.cells.getD (j - off) undef else xs.getD j undef := by
     intro j
     rw [Array.getD_eq_getD_getElem?, h3']
     split <;> rw [← Array.getD_eq_getD_getElem?]
    have hr1 : AggRel M w base B (putAt cs off ws) xs1 := by
     refine ⟨by rw [h2', hr.size, dL], ?_⟩
     intro j c hc
     rw [hget] at hc
     rw [hxget]
     split at hc
     ·rename_i e; rw [if_pos e]; exact ⟨q3 _ c hc, q5 w base hvh _ c hc⟩
     ·rename_i e; rw [if_neg e]; exact hr.rel j c hc
    obtain ⟨xs', r1, r2, r3⟩ := aMN hpl ps vs (putAt cs off ws) cs' xs1 (by simpa using hl) (fun k a b ha hb => hrel (k + 1) a b (by simpa using ha) (by simpa using hb)) h hr1
    refine ⟨xs', by rw [h1']; exact r1, r2, fun b => ?_⟩
    have e1 := r3 b
    have e2 := vI (f := fun j => c1 (cs.getD j .bot) (xs.getD j undef) b) (f' := fun j => c1 ((putAt cs off ws).getD j .bot) (xs1.getD j undef) b) (g := fun j => c1 (ws.getD j .bot) (x.cells.getD j undef) b) (len := cs.length) (off := off) n hle
     (fun k hk hn => by
      simp only [List.getD_eq_getElem?_getD]
      rw [hget, if_neg hn, hxget, if_neg hn])
     (fun j hj => by
      simp only [List.getD_eq_getElem?_getD]
      rw [hget, if_pos (by omega), hxget, if_pos (by omega), show off + j - off = j by omega])
    have e3 := q4 b
    rw [q1] at e3
    rw [dL] at e1
    simp only [List.zip_cons_cons, sumL]
    omega
   ·simp at h
  ·simp at h
theorem aPK {z:Array Value}:AggRel M w base B (z.toList.map ofAtom) z∧∀ b,bV (z.toList.map ofAtom).length (fun j=>c1 ((z.toList.map ofAtom).getD j .bot) (z.getD j undef) b)=0:=by
 constructor
 ·refine ⟨by simp,?_⟩
  intro j c hc
  rw [List.getElem?_map,Option.map_eq_some_iff] at hc
  obtain ⟨v,hv,rfl⟩:=hc
  rw [Array.getElem?_toList] at hv
  simp only [Array.getD_eq_getD_getElem?,hv,Option.getD_some]
  exact ⟨Rv.ofAtom v,tY (rY v)⟩
 ·intro b
  apply gA
  intro j hj
  simp only [List.length_map,Array.length_toList] at hj
  simp [List.getD_eq_getElem?_getD,Array.getD_eq_getD_getElem?,hj,c1,rY]
theorem AggRel.done {cs:List PV} {xs:Array Value} (h:AggRel M w base B cs xs):Rv M B (.agg cs) (.agg xs)∧hV M w base B (.agg cs) (.agg xs):=by
 have hg:∀ i,i<cs.length→xs[i]?=some (xs.getD i undef):=by
  intro i hi
  have:i<xs.size:=by rw [h.size];exact hi
  simp [Array.getD_eq_getD_getElem?,this]
 refine ⟨.agg cs xs (fun i=>xs.getD i undef) h.size hg fun i c hc=>(h.rel i c hc).1,?_⟩
 intro x hx
 simp only [atoms,zipA] at hx
 obtain ⟨i,hi⟩:=List.mem_iff_getElem?.1 hx
 rw [List.getElem?_zip_eq_some] at hi
 obtain ⟨i1,i2⟩:=hi
 have:=(h.rel i x.1 i1).2
 have hlt:=(List.getElem?_eq_some_iff.1 i1).1
 rw [Array.getElem?_toList,hg i hlt] at i2
 rw [← Option.some.inj i2];exact this
theorem lefts (h:SR base M B st tm w) (d:List Deferred):∀ (ps:List (Nat×Operand)),
  (∀ (k:Nat) (x:Nat×PV) (y:Nat×Value),(ps.map fun p=>(p.1,opv st.fr true p.2))[k]?=some x→(ps.map fun p=>(p.1,(Act.mk tm d).eval p.2))[k]?=some y→x.1=y.1∧Rv M B x.2 y.2∧hV M w base B x.2 y.2)
 | ps=>by
  intro k x y hx hy
  rw [List.getElem?_map,Option.map_eq_some_iff] at hx hy
  obtain ⟨p,hp,rfl⟩:=hx
  obtain ⟨q,hq,rfl⟩:=hy
  rw [hp] at hq;cases hq
  obtain ⟨r1,r2,_,_⟩:=h.opvT d true p.2
  exact ⟨rfl,r1,r2⟩
end
section
variable {P : Program} {base : Base} {M : Mem} {B : BM} {st : St} {tm : Array Value} {w : World}
theorem yV {t u ty e:TypeId} {i:TypeInfo} {d:TypeDesc} (ht:P.underlying t=some (.slice e)) (hu:P.underlying u=some d) (hd:∀ k,d ≠ .int k) (hi:P.info? e=some i)
  (bs:Option Addr) (sLen sCap:Nat) (hc:sLen≤sCap) (y:Value) (hl:(Builtin.lenOf y).run P w = .ok 0 w) (hf:(Builtin.firstCells i.size 0 y).run P w = .ok #[] w) :
  (Builtin.append_ #[t,u] ty #[.slice bs sLen sCap,y]).run P w = .ok (.slice bs sLen sCap) w:=by
 have hz:(match d with | .int _=>true | _=>false)=false:=by cases d<;>first | rfl | exact absurd rfl (hd _)
 cases bs with
 | none =>
  simp only [Builtin.append_,List.getElem?_toArray,List.getElem?_cons_zero,List.getElem?_cons_succ,Sem.run_bind,run_underlying ht,Result.andThen_ok,sizeOf,typeInfo,run_program,hi,Sem.run_pure,run_underlying hu]
  cases d<;>first | exact absurd rfl (hd _) | simp [hl,hf,hc]
 | some a =>
  simp only [Builtin.append_,List.getElem?_toArray,List.getElem?_cons_zero,List.getElem?_cons_succ,Sem.run_bind,run_underlying ht,Result.andThen_ok,sizeOf,typeInfo,run_program,hi,Sem.run_pure,run_underlying hu]
  cases d<;>first | exact absurd rfl (hd _) | simp [hl,hf,hc,storeCells]
theorem aIH {t u ty e : TypeId} {i : TypeInfo} {d : TypeDesc} (ht : P.underlying t = some (.slice e)) (hu : P.underlying u = some d) (hd : ∀ k, d ≠ .int k) (hi : P.info? e = some i)
  (g o sLen sCap m : Nat) (hc : sLen + m ≤ sCap) (y : Value) (news : List Value) (hl : (Builtin.lenOf y).run P w = .ok m w) (hf : (Builtin.firstCells i.size m y).run P w = .ok news.toArray w)
  {arr : Array Value} {T : TypeId} {fz : Nat × Nat} (hrow : w.heap[g]? = some (.cells arr T fz)) (hsz : o + sLen * i.size + news.length ≤ arr.size) (h1 : ∀ v ∈ news, v.oneCell' = true)
  (hfz : ∀ j, j < news.length → ¬ (fz.1 ≤ o + sLen * i.size + j ∧ o + sLen * i.size + j < fz.2)) :
  (Builtin.append_ #[t, u] ty #[.slice (some ⟨g, o, none⟩) sLen sCap, y]).run P w = .ok (.slice (some ⟨g, o, none⟩) (sLen + m) sCap)
   (w.setRow g (arr.toList.take (o + sLen * i.size) ++ news ++ arr.toList.drop (o + sLen * i.size + news.length)).toArray) := by
 have hst := mD P g (o + sLen * i.size) T fz news 0 arr w hrow (by omega) h1 (by simpa using hfz)
 simp only [Nat.add_zero] at hst
 have ha : (⟨g, o, none⟩ : Addr).add (sLen * i.size) = ⟨g, o + sLen * i.size, none⟩ := Addr.add_none _ _ rfl
 simp only [Builtin.append_, List.getElem?_toArray, List.getElem?_cons_zero, List.getElem?_cons_succ, Sem.run_bind, run_underlying ht, Result.andThen_ok, sizeOf, typeInfo, run_program, hi, Sem.run_pure, run_underlying hu]
 cases d <;> first | exact absurd rfl (hd _) | simp [hl, hf, hc, ha, hst]
theorem aBR {t u ty e:TypeId} {i:TypeInfo} {d:TypeDesc} {z:Value} (ht:P.underlying t=some (.slice e)) (hu:P.underlying u=some d) (hd:∀ k,d ≠ .int k) (hi:P.info? e=some i) (hz:i.zero=some z)
  (bs:Option Addr) (sLen sCap m:Nat) (hc:sCap<sLen+m) (y:Value) (olds news:List Value) (hl:(Builtin.lenOf y).run P w = .ok m w)
  (hf:(Builtin.firstCells i.size m y).run P w.drew = .ok news.toArray w.drew) (ho:(Builtin.firstCells i.size sLen (.slice bs sLen sCap)).run P w.drew = .ok olds.toArray w.drew)
  (hlim:(sLen+m)*i.bytes≤140737488355328) (h63:sLen+m≤9223372036854775807) :
  ∃ cap,sLen+m≤cap∧(Builtin.append_ #[t,u] ty #[.slice bs sLen sCap,y]).run P w = .ok (.slice (some ⟨w.heap.size,0,none⟩) (sLen+m) cap)
   (w.drew.alloc (.cells (olds.toArray++news.toArray++Builtin.zeroCells z.cells (cap-(sLen+m))) e)):=by
 refine ⟨grownCap w (sLen+m) sCap e,by simp only [grownCap,Question.cut];omega,?_⟩
 have hn:¬ (sLen+m≤sCap):=by omega
 have h63':¬ (9223372036854775807<((sLen:Int)+(m:Int))):=by omega
 have h48':¬ (281474976710656<Builtin.nextslicecap (sLen+m) sCap*i.bytes):=by
  have:=growslice_fits (bytes:=i.bytes) hc hlim
  omega
 simp [Builtin.append_,run_underlying ht,run_underlying hu,hd,sizeOf,typeInfo,zeroValue,hi,hz,hl,hn,h63',h48',Question.forced,hf,ho,newRow,grownCap]
 congr 2
 apply Array.ext'
 simp [List.append_assoc]
structure ElRel (M:Mem) (B:BM) (s:Nat) (es:List PV) (g:Nat→Value):Prop where
 el:∀ (i:Nat) (e:PV),es[i]?=some e→okEl s e
 rel:∀ (i:Nat) (e:PV) (j:Nat) (c:PV),es[i]?=some e→e.cells[j]?=some c→Rv M B c (g (i*s+j))∧(g (i*s+j)).oneCell'=true
theorem aKB {s:Nat} {e c:PV} {j:Nat} {v:Value} (he:okEl s e) (hc:e.cells[j]?=some c) (hr:Rv M B c v):v.oneCell'=true:=by
 have h1:=he.cell hc
 exact hr.oneCell (d:=0) (by cases c<;>simp_all [PV.solid1,fits])
theorem aCb {es bs:List PV} {o:Bool} {a:Addr} {len cap:Nat} (h:Rv M B (.slice es bs o) (.slice (some a) len cap)) (hc:Cons M w) {s:Nat} (hs:szOk s es=true) :
  ∃ g:Nat→Value,ElRel M B s es g∧len=es.length∧∀ w':World,w'.heap=w.heap→(Builtin.firstCells s es.length (.slice (some a) len cap)).run P w' = .ok ((List.range (es.length*s)).map g).toArray w':=by
 cases h with
 | slice _ _ _ _ _ s0 f ha hcap ho hel hm hr =>
  by_cases hne:es=[]
  ·subst hne
   refine ⟨fun _=>undef,⟨by simp,by simp⟩,rfl,?_⟩
   intro w' _
   simp [Builtin.firstCells,loadCells,loadCellsFrom]
  ·have hin:∀ (i:Nat) (e:PV),es[i]?=some e→(es++bs)[i]?=some e:=by
    intro i e he;rw [List.getElem?_append_left (List.getElem?_eq_some_iff.1 he).1];exact he
   have hss:s0=s:=aPD (fun i e he=>hel i e (hin i e he)) hs hne
   subst hss
   have hpos:0<s0:=by
    cases es with
    | nil=>exact absurd rfl hne
    | cons e es=>exact (hel 0 e rfl).2.2.2
   refine ⟨fun k=>f (k / s0) (k % s0),⟨fun i e he=>hel i e (hin i e he),?_⟩,rfl,?_⟩
   ·intro i e j c he hcj
    have hok:=hel i e (hin i e he)
    have hj:j<s0:=by have:=(List.getElem?_eq_some_iff.1 hcj).1;rw [hok.2.2.1] at this;exact this
    have e1:(i*s0+j) / s0=i:=by rw [Nat.mul_comm,Nat.mul_add_div hpos,Nat.div_eq_of_lt hj];rfl
    have e2:(i*s0+j) % s0=j:=by rw [Nat.mul_comm,Nat.mul_add_mod];exact Nat.mod_eq_of_lt hj
    simp only [e1,e2]
    have:=hr i e j c (hin i e he) hcj
    exact ⟨this,aKB hok hcj this⟩
   ·intro w' hw'
    simp only [Builtin.firstCells]
    apply run_loadCells
    intro k hk
    have hlt:k / s0<es.length:=Nat.div_lt_of_lt_mul (by rw [Nat.mul_comm];exact hk)
    have he:=List.getElem?_eq_getElem hlt
    have:=hm (k / s0) _ (k % s0) (hin _ _ he) (Nat.mod_lt _ hpos)
    obtain ⟨arr,T,fz,hrow,hg⟩:=hc _ _ _ this
    rw [Addr.add_none a k (ha (Nat.lt_of_lt_of_le (Nat.zero_lt_of_lt hlt) (by omega)))]
    have e3:a.off+k / s0*s0+k % s0=a.off+k:=by have:=Nat.div_add_mod k s0;rw [Nat.mul_comm] at this;omega
    rw [e3] at hg
    simp [World.cell?,hw',hrow,hg]
theorem ElRel.row {A E:List PV} {g1 g2:Nat→Value} {s:Nat} {rest:Array Value} (h1:ElRel M B s A g1) (h2:ElRel M B s E g2) (hs:0<s) :
  RowRel M B s (A++E) (((List.range (A.length*s)).map g1).toArray++((List.range (E.length*s)).map g2).toArray++rest):=by
 have hget:∀ k,k<(A.length+E.length)*s→(((List.range (A.length*s)).map g1).toArray++((List.range (E.length*s)).map g2).toArray++rest).getD k undef=if k<A.length*s then g1 k else g2 (k-A.length*s):=by
  intro k hk
  rw [Nat.add_mul] at hk
  rw [Array.getD_eq_getD_getElem?,Array.getElem?_append_left (by simp;omega)]
  by_cases e:k<A.length*s
  ·rw [if_pos e,Array.getElem?_append_left (by simpa using e)]
   simp [e]
  ·rw [if_neg e,Array.getElem?_append_right (by simp;omega)]
   have:k-A.length*s<E.length*s:=by omega
   simp [this]
 refine ⟨hs,by simp [Nat.add_mul],?_,?_⟩
 ·intro i e he
  by_cases hi:i<A.length
  ·rw [List.getElem?_append_left hi] at he;exact h1.el i e he
  ·rw [List.getElem?_append_right (by omega)] at he;exact h2.el _ e he
 ·intro i e j c he hc
  have hok:okEl s e:=by
   by_cases hi:i<A.length
   ·rw [List.getElem?_append_left hi] at he;exact h1.el i e he
   ·rw [List.getElem?_append_right (by omega)] at he;exact h2.el _ e he
  have hj:j<s:=by have:=(List.getElem?_eq_some_iff.1 hc).1;rw [hok.2.2.1] at this;exact this
  have hil:i<A.length+E.length:=by have:=(List.getElem?_eq_some_iff.1 he).1;simpa using this
  have hlt:i*s+j<(A.length+E.length)*s:=by
   have:(i+1)*s≤(A.length+E.length)*s:=Nat.mul_le_mul_right s hil
   rw [Nat.add_mul] at this;omega
  rw [hget _ hlt]
  by_cases hi:i<A.length
  ·rw [List.getElem?_append_left hi] at he
   have:i*s+j<A.length*s:=by
    have:(i+1)*s≤A.length*s:=Nat.mul_le_mul_right s hi
    rw [Nat.add_mul] at this;omega
   rw [if_pos this];exact (h1.rel i e j c he hc).1
  ·rw [List.getElem?_append_right (by omega)] at he
   have h5:A.length*s≤i*s:=Nat.mul_le_mul_right s (by omega)
   rw [if_neg (by omega),show i*s+j-A.length*s=(i-A.length)*s+j by rw [Nat.sub_mul];omega]
   exact (h2.rel _ e j c he hc).1
theorem bAx (h : SR base M B st tm w) {dst : Option Nat} {lv : List (Nat × PV)} (h1s : SR base M B { st with fr := lv ++ st.fr } tm w) {p : PV} {ad : Addr} {cap s : Nat} {A E : List PV} {g2 : Nat → Value}
  (hs : 0 < s) (hA : ElRel M B s A (fun k => ((M ad.block (ad.off + k)).getD undef))) (hAm : ∀ k, k < A.length * s → (M ad.block (ad.off + k)).isSome = true) (hE : ElRel M B s E g2) (hne : E ≠ [])
  (hsp : ad.spot = none) (hof : ad.off = 0) (hk : HOk M w base B ad.block (ad.off + A.length * s) (ad.off + cap * s)) (hroom : A.length + E.length ≤ cap)
  (hown : own1 p (.slice (some ad) A.length cap) = some ad.block) (hc1 : cV p (.slice (some ad) A.length cap) ad.block = 1)
  (ht : ∀ b, tot (lv ++ st.fr) tm w B st.bx b + cV p (.slice (some ad) A.length cap) b ≤ tot st.fr tm w B st.bx b)
  {arr : Array Value} {T : TypeId} {fz : Nat × Nat} (hrow : w.heap[ad.block]? = some (.cells arr T fz)) (hsz : ad.off + cap * s ≤ arr.size) :
  Aft base M B st tm w { ws := dstW tm.size dst (.slice (A ++ E) [] true) ++ lv } (putT tm dst (.slice (some ad) (A.length + E.length) cap))
   (w.setRow ad.block (arr.toList.take (ad.off + A.length * s) ++ (List.range (E.length * s)).map g2 ++ arr.toList.drop (ad.off + A.length * s + ((List.range (E.length * s)).map g2).length)).toArray) := by
 have hfits : ad.off + A.length * s + ((List.range (E.length * s)).map g2).length ≤ arr.size := by
  simp only [List.length_map, List.length_range]
  have : (A.length + E.length) * s ≤ cap * s := Nat.mul_le_mul_right s hroom
  rw [Nat.add_mul] at this; omega
 generalize hnew : (arr.toList.take (ad.off + A.length * s) ++ (List.range (E.length * s)).map g2 ++ arr.toList.drop (ad.off + A.length * s + ((List.range (E.length * s)).map g2).length)).toArray = arr'
 have hsize : arr'.size = arr.size := by rw [← hnew]; exact aSe _ _ _ hfits
 have hget : ∀ j, arr'[j]? = if ad.off + A.length * s ≤ j ∧ j < ad.off + A.length * s + E.length * s then some (g2 (j - (ad.off + A.length * s))) else arr[j]? := by
  intro j
  rw [← hnew, aVN _ _ _ hfits]
  simp only [List.length_map, List.length_range]
  split
  ·rename_i e
   have : j - (ad.off + A.length * s) < E.length * s := by omega
   simp [this]
  ·rfl
 let w' := w.setRow ad.block arr'
 let lo := ad.off + A.length * s
 let M' := addM M ad.block lo (lo + E.length * s) arr'
 have hM' : ∀ b i, M' b i = if b = ad.block ∧ lo ≤ i ∧ i < lo + E.length * s then arr'[i]? else M b i := fun _ _ => rfl
 have hrow' : w'.heap[ad.block]? = some (.cells arr' T fz) := setRow_heap w ad.block arr arr' T _ hrow
 have hother : ∀ b, b ≠ ad.block → w'.heap[b]? = w.heap[b]? := fun b hb => setRow_other w ad.block b arr' hb
 have hmono : ∀ b i v, M b i = some v → M' b i = some v := by
  intro b i v hv
  rw [hM', if_neg (by rintro ⟨rfl, h2, _⟩; rw [hk.free i h2] at hv; simp at hv)]
  exact hv
 have hsame : ∀ b, b ≠ ad.block → ∀ i, M' b i = M b i := fun b hb i => by rw [hM', if_neg (by rintro ⟨e, _⟩; exact hb e)]
 have hcons : Cons M' w' := by
  intro b i v hv
  by_cases hb : b = ad.block
  ·subst hb
   rw [hM'] at hv
   split at hv
   ·exact ⟨arr', T, fz, hrow', hv⟩
   ·rename_i hn
    obtain ⟨a1, T1, f1, x1, x2⟩ := h.cons _ i v hv
    rw [hrow] at x1; cases x1
    refine ⟨arr', T, fz, hrow', ?_⟩
    have hlt : ¬ lo ≤ i := by intro hle; rw [hk.free i hle] at hv; simp at hv
    rw [hget, if_neg (by show ¬ (lo ≤ i ∧ _); omega)]; exact x2
  ·rw [hsame b hb] at hv
   obtain ⟨a1, T1, f1, x1, x2⟩ := h.cons b i v hv
   exact ⟨a1, T1, f1, by rw [hother b hb]; exact x1, x2⟩
 have hz : tot (lv ++ st.fr) tm w B st.bx ad.block = 0 := by
  have := ht ad.block; have := h.one ad.block; omega
 obtain ⟨k1, k2⟩ := h1s.world (M' := M') (w' := w') hcons hmono
  (fun d id b hB => by
   have hb : b ≠ ad.block := by intro e; subst e; exact hk.nobox d id hB
   exact ⟨hother b hb, hsame b hb⟩)
  (fun b hb1 => by
   have hb : b ≠ ad.block := by intro e; subst e; simp only at hb1; omega
   exact ⟨hother b hb, hsame b hb⟩) (by simp [w'])
 have hAn : (A ++ E) ≠ [] := by simp [hne]
 have hcellM : ∀ i e j, (A ++ E)[i]? = some e → j < s → M' ad.block (ad.off + i * s + j) = some (if i < A.length then (M ad.block (ad.off + (i * s + j))).getD undef else g2 ((i - A.length) * s + j)) := by
  intro i e j he hj
  have hil : i < A.length + E.length := by have := (List.getElem?_eq_some_iff.1 he).1; simpa using this
  by_cases hi : i < A.length
  ·have hlt : i * s + j < A.length * s := by
    have : (i + 1) * s ≤ A.length * s := Nat.mul_le_mul_right s hi
    rw [Nat.add_mul] at this; omega
   rw [if_pos hi, hM', if_neg (by show ¬ (_ ∧ lo ≤ _ ∧ _); omega), show ad.off + i * s + j = ad.off + (i * s + j) by omega]
   have := hAm _ hlt
   cases hm : M ad.block (ad.off + (i * s + j)) with
   | none => rw [hm] at this; simp at this
   | some v => rfl
  ·have hge : A.length * s ≤ i * s := Nat.mul_le_mul_right s (by omega)
   have hlt : i * s + j < (A.length + E.length) * s := by
    have : (i + 1) * s ≤ (A.length + E.length) * s := Nat.mul_le_mul_right s hil
    rw [Nat.add_mul] at this; omega
   rw [Nat.add_mul] at hlt
   have hin : lo ≤ ad.off + i * s + j ∧ ad.off + i * s + j < lo + E.length * s := by show ad.off + A.length * s ≤ _ ∧ _ < ad.off + A.length * s + E.length * s; omega
   rw [if_neg hi, hM', if_pos ⟨rfl, hin⟩, hget, if_pos hin]
   congr 2
   rw [Nat.sub_mul]; omega
 have hok : ∀ (i : Nat) (e : PV), (A ++ E)[i]? = some e → okEl s e := by
  intro i e he
  by_cases hi : i < A.length
  ·rw [List.getElem?_append_left hi] at he; exact hA.el i e he
  ·rw [List.getElem?_append_right (by omega)] at he; exact hE.el _ e he
 have hrv : Rv M' B (.slice (A ++ E) [] true) (.slice (some ad) (A.length + E.length) cap) := by
  have e1 : A.length + E.length = (A ++ E).length := by simp
  rw [e1]
  refine .slice (A ++ E) [] true ad cap s (fun i j => if i < A.length then (M ad.block (ad.off + (i * s + j))).getD undef else g2 ((i - A.length) * s + j)) (fun _ => hsp) (by simpa using hroom) (by intro _; exact ⟨fun e => absurd e hAn, rfl, fun _ => hof⟩) ?_ ?_ ?_
  ·intro i e he; rw [List.append_nil] at he; exact hok i e he
  ·intro i e j he hj; rw [List.append_nil] at he; exact hcellM i e j he hj
  ·intro i e j c he hc
   rw [List.append_nil] at he
   by_cases hi : i < A.length
   ·rw [List.getElem?_append_left hi] at he
    simp only [if_pos hi]
    exact ((hA.rel i e j c he hc).1).mono hmono (fun _ _ _ hx => hx)
   ·rw [List.getElem?_append_right (by omega)] at he
    simp only [if_neg hi]
    exact ((hE.rel _ e j c he hc).1).mono hmono (fun _ _ _ hx => hx)
 have hHOk : HOk M' w' base B ad.block (ad.off + (A.length + E.length) * s) (ad.off + cap * s) := by
  obtain ⟨o, nb, ⟨a1, T1, f1, x1, x2, x3⟩, fr⟩ := hk
  rw [hrow] at x1; cases x1
  refine ⟨o, nb, ⟨arr', T, fz, hrow', by omega, x3⟩, ?_⟩
  intro i hi
  rw [Nat.add_mul] at hi
  rw [hM', if_neg (by show ¬ (_ ∧ _ ∧ i < ad.off + A.length * s + E.length * s); omega)]
  exact fr i (by omega)
 have hhv : hV M' w' base B (.slice (A ++ E) [] true) (.slice (some ad) (A.length + E.length) cap) := by
  rw [aDu (by simp) (by simp)]
  obtain ⟨e0, l0, hl0⟩ : ∃ e0 l0, A ++ E = e0 :: l0 := by
   cases hAE : A ++ E with
   | nil => exact absurd hAE hAn
   | cons e0 l0 => exact ⟨e0, l0, rfl⟩
  have hs0 := (hok 0 e0 (by rw [hl0]; rfl)).2.2.1
  rw [hl0]
  show HOk M' w' base B ad.block (ad.off + (A.length + E.length) * e0.cells.length) (ad.off + cap * e0.cells.length)
  rw [hs0]; exact hHOk
 have hcnt : ∀ b, cV (.slice (A ++ E) [] true) (.slice (some ad) (A.length + E.length) cap) b ≤ if b = ad.block then 1 else 0 := by
  intro b
  rw [yQ (by simp) (by simp)]
  unfold c1
  split
  ·rename_i e
   have : own1 (.slice (A ++ E) [] true) (.slice (some ad) (A.length + E.length) cap) = some ad.block := by
    cases hAE : A ++ E with
    | nil => exact absurd hAE hAn
    | cons e0 l0 => rfl
   rw [this] at e
   rw [if_pos (Option.some.inj e).symm]; exact Nat.le_refl _
  ·omega
 obtain ⟨q1, q2⟩ := k1.put dst hrv hhv (fun b => by
  have e1 := k2 b
  have e2 := hcnt b
  have e3 := h1s.one b
  simp only at e1 e3 ⊢
  split at e2
  ·rename_i e; subst e; omega
  ·omega)
 show Aft base M B st tm w _ _ w'
 unfold Aft
 rw [xU, List.append_assoc]
 refine ⟨fB _ _ _, M', B, q1, rfl, rfl, rfl, by simp [w'], hmono, ?_, ?_, fun d i b hB _ => ⟨d, i, hB⟩, fun _ _ => rfl⟩
 ·intro b hb hnt
  have hb' : b ≠ ad.block := by
   intro e; subst e
   apply hnt; left
   have := ht ad.block; omega
  exact ⟨hother b hb', hsame b hb'⟩
 ·intro b hb
  have e1 := q2 b
  have e2 := hcnt b
  have e3 := k2 b
  have e4 := ht b
  simp only at e1 e3 ⊢
  split at e2
  ·rename_i e; subst e; omega
  ·omega
end
section
variable {P : Program} {base : Base} {M : Mem} {B : BM} {st : St} {tm : Array Value} {w : World}
theorem vL {i:TypeInfo} (h:yL i=true):∃ z,i.zero=some z∧z.cells.size=i.size:=by
 unfold yL at h
 split at h
 ·rename_i z hz;exact ⟨z,hz,by simpa using h⟩
 ·simp at h
theorem aA2 (h : SR base M B st tm w) {dst : Option Nat} {lv : List (Nat × PV)} (h1s : SR base M B { st with fr := lv ++ st.fr } tm w) {p : PV} {v : Value} (hr : Rv M B p v) (hh : hV M w base B p v)
  (ht : ∀ b, tot (lv ++ st.fr) tm w B st.bx b + cV p v b ≤ tot st.fr tm w B st.bx b)
  {t u ty e : TypeId} {i : TypeInfo} {d : TypeDesc} (hut : P.underlying t = some (.slice e)) (hu : P.underlying u = some d) (hd : ∀ k, d ≠ .int k) (hi : P.info? e = some i)
  (hs : 0 < i.size) (hby : i.bytes ≤ 512) (hz : yL i = true) {y : Value} {E : List PV} {g2 : Nat → Value} (hE : ElRel M B i.size E g2) (hl : (Builtin.lenOf y).run P w = .ok E.length w)
  (hf : ∀ w' : World, w'.heap = w.heap → (Builtin.firstCells i.size E.length y).run P w' = .ok ((List.range (E.length * i.size)).map g2).toArray w') {r : PV} {A : List PV}
  (hp : (∃ bs, p = .slice A bs true ∧ szOk i.size A = true ∧ r = .slice (A ++ E) [] true) ∨ (p = .mk0 i.size ∧ A = [] ∧ r = slOr i.size E)) (hlim : A.length + E.length ≤ lim) :
  ∃ v' w', (Builtin.append_ #[t, u] ty #[v, y]).run P w = .ok v' w' ∧ Aft base M B st tm w { ws := dstW tm.size dst r ++ lv } (putT tm dst v') w' := by
 obtain ⟨z, hzz, hzs⟩ := vL hz
 -- the handle
 have hform : ∃ bs cap, v = .slice bs A.length cap ∧ A.length ≤ cap ∧ (bs = none → A = [] ∧ cap = 0) := by
  rcases hp with ⟨bs, rfl, _, _⟩ | ⟨rfl, rfl, _⟩
  ·cases hr with
   | nil o => exact ⟨none, 0, rfl, by simp, fun _ => ⟨rfl, rfl⟩⟩
   | slice _ _ _ ad cap s f ha hc ho hel hm hrr => exact ⟨some ad, cap, rfl, by omega, by simp⟩
  ·cases hr with
   | mk0 sz ad cap ha => exact ⟨some ad, cap, rfl, by simp, by simp⟩
 obtain ⟨bs, cap, rfl, hcap, hnil⟩ := hform
 by_cases hne : E = []
 ·subst hne
  have hr0 : r = p := by
   rcases hp with ⟨b0, rfl, _, rfl⟩ | ⟨rfl, rfl, rfl⟩
   ·cases hr with
    | nil o => rfl
    | slice _ _ _ ad cap s f ha hc ho hel hm hrr => rw [(ho rfl).2.1, List.append_nil]
   ·rfl
  have hf0 := hf w rfl
  simp only [List.length_nil, Nat.zero_mul, List.range_zero, List.map_nil] at hf0
  refine ⟨_, w, yV (P := P) (ty := ty) hut hu hd hi bs A.length cap hcap y hl hf0, ?_⟩
  rw [hr0]
  exact aKx h h1s hr hh ht
 ·by_cases hroom : A.length + E.length ≤ cap
  ·-- room: the handle is in memory
   obtain ⟨ad, rfl⟩ : ∃ ad, bs = some ad := by
    cases bs with
    | none => obtain ⟨_, rfl⟩ := hnil rfl; exfalso; apply hne; cases E with
     | nil => rfl
     | cons a l => simp at hroom
    | some ad => exact ⟨ad, rfl⟩
   have hEl : 0 < E.length := by cases E with
    | nil => exact absurd rfl hne
    | cons a l => simp
   have key : ad.spot = none ∧ ad.off = 0 ∧ HOk M w base B ad.block (ad.off + A.length * i.size) (ad.off + cap * i.size) ∧ own1 p (.slice (some ad) A.length cap) = some ad.block ∧
     cV p (.slice (some ad) A.length cap) ad.block = 1 ∧ ElRel M B i.size A (fun k => ((M ad.block (ad.off + k)).getD undef)) ∧ (∀ k, k < A.length * i.size → (M ad.block (ad.off + k)).isSome = true) ∧ r = .slice (A ++ E) [] true := by
    rcases hp with ⟨b0, rfl, hsz, rfl⟩ | ⟨rfl, rfl, rfl⟩
    ·cases hr with
     | slice _ _ _ _ _ s f ha hc ho hel hm hrr =>
      have hb0 := (ho rfl).2.1
      subst hb0
      have hA0 : A ≠ [] := by intro e; have := (ho rfl).1 e; omega
      have hin : ∀ (k : Nat) (x : PV), A[k]? = some x → (A ++ [])[k]? = some x := by intro k x hx; rw [List.append_nil]; exact hx
      have hss : s = i.size := aPD (fun k x hx => hel k x (hin k x hx)) hsz hA0
      subst hss
      obtain ⟨a0, A', rfl⟩ : ∃ a0 A', A = a0 :: A' := by cases A with
       | nil => exact absurd rfl hA0
       | cons a0 A' => exact ⟨a0, A', rfl⟩
      have hs0 := (hel 0 a0 rfl).2.2.1
      have hk : HOk M w base B ad.block (ad.off + (a0 :: A').length * a0.cells.length) (ad.off + cap * a0.cells.length) := (aDu (by simp) (by simp)).1 hh
      rw [hs0] at hk
      refine ⟨ha (by omega), (ho rfl).2.2 hA0, hk, rfl, ?_, ?_, ?_, rfl⟩
      ·rw [yQ (by simp) (by simp)]; simp [c1, own1]
      ·refine ⟨fun k x hx => hel k x (hin k x hx), ?_⟩
       intro k x j c hx hcj
       have hok := hel k x (hin k x hx)
       have hj : j < i.size := by have := (List.getElem?_eq_some_iff.1 hcj).1; rw [hok.2.2.1] at this; exact this
       have h5 := hm k x j (hin k x hx) hj
       have h6 := hrr k x j c (hin k x hx) hcj
       rw [show ad.off + k * i.size + j = ad.off + (k * i.size + j) by omega] at h5
       simp only [h5, Option.getD_some]
       exact ⟨h6, aKB hok hcj h6⟩
      ·intro k hk'
       have hlt : k / i.size < (a0 :: A').length := Nat.div_lt_of_lt_mul (by rw [Nat.mul_comm]; exact hk')
       have hx := List.getElem?_eq_getElem hlt
       have h5 := hm (k / i.size) _ (k % i.size) (hin _ _ hx) (Nat.mod_lt _ hs)
       rw [show ad.off + k / i.size * i.size + k % i.size = ad.off + k by have := Nat.div_add_mod k i.size; rw [Nat.mul_comm] at this; omega] at h5
       simp [h5]
    ·cases hr with
     | mk0 _ _ _ ha =>
      have hk : HOk M w base B ad.block ad.off (ad.off + cap * i.size) := (aDu (by simp) (by simp)).1 hh
      refine ⟨ha.1, ha.2, by simpa using hk, rfl, ?_, ⟨by simp, by simp⟩, by simp, ?_⟩
      ·rw [yQ (by simp) (by simp)]; simp [c1, own1]
      ·cases E with
       | nil => exact absurd rfl hne
       | cons a l => rfl
   obtain ⟨hsp, hof, hk, hown, hc1, hA, hAm, rfl⟩ := key
   obtain ⟨arr, T, fz, hrow, hsz, hfz⟩ := hk.row
   have hmul : A.length * i.size + E.length * i.size ≤ cap * i.size := by
    have : (A.length + E.length) * i.size ≤ cap * i.size := Nat.mul_le_mul_right i.size hroom
    rw [Nat.add_mul] at this; exact this
   have e : ad = ⟨ad.block, ad.off, none⟩ := by cases ad; simp_all
   have hrun := aIH (P := P) (w := w) (ty := ty) hut hu hd hi ad.block ad.off A.length cap E.length hroom y ((List.range (E.length * i.size)).map g2) hl (hf w rfl) hrow (by simp; omega) (by
     intro x hx
     simp only [List.mem_map, List.mem_range] at hx
     obtain ⟨k, hk', rfl⟩ := hx
     have hlt : k / i.size < E.length := Nat.div_lt_of_lt_mul (by rw [Nat.mul_comm]; exact hk')
     have he := List.getElem?_eq_getElem hlt
     have hok := hE.el _ _ he
     have hjl : k % i.size < (E[k / i.size]).cells.length := by rw [hok.2.2.1]; exact Nat.mod_lt _ hs
     have := (hE.rel _ _ (k % i.size) _ he (List.getElem?_eq_getElem hjl)).2
     rwa [show k / i.size * i.size + k % i.size = k by have := Nat.div_add_mod k i.size; rw [Nat.mul_comm] at this; omega] at this) (by
     intro j hj
     simp only [List.length_map, List.length_range] at hj
     exact hfz _ (by omega))
   rw [← e] at hrun
   exact ⟨_, _, hrun, bAx h h1s hs hA hAm hE hne hsp hof hk hroom hown hc1 ht hrow hsz⟩
  ·-- a new row
   have hEl : 0 < E.length := by cases E with
    | nil => exact absurd rfl hne
    | cons a l => simp
   have hold : ∃ g1, ElRel M B i.size A g1 ∧ (Builtin.firstCells i.size A.length (.slice bs A.length cap)).run P w.drew = .ok ((List.range (A.length * i.size)).map g1).toArray w.drew := by
    rcases hp with ⟨b0, rfl, hsz, rfl⟩ | ⟨rfl, rfl, rfl⟩
    ·cases bs with
     | none =>
      obtain ⟨rfl, rfl⟩ := hnil rfl
      exact ⟨fun _ => undef, ⟨by simp, by simp⟩, by simp [Builtin.firstCells]⟩
     | some ad =>
      obtain ⟨g1, q1, q2, q3⟩ := aCb (P := P) hr h.cons hsz
      exact ⟨g1, q1, q3 w.drew rfl⟩
    ·cases bs with
     | none => exact ⟨fun _ => undef, ⟨by simp, by simp⟩, by simp [Builtin.firstCells]⟩
     | some ad => exact ⟨fun _ => undef, ⟨by simp, by simp⟩, by simp [Builtin.firstCells, loadCells, loadCellsFrom]⟩
   obtain ⟨g1, hA, ho⟩ := hold
   simp only [lim] at hlim
   have hb1 : (A.length + E.length) * i.bytes ≤ 140737488355328 := by
    have : (A.length + E.length) * i.bytes ≤ 274877906944 * 512 := Nat.mul_le_mul hlim hby
    omega
   obtain ⟨cap', hcap', hrun⟩ := aBR (P := P) (w := w) (ty := ty) hut hu hd hi hzz bs A.length cap E.length (by omega) y _ _ hl (hf w.drew rfl) ho hb1 (by omega)
   have hr2 : r = .slice (A ++ E) [] true := by
    rcases hp with ⟨b0, rfl, _, rfl⟩ | ⟨rfl, rfl, rfl⟩
    ·rfl
    ·cases E with
     | nil => exact absurd rfl hne
     | cons a l => rfl
   refine ⟨_, _, hrun, ?_⟩
   have := aKA h (dst := dst) h1s (fun b => by have := ht b; omega) (s := i.size) (cap := cap') (es := A ++ E) (fz := (0, 0)) (T := e)
    (w' := w.drew.alloc (.cells (((List.range (A.length * i.size)).map g1).toArray ++ ((List.range (E.length * i.size)).map g2).toArray ++ Builtin.zeroCells z.cells (cap' - (A.length + E.length))) e))
    (hA.row hE hs) (by simpa using hcap') (by
     rw [Array.size_append, Array.size_append, size_zeroCells, hzs]
     simp only [List.size_toArray, List.length_map, List.length_range]
     have h7 : cap' = (A.length + E.length) + (cap' - (A.length + E.length)) := by omega
     have h8 : cap' * i.size = (A.length + E.length) * i.size + (cap' - (A.length + E.length)) * i.size := by rw [← Nat.add_mul, ← h7]
     rw [Nat.add_mul] at h8
     omega) (by intro j _; simp) rfl rfl rfl rfl (r := r) (.inl ⟨hr2, fun hx => by exfalso; apply hne; simp at hx; exact hx.2⟩)
   simpa using this
theorem bAy (h:SR base M B st tm w) {dst:Option Nat} {lv:List (Nat×PV)} (h1s:SR base M B {st with fr:=lv++st.fr} tm w) {p q r:PV} {v y:Value} (hr:Rv M B p v) (hh:hV M w base B p v)
  (ht:∀ b,tot (lv++st.fr) tm w B st.bx b+cV p v b≤tot st.fr tm w B st.bx b) (hy:Rv M B q y)
  {t u ty e e':TypeId} {i:TypeInfo} (hut:P.underlying t=some (.slice e)) (hu:P.underlying u=some (.slice e')) (hi:P.info? e=some i)
  (hs:0<i.size) (hby:i.bytes≤512) (hz:yL i=true) (ha:apd i.size p q=some r) :
  ∃ v' w',(Builtin.append_ #[t,u] ty #[v,y]).run P w = .ok v' w'∧Aft base M B st tm w {ws:=dstW tm.size dst r++lv} (putT tm dst v') w':=by
 have hyE:∀ E bs o,q = .slice E bs o→szOk i.size E=true→∃ g2,ElRel M B i.size E g2∧(Builtin.lenOf y).run P w = .ok E.length w∧∀ w':World,w'.heap=w.heap→(Builtin.firstCells i.size E.length y).run P w' = .ok ((List.range (E.length*i.size)).map g2).toArray w':=by
  intro E bs o hq hsz
  subst hq
  cases hy with
  | nil o=>exact ⟨fun _=>undef,⟨by simp,by simp⟩,rfl,fun w' _=>by simp [Builtin.firstCells]⟩
  | slice _ _ _ ad cap s f ha2 hc ho hel hm hrr =>
   obtain ⟨g2,q1,q2,q3⟩:=aCb (P:=P) (Rv.slice E bs o ad cap s f ha2 hc ho hel hm hrr) h.cons hsz
   exact ⟨g2,q1,rfl,q3⟩
 unfold apd at ha
 split at ha
 ·rename_i A bs E bs' o
  split at ha
  ·rename_i hc
   cases ha
   obtain ⟨g2,q1,q2,q3⟩:=hyE E bs' o rfl hc.2.2
   exact aA2 h h1s hr hh ht hut hu (by simp) hi hs hby hz q1 q2 q3 (A:=A) (.inl ⟨bs,rfl,hc.2.1,rfl⟩) hc.1
  ·simp at ha
 ·rename_i sz E bs' o
  split at ha
  ·rename_i hc
   cases ha
   obtain ⟨hc1,rfl,hc2⟩:=hc
   obtain ⟨g2,q1,q2,q3⟩:=hyE E bs' o rfl hc2
   exact aA2 h h1s hr hh ht hut hu (by simp) hi hs hby hz q1 q2 q3 (A:=[]) (.inr ⟨rfl,rfl,rfl⟩) (by simpa using hc1)
  ·simp at ha
 ·simp at ha
theorem aSg (s:List UInt8):ElRel M B 1 (eK s) (fun k => .int .u8 ((s.getD k 0).toNat:Int)):=by
 have hg:∀ (i:Nat) (e:PV),(eK s)[i]?=some e→∃ b,s[i]?=some b∧e = .int .u8 b.toNat:=by
  intro i e he
  simp only [eK,List.getElem?_map,Option.map_eq_some_iff] at he
  obtain ⟨b,hb,rfl⟩:=he
  exact ⟨b,hb,rfl⟩
 refine ⟨?_,?_⟩
 ·intro i e he
  obtain ⟨b,_,rfl⟩:=hg i e he
  exact ⟨rfl,rfl,rfl,by omega⟩
 ·intro i e j c he hc
  obtain ⟨b,hb,rfl⟩:=hg i e he
  cases j with
  | zero =>
   simp [PV.cells] at hc;subst hc
   simp only [Nat.mul_one,Nat.add_zero,List.getD_eq_getElem?_getD,hb,Option.getD_some]
   exact ⟨.int _ _,rfl⟩
  | succ j=>simp [PV.cells] at hc
theorem aMO (s:List UInt8):(s.map fun b=>Value.int .u8 (b.toNat:Int))=(List.range s.length).map fun k=>Value.int .u8 ((s.getD k 0).toNat:Int):=by
 apply List.ext_getElem?
 intro i
 by_cases hi:i<s.length
 ·simp [hi]
 ·rw [List.getElem?_eq_none (by simpa using hi),List.getElem?_eq_none (by simpa using hi)]
theorem aTX (h:SR base M B st tm w) {dst:Option Nat} {lv:List (Nat×PV)} (h1s:SR base M B {st with fr:=lv++st.fr} tm w) {p q r:PV} {v y:Value} (hr:Rv M B p v) (hh:hV M w base B p v)
  (ht:∀ b,tot (lv++st.fr) tm w B st.bx b+cV p v b≤tot st.fr tm w B st.bx b) (hy:Rv M B q y)
  {t u ty e:TypeId} {i:TypeInfo} (hut:P.underlying t=some (.slice e)) (hu:P.underlying u=some .string) (hi:P.info? e=some i)
  (hs:i.size=1) (hby:i.bytes≤512) (hz:yL i=true) (ha:aVA p q=some r) :
  ∃ v' w',(Builtin.append_ #[t,u] ty #[v,y]).run P w = .ok v' w'∧Aft base M B st tm w {ws:=dstW tm.size dst r++lv} (putT tm dst v') w':=by
 have hyS:∀ s,q = .str s→(Builtin.lenOf y).run P w = .ok (eK s).length w∧∀ w':World,w'.heap=w.heap→(Builtin.firstCells i.size (eK s).length y).run P w' = .ok ((List.range ((eK s).length*i.size)).map fun k=>Value.int .u8 ((s.getD k 0).toNat:Int)).toArray w':=by
  intro s hq
  subst hq
  rw [hy.str_inv]
  have hl:(eK s).length=s.length:=by simp [eK]
  rw [hl,hs]
  refine ⟨by simp [Builtin.lenOf,ByteArray.size],fun w' _ => ?_⟩
  simp only [Builtin.firstCells,Sem.run_pure,Nat.mul_one]
  congr 1
  apply Array.ext'
  rw [← aMO]
  have:((ByteArray.mk s.toArray).extract 0 s.length).data=s.toArray:=by
   rw [ByteArray.data_extract];simp
  rw [this];simp
 have hel:∀ s,ElRel M B i.size (eK s) (fun k => .int .u8 ((s.getD k 0).toNat:Int)):=by intro s;rw [hs];exact aSg s
 have hszb:∀ s:List UInt8,(eK s).length=s.length:=by intro s;simp [eK]
 unfold aVA at ha
 split at ha
 ·rename_i A bs s
  split at ha
  ·rename_i hc
   cases ha
   obtain ⟨q2,q3⟩:=hyS s rfl
   exact aA2 h h1s hr hh ht hut hu (by simp) hi (by omega) hby hz (hel s) q2 q3 (A:=A) (.inl ⟨bs,rfl,by rw [hs];exact hc.2,rfl⟩) (by rw [hszb];exact hc.1)
  ·simp at ha
 ·rename_i sz s
  split at ha
  ·rename_i hc
   cases ha
   obtain ⟨hc1,rfl⟩:=hc
   obtain ⟨q2,q3⟩:=hyS s rfl
   exact aA2 h h1s hr hh ht hut hu (by simp) hi (by omega) hby hz (hel s) q2 q3 (A:=[]) (.inr ⟨by rw [hs],rfl,by rw [hs]⟩) (by rw [hszb];simpa using hc1)
  ·simp at ha
 ·simp at ha
theorem aPL (h : SR base M B st tm w) {dst : Option Nat} {x r : PV} {a : Value} {s d e : TypeId} (hs : P.underlying s = some .string) (hd : P.underlying d = some (.slice e)) (he : P.underlying e = some (.int .u8))
  (hx : Rv M B x a) (hr : aPv x = some r) : ∃ v' w', (convert s d a).run P w = .ok v' w' ∧ Aft base M B st tm w { ws := dstW tm.size dst r } (putT tm dst v') w' := by
 unfold aPv at hr
 split at hr
 ·rename_i str
  cases hr
  rw [hx.str_inv]
  refine ⟨_, _, run_bytes_of_string (P := P) w s d e ⟨str.toArray⟩ hs hd he, ?_⟩
  have hsz : (ByteArray.mk str.toArray).size = str.length := by simp [ByteArray.size]
  have hcap : str.length ≤ grownCap w (ByteArray.mk str.toArray).size 0 e := by rw [hsz]; simp only [grownCap, Question.cut]; omega
  generalize grownCap w (ByteArray.mk str.toArray).size 0 e = cap at hcap
  have hrow : bytesRow ⟨str.toArray⟩ cap = ((List.range str.length).map fun k => Value.int .u8 ((str.getD k 0).toNat : Int)).toArray ++ Array.replicate (cap - str.length) (.int .u8 0) := by
   unfold bytesRow
   rw [hsz]
   congr 1
   apply Array.ext'
   rw [← aMO]
   simp
  have hRR : RowRel M B 1 (eK str) (bytesRow ⟨str.toArray⟩ cap) := by
   have := (ElRel.row (A := []) (E := eK str) (g1 := fun _ => undef) (s := 1) (rest := Array.replicate (cap - str.length) (.int .u8 0)) (M := M) (B := B) ⟨by simp, by simp⟩ (aSg str) (by omega))
   rw [hrow]
   simpa [eK] using this
  have hsize : (bytesRow ⟨str.toArray⟩ cap).size = cap := by rw [hrow]; simp; omega
  have := aKA h (dst := dst) (lv := []) (by simpa using h) (fun b => Nat.le_refl _) (s := 1) (cap := cap) (es := eK str) (arr := bytesRow ⟨str.toArray⟩ cap) (T := e) (fz := ((bytesRow ⟨str.toArray⟩ cap).size, (bytesRow ⟨str.toArray⟩ cap).size + 1))
   (w' := w.drew.alloc (.cells (bytesRow ⟨str.toArray⟩ cap) e ((bytesRow ⟨str.toArray⟩ cap).size, (bytesRow ⟨str.toArray⟩ cap).size + 1)))
   hRR (by simpa [eK] using hcap) (by omega) (by intro j hj; simp only; omega) rfl rfl rfl rfl
   (r := slOr 1 (eK str)) (by
    cases str with
    | nil => exact .inr ⟨rfl, rfl⟩
    | cons a l => exact .inl ⟨rfl, fun hx => by simp [eK] at hx⟩)
  simp only [List.append_nil] at this
  rw [hsz]
  have hl : (eK str).length = str.length := by simp [eK]
  rw [hl] at this
  exact this
 ·simp at hr
theorem aKC (h:SR base M B st tm w) {dst:Option Nat} {t e:TypeId} {i:TypeInfo} {z:Value} {n:Nat} {x:PV} {a:Value} (hu:P.underlying t=some (.slice e)) (hi:P.info? e=some i) (hz:i.zero=some z) (hzs:z.cells.size=i.size)
  (h0:0<i.size) (hby:i.bytes≤512) (hl:n≤lim) (hn:yK x=some n) (hx:Rv M B x a) :
  ∃ w',(Instr.makeSlice t (.int .i64 0) a).run P w = .ok (.slice (some ⟨w.heap.size,0,none⟩) 0 n) w' ∧
   Aft base M B st tm w {ws:=dstW tm.size dst (.mk0 i.size)} (putT tm dst (.slice (some ⟨w.heap.size,0,none⟩) 0 n)) w':=by
 unfold yK at hn
 split at hn
 ·rename_i k m
  split at hn
  ·simp at hn
  ·rename_i hm
   obtain rfl:m.toNat=n:=by simpa using hn
   rw [hx.int_inv]
   have hlim:m.toNat≤274877906944:=hl
   have hmul:(i.bytes:Int)*m≤281474976710656:=by
    have h1:i.bytes*m.toNat≤512*274877906944:=Nat.mul_le_mul hby hlim
    have h2:((i.bytes*m.toNat:Nat):Int)=(i.bytes:Int)*m:=by rw [Int.natCast_mul,Int.toNat_of_nonneg (by omega)]
    omega
   have hrun:=run_make (P:=P) w t e i z hu hi hz .i64 k 0 m (Int.le_refl _) (by omega) hmul (by omega)
   refine ⟨_,hrun,?_⟩
   have hsz:(madeCells z.cells (m.toNat*i.size)).size=m.toNat*i.size:=by
    unfold madeCells;simp
   have:=aKA h (dst:=dst) (lv:=[]) (by simpa using h) (fun b=>Nat.le_refl _) (s:=i.size) (cap:=m.toNat) (es:=[]) (arr:=madeCells z.cells (m.toNat*i.size)) (T:=e) (fz:=(0,0))
    (w':=w.alloc (.cells (madeCells z.cells (m.toNat*i.size)) e)) ⟨h0,by simp,by simp,by simp⟩ (by simp) (by omega) (by intro j hj;simp) rfl rfl rfl rfl (r := .mk0 i.size) (.inr ⟨rfl,rfl⟩)
   simpa using this
 ·simp at hn
end
def nI (B:BM):BM:=fun d id=>match d with | 0=>none | d+1=>B d id
def noB:BM:=fun _ _=>none
def cA (args:List PV) (vals:Array Value) (b:Nat):Nat:=bV args.length fun i=>cV (args.getD i .bot) (vals.getD i undef) b
def tH (P:Program) (f:FuncId) (vals:Array Value) (w:World) (R:Value→World→Prop):Prop :=
 (∃ g gs,(callFunc f vals).run P w = .ok (.enter g gs) w∧Calls P g gs w fun e w'=>∃ v,e = .returned v∧R v w') ∨
 ∃ v w',(callFunc f vals).run P w = .ok (.value v) w'∧R v w'
structure CallPre (base:Base) (M:Mem) (B:BM) (args:List PV) (up:UP) (vals:Array Value) (w:World):Prop where
 cons:Cons M w
 size:vals.size=args.length
 rel:∀ (i:Nat) (p:PV),args[i]?=some p→Rv M (nI B) p (vals.getD i undef)∧hV M w base B p (vals.getD i undef)
 box:BRel M w base B up
 one:∀ b,cA args vals b+cBx w B up b≤1
 glob:Glob base M
 base:base≤w.heap.size
def gM (base:Base) (M:Mem) (B:BM) (args:List PV) (up:UP) (vals:Array Value) (w:World) (r:PV) (up':UP) (v:Value) (w':World):Prop :=
 ∃ M',Rv M' B r v∧hV M' w' base B r v∧BRel M' w' base B up'∧Cons M' w'∧(∀ b,cV r v b+cBx w' B up' b≤1) ∧
 Evo w M (fun b=>cA args vals b+cBx w B up b) B w' M' (fun b=>cV r v b+cBx w' B up' b) B
def aKD (P:Program) (G:Mem) (O:Orc):Prop :=
 ∀ f args up r up',O f args up=some (r,up')→∀ (n:Nat) w M B vals,CallPre ⟨n,G⟩ M B args up vals w→tH P f vals w (gM ⟨n,G⟩ M B args up vals w r up')
section
variable {P : Program} {base : Base} {M : Mem} {B : BM} {st : St} {tm : Array Value} {w : World} {next : Act → World → Prop} {Q : Exit → Act → World → Prop}
theorem tH.mono {f:FuncId} {vals:Array Value} {R R':Value→World→Prop} (h:tH P f vals w R) (hr:∀ v w',R v w'→R' v w'):tH P f vals w R':=by
 rcases h with ⟨g,gs,h1,h2⟩ | ⟨v,w',h1,h2⟩
 ·exact .inl ⟨g,gs,h1,h2.mono fun e w' ⟨v,he,hv⟩=>⟨v,he,hr v w' hv⟩⟩
 ·exact .inr ⟨v,w',h1,hr v w' h2⟩
theorem aMP (h:SR base M B st tm w) (d:List Deferred):∀ (xs:List Operand),rW (jR xs)=true →
  SR base M B {st with fr:=xs.flatMap (left st.fr true)++st.fr} tm w ∧
  ∀ b,tot (xs.flatMap (left st.fr true)++st.fr) tm w B st.bx b+sumL (fun x=>cV (opv st.fr true x) ((Act.mk tm d).eval x) b) xs=tot st.fr tm w B st.bx b
 | [],_=>⟨h,fun b=>rfl⟩
 | x::xs,hd=>by
  have ih:rW (jR xs)=true:=by
   cases x<;>simp only [jR,List.filterMap_cons] at hd ⊢ <;> first | exact hd | (simp only [rW,Bool.and_eq_true] at hd;exact hd.2)
  obtain ⟨k1,k2⟩:=aMP h d xs ih
  cases x with
  | tmp t =>
   -- the slot is none of the others
   have hnot:t∉jR xs:=by
    simp only [jR,List.filterMap_cons,rW,Bool.and_eq_true,Bool.not_eq_true'] at hd
    intro hm
    have h1:=hd.1
    unfold has at h1
    rw [List.any_eq_false] at h1
    exact h1 t hm (by simp)
   have hsame:∀ (ys:List Operand),t∉jR ys→gets (ys.flatMap (left st.fr true)++st.fr) t=gets st.fr t:=by
    intro ys
    induction ys with
    | nil=>intro _;rfl
    | cons y ys ihy =>
     intro hn
     cases y with
     | tmp s =>
      simp only [jR,List.filterMap_cons,List.mem_cons,not_or] at hn
      simp only [List.flatMap_cons,left,List.cons_append,List.nil_append,dM]
      rw [if_neg (Ne.symm hn.1)]
      exact ihy hn.2
     | const v=>simpa [List.flatMap_cons,left,jR] using ihy (by simpa [jR] using hn)
     | global g=>simpa [List.flatMap_cons,left,jR] using ihy (by simpa [jR] using hn)
     | func f=>simpa [List.flatMap_cons,left,jR] using ihy (by simpa [jR] using hn)
   have hg:=hsame xs hnot
   obtain ⟨q1,q2⟩:=k1.take t
   simp only [hg] at q1 q2
   refine ⟨by simpa [List.flatMap_cons,left] using q1,fun b => ?_⟩
   have e1:=q2 b
   have e2:=k2 b
   show tot ((t,(gets st.fr t).plain)::(xs.flatMap (left st.fr true)++st.fr)) tm w B st.bx b+(cV (gets st.fr t) (tm.getD t undef) b+sumL (fun x=>cV (opv st.fr true x) ((Act.mk tm d).eval x) b) xs)=_
   omega
  | const v =>
   refine ⟨by simpa [List.flatMap_cons,left] using k1,fun b => ?_⟩
   have e2:=k2 b
   have:cV (opv st.fr true (.const v)) ((Act.mk tm d).eval (.const v)) b=0:=(gL v).c b
   simp only [List.flatMap_cons,left,List.nil_append,sumL,this]
   omega
  | global g =>
   refine ⟨by simpa [List.flatMap_cons,left] using k1,fun b => ?_⟩
   have e2:=k2 b
   have:cV (opv st.fr true (.global g)) ((Act.mk tm d).eval (.global g)) b=0:=(oQ st.fr (.global g) ⟨tm,d⟩ (by simp)).c b
   simp only [List.flatMap_cons,left,List.nil_append,sumL,this]
   omega
  | func f =>
   refine ⟨by simpa [List.flatMap_cons,left] using k1,fun b => ?_⟩
   have e2:=k2 b
   have:cV (opv st.fr true (.func f)) ((Act.mk tm d).eval (.func f)) b=0:=(oQ st.fr (.func f) ⟨tm,d⟩ (by simp)).c b
   simp only [List.flatMap_cons,left,List.nil_append,sumL,this]
   omega
theorem aZ4 (h:SR base M B st tm w) (d:List Deferred) (xs:List Operand) :
  xs.flatMap (left st.fr false)=[]∧∀ b,sumL (fun x=>cV (opv st.fr false x) ((Act.mk tm d).eval x) b) xs=0:=by
 constructor
 ·induction xs with
  | nil=>rfl
  | cons x xs ih=>rw [List.flatMap_cons,ih];cases x<;>rfl
 ·intro b;exact aDs _ fun x _=>(h.opvF d x).2.c b
theorem aJQ {α:Type} [Inhabited α] (f:α→Nat):∀ (l:List α),sumL f l=bV l.length fun i=>f (l.getD i default)
 | []=>rfl
 | a::l=>by
  have sh:∀ (n:Nat) (f:Nat→Nat),bV (n+1) f=f 0+bV n (fun j=>f (j+1)):=by
   intro n f
   induction n with
   | zero=>simp [bV]
   | succ n ih=>rw [bV,ih];simp only [bV];omega
  simp only [sumL,List.length_cons]
  rw [sh,aJQ f l]
  simp
theorem uB {f:Nat→Nat}:∀ (m n:Nat),bV (m+n) f=bV m f+bV n (fun i=>f (m+i))
 | m,0=>by simp [bV]
 | m,n+1=>by rw [← Nat.add_assoc];simp only [bV];rw [uB m n];omega
theorem aG7:nI noB=noB:=by funext d id;cases d<;>rfl
theorem bBE (h:SR base M B st tm w) (d:List Deferred) {fn:Fn} {first caps:List PV} {v:Value} (hv:Rv M B (.func fn first caps) v) (tk:Bool) (xs:List Operand) :
  ∃ vf vc:Array Value,v = .func fn vf vc ∧
   (vf++(xs.map (Act.mk tm d).eval).toArray++vc).size=(first++xs.map (opv st.fr tk)++caps).length ∧
   (∀ (i:Nat) (p:PV),(first++xs.map (opv st.fr tk)++caps)[i]?=some p→Rv M B p ((vf++(xs.map (Act.mk tm d).eval).toArray++vc).getD i undef)∧hV M w base B p ((vf++(xs.map (Act.mk tm d).eval).toArray++vc).getD i undef)) ∧
   ∀ b,cA (first++xs.map (opv st.fr tk)++caps) (vf++(xs.map (Act.mk tm d).eval).toArray++vc) b=sumL (fun x=>cV (opv st.fr tk x) ((Act.mk tm d).eval x) b) xs:=by
 cases hv with
 | func _ _ _ vf vc f g hp hl hf hrf hl' hg hrg =>
  refine ⟨vf,vc,rfl,by simp [hl,hl'],?_,?_⟩
  ·intro i p hi
   by_cases h1:i<first.length
   ·rw [List.append_assoc,List.getElem?_append_left h1] at hi
    have hpl:=hp p (by simp [List.mem_of_getElem? hi])
    have:(vf++(xs.map (Act.mk tm d).eval).toArray++vc).getD i undef=f i:=by
     rw [Array.getD_eq_getD_getElem?,Array.append_assoc,Array.getElem?_append_left (by omega),hf i h1];rfl
    rw [this]
    exact ⟨hrf i p hi,(bR hpl).h M w base B⟩
   ·by_cases h2:i<first.length+xs.length
    ·rw [List.append_assoc,List.getElem?_append_right (by omega),List.getElem?_append_left (by simp;omega),List.getElem?_map,Option.map_eq_some_iff] at hi
     obtain ⟨x,hx,rfl⟩:=hi
     have:(vf++(xs.map (Act.mk tm d).eval).toArray++vc).getD i undef=(Act.mk tm d).eval x:=by
      rw [Array.getD_eq_getD_getElem?,Array.append_assoc,Array.getElem?_append_right (by omega),Array.getElem?_append_left (by simp;omega)]
      simp [hl,hx]
     rw [this]
     obtain ⟨q1,q2,_⟩:=h.opvT d tk x
     exact ⟨q1,q2⟩
    ·rw [List.getElem?_append_right (by simp;omega)] at hi
     have hpl:=hp p (by simp [List.mem_of_getElem? hi])
     have hlen:i-(first++xs.map (opv st.fr tk)).length<caps.length:=(List.getElem?_eq_some_iff.1 hi).1
     have:(vf++(xs.map (Act.mk tm d).eval).toArray++vc).getD i undef=g (i-(first++xs.map (opv st.fr tk)).length):=by
      rw [Array.getD_eq_getD_getElem?,Array.getElem?_append_right (by simp;omega)]
      have e:i-(vf++(xs.map (Act.mk tm d).eval).toArray).size=i-(first++xs.map (opv st.fr tk)).length:=by simp [hl]
      rw [e,hg _ hlen];rfl
     rw [this]
     exact ⟨hrg _ p hi,(bR hpl).h M w base B⟩
  ·intro b
   unfold cA
   rw [List.length_append,List.length_append,uB,uB,List.length_map]
   have z1:bV first.length (fun i=>cV ((first++xs.map (opv st.fr tk)++caps).getD i .bot) ((vf++(xs.map (Act.mk tm d).eval).toArray++vc).getD i undef) b)=0:=by
    apply gA
    intro i hi
    have:(first++xs.map (opv st.fr tk)++caps).getD i .bot=first[i]:=by
     rw [List.getD_eq_getElem?_getD,List.append_assoc,List.getElem?_append_left hi,List.getElem?_eq_getElem hi];rfl
    rw [this]
    exact (bR (hp _ (by simp))).c b
   have z2:bV caps.length (fun i=>cV ((first++xs.map (opv st.fr tk)++caps).getD (first.length+xs.length+i) .bot) ((vf++(xs.map (Act.mk tm d).eval).toArray++vc).getD (first.length+xs.length+i) undef) b)=0:=by
    apply gA
    intro i hi
    have:(first++xs.map (opv st.fr tk)++caps).getD (first.length+xs.length+i) .bot=caps[i]:=by
     rw [List.getD_eq_getElem?_getD,List.getElem?_append_right (by simp)]
     have e:first.length+xs.length+i-(first++xs.map (opv st.fr tk)).length=i:=by simp
     rw [e,List.getElem?_eq_getElem hi];rfl
    rw [this]
    exact (bR (hp _ (by simp))).c b
   rw [z1,z2,Nat.zero_add,Nat.add_zero,aJQ]
   apply cR
   intro i hi
   have e1:(first++xs.map (opv st.fr tk)++caps).getD (first.length+i) .bot=opv st.fr tk xs[i]:=by
    rw [List.getD_eq_getElem?_getD,List.append_assoc,List.getElem?_append_right (by omega),List.getElem?_append_left (by simp;omega)]
    simp [hi]
   have e2:(vf++(xs.map (Act.mk tm d).eval).toArray++vc).getD (first.length+i) undef=(Act.mk tm d).eval xs[i]:=by
    rw [Array.getD_eq_getD_getElem?,Array.append_assoc,Array.getElem?_append_right (by omega),Array.getElem?_append_left (by simp;omega)]
    simp [hl,hi]
   rw [e1,e2]
   simp [List.getD_eq_getElem?_getD,hi]
end
section
variable {P : Program} {base : Base} {M : Mem} {B : BM} {st : St} {tm : Array Value} {w : World} {next : Act → World → Prop} {Q : Exit → Act → World → Prop}
theorem aSh {args:List PV} {vals:Array Value} {b:Nat} (h:1≤cA args vals b):∃ (i:Nat) (p:PV),args[i]?=some p∧1≤cV p (vals.getD i undef) b:=by
 obtain ⟨i,hi,hc⟩:=aDy _ h
 refine ⟨i,args[i],List.getElem?_eq_getElem hi,?_⟩
 simpa [List.getD_eq_getElem?_getD,hi] using hc
theorem aSi {p:PV} {v:Value} (h:hV M w base B p v) {b:Nat} (hc:1≤cV p v b):(∀ d id,B d id≠some b)∧b<w.heap.size∧base≤b:=by
 obtain ⟨x,hx,ho⟩:=aZ2 hc
 have hp:=h x hx
 have:=hp.nobox ho
 obtain ⟨lo,hi,hk⟩:=hp.hok ho
 exact ⟨this.1,this.2,hk.old⟩
theorem aKE {M':Mem} {w':World} {B':BM} {p:PV} {v:Value} (h:hV M w base B p v) (hm:∀ b i v,M b i=some v→M' b i=some v)
  (hw:∀ b,1≤cV p v b→b<w.heap.size→w'.heap[b]?=w.heap[b]?∧(∀ i,M' b i=M b i)∧∀ d id,B' d id=some b→B d id=some b):hV M' w' base B' p v:=by
 intro x hx
 refine (h x hx).world hm fun b ho hlt=>hw b ?_ hlt
 have:c1 x.1 x.2 b=1:=by simp [c1,ho]
 have h2:c1 x.1 x.2 b≤cV p v b:=aGW (f:=fun y=>c1 y.1 y.2 b) _ hx
 omega
theorem aMQ (h : SR base M B st tm w) {dst : Option Nat} {lv : List (Nat × PV)} (h1s : SR base M B { st with fr := lv ++ st.fr } tm w) {args : List PV} {vals : Array Value} {r : PV} {v : Value} {w' : World}
  (hsz : vals.size = args.length) (hrel : ∀ (i : Nat) (p : PV), args[i]? = some p → Rv M B p (vals.getD i undef) ∧ hV M w base B p (vals.getD i undef))
  (ht : ∀ b, tot (lv ++ st.fr) tm w B st.bx b + cA args vals b ≤ tot st.fr tm w B st.bx b) (hpost : gM base M noB args [] vals w r [] v w') :
  Aft base M B st tm w { ws := dstW tm.size dst r ++ lv } (putT tm dst v) w' := by
 obtain ⟨M', hr, hh, hbx, hc, hone, evo⟩ := hpost
 have hcb : ∀ w b, cBx w noB [] b = 0 := fun w b => rfl
 have hAown : ∀ b, 1 ≤ cA args vals b → (∀ d id, B d id ≠ some b) ∧ b < w.heap.size := by
  intro b hb
  obtain ⟨i, p, hp, hcv⟩ := aSh hb
  have := aSi (hrel i p hp).2 hcv
  exact ⟨this.1, this.2.1⟩
 have htouch : ∀ b, touch (fun b => cA args vals b + cBx w noB [] b) noB b ↔ 1 ≤ cA args vals b := by
  intro b
  constructor
  ·rintro (h1 | ⟨d, id, h2⟩)
   ·have h1' : 1 ≤ cA args vals b + cBx w noB [] b := h1
    rw [hcb] at h1'; omega
   ·simp [noB] at h2
  ·intro h1; left
   show 1 ≤ cA args vals b + cBx w noB [] b
   omega
 have hkeep : ∀ b, b < w.heap.size → cA args vals b = 0 → w'.heap[b]? = w.heap[b]? ∧ ∀ i, M' b i = M b i := by
  intro b hb hz
  exact evo.keep b hb (by rw [htouch]; omega)
 obtain ⟨k1, k2⟩ := h1s.world (M' := M') (w' := w') hc evo.mono
  (fun d id b hB => hkeep b (h.box_lt hB).1 (by
   cases hx : cA args vals b with
   | zero => rfl
   | succ n => exact absurd hB ((hAown b (by omega)).1 d id)))
  (fun b hb => hkeep b (h1s.tot_own hb).1 (by have := ht b; have := h.one b; simp only at hb; omega)) evo.size
 have hrB : Rv M' B r v := hr.mono (fun _ _ _ hx => hx) (fun d id b hb => by simp [noB] at hb)
 have hcr : ∀ b, b < w.heap.size → cV r v b ≤ cA args vals b := by
  intro b hb
  have := evo.tle b hb
  simp only [hcb] at this; omega
 have hhB : hV M' w' base B r v := by
  intro x hx
  have hx1 := hh x hx
  refine hx1.world (fun _ _ _ hx => hx) fun b ho hlt => ⟨rfl, fun _ => rfl, fun d id hB => ?_⟩
  -- the block is no variable of ours
  exfalso
  have hc1 : 1 ≤ cV r v b := by
   have : c1 x.1 x.2 b = 1 := by simp [c1, ho]
   have h2 : c1 x.1 x.2 b ≤ cV r v b := aGW (f := fun y => c1 y.1 y.2 b) _ hx
   omega
  have hbl := (h.box_lt hB).1
  have := hcr b hbl
  exact (hAown b (by omega)).1 d id hB
 have hsum : ∀ b, tot (lv ++ st.fr) tm w' B st.bx b + cV r v b ≤ 1 ∧ (b < w.heap.size → tot (lv ++ st.fr) tm w' B st.bx b + cV r v b ≤ tot st.fr tm w B st.bx b) := by
  intro b
  have e1 := k2 b
  have e2 := ht b
  have e3 := h.one b
  have e4 := hone b
  simp only at e1
  by_cases hb : b < w.heap.size
  ·have := hcr b hb; exact ⟨by omega, fun _ => by omega⟩
  ·have : tot (lv ++ st.fr) tm w B st.bx b = 0 := by
    cases hx : tot (lv ++ st.fr) tm w B st.bx b with
    | zero => rfl
    | succ n => have := (h1s.tot_own (b := b) (by simp only; omega)).1; omega
   exact ⟨by omega, fun hb' => absurd hb' hb⟩
 obtain ⟨q1, q2⟩ := k1.put dst hrB hhB (fun b => (hsum b).1)
 unfold Aft
 rw [xU, List.append_assoc]
 refine ⟨fB _ _ _, M', B, q1, evo.os, evo.tape, evo.output, evo.size, evo.mono, ?_, ?_, fun d i b hB _ => ⟨d, i, hB⟩, fun _ _ => rfl⟩
 ·intro b hb hnt
  refine hkeep b hb ?_
  cases hx : cA args vals b with
  | zero => rfl
  | succ n => exfalso; apply hnt; left; have := ht b; omega
 ·intro b hb
  have e1 := q2 b
  have e2 := (hsum b).2 hb
  simp only at e1 ⊢
  omega
theorem aPM (h:SR base M B st tm w) {dst:Option Nat} {lv:List (Nat×PV)} (h1s:SR base M B {st with fr:=lv++st.fr} tm w) {args:List PV} {vals:Array Value} {r:PV} {u:UP} {v:Value} {w':World}
  (hrel:∀ (i:Nat) (p:PV),args[i]?=some p→hV M w base B p (vals.getD i undef))
  (ht:∀ b,tot (lv++st.fr) tm w B st.bx b+cA args vals b≤tot st.fr tm w B st.bx b) (hpost:gM base M B args st.bx vals w r u v w') :
  Aft base M B st tm w {ws:=dstW tm.size dst r++lv,up:=some u} (putT tm dst v) w':=by
 obtain ⟨M',hr,hh,hbx,hc,hone,evo⟩:=hpost
 have hAown:∀ b,1≤cA args vals b→(∀ d id,B d id≠some b)∧b<w.heap.size:=by
  intro b hb
  obtain ⟨i,p,hp,hcv⟩:=aSh hb
  have:=aSi (hrel i p hp) hcv
  exact ⟨this.1,this.2.1⟩
 have hFown:∀ b,1≤cF (lv++st.fr) tm b→b<w.heap.size∧w'.heap[b]?=w.heap[b]?∧(∀ i,M' b i=M b i):=by
  intro b hb
  have h0:=h1s.tot_own (b:=b) (by simp only [tot];omega)
  refine ⟨h0.1,evo.keep b h0.1 ?_⟩
  rintro (h1 | ⟨d,id,h2⟩)
  ·have e1:=ht b
   have e2:=h.one b
   simp only [tot] at e1 e2
   simp only at h1
   omega
  ·exact h0.2.1 d id h2
 have hcF:∀ b i,i<tm.size→cV (gets (lv++st.fr) i) (tm.getD i undef) b≤cF (lv++st.fr) tm b:=fun b i hi=>aDr (f:=fun i=>cV (gets (lv++st.fr) i) (tm.getD i undef) b) tm.size hi
 have k1:SR base M' B ⟨lv++st.fr,u⟩ tm w'∧∀ b,tot (lv++st.fr) tm w' B u b+cV r v b≤1∧(b<w.heap.size→tot (lv++st.fr) tm w' B u b+cV r v b≤tot st.fr tm w B st.bx b):=by
  have hsum:∀ b,tot (lv++st.fr) tm w' B u b+cV r v b≤1∧(b<w.heap.size→tot (lv++st.fr) tm w' B u b+cV r v b≤tot st.fr tm w B st.bx b):=by
   intro b
   have e1:=ht b
   have e2:=h.one b
   have e3:=hone b
   simp only [tot] at e1 e2 ⊢
   by_cases hb:b<w.heap.size
   ·have e4:=evo.tle b hb
    exact ⟨by omega,fun _=>by omega⟩
   ·have:cF (lv++st.fr) tm b=0:=by
     cases hx:cF (lv++st.fr) tm b with
     | zero=>rfl
     | succ n=>have:=(hFown b (by omega)).1;omega
    exact ⟨by omega,fun hb'=>absurd hb' hb⟩
  refine ⟨⟨hc,fun i=>(h1s.slot i).mono evo.mono (fun _ _ _ hx=>hx),?_,hbx,fun b=>by have:=(hsum b).1;show tot (lv++st.fr) tm w' B u b≤1;omega,h.glob.mono evo.mono,Nat.le_trans h.base evo.size⟩,hsum⟩
  intro i
  by_cases hi:i<tm.size
  ·refine aKE (h1s.slotH i) evo.mono fun b hcv _ => ?_
   obtain ⟨_,x2,x3⟩:=hFown b (Nat.le_trans hcv (hcF b i hi))
   exact ⟨x2,x3,fun _ _ hx=>hx⟩
  ·have:tm.getD i undef=undef:=by simp [Array.getD,hi]
   rw [this]
   exact (nG _).h M' w' base B
 obtain ⟨k1,hsum⟩:=k1
 obtain ⟨q1,q2⟩:=k1.put dst hr hh (fun b=>(hsum b).1)
 have happ:({ws:=dstW tm.size dst r++lv,up:=some u}:Eff).app st=⟨dstW tm.size dst r++(lv++st.fr),u⟩:=by simp [Eff.app]
 unfold Aft
 rw [happ]
 refine ⟨fB _ _ _,M',B,q1,evo.os,evo.tape,evo.output,evo.size,evo.mono,?_,?_,fun d i b hB _=>⟨d,i,hB⟩,fun _ _=>rfl⟩
 ·intro b hb hnt
  refine evo.keep b hb ?_
  rintro (h1 | h2)
  ·apply hnt;left
   have e1:=ht b
   simp only [tot] at e1 ⊢
   simp only at h1
   omega
  ·exact hnt (.inr h2)
 ·intro b hb
  have e1:=q2 b
  have e2:=(hsum b).2 hb
  simp only at e1 ⊢
  omega
end
theorem bAz {c:PV} (h:c.solid1=true) (hp:c.plain1=c):okVc c=true:=by
 cases c with
 | slice es bs o=>simp only [PV.plain1,PV.slice.injEq,true_and] at hp;obtain ⟨rfl,rfl⟩:=hp;rfl
 | mk0 sz=>simp [PV.plain1] at hp
 | _=>first | rfl | simp [PV.solid1] at h
theorem okEl.ve {s:Nat} {e:PV} (h:okEl s e):okVe s e=true:=by
 rw [oR]
 refine ⟨h.2.2.1,fun c hc => ?_⟩
 obtain ⟨j,hj⟩:=List.mem_iff_getElem?.1 hc
 refine bAz (h.cell hj) ?_
 have hp:=h.2.1
 cases e with
 | agg cs =>
  simp only [PV.plain,PV.plainA,PV.agg.injEq] at hp
  simp only [PV.cells] at hc
  have hj':cs[j]?=some c:=hj
  rw [← hp,List.getElem?_map,Option.map_eq_some_iff] at hj'
  obtain ⟨c0,_,rfl⟩:=hj'
  exact aB8 _
 | tuple cs=>have:=h.1;simp [PV.solid,PV.solid1] at this
 | _=>simp only [PV.cells,List.mem_singleton] at hc;subst hc;exact hp
theorem okVe.el {s:Nat} {e:PV} (h:okVe s e=true) (hs:0<s):okEl s e:=by
 obtain ⟨hl,hc⟩:=oR.1 h
 refine ⟨?_,?_,hl,hs⟩
 ·cases e with
  | agg cs=>simp only [PV.solid,List.all_eq_true];exact fun c hx=>qI (hc c hx)
  | _=>exact qI (hc _ (List.mem_singleton.2 rfl))
 ·cases e with
  | agg cs =>
   simp only [PV.plain,PV.plainA,PV.agg.injEq]
   conv=>rhs;rw [← List.map_id cs]
   exact List.map_congr_left fun c hx=>aVP (hc c hx)
  | tuple cs=>have:=hc (.tuple cs) (List.mem_singleton.2 rfl);simp [okVc] at this
  | _=>exact aVP (hc _ (List.mem_singleton.2 rfl))
section
variable {P : Program} {base : Base} {M : Mem} {B : BM} {st : St} {tm : Array Value} {w : World}
theorem SR.noRow (h:SR base M B st tm w) {b0:aV} {r:List aV} (hbx:st.bx=b0::r) {id:Nat} (hid:look b0 id=none) {sz:Nat} (hs:0<sz) :
  SR base M B {st with bx:=((id,[.vec sz []])::b0)::r} tm w∧∀ b,tot st.fr tm w B (((id,[.vec sz []])::b0)::r) b=tot st.fr tm w B st.bx b:=by
 have hB0:B 0 id=none:=h.box.dom 0 id (by rw [hbx,bD];exact hid)
 have htot:∀ b,tot st.fr tm w B (((id,[.vec sz []])::b0)::r) b=tot st.fr tm w B st.bx b:=by
  intro b
  simp only [tot,cBx,hbx,fZ,dH,hB0,cBox,Nat.zero_add]
 refine ⟨⟨h.cons,h.slot,h.slotH,⟨?_,?_,?_,h.box.inj⟩,fun b=>by show tot st.fr tm w B _ b≤1;rw [htot];exact h.one b,h.glob,h.base⟩,htot⟩
 ·intro d f hf
  cases d with
  | zero =>
   simp at hf;subst hf
   simp only [List.map_cons,List.nodup_cons]
   exact ⟨yN.1 hid,h.box.nodup 0 b0 (by rw [hbx];rfl)⟩
  | succ d=>exact h.box.nodup (d+1) f (by rw [hbx];simpa using hf)
 ·intro d i hb'
  cases d with
  | zero =>
   simp only [bD,iV] at hb'
   split at hb'
   ·simp at hb'
   ·exact h.box.dom 0 i (by rw [hbx,bD];exact hb')
  | succ d=>exact h.box.dom (d+1) i (by rw [hbx];exact hb')
 ·intro d i cs hb'
  by_cases e:d=0∧i=id
  ·obtain ⟨rfl,rfl⟩:=e
   simp only [bD,iV,if_true,Option.some.injEq] at hb'
   subst hb'
   exact ⟨⟨hs,by simp⟩,.inr ⟨hB0,sz,rfl⟩⟩
  ·refine h.box.ok d i cs ?_
   rw [hbx]
   cases d with
   | zero =>
    simp only [bD,iV] at hb' ⊢
    rw [if_neg (by intro e2;exact e ⟨rfl,e2.symm⟩)] at hb'
    exact hb'
   | succ d=>exact hb'
theorem aMR (d id n sz:Nat) (v:Value):dV (.rsl d id n sz) v:=dV.of1 (by simp) (by simp) (by cases v<;>rfl)
theorem qJ (h : SR base M B st tm w) {o : Oper} {lv : List (Nat × PV)} (h1s : SR base M B { st with fr := lv ++ st.fr } tm w)
  (ht : ∀ b, tot (lv ++ st.fr) tm w B st.bx b ≤ tot st.fr tm w B st.bx b) {sz : Nat} {E : List PV} {e : Eff} (he : lZ tm.size o sz E lv st some = some e) {w' : World} {v : Value}
  (hold : ∀ b, b < w.heap.size → w'.heap[b]? = w.heap[b]?) (hsz : w.heap.size ≤ w'.heap.size) (hos : w'.os = w.os) (hta : w'.tape = w.tape) (hou : w'.output = w.output) (h0 : 0 < sz) (hE : ∀ x ∈ E, okVe sz x = true)
  (hrow : (∃ (blk cap : Nat) (xs : Array Value) (T : TypeId) (fz : Nat × Nat), v = .slice (some ⟨blk, 0, none⟩) E.length cap ∧ E.length ≤ cap ∧ w.heap.size ≤ blk ∧ w'.heap[blk]? = some (.cells xs T fz) ∧ E.length * sz ≤ xs.size ∧
    (∀ i, i < E.length * sz → ¬ (fz.1 ≤ i ∧ i < fz.2)) ∧ ∀ (j : Nat) (c : PV), (E.flatMap cells)[j]? = some c → Rv M B c (xs.getD j undef)) ∨ (E = [] ∧ ∃ oa, v = .slice oa 0 0)) :
  Aft base M B st tm w e (putT tm o.dst v) w' := by
 unfold lZ at he
 split at he
 ·rename_i id hid
  obtain ⟨hdst, hlt, b0, r, hbx, hlook⟩ := lB hid
  cases he
  have hws : ∀ n, dstW tm.size o.dst (.rsl 0 id n sz) ++ (lv ++ st.fr) = (id, .rsl 0 id n sz) :: lv ++ st.fr := by intro n; simp [dstW, hdst, hlt]
  unfold Aft
  rw [aVL st _ b0 r (id, [.vec sz E]) hbx, ← hws]
  rcases hrow with ⟨blk, cap, xs, T, fz, rfl, hcap, hblk, hnew, hxs, hfz, hrel⟩ | ⟨rfl, oa, rfl⟩
  ·have hE' : ∀ x ∈ E, x.cells.length = sz := fun x hx => (fU (hE x hx)).1
   have hok : ∀ (j : Nat) (c : PV), (E.flatMap cells)[j]? = some c → okVc c = true := by
    intro j c hc
    obtain ⟨x, hx, hc'⟩ := List.mem_flatMap.1 (List.mem_of_getElem? hc)
    exact (oR.1 (hE x hx)).2 c hc'
   have hz : ∀ b, bV (E.flatMap cells).length (fun j => c1 ((E.flatMap cells).getD j .bot) (xs.getD j undef) b) = 0 := by
    intro b
    apply gA
    intro j hj
    have hj' : (E.flatMap cells)[j]? = some (E.flatMap cells)[j] := List.getElem?_eq_getElem hj
    simp [c1, List.getD_eq_getElem?_getD, hj', aSf (hok j _ hj')]
   obtain ⟨k1, k2⟩ := h1s.newRow (cs := [.vec sz E]) (xs := xs) (T := T) (fz := fz) (w' := w') (blk := blk) hbx hlook hblk hold hnew hsz (by show (E.flatMap cells).length ≤ _; rw [kE E hE']; exact hxs) (by show ∀ i, i < (E.flatMap cells).length → _; rw [kE E hE']; exact hfz) ⟨h0, hE⟩
    (fun j c hc => ⟨hrel j c hc, tY (aSf (hok j c hc) _), aG6 (qI (hok j c hc))⟩) (fun b => by
     show _ + bV (E.flatMap cells).length (fun j => c1 ((E.flatMap cells).getD j .bot) (xs.getD j undef) b) ≤ 1
     rw [hz b]; exact Nat.le_trans (ht b) (h.one b))
   have hrp : Rv M (setB B id blk) (.rsl 0 id E.length sz) (.slice (some ⟨blk, 0, none⟩) E.length cap) := .rsl 0 id _ _ _ _ (by simp [setB]) hcap
   obtain ⟨q1, q2⟩ := k1.putN o.dst hrp (aMR _ _ _ _ _)
   refine ⟨fB _ _ _, M, setB B id blk, q1, hos, hta, hou, hsz, fun _ _ _ hx => hx, fun b hb _ => ⟨hold b hb, fun _ => rfl⟩, ?_, ?_, fun d id' => by simp [setB]⟩
   ·intro b hb
    have e1 := q2 b
    have e2 := k2 b
    have e3 : bV (phys [.vec sz E]).length (fun j => c1 ((phys [.vec sz E]).getD j .bot) (xs.getD j undef) b) = 0 := hz b
    have e4 := ht b
    rw [e3] at e2
    simp only at e1 e2 ⊢
    omega
   ·intro d i b hB hb
    unfold setB at hB
    split at hB
    ·simp at hB; omega
    ·exact ⟨d, i, hB⟩
  ·have hcons : Cons M w' := by
    intro b i v hm
    obtain ⟨arr, T', fz', hx, hv⟩ := h.cons b i v hm
    exact ⟨arr, T', fz', by rw [hold b (Array.getElem?_eq_some_iff.1 hx).1]; exact hx, hv⟩
   obtain ⟨j1, j2⟩ := h1s.world (M' := M) (w' := w') hcons (fun _ _ _ hx => hx) (fun d i b hB => ⟨hold b (h.box_lt hB).1, fun _ => rfl⟩) (fun b hb => ⟨hold b (h1s.tot_own hb).1, fun _ => rfl⟩) hsz
   obtain ⟨k1, k2⟩ := j1.noRow (sz := sz) hbx hlook h0
   obtain ⟨q1, q2⟩ := k1.putN o.dst (Rv.rslNil 0 id sz oa) (aMR _ _ _ _ _)
   refine ⟨fB _ _ _, M, B, q1, hos, hta, hou, hsz, fun _ _ _ hx => hx, fun b hb _ => ⟨hold b hb, fun _ => rfl⟩, ?_, fun d i b hB _ => ⟨d, i, hB⟩, fun _ _ => rfl⟩
   intro b hb
   have e1 := q2 b
   have e2 := k2 b
   have e3 := j2 b
   have e4 := ht b
   simp only at e1 e2 e3
   show tot (dstW tm.size o.dst (.rsl 0 id ([] : List PV).length sz) ++ (lv ++ st.fr)) (putT tm o.dst (.slice oa 0 0)) w' B (((id, [.vec sz []]) :: b0) :: r) b ≤ _
   simp only [List.length_nil]
   omega
 ·simp at he
theorem aTY {z:Value} {n:Nat} (h:okVe n (ofValue z)=true):∀ (j:Nat) (c:PV),(ofValue z).cells[j]?=some c→Rv M B c (z.cells.getD j undef):=by
 intro j c hc
 cases z with
 | agg cs =>
  simp only [ofValue,PV.cells,List.getElem?_map,Option.map_eq_some_iff,Array.getElem?_toList] at hc
  obtain ⟨v,hv,rfl⟩:=hc
  have:(Value.agg cs).cells.getD j undef=v:=by show cs.getD j undef=v;simp [hv]
  rw [this];exact .ofAtom v
 | tuple vs=>simp [ofValue,ofAtom,okVe,PV.cells,okVc] at h
 | _ =>
  have e:∀ v:Value,(∀ cs,ofAtom v ≠ .agg cs):=by intro v cs;unfold ofAtom;split<;>simp
  simp only [ofValue] at hc ⊢
  rw [aGX (e _)] at hc
  cases j with
  | zero=>simp at hc;subst hc;exact .ofAtom _
  | succ j=>simp at hc
theorem aVS (h:SR base M B st tm w) {o:Oper} {t e:TypeId} {i:TypeInfo} {x y:PV} {a b:Value} (hu:P.underlying t=some (.slice e)) (hi:P.info? e=some i)
  (h0:0<i.size) (hby:i.bytes≤512) (hz:yL i=true) (hx:Rv M B x a) (hy:Rv M B y b) {E:List PV} (hE:bAv i x y=some E) {ef:Eff} (he:lZ tm.size o i.size E [] st some=some ef) :
  ∃ v' w',(Instr.makeSlice t a b).run P w = .ok v' w'∧Aft base M B st tm w ef (putT tm o.dst v') w':=by
 obtain ⟨z,hzz,hzs⟩:=vL hz
 unfold bAv at hE
 rw [hzz] at hE
 simp only [aZ1] at hE
 obtain ⟨n,hn,hE⟩:=aB hE
 obtain ⟨m,hm,hE⟩:=aB hE
 split at hE
 ·rename_i hc
  obtain ⟨hlim,rfl,hok⟩:=hc
  cases hE
  have num:∀ {p:PV} {v:Value} {k:Nat},yK p=some k→Rv M B p v→∃ q,v = .int q (k:Int):=by
   intro p v k hk hr
   unfold yK at hk
   split at hk
   ·rename_i q j
    split at hk
    ·simp at hk
    ·rename_i hj
     have:j=(k:Int):=by simp at hk;omega
     rw [hr.int_inv,this];exact ⟨q,rfl⟩
   ·simp at hk
  obtain ⟨k1,rfl⟩:=num hn hx
  obtain ⟨k2,rfl⟩:=num hm hy
  have hlim':n≤274877906944:=hlim
  have hmul:(i.bytes:Int)*(n:Int)≤281474976710656:=by
   have h1:i.bytes*n≤512*274877906944:=Nat.mul_le_mul hby hlim'
   have h2:((i.bytes*n:Nat):Int)=(i.bytes:Int)*(n:Int):=Int.natCast_mul _ _
   omega
  have hrun:=run_make (P:=P) w t e i z hu hi hzz k1 k2 (n:Int) (n:Int) (by omega) (Int.le_refl _) hmul (by omega)
  have hsz:(madeCells z.cells (n*i.size)).size=n*i.size:=size_madeCells _ _
  rw [Int.toNat_natCast] at hrun
  refine ⟨_,_,hrun,?_⟩
  have hel:∀ x∈List.replicate n (ofValue z),okVe i.size x=true:=fun x hx=>by rw [(List.mem_replicate.1 hx).2];exact hok
  have hel':∀ x∈List.replicate n (ofValue z),x.cells.length=i.size:=fun x hx=>(fU (hel x hx)).1
  refine qJ (lv:=[]) h (by simpa using h) (fun b=>Nat.le_refl _) he (fun b hb=>by show (w.heap.push _)[b]?=_;rw [Array.getElem?_push,if_neg (by omega)]) (by show _≤(w.heap.push _).size;simp) rfl rfl rfl h0 hel (.inl ⟨w.heap.size,n,madeCells z.cells (n*i.size),e,(0,0),?_,?_,Nat.le_refl _,?_,?_,?_,?_⟩)
  ·rw [List.length_replicate]
  ·rw [List.length_replicate];exact Nat.le_refl _
  ·show (w.heap.push _)[w.heap.size]?=_
   simp
  ·rw [List.length_replicate,hsz];exact Nat.le_refl _
  ·intro j _;simp
  ·intro j c hj
   have hlt:=(List.getElem?_eq_some_iff.1 hj).1
   rw [kE _ hel',List.length_replicate] at hlt
   have hk:j=j / i.size*i.size+j % i.size:=by rw [Nat.mul_comm];exact (Nat.div_add_mod j i.size).symm
   have hd:j / i.size<n:=(Nat.div_lt_iff_lt_mul h0).2 hlt
   rw [hk,kD _ hel' _ _ (Nat.mod_lt _ h0),List.getElem?_replicate,if_pos hd] at hj
   have hz1:=aTY (M:=M) (B:=B) hok (j % i.size) c hj
   have:(madeCells z.cells (n*i.size)).getD j undef=z.cells.getD (j % i.size) undef:=by
    have hmod:j % i.size<z.cells.size:=by rw [hzs];exact Nat.mod_lt _ h0
    unfold madeCells
    simp only [Array.getD_eq_getD_getElem?,Array.getElem?_map,Array.getElem?_range,hlt,if_true,Option.map_some,Option.getD_some,hzs]
    rw [getElem!_pos z.cells (j % i.size) hmod,Array.getElem?_eq_getElem hmod,Option.getD_some]
   rw [this];exact hz1
 ·simp at hE
theorem aXX (h:SR base M B st tm w) {o:Oper} {lv:List (Nat×PV)} (h1s:SR base M B {st with fr:=lv++st.fr} tm w) {p q:PV} {v y:Value} (hr:Rv M B p v)
  (ht:∀ b,tot (lv++st.fr) tm w B st.bx b≤tot st.fr tm w B st.bx b) (hy:Rv M B q y)
  {t u ty e e':TypeId} {i:TypeInfo} (hut:P.underlying t=some (.slice e)) (hu:P.underlying u=some (.slice e')) (hi:P.info? e=some i)
  (hs:0<i.size) (hby:i.bytes≤512) (hz:yL i=true) {E:List PV} (ha:apdV i.size p q=some E) {ef:Eff} (he:lZ tm.size o i.size E lv st some=some ef) :
  ∃ v' w',(Builtin.append_ #[t,u] ty #[v,y]).run P w = .ok v' w'∧Aft base M B st tm w ef (putT tm o.dst v') w':=by
 obtain ⟨z,hzz,hzs⟩:=vL hz
 unfold apdV at ha
 split at ha
 ·rename_i bs E0 bs' o'
  split at ha
  ·rename_i hc
   cases ha
   obtain ⟨hlim,hszk⟩:=hc
   obtain ⟨g2,q1,q2,q3⟩:∃ g2,ElRel M B i.size E g2∧(Builtin.lenOf y).run P w = .ok E.length w∧∀ w':World,w'.heap=w.heap→(Builtin.firstCells i.size E.length y).run P w' = .ok ((List.range (E.length*i.size)).map g2).toArray w':=by
    cases hy with
    | nil o=>exact ⟨fun _=>undef,⟨by simp,by simp⟩,rfl,fun w' _=>by simp [Builtin.firstCells]⟩
    | slice _ _ _ ad cap s f ha2 hc ho hel hm hrr =>
     obtain ⟨g2,q1,q2,q3⟩:=aCb (P:=P) (Rv.slice E bs' o' ad cap s f ha2 hc ho hel hm hrr) h.cons hszk
     exact ⟨g2,q1,rfl,q3⟩
   have hE:∀ x∈E,okVe i.size x=true:=fun x hx=>by
    obtain ⟨k,hk⟩:=List.mem_iff_getElem?.1 hx
    exact (q1.el k x hk).ve
   obtain ⟨oa,rfl⟩:∃ oa,v = .slice oa 0 0:=by
    cases hr with
    | nil o=>exact ⟨none,rfl⟩
    | slice _ _ _ ad cap s f ha hc ho hel hm hrr=>have:=(ho rfl).1 rfl;subst this;exact ⟨some ad,rfl⟩
   by_cases hne:E=[]
   ·subst hne
    have hf0:=q3 w rfl
    simp only [List.length_nil,Nat.zero_mul,List.range_zero,List.map_nil] at hf0
    exact ⟨_,w,yV (P:=P) (ty:=ty) hut hu (by simp) hi oa 0 0 (Nat.le_refl _) y q2 hf0,qJ h h1s ht he (fun _ _=>rfl) (Nat.le_refl _) rfl rfl rfl hs hE (.inr ⟨rfl,oa,rfl⟩)⟩
   ·have hEl:0<E.length:=by cases E with
     | nil=>exact absurd rfl hne
     | cons a l=>simp
    have hfz:(Builtin.firstCells i.size 0 (.slice oa 0 0)).run P w.drew = .ok (([]:List Value).toArray) w.drew:=by
     cases oa with
     | none=>simp [Builtin.firstCells]
     | some ad=>simp [Builtin.firstCells,loadCells,loadCellsFrom]
    simp only [lim] at hlim
    have hb1:(0+E.length)*i.bytes≤140737488355328:=by
     have:(0+E.length)*i.bytes≤274877906944*512:=Nat.mul_le_mul (by omega) hby
     omega
    obtain ⟨cap',hcap',hrun⟩:=aBR (P:=P) (w:=w) (ty:=ty) hut hu (by simp) hi hzz oa 0 0 E.length (by omega) y [] _ q2 (q3 w.drew rfl) hfz hb1 (by omega)
    rw [Nat.zero_add] at hcap' hrun
    refine ⟨_,_,hrun,?_⟩
    have hRR:=ElRel.row (A:=[]) (E:=E) (g1:=fun _=>undef) (g2:=g2) (s:=i.size) (rest:=Builtin.zeroCells z.cells (cap'-E.length)) (M:=M) (B:=B) ⟨by simp,by simp⟩ q1 hs
    simp only [List.length_nil,Nat.zero_mul,List.range_zero,List.map_nil,List.nil_append] at hRR
    refine qJ h h1s ht he (fun b hb=>by show (w.heap.push _)[b]?=_;rw [Array.getElem?_push,if_neg (by omega)]) (by show _≤(w.heap.push _).size;simp) rfl rfl rfl hs hE
     (.inl ⟨w.heap.size,cap',_,e,(0,0),rfl,hcap',Nat.le_refl _,by show (w.heap.push _)[w.heap.size]?=_;simp,hRR.size,by intro j _;simp,?_⟩)
    intro j c hc
    have hE':∀ x∈E,x.cells.length=i.size:=fun x hx=>(fU (hE x hx)).1
    have hk:j=j / i.size*i.size+j % i.size:=by rw [Nat.mul_comm];exact (Nat.div_add_mod j i.size).symm
    rw [hk,kD E hE' _ _ (Nat.mod_lt _ hs)] at hc
    cases hx:E[j / i.size]? with
    | none=>rw [hx] at hc;simp at hc
    | some x =>
     rw [hx] at hc
     have:=hRR.rel (j / i.size) x (j % i.size) c hx hc
     rwa [← hk] at this
  ·simp at ha
 ·simp at ha
theorem aKF {M M':Mem} {B B':BM} {c:PV} {v:Value} (h:aIE c=true) (hr:Rv M B c v):Rv M' B' c v:=by
 cases hr with
 | bool b=>exact .bool b
 | int k n=>exact .int k n
 | str s=>exact .str s
 | _=>simp [aIE] at h
theorem aXY (h:SR base M B st tm w) {o:Oper} {lv:List (Nat×PV)} (h1s:SR base M B {st with fr:=lv++st.fr} tm w) {args:List PV} {vals:Array Value} {r:PV} {v:Value} {w':World}
  (hrel:∀ (i:Nat) (p:PV),args[i]?=some p→hV M w base B p (vals.getD i undef))
  (ht:∀ b,tot (lv++st.fr) tm w B st.bx b+cA args vals b≤tot st.fr tm w B st.bx b) (h0:∀ b,cA args vals b=0) (hpost:gM base M noB args [] vals w r [] v w')
  {sz:Nat} {E:List PV} (hE:bAt sz r=some E) {e:Eff} (he:lZ tm.size o sz E lv st some=some e) :
  Aft base M B st tm w e (putT tm o.dst v) w':=by
 obtain ⟨M',hr,hh,hbx,hc,hone,evo⟩:=hpost
 have hcb:∀ w b,cBx w noB [] b=0:=fun w b=>rfl
 have hkeep:∀ b,b<w.heap.size→w'.heap[b]?=w.heap[b]?:=by
  intro b hb
  refine (evo.keep b hb ?_).1
  rintro (h1 | ⟨d,id,h2⟩)
  ·have h1':1≤cA args vals b+cBx w noB [] b:=h1
   rw [hcb,h0] at h1';omega
  ·simp [noB] at h2
 have ht':∀ b,tot (lv++st.fr) tm w B st.bx b≤tot st.fr tm w B st.bx b:=fun b=>by have:=ht b;omega
 unfold bAt at hE
 split at hE
 ·rename_i E0 bs
  split at hE
  ·rename_i hcond
   cases hE
   obtain ⟨hs,hall⟩:=hcond
   have hfl:∀ x∈E,x.cells.length=sz∧∀ c∈x.cells,aIE c=true:=by
    intro x hx
    have:=List.all_eq_true.1 hall x hx
    simpa using this
   have hok:∀ x∈E,okVe sz x=true:=by
    intro x hx
    rw [oR]
    obtain ⟨h1,h2⟩:=hfl x hx
    refine ⟨h1,fun c hc => ?_⟩
    have:=h2 c hc
    unfold aIE at this
    split at this<;>first | rfl | simp at this
   cases hr with
   | nil o=>exact qJ h h1s ht' he hkeep evo.size evo.os evo.tape evo.output hs hok (.inr ⟨rfl,none,rfl⟩)
   | slice _ _ _ a cap s f ha hcp ho hel hm hrr =>
    by_cases hne:E=[]
    ·subst hne
     have:=(ho rfl).1 rfl
     subst this
     exact qJ h h1s ht' he hkeep evo.size evo.os evo.tape evo.output hs hok (.inr ⟨rfl,some a,rfl⟩)
    ·have hb0:=(ho rfl).2.1
     subst hb0
     have hof:=(ho rfl).2.2 hne
     simp only [List.append_nil,List.length_nil,Nat.add_zero] at hcp hel hm hrr
     obtain ⟨x0,E0,rfl⟩:∃ x0 E0,E=x0::E0:=by cases E with
      | nil=>exact absurd rfl hne
      | cons x0 E0=>exact ⟨x0,E0,rfl⟩
     have hss:s=sz:=by rw [← (hel 0 x0 rfl).2.2.1];exact (hfl x0 (by simp)).1
     subst hss
     have hsp:a.spot=none:=ha (by simp at hcp;omega)
     have hk:HOk M' w' base noB a.block (a.off+(x0::E0).length*x0.cells.length) (a.off+cap*x0.cells.length):=(aDu (by simp) (by simp)).1 hh
     rw [(hfl x0 (by simp)).1,hof] at hk
     obtain ⟨arr,T,fz,hrow,hsz2,hfz⟩:=hk.row
     have hblk:w.heap.size≤a.block:=by
      rcases Nat.lt_or_ge a.block w.heap.size with hlt | hge
      ·have h1:=evo.tle a.block hlt
       have h2:cV (.slice (x0::E0) [] true) (.slice (some a) (x0::E0).length cap) a.block=1:=by rw [yQ (by simp) (by simp)];simp [c1,own1]
       simp only [hcb,h0] at h1
       omega
      ·exact hge
     have hM:∀ (i:Nat) (x:PV) (j:Nat),(x0::E0)[i]?=some x→j<s→arr[i*s+j]?=some (f i j):=by
      intro i x j hx hj
      have:=hm i x j hx hj
      rw [hof,Nat.zero_add] at this
      obtain ⟨arr',T',fz',q1,q2⟩:=hc _ _ _ this
      rw [hrow] at q1;cases q1
      exact q2
     have hcs:(x0::E0).length*s≤cap*s:=Nat.mul_le_mul_right s hcp
     have ea:a=⟨a.block,0,none⟩:=by cases a;simp_all
     refine qJ h h1s ht' he hkeep evo.size evo.os evo.tape evo.output hs hok
      (.inl ⟨a.block,cap,arr,T,fz,by rw [← ea],hcp,hblk,hrow,by omega,fun i hi=>hfz i (by omega),?_⟩)
     ·intro j c hc'
      have hE':∀ x∈(x0::E0),x.cells.length=s:=fun x hx=>(hfl x hx).1
      have hk':j=j / s*s+j % s:=by rw [Nat.mul_comm];exact (Nat.div_add_mod j s).symm
      have hmod:j % s<s:=Nat.mod_lt _ hs
      rw [hk',kD _ hE' _ _ hmod] at hc'
      cases hx:(x0::E0)[j / s]? with
      | none=>rw [hx] at hc';simp at hc'
      | some x =>
       rw [hx] at hc'
       have q1:=hrr (j / s) x (j % s) c hx hc'
       have q2:=hM (j / s) x (j % s) hx hmod
       rw [← hk'] at q2
       rw [Array.getD_eq_getD_getElem?,q2,Option.getD_some]
       exact aKF ((hfl x (List.mem_of_getElem? hx)).2 c (List.mem_of_getElem? hc')) q1
  ·simp at hE
 ·simp at hE
theorem aXZ {M M':Mem} {B B':BM} {r:PV} {v:Value} (h:scal r=true) (hr:Rv M B r v):Rv M' B' r v∧dV r v:=by
 have one:∀ {c:PV} {v:Value},aIE c=true→Rv M B c v→Rv M' B' c v∧dV c v:=by
  intro c v hc hv
  refine ⟨aKF hc hv,bR ?_⟩
  cases c<;>first | rfl | simp [aIE] at hc
 cases r with
 | tuple vs =>
  simp only [scal,List.all_eq_true] at h
  cases hr with
  | tuple _ xs f hl hf hrr =>
   refine ⟨.tuple _ xs f hl hf fun i c hc=>aKF (h c (List.mem_of_getElem? hc)) (hrr i c hc),bR ?_⟩
   simp only [PV.plain,PV.tuple.injEq]
   conv=>rhs;rw [← List.map_id vs]
   refine List.map_congr_left fun c hc => ?_
   have:=h c hc
   cases c<;>first | rfl | simp [aIE] at this
 | _=>exact one h hr
noncomputable def lend (M:Mem) (w:World) (B:BM) (bx:List aV):Mem:=fun b i =>
 open Classical in
 match M b i with
 | some v=>some v
 | none=>if ∃ id sz E,aX bx 0 id=some [.vec sz E]∧B 0 id=some b then w.cell? ⟨b,i,none⟩ else none
theorem yW {M:Mem} {w:World} {B:BM} {bx:List aV} (b i:Nat) (v:Value) (h:M b i=some v):lend M w B bx b i=some v:=by
 unfold lend;rw [h]
theorem aVT (h:SR base M B st tm w):Cons (lend M w B st.bx) w:=by
 intro b i v hv
 unfold lend at hv
 split at hv
 ·rename_i x hx;cases hv;exact h.cons b i _ hx
 ·split at hv
  ·simp only [World.cell?] at hv
   split at hv
   ·rename_i arr T fz hrow
    exact ⟨arr,T,fz,hrow,by simpa using hv⟩
   ·simp at hv
  ·simp at hv
theorem aX0 (h : SR base M B st tm w) {id sz n : Nat} {E : List PV} (hb : aX st.bx 0 id = some [.vec sz E]) (hn : n ≤ E.length) {v : Value} (hr : Rv M B (.rsl 0 id n sz) v) :
  Rv (lend M w B st.bx) noB (.slice (E.take n) [] false) v := by
 obtain ⟨hs, hE⟩ : okV [.vec sz E] := (h.box.ok 0 id _ hb).1
 have hlen : (E.take n).length = n := by simp; omega
 cases hr with
 | rslNil _ _ _ oa =>
  simp only [List.take_zero]
  cases oa with
  | none => exact .nil false
  | some a => exact .slice [] [] false a 0 1 (fun _ _ => undef) (fun h => absurd h (by omega)) (by simp) (by simp) (by simp) (by simp) (by simp)
 | rsl _ _ _ _ blk cap hB hc =>
  obtain ⟨arr, T, fz, hrow, hsz, hfz, ok, hcell⟩ := mC h hb hB
  have hE' : ∀ e ∈ E, e.cells.length = sz := fun e he => (fU (hE e he)).1
  have hfl : (E.flatMap cells).length = E.length * sz := kE E hE'
  have hM : ∀ k, k < E.length * sz → lend M w B st.bx blk k = some (bO w blk k) := by
   intro k hk
   unfold lend
   rw [ok.free k]
   simp only
   rw [if_pos ⟨id, sz, E, hb, hB⟩]
   exact hcell k (by show k < (E.flatMap cells).length; omega)
  have hin : ∀ (i : Nat) (e : PV), (E.take n ++ [])[i]? = some e → E[i]? = some e := by
   intro i e he
   rw [List.append_nil, List.getElem?_take] at he
   split at he
   ·exact he
   ·simp at he
  have hmul : ∀ i j, i < E.length → j < sz → i * sz + j < E.length * sz := by
   intro i j hi hj
   have : (i + 1) * sz ≤ E.length * sz := Nat.mul_le_mul_right sz hi
   rw [Nat.add_mul] at this; omega
  have key := Rv.slice (M := lend M w B st.bx) (B := noB) (E.take n) [] false ⟨blk, 0, none⟩ cap sz (fun i j => bO w blk (i * sz + j)) (fun _ => rfl) (by simp; omega) (by simp)
   (fun i e he => okVe.el (hE e (List.mem_of_getElem? (hin i e he))) hs)
   (fun i e j he hj => by
    rw [Nat.zero_add]
    exact hM _ (hmul i j (List.getElem?_eq_some_iff.1 (hin i e he)).1 hj))
   (fun i e j c he hc' => by
    have he' := hin i e he
    have hel := hE' e (List.mem_of_getElem? he')
    have hj : j < sz := by rw [← hel]; exact (List.getElem?_eq_some_iff.1 hc').1
    have hph : (phys [.vec sz E])[i * sz + j]? = some c := by
     show (E.flatMap cells)[i * sz + j]? = some c
     rw [kD E hE' i j hj, he']; exact hc'
    have hsol := (fU (hE e (List.mem_of_getElem? he'))).2 c (List.mem_of_getElem? hc')
    exact ((ok.rel _ c hph).1.anyB1 noB hsol).mono (fun b i v hv => yW b i v hv) (fun _ _ _ hx => hx))
  rw [hlen] at key
  exact key
theorem bAA (h : SR base M B st tm w) {dst : Option Nat} {lv : List (Nat × PV)} (h1s : SR base M B { st with fr := lv ++ st.fr } tm w) {args args' : List PV} {vals : Array Value} {r : PV} {v : Value} {w' : World} {Mp : Mem} {cr : List (Nat × Nat × Nat × Nat)}
  (hrel : ∀ (i : Nat) (p : PV), args[i]? = some p → hV M w base B p (vals.getD i undef))
  (hcA : ∀ b, cA args' vals b ≤ cA args vals b)
  (ht : ∀ b, tot (lv ++ st.fr) tm w B st.bx b + cA args vals b ≤ tot st.fr tm w B st.bx b) (hMp : ∀ b i v, M b i = some v → Mp b i = some v) (hpost : gM base Mp noB args' [] vals w r [] v w') (hs : scal r = true) :
  Aft base M B st tm w { cr := cr, ws := dstW tm.size dst r ++ lv } (putT tm dst v) w' := by
 obtain ⟨M', hr, hh, hbx, hc, hone, evo⟩ := hpost
 have hcb : ∀ w b, cBx w noB [] b = 0 := fun w b => rfl
 have hAown : ∀ b, 1 ≤ cA args vals b → (∀ d id, B d id ≠ some b) ∧ b < w.heap.size := by
  intro b hb
  obtain ⟨i, p, hp, hcv⟩ := aSh hb
  have := aSi (hrel i p hp) hcv
  exact ⟨this.1, this.2.1⟩
 have hkeep : ∀ b, b < w.heap.size → cA args vals b = 0 → w'.heap[b]? = w.heap[b]? := by
  intro b hb hz
  refine (evo.keep b hb ?_).1
  rintro (h1 | ⟨d, id, h2⟩)
  ·have h1' : 1 ≤ cA args' vals b + cBx w noB [] b := h1
   have := hcA b
   rw [hcb] at h1'; omega
  ·simp [noB] at h2
 have hcons : Cons M w' := fun b i v hv => hc b i v (evo.mono b i v (hMp b i v hv))
 obtain ⟨k1, k2⟩ := h1s.world (M' := M) (w' := w') hcons (fun _ _ _ hx => hx)
  (fun d id b hB => ⟨hkeep b (h.box_lt hB).1 (by
   cases hx : cA args vals b with
   | zero => rfl
   | succ n => exact absurd hB ((hAown b (by omega)).1 d id)), fun _ => rfl⟩)
  (fun b hb => ⟨hkeep b (h1s.tot_own hb).1 (by have := ht b; have := h.one b; simp only at hb; omega), fun _ => rfl⟩) evo.size
 obtain ⟨hrB, hno⟩ := aXZ (M' := M) (B' := B) hs hr
 obtain ⟨q1, q2⟩ := k1.putN dst hrB hno
 have happ : ({ cr := cr, ws := dstW tm.size dst r ++ lv } : Eff).app st = { st with fr := dstW tm.size dst r ++ (lv ++ st.fr) } := by
  rw [← List.append_assoc]; exact xU st _
 unfold Aft
 rw [happ]
 refine ⟨fB _ _ _, M, B, q1, evo.os, evo.tape, evo.output, evo.size, fun _ _ _ hx => hx, ?_, ?_, fun d i b hB _ => ⟨d, i, hB⟩, fun _ _ => rfl⟩
 ·intro b hb hnt
  refine ⟨hkeep b hb ?_, fun _ => rfl⟩
  cases hx : cA args vals b with
  | zero => rfl
  | succ n => exfalso; apply hnt; left; have := ht b; omega
 ·intro b hb
  have e1 := q2 b
  have e2 := k2 b
  have e3 := ht b
  simp only at e1 e2 ⊢
  omega
theorem aJR {bx:List aV} {p:PV} (h:aIF bx p=true):(∃ id n sz E,p = .rsl 0 id n sz∧aX bx 0 id=some [.vec sz E]∧n≤E.length∧brwV bx p = .slice (E.take n) [] false)∨brwV bx p=p:=by
 unfold aIF at h
 split at h
 ·rename_i id n sz
  split at h
  ·rename_i sz' E hb
   simp only [Bool.and_eq_true] at h
   have h1:=Nat.eq_of_beq_eq_true h.1
   subst h1
   left
   refine ⟨id,n,sz,E,rfl,hb,Nat.le_of_ble_eq_true h.2,?_⟩
   simp only [brwV,hb]
  ·simp at h
 ·rename_i hne
  right
  unfold brwV
  split
  ·rename_i id n sz;exact absurd rfl (hne id n sz)
  ·rfl
theorem bAB (h:SR base M B st tm w) {args:List PV} {vals:Array Value} (hsz:vals.size=args.length) (hrel:∀ (i:Nat) (p:PV),args[i]?=some p→Rv M B p (vals.getD i undef)∧hV M w base B p (vals.getD i undef))
  (hone:∀ b,cA args vals b≤1) (hbo:∀ p∈args,aIF st.bx p=true) (hfree:∀ p∈args.map (brwV st.bx),free p=true) :
  CallPre base (lend M w B st.bx) noB (args.map (brwV st.bx)) [] vals w∧∀ b,cA (args.map (brwV st.bx)) vals b≤cA args vals b:=by
 have hle:∀ b,cA (args.map (brwV st.bx)) vals b≤cA args vals b:=by
  intro b
  unfold cA
  rw [List.length_map]
  apply aDp
  intro i hi
  have e1:(args.map (brwV st.bx)).getD i .bot=brwV st.bx args[i]:=by
   simp only [List.getD_eq_getElem?_getD,List.getElem?_map,List.getElem?_eq_getElem hi,Option.map_some,Option.getD_some]
  have e2:args.getD i .bot=args[i]:=by simp only [List.getD_eq_getElem?_getD,List.getElem?_eq_getElem hi,Option.getD_some]
  rw [e1,e2]
  rcases aJR (hbo _ (List.getElem_mem hi)) with ⟨id,n,sz,E,_,_,_,e3⟩ | e3
  ·rw [e3,(kK _ _ _).c b];omega
  ·rw [e3];exact Nat.le_refl _
 refine ⟨⟨aVT h,by rw [List.length_map];exact hsz,?_,⟨by simp,fun _ _ _=>rfl,by simp [qS],by simp [noB]⟩,?_,h.glob.mono yW,h.base⟩,hle⟩
 ·intro i p hp
  have hp0:=hp
  rw [List.getElem?_map,Option.map_eq_some_iff] at hp
  obtain ⟨q,hq,rfl⟩:=hp
  obtain ⟨r1,r2⟩:=hrel i q hq
  rcases aJR (hbo q (List.mem_of_getElem? hq)) with ⟨id,n,sz,E,rfl,hb,hn,e3⟩ | e3
  ·rw [e3,aG7]
   exact ⟨aX0 h hb hn r1,(kK _ _ _).h _ _ _ _⟩
  ·have hf:=hfree _ (List.mem_of_getElem? hp0)
   rw [e3] at hf ⊢
   refine ⟨(r1.anyBfree _ hf).mono (fun b i v hv=>yW b i v hv) (fun _ _ _ hx=>hx),?_⟩
   intro x hx
   have hx1:=r2 x hx
   refine (hx1.world (M':=lend M w B st.bx) (w':=w) (B':=noB) (fun b i v hv=>yW b i v hv) fun b ho _=>⟨rfl,fun i => ?_,fun d id hb=>by simp [noB] at hb⟩)
   unfold lend
   split
   ·rename_i v hv;exact hv.symm
   ·rename_i hv
    rw [if_neg,hv]
    rintro ⟨id,sz,E,_,hB⟩
    exact (hx1.nobox ho).1 0 id hB
 ·intro b
  have e3:cBx w noB [] b=0:=rfl
  have:=hle b
  have:=hone b
  omega
end
end Go.Ev

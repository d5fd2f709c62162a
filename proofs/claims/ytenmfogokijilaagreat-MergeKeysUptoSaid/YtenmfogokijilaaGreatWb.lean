import Derived.Test.YtenmfogokijilaaGreatWa
import Derived.Test.YtenmfogokijilaaGreatEc
import Derived.KernelRfl
import Derived.Test.YtenmfogokijilaaGreatGc
import Derived.Test.YtenmfogokijilaaGreatEd
import Derived.Test.YtenmfogokijilaaGreatGa
set_option maxHeartbeats 4000000
noncomputable section
set_option maxRecDepth 100000
set_option linter.unusedSectionVars false
set_option linter.unusedVariables false
set_option linter.unusedSimpArgs false
set_option linter.unusedSimpArgs false
open Go Go.Ev Go.RowKit
namespace Go.Ev
theorem ab0:type_of% @List.getElem_of_mem:=@List.getElem_of_mem
theorem abF:type_of% @List.mem_map_of_mem:=@List.mem_map_of_mem
end Go.Ev
namespace Go.Proofs.YtenmfogokijilaaGreat
theorem Tryz.u66:Tryz.prog.underlying 66=some (.slice 9):=by simp
theorem Tryz.i9:aIL (Tryz.prog.info? 9) 1 16=true:=by kernel_rfl
abbrev sV (s:Str):Value := .string ⟨s.toArray⟩
theorem bDx {M} {l:List Str} {a n p} (h:Rv M noB (.slice (List.map PV.str l) [] false) (.slice a n p)) :
  n=l.length/\(l≠[]->∃ blk off,a=some ⟨blk,off,none⟩/\∀ k u,(l.map sV)[k]?=some u->M blk (off+k)=some u):=by
 generalize d:List.map PV.str l=es at h;cases h with
 | nil o =>
  simp_all
 | slice w bs o a cap s f r t C g z m =>
  have y:es.length=l.length:=by rw [<- d];simp
  refine ⟨y,fun e=>⟨a.block,a.off,by
   have:=r (by have:=abs.2 e;omega);obtain ⟨b,o,s⟩:=a;simp at this;rw [this],fun k u B => ?_⟩⟩
  obtain ⟨x,A,rfl⟩:∃ x,l[k]?=some x/\sV x=u:=by
   grind
  have c:(es++[])[k]?=some (PV.str x):=by grind
  have q:s=1:=(g k _ c).2.2.1.symm;subst q;have j:=z k _ 0 c (by omega);have i:=m k _ 0 _ c rfl;generalize f k 0=v at j i;cases i;simpa using j
structure SR (M:Mem) (w0:World) (g cap n:Nat) (xs:List Str) (w:World):Prop where
 b:Below w0.heap.size w0 w
 len:xs.length=n
 o:w.ownsRow w0.heap.size 9 1 (.slice (some ⟨g,0,none⟩) n cap) n (xs.map sV)
theorem SR.cell {M b w g cap n xs} (h:SR M b g cap n xs w) {j x} (a:xs[j]?=some x):w.cell? ⟨g,j,none⟩=some (sV x)/\w.frozen? ⟨g,j,none⟩=false:=by
 have c:=(aa2.1 a).1;refine ⟨?_,h.o.frozenAt _⟩;rw [h.o.cellAt _ (by have:=h.len;omega),aa9,a];rfl
theorem SR.drew {M a w g cap n xs} (h:SR M a g cap n xs w):SR M a g cap n xs w.drew:=⟨h.b.drew,h.len,kJ h.o fun _ _=>rfl⟩
theorem SR.put {M a w g cap n xs} (h:SR M a g cap n xs w) j x (c:j<n):SR M a g cap n (xs.set j x) (w.setCell ⟨g,j,none⟩ (sV x)) :=
 ⟨h.b.setCell (h.o.lt g rfl).1 _,by rw [aaO];exact h.len,by
  have:=aNR h.o j (sV x) (by rw [aau,h.len];exact c);simp_all⟩
noncomputable def so0:Code:=fstC (bB Tryz.f142)
noncomputable def so1:Code:=fstC (sndC (bB Tryz.f142))
noncomputable def so2:Code:=fstC (fstC (sndC (sndC (bB Tryz.f142))))
noncomputable def so9:Code:=sndC (sndC (sndC (bB Tryz.f142)))
noncomputable def soL:Code:=lopC (blkC (sndC (fstC (sndC (sndC (bB Tryz.f142))))))
noncomputable def so3:Code:=fstC soL
noncomputable def so4:Code:=sndC (sndC soL)
noncomputable def so5:Code:=fstC (blkC (fstC (sndC soL)))
noncomputable def soM:Code:=lopC (blkC (sndC (blkC (fstC (sndC soL)))))
noncomputable def so6:Code:=fstC soM
noncomputable def so8:Code:=blkC (fstC (sndC soM))
noncomputable def so7:Code:=sndC (sndC soM)
noncomputable def soI:Code:=.seq so6 (.seq (.block 3 so8) so7)
noncomputable def soO:Code:=.seq so3 (.seq (.block 1 (.seq so5 (.block 2 (.loop soI)))) so4)
theorem bIg:Tryz.f142.body=some (.seq so0 (.seq so1 (.seq (.seq so2 (.block 0 (.loop soO))) so9))):=by kernel_rfl
theorem so0L w v Q fr (a:fr.length=48) (g:FV fr [(0,v)]) (b:∀ l',l'.length=48->FV l' [(0,v)]->Q .normal ⟨l'.toArray,[]⟩ w):Code.wp Tryz.prog so0 Q ⟨fr.toArray,[]⟩ w:=by
 replace b:=(id b:Hid _);revert g;refine eR 48 (fun fr=>FV fr _->Code.wp Tryz.prog _ _ ⟨fr.toArray,[]⟩ _) ?_ fr a;iterate 48 intro _
 rintro ⟨c,_⟩;subst c;simp [so0,Tryz.f142,bB,fstC];go_wp2;exact b.out _ rfl ⟨rfl,trivial⟩
theorem so1N w a p Q fr (b:fr.length=48) (g:FV fr [(0,.slice a 0 p)]) (c:∀ l',l'.length=48->FV l' [(3,.slice none 0 0)]->Q .normal ⟨l'.toArray,[]⟩ w):Code.wp Tryz.prog so1 Q ⟨fr.toArray,[]⟩ w:=by
 replace c:=(id c:Hid _);revert g;refine eR 48 (fun fr=>FV fr _->Code.wp Tryz.prog _ _ ⟨fr.toArray,[]⟩ _) ?_ fr b;simp only [AllL];iterate 48 intro _
 rintro ⟨g0,_⟩;simp [at_] at g0;subst g0;unfold so1;simp [so1,Tryz.f142,bB,sndC,fstC];cases a with
 | none =>
  go_wp2;exact c.out _ rfl ⟨rfl,trivial⟩
 | some a =>
  have hld:=bJN Tryz.prog a w;go_wp2;exact c.out _ rfl ⟨rfl,trivial⟩
theorem so1L {M w} l blk off p (hl:0<l.length) (hn:l.length<1073741824) (hc:Cons M w) (hm:∀ k u,(l.map sV)[k]?=some u->M blk (off+k)=some u) Q fr (h:fr.length=48) (g:FV fr [(0,.slice (some ⟨blk,off,none⟩) l.length p)])
  (hC:∀ g cap w' l',l'.length=48->SR M w g cap l.length l w'->FV l' [(3,.slice (some ⟨g,0,none⟩) l.length cap)]->Q .normal ⟨l'.toArray,[]⟩ w'):Code.wp Tryz.prog so1 Q ⟨fr.toArray,[]⟩ w:=by
 have b:∀ (k:Nat) u,(l.map sV)[k]?=some u->w.cell? ((⟨blk,off,none⟩:Addr).add k)=some u:=fun j u o=>by rw [addN];exact rQ hc (hm j u o)
 have e:∀ u∈l.map sV,u.oneCell'=true:=by intro u o;obtain ⟨s,_,rfl⟩:=aah.1 o;rfl
 obtain ⟨i0,z0,hi,n,r,i,t⟩:=aAq Tryz.i9;have q:(l.map sV).length=l.length*1:=by simp
 have m:Hid (∀ g cap a l',a.ownsRow w.heap.size 9 1 (.slice (some ⟨g,0,none⟩) (0+l.length) cap) (0+l.length) ([]++l.map sV)->w.grownBy a (Value.slice none 0 0).ownBlock->l'.length=48->FV l' [(3,.slice (some ⟨g,0,none⟩) l.length cap)]->Q .normal ⟨l'.toArray,[]⟩ a):=by
  intro g cap a l' k1 k2 k3 k4;rw [aae] at k1;exact hC g cap a l' k3 ⟨(Below.refl _ _).grown k2 (by omega) (fun k hk=>by simp [Value.ownBlock] at hk),rfl,k1⟩ k4
 clear hC hm;revert g;refine eR 48 (fun fr=>FV fr _->Code.wp Tryz.prog _ _ ⟨fr.toArray,[]⟩ _) ?_ fr h;simp [AllL];iterate 48 intro _
 rintro ⟨v,_⟩;simp [at_] at v;subst v;unfold so1;simp [so1,Tryz.f142,bB,sndC,fstC];go_wp2_with (at_builtin;refine wpList_append_lies _ rfl (.const (.slice none 0 0)) (.tmp 6) 66 rfl w.heap.size 9 i0 _ 1 16 Tryz.u66 hi n r i t (by decide) (.slice none 0 0) 0 [] rfl (abE _ _ _ _) ⟨blk,off,none⟩ l.length p (l.map sV) rfl q b e hl (by simp [maxLen];omega) (by omega) (by omega) _ rfl ?_;intro g d a f c hat hlt);exact m.out g d a _ f c rfl ⟨rfl,trivial⟩
theorem so2L w v Q fr (a:fr.length=48) (g:FV fr [(3,v)]) (b:∀ l',l'.length=48->FV l' [(3,v),(4,.int .i64 (1:Nat))]->Q .normal ⟨l'.toArray,[]⟩ w):Code.wp Tryz.prog so2 Q ⟨fr.toArray,[]⟩ w:=by
 replace b:=(id b:Hid _);revert g;refine eR 48 (fun fr=>FV fr _->Code.wp Tryz.prog _ _ ⟨fr.toArray,[]⟩ _) ?_ fr a;iterate 48 intro _
 rintro ⟨c,_⟩;subst c;simp [so2,Tryz.f142,bB,sndC,fstC];go_wp2;exact b.out _ rfl ⟨rfl,rfl,trivial⟩
theorem so3L w a (n p i:Nat) Q fr (b:fr.length=48) (g:FV fr [(3,.slice a n p),(4,.int .i64 i)]) (d:n<=i->∀ l',l'.length=48->FV l' [(3,.slice a n p)]->Q (.exit 0) ⟨l'.toArray,[]⟩ w) (e:i<n->∀ l',l'.length=48->FV l' [(3,.slice a n p),(4,.int .i64 i)]->Q .normal ⟨l'.toArray,[]⟩ w):Code.wp Tryz.prog so3 Q ⟨fr.toArray,[]⟩ w:=by
 replace e:=(id e:Hid _);replace d:=(id d:Hid _);revert g;refine eR 48 (fun fr=>FV fr _->Code.wp Tryz.prog _ _ ⟨fr.toArray,[]⟩ _) ?_ fr b;iterate 48 intro _
 rintro ⟨f,h,_⟩;subst f h;simp [so3,soL,Tryz.f142,bB,sndC,fstC,blkC,lopC];by_cases c:i<n;· go_wp2;exact e.out c _ rfl ⟨rfl,rfl,trivial⟩
 go_wp2;exact d.out (by omega) _ rfl ⟨rfl,trivial⟩
theorem so5L w v u Q fr (a:fr.length=48) (g:FV fr [(3,v),(4,u)]) (b:∀ l',l'.length=48->FV l' [(3,v),(4,u),(5,u)]->Q .normal ⟨l'.toArray,[]⟩ w):Code.wp Tryz.prog so5 Q ⟨fr.toArray,[]⟩ w:=by
 replace b:=(id b:Hid _);revert g;refine eR 48 (fun fr=>FV fr _->Code.wp Tryz.prog _ _ ⟨fr.toArray,[]⟩ _) ?_ fr a;iterate 48 intro _
 rintro ⟨c,d,_⟩;subst c d;simp [so5,soL,Tryz.f142,bB,sndC,fstC,blkC,lopC];go_wp2;exact b.out _ rfl ⟨rfl,rfl,rfl,trivial⟩
theorem so4L w v (i:Nat) (e:i<1073741824) Q fr (a:fr.length=48) (g:FV fr [(3,v),(4,.int .i64 i)]) (b:∀ l',l'.length=48->FV l' [(3,v),(4,.int .i64 (i+1:Nat))]->Q .normal ⟨l'.toArray,[]⟩ w):Code.wp Tryz.prog so4 Q ⟨fr.toArray,[]⟩ w:=by
 replace b:=(id b:Hid _);revert g;refine eR 48 (fun fr=>FV fr _->Code.wp Tryz.prog _ _ ⟨fr.toArray,[]⟩ _) ?_ fr a;iterate 48 intro _
 rintro ⟨c,d,_⟩;subst c d;simp [so4,soL,Tryz.f142,bB,sndC,fstC,blkC,lopC];go_wp2;exact b.out _ rfl ⟨rfl,by first | rfl | (simp),trivial⟩
theorem so7L w v u k (f:k+1<1073741824) Q fr (a:fr.length=48) (g:FV fr [(3,v),(4,u),(5,.int .i64 (k+1:Nat))]) (b:∀ l',l'.length=48->FV l' [(3,v),(4,u),(5,.int .i64 k)]->Q .normal ⟨l'.toArray,[]⟩ w):Code.wp Tryz.prog so7 Q ⟨fr.toArray,[]⟩ w:=by
 replace b:=(id b:Hid _);revert g;refine eR 48 (fun fr=>FV fr _->Code.wp Tryz.prog _ _ ⟨fr.toArray,[]⟩ _) ?_ fr a;iterate 48 intro _
 rintro ⟨d,e,c,_⟩;subst d e c;simp [so7,soM,soL,Tryz.f142,bB,sndC,fstC,blkC,lopC];go_wp2;exact b.out _ rfl ⟨rfl,rfl,by first | rfl | (simp),trivial⟩
theorem so9L w v Q fr (a:fr.length=48) (g:FV fr [(3,v)]) (b:∀ l',l'.length=48->FV l' [(2,v)]->Q .ret ⟨l'.toArray,[]⟩ w):Code.wp Tryz.prog so9 Q ⟨fr.toArray,[]⟩ w:=by
 replace b:=(id b:Hid _);revert g;refine eR 48 (fun fr=>FV fr _->Code.wp Tryz.prog _ _ ⟨fr.toArray,[]⟩ _) ?_ fr a;iterate 48 intro _
 rintro ⟨c,_⟩;subst c;simp [so9,Tryz.f142,bB,sndC];go_wp2;exact b.out _ rfl ⟨rfl,trivial⟩
theorem so6N w v u Q fr (c:fr.length=48) (g:FV fr [(3,v),(4,u),(5,.int .i64 (0:Nat))]) (d:∀ l',l'.length=48->FV l' [(3,v),(4,u)]->Q (.exit 2) ⟨l'.toArray,[]⟩ w.drew):Code.wp Tryz.prog so6 Q ⟨fr.toArray,[]⟩ w:=by
 replace d:=(id d:Hid _);revert g;refine eR 48 (fun fr=>FV fr _->Code.wp Tryz.prog _ _ ⟨fr.toArray,[]⟩ _) ?_ fr c;simp only [AllL];iterate 48 intro _
 rintro ⟨i,k,f,_⟩;simp only [at_] at i k f;subst i k f;unfold so6;simp [so6,soM,soL,Tryz.f142,bB,sndC,fstC,blkC,lopC];refine wp_seq ?_;refine ab5 (Q:=Exit.then (fun a w=>Code.wp Tryz.prog (sndC (fstC (lopC (blkC (sndC (blkC (fstC (sndC (lopC (blkC (sndC (fstC (sndC (sndC (bB Tryz.f142))))))))))))))) Q a w) (fun _ _ _=>False)) (fun e a w h=>by cases e<;>first | exact h | exact h.elim) ?_;refine uI (fun w'=>w'=w.drew/\w'.heap=w.heap) (fun j=>false) (by kernel_rfl) ?_;have b:w.drew=w.drew/\w.drew.heap=w.heap:=⟨rfl,rfl⟩;try simp [Act.put,aa7,aa8,aab]
 refine tk 0 b ?_;try go_simp
 refine tk 1 b ?_;try go_simp
 refine tk 2 b ?_;try go_simp
 refine tk 3 b ?_ (hy:=by exact Or.inr ⟨by kernel_rfl,rfl⟩);try go_simp
 refine tk 4 b ?_ (hy:=by exact Or.inr ⟨by kernel_rfl,rfl⟩);try go_simp
 refine tk 5 b ?_ (hy:=by exact Or.inr ⟨by kernel_rfl,rfl⟩);try go_simp
 refine tk 6 b ?_ (hy:=by exact Or.inr ⟨by kernel_rfl,rfl⟩);try go_simp
 refine tk 7 b ?_ (hy:=by exact Or.inr ⟨by kernel_rfl,rfl⟩);try go_simp
 refine tk 8 b ?_ (hy:=by exact Or.inr ⟨by kernel_rfl,rfl⟩);try go_simp
 refine tk 9 b ?_ (hy:=by exact Or.inr ⟨by kernel_rfl,rfl⟩);try go_simp
 refine tk 10 b ?_ (hy:=by exact Or.inr ⟨by kernel_rfl,rfl⟩);try go_simp
 refine tk 11 b ?_ (hy:=by exact Or.inr ⟨by kernel_rfl,rfl⟩);go_simp;refine tk 12 b ?_ (hy:=by exact Or.inr ⟨by kernel_rfl,rfl⟩);go_simp;refine tk 13 b ?_;go_simp;refine aAG (by kernel_rfl) ?_ _;simp [Tryz.f142,bB,sndC,fstC,blkC,lopC];go_wp2;exact d.out _ rfl ⟨rfl,rfl,trivial⟩
theorem so6L {w} gb cap n k a b u (v:k+1<n) (t:n<1073741824) (m:w.cell? ⟨gb,k,none⟩=some (sV a)) (l:w.cell? ⟨gb,k+1,none⟩=some (sV b)) Q fr (hlen:fr.length=48) (g:FV fr [(3,.slice (some ⟨gb,0,none⟩) n cap),(4,u),(5,.int .i64 (k+1:Nat))])
  (hE:Op.bytesLess b a=false->∀ l',l'.length=48->FV l' [(3,.slice (some ⟨gb,0,none⟩) n cap),(4,u)]->Q (.exit 2) ⟨l'.toArray,[]⟩ w.drew) (hC:Op.bytesLess b a=true->∀ l',l'.length=48->FV l' [(3,.slice (some ⟨gb,0,none⟩) n cap),(4,u),(5,.int .i64 (k+1:Nat))]->Q .normal ⟨l'.toArray,[]⟩ w.drew):Code.wp Tryz.prog so6 Q ⟨fr.toArray,[]⟩ w:=by
 replace hE:=(id hE:Hid _);replace hC:=(id hC:Hid _);have s:IntKind.wrap .i64 (((k+1:Nat):Int)-1)=(k:Int):=(wi (by omega)).trans (by omega);have o:(k:Int)<(n:Int):=by omega
 have i:(k:Int)+1<(n:Int):=by omega
 have q:(0:Int)<(k:Int)+1:=by omega
 have p:k<n:=by omega
 have f:(0:Int)<=(k:Int)+1:=by omega
 have r  := by omega
 have d:IntKind.wrap .i64 k=k:=wi (by omega);revert g;refine eR 48 (fun fr=>FV fr _->Code.wp Tryz.prog _ _ ⟨fr.toArray,[]⟩ _) ?_ fr hlen;simp only [AllL];iterate 48 intro _
 rintro ⟨g3,g4,g5,_⟩;simp only [at_] at g3 g4 g5;subst g3 g4 g5;unfold so6;simp only [so6,soM,soL,Tryz.f142,bB,sndC,fstC,blkC,lopC];refine wp_seq ?_;refine ab5 (Q:=Exit.then (fun a w=>Code.wp Tryz.prog (sndC (fstC (lopC (blkC (sndC (blkC (fstC (sndC (lopC (blkC (sndC (fstC (sndC (sndC (bB Tryz.f142))))))))))))))) Q a w) (fun _ _ _=>False)) (fun e a w h=>by cases e<;>first | exact h | exact h.elim) ?_;refine uI (fun w'=>w'.cell? ⟨gb,k,none⟩=some (sV a)/\w'.cell? ⟨gb,k+1,none⟩=some (sV b)) (fun j=>false) (by kernel_rfl) ?_;have hS0:w.drew.cell? ⟨gb,k,none⟩=some (sV a)/\w.drew.cell? ⟨gb,k+1,none⟩=some (sV b):=⟨m,l⟩;try simp [Act.put,aa7,aa8,aab]
 refine tk 0 hS0 ?_;try go_simp
 refine tk 1 hS0 ?_;try go_simp
 refine tk 2 hS0 ?_;try go_simp
 refine tk 3 hS0 ?_ (hy:=by exact Or.inl ⟨by kernel_rfl,by intro w' hS';obtain ⟨q1,q2⟩:=hS';go_simp;try with_reducible rfl⟩);try go_simp
 refine tk 4 hS0 ?_ (hy:=by exact Or.inl ⟨by kernel_rfl,by intro w' hS';obtain ⟨q1,q2⟩:=hS';go_simp;try with_reducible rfl⟩);try go_simp
 refine tk 5 hS0 ?_ (hy:=by exact Or.inl ⟨by kernel_rfl,by intro w' hS';obtain ⟨q1,q2⟩:=hS';go_simp;try with_reducible rfl⟩);try go_simp
 refine tk 6 hS0 ?_ (hy:=by exact Or.inl ⟨by kernel_rfl,by intro w' hS';obtain ⟨q1,q2⟩:=hS';go_simp;try with_reducible rfl⟩);try go_simp
 refine tk 7 hS0 ?_ (hy:=by exact Or.inl ⟨by kernel_rfl,by intro w' hS';obtain ⟨q1,q2⟩:=hS';go_simp;try with_reducible rfl⟩);try go_simp
 refine tk 8 hS0 ?_ (hy:=by exact Or.inl ⟨by kernel_rfl,by intro w' hS';obtain ⟨q1,q2⟩:=hS';go_simp;try with_reducible rfl⟩);try go_simp
 refine tk 9 hS0 ?_ (hy:=by exact Or.inl ⟨by kernel_rfl,by intro w' hS';obtain ⟨q1,q2⟩:=hS';go_simp;try with_reducible rfl⟩);try go_simp
 refine tk 10 hS0 ?_ (hy:=by exact Or.inl ⟨by kernel_rfl,by intro w' hS';obtain ⟨q1,q2⟩:=hS';go_simp;try with_reducible rfl⟩);try go_simp
 refine tk 11 hS0 ?_ (hy:=by exact Or.inl ⟨by kernel_rfl,by intro w' hS';obtain ⟨q1,q2⟩:=hS';go_simp;try with_reducible rfl⟩);try go_simp
 refine tk 12 hS0 ?_ (hy:=by exact Or.inl ⟨by kernel_rfl,by intro w' hS';obtain ⟨q1,q2⟩:=hS';go_simp;try with_reducible rfl⟩);go_simp;refine tk 13 hS0 ?_;go_simp;refine aAG (by kernel_rfl) ?_ _;simp [Tryz.f142,bB,sndC,fstC,blkC,lopC];cases c:Op.bytesLess b a;· go_wp2;exact hE.out c _ rfl ⟨rfl,rfl,trivial⟩
 go_wp2;exact hC.out c _ rfl ⟨rfl,rfl,rfl,trivial⟩
theorem so8L {w} gb cap n k a b u (x:k+1<n) (v:n<1073741824) (l:w.cell? ⟨gb,k,none⟩=some (sV a)) (i:w.cell? ⟨gb,k+1,none⟩=some (sV b)) (fa:w.frozen? ⟨gb,k,none⟩=false) (fb:w.frozen? ⟨gb,k+1,none⟩=false) Q fr (hlen:fr.length=48) (g:FV fr [(3,.slice (some ⟨gb,0,none⟩) n cap),(4,u),(5,.int .i64 (k+1:Nat))])
  (hC:∀ l',l'.length=48->FV l' [(3,.slice (some ⟨gb,0,none⟩) n cap),(4,u),(5,.int .i64 (k+1:Nat))]->Q .normal ⟨l'.toArray,[]⟩ ((w.drew.setCell ⟨gb,k+1,none⟩ (sV a)).setCell ⟨gb,k,none⟩ (sV b))):Code.wp Tryz.prog so8 Q ⟨fr.toArray,[]⟩ w:=by
 replace hC:=(id hC:Hid _);have t:IntKind.wrap .i64 (((k+1:Nat):Int)-1)=(k:Int):=(wi (by omega)).trans (by omega);have o:(k:Int)<(n:Int):=by omega
 have f:(k:Int)+1<(n:Int):=by omega
 have q:(0:Int)<(k:Int)+1:=by omega
 have p:k<n:=by omega
 have hk1:(0:Int)<=(k:Int)+1:=by omega
 have s:(0:Int)<=(k:Int):=by omega
 have hwk:IntKind.wrap .i64 (k:Int)=k:=wi (by omega);have m:w.drew.cell? ⟨gb,k,none⟩=some (sV a):=l;have c:w.drew.cell? ⟨gb,k+1,none⟩=some (sV b):=i;have d:w.drew.frozen? ⟨gb,k,none⟩=false:=fa;have r  := fb;revert g;refine eR 48 (fun fr=>FV fr _->Code.wp Tryz.prog _ _ ⟨fr.toArray,[]⟩ _) ?_ fr hlen;simp only [AllL];iterate 48 intro _
 rintro ⟨g3,g4,g5,_⟩;simp only [at_] at g3 g4 g5;subst g3 g4 g5;unfold so8;simp only [so8,soM,soL,Tryz.f142,bB,sndC,fstC,blkC,lopC];refine ab5 (Q:=Exit.then (Q .normal) (fun _ _ _=>False)) (fun e a w h=>by cases e<;>first | exact h | exact h.elim) ?_;refine uI (fun w'=>True/\True) (fun j=>false) (by kernel_rfl) ?_;have hS0:True/\True:=⟨trivial,trivial⟩;try simp only [Act.put,aa7,aa8,aab]
 refine tk 0 hS0 ?_;refine tk 1 hS0 ?_;refine tk 2 hS0 ?_;refine tk 3 hS0 ?_;refine tk 4 hS0 ?_;refine tk 5 hS0 ?_;refine tk 6 hS0 ?_;refine tk 7 hS0 ?_;refine tk 8 hS0 ?_;refine tk 10 hS0 ?_;refine tk 11 hS0 ?_;refine tk 12 hS0 ?_;refine bBV 9 13 (by kernel_rfl) rfl rfl ?_ ?_
 ·intro K hK;go_simp;refine hK.out _ _ hS0 (fun _ => ?_);clear hK K;try simp only [Act.put,aa7,aa8,aab]
  refine on1 13 ?_;intro K hK;go_simp;refine hK.out _ _ hS0 (fun _ => ?_);clear hK K;try simp only [Act.put,aa7,aa8,aab]
  refine on1 14 ?_;intro K hK;go_simp;refine hK.out _ _ hS0 (fun _ => ?_);clear hK K;try simp only [Act.put,aa7,aa8,aab]
  refine on1 15 ?_;intro K hK;go_simp;refine hK.out _ _ hS0 (fun _ => ?_);clear hK K;try simp only [Act.put,aa7,aa8,aab]
  refine on1 16 ?_;intro K hK;go_simp;refine hK.out _ _ hS0 (fun _ => ?_);clear hK K;try simp only [Act.put,aa7,aa8,aab]
  refine on1 17 ?_;intro K hK;go_simp;refine hK.out _ _ hS0 (fun _ => ?_);clear hK K;try simp only [Act.put,aa7,aa8,aab]
  refine aAG (by kernel_rfl) ?_ _;exact hC.out _ rfl ⟨rfl,rfl,rfl,trivial⟩
 intro K hK;go_simp;refine hK.out _ _ hS0 (fun _ => ?_);clear hK K;try simp only [Act.put,aa7,aa8,aab]
 refine on1 9 ?_;intro K hK;go_simp;refine hK.out _ _ hS0 (fun _ => ?_);clear hK K;try simp only [Act.put,aa7,aa8,aab]
 refine on1 14 ?_;intro K hK;go_simp;refine hK.out _ _ hS0 (fun _ => ?_);clear hK K;try simp only [Act.put,aa7,aa8,aab]
 refine on1 15 ?_;intro K hK;go_simp;refine hK.out _ _ hS0 (fun _ => ?_);clear hK K;try simp only [Act.put,aa7,aa8,aab]
 refine on1 16 ?_;intro K hK;go_simp;refine hK.out _ _ hS0 (fun _ => ?_);clear hK K;try simp only [Act.put,aa7,aa8,aab]
 refine on1 17 ?_;intro K hK;go_simp;refine hK.out _ _ hS0 (fun _ => ?_);clear hK K;try simp [Act.put,aa7,aa8]
 refine aAG (by kernel_rfl) ?_ _;exact hC.out _ rfl ⟨rfl,rfl,rfl,trivial⟩
theorem s5 {l a b v} (g:FV l [(3,a),(4,b),(5,v)]):at_ l 5=v:=g.2.2.1
theorem s4 {l a v} (g:FV l [(3,a),(4,v)]):at_ l 4=v:=g.2.1
theorem bIh {p t:List Str} {a b}:((p++a::b::t).set (p.length+1) a).set p.length b=p++b::a::t:=by
 simp
theorem aYK:∀ l s,s∉l->(insS l s).length=l.length+1
 | [],s,_=>rfl
 | y::r,s,h=>by
  have a:s∉r:=fun b=>by grind
  simp [insS];split;· simp [aYK r s a]
  grind
theorem aNW (l:List Str) (c:l.Nodup):(l.foldl insS []).length=l.length:=by
 have d:∀ (l a:List Str),l.Nodup->(∀ x∈l,x∉a)->(l.foldl insS a).length=a.length+l.length:=by
  intro l;induction l with
  | nil=>simp
  | cons x l e =>
   intro a c f;have b:=aaR.1 c;rw [aaW,e (insS a x) b.2 (fun y hy=>by
    rw [aIQ];rintro (h | h);· exact by grind
    exact by grind),aYK a x (by grind),aaV]
   omega
 simpa using by grind
theorem aYL {p t S x} (c:Ris S) (a:p++t=S) (b:Ris (p++x::t)) q:p++x::(t++q)=insS S x++q:=by
 have  := bDw _ _ b (aRF S x c) fun z=>by
  rw [aIQ,<- a];grind
 grind
theorem bDy {i t S} {x z:Str} (j:Ris S) (p:x∉S) (g:(i++[z])++t=S) (q:∀ y∈t,x<y) (n:Op.bytesLess x z=false):Ris ((i++[z])++x::t):=by
 have o:z∈S:=by rw [<- g];simp
 have k:z≠x:=fun e=>by grind
 have d:z<x:=by
  rcases Std.lt_trichotomy z x with h | h | h;· exact h
  ·exact by grind
  rw [<- aUz,n] at h;simp at h
 rw [<- g] at j;have c:=List.pairwise_append.1 j;refine List.pairwise_append.2 ⟨c.1,by grind,fun a l b m => ?_⟩;have f:a<x:=by
  rcases aa6.1 l with h | h;· exact by grind
  rw [aaw] at h;rw [h];exact d
 rcases aa3.1 m with h | h;· rw [h];exact f
 exact by grind
theorem soIL {M w0 w e cap n} i S q x (v:Ris S) (hx:x∉S) (hn:n<1073741824) (C:S.length=i) (h:SR M w0 e cap n (S++x::q) w) Q fr (f:fr.length=48) (g:FV fr [(3,.slice (some ⟨e,0,none⟩) n cap),(4,.int .i64 i),(5,.int .i64 i)])
  (hC:∀ w' l',l'.length=48->SR M w0 e cap n (insS S x++q) w'->FV l' [(3,.slice (some ⟨e,0,none⟩) n cap),(4,.int .i64 i)]->Q .normal ⟨l'.toArray,[]⟩ w'):Code.wp Tryz.prog (.block 2 (.loop soI)) Q ⟨fr.toArray,[]⟩ w:=by
 refine wp_block ?_;refine wp_loop (fun a w'=>∃ (l:List Value) (p t:List Str),a=⟨l.toArray,[]⟩/\l.length=48/\SR M w0 e cap n (p++x::(t++q)) w'/\p++t=S/\(∀ y∈t,x<y)/\FV l [(3,.slice (some ⟨e,0,none⟩) n cap),(4,.int .i64 i),(5,.int .i64 p.length)]) (fun a _=>(intOf (a.tmps.getD 5 undef)).toNat) ⟨fr,S,[],rfl,f,h,aac _,fun y hy=>by simp at hy,by rw [C];exact g⟩ ?_;rintro a1 s ⟨l,p,t,rfl,hl,d,k,h4,g⟩;have m  := s5 g;show Code.wp _ (.seq so6 (.seq (.block 3 so8) so7)) _ _ _;refine wp_seq ?_;rcases List.eq_nil_or_concat p with o | ⟨b,z,o⟩;· subst o;refine so6N s _ _ _ l hl g (fun l' c g' => ?_);refine hC s.drew l' c ?_ g';have ht  := k;rw [<- aYL (p:=[]) v k (by grind) q];exact d.drew
 rw [List.concat_eq_append] at o;subst o;have f:n=b.length+1+1+(t.length+q.length):=by rw [<- d.len];simp;omega
 have e1:(b++[z]).length=b.length+1:=by simp
 rw [e1] at g m;obtain ⟨B,fa⟩:=d.cell (j:=b.length) (x:=z) (by simp);obtain ⟨A,fb⟩:=d.cell (j:=b.length+1) (x:=x) (by simp);refine so6L e cap n b.length z x _ (by omega) hn B A _ l hl g (fun D l' c g' => ?_) (fun D l' c g' => ?_);· refine hC s.drew l' c ?_ g';rw [<- aYL v k (bDy v hx k h4 D) q];exact d.drew
 show Code.wp _ (.seq (.block 3 so8) so7) _ _ _;refine wp_seq ?_;refine wp_block ?_;obtain ⟨B,fa⟩:=d.drew.cell (j:=b.length) (x:=z) (by simp);obtain ⟨A,fb⟩:=d.drew.cell (j:=b.length+1) (x:=x) (by simp);refine so8L e cap n b.length z x _ (by omega) hn B A fa fb _ l' c g' (fun l2 u g2 => ?_);show Code.wp _ _ _ _ _;have h5:=(d.drew.drew.put (b.length+1) z (by omega)).put b.length x (by omega);rw [aax,List.singleton_append,bIh] at h5;refine so7L _ _ _ b.length (by omega) _ l2 u g2 (fun l3 r g3=>⟨⟨l3,b,z::t,rfl,r,h5,by rw [<- k];simp,fun y hy => ?_,g3⟩,?_⟩)
 ·rcases aa3.1 hy with rfl | hy;· exact (aUz _ _).1 D
  exact h4 y hy
 have e2:=s5 g3;show (intOf (l3.toArray.getD 5 undef)).toNat<(intOf (l.toArray.getD 5 undef)).toNat;rw [aIM,aIM,e2,m];simp only [intOf];omega
theorem soOL {M y w c cap} l (p:l.Nodup) (hn:l.length<1073741824) (h0:0<l.length) (h:SR M y c cap l.length l w) Q fr (j:fr.length=48) (g:FV fr [(3,.slice (some ⟨c,0,none⟩) l.length cap),(4,.int .i64 (1:Nat))])
  (hC:∀ w' l',l'.length=48->SR M y c cap l.length (l.foldl insS []) w'->FV l' [(3,.slice (some ⟨c,0,none⟩) l.length cap)]->Q .normal ⟨l'.toArray,[]⟩ w'):Code.wp Tryz.prog (.block 0 (.loop soO)) Q ⟨fr.toArray,[]⟩ w:=by
 refine wp_block ?_;refine wp_loop (fun a w'=>∃ (f:List Value) (i:Nat),a=⟨f.toArray,[]⟩/\f.length=48/\i<=l.length/\SR M y c cap l.length ((l.take i).foldl insS []++l.drop i) w'/\FV f [(3,.slice (some ⟨c,0,none⟩) l.length cap),(4,.int .i64 i)]) (fun a _=>l.length-(intOf (a.tmps.getD 4 undef)).toNat) ⟨fr,1,rfl,j,h0,by
  cases l with
  | nil=>simp at h0
  | cons x r=>exact h,g⟩ ?_
 rintro a1 s ⟨f,i,rfl,hf,hi,m,g⟩;have u  := s4 g;show Code.wp _ (.seq so3 (.seq (.block 1 (.seq so5 (.block 2 (.loop soI)))) so4)) _ _ _;refine wp_seq ?_;refine so3L s _ l.length cap i _ f hf g (fun e f' b g' => ?_) (fun d f' b g' => ?_);· refine hC s f' b ?_ g';rw [List.take_of_length_le e,List.drop_eq_nil_of_le e,aac] at m;exact m
 have hd:l.drop i=l[i]::l.drop (i+1):=by simp
 have v:(l.take i).Nodup:=by grind
 have o:((l.take i).foldl insS []).length=i:=by rw [aNW _ v,abo];omega
 have n:l[i]∉(l.take i).foldl insS []:=by
  rw [aNU];rintro (h | h);· simp at h
  have k:(l.take i++l.drop i).Nodup:=by rw [List.take_append_drop];exact p
  exact by grind
 rw [hd] at m;show Code.wp _ (.seq (.block 1 (.seq so5 (.block 2 (.loop soI)))) so4) _ _ _;refine wp_seq ?_;refine wp_block ?_;refine wp_seq ?_;refine so5L s _ _ _ f' b g' (fun f2 t g2 => ?_);show Code.wp _ _ _ _ _;refine soIL i _ _ l[i] (aNV _ _ List.Pairwise.nil) n hn o m _ f2 t g2 (fun w2 f3 q h2 g3 => ?_);show Code.wp _ _ _ _ _;refine so4L w2 _ i (by omega) _ f3 q g3 (fun f4 z g4=>⟨⟨f4,i+1,rfl,z,d,?_,g4⟩,?_⟩);· rw [List.take_succ_eq_append_getElem d,abl];exact h2
 have e2:=s4 g4;show _-(intOf (f4.toArray.getD 4 undef)).toNat<_-(intOf (f.toArray.getD 4 undef)).toNat;rw [aIM,aIM,e2,u];simp [intOf];omega
theorem bIi (l:List Str) (hnd:l.Nodup) (t:l.length<1073741824) {M w} v (hc:Cons M w) (hv:Rv M noB (.slice (List.map PV.str l) [] false) v) :
  Calls Tryz.prog 142 #[v] w fun e w'=>∃ v M',e = .returned v/\Rv M' noB (.slice (List.map PV.str (l.foldl insS [])) [] false) v/\Cons M' w'/\Quiet M w M' w':=by
 obtain ⟨a,m,p,rfl⟩:=pB hv;obtain ⟨rfl,hat⟩:=bDx hv;refine calls_of_wp Tryz.func142 bIg ?_;simp only [Tryz.ntmps142,List.size_toArray,aaV,aaH,Nat.reduceAdd,Nat.reduceSub,Array.replicate_succ,
   Array.replicate_zero,List.push_toArray,List.append_toArray]
 generalize x:bodyPost Tryz.prog Tryz.f142 _=Q;have fin:∀ w2 M2 fr v,Below w.heap.size w w2->Cons M2 w2->(∀ b i v,M b i=some v->M2 b i=some v)->(∀ b,b<w.heap.size->∀ i,M2 b i=M b i)->Rv M2 noB (.slice (List.map PV.str (l.foldl insS [])) [] false) v->at_ fr 2=v->Q .ret ⟨fr.toArray,[]⟩ w2:=by
  intro w2 M2 fr v k1 y C B F z;rw [<- x];refine bodyPost_ret (results_tmp (by rfl) _ _ _) rfl ?_;exact ⟨_,M2,rfl,by rw [aIM,z];exact F,y,C,fun b d=>⟨k1.block b d,fun i=>B b d i⟩,k1.size,k1.os,k1.tape,k1.output⟩
 clear x;refine wp_seq ?_;refine so0L w _ _ _ rfl ⟨rfl,trivial⟩ (fun f hf g => ?_);show Code.wp _ _ _ _ _;refine wp_seq ?_;by_cases h0:l=[];· subst h0;refine so1N w a p _ f hf g (fun f hf g => ?_);show Code.wp _ _ _ _ _;refine wp_seq ?_;refine wp_seq ?_;refine so2L w _ _ f hf g (fun f hf g => ?_);show Code.wp _ _ _ _ _;refine wp_block ?_;refine wp_loop (fun a w'=>∃ f,a=⟨f.toArray,[]⟩/\f.length=48/\w'=w/\FV f [(3,.slice none 0 0),(4,.int .i64 (1:Nat))]) (fun _ _=>0) ⟨f,rfl,hf,rfl,g⟩ ?_;rintro J w1 ⟨f,rfl,hf,rfl,g⟩;refine wp_seq ?_;refine so3L w1 _ 0 0 1 _ f hf g (fun e f' hf' g' => ?_) (fun A f' hf' g'=>by omega);refine so9L w1 _ _ f' hf' g' (fun f4 r g4 => ?_);exact fin w1 M f4 _ (Below.refl _ _) hc (fun _ _ _ h=>h) (fun _ _ _=>rfl) (.nil false) g4.1
 obtain ⟨blk,off,rfl,I⟩:=hat h0;have hpos:=abs.2 h0;refine so1L l blk off p hpos t hc I _ f hf g (fun u cap w1 f hf D g => ?_);show Code.wp _ _ _ _ _;refine wp_seq ?_;refine wp_seq ?_;refine so2L w1 _ _ f hf g (fun f hf g => ?_);show Code.wp _ _ _ _ _;refine soOL l hnd t hpos D _ f hf g (fun w2 f hf h2 g => ?_);show Code.wp _ _ _ _ _;refine so9L w2 _ _ f hf g (fun f4 r g4 => ?_);have hc2  := pY hc h2.b;have q:=(h2.o.lt u rfl).1;have G:OwnL w.heap.size M w2 9 1 (List.map PV.str (l.foldl insS [])) (.slice (some ⟨u,0,none⟩) l.length cap):=by
  refine ⟨⟨(l.foldl insS []).map sV,by rw [aau,h2.len];exact h2.o,fun i p j c h3 h4 => ?_⟩,fun p H => ?_,fun k E i => ?_⟩
  ·rw [aa9] at h3;cases n:(l.foldl insS [])[i]? with
   | none=>rw [n] at h3;cases h3
   | some s =>
    rw [n] at h3;cases h3;match j,h4 with
    | 0,h4 =>
     cases h4;exact ⟨sV s,by rw [Nat.mul_one,Nat.add_zero,aa9,n];rfl,.str _⟩
    | j+1,h4=>simp [PV.cells] at h4
  ·obtain ⟨s,_,rfl⟩:=aah.1 H;exact ⟨rfl,rfl,rfl,by decide⟩
  have  := by simpa [Value.ownBlock] using E.symm
  subst this;exact tU hc q i
 refine fin w2 _ f4 _ h2.b (aEY hc2) (tV hc2) (fun b d=>yQ (fun e => ?_)) (G.rv hc2) g4.1;have  := by simpa [Value.ownBlock] using e.symm
 omega
theorem bAC args l r (i:args.map PV.plain=bCB l) (b:∀ p∈args,∀ v,fD p v) (a:∀ p∈args,p.solid=true) (h:aZP l=some r):bBQ Tryz.prog (fun _ _=>none) 142 args (bHW r):=by
 unfold aZP at h;split at h
 ·rename_i c;cases h;refine aF3 b a rfl rfl (fun vals w=>rfl) ?_;intro M w vals g j e;have d:args.length=1:=by have:=congrArg List.length i;grind
  have f:Rv M noB (.slice (List.map PV.str l) [] false) (vals.getD 0 undef):=by
   have k:(args.map PV.plain)[0]?=some (.slice (List.map PV.str l) [] false):=by grind
   grind
  have hv:vals = #[vals.getD 0 undef]:=by
   apply Array.ext;all_goals simp_all
  rw [hv];exact bIi l c.1 c.2 _ g f
 grind
theorem bDz:∀ a b,bCB a=bCB b->a=b:=by
 intro a b h;simp at h;exact map_inj' str_inj h
theorem aUA l (c:l.Nodup) (h:l.length<1073741824):aTg l=some (l.foldl insS []):=by
 refine aHH (aG aBN) ?_;refine bGO (g:=aSO Tryz.prog (fun _ _=>none) 142 bCB bHW aZP) rfl ?_;have b:aZP l=some (l.foldl insS []):=by unfold aZP;grind
 refine aX5 bDz (x:=l) rfl b (bAC _ l _ rfl ?_ ?_ b);· intro p a v;apply cD;rw [aaw.1 a];rfl
 intro p a;rw [aaw.1 a];rfl
open Go Go.Ev
theorem yR d n (i : Sm d.frags) : aWi d n = some (eJ d n) := by
 apply aWL;have a := zH (b := aCR d n) d.frags (fun f => if f.name == n then some (Sum.inr (f.name, f.on_, f.dirs, f.sels)) else none) (.inl ()) i
  (by simp [aCR, aFw, cx])
  (by
   intro k x j h c e;simp only [aCR, aFw, h, c, bF, e, cx];cases x.name == n <;> rfl)
 have g := aIF d.frags (fun f => f.name == n) (fun f => (Sum.inr (f.name, f.on_, f.dirs, f.sels) : Unit ⊕ (Str × Str × (List GDir) × (List GSel))));rw [g] at a;simp [aTT, a, eJ, cx];cases d.frags.find? (fun f => f.name == n) <;> rfl
theorem aXc : ∀ n c l, aK c <= n -> l.length + aK c < 1073741824 -> aBP c l = some ((eE c).foldl addD l) := by
 intro n;induction n with
 | zero =>
  intro c l h o;have := fP c;have u : c = [] := abB.1 (by omega);subst u;apply aGh;simp [aKA, aA0, cx];rw [cG (r := l) (by simp [qR, tP, cx])];rfl
 | succ n B =>
  intro c l h o;apply aGh;simp [aKA, aA0, cx];have j := fP c;have f := iJ (b := qR c) c (fun k a => (a, k)) (fun r a => (eE r).foldl addD a) (fun k a => a.length + aK (c.drop k) < 1073741824) (by show c.length < _; omega)
   (by intro a _; simp [qR, tP, eE, cx])
   (by
    intro k x r a z D i y w p m;rw [i] at m;simp [aK] at m;have g : c.drop (k + 1) = r := by rw [<- List.tail_drop, i]; rfl
    have A := pX z;have t := gV x;have d : ∀ e , e.length <= a.length + 1 -> aBP x.sels e = some ((eE x.sels).foldl addD e) := fun e q => by grind
    have C := aJV x;refine .inr ⟨(aDb x).foldl addD a, ?_, ?_, ?_⟩
    ·rw [aPU];simp only [qR, tP, y, eS, w, bF, p, tT a x.name (by omega), d a (by omega), cx];cases x.kind == 1;· rfl
     have v : tapp a [x.name] = some (a ++ [x.name]) := gM (by simp [gY]; omega);simp only [cond_true, aaj, aaW, addD, v, bF, d (a ++ [x.name]) (by simp)];cases a.contains x.name <;> rfl
    ·rw [g];have := mZ (aDb x) a;omega
    simp [eE]) (s := (l, 0)) (a := l) rfl (by simpa using o)
  rw [f]; rfl
theorem aIR a l (h:l.length+aK a<1073741824):aBP a l=some ((eE a).foldl addD l):=aXc _ a l (aa1 _) h
theorem aRG a (h:aK a<1073741824):aJr a=some ((eE a).foldl addD []) :=
 aOE (by simp [aKy,aIR a [] (by grind),cx])
theorem aUB d sels (D : dY d + aK sels < 500000000) :
  ∃ l, cW (sF d) ((eE sels).foldl addD [], 0) = some l /\ l.length < 1073741824 /\ (∀ n ∈ eE sels, n ∈ l) /\ wX d (· ∈ l) /\ ∀ S , (∀ n ∈ eE sels, S n) -> wX d S -> ∀ n ∈ l, S n := by
 have y : (allN d sels).length <= dY d + aK sels := by
  have h1 := aEW sels;have a := pF d.frags;have A := cQ d;simp only [allN, aar]; omega
 have C := jE d;have hsm : Sm d.frags := by show d.frags.length < _; omega
 have hsub : ∀ (l : List Str), l.Nodup -> (∀ x ∈ l, x ∈ allN d sels) -> l.length <= dY d + aK sels := fun l h1 a => aa5 (vT l _ h1 a) y;refine aSQ (b := sF d)
  (I := fun s => ∃ i : Nat, s.2 = (i : Int) /\ i <= s.1.length /\ s.1.Nodup /\ (∀ x ∈ s.1, x ∈ allN d sels) /\ (∀ n ∈ eE sels, n ∈ s.1) /\
   (∀ (j : Nat) (n : Str), j < i -> s.1[j]? = some n -> (eJ d n).2 = true -> ∀ m ∈ eE (eJ d n).1.sels, m ∈ s.1) /\ (∀ S : Str -> Prop, (∀ n ∈ eE sels, S n) -> wX d S -> ∀ n ∈ s.1, S n))
  (m := fun s => dY d + aK sels + 1 - s.2.toNat)
  (Q := fun l => l.length < 1073741824 /\ (∀ n ∈ eE sels, n ∈ l) /\ wX d (· ∈ l) /\ ∀ S , (∀ n ∈ eE sels, S n) -> wX d S -> ∀ n ∈ l, S n)
  (by
   rintro ⟨l, B⟩ ⟨i, k, c, hnd, hall, hin, hcl, hmin⟩;simp only at k c hnd hall hin hcl hmin;subst k;have p := hsub l hnd hall;by_cases r : l.length <= i
   ·left;refine ⟨l, ?_, by omega, hin, ?_, hmin⟩
    ·have e1 : decide ((i : Int) < (List.length l : Int)) = false := by simp; omega
     simp only [sF, zX, e1, jN, cx]
    ·intro n hn hfr m q;obtain ⟨j, hj⟩ := aao.1 hn;have v := (aa2.1 hj).1;exact by grind
   ·right;have e1 : decide (i < (List.length l : Int)) = true := by simp; omega
    have hx := aa4 (show i < l.length by omega);have o : IntKind.wrap .i64 (i + 1) = ((i + 1 : Nat) : Int) := wadd (by omega);cases hfr : (eJ d l[i]).2
    ·refine ⟨(l, ((i + 1 : Nat) : Int)), ?_, ⟨i + 1, rfl, by simp only; omega, hnd, hall, hin, ?_, hmin⟩, ?_⟩;· simp only [sF, zX, e1, eS, dF, hx, bF, yR d _ hsm, hfr, jN, o, cx]
     ·intro j n hj hjn hfn;by_cases hji : j = i;· subst hji;rw [hx] at hjn; cases hjn;rw [hfr] at hfn; simp at hfn
      ·exact hcl j n (by omega) hjn hfn
     ·simp only [Int.toNat_natCast]; omega
    ·obtain ⟨hfm, _⟩ := qW hfr;have z := bG dQ hfm;have u : aK (eJ d l[i]).1.sels <= dQ (eJ d l[i]).1 := by rw [mR, bK]; simp only [bkSl]; omega
     have w := cQ d;have f := aIR (eJ d l[i]).1.sels l (by omega);obtain ⟨t, g⟩ := aEX (eE (eJ d l[i]).1.sels) l;refine ⟨((eE (eJ d l[i]).1.sels).foldl addD l, ((i + 1 : Nat) : Int)), ?_, ⟨i + 1, rfl, by simp only; rw [g]; simp only [aar]; omega, mP _ _ hnd, ?_, ?_, ?_, ?_⟩, ?_⟩;· simp only [sF, zX, e1, eS, dF, hx, bF, yR d _ hsm, hfr, f, o, cx]
     ·intro x e;rcases (fK _ _ _).1 e with h | h;· exact hall x h
      ·exact abC _ (aaE.2 ⟨_, hfm, h⟩)
     ·intro n hn; exact by grind
     ·intro j n hj hjn hfn m q;simp at hjn ⊢;rw [g] at hjn;rw [fK];by_cases hji : j = i;· subst hji;rw [aaq (by omega), hx] at hjn; cases hjn;exact .inr q
      ·rw [aaq (by omega)] at hjn;exact by grind
     ·intro S h1 a n hn;rcases (fK _ _ _).1 hn with h | h;· exact by grind
      exact a l[i] (by grind) hfr n h
     ·simp; omega)
  ((eE sels).foldl addD [], 0)
  ⟨0, rfl, aaP _, mP _ _ abk, (fun x hx => by
   rcases (fK _ _ _).1 hx with h | h;· simp at h
   exact abD _ h), (fun n hn => (fK _ _ _).2 (.inr hn)), (fun j n hj => by omega), (fun S h1 _ n hn => by
   rcases (fK _ _ _).1 hn with h | h;· simp at h
   exact h1 n h)⟩
theorem aAr d c (I : dY d + aK c < 500000000) :
  ∃ (r l : List Str), tE d c = some r /\ r.Nodup /\ r.length < 1073741824 /\ (∀ n, n ∈ r ↔ n ∈ l /\ (eJ d n).2 = true) /\ (∀ n ∈ eE c, n ∈ l) /\ wX d (· ∈ l) /\ ∀ S , (∀ n ∈ eE c, S n) -> wX d S -> ∀ n ∈ l, S n := by
 obtain ⟨l, B, N, E, y, J⟩ := aUB d c I;have t := jE d;have p := aBJ (b := aAV d l) d.frags (fun k a => (a, k)) (fun a f => bif l.contains f.name then addD a f.name else a) id (fun k a => a.length <= k) (by show d.frags.length < _; omega)
  (by intro a _; simp [aAV, aCK, cx])
  (by
   intro k x a K L v G H M;have w : tapp a [x.name] = some (a ++ [x.name]) := gM (by simp [gY]; omega);simp only [aAV, aCK, v, eS, G, bF, H, tT l x.name (by show l.length < _; omega), tT a x.name (by show a.length < _; omega), w, cx];cases l.contains x.name;· exact ⟨rfl, by simp only [cond_false]; omega⟩
   ·simp only [eS, cond_true, addD];cases a.contains x.name;· exact ⟨rfl, by simp; omega⟩
    exact ⟨rfl, by simp; omega⟩) (s := ([], 0)) (a := []) rfl (by simp)
 have i : ∀ (fs : List GFrag) a, (a.Nodup -> (fs.foldl (fun a f => bif l.contains f.name then addD a f.name else a) a).Nodup) /\ (fs.foldl (fun a f => bif l.contains f.name then addD a f.name else a) a).length <= a.length + fs.length /\
   ∀ n, n ∈ fs.foldl (fun a f => bif l.contains f.name then addD a f.name else a) a ↔ n ∈ a ∨ ∃ f ∈ fs, n ∈ l /\ f.name = n := by
  intro fs;induction fs with
  | nil => intro a; simp
  | cons f fs z =>
   intro a;rw [aaW];obtain ⟨A, q, u⟩ := z (bif l.contains f.name then addD a f.name else a);refine ⟨fun g => A ?_, ?_, fun n => ?_⟩
   ·cases l.contains f.name;· exact g
    exact aPR g
   ·have := aRy a f.name;cases j : l.contains f.name <;> rw [j] at q <;> simp only [cond_true, cond_false, aaV] at q ⊢ <;> omega
   rw [u];cases j : l.contains f.name
   ·have g  := by simpa using j
    simp [cond_false, aa3, exists_eq_or_imp];constructor
    ·rintro (h | h);· exact .inl h
     exact by grind
    rintro (h | ⟨h, e⟩ | h);· exact .inl h
    ·exact by grind
    exact .inr h
   have g  := by simpa using j
   simp [cond_true, aYz, aa3, exists_eq_or_imp];constructor
   ·rintro ((h | h) | h);· exact .inl h
    ·exact by grind
    exact by grind
   rintro (h | ⟨h, e⟩ | h);· exact by grind
   ·exact by grind
   exact .inr h
 obtain ⟨C, D, F⟩ := i d.frags [];refine ⟨_, l, aTA (by simp only [aZ3, aJC, aRG c (by omega), B, bF, p, cx]; rfl), C abk, ?_, ?_, E, y, J⟩;· simp only [aaH] at D; omega
 ·intro n;rw [F];constructor
  ·rintro (h | ⟨f, t, g, e⟩);· simp at h
   exact ⟨g, e ▸ aYA t⟩
  rintro ⟨g, m⟩;obtain ⟨K, o⟩ := qW m;exact by grind
def allU (d:GDoc) (l:List GSel):List Str:=useS l++d.frags.flatMap fun f=>useS f.sels
theorem dE f:aK f.sels<=dQ f:=by rw [mR,bK];simp [bkSl];omega
theorem aUC:∀ l,(l.flatMap fun f=>useS f.sels).length<=sumL dQ l
 | []=>by simp
 | f::l=>by
  have c:=aUC l;have b:=aNT f.sels;have a:=dE f;simp only [ab2,aar,sumL];omega
theorem aYM d l:(allU d l).length<=dY d+aK l:=by
 have c:=aNT l;have b:=aUC d.frags;have a:=cQ d;simp only [allU,aar];omega
theorem bAD d l r (t : tE d l = some r) (c : r.length < 1073741824) (hf : ∀ n ∈ r, (eJ d n).2 = true) (B : dY d + aK l < 400000000) :
  ∃ u, aWd d l = some u /\ Ris u /\ ∀ x, x ∈ u ↔ x ∈ useS l ∨ ∃ n ∈ r, x ∈ useS (eJ d n).1.sels := by
 have p := jE d;have hsm : Sm d.frags := by show d.frags.length < _; omega
 have v := cQ d;have w := aYM d l;have key := aBJ (b := aCL d r) r (fun k a => (a, k)) (fun a n => (useS (eJ d n).1.sels).foldl addD a) id (fun k a => a.Nodup /\ ∀ x ∈ a, x ∈ allU d l) (by show r.length < _; omega)
  (by intro a _; simp [aCL, aFs, cx])
  (by
   intro k n a z A e1 m o hI;obtain ⟨hfm, _⟩ := qW (hf n z);have y := bG dQ hfm;have hfs := dE (eJ d n).1;have hal := vT a _ hI.1 hI.2;refine ⟨?_, mP _ _ hI.1, fun x hx => ?_⟩;· simp only [aCL, aFs, e1, eS, m, bF, o, yR d n hsm, aGp (eJ d n).1.sels a (by omega), cx]
   rcases (fK _ _ _).1 hx with h | h;· exact hI.2 x h
   exact abC _ (aaE.2 ⟨_, hfm, h⟩)) (s := ((useS l).foldl addD [], 0)) (a := (useS l).foldl addD []) rfl ⟨mP _ _ abk, fun x hx => by
    rcases (fK _ _ _).1 hx with h | h;· simp at h
    exact abD _ h⟩
 have fold : ∀ (ns a : List Str), (a.Nodup -> (ns.foldl (fun a n => (useS (eJ d n).1.sels).foldl addD a) a).Nodup) /\ ∀ x, x ∈ ns.foldl (fun a n => (useS (eJ d n).1.sels).foldl addD a) a ↔ x ∈ a ∨ ∃ n ∈ ns, x ∈ useS (eJ d n).1.sels := by
  intro ns;induction ns with
  | nil => simp
  | cons n ns e =>
   intro a;rw [aaW];obtain ⟨f, i⟩ := e ((useS (eJ d n).1.sels).foldl addD a);refine ⟨fun h => f (mP _ _ h), fun x => ?_⟩;rw [i, fK]; simp [or_assoc]
 obtain ⟨g, j⟩ := fold r ((useS l).foldl addD []);have hmem : ∀ x, x ∈ r.foldl (fun a n => (useS (eJ d n).1.sels).foldl addD a) ((useS l).foldl addD []) ↔ x ∈ useS l ∨ ∃ n ∈ r, x ∈ useS (eJ d n).1.sels := by
  intro x; rw [j, fK]; simp
 have hN := g (mP _ _ abk);have hlen := aa5 (vT _ (allU d l) hN fun x hx => by
  rcases (hmem x).1 hx with h | ⟨n, hn, h⟩;· exact abD _ h
  exact abC _ (aaE.2 ⟨_, (qW (hf n hn)).1, h⟩)) w
 have q := aUA _ hN (by omega);refine ⟨_, aWx (by simp [aTB, aGp l [] (show 0 + aK l < _ by omega), t, key, q, cx]; rfl), aNV _ _ List.Pairwise.nil, fun x => ?_⟩;rw [aNU, hmem]; simp
open Go Go.Ev Go.Ev.PV
def Nr (p b:Nat):Prop:=p<=b/\b<=2*p
theorem psl {α} {enc:α->PV} {bk}:∀ {l},(∀ x∈l,Nr (bX (enc x)) (bk x))->gC (l.map enc)<=sumL bk l/\sumL bk l<=2*gC (l.map enc)
 | [],_=>by simp [gC,sumL]
 | x::l,h=>by
  have a:=h x (by simp);have b:=psl (l:=l) (fun y hy=>h y (by grind));unfold Nr at a;simp [gC,sumL];omega
theorem bKG (s:Str):Nr (bX (PV.str s)) (eV s):=by unfold Nr;rw [bL];simp [bX];omega
theorem bDA l:gC (l.map PV.str)<=sumL eV l/\sumL eV l<=2*gC (l.map PV.str):=psl fun x _=>bKG x
theorem aUD x:Nr (bX (rJ x)) (aAJ x):=by
 unfold Nr;rw [pI,jA];simp [bX,gC,bk1,bL];omega
theorem psVM:∀ n,(∀ x,bY x<=n->Nr (bX (aW x)) (bY x))/\(∀ x,aV x<=n->Nr (bX (aE x)) (aV x)):=by
 intro n;induction n with
 | zero=>exact ⟨fun x h=>by rw [cS] at h;omega,fun x h=>by rw [dG] at h;omega⟩
 | succ n e =>
  obtain ⟨a,d⟩:=e;refine ⟨fun x c => ?_,fun x c => ?_⟩;· rw [cS] at c;simp [bkSl] at c;have b:=psl (l:=x.l) (enc:=aW) (bk:=bY) (fun y hy=>a y (by have:=bG bY hy;omega));have f:=psl (l:=x.m) (enc:=aE) (bk:=aV) (fun y hy=>d y (by have:=bG aV hy;omega));unfold Nr;rw [eK,cS];simp [bX,gC,bkSl,bk1,bL];omega
  rw [dG] at c;have b:=a x.v (by omega);unfold Nr at b ⊢;rw [eK] at b;rw [lQ,dG];simp [bX,gC,bL] at b ⊢;omega
theorem aJY x:Nr (bX (aW x)) (bY x):=(psVM _).1 x (aa1 _)
theorem aYN x:Nr (bX (aE x)) (aV x):=(psVM _).2 x (aa1 _)
theorem bDB x:Nr (bX (bJ x)) (gF x):=by
 have a:=psl (l:=x.args) (fun y _=>aYN y);unfold Nr;rw [vU,jF];simp [bX,gC,bkSl,bL];omega
theorem bDC x:Nr (bX (bR x)) (eG x):=by
 have b:=aUD x.t;have a:=aJY x.default;unfold Nr at b a ⊢;rw [eK] at a;rw [kM,pK,jA];simp [bX,gC,bk1,bL] at b a ⊢;omega
theorem bAE x:Nr (bX (cJ x)) (jR x):=by
 have a:=aUD x.t;have c:=psl (l:=x.params) (fun y _=>bDC y);have b:=psl (l:=x.dirs) (fun y _=>bDB y);unfold Nr at a ⊢;rw [pI] at a;rw [fE,lZ];simp [bX,gC,bkSl,bL] at a ⊢;omega
theorem bKH x:Nr (bX (bN x)) (aJd x):=by
 have d:=psl (l:=x.fields) (fun y _=>bAE y);have c:=psl (l:=x.params) (fun y _=>bDC y);have b:=bDA x.faces;have a:=bDA x.parts;unfold Nr;rw [oI,pL];simp [bX,gC,bkSl,bk1,bL];omega
theorem aBa x:Nr (bX (fF x)) (eH x):=by
 have a:=psl (l:=x.defs) (fun y _=>bKH y);unfold Nr;rw [lS,oL];simp [bX,gC,bkSl,bL];omega
theorem bFI x:Nr (bX (cK x)) (mA x):=by
 have b:=aUD x.t;have a:=aJY x.default;unfold Nr at b a ⊢;rw [eK] at a;rw [kC,jB,jA];simp [bX,gC,bk1,bL] at b a ⊢;omega
theorem bJ0:∀ n,∀ x,cZ x<=n->Nr (bX (aH x)) (cZ x):=by
 intro n;induction n with
 | zero=>intro x h;rw [eN] at h;omega
 | succ n b =>
  intro x a;rw [eN] at a;simp [bkSl] at a;have e:=psl (l:=x.sels) (enc:=aH) (bk:=cZ) (fun y hy=>b y (by have:=bG cZ hy;omega));have d:=psl (l:=x.args) (fun y _=>aYN y);have c:=psl (l:=x.dirs) (fun y _=>bDB y);unfold Nr;rw [iZ,eN];simp [bX,gC,bkSl,bk1,bL];omega
theorem bAF x:Nr (bX (aH x)) (cZ x):=bJ0 _ x (aa1 _)
theorem psOp x:Nr (bX (cO x)) (bkOp x):=by
 have c:=psl (l:=x.vars) (fun y _=>bFI y);have b:=psl (l:=x.dirs) (fun y _=>bDB y);have a:=psl (l:=x.sels) (fun y _=>bAF y);unfold Nr;rw [pJ,kN];simp [bX,gC,bkSl,bk1,bL];omega
theorem bJ1 x:Nr (bX (aL x)) (dQ x):=by
 have b:=psl (l:=x.dirs) (fun y _=>bDB y);have a:=psl (l:=x.sels) (fun y _=>bAF y);unfold Nr;rw [iU,mR];simp [bX,gC,bkSl,bL];omega
theorem aXd x:Nr (bX (tB x)) (dY x):=by
 have b:=psl (l:=x.ops) (fun y _=>psOp y);have a:=psl (l:=x.frags) (fun y _=>bJ1 y);unfold Nr;rw [aBM,mB];simp [bX,gC,bkSl];omega
theorem nM {τ} {e es vs} (h:ElsOk τ (e::es) vs):∃ v r,vs=v::r/\ElOk τ e v/\ElsOk τ es r:=by
 cases h with | cons h a=>grind
theorem aIS {τ} {vs} (h:ElsOk τ [] vs):vs=[]:=by cases h;rfl
theorem bIj {v} (h:ElOk tτ ⟨false,[.bool]⟩ v):∃ b,v = .bool b:=by cases h with | one h=>exact aRB h
theorem bG5 {v} (h:ElOk tτ ⟨false,[.str]⟩ v):∃ s,v = .str s/\s.length<=topL:=by cases h with | one h=>exact nA h
theorem bIk {n a o v} (h:ElOk tτ ⟨false,[.sl n a o]⟩ v):∃ es,v = .slice es [] o/\(∀ e,e∈es->ElOk tτ (elOf tτ n) e)/\es.length<=a:=by cases h with | one h=>exact tY h
theorem rR {a args} (h:aVX a args) (b:a.cap=2097152) {v} (hv:v∈args):bX v<=2097152:=by
 rcases h with h | h;all_goals grind
def aPZ (c:Int):Bool:=(decide (97<=c)&&decide (c<=122))||((decide (65<=c)&&decide (c<=90))||c==95)
def bFJ (c:Int):Bool:=decide (48<=c)&&decide (c<=57)
theorem aNX (c:Int):aQ9 c=some (aPZ c):=by
 apply aUb
 simp only [bAn,aJR,aPZ,bBR,ge_iff_le,cx]
 cases decide (97<=c)<;>cases decide (c<=122)<;>cases decide (65<=c)<;>cases decide (c<=90)<;>simp
theorem aNY (c:Int):aQ8 c=some (bFJ c):=by
 apply aT9
 simp only [bAm,aJQ,bFJ,bBR,ge_iff_le,cx]
 cases decide (48<=c)<;>simp
def aYO (c:UInt8):Bool:=aPZ c.toNat||bFJ c.toNat
def aYP:Str->Bool
 | []=>false
 | c::s=>aPZ c.toNat&&s.all aYO
theorem aFG (s : Str) (h : s.length < 4611686018427387904) : aQ4 s = some (aYP s) := by
 apply aWW
 have key := aPi (b := aCV s) s (fun k (_ : Unit) => (k : Int)) (fun r _ => if r.all (fun c => aYO c) then Sum.inl () else Sum.inr ()) (fun k _ => 1 <= k)
  (by
   intro a _
   simp [aCV, aFz, cx])
  (by
   intro k x r a hk hx hd hI
   have e1 : (decide ((k : Int) < (List.length s : Int))) = true := by simp; omega
   have e3 : IntKind.wrap .i64 ((k : Int) + 1) = ((k + 1 : Nat) : Int) := wadd (by omega)
   simp only [aCV, aFz, e1, eS, dF, hx, bF, aNX, aNY, jN, e3, cx]
   cases h1 : aPZ x.toNat <;> cases h2 : bFJ x.toNat <;> simp [aYO, h1, h2])
 simp only [bC1, aNE, cx]
 cases s with
 | nil => rfl
 | cons c s =>
  have : nthI (c :: s) 0 = some c := rfl
  have e0 : ((c :: s) == ([] : Str)) = false := rfl
  simp only [e0, jN, this, bF, aNX]
  cases h1 : aPZ c.toNat with
  | false => simp [aYP, h1]
  | true =>
   have := key 1 () (by simp) (by omega)
   rw [show ((1 : Nat) : Int) = 1 from rfl] at this
   simp only [abm, jN, this, List.drop_succ_cons, List.drop_zero, bF, aYP, h1, Bool.true_and]
   cases h2 : s.all aYO <;> simp
theorem bG6 {α β:Type} p (g:α->β):∀ l:List α,(l.any p=true/\∃ x,l.findSome? (fun x=>bif p x then some (g x) else none)=some (g x))∨(l.any p=false/\l.findSome? (fun x=>bif p x then some (g x) else none)=none)
 | []=>by simp
 | x::l=>by
  rw [List.findSome?_cons,List.any_cons];cases a:p x;· simpa using bG6 p g l
  grind
def hasM (a:Str) (l:List GMember):Bool:=l.any fun x=>x.name==a
def hasP (a:Str) (l:List GParam):Bool:=l.any fun x=>x.name==a
theorem bDD a l (i : Sm l) : ∃ v, aTo a l = some (v, hasM a l) := by
 have h := zH (b := uV a l) l (fun x => bif x.name == a then some (.inr (x.v.kind, x.v.n, x.v.s, x.v.l, x.v.m)) else none) (.inl ()) i (by simp [uV, aB7, cx])
  (fun k x c g f e => by
   simp only [uV, aB7, g, f, e, bF, cx];cases x.name == a <;> rfl)
 rcases bG6 (fun x  => x.name == a) (fun x => (.inr (x.v.kind, x.v.n, x.v.s, x.v.l, x.v.m) : Unit ⊕ (Int × Int × Str × (List GValue) × (List GMember)))) l with ⟨d, x, c⟩ | ⟨d, c⟩;· refine ⟨x.v, aJP (r := (x.v, hasM a l)) ?_⟩;simp [aLI, h, c, hasM, d, cx];obtain ⟨j, ⟨_, _, _, _, _⟩⟩ := x; rfl
 refine ⟨GValue.mk 0 0 [] [] [], aJP (r := (GValue.mk 0 0 [] [] [], hasM a l)) ?_⟩;simp [aLI, h, c, hasM, d, cx]
theorem aYQ (a b:Str):(a==b)=(b==a):=by grind
def TN (t:GType):Prop:=t.name.length<4611686018427387904
theorem bDE t (h:TN t):Tt (fun b=>b=true->0<=t.lists/\t.lists<=4) (aEk t):=by
 have:Tt (fun b=>b=true->0<=t.lists/\t.lists<=4) (aOH t):=by
  refine Tt.eq (aFG _ h) (Tt.cnd (fun _ => ?_) fun _=>Tt.ret (by simp));refine Tt.cnd (fun c => ?_) fun _=>Tt.ret (by simp);refine Tt.cnd (fun a => ?_) fun _=>Tt.ret (by simp);refine Tt.cnd (fun i => ?_) fun _=>Tt.ret (by simp);simp at c a;have e:IntKind.wrap .u64 t.lists=t.lists:=by rw [wu];omega
  have f:∃ y,tshl .i64 2 t.lists=some y:=by
   unfold tshl;simp_all
  obtain ⟨y,hy⟩:=f;rw [e];exact Tt.eq hy (Tt.ret fun _=>⟨c,a⟩)
 obtain ⟨b,d,g⟩:=this;exact ⟨b,aLf d,g⟩
theorem bKI t (h:TN t):Te (bHZ t):=by
 have:Te (bH3 t):=Tt.bnd (bDE t h) fun b _=>Tt.cnd (fun _=>Tt.ret trivial) fun _=>Tt.ret trivial;obtain ⟨b,a,c⟩:=this;exact ⟨b,bC7 a,c⟩
theorem bDF t (h:TN t):Tt (fun r=>TN r.1/\(r.2=true->r.1.lists.toNat<t.lists.toNat)) (aQ3 t):=by
 have:Tt (fun r  => TN r.1/\(r.2=true->r.1.lists.toNat<t.lists.toNat)) (aNx t):=by
  refine Tt.bnd (bDE t h) fun b a=>Tt.cnd (fun _=>Tt.ret ⟨by unfold TN;simp,by simp⟩) fun c => ?_;have c:b=true:=by grind
  have f:=a c;refine Tt.cnd (fun _=>Tt.ret ⟨by unfold TN;simp,by simp⟩) fun d=>Tt.ret ⟨h,fun _ => ?_⟩;have d:t.lists≠0:=by grind
  show (IntKind.wrap .i64 (t.lists-1)).toNat<_;rw [wi (by omega)];omega
 obtain ⟨b,a,e⟩:=this;exact ⟨b,aNy a,e⟩
theorem aYR l n (h:Sm l):Tt (fun r=>r.2=true->r.1∈l) (vE l n):=by
 have:Tt (fun r  => r.2=true->r.1∈l) (aJO l n):=by
  refine Tt.bnd (Q:=fun o=>Ev.elim o (fun _=>True) fun q=>GParam.mk q.1 (GType.mk q.2.1 q.2.2.1 q.2.2.2.1) q.2.2.2.2.1 (GValue.mk q.2.2.2.2.2.1 q.2.2.2.2.2.2.1 q.2.2.2.2.2.2.2.1 q.2.2.2.2.2.2.2.2.1 q.2.2.2.2.2.2.2.2.2)∈l) (Tt.idx l.length h fun k d p => ?_) fun o t=>Tt.elim (fun a e=>Tt.ret (by simp)) fun a e=>Tt.ret fun _=>by simp_all
  simp [aA5,aCX,cx];refine Tt.cnd (fun c=>Tt.nth ⟨d,pH c⟩ fun x j e => ?_) fun _=>Tt.ret (Ix.r trivial);refine Tt.cnd (fun _=>Tt.nth ⟨d,pH c⟩ fun y hy s=>Tt.ret (Ix.r ?_)) fun _=>Tt.ret (Ix.lf c);obtain ⟨m,⟨_,_,_⟩,f,⟨_,_,_,_,_⟩⟩:=y;exact hy
 obtain ⟨b,g,i⟩:=this;exact ⟨b,aKL g,i⟩
theorem bJ2 n m (a:Sm m):Te (aTo n m):=by
 obtain ⟨v,hv⟩:=bDD n m a;exact ⟨_,hv,trivial⟩
theorem SOk.params {s} (h:SOk s) {d} (a:d∈s.defs):bkSl eG d.params<1073741824:=by
 have:=h.def_bk a;rw [pL] at this;omega
theorem aRH {α} {bk:α->Nat} {l} (a:∀ x,1<=bk x) (h:bkSl bk l<1073741824):Sm l:=by
 have:=gR bk a l;unfold bkSl at h;omega
theorem aYS {l} (h:bkSl eG l<1073741824) {p} (a:p∈l):TN p.t:=by
 have:=bG eG a;unfold bkSl at h;rw [pK,jA] at this;unfold TN;rw [bL,bL] at this;omega
theorem aYT s l m (h:bkSl eG l<1073741824) (j:Sm m) (q:∀ x∈m,∀ t,TN t->Te (aFm s t x.v true)):Te (aFn s l m):=by
 have d:=aRH aDa h;have:Te (bAb s l m):=by
  refine Tt.bnd (Q:=fun _=>True) (Tt.idx m.length j fun i c u => ?_) fun o _=>Tt.elim (fun _ _=>Tt.bnd (Q:=fun _=>True) (Tt.idx l.length d fun i c u => ?_) fun o _=>Tt.elim (fun _ _=>Tt.ret trivial) fun _ _=>Tt.ret trivial) fun _ _=>Tt.ret trivial;· simp [aKE,aHa,cx];refine Tt.cnd (fun a=>Tt.nth ⟨c,pH a⟩ fun x B e => ?_) fun _=>Tt.ret (Ix.r trivial);refine Tt.bnd (aYR l x.name d) fun p n=>Tt.cnd (fun _=>Tt.ret (Ix.r trivial)) fun A => ?_;refine Tt.nth ⟨c,pH a⟩ fun y hy e=>Tt.bnd (q y hy _ (aYS h (by grind))) fun b _ => ?_;refine Tt.cnd (fun _=>Tt.ret (Ix.r trivial)) fun _=>Tt.bnd (Q:=fun _=>True) (Tt.idx i.toNat (by omega) fun k w C => ?_) fun o _=>Tt.elim (fun _ _=>Tt.ret (Ix.lf a)) fun _ _=>Tt.ret (Ix.r trivial);have f:=pH a;refine Tt.cnd (fun D => ?_) fun _=>Tt.ret (Ix.r trivial);refine Tt.nth ⟨w,by omega⟩ fun x _ _=>Tt.nth ⟨c,f⟩ fun y _ _=>Tt.cnd (fun _=>Tt.ret (Ix.r trivial)) fun _=>Tt.ret (Ix.lf (by grind))
  simp [aKF,aHb,cx];refine Tt.cnd (fun a => ?_) fun _=>Tt.ret (Ix.r trivial);have f:=pH a;refine Tt.nth ⟨c,f⟩ fun x _ _=>Tt.bnd (bJ2 _ m j) fun g _=>Tt.cnd (fun _=>Tt.nth ⟨c,f⟩ fun y hy _=>Tt.bnd (bKI _ (aYS h hy)) fun b _ => ?_) fun _=>Tt.ret (Ix.lf a);exact Tt.cnd (fun _=>Tt.nth ⟨c,f⟩ fun y hy _=>Tt.cnd (fun _=>Tt.ret (Ix.r trivial)) fun _=>Tt.ret (Ix.lf a)) fun _=>Tt.ret (Ix.lf a)
 obtain ⟨b,z,n⟩:=this;exact ⟨b,aTY z,n⟩
theorem bFK s (h:SOk s):∀ n v,bY v<=n->n<1073741824->∀ k t al,TN t->t.lists.toNat<=k->Te (aFm s t v al):=by
 intro n;induction n with
 | zero=>intro v hv;rw [cS] at hv;omega
 | succ n ihn =>
  intro v hv E k;have g:∀ x∈v.l,bY x<=n:=fun x hx=>by have:=bG bY hx;rw [cS] at hv;simp [bkSl] at hv;omega
  have hvm:∀ x∈v.m,bY x.v<=n:=fun x hx=>by have:=bG aV hx;rw [dG] at this;rw [cS] at hv;simp [bkSl] at hv;omega
  have hpos:∀ x,1<=bY x:=fun x=>by rw [cS];omega
  have c:Sm v.l:=aRH hpos (by rw [cS] at hv;omega);have hsm:Sm v.m:=aRH pA (by rw [cS] at hv;omega);have d:∀ x,x∈s.defs->Te (aFn s x.params v.m):=fun x hx=>aYT s x.params v.m (h.params hx) hsm fun y hy t ht=>ihn y.v (hvm y hy) (by omega) _ t true ht (aa1 _);have hfind:∀ n,Tt (fun r=>Te (aFn s r.1.params v.m)/\Sm r.1.parts) (aMV s n):=fun n=>by
   refine ⟨_,aB9 s n h.sm,?_,by have:=h.partsF n;show (cT s n).1.parts.length<_;omega⟩;rcases aAo s n with hx | ⟨_,_,_,e⟩;· exact d _ hx
   rw [e];exact aYT s [] v.m (by simp [bkSl,sumL]) hsm fun y hy t ht=>ihn y.v (hvm y hy) (by omega) _ t true ht (aa1 _)
  have leaf:∀ n,Te (cnd (n==([73,110,116]:Str)) (cnd (v.kind==2) (cnd (decide (v.n≥(-2147483648))) (some (decide (v.n<=2147483647))) (some false)) (some false)) (cnd (n==([83,116,114,105,110,103]:Str)) (some (v.kind==4)) (cnd (n==([66,111,111,108,101,97,110]:Str)) (some (v.kind==1)) (cnd (n==([73,68]:Str)) (cnd (v.kind==4) (some true) (some (v.kind==2))) (bnd (aMV s n) fun y21=>cnd (y21.1.kind==4) (cnd (v.kind==5) (bnd (aTd y21.1.parts v.s) fun j=>some j) (some false)) (cnd (y21.1.kind==5) (cnd (v.kind==7) (bnd (aFn s y21.1.params v.m) fun p=>some p) (some false)) (some false))))))):=fun n=>by
   refine Tt.cnd (fun _=>Tt.cnd (fun _=>Tt.cnd (fun _=>Tt.ret trivial) fun _=>Tt.ret trivial) fun _=>Tt.ret trivial) fun _=>Tt.cnd (fun _=>Tt.ret trivial) fun _=>Tt.cnd (fun _=>Tt.ret trivial) fun _=>Tt.cnd (fun _=>Tt.cnd (fun _=>Tt.ret trivial) fun _=>Tt.ret trivial) fun _=>Tt.bnd (hfind n) fun r u => ?_;exact Tt.cnd (fun _=>Tt.cnd (fun _=>Tt.eq (tT _ _ u.2) (Tt.ret trivial)) fun _=>Tt.ret trivial) fun _=>Tt.cnd (fun _=>Tt.cnd (fun _=>Tt.bnd u.1 fun _ _=>Tt.ret trivial) fun _=>Tt.ret trivial) fun _=>Tt.ret trivial
  have list1:∀ y4,TN y4.1->Te (cW (aEu s v y4) 0):=fun y4 ht=>by
   refine Tt.idx v.l.length c fun i B F => ?_;simp [aEu,aG2,cx];refine Tt.cnd (fun w=>Tt.nth ⟨B,pH w⟩ fun x hx _=>Tt.bnd (ihn x (g x hx) (by omega) _ y4.1 false ht (aa1 _)) fun b _=>Tt.cnd (fun _=>Tt.ret (Ix.r trivial)) fun _=>Tt.ret (Ix.lf w)) fun _=>Tt.ret (Ix.r trivial)
  have main:∀ t al,TN t->(∀ t',TN t'->t'.lists.toNat<t.lists.toNat->Te (aFm s t' v true))->Te (aFm s t v al):=fun t al ht hrec=>by
   have:Te (aZ4 s t v al):=by
    refine Tt.bnd (bDE t ht) fun b _=>Tt.cnd (fun _=>Tt.ret trivial) fun _=>Tt.cnd (fun _=>Tt.ret trivial) fun _=>Tt.cnd (fun _=>Tt.ret trivial) fun _=>Tt.bnd (bDF t ht) fun y4 hy => ?_;have a:∀ t',Te (aG3 s t v y4 t').x:=fun t'=>by
     exact Tt.cnd (fun _=>Tt.bnd (list1 _ hy.1) fun o _=>Tt.elim (fun _ _=>Tt.ret trivial) fun _ _=>Tt.ret trivial) fun _=>leaf _
    exact Tt.cnd (fun A=>Tt.cnd (fun _=>Tt.cnd (fun _=>Tt.bnd (hrec _ hy.1 (hy.2 A)) fun _ _=>Tt.ret trivial) fun _=>Tt.ret trivial) fun _=>a _) fun _=>a _
   obtain ⟨b,C,D⟩:=this;exact ⟨b,aTI C,D⟩
  induction k with
  | zero=>exact fun t al ht a=>main t al ht fun t' _ z=>by omega
  | succ k f=>exact fun t al ht a=>main t al ht fun t' q z=>f t' true q (by omega)
theorem bFL:Ds 144 bFB:=by
 intro args a c;obtain ⟨v0,w,rfl,g,a⟩:=nM a;obtain ⟨u,p,rfl,k,a⟩:=nM a;obtain ⟨x,n,rfl,i,a⟩:=nM a;obtain ⟨m,q,rfl,e,a⟩:=nM a;cases aIS a;obtain ⟨s,rfl⟩:=aIP g;obtain ⟨t,rfl⟩:=bIc k;obtain ⟨v,rfl⟩:=aLM i;obtain ⟨b,rfl⟩:=bIj e;have ps:=rR c rfl (v:=fF s) (by simp);have l:=rR c rfl (v:=rJ t) (by simp);have o:=rR c rfl (v:=aW v) (by simp);have j:=aBa s;have d:=aUD t;have h:=aJY v;unfold Nr at j d h;obtain ⟨r,f,_⟩:=bFK s ⟨by omega⟩ _ v (aa1 _) (by omega) _ t b (by rw [jA,bL] at d;unfold TN;omega) (aa1 _);exact ⟨.bool r,by simp [tys];exact dW (enc:=fun r=>(PV.bool r,[])) f,.one (.bool r)⟩
theorem bIl {s:Str} {i n} (h:decide (n>IntKind.wrap .i64 ((List.length s:Int)-i))=false) (m:s.length<=1073741824) (g:0<=i) (f:i<s.length) {F:Int->UInt8->Int} {p q:UInt8->Bool} {b:Int×Int->Option ((Int×Int)⊕(Int⊕Unit))}
  (a:∀ c k,b (c,k)=cnd (decide (k<n)) (bnd (nthI s (IntKind.wrap .i64 (i+k))) fun y=>cnd (p y) (some (.inr (.inr ()))) (cnd (q y) (some (.inr (.inr ()))) (some (.inl (F c y,IntKind.wrap .i64 (k+1)))))) (some (.inr (.inl c)))) c:Te (cW b (c,1)):=by
 rw [wi (by omega)] at h;have o:n<=s.length-i:=by grind
 refine Tt.loop (fun st  => 1<=st.2) (fun st  => (n-st.2).toNat) (fun st e => ?_) (by simp);obtain ⟨c,k⟩:=st;rw [a];refine Tt.cnd (fun d => ?_) fun _=>Tt.ret (Nx.r trivial);have j:=pH d;rw [wi (n:=i+k) (by omega)];refine Tt.nth (by omega) fun y _ _=>Tt.cnd (fun _=>Tt.ret (Nx.r trivial)) fun _=>Tt.cnd (fun _=>Tt.ret (Nx.r trivial)) fun _=>Tt.ret (Nx.lf ?_ ?_);· rw [wi (by omega)];omega
 rw [wi (by omega)];omega
theorem bIm s (f:s.length<=1073741824) i:Tt (fun r=>0<=r.2/\r.2<=4) (aWn s i):=by
 have:Tt (fun r:Int×Int=>0<=r.2/\r.2<=4) (aT0 s i):=by
  simp [aT0,aNC,cx];refine Tt.cnd (fun _=>Tt.ret (by decide)) fun h1=>Tt.cnd (fun _=>Tt.ret (by decide)) fun h2 => ?_;have h1:0<=i:=by simpa using h1
  have h2:i<s.length:=by simpa using h2
  have d:∀ c n low,0<=n->n<=4->Tt (fun r  => 0<=r.2/\r.2<=4) (pW s i (c,n,low)).x:=fun c n low n0 e=>by
   simp [pW];refine Tt.cnd (fun _=>Tt.ret (by decide)) fun g=>Tt.bnd (bIl g f h1 h2 (fun _ _=>by rfl) _) fun o _=>Tt.elim (fun _ _ => ?_) fun _ _=>Tt.ret (by decide);repeat' first
    | exact Tt.ret ⟨n0,e⟩
    | exact Tt.ret (by decide)
    | (refine Tt.cnd (fun _ => ?_) (fun _ => ?_))
  refine Tt.nth ⟨h1,h2⟩ fun y _ _=>Tt.cnd (fun _=>Tt.ret (show 0<=(1:Int)/\(1:Int)<=4 by decide)) fun _ => ?_;repeat' first
   | exact Tt.ret (by decide)
   | exact d _ _ _ (by decide) (by decide)
   | (refine Tt.cnd (fun _ => ?_) (fun _ => ?_))
 obtain ⟨b,a,h⟩:=this;exact ⟨b,aWV a,h⟩
theorem bFM s (h:s.length<=1073741824):Tt (fun r=>r.1.length<=1073741824) (aYt s):=by
 have:Tt (fun r  => r.1.length<=1073741824) (aZ5 s):=by
  refine Tt.bnd (Q:=fun o=>Ev.elim o (fun l=>l.length<=1073741824) fun _=>True) (Tt.loop (fun st:List Int×Int=>0<=st.2/\st.1.length<=st.2/\st.2<=s.length+4/\st.1.length<=s.length) (fun st  => (s.length+4-st.2).toNat) (fun st d => ?_) (by grind)) fun o v=>Tt.elim (fun a e=>Tt.ret (by simp_all)) fun _ _=>Tt.ret (by simp);obtain ⟨c,i⟩:=st;obtain ⟨k,g,m,q⟩:=d;simp at k g m q;refine Tt.cnd (fun j => ?_) fun _=>Tt.ret (Nx.r (show c.length<=1073741824 by omega));have u:=pH j;refine Tt.bnd (bIm s h i) fun y hy=>Tt.cnd (fun _=>Tt.ret (Nx.r trivial)) fun f => ?_;have f:y.2≠0:=by grind
  refine Tt.app (by grind) (Tt.ret ?_);rw [wi (n:=i+y.2) (by omega)];refine Nx.lf (by grind) ?_;omega
 obtain ⟨b,p,t⟩:=this;exact ⟨b,aTM p,t⟩
theorem bIn {l:List Int}:∀ e,e∈l.map (PV.int .i64)->ElOk tτ (elOf tτ 1) e:=by
 intro e a;obtain ⟨x,_,rfl⟩:=aah.1 a;exact .one (.int _ _)
theorem aUE s (g:s.length<=1073741824) (i:Int) (h:0<=i/\i<=s.length):Tt (fun n=>0<=n/\i+n<=s.length) (aTl s i):=by
 have:Tt (fun n=>0<=n/\i+n<=s.length) (bFh s i):=by
  refine Tt.bnd (Q:=fun n=>0<=n/\i+n<=s.length) (Tt.loop (fun n  => 0<=n/\i+n<=s.length) (fun n  => (s.length-n).toNat) (fun n a => ?_) (by omega)) fun n a=>Tt.ret a;simp [aPM,aNA];rw [wi (n:=i+n) (by omega)];refine Tt.cnd (fun d => ?_) fun _=>Tt.ret (Nx.r a);have f:=pH d;refine Tt.nth (by omega) fun y _ _=>Tt.eq (aNY _) (Tt.cnd (fun _=>Tt.ret ?_) fun _=>Tt.ret (Nx.r a));rw [wi (n:=n+1) (by omega)];exact Nx.lf (by omega) (by omega)
 obtain ⟨b,c,e⟩:=this;exact ⟨b,bAd c,e⟩
theorem bAG s (hs:s.length<=1073741824):Te (aPt s):=by
 have kloop:∀ (k:Int) (z:Option (Int×Int)),0<=k->k<=s.length->Te z->Te (bnd (aTl s k) fun e=>cnd (decide (e>0)) (bnd (aTl s k) fun y41=>some ((IntKind.wrap .i64 (k+y41)),(4:Int))) z):=fun k z h0 h1 l =>
  Tt.bnd (aUE s hs k ⟨h0,h1⟩) fun _ _=>Tt.cnd (fun _=>Tt.bnd (aUE s hs k ⟨h0,h1⟩) fun _ _=>Tt.ret trivial) fun _=>l
 have:Te (aKr s):=by
  have k30:∀ i kd q,0<=q->q<=(s.length:Int)->Te (nG s i kd q).x:=fun i kd q q0 a=>by
   simp only [nG,cx];exact kloop q _ q0 a (Tt.ret trivial)
  have k44:∀ i kd q,0<=q->q<=(s.length:Int)->Te (nH s i kd q).x:=fun i kd q q0 a=>by
   simp only [nH,cx];exact kloop q _ q0 a (Tt.ret trivial)
  have hk15:∀ j kd,0<=j->j<=(s.length:Int)->Te (nI s (j,kd)).x:=fun j kd t u=>by
   simp [nI,cx];refine Tt.cnd (fun hc => ?_) fun _=>Tt.ret trivial;have r:=pH hc;have e1:IntKind.wrap .i64 (j+1)=j+1:=wi (by omega);have c:IntKind.wrap .i64 (j+1+1)=j+1+1:=wi (by omega);simp [e1,c];refine Tt.nth (by omega) fun y _ _=>Tt.cnd (fun _ => ?_) fun _=>Tt.nth (by omega) fun y _ _=>Tt.cnd (fun _ => ?_) fun _=>Tt.ret trivial;· refine Tt.cnd (fun hc => ?_) fun _=>k30 _ _ _ (by omega) (by omega);have f:=pH hc;exact Tt.nth (by omega) fun y _ _=>Tt.cnd (fun _=>k30 _ _ _ (by omega) (by omega)) fun _=>Tt.nth (by omega) fun y _ _=>Tt.cnd (fun _=>k30 _ _ _ (by omega) (by omega)) fun _=>k30 _ _ _ (by omega) (by omega)
   refine Tt.cnd (fun hc => ?_) fun _=>k44 _ _ _ (by omega) (by omega);have f:=pH hc;exact Tt.nth (by omega) fun y _ _=>Tt.cnd (fun _=>k44 _ _ _ (by omega) (by omega)) fun _=>Tt.nth (by omega) fun y _ _=>Tt.cnd (fun _=>k44 _ _ _ (by omega) (by omega)) fun _=>k44 _ _ _ (by omega) (by omega)
  have hk10:∀ i n,0<=i->i<=(s.length:Int)->0<=n->i+n<=s.length->Te (vJ s i n).x:=fun i n h0 h1 v d=>by
   simp [vJ,cx];have e1:IntKind.wrap .i64 (i+n)=i+n:=wi (by omega);have c:IntKind.wrap .i64 (i+n+1)=i+n+1:=wi (by omega);simp [e1,c];refine Tt.cnd (fun hc => ?_) fun _=>hk15 _ _ (by omega) d;have f:=pH hc;refine Tt.nth (by omega) fun y _ _=>Tt.cnd (fun _ => ?_) fun _=>hk15 _ _ (by omega) d;refine Tt.bnd (aUE s hs _ ⟨by omega,by omega⟩) fun h _=>Tt.cnd (fun _=>Tt.bnd (aUE s hs _ ⟨by omega,by omega⟩) fun y21 o => ?_) fun _=>hk15 _ _ (by omega) d;rw [wi (n:=i+n+1+y21) (by omega)];exact hk15 _ _ (by omega) (by omega)
  have hk1:∀ i,0<=i->i<=(s.length:Int)->Te (xY s i).x:=fun i h0 h1=>by
   refine Tt.bnd (aUE s hs i ⟨h0,h1⟩) fun w g=>Tt.cnd (fun _=>Tt.ret trivial) fun hne => ?_;have hne  := by simpa using hne
   exact Tt.nth (by omega) fun y _ _=>Tt.cnd (fun _=>hk10 _ _ h0 h1 (by omega) (by omega)) fun _=>hk10 _ _ h0 h1 g.1 g.2
  simp only [aKr];refine Tt.cnd (fun hc => ?_) fun _=>hk1 _ (by omega) (by omega);have:=pH hc;exact Tt.nth (by omega) fun y _ _=>Tt.cnd (fun _=>hk1 _ (by omega) (by omega)) fun _=>hk1 _ (by omega) (by omega)
 obtain ⟨b,m,p⟩:=this;exact ⟨b,aOw m,p⟩
theorem bFN:Ds 181 bFA:=by
 intro args a f;obtain ⟨v0,g,rfl,c,a⟩:=nM a;cases aIS a;obtain ⟨s,rfl,d⟩:=bG5 c;obtain ⟨r,b,e⟩:=bFM s d;refine ⟨_,dW (enc:=fun r=>(aBO r,[])) b,_,rfl,.cons (.one (.sl bIn (by grind))) (.cons (.one (.bool _)) .nil)⟩
theorem bAH:Ds 180 bAy:=by
 intro args a f;obtain ⟨v0,g,rfl,c,a⟩:=nM a;cases aIS a;obtain ⟨s,rfl,d⟩:=bG5 c;obtain ⟨r,b,e⟩:=bAG s d;exact ⟨_,dW (enc:=fun r=>(kO r,[])) b,_,rfl,.cons (.one (.int _ _)) (.cons (.one (.int _ _)) .nil)⟩
mutual
theorem aRI:∀ v:GValue,∀ x∈varN v,x.length<bY v
 | ⟨k,n,s,l,m⟩=>by
  have c:=aUF l;have b:=aIT m;rw [aCq] at c;rw [kD] at b;intro x a;rw [cS];simp [varN] at a;simp [bkSl,bL];grind
theorem aUF:∀ l:List GValue,∀ x∈aLl l,x.length<xN l
 | [],x,a=>by simp [aLl] at a
 | y::l,x,a=>by
  simp only [aLl,aa6] at a;simp only [xN];rcases a with h | h;· have:=aRI y x h;omega
  ·have:=aUF l x h;omega
theorem bDG:∀ y:GMember,∀ x∈aXa y,x.length<aV y
 | ⟨n,v⟩=>by intro x a;have:=aRI v x (by simpa only [aXa] using a);rw [dG];show x.length<eV n+(bY v+0)+1;omega
theorem aIT:∀ l:List GMember,∀ x∈wL l,x.length<tC l
 | [],x,a=>by simp [wL] at a
 | y::l,x,a=>by
  simp only [wL,aa6] at a;simp only [tC];rcases a with h | h;· have:=bDG y x h;omega
  ·have:=aIT l x h;omega
end
theorem aXe {l:List Str} (h:∀ x∈l,x.length<=topL):∀ e,e∈l.map PV.str->ElOk tτ (elOf tτ 0) e:=by
 intro e b;obtain ⟨x,a,rfl⟩:=aah.1 b;exact .one (.str (h x a))
theorem aUG l:l.length<=sumL eV l:=gR eV (fun s=>by rw [bL];omega) l
theorem bIo:Ds 164 bIa:=by
 intro args b c;obtain ⟨v0,z,rfl,i,b⟩:=nM b;obtain ⟨y,w,rfl,n,b⟩:=nM b;cases aIS b;obtain ⟨v,rfl⟩:=aLM i;obtain ⟨es,rfl,j,t⟩:=bIk n;obtain ⟨l,rfl⟩:=dK (f:=PV.str) (fun e h=>bDt (j e h));have u:=rR c rfl (v:=aW v) (by simp);have m:=rR c rfl (v := .slice (l.map PV.str) [] true) (by simp);have k:=aJY v;have s:=bDA l;unfold Nr at k;simp [bX] at m;have p:=aUG l;have q:=bDf v;have g:=aNS (szV v) v l (by omega) (by omega);have d:=mZ (varN v) l;have o:=aJX v;refine ⟨_,by simp [tys];exact dW (enc:=fun r=>(bS r,[])) g,.one (.sl (aXe fun x a => ?_) (by grind))⟩;show x.length<=1073741824;rcases (fK _ _ _).1 a with a | a;· have:=bG eV a;rw [bL] at this;omega
 have:=aRI v x a;omega
theorem aYU:Ds 95 bFE:=by
 intro args a k;obtain ⟨v0,E,rfl,t,a⟩:=nM a;obtain ⟨C,A,rfl,j,a⟩:=nM a;cases aIS a;obtain ⟨d,rfl⟩:=aYG t;obtain ⟨es,rfl,w,z⟩:=bIk j;obtain ⟨l,rfl⟩:=dK (f:=aH) (fun e h=>aYF (w e h));have D:=rR k rfl (v:=tB d) (by simp);have o:=rR k rfl (v := .slice (l.map aH) [] false) (by simp);have q:=aXd d;have y:=psl (l:=l) (fun x _=>bAF x);unfold Nr at q;simp [bX] at o;obtain ⟨r,l',p,i,_,b,_⟩:=aAr d l (by rw [bK];omega);have g:∀ n∈r,∃ f∈d.frags,f.name=n:=fun n c=>⟨_,qW ((b n).1 c).2⟩;have m  := by
  have:=vT r (d.frags.map (·.name)) i (fun n c=>by exact by grind);simpa using this
 have s:=jE d;refine ⟨_,by exact dW (enc:=fun r=>(dZ r,[])) p,.one (.sl (aXe fun x c => ?_) (by simp;omega))⟩;obtain ⟨f,u,rfl⟩:=g x c;have j:=bG dQ u;have B:=cQ d;rw [mR,bL] at j;show f.name.length<=1073741824;omega
def isIn (s:GSchema) (x:Str):Prop:=x∈s.defs.map (·.name)
theorem bFO {s n} (h:iN s n [5,5,5]=true):isIn s n:=by
 unfold iN cT at h;cases b:aET n
 ·cases a:s.defs.find? (fun d=>d.name==n) with
  | none=>grind
  | some d=>exact aah.2 ⟨d,abK a,by grind⟩
 grind
theorem aYV s (h:SOk s) n:Tt (fun l=>l.length<1073741824/\∀ x∈l,isIn s x) (aQ1 s n):=by
 have j:(cT s n).1.params.length<1073741824:=by
  rcases aAo s n with d | ⟨_,_,_,e⟩;· have:=h.def_bk d;rw [pL] at this;have:=gR eG aDa (cT s n).1.params;unfold bkSl at *;omega
  grind
 have:Tt (fun l=>l.length<1073741824/\∀ x∈l,isIn s x) (aPJ s n):=by
  simp [aPJ];refine Tt.eq (aB9 s n h.sm) (Tt.bnd (Q:=fun l:List Str=>l.length<1073741824/\∀ x∈l,isIn s x) (Tt.loop (fun st:List Str×Int=>0<=st.2/\st.2<=(cT s n).1.params.length/\st.1.length<=st.2/\∀ x∈st.1,isIn s x) (fun st:List Str×Int=>((cT s n).1.params.length-st.2:Int).toNat) (fun st g => ?_) (by simp)) fun l A=>Tt.ret A);obtain ⟨a,i⟩:=st;obtain ⟨k,q,w,m⟩:=g;simp at k q w m;have c:Tt (Nx (fun st:List Str×Int=>0<=st.2/\st.2<=(cT s n).1.params.length/\st.1.length<=st.2/\∀ x∈st.1,isIn s x) (fun st  => ((cT s n).1.params.length-st.2:Int).toNat) (a,i) (fun l  => l.length<1073741824/\∀ x∈l,isIn s x)) (some (.inr a)):=Tt.ret (Nx.r ⟨by omega,m⟩);simp [aKv,aG9,cx];refine Tt.cnd (fun u => ?_) fun _=>c;have v:=pH u;have e:IntKind.wrap .i64 (i+1)=i+1:=wi (by omega);rw [e];have f:∀ o,o.length<=a.length+1->(∀ x∈o,isIn s x)->Tt (Nx (fun st:List Str×Int=>0<=st.2/\st.2<=(cT s n).1.params.length/\st.1.length<=st.2/\∀ x∈st.1,isIn s x) (fun st  => ((cT s n).1.params.length-st.2:Int).toNat) (a,i) (fun l:List Str=>l.length<1073741824/\∀ x∈l,isIn s x)) (some (.inl (o,i+1))):=fun o B t=>Tt.ret (Nx.lf ⟨by omega,by omega,by grind,t⟩ (by omega));refine Tt.cnd (fun _=>Tt.nth ⟨k,v⟩ fun p j _=>Tt.cnd (fun _=>Tt.cnd (fun _=>Tt.eq (aLK s _ 5 5 5 h.sm) (Tt.cnd (fun z=>Tt.app (by grind) (f _ (by simp) fun x d => ?_)) fun _=>by grind)) fun _=>by grind) fun _=>by grind) fun _=>c;rcases aa6.1 d with d | d;· grind
  rw [aaw.1 d];exact bFO z
 obtain ⟨b,y,j⟩:=this;exact ⟨b,aTR y,j⟩
def More (s:GSchema) (y l:List Str):Prop:=∃ a,l=y++a/\a.Nodup/\∀ x∈a,isIn s x
theorem More.len {s y l} (h:More s y l):l.length<=y.length+s.defs.length:=by
 obtain ⟨a,rfl,c,b⟩:=h;have:=vT a (s.defs.map fun d:GDef=>d.name) c b;grind
theorem bFP s (h:SOk s):Te (aYs s):=by
 have D:=h.defs;have inner:∀ y l m,More s y l->y.length<2147483648->m.length<1073741824->(∀ x∈m,isIn s x)->Tt (More s y) (cW (aEp m) (l,0)):=fun y l m d hy hm g=>by
  refine Tt.loop (fun st:List Str×Int=>0<=st.2/\st.2<=m.length/\More s y st.1) (fun st:List Str×Int=>(m.length-st.2).toNat) (fun st hst => ?_) ⟨by simp,by simp,d⟩;obtain ⟨o,j⟩:=st;obtain ⟨a1,a2,a3⟩:=hst;simp only at a1 a2 a3;have hlo:=a3.len;simp only [aEp,aGV,cx];refine Tt.cnd (fun hc => ?_) fun _=>Tt.ret (Nx.r a3);have hj:=pH hc;have e:IntKind.wrap .i64 (j+1)=j+1:=wi (by omega);rw [e];refine Tt.nth ⟨a1,hj⟩ fun x t n=>Tt.eq (tT o x (by show o.length<_;omega)) (Tt.cnd (fun C=>Tt.nth ⟨a1,hj⟩ fun E p ex'=>Tt.app (by simp;omega) (Tt.ret (Nx.lf ⟨by simp only;omega,by simp only;omega,?_⟩ (by simp only;omega)))) fun _=>Tt.ret (Nx.lf ⟨by simp only;omega,by simp only;omega,a3⟩ (by simp only;omega)));rw [n] at ex';cases ex';obtain ⟨a,rfl,b1,b2⟩:=a3;refine ⟨a++[x],by simp,?_,fun z B => ?_⟩;all_goals grind
 have mid:∀ i y,y.length<1073741824->Tt (fun l  => l.length<2147483648) (cW (aEq s i) (y,0)):=fun _ y hy=>by
  refine Tt.loop (fun st  => 0<=st.2/\st.2<=st.1.length/\More s y st.1) (fun st  => ((y.length:Int)+s.defs.length-st.2).toNat) (fun st hst => ?_) ⟨by simp,by simp,[],by simp⟩;obtain ⟨o,k⟩:=st;obtain ⟨a1,a2,a3⟩:=hst;simp at a1 a2 a3;have hlo:=a3.len;simp [aEq,aGW,cx];refine Tt.cnd (fun hc => ?_) fun _=>Tt.ret (Nx.r (by omega));have q:=pH hc;have e:IntKind.wrap .i64 (k+1)=k+1:=wi (by omega);refine Tt.nth ⟨a1,q⟩ fun x t _=>Tt.bnd (aYV s h x) fun m hm=>Tt.bnd (Q:=fun l'  => More s y l'/\o.length<=l'.length) ?_ fun l' hl'=>Tt.ret ?_;· obtain ⟨l',h1,v⟩:=inner y o m a3 (by omega) hm.1 hm.2;refine ⟨l',h1,v,?_⟩;obtain ⟨u,h1',h2'⟩:=inner o o m ⟨[],by simp⟩ (by omega) hm.1 hm.2;rw [h1] at h1';cases h1';obtain ⟨a,rfl,_⟩:=h2';simp
  rw [e];have:=hl'.1.len;exact Nx.lf ⟨by simp;omega,by simp;omega,hl'.1⟩ (by simp;omega)
 have:Te (aPD s):=by
  simp [aPD];refine Tt.bnd (Q:=fun _=>True) (Tt.idx s.defs.length (by omega) fun i f h1 => ?_) fun o _=>Tt.elim (fun _ _=>Tt.ret trivial) fun _ _=>Tt.ret trivial;simp [aKn,aGX,cx];refine Tt.cnd (fun hc => ?_) fun _=>Tt.ret (Ix.r trivial);have c:=pH hc;exact Tt.nth ⟨f,c⟩ fun x _ _=>Tt.bnd (aYV s h _) fun y hy=>Tt.bnd (mid _ y hy.1) fun l d=>Tt.nth ⟨f,c⟩ fun x _ _=>Tt.eq (tT l _ (by omega)) (Tt.cnd (fun _=>Tt.ret (Ix.r trivial)) fun _=>Tt.ret (Ix.lf hc))
 obtain ⟨b,w,A⟩:=this;exact ⟨b,aTv w,A⟩
theorem bFQ:Ds 40 bFC:=by
 intro args a e;obtain ⟨v0,f,rfl,d,a⟩:=nM a;cases aIS a;obtain ⟨s,rfl⟩:=aIP d;have ps:=rR e rfl (v:=fF s) (by simp);have c:=aBa s;unfold Nr at c;obtain ⟨r,b,_⟩:=bFP s ⟨by omega⟩;exact ⟨.bool r,by exact dW (enc:=fun r=>(PV.bool r,[])) b,.one (.bool r)⟩
def iG (s:GSchema) (typ:Str) (x:GSel):Str:=bif x.kind==0 then (sK s typ x.name).1.t.name else bif x.kind==2 then (bif x.on_==([]:Str) then typ else x.on_) else []
def yK (s:GSchema) (o:GOp):Str:=bif o.kind==1 then s.mutation else s.query
theorem sM (s:GSchema) (typ:Str) (x:GSel) (h:SOk s):aH0 s typ x=some (iG s typ x):=by
 apply aRs
 simp only [aWZ,aHc,aAp s _ _ h,bF,iG,cx]
 cases x.kind==0<;>cases x.kind==2<;>cases x.on_==([]:Str)<;>rfl
theorem aJZ (s:GSchema) (o:GOp):aWh s o=some (yK s o):=by
 apply aWI
 simp only [bCX,aNs,yK,cx]
 cases o.kind==1<;>rfl
theorem aUH (s:GSchema) (typ:Str) (x:GSel) (h:SOk s):aML s typ x=some (iG s typ x):=by
 apply aRh
 simp only [aWw,aGZ,aHi s _ _ h,bF,iG,cx]
 cases x.kind==0<;>cases x.kind==2<;>cases x.on_==([]:Str)<;>rfl
theorem bAI (s:GSchema) (o:GOp):aV8 s o=some (yK s o):=by
 apply aWv
 simp only [bCN,aNd,yK,cx]
 cases o.kind==1<;>rfl
mutual
def aUI (s:GSchema) (c:Str):GSel->List GSeineref13Spot
 | ⟨k,a,n,e,ds,d,b⟩=>⟨c,⟨k,a,n,e,ds,d,b⟩⟩::tW s (iG s c ⟨k,a,n,e,ds,d,b⟩) b
def tW (s:GSchema) (c:Str):List GSel->List GSeineref13Spot
 | []=>[]
 | x::l=>aUI s c x++tW s c l
end
theorem aYW s a x:aUI s a x=⟨a,x⟩::tW s (iG s a x) x.sels:=by cases x;simp [aUI]
mutual
theorem aYX (s:GSchema):∀ (x:GSel) (b:Str),(aUI s b x).length<=cZ x
 | ⟨k,a,n,e,ds,d,c⟩,b=>by
  have:=aFH s c (iG s b ⟨k,a,n,e,ds,d,c⟩);rw [bK] at this;rw [eN];simp [aUI,bkSl];omega
theorem aFH (s:GSchema):∀ (l:List GSel) (b:Str),(tW s b l).length<=aK l
 | [],_=>by simp [tW]
 | x::l,b=>by have:=aYX s x b;have:=aFH s l b;simp only [tW,aK,aar];omega
end
theorem aUJ s (h : SOk s) : ∀ n c d l, aK c <= n -> l.length + aK c < 1073741824 -> aQ2 s d c l = some (l ++ tW s d c) := by
 intro n;induction n with
 | zero =>
  intro c d l z m;have := fP c;have t : c = [] := abB.1 (by omega);subst t;apply aKx;simp [aPK, aFv, cx];rw [cG (r := l) (by simp [wI, aAh, cx])];simp [tW]
 | succ n w =>
  intro c d l z m;apply aKx;simp [aPK, aFv, cx];have i := fP c;have e := iJ (b := wI s d c) c (fun k a => (a, k)) (fun r a => a ++ tW s d r) (fun k a => a.length + aK (c.drop k) < 1073741824) (by show c.length < _; omega)
   (by intro a _; simp [wI, aAh, tW, cx])
   (by
    intro k x r a A C g y v o j;rw [g] at j;simp [aK] at j;have f : c.drop (k + 1) = r := by rw [<- List.tail_drop, g]; rfl
    have B := pX A;have q := gV x;have p := aYX s x d;have u : tapp a [GSeineref13Spot.mk d x] = some (a ++ [⟨d, x⟩]) := gM (by simp [gY]; omega);refine .inr ⟨a ++ aUI s d x, ?_, ?_, ?_⟩;· simp only [wI, aAh, y, v, bF, o, u, sM s d x h, w x.sels (iG s d x) (a ++ [⟨d, x⟩]) (by omega) (by simp; omega), cx];rw [aYW]; simp
    ·rw [f]; simp; omega
    simp [tW]) (s := (l, 0)) (a := l) rfl (by simpa using m)
  rw [e]; rfl
def aP0 (s:GSchema) (d:GDoc):List GSeineref13Spot:=(d.ops.flatMap fun o=>tW s (yK s o) o.sels)++d.frags.flatMap fun f=>tW s f.on_ f.sels
theorem aRJ s:∀ l,(l.flatMap fun o=>tW s (yK s o) o.sels).length<=sumL bkOp l
 | []=>by simp
 | o::l=>by
  have c:=aRJ s l;have b:=aFH s o.sels (yK s o);have a:=kN o;rw [bK] at b;simp [bkSl] at a;simp only [ab2,aar,sumL];omega
theorem aP1 s:∀ l,(l.flatMap fun f=>tW s f.on_ f.sels).length<=sumL dQ l
 | []=>by simp
 | f::l=>by
  have c:=aP1 s l;have b:=aFH s f.sels f.on_;have a:=dE f;simp only [ab2,aar,sumL];omega
theorem aUK d:dY d=sumL bkOp d.ops+sumL dQ d.frags+3:=by rw [mB];simp [bkSl];omega
theorem aP2 s d:(aP0 s d).length<=dY d:=by
 have b:=aRJ s d.ops;have a:=aP1 s d.frags;rw [aUK];simp only [aP0,aar];omega
theorem bFR o:1<=bkOp o:=by rw [kN];omega
theorem bAJ o:aK o.sels+1<=bkOp o:=by rw [kN,bK];simp [bkSl];omega
theorem aNZ s d (h : SOk s) (y : dY d < 500000000) : aQY s d = some (aP0 s d) := by
 apply aTz;simp [aZZ, aJB, cx];rw [aUK] at y;have t := gR bkOp bFR d.ops;have v := gR dQ aPV d.frags;have z := aBJ (b := aAR s d) d.ops (fun k a => (a, k)) (fun a o => a ++ tW s (yK s o) o.sels) (fun a => a) (fun k a => a.length + sumL bkOp (d.ops.drop k) <= sumL bkOp d.ops) (by show d.ops.length < _; omega)
  (by intro a _; simp [aAR, aCG, cx])
  (by
   intro k x a B i q c m j;have A := bAJ x;have w := aFH s x.sels (yK s x);have e : d.ops.drop k = x :: d.ops.drop (k + 1) := by
    rw [abd i];rw [dF, aa4 i] at c;cases c; rfl
   rw [e] at j;simp [sumL] at j;refine ⟨?_, ?_⟩;· simp only [aAR, aCG, q, eS, c, bF, m, aJZ, aUJ s h _ x.sels (yK s x) a (aa1 _) (by omega), cx]
   simp [aar]; omega) (s := ([], 0)) (a := []) rfl (by simp)
 rw [z];simp only [bF];have g : ∀ (l : List GOp) a, l.foldl (fun a o => a ++ tW s (yK s o) o.sels) a = a ++ l.flatMap fun o => tW s (yK s o) o.sels := fun l => by
  induction l with
  | nil => intro a; simp
  | cons o l n => intro a; simp [aaW, n, ab2, aax]
 have p : ∀ (l : List GFrag) a, l.foldl (fun a f => a ++ tW s f.on_ f.sels) a = a ++ l.flatMap fun f => tW s f.on_ f.sels := fun l => by
  induction l with
  | nil => intro a; simp
  | cons o l n => intro a; simp [aaW, n, ab2, aax]
 rw [g];have u := aRJ s d.ops;have r := aBJ (b := aAS s d) d.frags (fun k a => (a, k)) (fun a f => a ++ tW s f.on_ f.sels) (fun a => a) (fun k a => a.length + sumL dQ (d.frags.drop k) <= sumL bkOp d.ops + sumL dQ d.frags) (by show d.frags.length < _; omega)
  (by intro a _; simp [aAS, aCH, cx])
  (by
   intro k x a B i q c m j;have A := dE x;have w := aFH s x.sels x.on_;have e : d.frags.drop k = x :: d.frags.drop (k + 1) := by
    rw [abd i];rw [dF, aa4 i] at c;cases c; rfl
   rw [e] at j;simp [sumL] at j;refine ⟨?_, ?_⟩;· simp only [aAS, aCH, q, eS, c, bF, m, aUJ s h _ x.sels x.on_ a (by omega) (by omega), cx]
   simp; omega) (s := ([] ++ d.ops.flatMap fun o => tW s (yK s o) o.sels, 0)) (a := [] ++ d.ops.flatMap fun o => tW s (yK s o) o.sels) rfl (by simp only [aai, List.drop_zero]; omega)
 rw [r, p];simp [aP0]
theorem bAK s b a:(sK s b a).1=tnF∨(sK s b a).1=zF∨∃ d∈s.defs,(sK s b a).1∈d.fields:=by
 unfold sK;cases a==tnS&&iN s b [1,2,3]
 ·cases (cT s b).1.kind==1||(cT s b).1.kind==2;· simp
  cases g:(cT s b).1.fields.find? (fun f=>f.name==a) with
  | none=>simp
  | some f =>
   rcases aAo s b with c | ⟨_,e,_⟩;all_goals grind
 simp
theorem SOk.field_bk {s} (h:SOk s) {d} (c:d∈s.defs) {f} (b:f∈d.fields):jR f<1073741824:=by
 have a:=h.def_bk c;have e:=bG jR b;rw [pL] at a;simp [bkSl] at a;omega
theorem aXf {s} (h:SOk s) b a:(sK s b a).1.t.name.length<=topL:=by
 unfold topL;rcases bAK s b a with e | e | ⟨d,f,c⟩;· simp_all
 ·grind
 have:=h.field_bk f c;rw [lZ,jA,bL,bL] at this;omega
theorem aUL {τ} {n b o a} {α:Type} {f} {l:List α} (h:LfOk τ (.sl n b o) (.slice (l.map f) [] a)):∀ y∈l,ElOk τ (elOf τ n) (f y):=by
 obtain ⟨es,e,c,_⟩:=tY h;grind
theorem bDH {τ} {s:Str} (h:LfOk τ .str (.str s)):s.length<=topL:=by obtain ⟨_,e,a⟩:=nA h;grind
def OkS (x:GSel):Prop:=ElOk tτ (elOf tτ 12) (aH x)
theorem OkS.cells {x} (h:OkS x):CsOk tτ [(.int .i64),.str,.str,(.sl 7 1048576 false),(.sl 8 1048576 false),.str,(.sl 12 1048576 false)] [.int .i64 x.kind,.str x.alias,.str x.name,.slice (List.map aE x.args) [] false,.slice (List.map bJ x.dirs) [] false,.str x.on_,.slice (List.map aH x.sels) [] false]:=by
 unfold OkS at h;rw [iZ] at h;cases h with | ag a=>exact a
theorem OkS.parts {x} (h:OkS x):x.on_.length<=topL/\∀ y∈x.sels,OkS y:=by
 obtain ⟨_,_,e,_,h⟩:=aQ h.cells;cases e;obtain ⟨_,_,e,_,h⟩:=aQ h;cases e;obtain ⟨_,_,e,_,h⟩:=aQ h;cases e;obtain ⟨_,_,e,_,h⟩:=aQ h;cases e;obtain ⟨_,_,e,_,h⟩:=aQ h;cases e;obtain ⟨_,_,e,b,h⟩:=aQ h;cases e;obtain ⟨_,_,e,a,h⟩:=aQ h;cases e;exact ⟨bDH b,aUL a⟩
theorem aXg {s} (h:SOk s) {a x} (c:a.length<=topL) (b:OkS x):(iG s a x).length<=topL:=by
 have e:=aXf h a x.name;have d:=b.parts.1;unfold iG;grind
theorem bIp {a x} (c:a.length<=topL) (b:OkS x):ElOk tτ (elOf tτ 16) (aI ⟨a,x⟩):=by
 exact .ag (.cons (.str c) b.cells)
mutual
theorem bFS {s:GSchema} (h:SOk s):∀ (x:GSel) (b:Str),b.length<=topL->OkS x->∀ p∈aUI s b x,ElOk tτ (elOf tτ 16) (aI p)
 | ⟨k,a,n,i,ds,g,e⟩,b,d,f,p,c=>by
  simp [aUI] at c;rcases c with rfl | c;· exact bIp d f
  exact aLO h e _ (aXg h d f) f.parts.2 p c
theorem aLO {s:GSchema} (h:SOk s):∀ (l:List GSel) (b:Str),b.length<=topL->(∀ x∈l,OkS x)->∀ p∈tW s b l,ElOk tτ (elOf tτ 16) (aI p)
 | [],_,_,_,p,c=>by simp [tW] at c
 | x::l,b,d,f,p,c=>by
  simp only [tW,aa6] at c;rcases c with c | c;· exact bFS h x b d (by grind) p c
  ·exact aLO h l b d (fun y hy=>by grind) p c
end
theorem bAL {o} (h:ElOk tτ (elOf tτ 10) (cO o)):∀ x∈o.sels,OkS x:=by
 cases h with
 | ag h =>
  obtain ⟨_,_,e,_,h⟩:=aQ h;cases e;obtain ⟨_,_,e,_,h⟩:=aQ h;cases e;obtain ⟨_,_,e,_,h⟩:=aQ h;cases e;obtain ⟨_,_,e,_,h⟩:=aQ h;cases e;obtain ⟨_,_,e,a,h⟩:=aQ h;cases e;exact aUL a
theorem aKR {o} (h:ElOk tτ (elOf tτ 13) (aL o)):o.on_.length<=topL/\∀ x∈o.sels,OkS x:=by
 cases h with
 | ag h =>
  obtain ⟨_,_,e,_,h⟩:=aQ h;cases e;obtain ⟨_,_,e,b,h⟩:=aQ h;cases e;obtain ⟨_,_,e,_,h⟩:=aQ h;cases e;obtain ⟨_,_,e,a,h⟩:=aQ h;cases e;exact ⟨bDH b,aUL a⟩
theorem aUM {d} (h:ElOk tτ (elOf tτ 9) (tB d)):(∀ o∈d.ops,ElOk tτ (elOf tτ 10) (cO o))/\∀ f∈d.frags,ElOk tτ (elOf tτ 13) (aL f):=by
 cases h with
 | ag h =>
  obtain ⟨_,_,e,b,h⟩:=aQ h;cases e;obtain ⟨_,_,e,a,h⟩:=aQ h;cases e;exact ⟨aUL b,aUL a⟩
theorem aIU:Ds 55 bFD:=by
 intro args b j;obtain ⟨v0,A,rfl,m,b⟩:=nM b;obtain ⟨x,w,rfl,g,b⟩:=nM b;cases aIS b;obtain ⟨s,rfl⟩:=aIP m;obtain ⟨d,rfl⟩:=aYG g;have ps:=rR j rfl (v:=fF s) (by simp);have z:=rR j rfl (v:=tB d) (by simp);have t:=aBa s;have l:=aXd d;unfold Nr at t l;have c:SOk s:=⟨by omega⟩;have k:=aNZ s d c (by omega);have y  := by
  have g:=aP2 s d;omega
 obtain ⟨q,h⟩:=aUM g;refine ⟨_,by exact dW (enc:=fun r=>(mT r,[])) k,.one (.sl (fun e n => ?_) (by grind))⟩;obtain ⟨p,a,rfl⟩:=aah.1 n;rcases aa6.1 a with a | a;· obtain ⟨o,u,a⟩:=aaE.1 a;refine aLO c _ _ ?_ (bAL (q o u)) p a;have:=oL s;rw [bL,bL] at this;unfold yK topL;grind
 obtain ⟨f,i,a⟩:=aaE.1 a;exact aLO c _ _ (aKR (h f i)).1 (aKR (h f i)).2 p a
theorem aUN:∀ (l:List GDir),∀ x∈aHk l,x.length<sumL gF l
 | [],x,hx=>by simp [aHk] at hx
 | y::l,x,hx=>by
  simp only [aHk,aa6] at hx
  simp only [sumL]
  rcases hx with h | h
  ·have:=aIT y.args x h;rw [kD] at this;rw [jF];simp only [bkSl];omega
  ·have:=aUN l x h;omega
mutual
theorem bDI:∀ (y:GSel),∀ x∈aRD y,x.length<cZ y
 | ⟨k,a,n,ar,ds,on,sels⟩,x,hx=>by
  rw [eN]
  simp only [aRD,aa6] at hx
  simp only [bkSl]
  rcases hx with h | h | h
  ·have:=aIT ar x h;rw [kD] at this;omega
  ·have:=aUN ds x h;omega
  ·have:=aLP sels x h;rw [bK] at this;omega
theorem aLP:∀ (l:List GSel),∀ x∈useS l,x.length<aK l
 | [],x,hx=>by simp [useS] at hx
 | y::l,x,hx=>by
  simp only [useS,aa6] at hx
  simp only [aK]
  rcases hx with h | h
  ·have:=bDI y x h;omega
  ·have:=aLP l x h;omega
end
theorem bFT (d:GDoc) (l:List GSel):∀ x∈allU d l,x.length<dY d+aK l:=by
 intro x hx
 rcases aa6.1 hx with h | h
 ·have:=aLP l x h;omega
 ·obtain ⟨f,hf,h⟩:=aaE.1 h
  have h1:=aLP f.sels x h
  have h2:=dE f
  have h3:=bG dQ hf
  have h4:=cQ d
  omega
structure OOk (s:GSchema) (d:GDoc) (o:GOp):Prop where
 s:SOk s
 u:dY d+aK o.sels<200000000
 v:o.vars.length<1073741824
theorem bFU (d:GDoc) (l:List GSel) (h:dY d+aK l<200000000):∃ u,aWd d l=some u/\u.length<=dY d+aK l/\∀ x∈u,x∈allU d l:=by
 obtain ⟨r,m,hr,_,hl,hm,_⟩:=aAr d l (by omega)
 obtain ⟨u,hu,hR,hx⟩:=bAD d l r hr hl (fun n hn=>((hm n).1 hn).2) (by omega)
 have hin:∀ x∈u,x∈allU d l:=fun x hx'=>by
  rcases (hx x).1 hx' with h | ⟨n,hn,h⟩
  ·exact abD _ h
  ·exact abC _ (aaE.2 ⟨_,(qW ((hm n).1 hn).2).1,h⟩)
 exact ⟨u,hu,aa5 (vT u (allU d l) hR.nodup hin) (aYM d l),hin⟩
theorem bIq:Ds 106 bIb:=by
 intro args hA hc
 obtain ⟨v0,r0,rfl,h0,hA⟩:=nM hA
 obtain ⟨v1,r1,rfl,h1,hA⟩:=nM hA
 cases aIS hA
 obtain ⟨d,rfl⟩:=aYG h0
 obtain ⟨es,rfl,he,hn⟩:=bIk h1
 obtain ⟨l,rfl⟩:=dK (f:=aH) (fun e h=>aYF (he e h))
 have pd:=rR hc rfl (v:=tB d) (by simp)
 have pl:=rR hc rfl (v := .slice (l.map aH) [] false) (by simp)
 have qd:=aXd d
 have ql:=psl (l:=l) (fun x _=>bAF x)
 unfold Nr at qd
 simp only [bX] at pl
 have hbl:=bK l
 obtain ⟨u,hu,hlen,hin⟩:=bFU d l (by omega)
 refine ⟨_,by simp only [tys];exact dW (enc:=fun r=>(dZ r,[])) hu,.one (.sl (aXe fun x hx => ?_) (by simp only [aau];omega))⟩
 have:=bFT d l x (hin x hx)
 show x.length<=1073741824
 omega
end Go.Proofs.YtenmfogokijilaaGreat
namespace Go.Ev
theorem dr {α} {a:List α} {k x l} (e:a.length<4611686018427387904) (h:a.drop k=x::l) :
  decide ((k:Int)<a.length)=true/\nthI a k=some x/\a.drop (k+1)=l/\IntKind.wrap .i64 (k+1)=((k+1:Nat):Int):=by
 have d:k<a.length:=by
  rcases aaG k a.length with b | b;· exact b
  rw [List.drop_eq_nil_of_le b] at h;cases h
 have c:=abd d;rw [h] at c;cases c;refine ⟨by grind,?_,rfl,wadd (by omega)⟩;rw [dF];simp
theorem dr0 {α:Type} {a:List α} {k} (h:a.drop k=[]):decide ((k:Int)<a.length)=false:=by
 simp_all
theorem jK {σ ρ α β:Type} {b} (l:List α) (S:Nat->β->σ) (J:Nat->β->Prop) (Q:ρ->Prop)
  (m:∀ a,J l.length a->∃ r,b (S l.length a)=some (.inr r)/\Q r)
  (j:∀ k x a,k<l.length->l[k]?=some x->J k a->(∃ r,b (S k a)=some (.inr r)/\Q r)∨∃ g,b (S k a)=some (.inl (S (k+1) g))/\J (k+1) g) :
  ∀ n k a,l.length-k=n->k<=l.length->J k a->∃ r,cW b (S k a)=some r/\Q r:=by
 intro n;induction n with
 | zero =>
  intro k a h i f;have:k=l.length:=by omega
  subst this;obtain ⟨r,c,e⟩:=m a f;exact ⟨r,cG c,e⟩
 | succ n o =>
  intro k a h i f;have d:k<l.length:=by omega
  rcases j k _ a d (aa4 d) f with ⟨r,c,e⟩ | ⟨g,c,e⟩;· exact ⟨r,cG c,e⟩
  rw [fL c];grind
theorem bG7 {α} {b1 : Int -> Int -> Option (Int ⊕ (Unit ⊕ Unit))} {b2 : Int -> Option (Int ⊕ (Unit ⊕ Unit))} l (f : α -> α -> Option Bool) (F : l.length < 4611686018427387904) (B : ∀ x ∈ l, ∀ y ∈ l, ∃ r, f x y = some r)
  (z : ∀ i k, b1 i k = cnd (decide (k < i)) (bnd (nthI l k) fun x => bnd (nthI l i) fun y => bnd (f x y) fun r => cnd (!r) (some (.inr (.inr ()))) (some (.inl (IntKind.wrap .i64 (k + 1))))) (some (.inr (.inl ()))))
  (w : ∀ i, b2 i = cnd (decide (i < l.length)) (bnd (cW (b1 i) 0) fun e => elim e (fun _ => some (.inl (IntKind.wrap .i64 (i + 1)))) (fun _ => some (.inr (.inr ())))) (some (.inr (.inl ())))) :
  ∃ r, cW b2 0 = some r /\ (r = .inl () -> l.Pairwise fun x y => f x y = some true) := by
 have m : ∀ i (o : i < l.length), ∃ r, cW (b1 (i : Int)) 0 = some r /\ (r = .inl () -> ∀ j (c : j < i), f (l[j]'(by omega)) l[i] = some true) := by
  intro i o;have d : (l.take i).length = i := by simp; omega
  obtain ⟨r, e, q⟩ := jK (b := b1 (i : Int)) (l.take i) (fun k (_ : Unit) => (k : Int)) (fun k _ => ∀ j (c : j < k) (g : j < i), f (l[j]'(by omega)) l[i] = some true) (fun r => r = .inl () -> ∀ j (c : j < i), f (l[j]'(by omega)) l[i] = some true)
   (by
    intro _ n;refine ⟨.inl (), ?_, fun _ j c => by grind⟩;rw [d, z]; simp)
   (by
    intro k x _ t A n;rw [d] at t;have D  := by omega
    have E : nthI l (k : Int) = some l[k] := by rw [dF]; exact by simp
    have C : nthI l i = some l[i] := by rw [dF]; exact by simp
    obtain ⟨r, v⟩ := B l[k] (by simp) l[i] (by simp);have s : decide ((k : Int) < i) = true := by simp; omega
    rw [z, E, C];simp only [s, bF, v, wadd (show k < 9223372036854775807 by omega)];cases r;· exact by simp
    refine .inr ⟨(), rfl, fun j c g => ?_⟩;rcases aaG j k with h | h;· exact n j h g
    have : j = k := by omega
    subst this; exact v)
   _ 0 () rfl (by omega) (by intro j c; omega)
  exact ⟨r, e, q⟩
 obtain ⟨r, e, q⟩ := jK (b := b2) l (fun k (_ : Unit) => k) (fun k _ => ∀ i (o : i < k) (p : i < l.length) j (c : j < i), f (l[j]'(by omega)) l[i] = some true) (fun r => r = .inl () -> l.Pairwise fun x y => f x y = some true)
  (by
   intro _ n;refine ⟨.inl (), by rw [w]; simp, fun _ => List.pairwise_iff_getElem.2 fun j i c o g => by grind⟩)
  (by
   intro k x _ t A n;obtain ⟨r, e, q⟩ := m k t;have s : decide ((k : Int) < l.length) = true := by simp; omega
   rw [w, e];simp only [s, wadd (show k < 9223372036854775807 by omega)];cases r with
   | inl u =>
    refine .inr ⟨(), rfl, fun i o p j c => ?_⟩;rcases aaG i k with h | h;· exact by grind
    have : i = k := by omega
    subst this; exact q rfl j c
   | inr u => exact by simp)
  _ 0 () rfl (by omega) (by omega)
 exact ⟨r, e, q⟩
section
variable {K V : Type} [BEq K] [LawfulBEq K]
theorem aIV {k:K} {z:V}:∀ {l},(qF k z l).2=true->(k,(qF k z l).1)∈l
 | [],h=>by simp [qF] at h
 | p::l,h=>by
  simp only [qF] at h ⊢;cases e:k==p.1;· rw [e] at h;exact List.mem_cons_of_mem _ (aIV h)
  grind
theorem aN0 {k:K} {v:V} {p}:∀ {l},p∈zG k v l->p∈l∨p=(k,v)
 | [],h=>by simpa [zG] using h
 | q::l,h=>by
  simp [zG] at h;cases e:k==q.1
  ·rw [e] at h;rcases aa3.1 h with rfl | h;· simp
   rcases aN0 h with h | h;all_goals grind
  grind
theorem aUO {k j:K} {z v:V}:∀ {l},qF j z (zG k v l)=bif j==k then (v,true) else qF j z l
 | []=>by simp [zG,qF]
 | q::l=>by
  simp [zG];cases e:k==q.1;· simp [qF,aUO (l:=l)];grind
  simp [qF];grind
end
theorem held {α β} {b : Int × β -> Option ((Int × β) ⊕ (β ⊕ β))} l (κ : α -> Bool) (G : α -> β -> Option (Bool × β)) (d : β -> Prop) o (P : α -> Prop) (s : l.length < 4611686018427387904)
  (v : ∀ t st, b (t, st) = cnd (decide (t < l.length)) (bnd (nthI l t) fun z => cnd (!κ z) (some (.inl (IntKind.wrap .i64 (t + 1), st))) (bnd (G z st) fun r => cnd (!r.1) (some (.inr (.inr r.2))) (some (.inl (IntKind.wrap .i64 (t + 1), r.2))))) (some (.inr (.inl st))))
  (y : ∀ z ∈ l, ∀ st, κ z = true -> d st -> ∃ r c, G z st = some (r, c) /\ d c /\ (o -> r = true) /\ (r = true -> P z)) st (g : d st) :
  ∃ e, cW b (0, st) = some e /\ ∃ c, d c /\ ((e = .inl c /\ ∀ z ∈ l, κ z = true -> P z) ∨ (e = .inr c /\ ¬o)) := by
 obtain ⟨r, e, q⟩ := jK (b := b) l (fun k st => (k, st)) (fun k st => d st /\ ∀ j (m : j < k) s, κ l[j] = true -> P l[j]) (fun e => ∃ c, d c /\ ((e = .inl c /\ ∀ z ∈ l, κ z = true -> P z) ∨ (e = .inr c /\ ¬o)))
  (by
   rintro st ⟨g, H⟩;refine ⟨.inl st, by rw [v]; simp, st, g, .inl ⟨rfl, fun z A p => ?_⟩⟩;obtain ⟨j, m, rfl⟩ := ab0 A;exact by grind)
  (by
   rintro k x st p I ⟨g, H⟩;have B : nthI l k = some l[k] := by rw [dF]; exact by simp
   have F : decide ((k : Int) < l.length) = true := by simp; omega
   rw [v, B];simp only [F, bF, wadd (show k < 9223372036854775807 by omega)];have f : ∀ (w : κ l[k] = true -> P l[k]), ∀ j (m : j < k + 1) s, κ l[j] = true -> P l[j] := by
    intro w j m E n;rcases aaG j k with h | h;· exact by grind
    have : j = k := by omega
    subst this; exact w n
   cases i : κ l[k];· exact .inr ⟨st, rfl, g, f (by rw [i]; intro h; cases h)⟩
   obtain ⟨r, c, D, u, J, C⟩ := y l[k] (aaK p) st i g;simp [D];cases r;· exact .inl ⟨.inr c, rfl, c, u, by grind⟩
   exact .inr ⟨c, rfl, u, f fun _ => C rfl⟩)
  _ 0 st rfl (by omega) ⟨g, by omega⟩
 exact ⟨r, e, q⟩
theorem bJ3 {β} {b : Int × β -> Option ((Int × β) ⊕ (β ⊕ β))} (n : Nat) (T : Nat -> β -> Option (β ⊕ β)) (c : β -> Prop) f (P : Nat -> Prop) (y : n < 4611686018427387904)
  (t : ∀ k st, k < n -> b (k, st) = bnd (T k st) fun e => elim e (fun u => some (.inl (IntKind.wrap .i64 (k + 1), u))) (fun u => some (.inr (.inr u)))) (s : ∀ st, b (n, st) = some (.inr (.inl st)))
  (p : ∀ k < n, ∀ st, c st -> ∃ e, T k st = some e /\ ∃ a, c a /\ ((e = .inl a /\ P k) ∨ (e = .inr a /\ ¬f))) st (d : c st) :
  ∃ e, cW b (0, st) = some e /\ ∃ a, c a /\ ((e = .inl a /\ ∀ k < n, P k) ∨ (e = .inr a /\ ¬f)) := by
 obtain ⟨r, e, q⟩ := jK (b := b) (List.replicate n ()) (fun k st => (k, st)) (fun k st => c st /\ ∀ j < k, P j) (fun e => ∃ a, c a /\ ((e = .inl a /\ ∀ k < n, P k) ∨ (e = .inr a /\ ¬f)))
  (by
   rintro st ⟨d, g⟩;rw [abj] at g ⊢;exact ⟨.inl st, s st, st, d, by grind⟩)
  (by
   rintro k x st i v ⟨d, g⟩;rw [abj] at i;rw [t k st i];obtain ⟨e, l, a, o, ⟨rfl, m⟩ | ⟨rfl, m⟩⟩ := p k i st d
   ·rw [l];simp only [wadd (show k < 9223372036854775807 by omega)];refine .inr ⟨a, rfl, o, fun j w => ?_⟩;rcases aaG j k with h | h;· exact g j h
    have : j = k := by omega
    subst this; exact m
   rw [l];exact .inl ⟨.inr a, rfl, a, o, by grind⟩)
  _ 0 st rfl (by omega) ⟨d, by omega⟩
 exact ⟨r, e, q⟩
end Go.Ev
open Go Go.Ev Go.Ev.PV
namespace Go.Proofs.YtenmfogokijilaaGreat
theorem aIW {α β} {b} l (f : α -> Option (List β)) w (P : β -> Prop) (D : Sm l)
  (m : ∀ x ∈ l, ∃ r, f x = some r /\ r.length <= w x /\ ∀ p ∈ r, P p)
  (t : ∀ c k x, nthI l k = some x -> decide (k < l.length) = true -> b (c, k) = bnd (f x) fun y => bnd (tapp c y) fun o => some (.inl (o, IntKind.wrap .i64 (k + 1)))) (j : ∀ c, b (c, l.length) = some (.inr c))
  c (d : ∀ p ∈ c, P p) (g : c.length + sumL w l <= 1000000000) : ∃ r, cW b (c, 0) = some r /\ r.length <= c.length + sumL w l /\ ∀ p ∈ r, P p := by
 obtain ⟨r, e, q⟩ := jK (b := b) l (fun k o => (o, k)) (fun k o => o.length + sumL w (l.drop k) <= c.length + sumL w l /\ ∀ p ∈ o, P p) (fun r => r.length <= c.length + sumL w l /\ ∀ p ∈ r, P p)
  (fun o d => ⟨o, j o, by omega, d.2⟩)
  (fun k x o u v d => by
   obtain ⟨h, B⟩ := d;have g1 : nthI l k = some l[k] := by rw [dF]; simp
   have i : decide ((k : Int) < l.length) = true := by grind
   obtain ⟨r, s, z, C⟩ := m l[k] (by simp);rw [abd u] at h;simp [sumL] at h;have n : tapp o r = some (o ++ r) := gM (by simp [gY]; omega);refine .inr ⟨o ++ r, by rw [t _ _ _ g1 i]; simp [s, n, wadd (show k < 9223372036854775807 by omega)], by grind, fun p E => ?_⟩;grind)
  _ 0 c rfl (by omega) ⟨by simp, d⟩
 grind
def SpO (p:GSpot):Prop:=p.var.length<=1000000000/\p.t.name.length<=1000000000
def TL (t:GType):Prop:=t.name.length<=1000000000
theorem TL.tn {t} (h:TL t):TN t:=by unfold TL at h;unfold TN;omega
theorem bIr t (h:TL t):∃ r,aQ3 t=some r/\TL r.1/\(r.2=true->r.1.lists.toNat<t.lists.toNat):=by
 obtain ⟨r,f,i,e⟩:=bDF t h.tn;have:∃ r,aNx t=some r/\TL r.1:=by
  obtain ⟨b,c,_⟩:=bDE t h.tn;simp only [aNx,aNw,cx];rw [c];cases b;· exact ⟨_,rfl,by unfold TL;simp⟩
  cases t.lists==0;· exact ⟨_,rfl,h⟩
  exact ⟨_,rfl,by unfold TL;simp⟩
 obtain ⟨g,a,d⟩:=this;have:=aNy a;grind
theorem aYY l n (q:bkSl eG l<=1000000000):∃ r,vE l n=some r/\aAJ r.1.t<=bkSl eG l+4:=by
 obtain ⟨r,c,g⟩:=aYR l n (aRH aDa (by omega));refine ⟨r,c,?_⟩;cases f:r.2
 ·have:∃ r,aJO l n=some r/\(r.2=false->r.1.t=⟨[],0,0⟩):=by
   simp [aJO,aJN,cx];obtain ⟨e,i,_⟩:=(Tt.idx (b:=aA5 l n) (R:=fun _=>True) l.length (aRH aDa (show bkSl eG l<1073741824 by omega)) fun k d g=>by
    simp [aA5,aCX,cx];refine Tt.cnd (fun a=>Tt.nth ⟨d,pH a⟩ fun x m e => ?_) fun _=>Tt.ret (Ix.r trivial);exact Tt.cnd (fun _=>Tt.nth ⟨d,pH a⟩ fun y hy p=>Tt.ret (Ix.r trivial)) fun _=>Tt.ret (Ix.lf a))
   rw [i];cases e with
   | inl u=>simp
   | inr u=>simp
  obtain ⟨o,h,j⟩:=this;have:=aKL h;rw [c] at this;cases this;rw [j f,jA,bL];simp [bk1]
 have:=bG eG (g f);rw [pK] at this;unfold bkSl;omega
theorem aYZ l n (c:bkSl eG l<=1000000000):∃ r,vE l n=some r/\TL r.1.t:=by
 obtain ⟨r,b,a⟩:=aYY l n (by omega);rw [jA,bL] at a;simp [bk1] at a;exact ⟨r,b,by unfold TL;omega⟩
theorem bDJ s (h:SOk s) (K:eH s<=100000000):∀ n v,bY v<=n->n<=100000000->∀ k t has,TL t->t.lists.toNat<=k->∃ r,vF s t has v=some r/\r.length<=bY v/\∀ p∈r,SpO p:=by
 intro n;induction n with
 | zero=>intro v hv;rw [cS] at hv;omega
 | succ n ihn =>
  intro v hv I k;have j:=cS v;simp only [bkSl] at j;have d:∀ x∈v.l,bY x<=n:=fun x hx=>by have:=bG bY hx;omega
  have hvm:∀ x∈v.m,bY x.v<=n:=fun x hx=>by have:=bG aV hx;rw [dG] at this;omega
  have hpos:∀ x,1<=bY x:=fun x=>by rw [cS];omega
  have hsl:Sm v.l:=aRH hpos (by simp only [bkSl];omega);have a:Sm v.m:=aRH pA (by simp only [bkSl];omega);have hprm:∀ nm,bkSl eG (cT s nm).1.params<=1000000000:=fun nm=>by
   rcases aAo s nm with hx | ⟨_,_,_,e⟩;· have h1:=bG aJd hx;have h2:=oL s;rw [pL] at h1;simp only [bkSl] at h2 h1 ⊢;omega
   rw [e];simp [bkSl,sumL]
  have lists:∀ (t:GType),TL t->∀ (b:List GSpot×Int->Option ((List GSpot×Int)⊕List GSpot)),
    (∀ out k,b (out,k)=cnd (decide (k<v.l.length)) (bnd (nthI v.l k) fun x=>bnd (vF s t false x) fun y=>bnd (tapp out y) fun o=>some (.inl (o,IntKind.wrap .i64 (k+1)))) (some (.inr out))) ->
    ∃ r,cW b ([],0)=some r/\r.length<=bY v/\∀ p∈r,SpO p:=by
   intro t ht b hbb;obtain ⟨r,r1,r2,f⟩:=aIW (b:=b) v.l (fun x=>vF s t false x) bY SpO hsl (fun x hx=>ihn x (d x hx) (by omega) _ t false ht (aa1 _)) (fun out k x h1 h2=>by rw [hbb];simp only [h2,eS,h1,bF]) (fun out=>by rw [hbb];simp) [] (by simp) (by simp;omega);exact ⟨r,r1,by simp at r2;omega,f⟩
  have maps:∀ nm (b:List GSpot×Int->Option ((List GSpot×Int)⊕List GSpot)),
    (∀ out k,b (out,k)=cnd (decide (k<v.m.length)) (bnd (nthI v.m k) fun x=>bnd (vE (cT s nm).1.params x.name) fun p=>bnd (nthI v.m k) fun z=>bnd (vF s p.1.t p.1.has z.v) fun y=>bnd (tapp out y) fun o=>some (.inl (o,IntKind.wrap .i64 (k+1)))) (some (.inr out))) ->
    ∃ r,cW b ([],0)=some r/\r.length<=bY v/\∀ p∈r,SpO p:=by
   intro nm b hbb;obtain ⟨r,r1,r2,f⟩:=aIW (b:=b) v.m (fun x=>bnd (vE (cT s nm).1.params x.name) fun p=>vF s p.1.t p.1.has x.v) aV SpO a (fun x hx=>by
     obtain ⟨p,G,u⟩:=aYZ (cT s nm).1.params x.name (hprm nm);obtain ⟨r,C,J,D⟩:=ihn x.v (hvm x hx) (by omega) _ p.1.t p.1.has u (aa1 _);exact ⟨r,by rw [G];exact C,by rw [dG];omega,D⟩) (fun out k x h1 h2=>by
      rw [hbb];simp only [h2,eS,h1,bF];cases vE (cT s nm).1.params x.name<;>rfl) (fun out=>by rw [hbb];simp) [] (by simp) (by simp;omega)
   exact ⟨r,r1,by simp at r2;omega,f⟩
  have main:∀ t has,TL t->(∀ t',TL t'->t'.lists.toNat<t.lists.toNat->∃ r,vF s t' false v=some r/\r.length<=bY v/\∀ p∈r,SpO p)->∃ r,vF s t has v=some r/\r.length<=bY v/\∀ p∈r,SpO p:=fun t has ht hrec=>by
   suffices E:∃ r,aPP s t has v=some r/\r.length<=bY v/\∀ p∈r,SpO p by
    obtain ⟨r,r1,r2⟩:=E;exact ⟨r,aUg r1,r2⟩
   simp only [aPP,aJS,cx];cases v.kind==8
   ·cases v.kind==0
    ·obtain ⟨y,F,q,w⟩:=bIr t ht;simp only [jN,F,bF,aB9 s _ h.sm];cases hy:y.2
     ·simp [jN];cases v.kind==7;· exact ⟨[],rfl,by simp,by simp⟩
      obtain ⟨r,r1,r2⟩:=maps t.name (aA7 s t v (cT s t.name)) (fun out k=>by simp [aA7,aC5,cx]);exact ⟨r,by simp [eS,r1,bF],r2⟩
     simp [eS];cases v.kind != 6;· obtain ⟨r,r1,r2⟩:=lists y.1 q (aA6 s v y) (fun out k=>by simp [aA6,aC4,cx]);exact ⟨r,by simp [r1],r2⟩
     obtain ⟨r,r1,r2⟩:=hrec y.1 q (w hy);exact ⟨r,by simp [r1],r2⟩
    exact ⟨[],rfl,by simp,by simp⟩
   refine ⟨_,rfl,by simp;omega,fun p H => ?_⟩;cases aaw.1 H;exact ⟨by rw [bL] at j;show v.s.length<=_;omega,ht⟩
  induction k with
  | zero=>exact fun t g ht B=>main t g ht fun t' _ A=>by omega
  | succ k c=>exact fun t g ht B=>main t g ht fun t' i A=>c t' false i (by omega)
open Go Go.Ev Go.Ev.PV
theorem aN1 s (h:SOk s) (q:eH s<=100000000) l (u:bkSl eG l<=1000000000) m (B:sumL aV m<=100000000):∃ r,aCC s l m=some r/\r.length<=sumL aV m/\∀ p∈r,SpO p:=by
 have c:Sm m:=aRH pA (by simp [bkSl];omega);obtain ⟨r,i,y,o⟩:=aIW (b:=tS s l m) m (fun x=>bnd (vE l x.name) fun p=>vF s p.1.t p.1.has x.v) aV SpO c (fun x d=>by
   obtain ⟨p,A,g⟩:=aYZ l x.name u;have:=bG aV d;have e:=dG x;obtain ⟨r,w,z,f⟩:=bDJ s h q _ x.v (aa1 _) (by omega) _ p.1.t p.1.has g (aa1 _);exact ⟨r,by simp_all,by omega,f⟩) (fun a k x n j=>by
    simp [tS,vN,j,n,cx];cases vE l x.name<;>rfl) (fun a=>by simp [tS,vN,cx]) [] (by simp) (by grind)
 exact ⟨r,aNH (by simp [aIz,i,cx]),by grind,o⟩
theorem aKS d:∃ l,sD d=some l/\bkSl eG l<=1000:=by
 have c:bkSl eG [GParam.mk [105,102] (GType.mk [66,111,111,108,101,97,110] 0 1) false (GValue.mk 0 0 [] ([]:List GValue) ([]:List GMember))]<=1000:=by
  simp [bkSl,sumL,pK,jA,eV,cS,bk1]
 have:∃ l,aGg d=some l/\bkSl eG l<=1000:=by
  simp [aGg,aBw,cx];cases a:d.name==([115,107,105,112]:Str)
  ·cases b:d.name==([105,110,99,108,117,100,101]:Str);· rw [aAm (r:=(GParam.mk [] (GType.mk [] 0 0) false (GValue.mk 0 0 [] ([]:List GValue) ([]:List GMember)),false)) (by simp only [yF,a,b];rfl)];exact ⟨[],rfl,by simp [bkSl,sumL]⟩
   rw [aAm (r:=(GParam.mk [105,102] (GType.mk [66,111,111,108,101,97,110] 0 1) false (GValue.mk 0 0 [] ([]:List GValue) ([]:List GMember)),true)) (by simp only [yF,a,b];rfl)];simp_all
  rw [aAm (r:=(GParam.mk [105,102] (GType.mk [66,111,111,108,101,97,110] 0 1) false (GValue.mk 0 0 [] ([]:List GValue) ([]:List GMember)),true)) (by simp only [yF,a];rfl)];simp_all
 obtain ⟨l,a,b⟩:=this;exact ⟨l,aLd a,b⟩
theorem aN2 s {N} (j:eH s<=N) (k:8<=N) a b:bkSl eG (sK s a b).1.params<=N-7:=by
 have fs:∀ f∈(cT s a).1.fields,bkSl eG f.params<=N-7:=fun f i=>by
  rcases aAo s a with g | ⟨_,e,_,_⟩;· have d:=bG aJd g;have h:=oL s;have c:=bG jR i;rw [lZ] at c;rw [pL] at d;simp [bkSl] at d h c ⊢;omega
  grind
 unfold sK;have z:bkSl eG ([]:List GParam)<=N-7:=by simp [bkSl,sumL];omega
 grind
theorem bAM s (c:eH s<=100000000) b a:bkSl eG (sK s b a).1.params<=1000000000:=by have:=aN2 s c (by omega) b a;omega
theorem aIX s (h : SOk s) (hb : eH s <= 100000000) : ∀ n L, aK L <= n -> n <= 100000000 -> ∀ typ, ∃ r, tG s typ L = some r /\ r.length <= aK L /\ ∀ p ∈ r, SpO p := by
 intro n;induction n using Nat.strongRecOn with
 | _ n t =>
  intro L H J typ;have hsm : Sm L := by have := fP L; show L.length < _; omega
  obtain ⟨r, e, q1, d⟩ := jK (b := iV s typ L) L (fun k (o : List GSpot) => (o, (k : Int))) (fun k o => o.length + sumL cZ (L.drop k) <= aK L /\ ∀ p ∈ o, SpO p) (fun r => r.length <= aK L /\ ∀ p ∈ r, SpO p)
   (fun o ho => ⟨o, by simp [iV, rD, cx], by have := ho.1; omega, ho.2⟩)
   (fun k x o v F ho => by
    obtain ⟨h1, h2⟩ := ho;have g1 : nthI L (k : Int) = some L[k] := by rw [dF]; exact by simp
    have i : decide ((k : Int) < (L.length : Int)) = true := by simp; omega
    have u : L.length < 4611686018427387904 := hsm;rw [abd v] at h1;simp only [sumL] at h1;have g : sumL aV L[k].args + sumL gF L[k].dirs + aK L[k].sels + 1 <= cZ L[k] := by rw [eN, bK]; simp only [bkSl]; omega
    -- behind the arguments
    have rest : ∀ out , out.length <= o.length + sumL aV L[k].args -> (∀ p ∈ out, SpO p) -> ∃ o', (bnd (cW (lN s L k) (out, 0)) fun out_125 => bnd (nthI L k) fun y129 => bnd (aH0 s typ y129) fun y131 => bnd (nthI L k) fun y133 => bnd (tG s y131 y133.sels) fun y135 => bnd (tapp out_125 y135) fun y137 => some (.inl (y137, (IntKind.wrap .i64 (k + 1)))) : Option ((List GSpot × Int) ⊕ List GSpot)) = some (.inl (o', ((k + 1 : Nat) : Int))) /\ o'.length <= o.length + cZ L[k] /\ ∀ p ∈ o', SpO p := by
     intro out f hout;have c : Sm L[k].dirs := by
      have := gR gF (fun x => by rw [jF]; omega) L[k].dirs;show L[k].dirs.length < _; omega
     obtain ⟨r, m, E, B⟩ := aIW (b := lN s L k) L[k].dirs (fun dr => bnd (sD dr) fun p => aCC s p dr.args) gF SpO c (fun dr hdr => by
       obtain ⟨l, C, M⟩ := aKS dr;have := bG gF hdr;have e := jF dr;simp only [bkSl] at e;obtain ⟨r, q1, d, w⟩ := aN1 s h hb l (by omega) dr.args (by omega);exact ⟨r, by rw [C]; exact q1, by omega, w⟩) (fun out k' x h1 h2 => by
        simp only [lN, rC, g1, bF, h2, eS, h1, cx];cases sD x <;> rfl) (fun out => by simp [lN, rC, g1, cx]) out hout (by omega)
     obtain ⟨y, z, I, q⟩ := t (aK L[k].sels) (by omega) L[k].sels (by omega) (by omega) (iG s typ L[k]);have t1 : tapp r y = some (r ++ y) := gM (by simp [gY]; omega);refine ⟨r ++ y, by simp only [m, bF, g1, sM s typ _ h, z, t1, wadd (show k < 9223372036854775807 by omega)], by simp; omega, fun p hp => ?_⟩;rcases aa6.1 hp with hp | hp;· exact B p hp
     exact q p hp
    have step : ∃ o', iV s typ L (o, k) = some (.inl (o', ((k + 1 : Nat) : Int))) /\ o'.length <= o.length + cZ L[k] /\ ∀ p ∈ o', SpO p := by
     simp only [iV, rD, i, eS, g1, bF, cx];have hp : aHY s ⟨typ, L[k]⟩ = some (sK s typ L[k].name).1.params := aIr (by simp [aNt, aCP, aAp s _ _ h, bF, cx]);cases L[k].kind == 0;· obtain ⟨o', w1, w2⟩ := rest o (by omega) h2;simp [g1, bF] at w1;exact ⟨o', by simp [jN, pV, g1, bF, cx]; exact w1, w2⟩
     obtain ⟨a, D, G, j⟩ := aN1 s h hb _ (bAM s hb typ L[k].name) L[k].args (by omega);have t1 : tapp o a = some (o ++ a) := gM (by simp [gY]; omega);obtain ⟨o', w1, w2⟩ := rest (o ++ a) (by simp; omega) (fun p hp => by
      rcases aa6.1 hp with hp | hp;· exact h2 p hp
      exact j p hp)
     simp [g1, bF] at w1;exact ⟨o', by simp [eS, hp, bF, D, t1, pV, g1, cx]; exact w1, w2⟩
    obtain ⟨o', w1, w2, K⟩ := step;exact by grind)
   _ 0 [] rfl (by omega) ⟨by rw [bK]; simp, by simp⟩
  have A : cW (iV s typ L) ([], 0) = some r := e;exact ⟨r, aJK (by simp [aEI, A, cx]), q1, d⟩
def fw (w:GFrag->Nat) (fs:List GFrag) (n:Str):Nat:=match fs.find? (fun f=>f.name==n) with | some f=>w f | none=>0
theorem bIs w f fs n:fw w (f::fs) n=if f.name=n then w f else fw w fs n:=by
 unfold fw;grind
theorem aY0 w:∀ fs r,r.Nodup->sumL (fw w fs) r<=sumL w fs
 | [],r,_=>by
  have:sumL (fw w []) r=0:=aDD r fun a _=>rfl;omega
 | f::fs,r,c=>by
  have h:=aY0 w fs r c;have b:∀ r,r.Nodup->sumL (fw w (f::fs)) r<=(if f.name∈r then w f else 0)+sumL (fw w fs) r:=by
   intro r;induction r with
   | nil=>simp [sumL]
   | cons n r e =>
    have g:sumL (fw w (f::fs)) (n::r)=fw w (f::fs) n+sumL (fw w (f::fs)) r:=rfl;have d:sumL (fw w fs) (n::r)=fw w fs n+sumL (fw w fs) r:=rfl;rw [g,d,bIs];grind
  have i:sumL w (f::fs)=w f+sumL w fs:=rfl;grind
theorem bAN s (h:SOk s) (w:eH s<=100000000) d (L:dY d<=50000000) o (J:bkOp o<=50000000):∃ r,aPr s d o=some r/\r.length<=bkOp o+dY d/\∀ p∈r,SpO p:=by
 have m:aK o.sels<=bkOp o:=by rw [kN,bK];simp [bkSl];omega
 obtain ⟨v,I,K,x⟩:=aIX s h w _ o.sels (by omega) (by omega) (yK s o);obtain ⟨r,l,B,z,M,A,_⟩:=aAr d o.sels (by omega);have D:=cQ d;have G:=jE d;have t:=aY0 dQ d.frags r z;have i:∀ n∈r,aK (eJ d n).1.sels<=fw dQ d.frags n:=by
  intro n a;have:=((A n).1 a).2;unfold eJ at this ⊢;unfold fw;cases e:d.frags.find? (fun f=>f.name==n) with
  | none=>rw [e] at this;cases this
  | some f=>exact dE f
 have c:∀ n,fw dQ d.frags n<=sumL dQ d.frags:=by
  intro n;unfold fw;cases e:d.frags.find? (fun f=>f.name==n) with
  | none=>simp
  | some f=>exact bG dQ (by grind)
 obtain ⟨q,E,N,F⟩:=aIW (b:=vG s d r o) r (fun n=>tG s (eJ d n).1.on_ (eJ d n).1.sels) (fw dQ d.frags) SpO (by omega) (fun n a=>by
   have j:=i n a;have u:=c n;obtain ⟨y,H,O,C⟩:=aIX s h w _ (eJ d n).1.sels (by omega) (by omega) (eJ d n).1.on_;exact ⟨y,H,by omega,C⟩) (fun g k n j u=>by
    simp [vG,xX,u,j,yR d n (show d.frags.length<_ by omega),cx]) (fun g=>by simp [vG,xX,cx]) v x (by omega)
 exact ⟨q,aOu (by simp [aKp,aJZ,I,B,E,cx]),by omega,F⟩
theorem bAO:Ds 111 bAz:=by
 intro args a b;obtain ⟨v0,z,rfl,g,a⟩:=nM a;obtain ⟨w,c,rfl,n,a⟩:=nM a;obtain ⟨A,i,rfl,j,a⟩:=nM a;cases aIS a;obtain ⟨s,rfl⟩:=aIP g;obtain ⟨d,rfl⟩:=aYG n;obtain ⟨o,rfl⟩:=bJZ j;have ps:=rR b rfl (v:=fF s) (by simp);have x:=rR b rfl (v:=tB d) (by simp);have t:=rR b rfl (v:=cO o) (by simp);have k:=aBa s;have f:=aXd d;have m:=psOp o;unfold Nr at k f m;obtain ⟨r,c,i,l⟩:=bAN s ⟨by omega⟩ (by omega) d (by omega) o (by omega);refine ⟨_,by exact dW (enc:=fun r=>(eA r,[])) c,.one (.sl (fun e h => ?_) (by grind))⟩;obtain ⟨p,q,rfl⟩:=aah.1 h;obtain ⟨y,u⟩:=l p q;exact .ag (.cons (.str (by unfold topL;omega)) (.cons (.str (by unfold topL;omega)) (.cons (.int _ _) (.cons (.int _ _) (.cons (.bool _) .nil)))))
def aN3:Summ:=sN [eL6] [eL2]
def bIt:Cfg:=cf [] [(31,aN3,0)] 0 true [(3,lH (hD [0,1,1,0,0,0,0,0]) 2 1048576 [some 0]),(7,lH (hD [0,1,1,0,0,0,0,0]) 2 1048576 [some 2])]
theorem bIu:∀ x,x∈([(31,aN3,0)]:List (FuncId×Summ×Nat))->Dn x.1 x.2.1 :=
 aCn (fun x=>bIt) (all_cons ⟨rfl,rfl,rfl,sn',rfl,_,Tryz.func31,by kernel_rfl⟩ (aGK))
theorem aN4:Dn 31 aN3:=bIu (31,aN3,0) (by simp)
def aKT:Summ:=sN [eL11] [eL2]
theorem aKU:Dn 29 aKT:=df [(3,lH (hD [0,1,1]) 2 16777216 [some 0])] Tryz.func29 (sc' aN4 sn')
def aBb:Summ:=sN [eL10] [eL2]
def aUP:Cfg:=cf [(31,aN3),(29,aKT)] [(30,aBb,0)] 0 false [(3,lH (hD [0,1,1]) 2 16777216 [some 0])]
theorem aUQ:∀ x,x∈([(30,aBb,0)]:List (FuncId×Summ×Nat))->Dn x.1 x.2.1 :=
 aCn (fun x=>aUP) (all_cons ⟨rfl,rfl,rfl,(sc' aN4 (sc' aKU sn')),rfl,_,Tryz.func30,by kernel_rfl⟩ (aGK))
theorem aUR:Dn 30 aBb:=aUQ (30,aBb,0) (by simp)
theorem bFV:Dn 13 (sN [eL4] [eL0]):=df [(7,lH (hD [0,1,0,1,0,0]) 3 1048576 [some 2]),(3,lH (hD [0,1,1,0,0]) 2 1048576 [some 0]),(11,lH (hD [0,1,1,0,0]) 2 1048576 [some 4])] Tryz.func13 (sc' aKU (sc' aUR (sc' aN4 sn')))
theorem aRK:Dn 26 (sN [eL5] [eL2]):=df [(3,lH (hD [0,1,1]) 2 16777216 [some 0])] Tryz.func26 sn'
theorem aOO:Dn 27 (sN [eL7] [eL2]):=df [(3,lH (hD [0,1,1]) 2 16777216 [some 0])] Tryz.func27 (sc' aN4 sn')
theorem aUS:Dn 28 (sN [eL11] [eL2]):=df [(3,lH (hD [0,1,1]) 2 16777216 [some 0])] Tryz.func28 (sc' aN4 sn')
theorem bFW:Dn 12 (sN [eL1] [eL0]):=df [(8,lH (hD [0,1,0,0,1,0,0,0,0,0,0,0,0,0]) 4 1048576 [some 2]),(3,lH (hD [0,1,1,0,0,0]) 2 1048576 [some 0])] Tryz.func12 (sc' aRK (sc' aOO (sc' aUS sn')))
theorem bFX:Dn 48 (sN [eL4] [eL5]):=df [(3,lH (hD [0,2,1,0,0]) 2 1048576 [some 0])] Tryz.func48 sn'
theorem aRL:Dn 47 (sN [eL5] [eL0]):=df [(5,⟨(hD [0,0,0,1]),3,16777216,[(some 2,(hD [0,0,0,1])),(none,[.same,.lf .bool,.same,.lf (.int .i64)])]⟩),(2,⟨(hD [0,0,1]),2,16777216,[(some 0,(hD [0,0,1])),(none,[.same,.lf .bool,.lf (.int .i64)])]⟩)] Tryz.func47 sn'
theorem bFY:Dn 49 (sN [eL1,eL4] [eL0]):=df [(2,lH (hD [0,0,0,1,0,0,0,0,0]) 3 1048576 [some 0,none])] Tryz.func49 sn'
theorem aUT:Dn 50 (sN [eL4] [eL5]):=df [(3,lH (hD [0,2,1,0,0]) 2 1048576 [some 0])] Tryz.func50 sn'
theorem aUU:Dn 72 (sN [eL3] [eL0]):=df [] Tryz.func72 sn'
theorem aJ0:Dn 82 (sN [eL1,eL3] [eL14,eL0]):=df [(4,⟨(hD [0,0,0,0,1,0,0,0,0,0,0,0,0,0]),4,1048576,[(some 0,(hD [0,0,0,0,1,0,0,0,0,0,0,0,0,0])),(none,[.same,.same,.same,.lf .bool,.lf (.int .i64),.lf (.int .i64),.lf .str,.lf (.sl 0 1048576 false),.lf (.sl 4 1048576 false),.lf (.sl 0 1048576 false),.lf (.sl 5 1048576 false),.same,.same,.same])]⟩)] Tryz.func82 (sc' aUU sn')
theorem bFZ:Dn 75 (sN [eL1,eL3,eL2,eL2,eL2] [eL0]):=df [] Tryz.func75 (sc' aJ0 sn')
theorem aBc:Dn 81 (sN [eL1,eL3] [eL0]):=df [] Tryz.func81 (sc' bFZ sn')
theorem bF0:Dn 51 (sC [eL1,eL4] [eL0]):=dc 2 [(2,lH (hD [0,0,0,1,0,0,0,0,0]) 3 16777216 [some 0,none]),(8,lH (hD [0,0,0,1,0,0,0,0,0]) 3 16777216 [some 2,none])] Tryz.func51 (sc' aBc (sc' aIU sn'))
theorem bDK:Dn 32 (sN [eL4,eL3] [⟨true,[.str,.str,(.sl 8 1048576 false),(.sl 12 1048576 false)]⟩,eL0]):=df [(2,⟨(hD [0,0,0,0,1,0,0,0,0,0,0]),4,1048576,[(some 0,(hD [0,0,0,0,1,0,0,0,0,0,0])),(none,[.same,.same,.same,.lf .bool,.lf (.int .i64),.lf .str,.lf .str,.lf (.sl 8 1048576 false),.lf (.sl 12 1048576 false),.same,.same])]⟩)] Tryz.func32 sn'
theorem bF1:Dn 52 (sC [eL1,eL4] [eL0]):=dc 2 [(3,lH (hD [0,0,0,1,0,0,0,0,0]) 3 16777216 [some 0,none])] Tryz.func52 (sc' aIU (sc' bDK sn'))
theorem aKV:Dn 83 (sN [eL5,eL3] [eL0]):=df [(2,⟨(hD [0,0,0,1]),3,16777216,[(some 0,(hD [0,0,0,1])),(none,[.same,.same,.lf .bool,.lf (.int .i64)])]⟩)] Tryz.func83 sn'
theorem bF2:Dn 53 (sC [eL4] [eL0]):=dc 1 [(2,⟨(hD [0,0,1,0,0]),2,1048576,[(some 0,(hD [0,0,1,0,0])),(none,[.same,.lf .bool,.lf (.int .i64),.same,.same])]⟩)] Tryz.func53 (sc' aYU (sc' aKV sn'))
theorem bF3:Dn 54 (sC [eL4] [eL0]):=dc 1 [(6,lH [.same,.same,.lf .bool,.lf (.int .i64),.same,.same] 3 1048576 [some 2]),(2,⟨[.same,.any,.lf (.int .i64),.same,.same],2,1048576,[(some 0,[.same,.any,.lf (.int .i64),.same,.same]),(none,(hD [0,0,1,0,0]))]⟩)] Tryz.func54 (sc' aYU (sc' aKV sn'))
theorem aRM:Dn 84 (sN [eL1,eL3,eL3] [eL13,eL0]):=df [(7,⟨(hD [0,0,0,0,1,0,0,0,0,0,0,0,0,0,0,0,0,0,0,0]),4,1048576,[(some 0,(hD [0,0,0,0,1,0,0,0,0,0,0,0,0,0,0,0,0,0,0,0])),(none,[.same,.same,.lf .bool,.same,.lf (.int .i64),.same,.same,.same,.same,.same,.same,.lf .str,.lf (.sl 5 1048576 false),.lf .str,.lf (.int .i64),.lf (.int .i64),.lf (.sl 8 1048576 false),.same,.same,.same])]⟩)] Tryz.func84 (sc' aBc (sc' aJ0 sn'))
theorem aXh:Dn 80 (sN [eL1,eL3] [eL0]):=df [] Tryz.func80 (sc' bFZ sn')
theorem aN5:Dn 34 (sN [eL1,eL3] [eL0]):=df [] Tryz.func34 (sc' bFZ sn')
theorem aN6:Dn 137 (sN [eL1,eL3] [eL5]):=df [(8,lH (hD [0,0,2,1,0,0,0,0,0,0,0,0,0]) 3 1048576 [some 1]),(15,lH (hD [0,0,2,1,0,0,0,0,0,0,0,0,0]) 3 1048576 [some 3])] Tryz.func137 (sc' aJ0 (sc' aKV (sc' aN5 sn')))
theorem bF4:Dn 98 (sN [eL1,eL3,eL3] [eL0]):=df [(3,⟨(hD [0,0,0,1,0,0,0]),3,16777216,[(some 0,(hD [0,0,0,1,0,0,0])),(none,[.lf .bool,.same,.same,.lf (.int .i64),.same,.same,.same])]⟩)] Tryz.func98 (sc' aN6 (sc' aKV sn'))
theorem aUV:Dn 56 (sN [eL1,eL4,eL15,eL2] [eL0]):=df [] Tryz.func56 (sc' aRM (sc' aXh (sc' aBc (sc' bF4 (sc' bDK sn')))))
theorem aXi:Dn 99 (sC [eL1,eL4] [⟨false,[.sl 14 16777216 false]⟩]):=dc 2 [(3,lH [.same,.same,.acc 14 0 1,.lf (.int .i64),.same,.same,.same,.same,.same] 3 4194304 [some 0]),(7,lH [.same,.same,.acc 14 4194304 1,.lf (.int .i64),.same,.same,.same,.same,.same] 3 4194304 [some 2]),(12,lH [.acc 14 8388608 1,.same,.lf (.int .i64),.same,.same,.same,.same,.same] 2 4194304 [some 4])] Tryz.func99 (sc' aIU sn')
theorem aN7:Dn 100 (sN [eL3] [eL12,eL0]):=df [] Tryz.func100 sn'
theorem aXj:Dn 101 (sN [eL11] [eL5]):=df [(3,lH (hD [0,2,1]) 2 16777216 [some 0])] Tryz.func101 sn'
theorem bAP:Dn 57 (sC [eL1,eL4,eL2] [eL0]):=dc 3 [(6,lH (hD [0,0,0,0,0,1,0,0,0,0,0]) 5 16777216 [some 2,none]),(3,lH (hD [0,0,0,0,1,0,0,0,0,0]) 4 16777216 [some 0,none])] Tryz.func57 (sc' aXi (sc' aN7 (sc' aXj (sc' aRL sn'))))
theorem bDL:Dn 103 (sN [eL1,eL15] [eL7]):=df [] Tryz.func103 (sc' aRM sn')
theorem aY1:Dn 128 (sN [eL7,eL3] [eL12,eL0]):=df [(2,⟨(hD [0,0,0,0,1,0,0,0,0,0,0,0,0,0,0]),4,16777216,[(some 0,(hD [0,0,0,0,1,0,0,0,0,0,0,0,0,0,0])),(none,[.same,.same,.same,.lf .bool,.lf (.int .i64),.lf .str,.lf .str,.lf (.int .i64),.lf (.int .i64),.lf .bool,.lf (.int .i64),.lf (.int .i64),.lf .str,.lf (.sl 6 1048576 false),.lf (.sl 7 1048576 false)])]⟩)] Tryz.func128 sn'
theorem bF5:Dn 138 (sN [eL7,eL9] [eL0]):=df [(2,lH (hD [0,0,0,1]) 3 16777216 [some 0,none])] Tryz.func138 (sc' aY1 sn')
theorem bIv:Dn 139 (sN [eL9] [eL0]):=df [(5,lH (hD [0,0,0,1]) 3 16777216 [some 2,none]),(2,lH (hD [0,0,1]) 2 16777216 [some 0,none])] Tryz.func139 sn'
theorem bJ4:Dn 165 (sN [eL3,eL9] [eL6,eL0]):=df [(2,⟨(hD [0,0,0,0,1,0,0,0,0,0]),4,16777216,[(some 0,(hD [0,0,0,0,1,0,0,0,0,0])),(none,[.same,.same,.same,.lf .bool,.lf (.int .i64),.lf (.int .i64),.lf (.int .i64),.lf .str,.lf (.sl 6 1048576 false),.lf (.sl 7 1048576 false)])]⟩)] Tryz.func165 sn'
theorem bF6:Dn 89 (sN [⟨false,[(.int .u8)]⟩] [eL0]):=df [] Tryz.func89 sn'
theorem bF7:Dn 90 (sN [⟨false,[(.int .u8)]⟩] [eL0]):=df [] Tryz.func90 sn'
def aRN:Summ:=sN [eL3] [eL0]
theorem wY:Dn 42 aRN:=df [(4,lH (hD [0,0,1]) 2 1073741824 [some 0,none])] Tryz.func42 (sc' bF6 (sc' bF7 sn'))
theorem lV:Dn 45 (sN [eL8] [eL0]):=df [] Tryz.func45 (sc' wY sn')
theorem bIw:Dn 129 (sN [eL8] [eL0]):=df [] Tryz.func129 (sc' lV sn')
theorem bDM:Dn 140 (sN [eL7,eL9] [eL0]):=df [(2,lH (hD [0,0,0,1]) 3 16777216 [some 0,none])] Tryz.func140 (sc' bJ4 (sc' bIw sn'))
theorem aXk:Dn 102 (sN [eL7,eL9,eL2] [eL0]):=df [] Tryz.func102 (sc' bF5 (sc' bIv (sc' bDM sn')))
theorem aUW:Dn 104 (sN [⟨true,[.str,(.sl 7 1048576 false)]⟩] [eL7]):=df [] Tryz.func104 (sc' aN7 sn')
theorem bAQ:Dn 58 (sC [eL1,eL4,eL2] [eL0]):=dc 3 [(8,lH (hD [0,0,0,0,0,1,0,0,0,0,0]) 5 16777216 [some 2,none]),(3,lH (hD [0,0,0,0,1,0,0,0,0,0]) 4 16777216 [some 0,none])] Tryz.func58 (sc' aIU (sc' bDL (sc' aXk (sc' aUW sn'))))
theorem aXl:Dn 105 (sN [eL16] [eL5]):=df [(3,lH (hD [0,2,1]) 2 16777216 [some 0])] Tryz.func105 sn'
theorem bJ5:Dn 107 (sN [eL5,eL5] [eL0]):=df [(2,lH (hD [0,0,0,1]) 3 16777216 [some 0,none])] Tryz.func107 (sc' aKV sn')
theorem aY2:Dn 108 (sN [eL1,eL3] [eL0]):=df [] Tryz.func108 (sc' bFZ sn')
theorem bAR:Dn 59 (sC [eL1,eL4,eL2] [eL0]):=dc 3 [(9,lH (hD [0,0,0,0,0,0,1,0,0,0,0,0,0,0,0,0,0]) 6 1048576 [some 2,none]),(2,lH (hD [0,0,0,0,1,0,0,0,0,0]) 4 1048576 [some 0,none])] Tryz.func59 (sc' aXl (sc' bIq (sc' aRL (sc' bJ5 (sc' aY2 sn')))))
theorem bIx:Dn 17 (sC [eL1,eL4,⟨false,[.rng .i64 0 21]⟩] [eL0]):=dc 3 [(23,lH (hD [0,0,0,0,0,1,0,0,0,0,0]) 5 16777216 [some 1,none])] Tryz.func17 (sc' bFX (sc' aRL (sc' bFY (sc' aUT (sc' bF0 (sc' bF1 (sc' bF2 (sc' bF3 (sc' aIU (sc' aUV (sc' bAP (sc' bAQ (sc' bAR sn')))))))))))))
theorem aXm:Dn 113 (sN [eL16,eL3] [eL12]):=df [(2,⟨(hD [0,0,0,1,0,0,0,0,0,0,0,0,0,0]),3,16777216,[(some 0,(hD [0,0,0,1,0,0,0,0,0,0,0,0,0,0])),(none,[.same,.same,.same,.lf (.int .i64),.lf .str,.lf .str,.lf (.int .i64),.lf (.int .i64),.lf .bool,.lf (.int .i64),.lf (.int .i64),.lf .str,.lf (.sl 6 1048576 false),.lf (.sl 7 1048576 false)])]⟩)] Tryz.func113 sn'
theorem bIy:Dn 146 (sN [eL8] [eL8]):=df [] Tryz.func146 (sc' lV sn')
theorem aP3:Dn 147 (sN [eL8,eL8] [eL0]):=df [] Tryz.func147 (sc' lV sn')
theorem bAS:Dn 112 (sN [eL12,eL8,eL0] [eL0]):=df [] Tryz.func112 (sc' bIw (sc' bIy (sc' aP3 sn')))
theorem bDN:Dn 61 (sC [eL1,eL4] [eL0]):=dc 2 [(6,lH (hD [0,0,0,0,0,1,0,0,0,0,0]) 5 16777216 [some 2,none]),(2,lH (hD [0,0,0,1,0,0,0,0,0]) 3 16777216 [some 0,none])] Tryz.func61 (sc' bAO (sc' aXm (sc' bAS sn')))
def aUX:Summ:=sN [eL3] [eL2]
theorem bDO:Dn 167 aUX:=df [] Tryz.func167 (sc' bAH sn')
def aY3:Summ:=sN [eL3] [eL2,eL0]
theorem bF8:Dn 168 aY3:=df [(5,lH (hD [0,0,0,1,0,1]) 3 1073741824 [some 0,none])] Tryz.func168 sn'
def bDP:Summ:=sN [eL3] [eL0]
theorem bIz:Dn 169 bDP:=df [] Tryz.func169 (sc' bFN sn')
def aBd:Summ:=sN [eL6] [eL0]
def aUY:Cfg:=cf [(167,aUX),(168,aY3),(169,bDP),(42,aRN)] [(143,aBd,0)] 0 true [(25,lH (hD [0,0,1,0,0,0,0,0]) 2 1048576 [some 1,none]),(32,lH (hD [0,0,1,0,0,0,0,0]) 2 1048576 [some 3,none])]
theorem aUZ:∀ x,x∈([(143,aBd,0)]:List (FuncId×Summ×Nat))->Dn x.1 x.2.1 :=
 aCn (fun x=>aUY) (all_cons ⟨rfl,rfl,rfl,(sc' bDO (sc' bF8 (sc' bIz (sc' wY sn')))),rfl,_,Tryz.func143,by kernel_rfl⟩ (aGK))
theorem aKW:Dn 143 aBd:=aUZ (143,aBd,0) (by simp)
def aLQ:Summ:=sN [eL6] [eL2]
def bF9:Cfg:=cf [] [(131,aLQ,0)] 0 true [(4,lH (hD [0,1,1,0,0,0,0,0]) 2 1048576 [some 0]),(10,lH (hD [0,1,1,0,0,0,0,0]) 2 1048576 [some 2])]
theorem bGa:∀ x,x∈([(131,aLQ,0)]:List (FuncId×Summ×Nat))->Dn x.1 x.2.1 :=
 aCn (fun x=>bF9) (all_cons ⟨rfl,rfl,rfl,sn',rfl,_,Tryz.func131,by kernel_rfl⟩ (aGK))
theorem aY4:Dn 131 aLQ:=bGa (131,aLQ,0) (by simp)
def aLR:Summ:=sN [eL6] [eL0]
def bGb:Cfg:=cf [(42,aRN)] [(163,aLR,0)] 0 true [(2,lH (hD [0,0,1,0,0,0,0,0]) 2 1048576 [some 0,none]),(7,lH (hD [0,0,1,0,0,0,0,0]) 2 1048576 [some 2,none])]
theorem bGc:∀ x,x∈([(163,aLR,0)]:List (FuncId×Summ×Nat))->Dn x.1 x.2.1 :=
 aCn (fun x=>bGb) (all_cons ⟨rfl,rfl,rfl,(sc' wY sn'),rfl,_,Tryz.func163,by kernel_rfl⟩ (aGK))
theorem bGd:Dn 163 aLR:=bGc (163,aLR,0) (by simp)
theorem bGe:Dn 130 (sN [eL6] [eL0]):=df [] Tryz.func130 (sc' aKW (sc' aY4 (sc' bGd sn')))
theorem bIA:Dn 132 (sC [eL6] [eL5]):=dc 1 [] Tryz.func132 (sc' bIo sn')
theorem aIY:Dn 93 (sC [eL6,eL2,eL0] [eL0]):=dc 3 [] Tryz.func93 (sc' bGe (sc' aY4 (sc' bIA sn')))
def aE0:Summ:=sC [eL9,eL2,eL0] [eL0]
theorem aE1:Dn 91 aE0:=dc 3 [(2,lH (hD [0,0,0,0,1]) 4 16777216 [some 0,none])] Tryz.func91 (sc' wY (sc' aIY sn'))
def aKX:Summ:=sC [eL11,eL2,eL0] [eL0]
theorem aBe:Dn 43 aKX:=dc 3 [(2,lH (hD [0,0,0,0,1]) 4 16777216 [some 0,none])] Tryz.func43 (sc' wY (sc' aE1 sn'))
def wM:Summ:=sC [eL10,eL2] [eL0]
def aAs:Summ:=sC [⟨true,[(.int .i64),.str,.str,(.sl 7 1048576 false),(.sl 8 1048576 false),.str,(.sl 12 1048576 false)]⟩,eL2] [eL0]
def aU0:Cfg:=cg [] [(44,wM,0),(92,aAs,0)] 0 false [(4,lH (hD [0,0,0,1]) 3 16777216 [some 0,none])] 2
def aXn:Cfg:=cg [(43,aKX),(42,aRN),(91,aE0)] [(44,wM,0),(92,aAs,0)] 0 true [] 2
theorem aKY:∀ x,x∈([(44,wM,0),(92,aAs,0)]:List (FuncId×Summ×Nat))->Dn x.1 x.2.1 :=
 aCn (fun x=>if x.1=44 then aU0 else aXn) (all_cons ⟨rfl,rfl,rfl,sn',rfl,_,Tryz.func44,by kernel_rfl⟩ (all_cons ⟨rfl,rfl,rfl,(sc' aBe (sc' wY (sc' aE1 sn'))),rfl,_,Tryz.func92,by kernel_rfl⟩ (aGK)))
theorem aKZ:Dn 44 wM:=aKY (44,wM,0) (by simp)
theorem aXo:Dn 92 aAs:=aKY (92,aAs,0) (by simp)
def aN8:Summ:=sN [eL6,eL6] [eL0]
def aJ1:Summ:=sN [eL9,eL9] [eL0]
def bIB:Cfg:=cf [] [(94,aN8,0),(133,aJ1,0)] 0 true [(4,lH (hD [0,0,0,1,0,0,0,0,0,0,0,0,0,0]) 3 16777216 [some 0,none])]
def bAT:Cfg:=cf [] [(94,aN8,0),(133,aJ1,0)] 0 false [(4,lH (hD [0,0,0,1]) 3 16777216 [some 0,none])]
theorem bIC:∀ x,x∈([(94,aN8,0),(133,aJ1,0)]:List (FuncId×Summ×Nat))->Dn x.1 x.2.1 :=
 aCn (fun x=>if x.1=94 then bIB else bAT) (all_cons ⟨rfl,rfl,rfl,sn',rfl,_,Tryz.func94,by kernel_rfl⟩ (all_cons ⟨rfl,rfl,rfl,sn',rfl,_,Tryz.func133,by kernel_rfl⟩ (aGK)))
theorem bID:Dn 94 aN8:=bIC (94,aN8,0) (by simp)
theorem aAt:Dn 46 (sC [eL0,eL6] [eL0]):=dc 2 [] Tryz.func46 (sc' aIY (sc' bID sn'))
theorem bGf:Dn 16 (sC [eL4] [eL0]):=dc 1 [(8,lH (hD [0,0,0,0,1,0,0,0,0,0,0,0]) 4 1048576 [some 2,none]),(2,lH (hD [0,0,1,0,0]) 2 1048576 [some 0,none]),(13,lH (hD [0,0,1,0,0]) 2 1048576 [some 4,none])] Tryz.func16 (sc' wY (sc' aBe (sc' aKZ (sc' lV (sc' aAt sn')))))
theorem aXp:Dn 71 (sN [eL1] [eL5]):=df [(3,lH (hD [0,2,1,0,0,0]) 2 1048576 [some 0])] Tryz.func71 sn'
theorem aRO:Dn 160 (sN [eL5] [eL0]):=df [(2,lH (hD [0,0,1]) 2 16777216 [some 0,none])] Tryz.func160 (sc' wY sn')
theorem aGq:Dn 162 (sC [eL7] [eL0]):=dc 1 [(2,lH (hD [0,0,1]) 2 16777216 [some 0,none])] Tryz.func162 (sc' wY (sc' lV (sc' aAt sn')))
theorem aOP:Dn 161 (sC [⟨false,[.sl 4 16777216 false]⟩] [eL0]):=dc 1 [(2,lH (hD [0,0,1]) 2 16777216 [some 0,none])] Tryz.func161 (sc' wY (sc' aGq (sc' lV (sc' aBe sn'))))
theorem aXq:Dn 125 (sC [eL14] [eL0]):=dc 1 [] Tryz.func125 (sc' wY (sc' aRO (sc' aOP (sc' aGq (sc' aKV sn')))))
theorem aOQ:Dn 73 (sC [eL1] [eL0]):=dc 1 [(2,lH (hD [0,0,1,0,0,0]) 2 1048576 [some 0,none])] Tryz.func73 (sc' aXq (sc' wY sn'))
theorem bGg:Dn 126 (sN [eL3] [eL0]):=df [] Tryz.func126 sn'
theorem aY5:Dn 78 (sN [eL5] [eL0]):=df [(5,⟨(hD [0,0,0,1]),3,16777216,[(some 2,(hD [0,0,0,1])),(none,[.same,.lf .bool,.same,.lf (.int .i64)])]⟩),(2,⟨(hD [0,0,1]),2,16777216,[(some 0,(hD [0,0,1])),(none,[.same,.lf .bool,.lf (.int .i64)])]⟩)] Tryz.func78 sn'
theorem bG8:Dn 74 (sN [eL5] [eL0]):=df [(2,lH (hD [0,0,1]) 2 16777216 [some 0,none])] Tryz.func74 (sc' bGg (sc' aY5 sn'))
theorem bGh:Dn 33 (sC [eL1] [eL0]):=dc 1 [(3,lH (hD [0,0,0,1,0,0,0]) 3 16777216 [some 0,none])] Tryz.func33 (sc' aXp (sc' aUU (sc' aOQ (sc' bG8 sn'))))
theorem aRP:Dn 76 (sN [⟨false,[.sl 4 16777216 false]⟩] [eL5]):=df [(3,lH (hD [0,2,1]) 2 16777216 [some 0])] Tryz.func76 sn'
theorem aRQ:Dn 77 (sN [eL7] [eL5]):=df [(3,lH (hD [0,2,1]) 2 16777216 [some 0])] Tryz.func77 sn'
theorem bGi:Dn 35 (sN [eL1] [eL0]):=df [(8,lH (hD [0,0,0,0,1,0,0,0,0,0,0,0,0,0]) 4 1048576 [some 2,none]),(2,lH (hD [0,0,1,0,0,0]) 2 1048576 [some 0,none])] Tryz.func35 (sc' aRP (sc' bG8 (sc' aRQ (sc' aY5 sn'))))
theorem bAU:Dn 79 (sN [eL1,eL7] [eL0]):=df [(2,lH (hD [0,0,0,1,0,0,0]) 3 16777216 [some 0,none])] Tryz.func79 (sc' aY2 sn')
theorem bGj:Dn 36 (sN [eL1] [eL0]):=df [(8,lH (hD [0,0,0,0,1,0,0,0,0,0,0,0,0,0]) 4 1048576 [some 2,none]),(2,lH (hD [0,0,1,0,0,0]) 2 1048576 [some 0,none])] Tryz.func36 (sc' bAU (sc' aXh (sc' aBc sn')))
theorem bGk:Dn 37 (sN [eL1] [eL0]):=df [(12,lH (hD [0,0,0,0,0,0,1,0,0,0,0,0,0,0,0,0,0,0,0,0,0,0]) 6 1048576 [some 4,none]),(6,lH (hD [0,0,0,0,1,0,0,0,0,0,0,0,0,0]) 4 1048576 [some 2,none]),(2,lH (hD [0,0,1,0,0,0]) 2 1048576 [some 0,none])] Tryz.func37 (sc' aJ0 (sc' aKV sn'))
theorem bJ6:Dn 127 (sN [eL1,eL8,eL8] [eL0]):=df [] Tryz.func127 (sc' lV (sc' aP3 (sc' aJ0 (sc' aN6 (sc' aKV sn')))))
theorem bGl:Dn 85 (sN [eL1,eL13,eL13] [eL0]):=df [(4,lH (hD [0,0,0,1,0,0,0,0,0,0,0,0,0,0,0,0,0,0,0]) 3 1048576 [some 0,none]),(10,lH (hD [0,0,0,1,0,0,0,0,0,0,0,0,0,0,0,0,0,0,0]) 3 1048576 [some 2,none])] Tryz.func85 (sc' bJ6 (sc' aY1 (sc' bIw sn')))
theorem bGm:Dn 38 (sN [eL1] [eL0]):=df [(10,lH (hD [0,0,0,0,0,0,1,0,0,0,0,0,0,0,0,0,0,0,0,0,0,0]) 6 1048576 [some 4,none]),(6,lH (hD [0,0,0,0,1,0,0,0,0,0,0,0,0,0]) 4 1048576 [some 2,none]),(2,lH (hD [0,0,1,0,0,0]) 2 1048576 [some 0,none])] Tryz.func38 (sc' aJ0 (sc' aRM (sc' bGl sn')))
theorem bGn:Dn 39 (sN [eL1] [eL0]):=df [(5,lH (hD [0,0,0,1,0,0,0]) 3 1048576 [some 2,none]),(2,lH (hD [0,0,1,0,0,0]) 2 1048576 [some 0,none])] Tryz.func39 (sc' aN5 sn')
theorem aY6:Dn 109 (sC [eL1,eL8,eL6] [eL0]):=dc 3 [] Tryz.func109 (sc' lV (sc' aKW (sc' bFL sn')))
theorem aXr:Dn 87 (sC [eL1,eL7] [eL0]):=dc 2 [(2,lH (hD [0,0,0,1,0,0,0]) 3 16777216 [some 0,none])] Tryz.func87 (sc' aY6 sn')
theorem aN9:Dn 88 (sN [eL1,eL7] [eL0]):=df [(2,lH (hD [0,0,0,1,0,0,0]) 3 16777216 [some 0,none])] Tryz.func88 (sc' aXh sn')
theorem bGo:Dn 41 (sC [eL1] [eL0]):=dc 1 [(7,lH (hD [0,0,0,1,0,0,0]) 3 1048576 [some 2,none]),(2,lH (hD [0,0,1,0,0,0]) 2 1048576 [some 0,none])] Tryz.func41 (sc' aXr (sc' aN9 sn'))
theorem bIE:Dn 15 (sC [eL1,eL2] [eL0]):=dc 2 [] Tryz.func15 (sc' bGh (sc' aN5 (sc' bGi (sc' bGj (sc' bGk (sc' bGm (sc' bGn (sc' bFQ (sc' bGo sn')))))))))
theorem bGp:Dn 5 (sC [eL1] [eL2]):=dc 1 [(2,⟨(hD [0,0,1,0,0,0]),2,1048576,[(some 0,(hD [0,0,1,0,0,0])),(none,(hD [0,1,1,0,0,0]))]⟩)] Tryz.func5 (sc' bIE sn')
theorem aBy {τ} {v} (h:RsOk τ [⟨false,[.bool]⟩] v):∃ b,v = .bool b:=by
 cases h with | one h=>exact aRB h
theorem aU1 s (f:eH s<=1048576) t (c:aAJ t<=1048576) v (hv:bY v<=1048576):Te (aYu s t v):=by
 have h:=aBa s;have d:=aUD t;have e:=aJY v;unfold Nr at h d e;obtain ⟨r,a,g⟩:=aY6 [fF s,rJ t,aW v] (.cons (aIN s f) (.cons (bJU t c) (.cons (aRA v hv) .nil))) (.inr fun v hv=>by
  grind)
 obtain ⟨b,rfl⟩:=aBy g;simp [tys] at a;exact ⟨b,aHH (aG aC) a,trivial⟩
theorem aE2 s (f:eH s<=1048576) l (w:bkSl eG l<=1048569) m (k:bkSl aV m<=1048576):Te (aEg s l m):=by
 have c:Sm m:=aRH pA (by omega);have:Te (aOD s l m):=by
  refine Tt.bnd (Q:=fun _=>True) (Tt.idx m.length c fun i d u => ?_) fun o _=>Tt.elim (fun _ _=>Tt.ret trivial) fun _ _=>Tt.ret trivial;simp [aDl,aAi,cx];refine Tt.cnd (fun a=>Tt.nth ⟨d,pH a⟩ fun x n _ => ?_) fun _=>Tt.ret (Ix.r trivial);obtain ⟨p,h,q⟩:=aYY l x.name (by omega);refine Tt.eq h (Tt.nth ⟨d,pH a⟩ fun y hy _ => ?_);have:=bG aV hy;have e:=dG y;unfold bkSl at k;exact Tt.bnd (aU1 s f p.1.t (by omega) y.v (by omega)) fun b _=>Tt.cnd (fun _=>Tt.ret (Ix.r trivial)) fun _=>Tt.ret (Ix.lf a)
 obtain ⟨b,g,j⟩:=this;exact ⟨b,aLc g,j⟩
theorem aU2 s n:∀ t l,aK l<=n->∀ p∈tW s t l,cZ p.x<=n:=by
 induction n using Nat.strongRecOn with
 | _ n c =>
  intro t l;induction l with
  | nil=>intro _ p a;simp [tW] at a
  | cons x l b =>
   intro e p a;have d:aK (x::l)=cZ x+aK l:=by simp [bK,sumL]
   have:=gV x;simp only [tW,aYW] at a;rcases aa6.1 a with a | a
   ·rcases aa3.1 a with rfl | a;· grind
    have:=c (aK x.sels) (by omega) _ _ (by omega) p a;omega
   grind
theorem bDQ s d:∀ p∈aP0 s d,cZ p.x<=dY d:=by
 intro p a;have e:=mB d;simp [bkSl] at e;rcases aa6.1 a with a | a
 ·obtain ⟨o,c,a⟩:=aaE.1 a;have:=bG bkOp c;have g:aK o.sels<=bkOp o:=by rw [kN,bK];simp [bkSl];omega
  have:=aU2 s _ _ _ (by omega) p a;omega
 obtain ⟨f,b,a⟩:=aaE.1 a;have:=bG dQ b;have:=dE f;have:=aU2 s _ _ _ (by omega) p a;omega
theorem bG9 {α} {l:List α} {i:Int} (b:0<=i) (a:i<l.length):∃ y∈l,nthI l i=some y:=by
 have:=dF l i.toNat;grind
theorem bDR s (J:eH s<=1048576) d (P:dY d<=1048576):Te (aHT s d):=by
 have h:SOk s:=⟨by omega⟩;have M:=mB d;simp only [bkSl] at M;have j:Sm d.ops:=by
  have:=gR bkOp (fun x=>by rw [kN];omega) d.ops;show d.ops.length<_;omega
 have G:=aP2 s d;have m:∀ p:GSeineref13Spot,cZ p.x<=1048576->Sm p.x.dirs/\∀ c∈p.x.dirs,bkSl aV c.args<=1048576:=fun p n=>by
  have e:=eN p.x;simp only [bkSl] at e;have:=gR gF (fun x=>by rw [jF];omega) p.x.dirs;refine ⟨by show p.x.dirs.length<_;omega,fun c f => ?_⟩;have A:=bG gF f;have E:=jF c;simp only [bkSl] at E ⊢;omega
 have B:∀ c,Tt (fun l=>bkSl eG l<=1048569) (sD c):=fun c=>by
  obtain ⟨l,K,R⟩:=aKS c;exact ⟨l,K,by omega⟩
 have:Te (aNe s d):=by
  simp only [aNe,aGY,cx];refine Tt.bnd (Q:=fun _=>True) (Tt.idx d.ops.length j fun i w A => ?_) fun o _=>Tt.elim (fun _ _=>Tt.eq (aNZ s d h (by omega)) (Tt.bnd (Q:=fun _=>True) (Tt.idx (aP0 s d).length (by omega) fun i w A => ?_) fun o _=>Tt.elim (fun _ _=>Tt.ret trivial) fun _ _=>Tt.ret trivial)) fun _ _=>Tt.ret trivial;· simp only [aIb,aEs,cx];refine Tt.cnd (fun a=>Tt.bnd (Q:=fun _=>True) ?_ fun o _=>Tt.elim (fun _ _=>Tt.ret (Ix.lf a)) fun _ _=>Tt.ret (Ix.r trivial)) fun _=>Tt.ret (Ix.r trivial);obtain ⟨y,hy,e⟩:=bG9 w (pH a);have N:=bG bkOp hy;have I:=kN y;simp [bkSl] at I;have:=gR mA (fun x=>by rw [jB];omega) y.vars;refine Tt.idx y.vars.length (by omega) fun k g D => ?_;simp [aIa,aEr,cx];refine Tt.eq e (Tt.cnd (fun a=>Tt.eq e (Tt.nth ⟨g,pH a⟩ fun v hv _=>Tt.cnd (fun _ => ?_) fun _=>Tt.ret (Ix.lf a))) fun _=>Tt.ret (Ix.r trivial));have E:=bG mA hv;have O:=jB v;exact Tt.bnd (aU1 s (by omega) v.t (by omega) v.default (by omega)) fun b _=>Tt.cnd (fun _=>Tt.ret (Ix.r trivial)) fun _=>Tt.ret (Ix.lf a)
  simp [aId,aEt,cx];refine Tt.cnd (fun a => ?_) fun _=>Tt.ret (Ix.r trivial);obtain ⟨p,n,e⟩:=bG9 w (pH a);have H:=bDQ s d p n;obtain ⟨z,C⟩:=m p (by omega);have F:=eN p.x;simp [bkSl] at F;have u:aHY s p=some (sK s p.typ p.x.name).1.params:=aIr (by simp [aNt,aCP,aAp s _ _ h,bF,cx]);refine Tt.eq e (Tt.cnd (fun _=>Tt.eq e (Tt.eq u (Tt.eq e (Tt.bnd (aE2 s (by omega) _ (by have:=aN2 s J (by omega) p.typ p.x.name;omega) _ (by simp [bkSl];omega)) fun b _=>Tt.cnd (fun _=>Tt.ret (Ix.r trivial)) fun _=>Tt.bnd (Q:=fun _=>True) (Tt.idx p.x.dirs.length z fun k g D => ?_) fun o _=>Tt.elim (fun _ _=>Tt.ret (Ix.lf a)) fun _ _=>Tt.ret (Ix.r trivial))))) fun _=>Tt.bnd (Q:=fun _=>True) (Tt.idx p.x.dirs.length z fun k g D => ?_) fun o _=>Tt.elim (fun _ _=>Tt.ret (Ix.lf a)) fun _ _=>Tt.ret (Ix.r trivial));· simp [xU,vZ,cx];refine Tt.eq e (Tt.cnd (fun a=>Tt.eq e (Tt.nth ⟨g,pH a⟩ fun c _ _=>Tt.bnd (B c) fun l q=>Tt.eq e (Tt.nth ⟨g,pH a⟩ fun c f _ => ?_))) fun _=>Tt.ret (Ix.r trivial));exact Tt.bnd (aE2 s (by omega) l q _ (C c f)) fun b _=>Tt.cnd (fun _=>Tt.ret (Ix.r trivial)) fun _=>Tt.ret (Ix.lf a)
  simp [xU,vZ,cx];refine Tt.eq e (Tt.cnd (fun a=>Tt.eq e (Tt.nth ⟨g,pH a⟩ fun c _ _=>Tt.bnd (B c) fun l q=>Tt.eq e (Tt.nth ⟨g,pH a⟩ fun c f _ => ?_))) fun _=>Tt.ret (Ix.r trivial));exact Tt.bnd (aE2 s (by omega) l q _ (C c f)) fun b _=>Tt.cnd (fun _=>Tt.ret (Ix.r trivial)) fun _=>Tt.ret (Ix.lf a)
 obtain ⟨b,L,n⟩:=this;exact ⟨b,aRf L,n⟩
open Go Go.Ev
open Classical in
def eqC {α:Type} (a b:α):Bool:=decide (a=b)
theorem aDd {α} {a b:α}:eqC a b=true↔a=b:=by unfold eqC;simp
theorem bGq {α} (a:α):eqC a a=true:=aDd.2 rfl
theorem bGr {α} (a b:α):eqC a b=eqC b a:=by rw [Bool.eq_iff_iff,aDd,aDd];grind
theorem bGs {α} (x y:α) l m:eqC (x::l) (y::m)=(eqC x y&&eqC l m):=by
 rw [Bool.eq_iff_iff,aDd,aa0,aDd,aDd,aaf]
theorem aRR {α} {l m:List α} (h:l.length≠m.length):eqC l m=false:=by
 rw [Bool.eq_false_iff];intro a;exact h (by rw [aDd.1 a])
theorem aLS {α} {b:Int->Option (Int⊕(Unit⊕Unit))} (l m:List α) (n:Sm l) (d:l.length=m.length) (e:b l.length=some (.inr (.inl ())))
  (c:∀ (k:Nat) x y,x∈l->y∈m->decide ((k:Int)<l.length)=true->nthI l k=some x->nthI m k=some y->IntKind.wrap .i64 (k+1)=((k+1:Nat):Int)->b k=some (bif eqC x y then .inl ((k+1:Nat):Int) else .inr (.inr ()))) :
  cW b 0=some (bif eqC l m then .inl () else .inr ()):=by
 refine iJ (b:=b) l (fun k (_:List α)=>k) (fun r a=>bif eqC r a then (.inl ():Unit⊕Unit) else .inr ()) (fun k a=>a=m.drop k) n ?_ ?_ (s:=0) (a:=m) rfl rfl;· intro a f;rw [d,List.drop_length] at f;subst f;rw [e,bGq];rfl
 intro k x r a g q p j i h f;have o:m.drop k=m[k]::m.drop (k+1):=by simp
 rw [f,o,bGs];have:=c k x m[k] g (by simp) j i (by rw [dF];simp) h;grind
theorem aU3 {a b:Nat}:((a:Int) != b) = !(decide (a=b)):=by
 grind
theorem bIF l m (j : Sm l) (h : ∀ x ∈ l, ∀ y ∈ m, aBR x y = some (eqC x y)) : nK l m = some (eqC l m) := by
 apply aAw;simp [sJ, aU3, cx];by_cases a : l.length = m.length
 ·have c := aLS (b := fV l m) l m j a (by simp [fV, gK, cx])
   (fun k x y d hy i g f e => by
    simp only [fV, gK, i, g, f, e, bF, h x d y hy, cx];cases eqC x y <;> rfl)
  simp [a, c];cases eqC l m <;> rfl
 simp [a, aRR a]
theorem bIG l m (j : Sm l) (h : ∀ x ∈ l, ∀ y ∈ m, aEn x y = some (eqC x y)) : mG l m = some (eqC l m) := by
 apply aAk;simp [qT, aU3, cx];by_cases a : l.length = m.length
 ·have c := aLS (b := fJ l m) l m j a (by simp [fJ, fW, cx])
   (fun k x y d hy i g f e => by
    simp only [fJ, fW, i, g, f, e, bF, h x d y hy, cx];cases eqC x y <;> rfl)
  simp [a, c];cases eqC l m <;> rfl
 simp [a, aRR a]
theorem bJ7 (a b:GValue):eqC a b=(a.kind==b.kind&&(a.n==b.n&&(a.s==b.s&&(eqC a.l b.l&&eqC a.m b.m)))):=by
 obtain ⟨h,i,g,j,e⟩:=a;obtain ⟨b1,b2,f,d,c⟩:=b;rw [Bool.eq_iff_iff];simp [aDd]
theorem bJ8 (a b:GMember):eqC a b=(a.name==b.name&&eqC a.v b.v):=by
 obtain ⟨c,d⟩:=a;obtain ⟨b1,b2⟩:=b;rw [Bool.eq_iff_iff];simp [aDd]
theorem bJ9 {v n} (a:n<1073741824) (h:szV v<=n):Sm v.l/\Sm v.m:=by
 have:=aB8 v;have:=aLJ v.l;have:=aFE v.m;omega
theorem aOR:∀ n,n<1073741824->∀ a b,szV a<=n->aBR a b=some (eqC a b):=by
 intro n;induction n with
 | zero=>intro _ a b h;have:=aB8 a;omega
 | succ n d =>
  intro j a b h;obtain ⟨g,e⟩:=bJ9 j h;have i:=bIF a.l b.l g (fun x c y _=>d (by omega) x y (by have:=aIE c;have:=aB8 a;omega));have f:=bIG a.m b.m e (fun x c y _=>by
   have:=d (by omega) x.v y.v (by have:=aC9 c;have:=aID x;have:=aB8 a;omega);apply aLi;simp [aGn,this,bJ8,cx];cases x.name==y.name<;>rfl)
  apply aOG;simp [aKC,i,f,bJ7 a b,cx];cases a.kind==b.kind<;>cases a.n==b.n<;>cases a.s==b.s<;>cases eqC a.l b.l<;>rfl
theorem aRS a b (h:szV a<1073741824):aBR a b=some (eqC a b):=aOR _ h a b (by omega)
theorem bAV l m (j : Sm l) (h : ∀ x ∈ l, ∀ y ∈ m, aM4 x.v y.v = some (eqC x.v y.v)) : aJv l m = some (eqC l m) := by
 apply aOM;simp [aKO, aU3, cx];by_cases a : l.length = m.length
 ·have c := aLS (b := vO l m) l m j a (by simp [vO, yI, cx])
   (fun k x y d hy i g f e => by
    simp only [vO, yI, i, g, f, e, bF, h x d y hy, bJ8, cx];cases x.name == y.name <;> cases eqC x.v y.v <;> rfl)
  simp [a, c];cases eqC l m <;> rfl
 simp [a, aRR a]
theorem aU4 : ∀ n, n < 1073741824 -> ∀ a b , szV a <= n -> aM4 a b = some (eqC a b) := by
 intro n;induction n with
 | zero => intro _ a b h; have := aB8 a; omega
 | succ n i =>
  intro q a b h;obtain ⟨g, f⟩ := bJ9 q h;have p := bAV a.m b.m f (fun x d y _ => i (by omega) x.v y.v (by have := aC9 d; have := aID x; have := aB8 a; omega));apply aW4;rw [bJ7 a b];simp [bDa, aNM, aU3, cx];simp [bne];by_cases c : a.l.length = b.l.length
  ·have e := aLS (b := aC3 a b) a.l b.l g c (by simp [aC3, aFC, bBS, jN, cx])
    (fun k x y d hy g f o j => by
     simp only [aC3, aFC, g, f, o, j, bF, i (by omega) x y (by have := aIE d; have := aB8 a; omega), cx];cases eqC x y <;> rfl)
   simp [c, e, p];cases a.kind == b.kind <;> cases a.n == b.n <;> cases a.s == b.s <;> cases eqC a.l b.l <;> first | rfl | simp
  simp [c, aRR c];cases a.kind == b.kind <;> cases a.n == b.n <;> cases a.s == b.s <;> first | rfl | simp
theorem aXs a b (h:szV a<1073741824):aM4 a b=some (eqC a b):=aU4 _ h a b (by omega)
def getM (b:Str) (l:List GMember):GValue×Bool :=
 match l.findSome? (fun x=>bif x.name==b then some (Sum.inr (x.v.kind,x.v.n,x.v.s,x.v.l,x.v.m):Unit⊕(Int×Int×Str×(List GValue)×(List GMember))) else none) with
 | some (.inr p)=>(⟨p.1,p.2.1,p.2.2.1,p.2.2.2.1,p.2.2.2.2⟩,true)
 | _=>(⟨0,0,[],[],[]⟩,false)
theorem aRT a l (f : Sm l) : aMU a l = some (getM a l) := by
 have h := zH (b := yD a l) l (fun x => bif x.name == a then some (.inr (x.v.kind, x.v.n, x.v.s, x.v.l, x.v.m)) else none) (.inl ()) f (by simp [yD, aA2, cx])
  (fun k x g e d c => by
   simp only [yD, aA2, e, d, c, bF, cx];cases x.name == a <;> rfl)
 apply aRn;simp [aNv, h, getM, cx];cases i : l.findSome? (fun x => bif x.name == a then some (Sum.inr (x.v.kind, x.v.n, x.v.s, x.v.l, x.v.m) : Unit ⊕ (Int × Int × Str × (List GValue) × (List GMember))) else none) with
 | none => rfl
 | some q => cases q <;> rfl
theorem bAW a l (f : Sm l) : aTo a l = some (getM a l) := by
 have h := zH (b := uV a l) l (fun x => bif x.name == a then some (.inr (x.v.kind, x.v.n, x.v.s, x.v.l, x.v.m)) else none) (.inl ()) f (by simp [uV, aB7, cx])
  (fun k x g e d c => by
   simp only [uV, aB7, e, d, c, bF, cx];cases x.name == a <;> rfl)
 apply aJP;simp [aLI, h, getM, cx];cases i : l.findSome? (fun x => bif x.name == a then some (Sum.inr (x.v.kind, x.v.n, x.v.s, x.v.l, x.v.m) : Unit ⊕ (Int × Int × Str × (List GValue) × (List GMember))) else none) with
 | none => rfl
 | some q => cases q <;> rfl
def aOa (b:List GMember) (x:GMember):Bool:=(getM x.name b).2&&eqC x.v (getM x.name b).1
def aDn (a b:List GMember):Bool:=a.all (aOa b)&&decide (a.length=b.length)
theorem aOS a b (n : Sm a) (j : Sm b) (o : szMs a < 1073741824) : aGP a b = some (aDn a b) := by
 apply aNi;have h := aLx (b := tJ a b) a (fun r => bif r.all (aOa b) then (.inl () : Unit ⊕ Unit) else .inr ()) n (by simp only [tJ, vI, bBS, cx]; rfl)
  (fun k x r c g f d => by
   have i := aC9 c;have m := aID x;simp only [tJ, vI, g, f, d, bF, aRT x.name b j, aRS x.v (getM x.name b).1 (by omega), aaL, aOa, cx];cases (getM x.name b).2;· left; rfl
   cases eqC x.v (getM x.name b).1;· left; rfl
   right; exact ⟨rfl, rfl⟩)
 simp [aIf, h, aDn, cx];have e : ((a.length : Int) == b.length) = decide (a.length = b.length) := by by_cases l : a.length = b.length <;> simp [l]; omega
 cases a.all (aOa b);· rfl
 simp [e]
theorem aK0 a b (u : Sm a) (w : Sm b) (A : szMs b < 1073741824) : aLG a b = some (aDn a b) := by
 apply aUh;simp [bAq, aJT, aU3, aDn, cx];by_cases f : a.length = b.length
 ·have c : ∀ e, szV (getM e b).1 < 1073741824 := by
   intro e;unfold getM;cases o : b.findSome? (fun x => bif x.name == e then some (Sum.inr (x.v.kind, x.v.n, x.v.s, x.v.l, x.v.m) : Unit ⊕ (Int × Int × Str × (List GValue) × (List GMember))) else none) with
   | none => simp [szV, szVs, szMs]
   | some q =>
    cases q with
    | inl _ => simp [szV, szVs, szMs]
    | inr p =>
     obtain ⟨y, hy, d⟩ := List.exists_of_findSome?_eq_some o;have i := aC9 hy;have g := aID y;cases t : y.name == e <;> rw [t] at d;· simp at d
     simp at d;subst d;simp;have : (⟨y.v.kind, y.v.n, y.v.s, y.v.l, y.v.m⟩ : GValue) = y.v := by cases y.v; rfl
     rw [this]; omega
  have h := aLx (b := aA8 a b) a (fun r => bif r.all (aOa b) then (.inl () : Unit ⊕ Unit) else .inr ()) u (by simp only [aA8, aC8, bBS, cx]; rfl)
   (fun k x r z i g j => by
    simp only [aA8, aC8, i, g, j, bF, bAW x.name b w, aXs (getM x.name b).1 x.v (c _), aaL, aOa, bGr x.v, cx];cases (getM x.name b).2;· left; rfl
    cases eqC (getM x.name b).1 x.v;· left; rfl
    right; exact ⟨rfl, rfl⟩)
  simp [f, h];cases a.all (aOa b) <;> rfl
 simp [f]
def aGr (s:GSchema) (a b:GType):Bool :=
 bif a.lists != b.lists then false else bif a.musts != b.musts then false else bif iN s a.name [0,4] then a.name==b.name else bif iN s b.name [0,4] then a.name==b.name else iN s a.name [1,2,3]&&iN s b.name [1,2,3]
theorem aGs s a b (c:SOk s):aGQ s a b=some (aGr s a b):=by
 apply aNj;simp [aIg,aGr,bAs s _ c.sm,aEU s _ c.sm,cx];cases a.lists != b.lists<;>cases a.musts != b.musts<;>cases iN s a.name [0,4]<;>cases iN s b.name [0,4]<;>cases iN s a.name [1,2,3]<;>rfl
theorem aK1 s a b (c:SOk s):aRc s a b=some (aGr s a b):=by
 apply aUi;simp [aPQ,aGr,bAt s _ c.sm,aEV s _ c.sm,cx];cases a.lists != b.lists<;>cases a.musts != b.musts<;>cases iN s a.name [0,4]<;>cases iN s b.name [0,4]<;>cases iN s a.name [1,2,3]<;>rfl
def keyD (x:GSel):Str:=bif x.kind != 0 then [] else bif !(x.alias==[]) then x.alias else x.name
theorem wN x:aEc x=some (keyD x):=by
 apply aRd;simp only [aM7,keyD];cases x.kind != 0<;>cases x.alias==[]<;>rfl
theorem aFI x:bCL x=some (keyD x):=by
 apply bAo;simp only [aYy,keyD];cases x.kind != 0<;>cases x.alias==[]<;>rfl
theorem aCb x (h:cZ x<=4194304):Sm x.args/\szMs x.args<1073741824:=by
 rw [eN] at h;have a:=aNN x.args;rw [kD] at a;have b:bkSl aV x.args=sumL aV x.args+1:=rfl;have c:=aFE x.args;omega
inductive Ex (d:GDoc):List GSel->Nat->Prop
 | nil (n:Nat):Ex d [] n
 | cons {x:GSel} {l:List GSel} {a b c n:Nat}:Ex d x.sels a->(x.kind=1->Ex d (eJ d x.name).1.sels b)->Ex d l c->a+b+c+1<=n->Ex d (x::l) n
theorem Ex.mono {d l n m} (h:Ex d l n) (f:n<=m):Ex d l m:=by
 cases h with
 | nil=>exact .nil _
 | cons c b a e=>exact .cons c b a (by omega)
theorem Ex.len {d l n} (h:Ex d l n):l.length<=n:=by
 induction h with
 | nil=>simp
 | cons f c b a e i g=>grind
theorem Ex.mem {d l n} (h:Ex d l n) {x}:x∈l->∃ k,k<n/\Ex d x.sels k:=by
 induction h with
 | nil=>simp
 | cons f c b a e i g =>
  grind
inductive Fl (s:GSchema) (d:GDoc):Str->List GSel->List GSeineref13Spot->Prop
 | nil (t:Str):Fl s d t [] []
 | fld {t:Str} {x:GSel} {l:List GSel} {F:List GSeineref13Spot}:x.kind=0->Fl s d t l F->Fl s d t (x::l) (⟨t,x⟩::F)
 | inl {t:Str} {x:GSel} {l:List GSel} {G F:List GSeineref13Spot}:x.kind=2->Sm x.sels->Fl s d (iG s t x) x.sels G->Fl s d t l F->Fl s d t (x::l) (G++F)
 | spr {t:Str} {x:GSel} {l:List GSel} {G F:List GSeineref13Spot}:x.kind=1->Sm (eJ d x.name).1.sels->Fl s d (eJ d x.name).1.on_ (eJ d x.name).1.sels G->Fl s d t l F->Fl s d t (x::l) (G++F)
 | oth {t:Str} {x:GSel} {l:List GSel} {F:List GSeineref13Spot}:x.kind≠0->x.kind≠1->x.kind≠2->Fl s d t l F->Fl s d t (x::l) F
theorem Fl.eq {s d t l F} (h:Fl s d t l F):∀ {b},Fl s d t l b->F=b:=by
 induction h with
 | nil=>intro b a;cases a;rfl
 | fld c _ e=>intro b a;cases a<;>first | grind | grind
 | inl c _ _ _ f g=>intro b a;cases a<;>first | grind | grind
 | spr c _ _ _ f g=>intro b a;cases a<;>first | grind | grind
 | oth k j i _ e=>intro b a;cases a<;>first | grind | grind
section
variable {s : GSchema} {d : GDoc} (hs : SOk s) (hd : Sm d.frags)
include hs hd
theorem bKJ {l n} (h:Ex d l n):n<1000000->∀ t,∃ F,Fl s d t l F/\F.length<=n/\(∀ p∈F,p.x.kind=0/\∃ k,k<n/\Ex d p.x.sels k) /\
  ∀ g k e,Sm g->g.drop k=l->e.length+n<=2000000->cW (kH s d t g) (e,k)=some (e++F):=by
 induction h with
 | nil n =>
  intro _ t;refine ⟨[],.nil t,by simp,by simp,fun g k e j z h2 => ?_⟩;apply cG;simp only [kH,oZ,dr0 z,jN,aac,cx]
 | @cons x l a b c n z h2 h3 h4 i1 i2 i3 =>
  intro hn t;obtain ⟨F,C,f2,D,E⟩:=i3 (by omega) t;have i:∀ {G:List GSeineref13Spot} {m:Nat},m<n->(∀ p∈G,p.x.kind=0/\∃ k,k<m/\Ex d p.x.sels k)->∀ p∈G,p.x.kind=0/\∃ k,k<n/\Ex d p.x.sels k:=fun hm hG p f=>by
   obtain ⟨q1,k,q2,q3⟩:=hG p f;exact ⟨q1,k,by omega,q3⟩
  have o:∀ {I:Str} {m:List GSel} {k} {G},k<1000000->Ex d m k->(∀ g k' e,Sm g->g.drop k'=m->e.length+k<=2000000->cW (kH s d I g) (e,k')=some (e++G))->aEm s d I m=some G:=by
   intro I m k G q hm hl;apply aIy;have hsm:Sm m:=by show m.length<_;have:=hm.len;omega
   have:=hl m 0 [] hsm (by simp) (by simp;omega);simp only [aW0,aCY,cx];rw [show ((0:Int))=((0:Nat):Int) from rfl,this];simp
  by_cases A:x.kind=0
  ·refine ⟨⟨t,x⟩::F,.fld A C,by simp [aaV];omega,?_,fun g k e j q ho => ?_⟩
   ·intro p f;rcases aa3.1 f with rfl | f;· exact ⟨A,a,by omega,z⟩
    ·exact i (by omega) D p f
   ·obtain ⟨u,v,w,r⟩:=dr j q;rw [fL (s':=(e++[⟨t,x⟩],((k+1:Nat):Int))) ?_,E g (k+1) _ j w (by simp;omega)];· simp
    ·have:tapp e [GSeineref13Spot.mk t x]=some (e++[⟨t,x⟩]):=gM (by simp [gY];omega);simp only [kH,oZ,u,eS,v,bF,A,beq_self_eq_true,this,r,cx]
  ·have b0:(x.kind==0)=false:=by simpa using A
   by_cases B:x.kind=2
   ·obtain ⟨G,g1,g2,g3,g4⟩:=i1 (by omega) (iG s t x);have H:=o (by omega) z g4;refine ⟨G++F,.inl B (by show x.sels.length<_;have:=z.len;omega) g1 C,by simp;omega,?_,fun g k e j q ho => ?_⟩
    ·intro p f;rcases aa6.1 f with f | f;· exact i (by omega) g3 p f
     ·exact i (by omega) D p f
    ·obtain ⟨u,v,w,r⟩:=dr j q;rw [fL (s':=(e++G,((k+1:Nat):Int))) ?_,E g (k+1) _ j w (by simp;omega)];· simp
     have:tapp e G=some (e++G):=gM (by simp [gY];omega);simp only [kH,oZ,u,eS,v,bF,b0,jN,B,beq_self_eq_true,sM s t x hs,H,this,r,cx];rfl
   ·have b2:(x.kind==2)=false:=by simpa using B
    by_cases y:x.kind=1
    ·obtain ⟨G,g1,g2,g3,g4⟩:=i2 y (by omega) (eJ d x.name).1.on_;have H:=o (by omega) (h2 y) g4;refine ⟨G++F,.spr y (by show (eJ d x.name).1.sels.length<_;have:=(h2 y).len;omega) g1 C,by simp;omega,?_,fun g k e j q ho => ?_⟩
     ·intro p f;rcases aa6.1 f with f | f;· exact i (by omega) g3 p f
      exact i (by omega) D p f
     obtain ⟨u,v,w,r⟩:=dr j q;rw [fL (s':=(e++G,((k+1:Nat):Int))) ?_,E g (k+1) _ j w (by simp;omega)];· simp
     have:tapp e G=some (e++G):=gM (by simp [gY];omega);simp only [kH,oZ,u,eS,v,bF,b0,b2,jN,y,beq_self_eq_true,yR d x.name hd,H,this,r,cx];rfl
    have b1:(x.kind==1)=false:=by simpa using y
    refine ⟨F,.oth A y B C,by omega,i (by omega) D,fun g k e j q ho => ?_⟩;obtain ⟨u,v,w,r⟩:=dr j q;rw [fL (s':=(e,((k+1:Nat):Int))) ?_,E g (k+1) _ j w (by omega)];simp only [kH,oZ,u,eS,v,bF,b0,b1,b2,jN,r,cx]
theorem aAu {l n} (h:Ex d l n) (g:n<1000000) t:∃ F,Fl s d t l F/\F.length<=n/\(∀ p∈F,p.x.kind=0/\∃ k,k<n/\Ex d p.x.sels k)/\aEm s d t l=some F:=by
 obtain ⟨F,f,b,e,c⟩:=bKJ hs hd h g t;refine ⟨F,f,b,e,?_⟩;apply aIy;have:=c l 0 [] (by have:=h.len;omega) (by simp) (by grind);simp [aCY,cx];simp_all
end
abbrev Spot:=GSeineref13Spot
abbrev wT (s:GSchema) (p:Spot):Str:=iG s p.typ p.x
abbrev fT (s:GSchema) (p:Spot):GType:=(sK s p.typ p.x.name).1.t
section
variable {s : GSchema} {d : GDoc} (hs : SOk s) (hd : Sm d.frags)
include hs hd
theorem aU5 {a b n} (c:n<1000000) (f:Ex d a.x.sels n) (h:Ex d b.x.sels n) :
  ∃ F G,Fl s d (wT s a) a.x.sels F/\Fl s d (wT s b) b.x.sels G/\aLH s d a b=some (F++G)/\(F++G).length<=2*n/\∀ p∈F++G,∃ k,k<n/\Ex d p.x.sels k:=by
 obtain ⟨F,i,j,l,g⟩:=aAu hs hd f c (wT s a);obtain ⟨G,g1,g2,m,e⟩:=aAu hs hd h c (wT s b);refine ⟨F,G,i,g1,?_,by grind,fun p o => ?_⟩;· apply aKP;have:tapp F G=some (F++G):=gM (by simp [gY];omega);simp [aFD,sM s _ _ hs,g,e,this,cx]
 grind
theorem aP4 n:n<1000000->∀ a b:Spot,Ex d a.x.sels n->Ex d b.x.sels n->∃ r,qO s d a b=some r /\
  (r=true->keyD a.x=keyD b.x->aGr s (fT s a) (fT s b)=true/\∃ F G,Fl s d (wT s a) a.x.sels F/\Fl s d (wT s b) b.x.sels G/\(F++G).Pairwise fun p q=>qO s d p q=some true):=by
 induction n using Nat.strongRecOn with
 | _ n v =>
  intro t a b u z;obtain ⟨F,G,H,g1,w,D,g⟩:=aU5 hs hd t u z;have c:∀ x∈F++G,∀ y∈F++G,∃ r,qO s d x y=some r:=by
   intro x m y hy;obtain ⟨k,C,l⟩:=g x m;obtain ⟨j,B,i⟩:=g y hy;obtain ⟨r,h,_⟩:=v (max k j) (by omega) (by omega) x y (l.mono (by omega)) (i.mono (by omega));exact ⟨r,h⟩
  obtain ⟨e,o,A⟩:=bG7 (b1:=aC6 s d (F++G)) (b2:=yJ s d (F++G) a b (sK s a.typ a.x.name) (sK s b.typ b.x.name)) (F++G) (qO s d) (by omega) c (fun _ _=>by simp [aC6,aER,cx]) (fun _=>by simp [yJ,aES,cx]);have f:aHg s d a b=some (bif !(keyD a.x==keyD b.x) then true else bif !aGr s (fT s a) (fT s b) then false else match e with | .inl _=>true | .inr _=>false):=by
   simp [aHg,aC7,aFI,aAp s _ _ hs,aK1 s _ _ hs,w,o,cx];cases keyD a.x==keyD b.x;· rfl
   cases aGr s (fT s a) (fT s b);· rfl
   cases e<;>rfl
  refine ⟨_,aIC f,fun h E => ?_⟩;grind
theorem bIH (j:dY d<=4194304) {t l} {F:List Spot} (h:Fl s d t l F):aK l<=4194304->∀ p∈F,cZ p.x<=4194304:=by
 have b:∀ x l,aK (x::l)<=4194304->cZ x<=4194304/\aK x.sels<=4194304/\aK l<=4194304:=by
  intro x l h;rw [bK] at h;simp [sumL] at h;have:=gV x;rw [<- bK] at h;omega
 induction h with
 | nil=>simp
 | fld f _ g =>
  grind
 | inl f _ _ _ c i =>
  grind
 | @spr t x l G F f _ _ _ c i =>
  intro k p a;rcases aa6.1 a with a | a
  ·refine c ?_ p a;cases e:(eJ d x.name).2
   ·unfold eJ at e ⊢;split at e;· cases e
    rw [bK];simp [sumL]
   have:=bG dQ (qW e).1;have:=cQ d;have:=dE (eJ d x.name).1;omega
  grind
 | oth _ _ _ _ g=>grind
theorem aP5 {l:List Spot} (f:l.length<1000000000) (a:∀ x∈l,∀ y∈l,∃ r,fI s d x y=some r):∃ r,aH1 s d l=some r/\(r=true->l.Pairwise fun p q=>fI s d p q=some true):=by
 obtain ⟨e,b,c⟩:=bG7 (b1:=aCZ s d l) (b2:=yG s d l) l (fI s d) (by omega) a (fun _ _=>by simp [aCZ,aEN,cx]) (fun _=>by simp [yG,aEO,cx]);cases e with
 | inl u=>exact ⟨true,aC1 (by simp only [aC0,b,cx];rfl),fun _=>c rfl⟩
 | inr u=>exact ⟨false,aC1 (by simp only [aC0,b,cx];rfl),fun h=>by cases h⟩
def Tog (s:GSchema) (d:GDoc) (a b:Spot):Prop:=qO s d a b=some true/\((a.typ≠b.typ/\iN s a.typ [1]=true/\iN s b.typ [1]=true)∨(a.x.name=b.x.name/\aDn a.x.args b.x.args=true/\∃ F G,Fl s d (wT s a) a.x.sels F/\Fl s d (wT s b) b.x.sels G/\(F++G).Pairwise fun p q=>fI s d p q=some true))
theorem aK2 (q:dY d<=4194304) n:n<1000000->∀ a b:Spot,cZ a.x<=4194304->cZ b.x<=4194304->Ex d a.x.sels n->Ex d b.x.sels n->∃ r,fI s d a b=some r/\(r=true->keyD a.x=keyD b.x->Tog s d a b):=by
 induction n using Nat.strongRecOn with
 | _ n H =>
  intro t a b N v B C;obtain ⟨F,G,K,g1,I,R,z⟩:=aU5 hs hd t B C;have sz:∀ p∈F++G,cZ p.x<=4194304:=fun p g=>by
   have:=gV a.x;have:=gV b.x;rcases aa6.1 g with g | g;· exact bIH hs hd q K (by omega) p g
   exact bIH hs hd q g1 (by omega) p g
  obtain ⟨m,M,O⟩:=aP5 hs hd (l:=F++G) (by omega) (fun x w y hy=>by
   obtain ⟨k,Q,D⟩:=z x w;obtain ⟨j,P,E⟩:=z y hy;obtain ⟨r,c,_⟩:=H (max k j) (by omega) (by omega) x y (sz x w) (sz y hy) (D.mono (by omega)) (E.mono (by omega));exact ⟨r,c⟩)
  obtain ⟨r,u,_⟩:=aP4 hs hd n t a b B C;have i:=hs.sm;have o:aIB s d a b=some (bif !(keyD a.x==keyD b.x) then true else bif !r then false else bif !(a.typ==b.typ)&&iN s a.typ [1]&&iN s b.typ [1] then true else bif a.x.name==b.x.name then (bif aDn a.x.args b.x.args then m else false) else false):=by
   simp [aIB,yH,qU,aFI,bF,u,aUl s _ i,aK0 a.x.args b.x.args (aCb a.x N).1 (aCb b.x v).1 (aCb b.x v).2,I,M,cx];cases keyD a.x==keyD b.x<;>cases r<;>cases a.typ==b.typ<;>cases iN s a.typ [1]<;>cases iN s b.typ [1]<;>cases a.x.name==b.x.name<;>cases aDn a.x.args b.x.args<;>rfl
  refine ⟨_,aEQ o,fun c J => ?_⟩;rw [J,beq_self_eq_true] at c;cases r;· simp at c
  ·refine ⟨u,?_⟩;cases h:a.typ==b.typ
   ·cases A:iN s a.typ [1]
    ·rw [h,A] at c;cases e:a.x.name==b.x.name;· rw [e] at c;simp at c
     cases f:aDn a.x.args b.x.args;· rw [e,f] at c;simp at c
     rw [e,f] at c;exact by grind
    cases L:iN s b.typ [1]
    ·rw [h,A,L] at c;cases e:a.x.name==b.x.name;· rw [e] at c;simp at c
     cases f:aDn a.x.args b.x.args;· rw [e,f] at c;simp at c
     rw [e,f] at c;exact by grind
    exact by grind
   rw [h] at c;cases e:a.x.name==b.x.name;· rw [e] at c;simp at c
   cases f:aDn a.x.args b.x.args;· rw [e,f] at c;simp at c
   rw [e,f] at c;exact by grind
theorem aOb (hB : dY d <= 4194304) n : n < 1000000 -> ∀ t l, aK l <= 4194304 -> Ex d l n -> ∃ r, nP s d t l = some r /\
  (r = true -> (∃ F, Fl s d t l F /\ F.Pairwise fun p q => fI s d p q = some true) /\ ∀ x ∈ l, x.sels ≠ [] -> nP s d (iG s t x) x.sels = some true) := by
 induction n using Nat.strongRecOn with
 | _ n g =>
  intro f t l G h;obtain ⟨F, f1, H, f3, f4⟩ := aAu hs hd h f t;have sz := bIH hs hd hB f1 G;obtain ⟨m, m1, w⟩ := aP5 hs hd (l := F) (by omega) (fun x hx y hy => by
   obtain ⟨k, J, k2⟩ := (f3 x hx).2;obtain ⟨j, I, j2⟩ := (f3 y hy).2;obtain ⟨r, hr, _⟩ := aK2 hs hd hB (max k j) (by omega) x y (sz x hx) (sz y hy) (k2.mono (by omega)) (j2.mono (by omega));exact ⟨r, hr⟩)
  have i : Sm l := by show l.length < _; have := h.len; omega
  have part : ∀ x ∈ l, aK x.sels <= 4194304 /\ ∃ k, k < n /\ Ex d x.sels k := by
   intro x hx;have := pX hx;have := gV x;exact ⟨by omega, h.mem hx⟩
  obtain ⟨e, c, B⟩ := jK (b := wJ s d t l) l (fun k (_ : Unit) => k) (fun k _ => ∀ j (hj : j < k) v, l[j].sels ≠ [] -> nP s d (iG s t l[j]) l[j].sels = some true) (fun r => r = .inl () -> ∀ x ∈ l, x.sels ≠ [] -> nP s d (iG s t x) x.sels = some true)
   (by
    intro _ hJ;refine ⟨.inl (), by simp [wJ, aCQ, cx], fun _ x hx => ?_⟩;obtain ⟨j, hj, rfl⟩ := ab0 hx;exact hJ j hj hj)
   (by
    intro k x _ o hx hJ;have g1 : nthI l k = some l[k] := by rw [dF]; exact by simp
    have D : decide ((k : Int) < l.length) = true := by simp; omega
    have next : ∀ (hp : l[k].sels ≠ [] -> nP s d (iG s t l[k]) l[k].sels = some true), ∀ j (hj : j < k + 1) v, l[j].sels ≠ [] -> nP s d (iG s t l[j]) l[j].sels = some true := by
     intro hp j hj hl';rcases aaG j k with h | h;· exact hJ j h hl'
     have : j = k := by omega
     subst this; exact hp
    simp only [wJ, aCQ, D, eS, g1, bF, wadd (show k < 9223372036854775807 by omega), sM s t _ hs, cx];cases a : decide ((l[k].sels.length : Int) > 0);· refine .inr ⟨(), by simp, next fun h => ?_⟩;exact absurd (by simpa using a) h
    obtain ⟨z, j, E, C⟩ := part l[k] (aaK o);obtain ⟨r, hr, _⟩ := g j E (by omega) (iG s t l[k]) l[k].sels z C;simp only [eS, hr, bF];cases r;· exact by simp
    exact .inr ⟨(), rfl, next fun _ => hr⟩)
   _ 0 () rfl (by omega) (by omega)
  have e1' : cW (wJ s d t l) 0 = some e := c;cases m with
  | false => exact ⟨false, aEG (by simp only [aZ9, aB0, f4, bF, m1, cx]; rfl), fun h => by cases h⟩
  | true =>
   cases e with
   | inl u => exact ⟨true, aEG (by simp only [aB0, f4, bF, m1, e1', cx]; rfl), fun _ => ⟨⟨F, f1, w rfl⟩, B rfl⟩⟩
   | inr u => exact ⟨false, aEG (by simp only [aB0, f4, bF, m1, e1', cx]; rfl), fun h => by cases h⟩
theorem aY7 {α} {b : Int -> Option (Int ⊕ (Unit ⊕ Unit))} l (f : α -> Option Bool) (p : Sm l) (g : ∀ x ∈ l, ∃ r, f x = some r)
  (o : ∀ k x, nthI l k = some x -> decide (k < l.length) = true -> b k = bnd (f x) fun r => cnd (!r) (some (.inr (.inr ()))) (some (.inl (IntKind.wrap .i64 (k + 1))))) (s : ∀ k, decide (k < (l.length : Int)) = false -> b k = some (.inr (.inl ()))) :
  ∃ r, cW b 0 = some r /\ (r = .inl () -> ∀ x ∈ l, f x = some true) := by
 obtain ⟨e, t, q⟩ := jK (b := b) l (fun k (_ : Unit) => k) (fun k _ => ∀ j (d : j < k) p, f l[j] = some true) (fun r => r = .inl () -> ∀ x ∈ l, f x = some true)
  (by
   intro _ m;refine ⟨.inl (), by grind, fun _ x c => ?_⟩;obtain ⟨j, d, rfl⟩ := ab0 c;grind)
  (by
   intro k x _ u c m;have g1 : nthI l k = some l[k] := by rw [dF]; simp
   have i : decide ((k : Int) < l.length) = true := by grind
   obtain ⟨r, h⟩ := g l[k] (by simp);rw [o _ _ g1 i];simp only [h, wadd (show k < 9223372036854775807 by omega)];cases r;· simp
   refine .inr ⟨(), rfl, fun j d n => ?_⟩;grind)
  _ 0 () rfl (by omega) (by simp)
 grind
theorem aP6 (m:dY d<=4194304) (w:∀ o∈d.ops,∃ n,n<1000000/\Ex d o.sels n) (t:∀ f∈d.frags,∃ n,n<1000000/\Ex d f.sels n) (b1:∀ o∈d.ops,aK o.sels<=4194304) (b2:∀ f∈d.frags,aK f.sels<=4194304) (v:Sm d.ops) :
  ∃ r,tD s d=some r/\(r=true->(∀ o∈d.ops,nP s d (yK s o) o.sels=some true)/\∀ f∈d.frags,nP s d f.on_ f.sels=some true):=by
 obtain ⟨e,c,q⟩:=aY7 hs hd (b:=xV s d) d.ops (fun o=>nP s d (yK s o) o.sels) v (fun o h=>by
   obtain ⟨n,a,l⟩:=w o h;obtain ⟨r,p,_⟩:=aOb hs hd m n a (yK s o) o.sels (b1 o h) l;grind)
  (fun k x j i=>by simp [xV,aAT,i,eS,j,bF,aJZ,cx]) (fun k h=>by simp [xV,aAT,h,jN,cx])
 obtain ⟨g,g1,g2⟩:=aY7 hs hd (b:=xW s d) d.frags (fun f=>nP s d f.on_ f.sels) hd (fun f h=>by
   obtain ⟨n,a,l⟩:=t f h;obtain ⟨r,p,_⟩:=aOb hs hd m n a f.on_ f.sels (b2 f h) l;grind)
  (fun k x j i=>by simp [xW,aAU,i,j,cx]) (fun k h=>by simp [xW,aAU,h,cx])
 cases e with
 | inr u=>exact ⟨false,aCJ (by simp only [aCI,c,cx];rfl),fun h=>by cases h⟩
 | inl u =>
  cases g with
  | inr u=>exact ⟨false,aCJ (by simp only [aCI,c,g1,cx];rfl),fun h=>by cases h⟩
  | inl u=>exact ⟨true,aCJ (by simp [aCI,c,g1,cx]),fun _=>⟨q rfl,g2 rfl⟩⟩
end
abbrev Item:=GMergeItem
abbrev sp (a:Item):Spot:=⟨a.typ,a.x⟩
structure Env (s:GSchema) (d:GDoc) (U:Item->Prop) (fr:List (Str×List Item)):Prop where
 sub:∀ a,U a->(∀ b∈a.sub,U b/\b.typ=wT s (sp a))/\a.sub.map (·.x)=a.x.sels
 frag:∀ n,(∀ b∈(qF n [] fr).1,U b/\b.typ=(eJ d n).1.on_)/\(qF n [] fr).1.map (·.x)=(eJ d n).1.sels
 num:∀ a b,U a->U b->a.no=b.no->a=b
 bk:∀ a,U a->cZ a.x<=4194304
section
variable {s : GSchema} {d : GDoc} {U : Item -> Prop} {fr : List (Str × List Item)} (E : Env s d U fr)
include E
theorem bDS (D : List GDef) (q m : Str) (no : Int) (sh pr : List ((Int × Int) × Bool)) {t : Str} {l : List GSel} {F : List Spot} (h : Fl s d t l F) : ∀ (n : List Item) (k : Nat) (j : List Item) (i : List (Str × Bool)), Sm n -> (n.drop k).map (·.x) = l -> (∀ a ∈ n, U a /\ a.typ = t) -> j.length + F.length <= 2000000 ->
  ∃ o c, cW (cL n D q m no fr sh pr) (j, (k : Int), i) = some (j ++ o, c) /\ (o.map sp).Sublist F /\ (∀ a ∈ o, U a) /\ ((n.drop k).filter fun a => a.x.kind == 0).Sublist o := by
 have I : ∀ {t' : Str} {l' : List GSel} {G : List Spot} (l1 : List Item) (i : List (Str × Bool)),
   (∀ (n : List Item) (k : Nat) (j : List Item) (i : List (Str × Bool)), Sm n -> (n.drop k).map (·.x) = l' -> (∀ a ∈ n, U a /\ a.typ = t') -> j.length + G.length <= 2000000 ->
    ∃ o c, cW (cL n D q m no fr sh pr) (j, (k : Int), i) = some (j ++ o, c) /\ (o.map sp).Sublist G /\ (∀ a ∈ o, U a) /\ ((n.drop k).filter fun a => a.x.kind == 0).Sublist o) ->
   Sm l1 -> l1.map (·.x) = l' -> (∀ a ∈ l1, U a /\ a.typ = t') -> G.length <= 2000000 -> ∃ o c, gO l1 D q m no fr sh pr i = some (o, c) /\ (o.map sp).Sublist G /\ ∀ a ∈ o, U a := by
  intro t' l' G l1 i ih J L K B;obtain ⟨o, c, e, H, e3, _⟩ := ih l1 0 [] i J (by simpa using L) K (by simpa using B);refine ⟨o, c, zZ ?_, H, e3⟩;have e' : cW (cL l1 D q m no fr sh pr) ([], 0, i) = some ([] ++ o, c) := e;simp only [aJE, pU, e', bF, aai, cx]
 have u : ∀ {n : List Item} {k : Nat} {x : GSel} {l : List GSel}, Sm n -> (n.drop k).map (·.x) = x :: l -> ∃ a, a ∈ n /\ a.x = x /\ n.drop k = a :: n.drop (k + 1) /\ (n.drop (k + 1)).map (·.x) = l /\ decide ((k : Int) < n.length) = true /\ nthI n k = some a /\ IntKind.wrap .i64 (k + 1) = ((k + 1 : Nat) : Int) := by
  intro n k x l y A;cases z : n.drop k with
  | nil => rw [z] at A; cases A
  | cons a r =>
   rw [z] at A;obtain ⟨M, H, e3, N⟩ := dr y z;cases A;exact ⟨a, List.mem_of_mem_drop (by rw [z]; exact List.mem_cons_self ..), rfl, by rw [e3], by rw [e3], M, H, N⟩
 induction h with
 | nil t =>
  intro n k j i y A C P;have z : n.drop k = [] := List.map_eq_nil_iff.1 A;refine ⟨[], i, cG ?_, by simp, by simp, by rw [z]; simp⟩;simp only [cL, eO, dr0 z, jN, aac, cx]
 | @fld t x l F O _ ih =>
  intro n k j i y A C P;obtain ⟨a, ha, rfl, z, w, M, H, N⟩ := u y A;simp only [aaV] at P;obtain ⟨o, c, J, L, K, B⟩ := ih n (k + 1) (j ++ [a]) i y w C (by simp; omega);refine ⟨a :: o, c, ?_, ?_, ?_, ?_⟩
  ·rw [fL (s' := (j ++ [a], ((k + 1 : Nat) : Int), i)) ?_, J];· simp
   ·have : tapp j [a] = some (j ++ [a]) := gM (by simp [gY]; omega);simp only [cL, eO, M, eS, H, bF, O, beq_self_eq_true, this, N, cx]
  ·simp only [ab1];have : sp a = ⟨t, a.x⟩ := by rw [<- (C a ha).2]
   rw [this];exact L.cons_cons _
  ·intro b v;rcases aa3.1 v with rfl | v;· exact (C _ ha).1
   ·exact K b v
  ·rw [z, abA];simp only [O, beq_self_eq_true, if_true];exact B.cons_cons _
 | @inl t x l G F O hsx _ _ i1 i2 =>
  intro n k j i y A C P;obtain ⟨a, ha, rfl, z, w, M, H, N⟩ := u y A;simp only [aar] at P;obtain ⟨u1, u2⟩ := E.sub a (C a ha).1;have hwt : wT s (sp a) = iG s t a.x := by rw [<- (C a ha).2]
  obtain ⟨g, p, g1, g2, g3⟩ := I a.sub i i1 (by show a.sub.length < _; rw [<- List.length_map (f := (·.x)), u2]; exact hsx) u2 (fun b v => by rw [<- hwt]; exact u1 b v) (by omega);have hgl : g.length <= G.length := by have := g2.length_le; simpa using this
  obtain ⟨o, c, J, L, K, B⟩ := i2 n (k + 1) (j ++ g) p y w C (by simp; omega);refine ⟨g ++ o, c, ?_, by rw [aba]; exact g2.append L, ?_, ?_⟩
  ·rw [fL (s' := (j ++ g, ((k + 1 : Nat) : Int), p)) ?_, J];· simp
   ·have : tapp j g = some (j ++ g) := gM (by simp [gY]; omega);simp only [cL, eO, M, eS, H, bF, O, g1, this, N, cx];rfl
  ·intro b v;rcases aa6.1 v with v | v;· exact g3 b v
   exact K b v
  ·rw [z, abA];simp only [O];exact B.trans (List.sublist_append_right _ _)
 | @spr t x l G F O hsx _ _ i1 i2 =>
  intro n k j i y A C P;obtain ⟨a, ha, rfl, z, w, M, H, N⟩ := u y A;simp [aar] at P;have flt : ∀ {o g}, ((n.drop (k + 1)).filter fun a => a.x.kind == 0).Sublist o -> ((n.drop k).filter fun a => a.x.kind == 0).Sublist (g ++ o) := by
   intro o g B;rw [z, abA];simp [O];exact B.trans (List.sublist_append_right _ _)
  cases hs : (qF a.x.name false i).1
  ·obtain ⟨u1, u2⟩ := E.frag a.x.name;obtain ⟨g, p, g1, g2, g3⟩ := I (qF a.x.name [] fr).1 (zG a.x.name true i) i1 (by show (qF a.x.name [] fr).1.length < _; rw [<- List.length_map (f := (·.x)), u2]; exact hsx) u2 u1 (by omega);have hgl : g.length <= G.length := by have := g2.length_le; simpa using this
   obtain ⟨o, c, J, L, K, B⟩ := i2 n (k + 1) (j ++ g) p y w C (by simp; omega);refine ⟨g ++ o, c, ?_, by rw [aba]; exact g2.append L, ?_, flt B⟩
   ·rw [fL (s' := (j ++ g, ((k + 1 : Nat) : Int), p)) ?_, J];· simp
    have : tapp j g = some (j ++ g) := gM (by simp [gY]; omega);simp only [cL, eO, M, eS, H, bF, O, hs, g1, this, N, cx];rfl
   intro b v;rcases aa6.1 v with v | v;· exact g3 b v
   exact K b v
  obtain ⟨o, c, J, L, K, B⟩ := i2 n (k + 1) j i y w C (by omega);refine ⟨o, c, ?_, L.trans (List.sublist_append_right _ _), K, by simpa using flt (g := []) B⟩;rw [fL (s' := (j, ((k + 1 : Nat) : Int), i)) ?_, J];simp only [cL, eO, M, eS, H, bF, O, hs, N, cx];rfl
 | @oth t x l F h0' h1' h2' _ ih =>
  intro n k j i y A C P;obtain ⟨a, ha, rfl, z, w, M, H, N⟩ := u y A;obtain ⟨o, c, J, L, K, B⟩ := ih n (k + 1) j i y w C (by omega);have b0 : (a.x.kind == 0) = false := by simpa using h0'
  refine ⟨o, c, ?_, L, K, by rw [z, abA, b0]; exact B⟩;rw [fL (s' := (j, ((k + 1 : Nat) : Int), i)) ?_, J];have b1 : (a.x.kind != 1) = true := by simpa using h1'
  have b2 : (a.x.kind == 2) = false := by simpa using h2'
  simp only [cL, eO, M, eS, H, bF, b0, b1, b2, jN, N, cx]
theorem aMF D q m f sh c {t l} {F:List Spot} (h:Fl s d t (l.map (·.x)) F) (p:Sm l) (r:F.length<=1000000) (k:∀ a∈l,U a/\a.typ=t) :
  ∃ o b,gO l D q m f fr sh c []=some (o,b)/\(o.map sp).Sublist F/\(∀ a∈o,U a)/\(l.filter fun a=>a.x.kind==0).Sublist o:=by
 obtain ⟨o,b,e,g,i,j⟩:=bDS E D q m f sh c h l 0 [] [] p (by simp) k (by simp;omega);refine ⟨o,b,zZ ?_,g,i,j⟩;have n:cW (cL l D q m f fr sh c) ([],0,[])=some ([]++o,b):=e;simp [pU,n,cx]
theorem aY8 D q m g sh f {a} {F:List Spot} (n:U a) (h:Fl s d (wT s (sp a)) a.x.sels F) (r:Sm a.x.sels) (p:F.length<=1000000) :
  ∃ o,eT a D q m g fr sh f=some o/\(o.map sp).Sublist F/\∀ b∈o,U b:=by
 obtain ⟨j,l⟩:=E.sub a n;rw [<- l] at h;obtain ⟨o,c,e,i,k,_⟩:=aMF E D q m g sh f h (by grind) p j;exact ⟨o,aFQ (by simp [aAW,e,cx]),i,k⟩
end
abbrev Mp:=List ((Int×Int)×Bool)
def AllT (m:Mp):Prop:=∀ p∈m,p.2=true
theorem AllT.put {m k v} (h:AllT m) (hv:v=true):AllT (zG k v m):=by
 intro p a;rcases aN0 a with a | rfl;· exact h p a
 exact hv
theorem bKa {β} {b1 : Item -> Int × β -> Option ((Int × β) ⊕ (β ⊕ β))} {b2 : Int × β -> Option ((Int × β) ⊕ (β ⊕ β))} d f (G : Item -> Item -> β -> Option (Bool × β)) (c : β -> Prop) g (v : Sm d) (s : Sm f)
  (i : ∀ x t st, b1 x (t, st) = cnd (decide (t < f.length)) (bnd (nthI f t) fun z => cnd (!(keyD x.x == keyD z.x)) (some (.inl (IntKind.wrap .i64 (t + 1), st))) (bnd (G x z st) fun r => cnd (!r.1) (some (.inr (.inr r.2))) (some (.inl (IntKind.wrap .i64 (t + 1), r.2))))) (some (.inr (.inl st))))
  (j : ∀ t st, b2 (t, st) = cnd (decide (t < d.length)) (bnd (nthI d t) fun x => bnd (cW (b1 x) (0, st)) fun e => elim e (fun u => some (.inl (IntKind.wrap .i64 (t + 1), u))) (fun u => some (.inr (.inr u)))) (some (.inr (.inl st))))
  (w : ∀ x ∈ d, ∀ z ∈ f, ∀ st, keyD x.x = keyD z.x -> c st -> ∃ r a, G x z st = some (r, a) /\ c a /\ (g -> r = true)) st (h : c st) :
  ∃ e, cW b2 (0, st) = some e /\ ∃ a, c a /\ (e = .inl a ∨ (e = .inr a /\ ¬g)) := by
 obtain ⟨e, q, a, m, n⟩ := bJ3 (b := b2) d.length (fun k st => match d[k]? with | some x => cW (b1 x) (0, st) | none => none) c g (fun _ => True) v
  (fun k st l => by
   rw [j];have o : decide ((k : Int) < d.length) = true := by grind
   simp only [o, eS, dF, aa4 l, bF])
  (fun st => by simp_all)
  (fun k l st h => by
   obtain ⟨e, q, a, m, n⟩ := held (b := b1 d[k]) f (fun z => keyD d[k].x == keyD z.x) (G d[k]) c g (fun _ => True) s (i d[k])
    (fun z y st p h => by
     grind) st h
   grind) st h
 grind
section
variable {s : GSchema} {d : GDoc} (hs : SOk s) (hd : Sm d.frags) {U : Item -> Prop} {fr : List (Str × List Item)} (E : Env s d U fr) (tm : Prop)
include hs hd E
theorem bDT h (sh g:Mp) {n} (j:n<1000000) {a b} (q:U a) (B:U b) (m:Ex d a.x.sels n) (p:Ex d b.x.sels n):∃ F G f c,Fl s d (wT s (sp a)) a.x.sels F/\Fl s d (wT s (sp b)) b.x.sels G /\
  eT a s.defs s.query s.mutation h fr sh g=some f/\eT b s.defs s.query s.mutation h fr sh g=some c/\Sm f/\Sm c /\
  (∀ x∈f,U x/\sp x∈F/\∃ k,k<n/\Ex d x.x.sels k)/\(∀ x∈c,U x/\sp x∈G/\∃ k,k<n/\Ex d x.x.sels k):=by
 obtain ⟨F,l,C,t,H⟩:=aAu hs hd m j (wT s (sp a));obtain ⟨G,g1,g2,v,D⟩:=aAu hs hd p j (wT s (sp b));obtain ⟨f,z,i,w⟩:=aY8 E s.defs s.query s.mutation h sh g q l (by have:=m.len;omega) (by omega);obtain ⟨c,r,o,u⟩:=aY8 E s.defs s.query s.mutation h sh g B g1 (by have:=p.len;omega) (by omega);have y:=i.length_le;have A:=o.length_le;rw [aau] at y A;exact ⟨F,G,f,c,l,g1,z,r,by omega,by omega,
  fun x e=>⟨w x e,by grind,(t _ (i.subset (abF e))).2⟩,fun x e=>⟨u x e,by grind,(v _ (o.subset (abF e))).2⟩⟩
theorem bDU (no : Int) (pr : Mp) (n : Nat) : n < 1000000 -> ∀ (a b : Item) (sh : Mp), U a -> U b -> Ex d a.x.sels n -> Ex d b.x.sels n -> keyD a.x = keyD b.x -> (tm -> AllT sh) -> (tm -> qO s d (sp a) (sp b) = some true) ->
  ∃ r sh', eZ a b s.defs s.query s.mutation no fr sh pr = some (r, sh') /\ (tm -> AllT sh') /\ (tm -> r = true) := by
 induction n using Nat.strongRecOn with
 | _ n A =>
  intro hn a b sh ua N ha hb C hT hS;cases h2 : (qF (a.no, b.no) false sh).2
  ·obtain ⟨F, G, la, lb, f1, g1, c1, c2, H, o, c5, J⟩ := bDT hs hd E no sh pr hn ua N ha hb;obtain ⟨r, hr, i⟩ := aP4 hs hd n hn (sp a) (sp b) ha hb;have cl : tm -> aGr s (fT s (sp a)) (fT s (sp b)) = true /\ (F ++ G).Pairwise fun p q => qO s d p q = some true := by
    intro h;have e  := by have := hS h; rw [hr] at this; injection this
    obtain ⟨q1, T, V, l, L, w⟩ := i e C;exact ⟨q1, by rw [f1.eq l, g1.eq L]; exact w⟩
   obtain ⟨e, e1, sh', c, g⟩ := bKa (b1 := fun x => oR s.defs s.query s.mutation no fr pr lb x a b) (b2 := oT s.defs s.query s.mutation no fr pr lb la a b) la lb (fun x z st => eZ x z s.defs s.query s.mutation no fr st pr) (fun st => tm -> AllT st) tm H o
    (fun x t st => by simp [oR, qJ, wN, bF, cx]) (fun t st => by simp [oT, qK, cx])
    (fun x hx z u st hk' B => by
     obtain ⟨f, R, k, P, v⟩ := c5 x hx;obtain ⟨m, Q, j, O, I⟩ := J z u;obtain ⟨r, st', D, M, y⟩ := A (max k j) (by omega) (by omega) x z st f m (v.mono (by omega)) (I.mono (by omega)) hk' B (fun h => by grind);exact ⟨r, st', D, M, y⟩) sh hT
   have K : ∃ r, pN a b s.defs s.query s.mutation no fr sh pr = some (r, sh') /\ (tm -> r = true) := by
    rcases g with rfl | ⟨rfl, h⟩;· exact ⟨true, wF (by simp [aAa, mJ, c1, c2, bF, e1, aLv, cx]), fun _ => rfl⟩
    exact ⟨false, wF (by simp [aAa, mJ, c1, c2, bF, e1, aLw, cx]), fun S => by grind⟩
   obtain ⟨r1, hr1, hr2⟩ := K;cases hsh : aGr s (fT s (sp a)) (fT s (sp b))
   ·refine ⟨false, zG (a.no, b.no) false sh, oU ?_, fun h => ?_, fun h => ?_⟩;· simp [aAb, jD, bF, h2, jN, aHi s _ _ hs, aGs s _ _ hs, hsh, cx]
    ·have := (cl h).1; rw [hsh] at this; cases this
    have := (cl h).1; rw [hsh] at this; cases this
   refine ⟨r1, zG (a.no, b.no) r1 sh', oU ?_, fun h => (c h).put (hr2 h), hr2⟩;simp [aAb, jD, bF, h2, jN, eS, aHi s _ _ hs, aGs s _ _ hs, hsh, hr1, cx]
  exact ⟨_, sh, oU (by simp [jD, h2, cx]), hT, fun h => hT h _ (aIV h2)⟩
def Good (a b:Item):Prop:=a.typ≠b.typ∨a.x.name=b.x.name
def Inv2 (U:Item->Prop) (tm:Prop) (st:Mp×Mp):Prop:=(tm->AllT st.1)/\(tm->AllT st.2)/\∀ p∈st.2,p.2=true->∀ a b,U a->U b->p.1=(a.no,b.no)->Good a b
theorem aXt (I : dY d <= 4194304) no n : n < 1000000 -> ∀ a b st, U a -> U b -> Ex d a.x.sels n -> Ex d b.x.sels n -> keyD a.x = keyD b.x -> Inv2 U tm st -> (tm -> fI s d (sp a) (sp b) = some true) ->
  ∃ r st', eW a b s.defs s.query s.mutation no fr st.1 st.2 = some (r, st') /\ Inv2 U tm st' /\ (tm -> r = true) /\ (r = true -> Good a b) := by
 induction n using Nat.strongRecOn with
 | _ n C =>
  intro hn a b st ua ub ha hb m hI K;cases h2 : (qF (a.no, b.no) false st.2).2
  ·obtain ⟨F, G, la, lb, f, g1, c1, c2, c3, c4, c5, c6⟩ := bDT hs hd E no [] [] hn ua ub ha hb;obtain ⟨r, M, A⟩ := aK2 hs hd I n hn (sp a) (sp b) (E.bk a ua) (E.bk b ub) ha hb;have cl : tm -> Tog s d (sp a) (sp b) := fun h => by
    have e : r = true := by have := K h; rw [M] at this; injection this
    exact A e m
   obtain ⟨Q, sh0, s1, c, i⟩ := bDU hs hd E tm no st.2 n hn a b st.1 ua ub ha hb m hI.1 (fun h => (cl h).1)
   -- across, with what was found by then
   have ac : (tm -> (F ++ G).Pairwise fun p q => fI s d p q = some true) -> ∃ r st', fN a b s.defs s.query s.mutation no fr sh0 st.2 = some (r, st') /\ Inv2 U tm st' /\ (tm -> r = true) := by
    intro hp;obtain ⟨D, X, la', lb', f1', g1', c1', c2', c3', c4', c5', c6'⟩ := bDT hs hd E no sh0 st.2 hn ua ub ha hb;cases f.eq f1'; cases g1.eq g1';obtain ⟨e, e1, st', e2, y⟩ := bKa (b1 := fun x => lI s.defs s.query s.mutation no fr lb' x a b) (b2 := lJ s.defs s.query s.mutation no fr lb' la' a b) la' lb' (fun x z st => eW x z s.defs s.query s.mutation no fr st.1 st.2) (Inv2 U tm) tm c3' c4'
     (fun x t st => by simp only [lI, mK, wN, bF, cx]) (fun t st => by simp only [lJ, mL, cx])
     (fun x L z R st hk' hi => by
      obtain ⟨N, u2, k, u3, S⟩ := c5' x L;obtain ⟨P, v2, j, v3, Z⟩ := c6' z R;obtain ⟨r, st', Y, w2, T, _⟩ := C (max k j) (by omega) (by omega) x z st N P (S.mono (by omega)) (Z.mono (by omega)) hk' hi (fun h => by grind);exact ⟨r, st', Y, w2, T⟩) (sh0, st.2) ⟨c, hI.2⟩
    rcases y with rfl | ⟨rfl, h⟩;· exact ⟨true, st', sI (by simp only [tZ, jJ, c1', c2', bF, e1, aLv, cx]), e2, fun _ => rfl⟩
    exact ⟨false, st', sI (by simp only [tZ, jJ, c1', c2', bF, e1, aLw, cx]), e2, fun V => absurd V h⟩
   -- what is put
   have put : ∀ {st'} {v}, Inv2 U tm st' -> (tm -> v = true) -> (v = true -> Good a b) -> Inv2 U tm (st'.1, zG (a.no, b.no) v st'.2) := by
    intro st' v hi W H;refine ⟨hi.1, fun h => (hi.2.1 h).put (W h), fun p hp hpt a' b' ua' ub' o => ?_⟩;rcases aN0 hp with hp | rfl;· exact hi.2.2 p hp hpt a' b' ua' ub' o
    obtain ⟨e1, e2⟩ := aaD o;rw [<- E.num a a' ua ua' e1, <- E.num b b' ub ub' e2];exact H hpt
   have hI' : Inv2 U tm (sh0, st.2) := ⟨c, hI.2⟩;have sm := hs.sm;have u := aOS a.x.args b.x.args (aCb a.x (E.bk a ua)).1 (aCb b.x (E.bk b ub)).1 (aCb a.x (E.bk a ua)).2;cases Q
   ·-- not of one shape
    refine ⟨false, (sh0, zG (a.no, b.no) false st.2), eI ?_, put hI' i (fun h => by cases h), i, fun h => by cases h⟩;simp only [fA, dD, bF, h2, jN, s1, uW s _ _ sm (show Sm [(1 : Int)] by decide), cx];cases a.typ == b.typ <;> cases iN s a.typ [1] <;> rfl
   ·cases hap : !(a.typ == b.typ) && iN s a.typ [1] && iN s b.typ [1]
    ·-- bJK, arguments, what lies below
     have nap : tm -> a.x.name = b.x.name /\ aDn a.x.args b.x.args = true /\ (F ++ G).Pairwise fun p q => fI s d p q = some true := by
      intro h;rcases (cl h).2 with ⟨q1, q2, q3⟩ | ⟨q1, q2, D, X, q3, B, J⟩
      ·have : (!(a.typ == b.typ)) = true := by simpa using q1
       rw [this, q2, q3] at hap; cases hap
      exact ⟨q1, q2, by rw [f.eq q3, g1.eq B]; exact J⟩
     cases hnm : a.x.name == b.x.name
     ·have no' : tm -> False := fun h => by have := (nap h).1; rw [this, beq_self_eq_true] at hnm; cases hnm
      refine ⟨false, (sh0, zG (a.no, b.no) false st.2), eI ?_, put hI' (fun h => (no' h).elim) (fun h => by cases h), fun h => (no' h).elim, fun h => by cases h⟩;simp only [fA, dD, bF, h2, jN, s1, uW s _ _ sm (show Sm [(1 : Int)] by decide), hnm, cx];revert hap;cases a.typ == b.typ <;> cases iN s a.typ [1] <;> cases iN s b.typ [1] <;> intro hap <;> first | rfl | cases hap
     cases hal : aDn a.x.args b.x.args
     ·have no' : tm -> False := fun h => by have := (nap h).2.1; rw [hal] at this; cases this
      refine ⟨false, (sh0, zG (a.no, b.no) false st.2), eI ?_, put hI' (fun h => (no' h).elim) (fun h => by cases h), fun h => (no' h).elim, fun h => by cases h⟩;simp [fA, dD, bF, h2, jN, s1, uW s _ _ sm (show Sm [(1 : Int)] by decide), hnm, u, hal, cx];revert hap;cases a.typ == b.typ <;> cases iN s a.typ [1] <;> cases iN s b.typ [1] <;> intro hap <;> first | rfl | cases hap
     obtain ⟨r1, st1, O, w, l⟩ := ac (fun h => (nap h).2.2);refine ⟨r1, (st1.1, zG (a.no, b.no) r1 st1.2), eI ?_, put w l (fun _ => .inr (eq_of_beq hnm)), l, fun _ => .inr (eq_of_beq hnm)⟩;simp [fA, dD, bF, h2, jN, s1, uW s _ _ sm (show Sm [(1 : Int)] by decide), hnm, u, hal, O, cx];revert hap;cases a.typ == b.typ <;> cases iN s a.typ [1] <;> cases iN s b.typ [1] <;> intro hap <;> first | rfl | cases hap
    have g : a.typ ≠ b.typ := fun e => by rw [e] at hap; simp at hap
    refine ⟨true, (sh0, zG (a.no, b.no) true st.2), eI ?_, put hI' (fun _ => rfl) (fun _ => .inl g), fun _ => rfl, fun _ => .inl g⟩;simp [fA, dD, bF, h2, jN, s1, uW s _ _ sm (show Sm [(1 : Int)] by decide), cx];revert hap;cases a.typ == b.typ <;> cases iN s a.typ [1] <;> cases iN s b.typ [1] <;> intro hap <;> first | rfl | cases hap
  ·exact ⟨_, st, eI (by simp [fA, dD, h2, cx]), hI, fun h => hI.2.1 h _ (aIV h2), fun h => hI.2.2 _ (aIV h2) h a b ua ub rfl⟩
end
def Lst (s:GSchema) (d:GDoc) (t:Str) (l:List GSel):Prop:=(∃ F,Fl s d t l F/\F.Pairwise fun p q=>keyD p.x=keyD q.x->fI s d p q=some true)/\∀ x∈l,x.sels≠[]->nP s d (iG s t x) x.sels=some true
abbrev Fit (l:List Item):Prop:=l.Pairwise fun a b=>keyD a.x=keyD b.x->Good a b
section
variable {s : GSchema} {d : GDoc} (hs : SOk s) (hd : Sm d.frags) {U : Item -> Prop} {fr : List (Str × List Item)} (E : Env s d U fr) (tm : Prop)
include hs hd
theorem aY9 (e:dY d<=4194304) {n} (k:n<1000000) {t l} (g:aK l<=4194304) (h:Ex d l n) (i:nP s d t l=some true):Lst s d t l:=by
 obtain ⟨r,a,f⟩:=aOb hs hd e n k t l g h;rw [i] at a;cases a;obtain ⟨⟨F,j,b⟩,c⟩:=f rfl;exact ⟨⟨F,j,List.Pairwise.imp (fun {p q} h (_:keyD p.x=keyD q.x)=>h) b⟩,c⟩
theorem bII t:Lst s d t []:=⟨⟨[],.nil t,List.Pairwise.nil⟩,fun x a=>by cases a⟩
include E
theorem bIJ (hB : dY d <= 4194304) (no : Int) (n : Nat) : n < 1000000 -> ∀ (t : Str) (l : List Item) (st : Mp × Mp), (∀ a ∈ l, U a /\ a.typ = t) -> Ex d (l.map (·.x)) n -> Inv2 U tm st -> (tm -> Lst s d t (l.map (·.x))) ->
  ∃ r st', lD l s.defs s.query s.mutation no fr st.1 st.2 = some (r, st') /\ Inv2 U tm st' /\ (tm -> r = true) /\ (r = true -> Fit (l.filter fun a => a.x.kind == 0)) := by
 induction n using Nat.strongRecOn with
 | _ n I =>
  intro D t l st hU h J g;have p : l.length <= n := by have := h.len; simpa using this
  obtain ⟨F, c, Q, v, R⟩ := aAu hs hd h D t;obtain ⟨o, seen', o1, m, i, u⟩ := aMF E s.defs s.query s.mutation no st.1 st.2 c (by show l.length < _; omega) (by omega) hU;have T : o.length <= n := by have := m.length_le; simp at this; omega
  have G : tm -> o.Pairwise fun a b => keyD a.x = keyD b.x -> fI s d (sp a) (sp b) = some true := by
   intro h;obtain ⟨P, g1, g2⟩ := (g h).1;rw [<- c.eq g1] at g2;exact by grind
  have hex : ∀ a ∈ o, ∃ k, k < n /\ Ex d a.x.sels k := fun a B => (v _ (m.subset (abF B))).2
  -- pairs
  obtain ⟨e, e1, st1, e2, e3⟩ := bJ3 (b := mN s.defs s.query s.mutation no fr (o, seen') l) o.length (fun k st => match o[k]? with | some x => cW (mM s.defs s.query s.mutation no fr x (o.take k) (o, seen')) (0, st) | none => none) (Inv2 U tm) tm
   (fun k => ∀ j (hj : j < k) (hk : k < o.length), keyD (o[j]'(by omega)).x = keyD o[k].x -> Good (o[j]'(by omega)) o[k]) (by omega)
   (fun k st hk => by
    have g3 : decide ((k : Int) < o.length) = true := by simp; omega
    simp only [mN, nT, g3, eS, dF, aa4 hk, bF, show tslc o 0 k = some (o.take k) by rw [bHB (by omega)]; simp, cx])
   (fun st => by simp [mN, nT, cx])
   (fun k hk st hi => by
    simp only [aa4 hk];obtain ⟨e, e1, st', e2, e3⟩ := held (b := mM s.defs s.query s.mutation no fr o[k] (o.take k) (o, seen')) (o.take k) (fun z => keyD o[k].x == keyD z.x) (fun z st => eW z o[k] s.defs s.query s.mutation no fr st.1 st.2) (Inv2 U tm) tm (fun z => Good z o[k]) (by rw [abo]; omega)
     (fun t st => by simp [mM, tK, wN, bF, cx])
     (fun z hz st hk' hi => by
      obtain ⟨j, hj, rfl⟩ := ab0 hz;rw [abo] at hj;rw [List.getElem_take] at hk' ⊢;have hjo : j < o.length := by omega
      have ke := (eq_of_beq hk').symm;obtain ⟨a, S, A⟩ := hex o[j] (aaK hjo);obtain ⟨b, b1, b2⟩ := hex o[k] (aaK hk);exact aXt hs hd E tm hB no (max a b) (by omega) o[j] o[k] st (i _ (aaK hjo)) (i _ (aaK hk)) (A.mono (by omega)) (b2.mono (by omega)) ke hi (fun h => List.pairwise_iff_getElem.1 (G h) j k hjo hk (by omega) ke)) st hi
    refine ⟨e, e1, st', e2, ?_⟩;rcases e3 with ⟨w, N⟩ | q;· refine .inl ⟨w, fun j hj hk' ke => ?_⟩;have hz : o[j] ∈ o.take k := List.mem_iff_getElem.2 ⟨j, by rw [abo]; omega, by rw [List.getElem_take]⟩;exact by grind
    exact .inr q) st J
  rcases e3 with ⟨rfl, L⟩ | ⟨rfl, hnt⟩
  ·have fit : Fit (l.filter fun a => a.x.kind == 0) := List.Pairwise.sublist u (List.pairwise_iff_getElem.2 fun j k hj hk hjk ke => L k hk j hjk hk ke)
   -- what lies within
   obtain ⟨e, g1, st2, g2, g3⟩ := held (b := rO l s.defs s.query s.mutation no fr (o, seen')) l (fun _ => true) (fun z st => lD z.sub s.defs s.query s.mutation no fr st.1 st.2) (Inv2 U tm) tm (fun _ => True) (by omega)
    (fun t st => by simp [rO, tL, abm, jN, cx])
    (fun z hz st _ hi => by
     obtain ⟨y, f⟩ := E.sub z (hU z hz).1;have hsub : ∃ k, k < n /\ Ex d (z.sub.map (·.x)) k := by rw [f]; exact h.mem (abF hz)
     obtain ⟨k, C, k2⟩ := hsub;obtain ⟨r, st', K, M, H, _⟩ := I k C (by omega) (wT s (sp z)) z.sub st y k2 hi (fun h => by
      rw [f] at k2 ⊢;by_cases hz0 : z.x.sels = [];· rw [hz0]; exact bII hs hd _
      have := (g h).2 z.x (abF hz) hz0;rw [<- (hU z hz).2] at this;have O := E.bk z (hU z hz).1;have := gV z.x;exact aY9 hs hd hB (by omega) (by omega) k2 (by assumption))
     exact ⟨r, st', K, M, H, fun _ => trivial⟩) st1 e2
   rcases g3 with ⟨rfl, _⟩ | ⟨rfl, hnt⟩;· exact ⟨true, st2, rP (by simp [uS, lK, o1, bF, e1, aLv, g1, cx]), g2, fun _ => rfl, fun _ => fit⟩
   exact ⟨false, st2, rP (by simp [uS, lK, o1, bF, e1, aLv, g1, aLw, cx]), g2, fun h => absurd h hnt, fun h => by cases h⟩
  exact ⟨false, st1, rP (by simp [uS, lK, o1, e1, cx]), e2, fun h => absurd h hnt, fun h => by cases h⟩
end
inductive In:List Item->Item->Prop
 | here {l:List Item} {a:Item}:a∈l->In l a
 | deep {l:List Item} {a b:Item}:a∈l->In a.sub b->In l b
theorem aOc {a b l} (h:In (a::l) b):b=a∨In a.sub b∨In l b:=by
 cases h with
 | here h=>rcases aa3.1 h with rfl | h<;>first | exact .inl rfl | exact .inr (.inr (.here h))
 | deep h c=>rcases aa3.1 h with rfl | h<;>first | exact by grind | exact .inr (.inr (.deep h c))
theorem aOd {b} (h:In [] b):False:=by
 cases h with
 | here h=>cases h
 | deep h _=>cases h
theorem aZa {l m b} (h:In (l++m) b):In l b∨In m b:=by
 cases h with
 | here h=>rcases aa6.1 h with h | h<;>first | exact .inl (.here h) | exact .inr (.here h)
 | deep h a=>rcases aa6.1 h with h | h<;>first | exact .inl (.deep h a) | exact .inr (.deep h a)
theorem bKb {l} {a b:Item} (h:In l a) (c:b∈a.sub):In l b:=by
 induction h with
 | here h=>exact .deep h (.here c)
 | deep h _ d=>exact .deep h (d c)
structure Wf (s:GSchema) (t:Str) (its:List Item) (l:List GSel):Prop where
 xs:its.map (·.x)=l
 typ:∀ a∈its,a.typ=t
 sub:∀ a,In its a->(∀ b∈a.sub,b.typ=wT s (sp a))/\a.sub.map (·.x)=a.x.sels
 bk:∀ a,In its a->cZ a.x<=aK l
structure Nm (its:List Item) (lo hi:Int):Prop where
 rng:∀ a,In its a->lo<a.no/\a.no<=hi
 one:∀ a b,In its a->In its b->a.no=b.no->a=b
theorem Nm.app {l m i j k} (e:Nm l i j) (d:Nm m j k) (o:i<=j) (p:j<=k):Nm (l++m) i k:=by
 refine ⟨fun a f => ?_,fun a b f n g => ?_⟩
 ·rcases aZa f with h | h;· have:=e.rng a h;omega
  have:=d.rng a h;omega
 rcases aZa f with h | h<;>rcases aZa n with c | c;· exact e.one a b h c g
 ·have:=e.rng a h;have:=d.rng b c;omega
 ·have:=d.rng a h;have:=e.rng b c;omega
 exact d.one a b h c g
section
variable {s : GSchema} (hs : SOk s)
include hs
theorem bAX (fr:List (Str×List Item)) (sh pr:Mp) n:∀ l,aK l<=n->∀ t l0 k (out:List Item) (no:Int),Sm l0->l0.drop k=l->out.length+aK l<=2000000000->0<=no->no+aK l<=2000000000 ->
  ∃ its no',cW (fO t l0 s.defs s.query s.mutation fr sh pr) (out,k,no)=some (out++its,no')/\no<=no'/\no'<=no+aK l/\Wf s t its l/\Nm its no no':=by
 induction n using Nat.strongRecOn with
 | _ n r =>
  intro l;induction l with
  | nil =>
   intro e t l0 k out no c hk f hno hno';refine ⟨[],no,cG ?_,by omega,by rw [bK];simp [sumL],⟨rfl,by simp,fun a h=>(aOd h).elim,fun a h=>(aOd h).elim⟩,⟨fun a h=>(aOd h).elim,fun a b h=>(aOd h).elim⟩⟩;simp only [fO,mI,dr0 hk,jN,aac,cx]
  | cons x l ihl =>
   intro e t l0 k out no c hk f hno hno';have hbx:aK (x::l)=cZ x+aK l:=by simp [bK,sumL]
   have p:=gV x;rw [hbx] at e f hno';obtain ⟨o,w,y,m⟩:=dr c hk;have u:IntKind.wrap .i64 (no+1)=no+1:=wi (by omega);obtain ⟨sub,no1,j,B,D,s4,s5⟩:=r (aK x.sels) (by omega) x.sels (by omega) (iG s t x) x.sels 0 [] (no+1) (by have:=fP x.sels;show x.sels.length<_;omega) (by simp) (by simp;omega) (by omega) (by omega);have v:iA (iG s t x) x.sels s.defs s.query s.mutation (no+1) fr sh pr=some (sub,no1):=by
    apply xE;have d:cW (fO (iG s t x) x.sels s.defs s.query s.mutation fr sh pr) ([],0,no+1)=some ([]++sub,no1):=j;simp [aIj,nS,d,bF,aai,cx]
   have g:=by omega
   obtain ⟨its,no',q,A,C,r4,r5⟩:=ihl (by omega) t l0 (k+1) (out++[⟨no+1,x,t,sub⟩]) no1 c y (by simp;omega) (by omega) (by omega);refine ⟨⟨no+1,x,t,sub⟩::its,no',?_,by omega,by rw [hbx];omega,⟨by simp [r4.xs],?_,?_,?_⟩,⟨?_,?_⟩⟩
   ·rw [fL (s':=(out++[⟨no+1,x,t,sub⟩],((k+1:Nat):Int),no1)) ?_,q];· simp
    have:∀ a,tapp out [a]=some (out++[a]):=fun a=>gM (by simp [gY];omega);have i  := aUH s t x hs;simp only [fO,mI,o,eS,w,bF,i,u,v,this,m,cx]
   ·intro a ha;rcases aa3.1 ha with rfl | ha;· rfl
    exact r4.typ a ha
   ·intro a ha;rcases aOc ha with rfl | h | h;· exact ⟨s4.typ,s4.xs⟩
    ·exact s4.sub a h
    exact r4.sub a h
   ·intro a ha;rw [hbx];rcases aOc ha with rfl | h | h;· show cZ x<=_;omega
    ·have:=s4.bk a h;omega
    have:=r4.bk a h;omega
   ·intro a ha;rcases aOc ha with rfl | h | h;· exact ⟨by show no<no+1;omega,by show no+1<=no';omega⟩
    ·have:=s5.rng a h;omega
    have:=r5.rng a h;omega
   intro a b ha z he;rcases aOc ha with rfl | h | h<;>rcases aOc z with rfl | h' | h';· rfl
   ·have:=s5.rng b h';simp at he;omega
   ·have:=r5.rng b h';simp at he;omega
   ·have:=s5.rng a h;simp at he;omega
   ·exact s5.one a b h h' he
   ·have:=s5.rng a h;have:=r5.rng b h';omega
   ·have:=r5.rng a h;simp at he;omega
   ·have:=r5.rng a h;have:=s5.rng b h';omega
   exact r5.one a b h h' he
theorem aZb (fr:List (Str×List Item)) (sh d:Mp) t l (c:Int) (n:aK l<=4194304) (j:0<=c) (f:c+aK l<=2000000000) :
  ∃ b a,iA t l s.defs s.query s.mutation c fr sh d=some (b,a)/\c<=a/\a<=c+aK l/\Wf s t b l/\Nm b c a:=by
 obtain ⟨b,a,m,g,i,k,h⟩:=bAX hs fr sh d (aK l) l (by omega) t l 0 [] c (by have:=fP l;omega) (by simp) (by grind) j f;refine ⟨b,a,xE ?_,g,i,k,h⟩;have e:cW (fO t l s.defs s.query s.mutation fr sh d) ([],0,c)=some ([]++b,a):=m;simp [nS,e,cx]
end
end Go.Proofs.YtenmfogokijilaaGreat

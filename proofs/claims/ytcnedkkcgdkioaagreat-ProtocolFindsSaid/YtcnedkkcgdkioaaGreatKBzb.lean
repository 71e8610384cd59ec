/- Texts of this claim, put together: OL ON OP OQ. -/
import Derived.Test.YtcnedkkcgdkioaaGreatKBza
import Derived.Shelf.SlSortCmp.NoneTotal

set_option maxRecDepth 100000
set_option maxHeartbeats 12800000
namespace Go.Proofs.YtcnedkkcgdkioaaGreat
open Go.RowKit
open Go.Shelf Go.Lib Go.Sort
theorem EE:EA Tryz.prog 38 83 (.agg #[.int .i64 0,.int .i64 0]) 2 16:=⟨by kernel_rfl,by kernel_rfl,rfl⟩
theorem GR:EA Tryz.prog 55 38 (.slice none 0 0) 1 24:=⟨by kernel_rfl,by kernel_rfl,rfl⟩
theorem WU {w:World}(a:Addr) (n c:Nat) (s:List Value) (l:s.length=n * 1) (t:n<=1000000) (h:∀j u,s[j]? = some u->w.cell? (a.add j)=some u) (b:∀u∈s,u.oneCell'=true) :
  Calls Tryz.prog 90 #[.slice (some a) n c] w fun e w'=>∃v',e = .returned v'/\w'.ownsRow w.heap.size 38 1 v' n s/\Go.RowKit.Below w.heap.size w w':=by
 have x:=fun(w:World)=>Lib.run_eql_slice_nil (P:=Tryz.prog) w 55 38 (some a) n c 0 0 GR.1;obtain⟨r,i,z,p,q⟩:=info_parts GR.2.1;have A:Hid (∀j u,s[j]? = some u->w.cell? (a.add j)=some u):=h;clear h;have m:n * 24<=140737488355328:=by omega
 go_enter Tryz.func90, Tryz.ntmps90
 go_wp2_with (at_builtin;refine wpList_append_own _ rfl _ _ 55 rfl w.heap.size 38 r _ 1 24 GR.1 i z p q GR.2.2 (by decide) _ _ _ rfl (World.ownsRow_made w #[] 0 (wC _) (Nat.zero_le _) (by simp)) a n c s rfl ?qc1 ?qc2 ?qc3 ?qc4 ?qc5 ?qc6 ?_)
 case qc1=>exact l
 case qc2=>
  intro j u d;exact Lib.cell?_alloc_some _ (A.out j u d)
 case qc3=>exact b
 case qc4=>unfold maxLen;omega
 case qc5=>rw[Nat.zero_add];exact m
 case qc6=>simp
 intro v' y o g v;go_wp2;go_ret;refine⟨v',rfl,by simpa using o,?_⟩;exact((wB _ w).alloc (wC _) _).grown g (by simp) (by intro k f;simp[Value.ownBlock] at f;omega)
theorem gJ {w:World}(n c:Nat):Calls Tryz.prog 90 #[.slice none n c] w fun e w'=>e = .returned (.slice none 0 0)/\w'=w:=by
 have q:=fun(w:World)=>Lib.run_eql_slice_nil (P:=Tryz.prog) w 55 38 none n c 0 0 GR.1;go_enter Tryz.func90, Tryz.ntmps90
 go_wp2;go_ret;exact⟨rfl,rfl⟩
theorem gK {w:World}(a:Addr) (n c:Nat) (s:List Value) (l:s.length=n * 2) (t:n<=1000000) (h:∀j u,s[j]? = some u->w.cell? (a.add j)=some u) (b:∀u∈s,u.oneCell'=true) :
  Calls Tryz.prog 200 #[.slice (some a) n c] w fun e w'=>∃v',e = .returned v'/\w'.ownsRow w.heap.size 83 2 v' n s/\Go.RowKit.Below w.heap.size w w':=by
 have x:=fun(w:World)=>Lib.run_eql_slice_nil (P:=Tryz.prog) w 38 83 (some a) n c 0 0 EE.1;obtain⟨r,i,z,p,q⟩:=info_parts EE.2.1;have A:Hid (∀j u,s[j]? = some u->w.cell? (a.add j)=some u):=h;clear h;have m:n * 16<=140737488355328:=by omega
 go_enter Tryz.func200, Tryz.ntmps200
 go_wp2_with (at_builtin;refine wpList_append_own _ rfl _ _ 38 rfl w.heap.size 83 r _ 2 16 EE.1 i z p q EE.2.2 (by decide) _ _ _ rfl (World.ownsRow_made w #[] 0 (wC _) (Nat.zero_le _) (by simp)) a n c s rfl ?qc1 ?qc2 ?qc3 ?qc4 ?qc5 ?qc6 ?_)
 case qc1=>exact l
 case qc2=>
  intro j u d;exact Lib.cell?_alloc_some _ (A.out j u d)
 case qc3=>exact b
 case qc4=>unfold maxLen;omega
 case qc5=>rw[Nat.zero_add];exact m
 case qc6=>simp
 intro v' y o g v;go_wp2;go_ret;refine⟨v',rfl,by simpa using o,?_⟩;exact((wB _ w).alloc (wC _) _).grown g (by simp) (by intro k f;simp[Value.ownBlock] at f;omega)
theorem gM {w:World}(n c:Nat):Calls Tryz.prog 200 #[.slice none n c] w fun e w'=>e = .returned (.slice none 0 0)/\w'=w:=by
 have q:=fun(w:World)=>Lib.run_eql_slice_nil (P:=Tryz.prog) w 38 83 none n c 0 0 EE.1;go_enter Tryz.func200, Tryz.ntmps200
 go_wp2;go_ret;exact⟨rfl,rfl⟩
theorem gL {w:World}{v:Value}{xs:Jb}(h:KS 2 w v xs) (q:xs.length<=1000000) :
  Calls Tryz.prog 200 #[v] w fun e w'=>∃u,e = .returned u/\AA 83 2 EI w' w.heap.size u xs.length xs/\Go.RowKit.Below w.heap.size w w':=by
 obtain⟨a,c,b,t,rfl,g,k,_⟩:=h;have l:=KS.lens k;cases a with
 | none=>
  have n:xs.length=0:=by
   rcases Nat.eq_zero_or_pos xs.length with d|d
   ·exact d
   ·cases g d
  obtain rfl:=List.length_eq_zero_iff.1 n;refine(gM 0 c).mono ?_;rintro e w' ⟨rfl,rfl⟩;exact⟨_,rfl,AA.nil _ _,wB _ _⟩
 | some m=>
  refine(gK m xs.length c (xs.flatten.map (Value.int .i64)) (by rw[List.length_map,LV l]) q ?_ ?_).mono ?_
  ·intro j u f
   have s:0 < xs.length:=by
    rcases Nat.eq_zero_or_pos xs.length with d|d
    ·rw[List.length_eq_zero_iff.1 d] at f;simp at f
    ·exact d
   have:=g s
   injection this with this;subst this;rw[Addr.add_lit];exact KS.flat k j u f
  ·intro u r;obtain⟨i,_,rfl⟩:=List.mem_map.1 r;rfl
  ·rintro e w' ⟨u,rfl,o,p⟩;exact⟨u,rfl,AA.ofFlat o l rfl,p⟩
theorem mP {w:World}{a:Option Addr}{c:Nat}{xs:Jc}(h:EB 2 w (.slice a xs.length c) xs) (k:0 < xs.length) :
  ∃b o vs,a=some ⟨b,o,none⟩/\vs.length=xs.length/\(∀(j:Nat) (u:Value),vs[j]? = some u->w.cell? ⟨b,o+j,none⟩=some u)/\WK w vs xs/\∀u∈vs,u.oneCell'=true:=by
 obtain⟨q,r,b,o,f,n,p,_⟩:=h;injection f with hv1 hv2 hv3;have l:((List.range xs.length).map fun j=>(w.cell? ⟨b,o+j,none⟩).getD (.slice none 0 0)).length=xs.length:=by rw[List.length_map,List.length_range]
 have g:∀(j:Nat) (u:Value),((List.range xs.length).map fun j=>(w.cell? ⟨b,o+j,none⟩).getD (.slice none 0 0))[j]? = some u->w.cell? ⟨b,o+j,none⟩=some u/\CO 2 w u (xs.getD j []):=fun j u d=>by
  have e:j < xs.length:=by have:=(List.getElem?_eq_some_iff.1 d).1;omega
  obtain⟨v,i,m⟩:=p j e;rw[List.getElem?_map,List.getElem?_range e] at d;injection d with d;have d:(w.cell? ⟨b,o+j,none⟩).getD (.slice none 0 0)=u:=d;rw[i] at d;have d:v=u:=d;subst d;exact⟨i,m⟩
 refine⟨b,o,_,hv1.trans (n k),l,fun j u d=>(g j u d).1,⟨l,fun j v u f d=>?_⟩,fun u d=>?_⟩
 ·have:=(g j v f).2
  rwa [List.getD_eq_getElem?_getD,d] at this
 ·obtain⟨j,e,rfl⟩:=List.getElem_of_mem d;exact(g j _ (List.getElem?_eq_getElem e)).2.oneCell
theorem gH {w:World}{v:Value}{ss:Jc}(h:EB 2 w v ss) (n:ss.length<=1000000) :
  Calls Tryz.prog 90 #[v] w fun e w'=>∃u,e = .returned u/\AA 38 1 (DP w) w' w.heap.size u ss.length ss/\Go.RowKit.Below w.heap.size w w':=by
 obtain⟨a,c,rfl⟩:=h.shape;rcases Nat.eq_zero_or_pos ss.length with d|d
 ·obtain rfl:=List.length_eq_zero_iff.1 d;cases a with
  | none=>
   refine(gJ _ _).mono ?_;rintro e w' ⟨rfl,rfl⟩;exact⟨_,rfl,AA.nil _ _,wB _ _⟩
  | some i=>
   refine(WU i 0 c [] rfl (by decide) (fun j u g=>by simp at g) (by simp)).mono ?_;rintro e w' ⟨u,rfl,o,f⟩;exact⟨u,rfl,AA.ofWK o ⟨rfl,by simp⟩,f⟩
 ·obtain⟨b,m,s,rfl,p,l,W,k⟩:=mP h d;refine(WU ⟨b,m,none⟩ ss.length c s (by omega) n (fun j u g=>by rw[Addr.add_lit];exact l j u g) k).mono ?_;rintro e w' ⟨u,rfl,o,f⟩;exact⟨u,rfl,AA.ofWK o W,f⟩
theorem tS (p:Option Addr) (cap:Nat) (w:World):Calls Tryz.prog 197 #[.slice p 0 cap,.func (.func 92) #[] #[]] w fun e w'=>e = .returned (.tuple #[])/\w'=w:=
 AnyF.slices_SortFunc_none (P:=Tryz.prog) (ρ:=Tryz.sortVs_ren) { Tryz.sortVs with } p cap (.func (.func 92) #[] #[]) w
theorem iC (p:Option Addr) (cap:Nat) (w:World):Calls Tryz.prog 198 #[.slice p 0 cap,.func (.func 199) #[] #[]] w fun e w'=>e = .returned (.slice p 0 cap)/\w'=w:=by
 go_enter Tryz.func198, Tryz.ntmps198
 go_wp2;go_ret;exact⟨rfl,rfl⟩
def EVx (w:World) (cs:List Value) (x:Jb):Prop:=∃a c,cs = [.slice a x.length c]/\AA 83 2 EI w 0 (.slice a x.length c) x.length x
theorem EVx.stab {E:TypeId}(h:83 ≠ E):CP E EVx:=fun _ _ _ _ ⟨a,c,e,k⟩ x=>⟨a,c,e,k.other (EI.stab _) h x⟩
theorem EVx.stb:CP 38 EVx:=EVx.stab (by decide)
theorem EVx.stc:CP 57 EVx:=EVx.stab (by decide)
def aW:List Oper:=[⟨some 30,.fieldAddr 57 (.tmp 4) 0,0,"complex.go:103",#[],none⟩,⟨some 31,.load 55 (.tmp 30),55,"complex.go:103",#[⟨0,.data⟩],none⟩,⟨some 32,.move (.tmp 6),38,"complex.go:103",#[],none⟩,⟨some 33,.call { callee:=.value (.func 200),args:=#[.tmp 32],argTypes:=#[38] },38,"complex.go:103",#[⟨2,.data⟩],none⟩,⟨some 34,.buildSlice 55 1 #[(0,.tmp 33)],55,"complex.go:103",#[⟨3,.data⟩],none⟩,⟨some 35,.call { callee:=.builtin .append,args:=#[.tmp 31,.tmp 34],argTypes:=#[55,55] },55,"complex.go:103",#[⟨1,.data⟩,⟨4,.data⟩,⟨3,.chain⟩],none⟩,⟨some 36,.fieldAddr 57 (.tmp 4) 0,0,"complex.go:103",#[⟨0,.phase⟩,⟨1,.phase⟩,⟨2,.phase⟩,⟨3,.phase⟩,⟨4,.phase⟩,⟨5,.phase⟩],none⟩,⟨none,.store 55 (.tmp 36) (.tmp 35),0,"complex.go:103",#[⟨6,.data⟩,⟨5,.data⟩,⟨5,.chain⟩,⟨0,.phase⟩,⟨1,.phase⟩,⟨2,.phase⟩,⟨3,.phase⟩,⟨4,.phase⟩,⟨5,.phase⟩],none⟩]
theorem rM {w:World}{x0 x1 x2 x3 x5 x7 x8 x9 a4 a5 a6 a7 a8 a9 a' b0 b1 b2 b4 b5 b6 b7 b8 b9 b' c0 c1 c2 d6 d7 d8 d9 d' e0 e2 c4 c5:Value}{c':Exit->Act->World->Prop}{b B L sc:Nat}{J P:Option Addr}{xs:Jc}{s:Jb}
  (k4:w.heap[b]? = some (.cells #[.slice J xs.length L] 57)) (ho:AA 38 1 EVx w B (.slice J xs.length L) xs.length xs) (hs:∀W,Below B w W->CO 2 W (.slice P s.length sc) s) (e':s.length<=1000000) (f':xs.length<=1000000) (e5:B<=b)
  (e6:∀(A N C _y7:Value) (W:World),(Below B w W/\((fun i=>decide (i < 8)) 7=false->W.heap[b]? = some (.cells #[.slice J xs.length L] 57))/\((fun i=>decide (i < 8)) 5=false->AA 38 1 EVx W B (.slice J xs.length L) xs.length xs)/\((fun i=>decide (i < 8)) 3=true->(∃a c,A = .slice a s.length c)/\AA 83 2 EI W 0 A s.length s)/\((fun i=>decide (i < 8)) 4=true->(fun i=>decide (i < 8)) 5=false->∃g,N = .slice (some ⟨g,0,none⟩) 1 1/\W.heap[g]? = some (.cells #[A] 38))/\((fun i=>decide (i < 8)) 5=true->(∃a c,C = .slice a (xs.length+1) c)/\AA 38 1 EVx W B C (xs.length+1) (xs ++ [s]))/\((fun i=>decide (i < 8)) 7=true->W.heap[b]? = some (.cells #[C] 57))/\w.heap.size<=W.heap.size)->(True)->(True)->(True)->(True)->c' .normal ⟨#[x0,x1,x2,x3,.pointer (some ⟨b,0,none⟩),x5,.slice P s.length sc,x7,x8,x9,a4,a5,a6,a7,a8,a9,a',b0,b1,b2,b4,b5,b6,b7,b8,b9,b',c0,c1,c2,.pointer (some ⟨b,0,none⟩),.slice J xs.length L,.slice P s.length sc,A,N,C,.pointer (some ⟨b,0,none⟩),c4,c5],[]⟩ W) :
  (Code.region 10 aW.toArray true).wp Tryz.prog c' ⟨#[x0,x1,x2,x3,.pointer (some ⟨b,0,none⟩),x5,.slice P s.length sc,x7,x8,x9,a4,a5,a6,a7,a8,a9,a',b0,b1,b2,b4,b5,b6,b7,b8,b9,b',c0,c1,c2,d6,d7,d8,d9,d',e0,e2,c4,c5],[]⟩ w:=by
 have Y:B<=w.heap.size:=by have:=(wD.1 k4).1;omega
 refine GB (l:=aW) (F:=(fun y=>⟨#[x0,x1,x2,x3,.pointer (some ⟨b,0,none⟩),x5,.slice P s.length sc,x7,x8,x9,a4,a5,a6,a7,a8,a9,a',b0,b1,b2,b4,b5,b6,b7,b8,b9,b',c0,c1,c2,y 0,y 1,y 2,y 3,y 4,y 5,y 6,c4,c5],[]⟩)) (Φ:=[AI (.pointer (some ⟨b,0,none⟩)),AI (.slice J xs.length L),AI (.slice P s.length sc),CM,CM,CM,AI (.pointer (some ⟨b,0,none⟩)),CM]) (R:=(fun _ _=>True)) (G:=(fun D y W=>Below B w W/\(D 7=false->W.heap[b]? = some (.cells #[.slice J xs.length L] 57))/\(D 5=false->AA 38 1 EVx W B (.slice J xs.length L) xs.length xs)/\(D 3=true->(∃a c,(y 3) = .slice a s.length c)/\AA 83 2 EI W 0 (y 3) s.length s)/\(D 4=true->D 5=false->∃g,(y 4) = .slice (some ⟨g,0,none⟩) 1 1/\W.heap[g]? = some (.cells #[(y 3)] 38))/\(D 5=true->(∃a c,(y 5) = .slice a (xs.length+1) c)/\AA 38 1 EVx W B (y 5) (xs.length+1) (xs ++ [s]))/\(D 7=true->W.heap[b]? = some (.cells #[(y 5)] 57))/\w.heap.size<=W.heap.size)) ⟨?s0,?s1,?s2,?s3,?s4,?s5,?s6,?s7,trivial⟩ (fun i=>([d6,d7,d8,d9,d',e0,e2,undef]:List Value).getD i undef) (by kernel_rfl) (by kernel_rfl) ⟨sE,sE,sE,fun _ _ _ h _=>h,fun _ _ _ h _=>h,fun _ _ _ h _=>h,sE,fun _ _ _ h _=>h,trivial⟩ ?g0 ?gx ?fin
 case s0|s2|s6=>
  refine .q0 (CE rfl) (fun _=>trivial) (fun _ _ _ h=>h) (fun _=>rfl) fun y W K r=>?_;go_simp;exact r
 case s1=>
  refine AL.mk rfl (AD 0 fun y0=>AD 3 fun A=>AD 4 fun N=>AD 5 fun C=>fun y D W K k z e d r=>?_);obtain rfl:=(e.get 0 rfl).2;dsimp [AJ] at d|-
  have o:=z.no (j:=7) (i:=1) rfl (by kernel_rfl) k;obtain⟨n,m,u,v,E,H,M,f⟩:=d;have z0:=wJ (m o);go_simp;exact r _ _ trivial ⟨n,m,u,v,E,H,M,f⟩ rfl
 case s3=>
  refine AL.mk rfl (AD 2 fun y2=>AD 3 fun A=>AD 4 fun N=>AD 5 fun C=>fun y D W K k z e d r=>?_);obtain rfl:=(e.get 2 rfl).2;dsimp [AJ] at d|-
  have V:=z.no (j:=4) (i:=3) rfl (by kernel_rfl) k;have t:=z.no (j:=5) (i:=3) rfl (by kernel_rfl) k;have o:=z.no (j:=7) (i:=3) rfl (by kernel_rfl) k;obtain⟨n,m,u,v,E,H,M,f⟩:=d;go_simp;refine(gL (hs W n).ks e').mono ?_;rintro f7 W9 ⟨u9,rfl,h9,O⟩;obtain⟨Q,S,rfl⟩:=h9.shape;exact r _ _ trivial ⟨n.trans (O.mono (wI Y f)),fun _=>AN O (m o),fun _=>(u t).keep EVx.stb O,fun _=>⟨⟨_,_,rfl⟩,h9.base (Nat.zero_le _)⟩,fun h=>(by rw[show AP D 3 4=D 4 from rfl,V] at h;cases h),fun h=>(by rw[show AP D 3 5=D 5 from rfl,t] at h;cases h),fun h=>(by rw[show AP D 3 7=D 7 from rfl,o] at h;cases h),wI f O.size⟩ trivial
 case s4=>
  refine AL.mk rfl (AD 3 fun A=>AD 4 fun N=>AD 5 fun C=>fun y D W K k z e d r=>?_);have T:=(e.get 3 rfl).1;dsimp [AJ] at d|-
  have t:=z.no (j:=5) (i:=4) rfl (by kernel_rfl) k;have o:=z.no (j:=7) (i:=4) rfl (by kernel_rfl) k;have T:=(e.get 3 rfl).1;obtain⟨n,m,u,v,E,H,M,f⟩:=d;obtain⟨⟨Q,S,e1⟩,X⟩:=v T;subst e1;have U:Below W.heap.size W (W.alloc (.cells #[.slice Q s.length S] 38)):=(wB _ W).alloc (wC _) _;go_simp;exact r _ _ trivial ⟨n.trans (U.mono (wI Y f)),fun _=>AN U (m o),fun _=>(u t).keep EVx.stb U,fun _=>⟨⟨_,_,rfl⟩,X.keep (EI.stab _) U⟩,fun _ _=>⟨_,rfl,wE W _⟩,fun h=>(by rw[show AP D 4 5=D 5 from rfl,t] at h;cases h),fun h=>(by rw[show AP D 4 7=D 7 from rfl,o] at h;cases h),wI f U.size⟩ trivial
 case s5=>
  refine AL.mk rfl (AD 1 fun y1=>AD 3 fun A=>AD 4 fun N=>AD 5 fun C=>fun y D W K k z e d r=>?_);obtain rfl:=(e.get 1 rfl).2;have V:=(e.get 4 rfl).1;have T:=(e.get 3 rfl).1;dsimp [AJ] at d|-
  have o:=z.no (j:=7) (i:=5) rfl (by kernel_rfl) k;have T:=(e.get 3 rfl).1;have V:=(e.get 4 rfl).1;obtain⟨n,m,u,v,E,H,M,f⟩:=d;obtain⟨⟨Q,S,e1⟩,X⟩:=v T;subst e1;obtain⟨g,e4,hg⟩:=E V k;subst e4;refine KF (B:=B) (cs:=[.slice Q s.length S]) (x:=s) GR (by decide) (by decide) EVx.stb _ _ (by rfl) (by rfl) (u k) ⟨g,0,none⟩ 1 (by rfl) rfl (World.news_of_block hg) (fun g1 hu=>by rw[List.mem_singleton.1 hu];rfl) ⟨Q,S,rfl,X⟩ (by omega) (wI Y f) ?_;intro v9 w9 Z e8 f9 O d4;obtain⟨d0,c9,rfl⟩:=Z.shape;exact r _ _ trivial ⟨n.trans O,fun _=>(d4 b _ _ (m o) (by decide)).trans (m o),fun h=>(by cases h),fun _=>⟨⟨_,_,rfl⟩,X.other (EI.stab _) (by decide) d4⟩,fun _ h=>(by cases h),fun _=>⟨⟨_,_,rfl⟩,Z⟩,fun h=>(by rw[show AP D 5 7=D 7 from rfl,o] at h;cases h),wI f e8.size⟩ trivial
 case s7=>
  refine AL.mk rfl (AD 6 fun y6=>AD 3 fun A=>AD 4 fun N=>AD 5 fun C=>fun y D W K k _ e d r=>?_);obtain rfl:=(e.get 6 rfl).2;have t:=(e.get 5 rfl).1;dsimp [AJ] at d|-
  have t:=(e.get 5 rfl).1;obtain⟨n,m,u,v,E,H,M,f⟩:=d;obtain⟨⟨d0,c9,f1⟩,Z⟩:=H t;subst f1;have k7:=m k;have z0:=wJ k7;have fz:=BG k7;have hX:=AE.setCell (p:=⟨b,0,none⟩) k7 (.slice d0 (xs.length+1) c9);go_simp;exact r undef _ trivial ⟨n.setCell (p:=⟨b,0,none⟩) e5 _,fun h=>(by cases h),fun h=>(by rw[show AP D 7 5=D 5 from rfl,t] at h;cases h),fun h=>(let ⟨f2,q⟩:=v h;⟨f2,q.other (EI.stab _) (by decide) hX⟩),fun _ h=>(by rw[show AP D 7 5=D 5 from rfl,t] at h;cases h),fun _=>⟨⟨_,_,rfl⟩,Z.other EVx.stc (by decide) hX⟩,fun _=>heap_setCell_same W b 0 _ _ _ k7,(by simpa using f)⟩ trivial
 case g0=>exact⟨(wH (wB _ w) 1).mono Y,fun _=>k4,fun _=>ho.keep EVx.stb (wH (wB _ w) 1),fun h=>(by cases h),fun h=>(by cases h),fun h=>(by cases h),fun h=>(by cases h),wC _⟩
 case gx=>exact fun D D' y W h ⟨n,m,u,v,E,H,M,f⟩=>⟨n,fun q=>m ((h 7 (by decide)).trans q),fun q=>u ((h 5 (by decide)).trans q),fun q=>v ((h 3 (by decide)).trans q),fun q q'=>E ((h 4 (by decide)).trans q) ((h 5 (by decide)).trans q'),fun q=>H ((h 5 (by decide)).trans q),fun q=>M ((h 7 (by decide)).trans q),f⟩
 case fin=>
  intro y W d I;try dsimp only
  rw[(AG I 0:y 0=_),(AG I 1:y 1=_),(AG I 2:y 2=_),(AG I 6:y 6=_)];exact e6 (y 3) (y 4) (y 5) (y 7) W d (AG I 3) (AG I 4) (AG I 5) (AG I 7)
def VS (s:Jb):Prop:=∀x∈s,x.length=2
theorem SW:∀ {a b:Jb},VS a->VS b->a.flatten=b.flatten->a=b
 | [],[],_,_,_=>rfl
 | [],y::t,_,hb,h=>by obtain⟨p,q,rfl⟩:=BZ (hb y (by simp));simp at h
 | x::r,[],ha,_,h=>by obtain⟨p,q,rfl⟩:=BZ (ha x (by simp));simp at h
 | x::r,y::t,ha,hb,h=>by
  rw[List.flatten_cons,List.flatten_cons] at h;obtain⟨d,e⟩:=List.append_inj h (by rw[ha x (by simp),hb y (by simp)]);rw[d,SW (fun z c=>ha z (by simp[c])) (fun z c=>hb z (by simp[c])) e]
theorem gW {a b:Jb}(c:VS a) (d:VS b):BS a b=0↔a=b:=by
 unfold BS;rw[cmpL_zero];exact⟨SW c d,fun h=>by rw[h]⟩
theorem XD (a b:Jb) (h:BS a b < 0) : ¬BS b a < 0:=KN _ _ h
theorem XH {a b c:Jb}(h:BS a b < 0) (k:BS b c < 0):BS a c < 0:=JV _ _ _ h k
theorem SE {a b:Jb}(c:VS a) (d:VS b):BS a b < 0\/a=b\/BS b a < 0:=by
 rcases OA a.flatten b.flatten with h|h|h
 ·exact .inl h
 ·exact .inr (.inl (SW c d h))
 ·exact .inr (.inr h)
def FJ (l:Jc):Prop:=l.Pairwise fun a b=>BS a b < 0
theorem fF {l c:Jc}(d:FJ l) (e:FJ c) (h:∀x,x∈l↔x∈c):l=c:=UU (lt:=fun a b=>BS a b < 0) XD d e h
theorem PU:∀(l:Jc) (z:Jb),z∈BN l↔z∈l
 | [],z=>by simp[BN]
 | [x],z=>by simp[BN]
 | x::y::r,z=>by
  rw[BN];split
  ·rename_i h;subst h
   rw[PU (x::r)];simp
  ·rw[List.mem_cons,PU (y::r),List.mem_cons (a:=z) (b:=x)]
theorem SG:∀ {l:Jc},(∀s∈l,VS s)->l.Pairwise (fun a b=>¬BS b a < 0)->FJ (BN l)
 | [],_,_=>by simp[BN,FJ]
 | [x],_,_=>by simp[BN,FJ]
 | x::y::r,hv,h=>by
  have j:=hv x (by simp);have i:=hv y (by simp);have e:∀s∈y::r,VS s:=fun s g=>hv s (by simp at g|-;exact .inr g);rw[List.pairwise_cons] at h;rw[BN];split
  ·exact SG e h.2
  ·rename_i n
   refine List.pairwise_cons.2 ⟨fun z d=>?_,SG e h.2⟩;have d:=(PU _ _).1 d
   have f:BS x y < 0:=by
    rcases SE j i with c|c|c
    ·exact c
    ·exact absurd c n
    ·exact absurd c (h.1 y (by simp))
   rcases List.mem_cons.1 d with rfl|d
   ·exact f
   ·rcases SE i (e z (by simp[d])) with c|rfl|c
    ·exact XH f c
    ·exact f
    ·exact absurd c ((List.pairwise_cons.1 h.2).1 z d)
def JG (x:Jb):Jc->Jc
 | []=>[x]
 | y::r=>if x=y then y::r else if BS x y < 0 then x::y::r else y::JG x r
def QH (l:Jc):Jc:=l.foldl (fun a x=>JG x a) []
theorem QF (x:Jb):∀(l:Jc) (z:Jb),z∈JG x l↔z=x\/z∈l
 | [],z=>by simp[JG]
 | y::r,z=>by
  rw[JG];split
  ·rename_i h;subst h;simp
  ·split
   ·simp
   ·rw[List.mem_cons,QF x r,List.mem_cons];constructor
    ·rintro(h|h|h)
     ·exact .inr (.inl h)
     ·exact .inl h
     ·exact .inr (.inr h)
    ·rintro(h|h|h)
     ·exact .inr (.inl h)
     ·exact .inl h
     ·exact .inr (.inr h)
theorem ZM {x:Jb}(d:VS x):∀ {l:Jc},(∀s∈l,VS s)->FJ l->FJ (JG x l)
 | [],_,_=>by simp[JG,FJ]
 | y::r,hv,h=>by
  have g:=hv y (by simp);have c:=List.pairwise_cons.1 h;rw[JG];split
  ·exact h
  ·rename_i n
   split
   ·rename_i t
    refine List.pairwise_cons.2 ⟨fun z a=>?_,h⟩;rcases List.mem_cons.1 a with rfl|a
    ·exact t
    ·exact XH t (c.1 z a)
   ·rename_i e
    have i:BS y x < 0:=by
     rcases SE d g with b|b|b
     ·exact absurd b e
     ·exact absurd b n
     ·exact b
    refine List.pairwise_cons.2 ⟨fun z a=>?_,ZM d (fun s f=>hv s (by simp[f])) c.2⟩;rcases(QF x r z).1 a with rfl|a
    ·exact i
    ·exact c.1 z a
theorem YQ:∀(l a:Jc) (z:Jb),z∈l.foldl (fun a x=>JG x a) a↔z∈a\/z∈l
 | [],a,z=>by simp
 | x::r,a,z=>by
  rw[List.foldl_cons,YQ r,QF,List.mem_cons];constructor
  ·rintro((h|h)|h)
   ·exact .inr (.inl h)
   ·exact .inl h
   ·exact .inr (.inr h)
  ·rintro(h|h|h)
   ·exact .inl (.inr h)
   ·exact .inl (.inl h)
   ·exact .inr h
theorem ZV (l:Jc) (z:Jb):z∈QH l↔z∈l:=by
 unfold QH;rw[YQ];simp
theorem YP:∀ {l a:Jc},(∀s∈l,VS s)->(∀s∈a,VS s)->FJ a->FJ (l.foldl (fun a x=>JG x a) a)
 | [],a,_,_,h=>h
 | x::r,a,hl,ha,h=>by
  rw[List.foldl_cons];refine YP (fun s hs=>hl s (by simp[hs])) (fun s hs=>?_) (ZM (hl x (by simp)) ha h);rcases(QF x a s).1 hs with rfl|hs
  ·exact hl s (by simp)
  ·exact ha s hs
theorem ZU {l:Jc}(h:∀s∈l,VS s):FJ (QH l):=YP h (by simp) List.Pairwise.nil
def pf (s t:Jb):Bool:=decide (s.length < t.length) && decide (∀x∈s,x∈t)
def JB (ss:Jc):Jc:=QH (ss.filter fun s=>!s.isEmpty && !(ss.any fun t=>pf s t))
def IX (s:Jb):Prop:=0 < s.length/\s.length<=8/\(∀x∈s,EZ x=true)/\LG s
theorem WJ:∀ {r:Jb}{p:List Int},DW p r=0->(∀x∈r,EZ x=true)/\LG (p::r)
 | [],p,_=>⟨by simp,List.pairwise_singleton _ _⟩
 | x::r,p,h=>by
  rw[DW] at h;by_cases b:EZ x=false
  ·rw[if_pos b] at h;cases h
  rw[if_neg b] at h;by_cases c:0<=AH p x
  ·rw[if_pos c] at h;cases h
  rw[if_neg c] at h;obtain⟨e,d⟩:=WJ h;refine⟨fun z a=>?_,List.pairwise_cons.2 ⟨fun z a=>?_,d⟩⟩
  ·rcases List.mem_cons.1 a with rfl|a
   ·simpa using b
   ·exact e z a
  ·rcases List.mem_cons.1 a with rfl|a
   ·omega
   ·exact JV _ _ _ (by omega) ((List.pairwise_cons.1 d).1 z a)
theorem fU {s:Jb}(h:CX s=0):IX s:=by
 unfold CX at h;by_cases a:s.length=0
 ·rw[if_pos a] at h;cases h
 rw[if_neg a] at h;by_cases d:8 < s.length
 ·rw[if_pos d] at h;cases h
 rw[if_neg d] at h;cases s with
 | nil=>exact absurd rfl a
 | cons x r=>
  simp only at h
  by_cases b:EZ x=false
  ·rw[if_pos b] at h;cases h
  rw[if_neg b] at h;obtain⟨e,f⟩:=WJ h;refine⟨by simp,by omega,fun z c=>?_,f⟩;rcases List.mem_cons.1 c with rfl|c
  ·simpa using b
  ·exact e z c
theorem WL:∀ {r:Jb}{p:List Int},(∀x∈r,EZ x=true)->LG (p::r)->DW p r=0
 | [],p,_,_=>rfl
 | x::r,p,h1,h2=>by
  have h:=List.pairwise_cons.1 h2;rw[DW,if_neg (by rw[h1 x (by simp)];decide),if_neg (by have:=h.1 x (by simp);omega)];exact WL (fun z a=>h1 z (by simp[a])) h.2
theorem RZ {s:Jb}(h:IX s):CX s=0:=by
 obtain⟨d,e,a,b⟩:=h;unfold CX;rw[if_neg (by omega),if_neg (by omega)];cases s with
 | nil=>rfl
 | cons x r=>
  simp only
  rw[if_neg (by rw[a x (by simp)];decide)];exact WL (fun z c=>a z (by simp[c])) b
theorem ZG (L:Jc) (n:Nat) (p:List Int × Nat):p∈DZ L n↔p.2 < n/\p.1∈L.getD p.2 []:=by
 unfold DZ;rw[List.mem_flatMap];constructor
 ·rintro⟨j,b,c⟩;obtain⟨x,d,rfl⟩:=List.mem_map.1 c;exact⟨List.mem_range.1 b,d⟩
 ·rintro⟨h,a⟩;exact⟨p.2,List.mem_range.2 h,List.mem_map.2 ⟨p.1,a,rfl⟩⟩
theorem QP (L:Jc) (n:Nat) (r:List Int) (i:Nat):i∈CB (DZ L n) r↔i < n/\r∈L.getD i []:=by
 unfold CB;rw[List.mem_map];constructor
 ·rintro⟨p,c,rfl⟩;rw[List.mem_filter,ZG] at c;obtain⟨⟨h,a⟩,b⟩:=c;simp only[decide_eq_true_eq] at b;exact⟨h,b▸a⟩
 ·rintro⟨h,a⟩;exact⟨(r,i),by rw[List.mem_filter,ZG];exact⟨⟨h,a⟩,by simp⟩,rfl⟩
theorem XM {L:Jc}(f:∀t∈L,LG t) {s:Jb}(hs:LG s) (c:0 < s.length):((CB (DZ L L.length) (s.getD 0 [])).any fun i=>EP s (L.getD i []))=L.any fun t=>pf s t:=by
 have p:∀t∈L,EP s t=pf s t:=fun t b=>by unfold EP pf;rw[SV hs (f t b)]
 rw[Bool.eq_iff_iff,List.any_eq_true,List.any_eq_true];constructor
 ·rintro⟨i,a,h⟩;obtain⟨d,g⟩:=(QP _ _ _ _).1 a;have m:L.getD i []∈L:=by rw[AK d];exact wG d
  exact⟨_,m,by rw[<-p _ m];exact h⟩
 ·rintro⟨t,b,h⟩;obtain⟨i,a,rfl⟩:=List.getElem_of_mem b;have e:L.getD i []=L[i]:=AK a [];refine⟨i,(QP _ _ _ _).2 ⟨a,?_⟩,by rw[e,p _ b];exact h⟩;rw[e];unfold pf at h;rw[Bool.and_eq_true] at h;exact of_decide_eq_true h.2 _ (by rw[AK c];exact wG c)
theorem iT {ss L:Jc}(v:∀s∈ss,VS s) (hs:∀s∈ss,IX s) (e:FJ L) (m:∀z,z∈L↔z∈ss):(L.filter fun s=>!((CB (DZ L L.length) (s.getD 0 [])).any fun i=>EP s (L.getD i [])))=JB ss:=by
 have n:∀s,(L.any fun t=>pf s t)=ss.any fun t=>pf s t:=fun s=>by
  rw[Bool.eq_iff_iff,List.any_eq_true,List.any_eq_true];exact⟨fun⟨t,b,c⟩=>⟨t,(m t).1 b,c⟩,fun⟨t,b,c⟩=>⟨t,(m t).2 b,c⟩⟩
 unfold JB;refine fF (e.filter _) (ZU fun s h=>v s (List.mem_filter.1 h).1) fun z=>?_;rw[ZV,List.mem_filter,List.mem_filter,m];refine and_congr_right fun g=>?_;obtain⟨b,c,j,d⟩:=hs z g;rw[XM (fun t f=>(hs t ((m t).1 f)).2.2.2) d b,n]
 have:z.isEmpty=false:=by cases z with
  | nil=>simp at b
  | cons a r=>rfl
 rw[this];simp
end Go.Proofs.YtcnedkkcgdkioaaGreat
namespace Go.Proofs.YtcnedkkcgdkioaaGreat
open Go.RowKit Go.ChangeMaps Go.MapKept Go.WideMaps
theorem tQ {w0 w:World}{B n c:Nat}{a:Option Addr}{u:Jc}(i:Below w0.heap.size w0 w) (f:w0.heap.size<=B) (h:AA 38 1 (DP w0) w B (.slice a n c) n u) (k:n<=1000000) :
  Calls Tryz.prog 197 #[.slice a n c,.func (.func 92) #[] #[]] w fun e w'=>
   e = .returned (.tuple #[])/\∃s:Jc,s.Perm u/\s.Pairwise (fun a b=>¬BS b a < 0)/\AA 38 1 (DP w0) w' B (.slice a n c) n s/\Below B w w':=by
 rcases Nat.eq_zero_or_pos n with d|d
 ·subst d;have l:u = []:=List.length_eq_zero_iff.1 h.length;subst l;refine(tS a c w).mono ?_;rintro e w' ⟨rfl,rfl⟩;exact⟨rfl,[],List.Perm.refl _,List.Pairwise.nil,h,wB _ _⟩
 ·obtain⟨g,p,j,_⟩:=h.form d;injection j with e1 e2 e3;subst e1 e3;exact tR i f h k
theorem iB {w0 w:World}{B n c:Nat}{a:Option Addr}{xs:Jc}(j:Below w0.heap.size w0 w) (i:w0.heap.size<=B) (h:AA 38 1 (DP w0) w B (.slice a n c) n xs) (l:n<=1000) :
  Calls Tryz.prog 198 #[.slice a n c,.func (.func 199) #[] #[]] w fun e w'=>∃m,e = .returned (.slice a m c)/\AA 38 1 (DP w0) w' B (.slice a m c) m (BN xs)/\Below B w w':=by
 rcases Nat.eq_zero_or_pos n with b|b
 ·subst b;have u:xs = []:=List.length_eq_zero_iff.1 h.length;subst u;refine(iC a c w).mono ?_;rintro e w' ⟨rfl,rfl⟩;exact⟨0,rfl,h,wB _ _⟩
 ·obtain⟨g,p,k,_⟩:=h.form b;injection k with e1 e2 e3;subst e1 e3;refine(iA j i h l).mono ?_;rintro e w' ⟨m,rfl,d,f,_⟩;exact⟨m,rfl,d,f⟩
theorem EM.look {w:World}{b B:Nat}{s:List (List Int × Nat)}{x:List Int}(h:EM w b B s) (f:IF x) :
  ∃z,(Instr.lookup 164 (.map (some b)) (NQ x) false).run Tryz.prog w = .ok z w/\OI w B z (CB s x).length (BF (CB s x)):=by
 obtain⟨m,M,W,T⟩:=h;rcases MX.look (vv:=(id:Value->Value)) TG UZ (VJ w) M.mx W f with⟨a,c,_⟩|⟨v,a,c,_⟩
 ·refine⟨_,c,?_⟩;rw[QQ fun y g e=>a (by rw[<-e];exact T.has y g)];exact OI.nil _ _
 ·obtain⟨i,d⟩:=List.mem_iff_getElem?.1 a;exact⟨v,c,(T.row i _ d).2⟩
theorem cQ {fn:Func}(h:fn.results = #[.cell 2 57]) (tmps:Array Value) (w:World) (g:Nat) {u0:Value}(p:tmps.getD 2 undef = .pointer (some ⟨g,0,none⟩)) (c:w.heap[g]? = some (.cells #[u0] 57)) :
  (results fn tmps).run Tryz.prog w = .ok (.agg #[u0]) w:=by
 have a:tmps[2]?.getD undef = .pointer (some ⟨g,0,none⟩):=by simpa using p
 have z:=wJ c;have b:=Tryz.isAgg57;have s:=Tryz.sizeOf57;simp only[results,h];simp[Sem.run_bind,Result.andThen,a,asAddr,loadVar]
 go_simp
def IA (w:World) (v:Value) (fs:Jc):Prop:=∃a c,v = .agg #[.slice a fs.length c]/\AA 38 1 EVx w 0 (.slice a fs.length c) fs.length fs
theorem EVx.ksc {w:World}{a:Option Addr}{c:Nat}{x:Jb}(h:AA 83 2 EI w 0 (.slice a x.length c) x.length x) (n:x.length<=1000000):CO 2 w (.slice a x.length c) x:=by
 obtain⟨i,j,b,o,e,d,f,g⟩:=h.ks (by omega);have p:=(AA.capM h).1;injection e with e1 _ e3;subst e1 e3;exact⟨_,_,b,o,rfl,d,f,g,p⟩
theorem AA.kssc {w:World}{B n:Nat}{v:Value}{fs:Jc}(h:AA 38 1 EVx w B v n fs) (A:n<=1000000) (q:∀x∈fs,x.length<=1000000):EB 2 w v fs:=by
 have r:=h.length;obtain⟨a,c,rfl⟩:=h.shape;subst r;have p:=(AA.capM h).1;rcases Nat.eq_zero_or_pos fs.length with d|d
 ·exact⟨a,c,0,0,rfl,fun h=>absurd h (by omega),fun j b=>absurd b (by omega),by omega,p⟩
 ·obtain⟨g,z,o,_⟩:=h.form d;injection o with e1 e e3;subst e1 e3;refine⟨_,_,g,0,rfl,fun _=>rfl,fun j b=>?_,by omega,p⟩;obtain⟨s,k,D,E,u⟩:=h;have C:s.length=fs.length * 1:=k.1;obtain⟨f,i,e,y⟩:=u j fs[j] (List.getElem?_eq_getElem b);have m:=World.ownsRow.cellAt k j (by omega)
  have t:s[j]? = some (.slice f fs[j].length i):=by
   have:=congrArg (fun l=>l[0]?) e
   simpa [List.getElem?_take,List.getElem?_drop] using this
  rw[AK b];refine⟨_,by rw[Nat.zero_add,m];exact t,EVx.ksc y (q _ (wG b))⟩
theorem FJ.nodup {l:Jc}(h:FJ l):l.Nodup:=h.imp fun {a b} c e=>by subst e;exact XD _ _ c c
theorem iI {w:World}{v:Value}{ss:Jc}(hK:EB 2 w v ss) (hn:ss.length<=1000) (U:∀s∈ss,VS s) (hs:∀s∈ss,IX s) :
  Calls Tryz.prog 147 #[v] w fun e w'=>∃v',e = .returned v'/\IA w' v' (JB ss)/\Below w.heap.size w w':=by
 obtain⟨V,g⟩:=AF (w.alloc (.cells #[.slice none 0 0] 57));have d0:Below w.heap.size w V:=by rw[g];exact(wB _ w).alloc (wC _) _
 have i0:V.heap.size=w.heap.size+1:=by rw[g];simp
 have kR:V.heap[w.heap.size]? = some (.cells #[.slice none 0 0] 57):=by rw[g];exact wE _ _
 have b8:=qH (gH (hK.keep d0) (by omega));obtain⟨va,vc,rfl⟩:=hK.shape;obtain⟨g',N⟩:=AB (ss.length);obtain⟨R,hR⟩:=AB (JB ss);rw[hR];rw[N] at b8 hn|-;replace N:=qH N;have g2:=qH kR;clear kR hK;go_enter Tryz.func147, Tryz.ntmps147
 go_wp2_with fail
 rw[<-g];replace g:=qH g;refine b8.out.mono ?_;rintro e w2 ⟨u2,rfl,O,d2⟩;obtain⟨a2,h3,rfl⟩:=O.shape;go_wp2_with fail
 refine(tQ d2 (wC _) O (by omega)).mono ?_;rintro e w3 ⟨rfl,e5,P,T,b,f2⟩;replace T:=qH T;go_wp2_with fail
 have d1:=d2.trans f2;refine(iB d1 (wC _) b (by omega)).mono ?_;rintro e w4 ⟨g3,rfl,G,f3⟩;have J:=d1.trans f3;obtain⟨L,n⟩:=AB (BN e5);rw[n] at G;have m:∀z,z∈L↔z∈ss:=fun z=>by rw[<-n,PU,P.mem_iff]
 have c':FJ L:=by rw[<-n];exact SG (fun s h=>U s (P.mem_iff.1 h)) (T.out.imp fun h=>by omega)
 have d4:=G.length
 have h9:g3<=1000:=by
  rw[<-d4,<-n];have:=XJ e5
  have:=P.length_eq
  have:=N.out
  omega
 have a4:=G.kssK J (by omega);have K:=iT U hs c' m;have I:∀s∈L,∀x∈s,IF x:=fun s h x D=>⟨U s ((m s).1 h) x D,(hs s ((m s).1 h)).2.2.1 x D⟩;have S:∀s∈L,0 < s.length/\s.length<=8:=fun s h=>⟨(hs s ((m s).1 h)).1,(hs s ((m s).1 h)).2.1⟩;have c0:=qH (ZI a4.kss I (by omega) (fun s h=>by have:=(S s h).2;omega));obtain⟨F,hF⟩:∃F:Jb->Bool,F=fun s=>!((CB (DZ L L.length) (s.getD 0 [])).any fun i=>EP s (L.getD i [])):=⟨_,rfl⟩;rw[<-hF,hR] at K;subst d4;have K:=qH K;clear n P T m c' U hs O b;go_wp2_with fail
 refine c0.out.mono ?_;rintro e a ⟨e8,rfl,c6,a7⟩;obtain⟨X,q⟩:=AF (a.alloc (.cells #[.slice none 0 0] 57));have f4:Below a.heap.size a X:=by rw[q];exact(wB _ _).alloc (wC _) _
 have k6:X.heap[a.heap.size]? = some (.cells #[.slice none 0 0] 57):=by rw[q];exact wE _ _
 have H:a.heap[w.heap.size]? = some (.cells #[.slice none 0 0] 57):=(a7.block _ (by have:=J.size;omega)).trans ((J.block _ (by omega)).trans g2.out);have f1:Below w.heap.size w a:=btt (d0.trans (J.mono (by omega))) a7;have g0:w.heap.size < a.heap.size:=(wD.1 H).1;have a5:=a4.keep a7;have HK:=qH (fun W (k:Below a.heap.size a W)=>And.intro (a5.keep k) (c6.keep k));have H:=qH H
 obtain⟨lb,lo,a6⟩:∃lb lo,(0 < L.length->a2=some ⟨lb,lo,none⟩)/\∀j,j < L.length->∃b5,a.cell? ⟨lb,lo+j,none⟩=some b5/\CO 2 a b5 (L.getD j []):=by
  obtain⟨h1,h2,b',g4,e,q1,q2,_⟩:=a5;injection e with e1 _ _;exact⟨b',g4,by rw[e1];exact q1,q2⟩
 obtain⟨a6,c3⟩:=a6;have f7:=qH c3;have h0:Hid (AA 38 1 EVx X a.heap.size (.slice none 0 0) 0 []):=AA.nil _ _;have c8:=qH S;have I:=qH I;have e':=qH hF;clear c3 G a4 a5 c0 hF S c6;go_wp2_with fail
 rw[<-q];replace q:=qH q;go_loopw [17] (fun iv wr=>∃(i:Nat) (o:Option Addr) (f:Nat),iv = .int .i64 i/\i<=L.length/\Hid (AA 38 1 EVx wr a.heap.size (.slice o ((L.take i).filter F).length f) ((L.take i).filter F).length ((L.take i).filter F)/\wr.heap[a.heap.size]? = some (.cells #[.slice o ((L.take i).filter F).length f] 57))/\Below a.heap.size a wr) (fun iv _=>L.length - (intOf iv).toNat)
 case atStart=>exact⟨0,none,0,rfl,by omega,⟨h0.out,k6⟩,f4⟩
 case round=>
  clear h0 k6;obtain⟨i,o,f,rfl,hi,d,r⟩:=hrel;by_cases M:i < L.length
  ·have h8:(i:Int) < (L.length:Int):=(by omega);obtain rfl:=a6 (by omega);obtain⟨b5,hu,y⟩:=f7.out i M;replace hu:=AC r hu;have a':L.getD i []∈L:=(by rw[AK M];exact wG M);have A:=BY M ([]:Jb);obtain⟨s,a9⟩:=AB (L.getD i []);rw[a9] at y a' A;obtain⟨Q,S⟩:=c8.out s a';obtain⟨sa,sc,sb,so,rfl,d5,d6,i1,i2⟩:=id y;obtain rfl:=d5 Q;obtain⟨x2,xi⟩:=d6 0 Q;have d8:=I.out s a' (s.getD 0 []) (by rw[AK Q];exact wG Q);obtain⟨c2,c7⟩:=HK.out wr r;obtain⟨z,a8,d'⟩:=c7.look d8;have u:=XN c2 (y.keep r) (OI.intsE d' (by have h5:=TT (DZ L L.length) (s.getD 0 []);have h6:=QE (ss:=L) (fun s h=>by have:=(c8.out s h).2;omega) L.length;omega)) (fun j hj=>((QP _ _ _ _).1 hj).1);have l:F s = !((CB (DZ L L.length) (s.getD 0 [])).any fun i=>EP s (L.getD i [])):=(by rw[e'.out]);obtain⟨C,hC⟩:∃C,((CB (DZ L L.length) (s.getD 0 [])).any fun i=>EP s (L.getD i []))=C:=⟨_,rfl⟩;rw[hC] at u l;have f9:=qH (fun W (k:Below a.heap.size a W)=>y.keep k);obtain⟨x,D⟩:=AB (s.getD 0 []);rw[D] at x2 xi a8;obtain⟨g5,g6,rfl⟩:=BZ x2;obtain⟨Z,c1⟩:=xi.all2;replace Z:=AC r Z;replace c1:=AC r c1;rw[Nat.zero_mul,Nat.add_zero] at Z c1;have a8:(Instr.lookup 164 (.map (some e8)) (.agg #[.int .i64 g5,.int .i64 g6]) false).run Tryz.prog wr = .ok z wr:=a8;have h':(0:Int) < (s.length:Int):=(by omega);have u:=qH u;clear hC D d8 d' c7 c2 xi x2 d6 y d5;cases C
   ·have t:(L.take (i+1)).filter F=(L.take i).filter F ++ [s]:=(by rw[A,List.filter_append];simp[l]);have d3:((L.take i).filter F).length<=1000000:=(by have:=List.length_filter_le F (L.take i);rw[List.length_take] at this;omega);obtain⟨xs,d9⟩:=AB ((L.take i).filter F);rw[d9] at t d3 d;have t:=qH t;have O:=qH d.out;clear A l d a9 d9;go_wp2_with fail
    refine u.out.mono ?_;rintro e w7 ⟨rfl,c⟩;have b:=O.out.1.keep EVx.stb c;have k3:=AN c O.out.2;go_upto_region 10 with fail
    refine rM (B:=a.heap.size) k3 b (fun W k=>f9.out W ((btt r c).trans k)) (by omega) d3 (wC _) ?_;rintro y3 y4 y5 - W9 ⟨g1,-,-,-,-,G6,G7,-⟩ - - - -;obtain⟨⟨Y,c9,rfl⟩,c4⟩:=G6 rfl;have k9:=G7 rfl
    have f0:Hid (AA 38 1 EVx W9 a.heap.size (.slice Y ((L.take (i+1)).filter F).length c9) ((L.take (i+1)).filter F).length ((L.take (i+1)).filter F)/\W9.heap[a.heap.size]? = some (.cells #[.slice Y ((L.take (i+1)).filter F).length c9] 57)):=by
     show _/\_;rw[t.out,List.length_append];exact⟨c4,k9⟩
    have f5:=(btt r c).trans g1;clear c4 k9 G6 G7 b k3 O;go_wp2_with fail
    go_roundw
    case rel=>exact⟨i+1,Y,c9,by go_num,by omega,f0,f5⟩
    case measure=>simp[intOf];omega
   ·have t:(L.take (i+1)).filter F=(L.take i).filter F:=(by rw[A,List.filter_append];simp[l]);have O:=d.out;rw[<-t] at O;have O:=qH O;clear A t l d a9;go_wp2_with fail
    refine u.out.mono ?_;rintro e w7 ⟨rfl,c⟩;have b:=qH (And.intro (O.out.1.keep EVx.stb c) (AN c O.out.2));go_wp2_with fail
    go_roundw
    case rel=>exact⟨i+1,o,f,by go_num,by omega,b,btt r c⟩
    case measure=>simp[intOf];omega
  ·obtain rfl:i=L.length:=(by omega);obtain⟨O,k2⟩:=d.out;rw[List.take_length,K.out] at O k2;have E:=(r.block _ g0).trans H.out;have z0:=wJ k2;have zr:=wJ E;have fz:=BG E;have m1:=heap_setCell_same wr w.heap.size 0 _ _ (.slice o R.length f) E;have b:=O.other EVx.stc (by decide) (AE.setCell (p:=⟨w.heap.size,0,none⟩) E (.slice o R.length f));have f6:=(btt f1 r).setCell (p:=⟨w.heap.size,0,none⟩) (wC _) (.slice o R.length f);have b:=qH b;replace m1:=qH m1;clear d O k2 E;go_wp2;exact⟨rfl,_,cQ rfl _ _ _ rfl m1.out,_,rfl,⟨_,_,rfl,b.out.base (Nat.zero_le _)⟩,f6⟩
end Go.Proofs.YtcnedkkcgdkioaaGreat

/- Texts of this claim, put together: JA OD OE OF. -/
import Derived.Test.YtcnedkkcgdkioaaGreatKBy

set_option maxRecDepth 100000
set_option maxHeartbeats 12800000
namespace Go.Proofs.YtcnedkkcgdkioaaGreat
theorem XA:∀ {a b:List Int},a.length=b.length->∀xs ys:List Int,AH (a++xs) (b++ys)=if AH a b=0 then AH xs ys else AH a b
 | [],[],_,_,_=>by simp[AH]
 | [],_::_,h,_,_=>by cases h
 | _::_,[],h,_,_=>by cases h
 | a::x,b::y,h,xs,ys=>by
  rw[List.cons_append,List.cons_append];by_cases e:AU a b=0
  ·rw[JA e,JA e,XA (by simpa using h)]
  ·rw[GP e,GP e,if_neg e]
section
variable {ss:Jc}
end
end Go.Proofs.YtcnedkkcgdkioaaGreat
namespace Go.Proofs.YtcnedkkcgdkioaaGreat
open Go.RowKit
def EB (k:Nat) (w:World) (v:Value) (xs:Jc):Prop:=
 ∃a c b o,v = .slice a xs.length c/\(0 < xs.length->a=some ⟨b,o,none⟩)/\(∀j,j < xs.length->∃u,w.cell? ⟨b,o+j,none⟩=some u/\CO k w u (xs.getD j []))/\xs.length<=5864062014805/\xs.length<=c
theorem EB.keep {k:Nat}{w w':World}{v:Value}{xs:Jc}(h:EB k w v xs) (d:Below w.heap.size w w'):EB k w' v xs:=by
 obtain⟨a,c,b,p,e,f,g,i⟩:=h;exact⟨a,c,b,p,e,f,fun j l=>let ⟨u,n,o⟩:=g j l;⟨u,AC d n,o.keep d⟩,i⟩
theorem EB.kss {k:Nat}{w:World}{v:Value}{xs:Jc}(h:EB k w v xs):BT k w v xs:=by
 obtain⟨a,c,b,o,d,e,f,g,_⟩:=h;exact⟨a,c,b,o,d,e,fun j i=>let ⟨u,l,n⟩:=f j i;⟨u,l,n.ks⟩,g⟩
theorem CO.shape {k:Nat}{w:World}{v:Value}{xs:Jb}(h:CO k w v xs):∃a c,v = .slice a xs.length c:=by
 obtain⟨a,c,_,_,b,_⟩:=h;exact⟨a,c,b⟩
theorem EB.shape {k:Nat}{w:World}{v:Value}{xs:Jc}(h:EB k w v xs):∃a c,v = .slice a xs.length c:=by
 obtain⟨a,c,_,_,b,_⟩:=h;exact⟨a,c,b⟩
def BS (a b:Jb):Int:=AH a.flatten b.flatten
theorem XE {x y:List Int}(h:x.length=y.length) (r t:Jb):BS (x::r) (y::t)=if AH x y=0 then BS r t else AH x y:=by
 unfold BS;rw[List.flatten_cons,List.flatten_cons,XA h]
theorem gU:BS [] []=0:=rfl
theorem XF {y:List Int}(h:y.length=2) (t:Jb):BS [] (y::t) = -1:=by
 obtain⟨a,b,rfl⟩:=BZ h;rfl
theorem XG {y:List Int}(h:y.length=2) (t:Jb):BS (y::t) []=1:=by
 obtain⟨a,b,rfl⟩:=BZ h;rfl
theorem iH {w:World}{u v:Value}{xs ys:Jb}(x:KS 2 w u xs) (y:KS 2 w v ys) :
  Calls Tryz.prog 148 #[u,v,.func (.func 111) #[] #[]] w fun e w'=>e = .returned (.int .i64 (BS xs ys))/\Below w.heap.size w w'/\w.drawn<=w'.drawn:=by
 obtain⟨xa,xc,xb,xo,rfl,a3,a4,b6⟩:=x;obtain⟨ya,yc,yb,yo,rfl,a5,a6,b7⟩:=y;obtain⟨E,J⟩:=AB (BS xs ys);rw[J];have T:Hid (BS (xs.drop 0) (ys.drop 0)=E):=J;obtain⟨n,q⟩:=AB (xs.length);obtain⟨m,p⟩:=AB (ys.length)
 have b5:Hid (∀i,i < n->i < m->(xs.getD i []).length=2->(ys.getD i []).length=2->BS (xs.drop i) (ys.drop i)=if AH (xs.getD i []) (ys.getD i [])=0 then BS (xs.drop (i+1)) (ys.drop (i+1)) else AH (xs.getD i []) (ys.getD i [])):=fun i U V l1 l2=>by
  have e1:xs.getD i []=xs[i]'(by rw[q];exact U):=AK (by rw[q];exact U) [];have t:ys.getD i []=ys[i]'(by rw[p];exact V):=AK (by rw[p];exact V) [];rw[List.drop_eq_getElem_cons (by omega),List.drop_eq_getElem_cons (l:=ys) (by omega),<-e1,<-t,XE (by rw[l1,l2])]
 have b3:Hid (n < m->(ys.getD n []).length=2->BS (xs.drop n) (ys.drop n) = -1):=fun h N=>by
  have t:ys.getD n []=ys[n]'(by rw[p];exact h):=AK (by rw[p];exact h) [];rw[List.drop_eq_nil_of_le (by omega),List.drop_eq_getElem_cons (l:=ys) (by omega),<-t,XF N]
 have b4:Hid (m < n->(xs.getD m []).length=2->BS (xs.drop m) (ys.drop m)=1):=fun h N=>by
  have t:xs.getD m []=xs[m]'(by rw[q];exact h):=AK (by rw[q];exact h) [];rw[show ys.drop m = [] from List.drop_eq_nil_of_le (by omega),List.drop_eq_getElem_cons (l:=xs) (by omega),<-t,XG N]
 have b2:Hid (n=m->BS (xs.drop n) (ys.drop m)=0):=fun h=>by
  rw[List.drop_eq_nil_of_le (by omega),List.drop_eq_nil_of_le (by omega)];rfl
 rw[q] at a3 b6|-;rw[p] at a5 b7|-;have b0:=qH (fun j (hj:j < n)=>a4 j (by omega));have a0:=qH (fun j (hj:j < m)=>a6 j (by omega));clear J q p a4 a6;go_enter Tryz.func148, Tryz.ntmps148
 go_wp2_with fail
 go_loopw [13] (fun M wr=>∃i:Nat,M = .int .i64 i/\i<=n/\i<=m/\Hid (BS (xs.drop i) (ys.drop i)=E)/\Below w.heap.size w wr/\Hid (w.drawn<=wr.drawn)) (fun M _=>n - (intOf M).toNat)
 case atStart=>exact⟨0,rfl,by omega,by omega,T,wB _ w,wC _⟩
 case round=>
  clear T;obtain⟨i,rfl,hi,c7,k,r,f⟩:=hrel;by_cases L:i < n
  ·have c6:(i:Int) < (n:Int):=(by omega);obtain rfl:=a3 (by omega);obtain⟨s,P⟩:=b0.out i L;obtain⟨c',x⟩:=AB (xs.getD i []);rw[x] at s P;obtain⟨a,b,rfl⟩:=BZ s;obtain⟨R,S⟩:=P.all2;replace R:=AC r R;replace S:=AC r S;clear P;by_cases C:i < m
   ·have hd:decide ((m:Int)<=(i:Int))=false:=vY (by omega);have c8:(i:Int) < (m:Int):=(by omega);obtain rfl:=a5 (by omega);obtain⟨I,Q⟩:=a0.out i C;obtain⟨d4,y⟩:=AB (ys.getD i []);rw[y] at I Q;obtain⟨c,d,rfl⟩:=BZ I;obtain⟨F,G⟩:=Q.all2;replace F:=AC r F;replace G:=AC r G;have g:=b5.out i L C (by rw[x];exact s) (by rw[y];exact I);rw[x,y,k.out] at g;clear Q s I x y;obtain⟨W2,W⟩:=AF ((wr.alloc (.cells #[.int .i64 a,.int .i64 b] 83)).alloc (.cells #[.int .i64 c,.int .i64 d] 83));have Y:Below wr.heap.size wr W2:=(by rw[W];exact((wB _ _).alloc (wC _) _).alloc (by simp) _);have a2:Hid (w.drawn<=W2.drawn):=(by rw[W];exact f);have c3:=AC (Below.alloc (wB wr.heap.size wr) (wC _) (.cells #[.int .i64 a,.int .i64 b] 83)) F;have c4:=AC (Below.alloc (wB wr.heap.size wr) (wC _) (.cells #[.int .i64 a,.int .i64 b] 83)) G
    have kA:W2.heap[wr.heap.size]? = some (.cells #[.int .i64 a,.int .i64 b] 83):=by
     rw[W];exact(Below.heap_alloc _ _ _ (by simp)).trans (wE wr _)
    have kB:W2.heap[wr.heap.size+1]? = some (.cells #[.int .i64 c,.int .i64 d] 83):=by
     rw[W];have:=wE (wr.alloc (.cells #[.int .i64 a,.int .i64 b] 83)) (.cells #[.int .i64 c,.int .i64 d] 83)
     rwa [World.size_alloc] at this
    obtain⟨z0,z1⟩:=BA kA;obtain⟨z2,z3⟩:=BA kB;rw[W] at z0 z1 z2 z3;have H:=bF a b c d W2;obtain⟨Z,X⟩:=AB (AH [a,b] [c,d]);rw[X] at H g;replace H:=qH H;replace f:=qH f;clear X kA kB F G k;by_cases D:Z=0
    ·subst D;rw[if_pos rfl] at g;have g:=qH g.symm;go_wp2_with fail
     rw[<-W];replace W:=qH W;refine H.out.mono ?_;rintro e O ⟨rfl,K,o⟩;have o:Hid (w.drawn<=O.drawn):=wI a2.out o;go_wp2_with fail
     go_roundw
     case rel=>exact⟨i+1,by go_num,by omega,by omega,g,btt (btt r Y) K,o⟩
     case measure=>simp[intOf];omega
    ·have c9:(Z != 0)=true:=(by simpa using D);rw[if_neg D] at g;have g:=qH g;replace D:=qH D;go_wp2_with fail
     rw[<-W];replace W:=qH W;refine H.out.mono ?_;rintro e O ⟨rfl,K,o⟩;have o:Hid (w.drawn<=O.drawn):=wI a2.out o;go_wp2;go_ret;exact⟨by rw[g.out];rfl,btt (btt r Y) K,o.out⟩
   ·obtain rfl:i=m:=(by omega);have hd:decide ((i:Int)<=(i:Int))=true:=vZ (Int.le_refl _)
    have z:Hid (E=1):=by
     show _=_;rw[<-k.out];exact b4.out L (by rw[x];exact s)
    clear k x s;have A:=qH f;clear f;have a':Below w.heap.size w (wr.alloc (.cells #[.int .i64 a,.int .i64 b] 83)):=r.alloc r.size _;go_wp2;go_ret;exact⟨by rw[z.out];rfl,a',A.out.out⟩
  ·obtain rfl:i=n:=(by omega);by_cases C:i < m
   ·have hd:decide ((i:Int) < (m:Int))=true:=vZ (by omega)
    have z:Hid (E = -1):=by
     show _=_;rw[<-k.out];exact b3.out C (a0.out i C).1
    clear k;have A:=qH f;clear f;go_wp2;go_ret;exact⟨by rw[z.out];rfl,r,A.out.out⟩
   ·obtain rfl:i=m:=by omega
    have z:Hid (E=0):=by
     show _=_;rw[<-k.out];exact b2.out rfl
    clear k;have A:=qH f;clear f;go_wp2;go_ret;exact⟨by rw[z.out];rfl,r,A.out.out⟩
theorem SJ {w:World}{u v:Value}{xs ys:Jb}(x:KS 2 w u xs) (y:KS 2 w v ys):Calls Tryz.prog 92 #[u,v] w fun e w'=>e = .returned (.int .i64 (BS xs ys))/\Below w.heap.size w w'/\w.drawn<=w'.drawn:=by
 have H:=qH (iH x y);obtain⟨Z,a⟩:=AB (BS xs ys);rw[a] at H|-;obtain⟨_,_,rfl⟩:=x.shape;obtain⟨_,_,rfl⟩:=y.shape;go_enter Tryz.func92, Tryz.ntmps92
 go_wp2_with fail
 refine H.out.mono ?_;rintro e c ⟨rfl,b,h⟩;replace h:=qH h;go_wp2;go_ret;exact⟨rfl,b,h.out⟩
theorem YA {w:World}{u v:Value}{xs ys:Jb}(a:KS 2 w u xs) (b:KS 2 w v ys) :
  Calls Tryz.prog 199 #[u,v] w fun e w'=>e = .returned (.bool (decide (xs=ys)))/\Qt w w':=by
 obtain⟨R,T,S,U,rfl,J,k,_⟩:=a;obtain⟨V,X,W,Y,rfl,K,q,_⟩:=b;obtain⟨B,c⟩:∃B,decide (xs=ys)=B:=⟨_,rfl⟩;rw[c];replace c:=qH c;replace k:=qH k;replace q:=qH q;by_cases l:xs.length=ys.length
 ·rw[<-l];replace l:=qH l;have E:Hid (xs.take 0=ys.take 0):=rfl;go_enter Tryz.func199, Tryz.ntmps199
  go_wp2;go_loopw [13] (fun s wr=>∃i:Nat,s = .int .i64 i/\i<=xs.length/\Hid (xs.take i=ys.take i)/\Qt w wr) (fun s _=>xs.length - (intOf s).toNat)
  case atStart=>exact⟨0,rfl,by omega,E,Qt.refl w⟩
  case round=>
   clear E;obtain⟨i,rfl,Q,t,n,rfl⟩:=hrel;by_cases f:i < xs.length
   ·obtain rfl:=J (by omega);obtain rfl:=K (by rw[<-l.out];omega);have F:i < ys.length:=(by rw[<-l.out];exact f);obtain⟨j,o⟩:=k.out i f;obtain⟨p,r⟩:=q.out i F;obtain⟨x,a⟩:=AB (xs.getD i []);obtain⟨y,b⟩:=AB (ys.getD i []);rw[a] at j o;rw[b] at p r;obtain⟨z,A,rfl⟩:=BZ j;obtain⟨C,D,rfl⟩:=BZ p;obtain⟨L,M⟩:=o.all2;obtain⟨N,O⟩:=r.all2;clear o r j p;by_cases d : [z,A] = [C,D]
    ·have H:BI [z,A] [C,D]=true:=FN.2 d;have I:Hid (xs.take (i+1)=ys.take (i+1)):=GA t.out f F (by rw[a,b,d]);clear a b d t;go_wp2;go_quiet (fail)
     go_wp2;go_roundw
     case rel=>exact⟨i+1,by go_num,f,I,by first|exact(Qt.mk' w n).step nq|exact Qt.mk' w _⟩
     case measure=>simp[intOf];omega
    ·have H:BI [z,A] [C,D]=false:=FL.2 d
     have g:Hid (B=false):=by
      show _=_;rw[<-c.out];refine vY fun h=>d ?_;rw[<-a,<-b,h]
     clear a b d t;go_wp2;go_quiet (fail)
     go_wp2;go_ret;exact⟨by rw[g.out];rfl,by first|exact(Qt.mk' w n).step nq|exact Qt.mk' w _⟩
   ·have G:Hid (B=true):=by
     show _=_;rw[<-c.out];exact vZ (FZ t.out (by omega) (by rw[<-l.out];omega))
    clear t;go_wp2;go_ret;exact⟨by rw[G.out];rfl,Qt.mk' w n⟩
 ·have g:B=false:=by rw[<-c.out];exact vY fun h=>l (by rw[h])
  subst g;have P:((xs.length:Int) == (ys.length:Int))=false:=by simp;omega
  go_enter Tryz.func199, Tryz.ntmps199
  go_wp2;go_ret;exact⟨rfl,Qt.refl w⟩
def DS:Jb->Jb->Bool
 | [],_=>true
 | _::_,[]=>false
 | v::r,y::t=>if y=v then DS r (y::t) else DS (v::r) t
 termination_by a b=>a.length+b.length
theorem SV:∀ {a b:Jb},LG a->LG b->DS a b=decide (∀x∈a,x∈b)
 | [],b,_,_=>by rw[DS];simp
 | v::r,[],_,_=>by
  rw[DS];exact(vY fun h=>absurd (h v (by simp)) (by simp)).symm
 | v::r,y::t,ha,hb=>by
  rw[DS];have g:=(List.pairwise_cons.1 ha);have i:=(List.pairwise_cons.1 hb);by_cases h:y=v
  ·rw[if_pos h,SV g.2 hb];subst h;simp
  ·rw[if_neg h,SV ha i.2];refine decide_eq_decide.2 ⟨fun q x c=>List.mem_cons_of_mem _ (q x c),fun q x c=>?_⟩;rcases List.mem_cons.1 (q x c) with e|e
   ·subst e;rcases List.mem_cons.1 c with d|d
    ·exact absurd d h
    ·have j:=g.1 _ d;rcases List.mem_cons.1 (q v (by simp)) with f|f
     ·exact absurd f.symm h
     ·exact absurd j (KN _ _ (i.1 _ f))
   ·exact e
 termination_by a b=>a.length+b.length
theorem jS {w:World}{u v:Value}{xs ys:Jb}(x:KS 2 w u xs) (y:CO 2 w v ys) :
  Calls Tryz.prog 151 #[u,v] w fun e w'=>e = .returned (.bool (DS xs ys))/\Below w.heap.size w w':=by
 obtain⟨xa,xc,xb,xo,rfl,Y,Z,c0⟩:=x;obtain⟨ya,yc,yb,K,rfl,a1,a2,a3,a0⟩:=y;obtain⟨E,D⟩:=AB (DS xs ys);rw[D];have o:Hid (DS (xs.drop 0) (ys.drop 0)=E):=D;obtain⟨n,t⟩:=AB (xs.length);obtain⟨m,s⟩:=AB (ys.length)
 have b6:Hid (∀i j,i < n->j < m->ys.getD j []=xs.getD i []->DS (xs.drop i) (ys.drop j)=DS (xs.drop (i+1)) (ys.drop j)):=fun i j q A f=>by
  have M:xs.getD i []=xs[i]'(by rw[t];exact q):=AK (by rw[t];exact q) [];have N:ys.getD j []=ys[j]'(by rw[s];exact A):=AK (by rw[s];exact A) [];rw[List.drop_eq_getElem_cons (by omega),List.drop_eq_getElem_cons (l:=ys) (by omega),<-M,<-N,DS,if_pos f]
 have b7:Hid (∀i j,i < n->j < m->ys.getD j [] ≠ xs.getD i []->DS (xs.drop i) (ys.drop j)=DS (xs.drop i) (ys.drop (j+1))):=fun i j q A f=>by
  have M:xs.getD i []=xs[i]'(by rw[t];exact q):=AK (by rw[t];exact q) [];have N:ys.getD j []=ys[j]'(by rw[s];exact A):=AK (by rw[s];exact A) [];rw[List.drop_eq_getElem_cons (by omega),List.drop_eq_getElem_cons (l:=ys) (by omega),<-M,<-N,DS,if_neg f]
 have b8:Hid (∀i,i < n->DS (xs.drop i) (ys.drop m)=false):=fun i q=>by
  rw[List.drop_eq_getElem_cons (l:=xs) (by omega),show ys.drop m = [] from List.drop_eq_nil_of_le (by omega),DS]
 have b9:Hid (∀j,DS (xs.drop n) (ys.drop j)=true):=fun j=>by
  rw[List.drop_eq_nil_of_le (by omega),DS]
 rw[t] at Y c0|-;rw[s] at a1 a3 a0|-;have b1:=qH (fun j (k:j < n)=>Z j (by omega));have b2:=qH (fun j (k:j < m)=>a2 j (by omega));clear D t s Z a2;go_enter Tryz.func151, Tryz.ntmps151
 go_wp2_with fail
 go_loopw [1,9] (fun z Q wr=>∃(i j L C:Nat) (p:Option Addr),z = .slice p L C/\Q = .int .i64 i/\i<=n/\Hid (j+L=m/\L<=C/\(0 < L->p=some ⟨yb,K+j * 2,none⟩))/\L<=2199023255552/\Hid (DS (xs.drop i) (ys.drop j)=E)/\Below w.heap.size w wr) (fun _ Q _=>n - (intOf Q).toNat)
 case atStart=>exact⟨0,0,m,yc,ya,rfl,rfl,by omega,⟨by omega,a0,fun h=>by rw[a1 h,Nat.zero_mul,Nat.add_zero]⟩,a3,o,wB _ w⟩
 case round=>
  clear o;obtain⟨i,j,L,C,p,rfl,rfl,hi,k,O,g,G⟩:=hrel;by_cases H:i < n
  ·have c6:(i:Int) < (n:Int):=(by omega);obtain rfl:=Y (by omega);obtain⟨R,S⟩:=b1.out i H;obtain⟨c9,x⟩:=AB (xs.getD i []);rw[x] at R S;obtain⟨a,b,rfl⟩:=BZ R;obtain⟨T,U⟩:=S.all2;replace T:=AC G T;replace U:=AC G U;clear S R;replace x:=qH x;obtain⟨W2,W⟩:=AF (wr.alloc (.cells #[.int .i64 a,.int .i64 b] 83));have b0:Below wr.heap.size wr W2:=(by rw[W];exact(wB _ _).alloc (wC _) _);have kA:W2.heap[wr.heap.size]? = some (.cells #[.int .i64 a,.int .i64 b] 83):=(by rw[W];exact wE wr _);have a6:=qH (fun a7 (hb:Below W2.heap.size W2 a7)=>BA (AN hb kA));clear kA;have F:=btt G b0;go_wp2_with fail
   rw[<-W];replace W:=qH W;obtain⟨wo,b'⟩:=AF (wr);subst b';go_loopw [1] (fun z w5=>∃(j L C:Nat) (p:Option Addr),z = .slice p L C/\Hid (j+L=m/\L<=C/\(0 < L->p=some ⟨yb,K+j * 2,none⟩))/\L<=2199023255552/\Hid (DS (xs.drop i) (ys.drop j)=E)/\Below W2.heap.size W2 w5) (fun z _=>match z with | .slice _ c1 _=>c1|_=>0)
   case atStart=>exact⟨j,L,C,p,rfl,k,O,g,wB _ _⟩
   case round=>
    clear k O g;obtain⟨j,L,C,p,rfl,k,O,g,r⟩:=hrel;obtain⟨z0,z1⟩:=a6.out wr r;rcases Nat.eq_zero_or_pos L with o|o
    ·subst o
     have a8:Hid (E=false):=by
      show _=_;have:=k.out.1
      rw[<-g.out,show j=m by omega];exact b8.out i H
     clear g;go_wp2;go_quiet (fail)
     go_wp2;go_ret;exact⟨by rw[a8.out];rfl,wH (btt F r) _⟩
    ·obtain⟨b3,b4,b5⟩:=k.out;obtain rfl:=b5 o;obtain⟨I,J⟩:=b2.out j (by omega);obtain⟨d3,y⟩:=AB (ys.getD j []);rw[y] at I J;obtain⟨c,d,rfl⟩:=BZ I;obtain⟨V,X⟩:=J.all2;replace V:=AC (btt F r) V;replace X:=AC (btt F r) X;have c7:decide ((0:Int) < (L:Int))=true:=vZ (by omega);by_cases f : [c,d] = [a,b]
     ·have D:BI [c,d] [a,b]=true:=FN.2 f
      have P:Hid (DS (xs.drop (i+1)) (ys.drop j)=E):=by
       show _=_;rw[<-g.out];exact(b6.out i j H (by omega) (by rw[y,x.out,f])).symm
      clear f y g J I;go_wp2;go_quiet (fail)
      go_wp2;refine⟨⟨i+1,j,L,C,_,rfl,by go_num,by omega,⟨b3,b4,fun _=>rfl⟩,by omega,P,wH (btt F r) _⟩,?_⟩;simp[intOf];omega
     ·have D:BI [c,d] [a,b]=false:=FL.2 f
      have P:Hid (DS (xs.drop i) (ys.drop (j+1))=E):=by
       show _=_;rw[<-g.out];exact(b7.out i j H (by omega) (by rw[y,x.out];exact f)).symm
      clear f y g J I;go_wp2;go_quiet (fail)
      go_wp2;refine⟨⟨j+1,L - 1,C - 1,_,rfl,⟨by omega,by omega,fun h=>?_⟩,by omega,P,wH r _⟩,?_⟩
      ·rw[if_neg (by omega),show K+(j+1) * 2=K+j * 2+2 by omega]
      ·show L - 1 < L;omega
  ·obtain rfl:i=n:=by omega
   have a9:Hid (E=true):=by
    show _=_;rw[<-g.out];exact b9.out j
   clear g;go_wp2;go_ret;exact⟨by rw[a9.out];rfl,G⟩
end Go.Proofs.YtcnedkkcgdkioaaGreat
namespace Go.Proofs.YtcnedkkcgdkioaaGreat
open Go.RowKit Go.ChangeMaps Go.MapKept Go.WideMaps
def NQ (r:List Int):Value:=.agg (r.map (Value.int .i64)).toArray
def IF (r:List Int):Prop:=r.length=2/\EZ r=true
theorem ZX {x:Int}(m:Nat) (h:0<=x/\x<=1048576) : Tryz.prog.keyLits (m+1) 3 [.int .i64 x]=some [.int .i64 x]:=by
 unfold Program.keyLits;simp only[eE];rw[if_pos ⟨trivial,WalkArith.wf_i64 (by omega)⟩]
theorem mU:Maps.Keyed Tryz.prog 83:=Maps.Keyed.of_law (deep_law_gate (by kernel_rfl) (of_decide_eq_true (by kernel_rfl)) (of_decide_eq_true (by kernel_rfl)) (by kernel_rfl) (by kernel_rfl))
theorem mK {a b:Int}(g:0<=a/\a<=1048576) (g0:0<=b/\b<=1048576):∃l,keyOf Tryz.prog 83 (.agg #[.int .i64 a,.int .i64 b])=some l:=by
 obtain⟨m,e⟩:=eC;have c : Tryz.prog.cellsOf 83=2:=by kernel_rfl
 have d : Tryz.prog.cellsOf 3=1:=by kernel_rfl
 have h : Tryz.prog.keyType 83=true:=by kernel_rfl
 have u:=Tryz.underlying83;refine⟨.string (keyBytes [.int .i64 a,.int .i64 b]),?_⟩;unfold keyOf;simp only[u];rw[if_pos (by simp[h,Value.formed,u,c]),e];conv=>lhs;unfold Program.keyLits
 simp only[u,c,Value.cells];rw[if_pos (by exact⟨rfl,by kernel_rfl⟩)];simp only[List.mapM_cons,List.mapM_nil,List.drop,List.take,d];rw[ZX (m+2) g,ZX (m+2) g0];rfl
theorem IF.bd {r:List Int}(h:IF r):∃a b,r = [a,b]/\0<=a/\a < 8/\0<=b/\b<=1048576:=by
 obtain⟨c,p⟩:=h;obtain⟨a,b,rfl⟩:=BZ c;rw[TX] at p;simp only[Bool.and_eq_true,decide_eq_true_eq] at p;exact⟨a,b,rfl,p.1,p.2.1,p.2.2.1,p.2.2.2⟩
theorem TG:KI Tryz.prog 83 NQ IF where
 law:=mU
 has:=fun r h=>by
  obtain⟨a,b,rfl,h0,h1,h2,h3⟩:=h.bd;exact mK ⟨h0,by omega⟩ ⟨h2,h3⟩
 inj:=fun x y _ _ h=>by
  simp only[NQ,Value.agg.injEq,Array.mk.injEq] at h;exact(List.map_inj_right (fun a b hab=>by injection hab)).1 h
theorem UZ : Tryz.prog.underlying 164=some (.map 83 48):=by kernel_rfl
theorem VJ:∀w:World,(zeroValue 48).run Tryz.prog w = .ok (.slice none 0 0) w:=fun w=>by kernel_rfl
def CB (ms:List (List Int × Nat)) (r:List Int):List Nat:=(ms.filter fun x=>decide (x.1=r)).map Prod.snd
theorem QR (ms:List (List Int × Nat)) (a:List Int × Nat) (r:List Int):CB (ms ++ [a]) r=CB ms r++(if a.1=r then [a.2] else []):=by
 rw[CB,CB,List.filter_append,List.map_append];by_cases h:a.1=r<;>simp[h]
theorem QQ {ms:List (List Int × Nat)}{r:List Int}(h:∀x∈ms,x.1 ≠ r):CB ms r = []:=by
 rw[CB,List.filter_eq_nil_iff.2 (fun x a=>by simpa using h x a)];rfl
theorem nP (a b:List Nat):BF (a++b)=BF a++BF b:=List.map_append
structure FU (w:World) (B:Nat) (ms:List (List Int × Nat)) (m:List (List Int × Value)):Prop where
 one:∀(i j:Nat) (p q:List Int × Value),m[i]? = some p->m[j]? = some q->p.1=q.1->i=j
 has:∀x∈ms,x.1∈m.map Prod.fst
 row:∀(i:Nat) (p:List Int × Value),m[i]? = some p->p.1∈ms.map Prod.fst/\OI w B p.2 (CB ms p.1).length (BF (CB ms p.1))
 apart:∀(i j:Nat) (p q:List Int × Value),i ≠ j->m[i]? = some p->m[j]? = some q->JK p.2 q.2
variable {w w':World} {B:Nat} {ms:List (List Int × Nat)} {m:List (List Int × Value)}
theorem FU.nil (w:World) (B:Nat):FU w B [] []:=⟨by simp,by simp,by simp,by simp⟩
theorem FU.keep (h:FU w B ms m) (b:Below w.heap.size w w'):FU w' B ms m:=⟨h.one,h.has,fun i p a=>⟨(h.row i p a).1,(h.row i p a).2.keep b⟩,h.apart⟩
theorem FU.other {E:TypeId}(h:FU w B ms m) (n:3 ≠ E) (x:AE E w w'):FU w' B ms m:=⟨h.one,h.has,fun i p a=>⟨(h.row i p a).1,(h.row i p a).2.other n x⟩,h.apart⟩
theorem FU.new {a:List Int × Nat}{v':Value}(h:FU w B ms m) (A:a.1 ∉ m.map Prod.fst) (G:w.grownBy w' (Value.slice none 0 0).ownBlock) (n:IW w (.slice none 0 0) v') (I:OI w' B v' 1 [(a.2:Int)]) :
  FU w' B (ms ++ [a]) (m ++ [(a.1,v')]):=by
 have y:∀(i:Nat) (p:List Int × Value),m[i]? = some p->a.1 ≠ p.1:=fun i p d e=>A (e▸List.mem_map_of_mem (f:=Prod.fst) (List.mem_of_getElem? d))
 have s:∀(i:Nat) (p:List Int × Value),(m ++ [(a.1,v')])[i]? = some p->m[i]? = some p\/(i=m.length/\p=(a.1,v')):=fun i p d=>by
  by_cases H:i < m.length
  ·rw[List.getElem?_append_left H] at d;exact .inl d
  ·rw[List.getElem?_append_right (by omega)] at d;have C:i - m.length=0:=(by have:=(List.getElem?_eq_some_iff.1 d).1;simpa using this);rw[C] at d;simp only[List.getElem?_cons_zero,Option.some.injEq] at d;exact .inr ⟨by omega,d.symm⟩
 have K:∀(i:Nat) (p:List Int × Value),m[i]? = some p->i < m.length:=fun i p d=>(List.getElem?_eq_some_iff.1 d).1
 have u:∀(i:Nat) (p:List Int × Value),m[i]? = some p->JK p.2 v':=fun i p d b c F l e=>by
  have J:=World.ownsRow.lt (h.row i p d).2 b F;rcases n with n|n
  ·rw[n] at l;cases l
  ·rw[n] at l;simp only[Option.some.injEq] at l;omega
 refine⟨fun i j p q d g o=>?_,fun x k=>?_,fun i p d=>?_,fun i j p q v d g=>?_⟩
 ·rcases s i p d with d|⟨rfl,rfl⟩
  ·rcases s j q g with g|⟨rfl,rfl⟩
   ·exact h.one i j p q d g o
   ·exact absurd o.symm (y i p d)
  ·rcases s j q g with g|⟨rfl,rfl⟩
   ·exact absurd o (y j q g)
   ·rfl
 ·rw[List.map_append,List.mem_append];rcases List.mem_append.1 k with k|k
  ·exact .inl (h.has x k)
  ·obtain rfl:=List.mem_singleton.1 k;exact .inr (by simp)
 ·rcases s i p d with d|⟨rfl,rfl⟩
  ·obtain⟨D,E⟩:=h.row i p d;refine⟨by rw[List.map_append];exact List.mem_append_left _ D,?_⟩;rw[QR,if_neg (y i p d),List.append_nil];refine E.kept G ?_;by_cases z:p.2.ownBlock=none
   ·exact .inl z
   ·exact .inr z
  ·refine⟨by rw[List.map_append];exact List.mem_append_right _ (by simp),?_⟩;rw[QR,if_pos rfl,QQ (r:=a.1) (fun x k e=>by have t:=h.has x k;rw[e] at t;exact A t)];exact I
 ·rcases s i p d with d|⟨rfl,rfl⟩
  ·rcases s j q g with g|⟨rfl,rfl⟩
   ·exact h.apart i j p q v d g
   ·exact u i p d
  ·rcases s j q g with g|⟨rfl,rfl⟩
   ·exact(u j q g).symm
   ·exact absurd rfl v
theorem FU.old {a:List Int × Nat}{v v':Value}{j:Nat}(h:FU w B ms m) (r:m[j]? = some (a.1,v)) (L:w.grownBy w' v.ownBlock) (t:IW w v v')
  (N:OI w' B v' ((CB ms (a.1)).length+1) (BF (CB ms (a.1)) ++ [(a.2:Int)])):FU w' B (ms ++ [a]) (m.set j (a.1,v')):=by
 have M:j < m.length:=(List.getElem?_eq_some_iff.1 r).1
 have s:∀(i:Nat) (p:List Int × Value),(m.set j (a.1,v'))[i]? = some p->(i ≠ j/\m[i]? = some p)\/(i=j/\p=(a.1,v')):=fun i p d=>by
  rw[List.getElem?_set] at d;split at d
  ·rename_i e
   subst e;first|rw[if_pos M] at d|skip
   exact .inr ⟨rfl,(Option.some.inj d).symm⟩
  ·rename_i e
   exact .inl ⟨fun I=>e I.symm,d⟩
 have D:∀(i:Nat) (p:List Int × Value),i ≠ j->m[i]? = some p->a.1 ≠ p.1:=fun i p g d e=>g (h.one i j p _ d r e.symm)
 have E:∀(i:Nat) (p:List Int × Value),i ≠ j->m[i]? = some p->JK p.2 v':=fun i p g d b c F C e=>by
  have P:=World.ownsRow.lt (h.row i p d).2 b F;rcases t with t|t
  ·rw[t] at C;exact h.apart i j p _ g d r b c F C e
  ·rw[t] at C;simp only[Option.some.injEq] at C;omega
 refine⟨fun i k p q d z u=>?_,fun x A=>?_,fun i p d=>?_,fun i k p q G d z=>?_⟩
 ·rcases s i p d with⟨g,o⟩|⟨g,o⟩
  ·rcases s k q z with⟨n,l⟩|⟨n,l⟩
   ·exact h.one i k p q o l u
   ·rw[l] at u;exact absurd u.symm (D i p g o)
  ·rcases s k q z with⟨n,l⟩|⟨n,l⟩
   ·rw[o] at u;exact absurd u (D k q n l)
   ·rw[g,n]
 ·have H:∀y,y∈m.map Prod.fst->y∈(m.set j (a.1,v')).map Prod.fst:=fun y O=>by
   rw[List.map_set,Go.WideElems.set_self _ _ _ (by rw[List.getElem?_map,r];rfl)];exact O
  rcases List.mem_append.1 A with A|A
  ·exact H _ (h.has x A)
  ·obtain rfl:=List.mem_singleton.1 A;exact H _ (List.mem_map_of_mem (f:=Prod.fst) (List.mem_of_getElem? r))
 ·rcases s i p d with⟨g,d⟩|⟨rfl,rfl⟩
  ·obtain⟨J,K⟩:=h.row i p d;refine⟨by rw[List.map_append];exact List.mem_append_left _ J,?_⟩;rw[QR,if_neg (D i p g d),List.append_nil];exact K.kept L (h.apart i j p _ g d r).ne
  ·refine⟨by rw[List.map_append];exact List.mem_append_right _ (by simp),?_⟩;simp only
   rw[QR,if_pos rfl,nP,List.length_append];exact N
 ·rcases s i p d with⟨g,o⟩|⟨g,o⟩
  ·rcases s k q z with⟨n,l⟩|⟨n,l⟩
   ·exact h.apart i k p q G o l
   ·rw[l];exact E i p g o
  ·rcases s k q z with⟨n,l⟩|⟨n,l⟩
   ·rw[o];exact(E k q n l).symm
   ·exact absurd (g.trans n.symm) G
def EM (w:World) (b B:Nat) (ms:List (List Int × Nat)):Prop:=∃m,MS NQ w b m/\(∀p∈m,IF p.1)/\FU w B ms m
theorem EM.keep {w w':World}{b B:Nat}{ms:List (List Int × Nat)}(h:EM w b B ms) (c:Below w.heap.size w w'):EM w' b B ms:=by
 obtain⟨m,a,d,e⟩:=h;exact⟨m,a.keep (c.block _ a.lt),d,e.keep c⟩
theorem OI.notMap {w:World}{b B n:Nat}{v:Value}{xs:List Int}{s:Array MapEntry}{c:Nat}(h:OI w B v n xs) (d:w.heap[b]? = some (.map s c)):v.ownBlock ≠ some b:=fun e=>by
 obtain⟨f,a⟩:=EY h b e;rw[d] at a;cases a
theorem EM.entry {w:World}{b B:Nat}{ms:List (List Int × Nat)}{a:List Int × Nat}(h:EM w b B ms) (D:IF (a.1)) :
  ∃(v:Value) (t:Nat) (s:Array MapEntry) (d:Nat),(Instr.mapEntry 164 (.map (some b)) (NQ (a.1))).run Tryz.prog w = .ok (.tuple #[v,goInt t]) (setBlock w b (.map s d))/\
   (∃u c,w.heap[b]? = some (.map u c))/\OI (setBlock w b (.map s d)) B v (CB ms (a.1)).length (BF (CB ms (a.1)))/\
   ∀(f:World) (v':Value),(setBlock w b (.map s d)).grownBy f v.ownBlock->IW (setBlock w b (.map s d)) v v'->OI f B v' ((CB ms (a.1)).length+1) (BF (CB ms (a.1)) ++ [(a.2:Int)])->
    ∃l k,(Instr.entryStore 164 (.map (some b)) (goInt t) v').run Tryz.prog f = .ok () (setBlock f b (.map l k))/\(∃u c,f.heap[b]? = some (.map u c))/\EM (setBlock f b (.map l k)) b B (ms ++ [a]):=by
 obtain⟨m,F,W,G⟩:=h;obtain⟨v,t,s,d,J,K⟩:=MS.entry TG UZ VJ F W D;obtain⟨P,O,r,_⟩:=id F;have L:AE 83 w (setBlock w b (.map s d)):=QG r _;have T:=G.other (by decide) L;have o:(setBlock w b (.map s d)).heap[b]? = some (.map s d):=heap_setBlock_same r _;rcases K with⟨n,rfl,y⟩|⟨j,n,y⟩
 ·have H:CB ms (a.1) = []:=QQ (fun x N e=>n (e▸G.has x N));refine⟨_,t,s,d,J,⟨_,_,r⟩,?_,?_⟩
  ·rw[H];exact OI.nil _ _
  ·rw[H];intro f v' q z C;have i:f.heap[b]? = some (.map s d):=(q.block b (wD.1 o).1 (by simp[Value.ownBlock])).trans o;obtain⟨l,k,A,M⟩:=y f v' i;refine⟨l,k,A,⟨_,_,i⟩,_,M,fun p g=>?_,(T.new n q z C).other (E:=83) (by decide) (QG i _)⟩;rcases List.mem_append.1 g with g|g
   ·exact W p g
   ·obtain rfl:=List.mem_singleton.1 g;exact D
 ·have I:=(T.row j _ n).2;refine⟨v,t,s,d,J,⟨_,_,r⟩,I,?_⟩;intro f v' q z C;have i:f.heap[b]? = some (.map s d):=(q.block b (wD.1 o).1 (fun e=>I.notMap o e.symm)).trans o;obtain⟨l,k,A,M⟩:=y f v' i;refine⟨l,k,A,⟨_,_,i⟩,_,M,fun p g=>?_,(T.old n q z C).other (E:=83) (by decide) (QG i _)⟩;rcases List.mem_or_eq_of_mem_set g with g|rfl
  ·exact W p g
  ·exact D
end Go.Proofs.YtcnedkkcgdkioaaGreat

/- Texts of this claim, put together: RQ RW TB TC TD. -/
import Derived.Test.YtcnedkkcgdkioaaGreatKBg

set_option maxRecDepth 100000
set_option maxHeartbeats 12800000
namespace Go.Proofs.YtcnedkkcgdkioaaGreat
open Go.RowKit
theorem vK {P:Program}{id:Nat}{Q:Exit->Act->World->Prop}{a:Act}{w:World}{l:List Oper}(m:P.follows .mixedOrders=true) (B:Region.lexB .any l.toArray=true)
  (h:wpQuiet P l.toArray (Below w.heap.size w) (fun b=>∀w',Below w.heap.size w w'->Q .normal b w') l a) :
  (Code.region id l.toArray true).wp P Q a w:=
 wp_region_quiet (C:=Below w.heap.size w) m B (wH (wB _ w) 1) (by simpa using h)
structure WQ (P:Program) (ops:Array Oper) (C:World->Prop) (Q:Act->Prop) (l:List Oper) (a:Act):Prop where
 out:wpQuiet P ops C Q l a
theorem WQ.nil {P:Program}{o:Array Oper}{C:World->Prop}{Q:Act->Prop}{a:Act}(h:Q a):WQ P o C Q [] a:=⟨wpQuiet_nil h⟩
theorem WQ.step {P:Program}{p:Array Oper}{C:World->Prop}{Q:Act->Prop}{a:Act}{o:Oper}{r:List Oper}
  (h:∀K:Act->Prop,(∀a,WQ P p C Q r a->K a)->if Region.wanted o (yielded p a.tmps) then o.quiet P a C K else K (a.put o.dst undef)):WQ P p C Q (o::r) a:=
 ⟨wpQuiet_step fun K b=>h K fun a q=>b a q.out⟩
theorem CW {P:Program}{id:Nat}{Q:Exit->Act->World->Prop}{a:Act}{w:World}{l:List Oper}(m:P.follows .mixedOrders=true) (B:Region.lexB .any l.toArray=true)
  (h:WQ P l.toArray (Below w.heap.size w) (fun b=>∀w',Below w.heap.size w w'->Q .normal b w') l a) :
  (Code.region id l.toArray true).wp P Q a w:=vK m B h.out
theorem JC {xs:List Int}{i:Nat}(h:xs.length<=i):xs.drop i = []:=List.drop_eq_nil_of_le h
theorem JD {xs:List Int}{i:Nat}{x:Int}(h:i < xs.length) (a:xs.getD i 0=x):xs.drop i=x::xs.drop (i+1):=by
 rw[List.drop_eq_getElem_cons h,<-a,AK h]
theorem WZ {w:World}{u v:Value}{xs ys:List Int}(b:AR w u xs) (d:AR w v ys) :
  Calls Tryz.prog 138 #[u,v] w fun e w'=>e = .returned (.int .i64 (AH xs ys))/\w'=w:=by
 obtain⟨I,K,J,L,rfl,q,g,D⟩:=b;obtain⟨M,O,N,P,rfl,s,j,F⟩:=d;obtain⟨E,a⟩:=AB (AH xs ys);rw[a];have n:Hid (AH (xs.drop 0) (ys.drop 0)=E):=a;replace g:=qH g;replace j:=qH j;clear a;go_enter Tryz.func138, Tryz.ntmps138
 go_wp2_with fail
 go_loopw [11] (fun k wr=>∃i:Nat,k = .int .i64 i/\i<=xs.length/\i<=ys.length/\Hid (AH (xs.drop i) (ys.drop i)=E)/\wr=w) (fun k _=>xs.length - (intOf k).toNat)
 case atStart=>exact⟨0,rfl,by omega,by omega,n,rfl⟩
 case round=>
  clear n;obtain⟨i,rfl,B,C,t,rfl⟩:=hrel;by_cases l:i < xs.length
  ·obtain rfl:=q (by omega);have r:=g.out i l;obtain⟨m,b⟩:=AB (xs.getD i 0);rw[b] at r;by_cases f:i < ys.length
   ·obtain rfl:=s (by omega);have A:=j.out i f;obtain⟨y,d⟩:=AB (ys.getD i 0);rw[d] at A;have h:=t.out;rw[JD l b,JD f d] at h;have H:=MW m y wr;have p : ¬ys.length<=i:=(by omega);clear b d t;by_cases c:AU m y=0
    ·rw[JA c] at h;rw[c] at H;replace h:=qH h;replace H:=qH H;clear c;go_wp2_with fail
     refine H.out.mono ?_;rintro e w' ⟨rfl,rfl⟩;go_wp2_with fail
     go_roundw
     case rel=>exact⟨i+1,by go_num,l,f,h,by first|rfl|trivial⟩
     case measure=>simp[intOf];omega
    ·rw[GP c] at h;obtain⟨z,o⟩:=AB (AU m y);rw[o] at H h c;replace h:=qH h;replace H:=qH H;have G:(z != 0)=true:=(by simpa using c);clear o;go_wp2_with fail
     refine H.out.mono ?_;rintro e w' ⟨rfl,rfl⟩;go_wp2_with fail
     go_ret;exact⟨AM h.out,rfl⟩
   ·have a:Hid ((1:Int)=E):=by
     have:=t.out
     rw[JD l b,JC (xs:=ys) (by omega)] at this;exact this
    have p:ys.length<=i:=(by omega);clear t b;go_wp2_with fail
    go_ret;exact⟨AM a.out,rfl⟩
  ·by_cases f:xs.length < ys.length
   ·have a:Hid ((-1:Int)=E):=by
     have:=t.out
     rw[JC (xs:=xs) (by omega),JD (xs:=ys) (x:=ys.getD i 0) (by omega) rfl] at this;exact this
    clear t;go_wp2_with fail
    go_ret;exact⟨AM a.out,rfl⟩
   ·have a:Hid ((0:Int)=E):=by
     have:=t.out
     rw[JC (xs:=xs) (by omega),JC (xs:=ys) (by omega)] at this;exact this
    clear t;go_wp2_with fail
    go_ret;exact⟨AM a.out,rfl⟩
def EO (most x:Int):Bool:=decide (x < 0\/most<=x)
theorem uH {w:World}{b:Nat}{x most:Int}(h:w.cell? ⟨b,0,none⟩=some (.int .i64 most)) :
  Calls Tryz.prog 191 #[.int .i64 x,.pointer (some ⟨b,0,none⟩)] w fun e w'=>e = .returned (.bool (EO most x))/\w'=w:=by
 by_cases a:x < 0
 ·have r:EO most x=true:=vZ (.inl a);rw[r];have d:decide (x < 0)=true:=vZ a;go_enter Tryz.func191, Tryz.ntmps191
  go_wp2;go_ret;exact⟨rfl,rfl⟩
 ·have d:decide (x < 0)=false:=vY a;have r:EO most x=decide (most<=x):=by unfold EO;simp[a]
  rw[r];obtain⟨B,c⟩:=AB (decide (most<=x));rw[c];clear r a;go_enter Tryz.func191, Tryz.ntmps191
  go_wp2;go_ret;exact⟨by first|rfl|(rw[<-c];rfl)|simp[<-c],rfl⟩
theorem uG {w:World}{b:Nat}{u:Value}{xs:List Int}{most:Int}(a:AR w u xs) (h:w.cell? ⟨b,0,none⟩=some (.int .i64 most)) :
  Calls Tryz.prog 201 #[u,.func (.func 191) #[] #[.pointer (some ⟨b,0,none⟩)]] w fun e w'=>∃z:Int,e = .returned (.int .i64 z)/\decide (0<=z)=xs.any (EO most)/\w'=w:=by
 obtain⟨q,s,r,y,rfl,m,g,p⟩:=a;obtain⟨A,f⟩:=AB (xs.any (EO most));rw[f];have j:Hid ((xs.drop 0).any (EO most)=A):=f;replace g:=qH g;have C:=qH (fun d=>uH (x:=d) h);clear f h;go_enter Tryz.func201, Tryz.ntmps201
 go_wp2_with fail
 go_loopw [8] (fun v wr=>∃i:Nat,v = .int .i64 i/\i<=xs.length/\Hid ((xs.drop i).any (EO most)=A)/\wr=w) (fun v _=>xs.length - (intOf v).toNat)
 case atStart=>exact⟨0,rfl,by omega,j,rfl⟩
 case round=>
  clear j;obtain⟨i,rfl,o,c,rfl⟩:=hrel;by_cases l:i < xs.length
  ·obtain rfl:=m (by omega);have n:=g.out i l;obtain⟨d,a⟩:=AB (xs.getD i 0);rw[a] at n;have t:=c.out;rw[JD l a,List.any_cons] at t;have H:=C.out d;obtain⟨B,k⟩:=AB (EO most d);rw[k] at H t;replace H:=qH H;clear a c k;cases B
   ·rw[Bool.false_or] at t;replace t:=qH t;go_wp2_with fail
    refine H.out.mono ?_;rintro e w' ⟨rfl,rfl⟩;go_wp2_with fail
    go_roundw
    case rel=>exact⟨i+1,by go_num,l,t,by first|rfl|trivial⟩
    case measure=>simp[intOf];omega
   ·rw[Bool.true_or] at t;replace t:=qH t;go_wp2_with fail
    refine H.out.mono ?_;rintro e w' ⟨rfl,rfl⟩;go_wp2_with fail
    go_ret;exact⟨_,rfl,by rw[<-t.out];exact vZ (by omega),rfl⟩
  ·have E:Hid (false=A):=by
    have:=c.out
    rw[JC (xs:=xs) (by omega)] at this;exact this
   clear c;go_wp2_with fail
   go_ret;exact⟨_,rfl,by rw[<-E.out];rfl,rfl⟩
theorem uF {w:World}{b:Nat}{u:Value}{xs:List Int}{most:Int}(x:AR w u xs) (h:w.cell? ⟨b,0,none⟩=some (.int .i64 most)) :
  Calls Tryz.prog 149 #[u,.func (.func 191) #[] #[.pointer (some ⟨b,0,none⟩)]] w fun e w'=>e = .returned (.bool (xs.any (EO most)))/\w'=w:=by
 have H:=qH (uG x h);obtain⟨d,g,f,o,rfl,_⟩:=x;obtain⟨A,a⟩:=AB (xs.any (EO most));rw[a] at H|-;clear a h;go_enter Tryz.func149, Tryz.ntmps149
 go_wp2_with fail
 refine H.out.mono ?_;rintro e w' ⟨z,rfl,c,rfl⟩;go_wp2;go_ret;exact⟨rfl,rfl⟩
theorem eG {v:List Int}{n most:Int}:FG v n most=if (v.length:Int) ≠ n then 15 else if v.any (EO most)=true then 2 else 0:=by
 unfold FG;by_cases h:∃x∈v,x < 0\/most<=x
 ·have a:v.any (EO most)=true:=List.any_eq_true.2 (by obtain⟨x,c,b⟩:=h;exact⟨x,c,vZ b⟩);rw[if_pos h,if_pos a]
 ·have a : ¬v.any (EO most)=true:=fun g=>h (by obtain⟨x,c,b⟩:=List.any_eq_true.1 g;exact⟨x,c,of_decide_eq_true b⟩);rw[if_neg h,if_neg a]
theorem eH {w:World}{u:Value}{xs:List Int}{n most:Int}(x:AR w u xs) :
  Calls Tryz.prog 137 #[u,.int .i64 n,.int .i64 most] w fun e w'=>e = .returned (.int .i64 (FG xs n most))/\Below w.heap.size w w':=by
 obtain⟨c,W⟩:=AF (w.alloc (.cells #[.int .i64 most] 3));have b:Below w.heap.size w c:=by rw[W];exact(wB _ _).alloc (wC _) _
 have k:c.heap[w.heap.size]? = some (.cells #[.int .i64 most] 3 (0,0)):=by rw[W];exact wE _ _
 have H:=uF (x.keep b) (wJ k);obtain⟨g,j,i,o,rfl,_⟩:=x;rw[eG];clear k;by_cases a:(xs.length:Int)=n
 ·rw[if_neg (fun h=>h a)];subst a;obtain⟨B,d⟩:=AB (xs.any (EO most));rw[d] at H|-;replace H:=qH H;clear d;cases B
  ·go_enter Tryz.func137, Tryz.ntmps137
   go_wp2_with fail
   rw[<-W];refine H.out.mono ?_;rintro e w' ⟨rfl,rfl⟩;replace W:=qH W;go_wp2;go_ret;exact⟨rfl,b⟩
  ·go_enter Tryz.func137, Tryz.ntmps137
   go_wp2_with fail
   rw[<-W];refine H.out.mono ?_;rintro e w' ⟨rfl,rfl⟩;replace W:=qH W;go_wp2;go_ret;exact⟨rfl,b⟩
 ·rw[if_pos a];have f:((xs.length:Int) != n)=true:=by simpa using a
  clear a H;go_enter Tryz.func137, Tryz.ntmps137
  go_wp2;go_ret;rw[W] at b;exact⟨rfl,b⟩
def GL (l:Jb) (i:Nat):Bool:=decide (0 < i/\0<=AH (l.getD (i - 1) []) (l.getD i []))
theorem eF {w:World}{u:Value}{l:Jb}{i:Nat}(M:BM w u l) (L:i < l.length) :
  Calls Tryz.prog 192 #[u,.int .i64 (i:Int)] w fun e w'=>e = .returned (.bool (GL l i))/\Below w.heap.size w w':=by
 have G : Tryz.prog.follows .mixedOrders=true:=by kernel_rfl
 obtain⟨xa,xc,xb,xo,rfl,N,x,Y⟩:=M;obtain rfl:=N (by omega);rcases Nat.eq_zero_or_pos i with o|o
 ·have I:GL l i=false:=vY (fun h=>by omega);rw[I];subst o;clear I x;go_enter Tryz.func192, Tryz.ntmps192
  go_wp2_with fail
  refine CW G (by kernel_rfl) ?_
  repeat (refine WQ.step fun K b=>?_;go_simp;first|(refine b _ ?_;clear b K)|(apply Exists.intro;refine⟨fun g C=>?_,b _ ?_⟩;(·(first|with_reducible rfl|(go_simp;first|done|with_reducible rfl|with_reducible exact⟨rfl,rfl⟩)));clear b K))
  refine WQ.nil ?_;intro O t;go_wp2;go_ret;exact⟨rfl,t⟩
 ·obtain⟨u1,d,m⟩:=x (i - 1) (by omega);obtain⟨u2,j,n⟩:=x i L;have r:GL l i=decide (0<=AH (l.getD (i - 1) []) (l.getD i [])):=by unfold GL;simp[o]
  obtain⟨p,A⟩:=AB (l.getD (i - 1) []);obtain⟨q,D⟩:=AB (l.getD i []);rw[A,D] at r;rw[A] at m;rw[D] at n;have H:=qH (fun W (f:Below w.heap.size w W)=>WZ (m.keep f) (n.keep f));obtain⟨z,E⟩:=AB (AH p q);rw[E] at r;simp only[E] at H;rw[r];obtain⟨P,R,rfl⟩:∃a c,u1 = .slice a p.length c:=by obtain⟨a,c,_,_,h,_⟩:=m;exact⟨a,c,h⟩
  obtain⟨Q,S,rfl⟩:∃a c,u2 = .slice a q.length c:=by obtain⟨a,c,_,_,h,_⟩:=n;exact⟨a,c,h⟩
  obtain⟨Z,v⟩:=AB (p.length);obtain⟨n2,y⟩:=AB (q.length);rw[v] at d;rw[y] at j;simp only[v,y] at H;have T:decide ((0:Int) < (i:Int))=true:=vZ (by omega);obtain⟨k,F⟩:=AB (i - 1);rw[F] at d;have X:IntKind.i64.wrap ((i:Int) - 1)=(k:Int):=by rw[show(i:Int) - 1=(k:Int) by omega];exact IntWalk.i64_in _ (by omega)
  have U:(k:Int) < (l.length:Int):=by omega
  have V:(i:Int) < (l.length:Int):=by omega
  obtain⟨B,s⟩:=AB (decide (0<=z));rw[s];have J:=qH (fun W (f:Below w.heap.size w W)=>And.intro (AC f d) (AC f j));clear x m n E r d j A D F v y;go_enter Tryz.func192, Tryz.ntmps192
  go_wp2_with fail
  refine CW G (by kernel_rfl) ?_
  repeat (refine WQ.step fun K b=>?_;go_simp;first|(refine b _ ?_;clear b K)|(apply Exists.intro;refine⟨fun g C=>?_,b _ ?_⟩;(·(first|with_reducible rfl|(obtain⟨d,j⟩:=J.out g C;go_simp;first|done|with_reducible rfl|with_reducible exact⟨rfl,rfl⟩)));clear b K))
  (refine WQ.step fun K b=>?_;go_simp;first|(refine b _ ?_;clear b K)|(apply Exists.intro;refine⟨fun g C=>?_,b _ ?_⟩;(·(refine(H.out g C).mono ?_;rintro e w' ⟨rfl,rfl⟩;exact⟨rfl,C⟩));clear b K))
  repeat (refine WQ.step fun K b=>?_;go_simp;first|(refine b _ ?_;clear b K)|(apply Exists.intro;refine⟨fun g C=>?_,b _ ?_⟩;(·(first|with_reducible rfl|(go_simp;first|done|with_reducible rfl|with_reducible exact⟨rfl,rfl⟩)));clear b K))
  refine WQ.nil ?_;intro O t;go_wp2;go_ret;exact⟨by first|rfl|(rw[<-s];rfl)|simp[<-s],t⟩
theorem AR.shape {w:World}{v:Value}{xs:List Int}(h:AR w v xs):∃a c,v = .slice a xs.length c:=by obtain⟨a,c,_,_,h,_⟩:=h;exact⟨a,c,h⟩
theorem BM.shape {w:World}{v:Value}{xs:Jb}(h:BM w v xs):∃a c,v = .slice a xs.length c:=by obtain⟨a,c,_,_,h,_⟩:=h;exact⟨a,c,h⟩
theorem lL {w:World}{u vv:Value}{b:Nat}{x y:List Int}(a:AR w u y) (g:w.cell? ⟨b,0,none⟩=some vv) (v:AR w vv x) :
  Calls Tryz.prog 222 #[u,.pointer (some ⟨b,0,none⟩)] w fun e w'=>e = .returned (.bool (decide (y=x)))/\Below w.heap.size w w':=by
 have H:=qH (OJ a v);obtain⟨i,j,d⟩:=a.shape;obtain⟨k,l,f⟩:=v.shape;subst d f;obtain⟨A,h⟩:∃A,decide (y=x)=A:=⟨_,rfl⟩;rw[h] at H|-;replace h:=qH h;clear a v;go_enter Tryz.func222, Tryz.ntmps222
 go_wp2_with fail
 refine H.out.mono ?_;rintro e w' ⟨rfl,q⟩;have c:=q.below;go_wp2;go_ret;exact⟨rfl,c⟩
theorem lK {w:World}{u vv:Value}{o:Nat}{xs:Jb}{x:List Int}(E:BM w u xs) (s:w.cell? ⟨o,0,none⟩=some vv) (v:AR w vv x) :
  Calls Tryz.prog 249 #[u,.func (.func 222) #[] #[.pointer (some ⟨o,0,none⟩)]] w fun e w'=>∃z:Int,e = .returned (.int .i64 z)/\decide (0<=z)=decide (x∈xs)/\Below w.heap.size w w':=by
 obtain⟨N,P,O,Q,rfl,F,g,K⟩:=E;replace g:=qH g;have p:Hid (x ∉ xs.take 0):=by show ¬_;simp
 have C:=qH v;obtain⟨L,M,D⟩:=v.shape;subst D;clear v;go_enter Tryz.func249, Tryz.ntmps249
 go_wp2_with fail
 go_loopw [8] (fun j wr=>∃i:Nat,j = .int .i64 i/\i<=xs.length/\Hid (x ∉ xs.take i)/\Below w.heap.size w wr) (fun j _=>xs.length - (intOf j).toNat)
 case atStart=>exact⟨0,rfl,by omega,p,wB _ _⟩
 case round=>
  clear p;obtain⟨i,rfl,J,n,b⟩:=hrel;by_cases l:i < xs.length
  ·obtain rfl:=F (by omega);obtain⟨T,q,k⟩:=g.out i l;obtain⟨y,c⟩:=AB (xs.getD i []);rw[c] at k;have I:=AC b q;have H:=lL (k.keep b) (AC b s) (C.out.keep b);have m:y∈xs:=(by rw[<-c,AK l];exact wG l);have t:xs.take (i+1)=xs.take i ++ [y]:=(by rw[BY l [],c]);obtain⟨R,S,G⟩:=k.shape;subst G;clear k c q;by_cases a:y=x
   ·rw[vZ a] at H;replace H:=qH H;have r:Hid (decide (x∈xs)=true):=(by show _=_;rw[<-a];exact vZ m);have A:decide ((0:Int)<=(i:Int))=true:=vZ (by omega);clear t m a n;go_wp2_with fail
    refine H.out.mono ?_;rintro e w' ⟨rfl,d⟩;have f:=btt b d;go_wp2;go_ret;exact⟨_,rfl,by rw[r.out];exact A,f⟩
   ·rw[vY a] at H;replace H:=qH H
    have B:Hid (x ∉ xs.take (i+1)):=by
     show ¬_;rw[t,List.mem_append,List.mem_singleton];exact fun h=>h.elim n.out fun h=>a h.symm
    clear t m a n;go_wp2_with fail
    refine H.out.mono ?_;rintro e w' ⟨rfl,d⟩;have f:=btt b d;go_wp2;go_roundw
    case rel=>exact⟨i+1,by go_num,l,B,f⟩
    case measure=>simp[intOf];omega
  ·have r:Hid (decide (x∈xs)=false):=by
    show _=_;have:=n.out
    rw[List.take_of_length_le (by omega)] at this;exact vY this
   clear n;go_wp2;go_ret;exact⟨_,rfl,by rw[r.out];rfl,b⟩
theorem lI {w:World}{u vv:Value}{b:Nat}{xs:Jb}{x:List Int}(h:BM w u xs) (c:w.cell? ⟨b,0,none⟩=some vv) (v:AR w vv x) :
  Calls Tryz.prog 221 #[u,.func (.func 222) #[] #[.pointer (some ⟨b,0,none⟩)]] w fun e w'=>e = .returned (.bool (decide (x∈xs)))/\Below w.heap.size w w':=by
 have H:=lK h c v;obtain⟨A,a⟩:=AB (decide (x∈xs));rw[a] at H|-;replace H:=qH H;clear a;obtain⟨i,j,d⟩:=h.shape;subst d;clear h v;go_enter Tryz.func221, Tryz.ntmps221
 go_wp2_with fail
 refine H.out.mono ?_;rintro e w' ⟨z,rfl,g,f⟩;go_wp2;go_ret;exact⟨rfl,f⟩
theorem lH {w:World}{u v:Value}{l:Jb}{x:List Int}(c:BM w u l) (a:AR w v x) :
  Calls Tryz.prog 193 #[u,v] w fun e w'=>e = .returned (.bool (decide (x∈l)))/\Below w.heap.size w w':=by
 obtain⟨f,g,n⟩:=a.shape;subst n;obtain⟨W,h⟩:=AF (w.alloc (.cells #[.slice f x.length g] 48));have b:Below w.heap.size w W:=by rw[h];exact(wB _ _).alloc (wC _) _
 have k:W.heap[w.heap.size]? = some (.cells #[.slice f x.length g] 48 (0,0)):=by rw[h];exact wE _ _
 have H:=qH (lI (c.keep b) (wJ k) (a.keep b));obtain⟨o,p,m⟩:=c.shape;subst m;obtain⟨A,d⟩:=AB (decide (x∈l));rw[d] at H|-;clear c a d k;go_enter Tryz.func193, Tryz.ntmps193
 go_wp2_with fail
 rw[<-h];replace h:=qH h;refine H.out.mono ?_;rintro e w' ⟨rfl,j⟩;have i:=btt b j;go_wp2;go_ret;exact⟨rfl,i⟩
theorem KQ {f:Nat->Int}{m k:Nat}{F:Int}(h:CZ f (m+1) k=F) (a:f k=0):CZ f m (k+1)=F:=by rw[CZ,if_neg (fun g=>g a)] at h;exact h
theorem GZ {f:Nat->Int}{m k:Nat}{F:Int}(h:CZ f (m+1) k=F) (a:f k ≠ 0):f k=F:=by rw[CZ,if_pos a] at h;exact h
theorem bH {n o:Int}{l:Jb}{k:Nat}:JI n o l k=if FG (l.getD k []) n o ≠ 0 then FG (l.getD k []) n o else if GL l k=true then 14 else 0:=by
 unfold JI GL;simp only[decide_eq_true_eq]
theorem WC {o l:Jb}{k:Nat}:JT o l k=if decide (l.getD k []∈o)=false then 6 else if GL l k=true then 14 else 0:=by
 unfold JT GL;simp only[decide_eq_true_eq,decide_eq_false_iff_not]
theorem BM.at {w:World}{a:Option Addr}{c:Nat}{l:Jb}(h:BM w (.slice a l.length c) l) (d:0 < l.length):∃b o,a=some ⟨b,o,none⟩/\∀j,j < l.length->∃u,w.cell? ⟨b,o+j,none⟩=some u/\AR w u (l.getD j []):=by
 obtain⟨g,i,b,o,v,e,f,_⟩:=h;injection v with e1 _ _;exact⟨b,o,e1.trans (e d),f⟩
theorem uI {w:World}{n i o:Int}{ta:Option Addr}{tn tc:Nat}{u0 u1 u2:Value}{c:Cs}(h0:AR w u0 c.1) (h1:BM w u1 c.2.1) (V:BM w u2 c.2.2) :
  Calls Tryz.prog 139 #[.agg #[.int .i64 n,.int .i64 i,.int .i64 o,.slice ta tn tc],.agg #[u0,u1,u2]] w fun e w'=>e = .returned (.int .i64 (KZ n o c))/\Below w.heap.size w w':=by
 obtain⟨a0,c0,d4⟩:=h0.shape;obtain⟨Q,S,d5⟩:=h1.shape;obtain⟨R,T,d6⟩:=V.shape;subst d4 d5 d6;obtain⟨x0,a,d⟩:=c;have e1:d.length<=5864062014805:=by obtain⟨_,_,_,_,_,_,_,h⟩:=V;exact h
 obtain⟨n0,d3⟩:=AB (x0.length);obtain⟨m,z⟩:=AF ((w.alloc (.cells #[.int .i64 n,.int .i64 i,.int .i64 o,.slice ta tn tc] 24)).alloc (.cells #[.slice a0 n0 c0,.slice Q a.length S,.slice R d.length T] 95));have C:Below w.heap.size w m:=by rw[z];exact((wB _ w).alloc (wC _) _).alloc (by simp) _
 have kT:m.heap[w.heap.size]? = some (.cells #[.int .i64 n,.int .i64 i,.int .i64 o,.slice ta tn tc] 24):=by
  rw[z];exact(Below.heap_alloc _ _ _ (by simp)).trans (World.alloc_heap_new w _)
 have kC:m.heap[w.heap.size+1]? = some (.cells #[.slice a0 n0 c0,.slice Q a.length S,.slice R d.length T] 95):=by
  rw[z];have:=World.alloc_heap_new (w.alloc (.cells #[.int .i64 n,.int .i64 i,.int .i64 o,.slice ta tn tc] 24)) (.cells #[.slice a0 n0 c0,.slice Q a.length S,.slice R d.length T] 95)
  rwa [World.size_alloc] at this
 have K:=qH (fun W (s:Below m.heap.size m W)=>And.intro (AC s (show m.cell? ⟨w.heap.size,0,none⟩=some (.int .i64 n) by rw[cell_of_row _ _ 0 _ _ _ kT];rfl)) (And.intro (AC s (show m.cell? ⟨w.heap.size,2,none⟩=some (.int .i64 o) by rw[cell_of_row _ _ 2 _ _ _ kT];rfl)) (And.intro (AC s (show m.cell? ⟨w.heap.size+1,1,none⟩=some (.slice Q a.length S) by rw[cell_of_row _ _ 1 _ _ _ kC];rfl)) (AC s (show m.cell? ⟨w.heap.size+1,2,none⟩=some (.slice R d.length T) by rw[cell_of_row _ _ 2 _ _ _ kC];rfl)))));have H1:=qH (fun W (s:Below m.heap.size m W)=>(h1.keep C).keep s);have H2:=qH (fun W (s:Below m.heap.size m W)=>(V.keep C).keep s);obtain⟨E,p⟩:=AB (KZ n o (x0,a,d));rw[p,d3];unfold KZ at p;simp only at p
 clear h0 h1 V kT kC;obtain⟨u,v,x,y⟩:=K.out m (wB _ _);rw[z] at u v x y;by_cases X:a.length < 1\/1024 < a.length
 ·rw[if_pos X] at p;replace p:=qH p;rcases X with hl|hl
  ·have d1:decide ((a.length:Int) < 1)=true:=vZ (by omega);clear hl;go_enter Tryz.func139, Tryz.ntmps139
   go_wp2;go_ret;exact⟨AM p.out,by rw[<-z];exact C⟩
  ·have d1:decide ((a.length:Int) < 1)=false:=vY (by omega);have d2:decide ((1024:Int) < (a.length:Int))=true:=vZ (by omega);clear hl;go_enter Tryz.func139, Tryz.ntmps139
   go_wp2;go_ret;exact⟨AM p.out,by rw[<-z];exact C⟩
 ·rw[if_neg X] at p;obtain⟨Y,a7⟩:=AB (CZ (JI n o a) a.length 0);obtain⟨Z,a8⟩:=AB (CZ (JT a d) d.length 0);rw[a7,a8] at p;have s1:Hid (CZ (JI n o a) (a.length - 0) 0=Y):=a7;have s2:Hid (CZ (JT a d) (d.length - 0) 0=Z):=a8;replace p:=qH p;have d1:decide ((a.length:Int) < 1)=false:=vY (by omega);have d2:decide ((1024:Int) < (a.length:Int))=false:=vY (by omega);have d0:0 < a.length:=by omega
  have e2:a.length<=1024:=by omega
  clear X a7 a8;go_enter Tryz.func139, Tryz.ntmps139
  go_wp2_with fail
  rw[<-z];replace z:=qH z;clear u v x y d1 d2;go_loopw [23] (fun M wr=>∃b:Nat,M = .int .i64 b/\b<=a.length/\Hid (CZ (JI n o a) (a.length - b) b=Y)/\Below m.heap.size m wr) (fun M _=>a.length - (intOf M).toNat)
  case atStart=>exact⟨0,rfl,by omega,s1,wB _ _⟩
  case round=>
   clear s1;obtain⟨b,rfl,hk,D,r⟩:=hrel;obtain⟨u,v,x,y⟩:=K.out wr r;by_cases J:b < a.length
   ·have t:=D.out;rw[show a.length - b=(a.length - (b+1))+1 by omega] at t;obtain⟨c6,d8,rfl,N⟩:=(H1.out wr r).at d0;obtain⟨d9,cu,L⟩:=N b J;have H:=eH (n:=n) (most:=o) L;have U:=qH (fun W (s:Below wr.heap.size wr W)=>eF ((H1.out wr r).keep s) J);obtain⟨ua,uc,b0⟩:=L.shape;subst b0;obtain⟨b7,hz⟩:=AB (FG (a.getD b []) n o);obtain⟨B,F⟩:=AB (GL a b);have f:=bH (n:=n) (o:=o) (l:=a) (k:=b);rw[hz,F] at f;rw[hz] at H;simp only[F] at U;obtain⟨d7,O⟩:=AB ((a.getD b []).length);rw[O] at cu H;replace H:=qH H;clear N L hz F O D;by_cases P:b7=0
    ·subst P;rw[if_neg (fun h=>h rfl)] at f;cases B
     ·have j:=qH (KQ t f);clear t f;go_wp2_with fail
      refine H.out.mono ?_;rintro e q ⟨rfl,g⟩;obtain⟨u,v,x,y⟩:=K.out q (btt r g);go_wp2_with fail
      refine(U.out q g).mono ?_;rintro e w3 ⟨rfl,I⟩;have A:=btt (btt r g) I;go_wp2_with fail
      go_roundw
      case rel=>exact⟨b+1,by go_num,J,j,A⟩
      case measure=>simp[intOf];omega
     ·have j:=qH (GZ t (by rw[f];decide));rw[f] at j
      have G:Hid ((14:Int)=E):=by
       have:=p.out
       rw[<-j.out] at this;exact this
      clear t f j;go_wp2_with fail
      refine H.out.mono ?_;rintro e q ⟨rfl,g⟩;obtain⟨u,v,x,y⟩:=K.out q (btt r g);go_wp2_with fail
      refine(U.out q g).mono ?_;rintro e w3 ⟨rfl,I⟩;have A:=btt C (btt (btt r g) I);go_wp2_with fail
      go_ret;exact⟨AM G.out,A⟩
    ·rw[if_pos P] at f;have j:=GZ t (by rw[f];exact P);rw[f] at j
     have G:Hid (b7=E):=by
      have:=p.out
      rw[<-j,if_pos P] at this;exact this
     have e3:(b7 != 0)=true:=(by simpa using P);clear t f j;go_wp2_with fail
     refine H.out.mono ?_;rintro e q ⟨rfl,g⟩;have a9:=btt C (btt r g);go_wp2_with fail
     go_ret;exact⟨AM G.out,a9⟩
   ·have hF:Y=0:=by
     have:=D.out
     rw[show a.length - b=0 by omega] at this;exact this.symm
    have G:Hid (Z=E):=by
     have:=p.out
     rw[hF,if_neg (fun h=>h rfl)] at this;exact this
    clear D hF p;go_wp2_with fail
    obtain⟨wo,b1⟩:=AF (wr);rw[<-b1];rw[<-b1] at r;clear b1 u v x y;go_loopw [45] (fun M wr=>∃b:Nat,M = .int .i64 b/\b<=d.length/\Hid (CZ (JT a d) (d.length - b) b=Z)/\Below m.heap.size m wr) (fun M _=>d.length - (intOf M).toNat)
    case atStart=>exact⟨0,rfl,by omega,s2,r⟩
    case round=>
     clear s2 r;obtain⟨b,rfl,hk,D,r⟩:=hrel;obtain⟨u,v,x,y⟩:=K.out wr r;by_cases J:b < d.length
     ·have t:=D.out;rw[show d.length - b=(d.length - (b+1))+1 by omega] at t;obtain⟨c6,d8,rfl,N⟩:=(H2.out wr r).at (by omega);obtain⟨d9,cu,L⟩:=N b J;have H:=lH (H1.out wr r) L;have U:=qH (fun W (s:Below wr.heap.size wr W)=>eF ((H2.out wr r).keep s) J);obtain⟨ua,uc,b0⟩:=L.shape;subst b0;obtain⟨c5,hA⟩:=AB (decide (d.getD b []∈a));obtain⟨B,F⟩:=AB (GL d b);have f:=WC (o:=a) (l:=d) (k:=b);rw[hA,F] at f;rw[hA] at H;simp only[F] at U;obtain⟨d7,O⟩:=AB ((d.getD b []).length);rw[O] at cu H;replace H:=qH H;clear N L hA F O D;cases c5
      ·rw[if_pos rfl] at f;have j:=GZ t (by rw[f];decide);rw[f] at j
       have c9:Hid ((6:Int)=E):=by
        have:=G.out
        rw[<-j] at this;exact this
       clear t f j;go_wp2_with fail
       refine H.out.mono ?_;rintro e q ⟨rfl,g⟩;have a9:=btt C (btt r g);go_wp2_with fail
       go_ret;exact⟨AM c9.out,a9⟩
      ·cases B
       ·have j:=qH (KQ t f);clear t f;go_wp2_with fail
        refine H.out.mono ?_;rintro e q ⟨rfl,g⟩;obtain⟨u,v,x,y⟩:=K.out q (btt r g);go_wp2_with fail
        refine(U.out q g).mono ?_;rintro e w3 ⟨rfl,I⟩;have A:=btt (btt r g) I;go_wp2_with fail
        go_roundw
        case rel=>exact⟨b+1,by go_num,J,j,A⟩
        case measure=>simp[intOf];omega
       ·have j:=GZ t (by rw[f];decide);rw[f] at j
        have c8:Hid ((14:Int)=E):=by
         have:=G.out
         rw[<-j] at this;exact this
        clear t f j;go_wp2_with fail
        refine H.out.mono ?_;rintro e q ⟨rfl,g⟩;obtain⟨u,v,x,y⟩:=K.out q (btt r g);go_wp2_with fail
        refine(U.out q g).mono ?_;rintro e w3 ⟨rfl,I⟩;have A:=btt C (btt (btt r g) I);go_wp2_with fail
        go_ret;exact⟨AM c8.out,A⟩
     ·have c7:Hid ((0:Int)=E):=by
       have:=D.out
       rw[show d.length - b=0 by omega] at this;rw[<-G.out,<-this];rfl
      have A:=btt C r;clear D;go_wp2_with fail
      go_ret;exact⟨AM c7.out,A⟩
def NP (cs:List Cs) (k:Nat):Bool:=decide (0 < k/\0<=AH (cs.getD (k - 1) BE).1 (cs.getD k BE).1)
theorem WD {n i o:Int}{cs:List Cs}{k:Nat}:GY n i o cs k=if FG (cs.getD k BE).1 n i ≠ 0 then FG (cs.getD k BE).1 n i else if NP cs k=true then 14 else KZ n o (cs.getD k BE):=by
 unfold GY NP;simp only[decide_eq_true_eq]
theorem HZ.at {w:World}{a:Option Addr}{c:Nat}{l:List Cs}(h:HZ w (.slice a l.length c) l) (d:0 < l.length):∃b o,a=some ⟨b,o,none⟩/\KH w b o l:=by
 obtain⟨g,i,b,o,v,e,f,_⟩:=h;injection v with e1 _ _;exact⟨b,o,e1.trans (e d),f⟩
theorem box4' {W:World}{b:Nat}{v a c d:Value}{T:TypeId}(h:W.heap[b]? = some (.cells #[v,a,c,d] T)):W.cell? ⟨b,0,none⟩=some v/\W.cell? ⟨b,1,none⟩=some a/\W.cell? ⟨b,2,none⟩=some c/\W.cell? ⟨b,3,none⟩=some d:=
 ⟨by rw[cell_of_row _ _ 0 _ _ _ h];rfl,by rw[cell_of_row _ _ 1 _ _ _ h];rfl,by rw[cell_of_row _ _ 2 _ _ _ h];rfl,by rw[cell_of_row _ _ 3 _ _ _ h];rfl⟩
theorem box3' {W:World}{b:Nat}{v a c:Value}{T:TypeId}(h:W.heap[b]? = some (.cells #[v,a,c] T)):W.cell? ⟨b,0,none⟩=some v/\W.cell? ⟨b,1,none⟩=some a/\W.cell? ⟨b,2,none⟩=some c:=
 ⟨by rw[cell_of_row _ _ 0 _ _ _ h];rfl,by rw[cell_of_row _ _ 1 _ _ _ h];rfl,by rw[cell_of_row _ _ 2 _ _ _ h];rfl⟩
theorem keep4 {W a:World}{b:Nat}{v d e f:Value}(c:Below W.heap.size W a) (h:W.cell? ⟨b,0,none⟩=some v/\W.cell? ⟨b,1,none⟩=some d/\W.cell? ⟨b,2,none⟩=some e/\W.cell? ⟨b,3,none⟩=some f):a.cell? ⟨b,0,none⟩=some v/\a.cell? ⟨b,1,none⟩=some d/\a.cell? ⟨b,2,none⟩=some e/\a.cell? ⟨b,3,none⟩=some f:=
 ⟨AC c h.1,AC c h.2.1,AC c h.2.2.1,AC c h.2.2.2⟩
theorem keep3 {W a:World}{b:Nat}{v d e:Value}(c:Below W.heap.size W a) (h:W.cell? ⟨b,0,none⟩=some v/\W.cell? ⟨b,1,none⟩=some d/\W.cell? ⟨b,2,none⟩=some e):a.cell? ⟨b,0,none⟩=some v/\a.cell? ⟨b,1,none⟩=some d/\a.cell? ⟨b,2,none⟩=some e:=
 ⟨AC c h.1,AC c h.2.1,AC c h.2.2⟩
theorem fT {w:World}{v:Value}{n i o:Int}{cs:List Cs}(h:IZ w v n i o cs) :
  Calls Tryz.prog 82 #[v] w fun e w'=>e = .returned (.int .i64 (FK n i o cs))/\Below w.heap.size w w':=by
 have f1 : Tryz.prog.follows .mixedOrders=true:=by kernel_rfl
 obtain⟨sv,rfl,hS⟩:=h;obtain⟨sa,sc,C⟩:=hS.shape;subst C;obtain⟨u,g⟩:=AF (w.alloc (.cells #[.int .i64 n,.int .i64 i,.int .i64 o,.slice sa cs.length sc] 24));have j:Below w.heap.size w u:=by rw[g];exact(wB _ w).alloc (wC _) _
 have kT:u.heap[w.heap.size]? = some (.cells #[.int .i64 n,.int .i64 i,.int .i64 o,.slice sa cs.length sc] 24):=by rw[g];exact wE _ _
 have P:=qH (fun W (d:Below u.heap.size u W)=>keep4 d (box4' kT));have HS:=qH (fun W (d:Below u.heap.size u W)=>(hS.keep j).keep d);obtain⟨E,a⟩:=AB (FK n i o cs);rw[a];unfold FK at a;have h9:cs.length<=1954687338268:=by obtain⟨_,_,_,_,_,_,_,h⟩:=hS;exact h
 clear kT hS;obtain⟨Q,R,S,T⟩:=P.out u (wB _ _);rw[g] at Q R S T;by_cases F:n < 1
 ·have e2:decide ((n:Int) < 1)=true:=vZ F;rw[if_pos (by omega)] at a;replace a:=qH a;clear F;go_enter Tryz.func82, Tryz.ntmps82
  go_wp2;go_ret;exact⟨AM a.out,by rw[<-g];exact j⟩
 have e2:decide ((n:Int) < 1)=false:=vY F;by_cases H:5 < n
 ·have e3:decide ((5:Int) < n)=true:=vZ H;rw[if_pos (by omega)] at a;replace a:=qH a;clear H;clear F;go_enter Tryz.func82, Tryz.ntmps82
  go_wp2;go_ret;exact⟨AM a.out,by rw[<-g];exact j⟩
 have e3:decide ((5:Int) < n)=false:=vY H;by_cases L:i < 1
 ·have e0:decide ((i:Int) < 1)=true:=vZ L;rw[if_pos (by omega)] at a;replace a:=qH a;clear L;clear F H;go_enter Tryz.func82, Tryz.ntmps82
  go_wp2;go_ret;exact⟨AM a.out,by rw[<-g];exact j⟩
 have e0:decide ((i:Int) < 1)=false:=vY L;by_cases a0:8 < i
 ·have e1:decide ((8:Int) < i)=true:=vZ a0;rw[if_pos (by omega)] at a;replace a:=qH a;clear a0;clear F H L;go_enter Tryz.func82, Tryz.ntmps82
  go_wp2;go_ret;exact⟨AM a.out,by rw[<-g];exact j⟩
 have e1:decide ((8:Int) < i)=false:=vY a0;by_cases a5:o < 1
 ·have e4:decide ((o:Int) < 1)=true:=vZ a5;rw[if_pos (by omega)] at a;replace a:=qH a;clear a5;clear F H L a0;go_enter Tryz.func82, Tryz.ntmps82
  go_wp2;go_ret;exact⟨AM a.out,by rw[<-g];exact j⟩
 have e4:decide ((o:Int) < 1)=false:=vY a5;by_cases b5:8 < o
 ·have e5:decide ((8:Int) < o)=true:=vZ b5;rw[if_pos (by omega)] at a;replace a:=qH a;clear b5;clear F H L a0 a5;go_enter Tryz.func82, Tryz.ntmps82
  go_wp2;go_ret;exact⟨AM a.out,by rw[<-g];exact j⟩
 have e5:decide ((8:Int) < o)=false:=vY b5;rw[if_neg (by omega)] at a;clear F H L a0 a5 b5;by_cases h2:cs.length < 1
 ·have d9:decide ((cs.length:Int) < 1)=true:=vZ (by omega);rw[if_pos (by omega)] at a;replace a:=qH a;go_enter Tryz.func82, Tryz.ntmps82
  go_wp2;go_ret;exact⟨AM a.out,by rw[<-g];exact j⟩
 have d9:decide ((cs.length:Int) < 1)=false:=vY (by omega);by_cases h3:1024 < cs.length
 ·have d':decide ((1024:Int) < (cs.length:Int))=true:=vZ (by omega);rw[if_pos (by omega)] at a;replace a:=qH a;go_enter Tryz.func82, Tryz.ntmps82
  go_wp2;go_ret;exact⟨AM a.out,by rw[<-g];exact j⟩
 have d':decide ((1024:Int) < (cs.length:Int))=false:=vY (by omega);rw[if_neg (by omega)] at a;have g9:0 < cs.length:=by omega
 have i4:cs.length<=1024:=by omega
 have s1:Hid (CZ (GY n i o cs) (cs.length - 0) 0=E):=a;clear a h2 h3;go_enter Tryz.func82, Tryz.ntmps82
 go_wp2_with fail
 rw[<-g];replace g:=qH g;clear Q R S T e2 e3 e0 e1 e4 e5 d9 d';go_loopw [46] (fun iv wr=>∃b:Nat,iv = .int .i64 b/\b<=cs.length/\Hid (CZ (GY n i o cs) (cs.length - b) b=E)/\Below u.heap.size u wr) (fun iv _=>cs.length - (intOf iv).toNat)
 case atStart=>exact⟨0,rfl,by omega,s1,wB _ _⟩
 case round=>
  clear s1;obtain⟨b,rfl,hk,D,a'⟩:=hrel;obtain⟨Q,R,S,T⟩:=P.out wr a';by_cases c9:b < cs.length
  ·have J:=D.out;rw[show cs.length - b=(cs.length - (b+1))+1 by omega] at J;obtain⟨d5,f4,rfl,hc⟩:=(HS.out wr a').at g9;obtain⟨u0,u1,u2,c0,d7,d8,X,i1,i2⟩:=hc b c9;obtain⟨x0,y0,C⟩:=X.shape;subst C;obtain⟨x1,y1,C⟩:=i1.shape;subst C;obtain⟨x2,y2,C⟩:=i2.shape;subst C;obtain⟨m,c7⟩:=AB (cs.getD b BE);have p:=WD (n:=n) (i:=i) (o:=o) (cs:=cs) (k:=b);rw[c7] at p;rw[c7] at c0 d7 d8 X i1 i2;obtain⟨W2,z⟩:=AF (wr.alloc (.cells #[.slice x0 m.1.length y0,.slice x1 m.2.1.length y1,.slice x2 m.2.2.length y2] 95));have G:Below wr.heap.size wr W2:=(by rw[z];exact(wB _ _).alloc (wC _) _);have kC:W2.heap[wr.heap.size]? = some (.cells #[.slice x0 m.1.length y0,.slice x1 m.2.1.length y1,.slice x2 m.2.2.length y2] 95):=(by rw[z];exact wE _ _);have HC:=qH (fun W (d:Below W2.heap.size W2 W)=>keep3 d (box3' kC));have D2:=btt a' G;have HV:=eH (n:=n) (most:=i) (X.keep G);have c1:=qH (fun W (d:Below W2.heap.size W2 W)=>uI (n:=n) (i:=i) (o:=o) (ta:=some ⟨d5,f4,none⟩) (tn:=cs.length) (tc:=sc) (c:=m) ((X.keep G).keep d) ((i1.keep G).keep d) ((i2.keep G).keep d))
   have HP:=qH (fun(h0:0 < b)=>by
    obtain⟨p0,_,_,Z,_,_,Y,_⟩:=hc (b - 1) (by omega);exact(⟨p0,Z,Y⟩:∃p0,wr.cell? ⟨d5,f4+(b - 1) * 3,none⟩=some p0/\AR wr p0 (cs.getD (b - 1) BE).1))
   have I0:=qH (fun W (d:Below W2.heap.size W2 W)=>(X.keep G).keep d);obtain⟨g2,hz⟩:=AB (FG m.1 n i);obtain⟨B,U⟩:=AB (NP cs b);obtain⟨y,hy⟩:=AB (KZ n o m);rw[hz,U,hy] at p;rw[hz] at HV;simp only[hy] at c1;replace HV:=qH HV;obtain⟨e7,e8,e9,e'⟩:=P.out W2 D2;obtain⟨r0,r1,r2⟩:=HC.out W2 (wB _ _);rw[z] at e7 e8 e9 e' r0 r1 r2;clear kC X i1 i2 hz hy D hc;by_cases b2:g2=0
   ·subst b2;rw[if_neg (fun h=>h rfl)] at p;go_wp2_with fail
    rw[<-z];replace z:=qH z;refine HV.out.mono ?_;rintro e M ⟨rfl,r⟩;have O:=btt D2 r;clear Q R S T e7 e8 e9 e' r0 r1 r2 c0 d7 d8;have g3:=qH (fun W (d:Below M.heap.size M W)=>And.intro (P.out W (btt O d)).2.2.2 (HC.out W (btt r d)).1);have g':b=0\/0 < b:=by omega
    have a2:B=true->Hid ((14:Int)=E):=fun f0=>by
     have:=GZ J (by rw[p,if_pos f0];decide)
     rw[p,if_pos f0] at this;exact this
    have x:B=false->y=0->Hid (CZ (GY n i o cs) (cs.length - (b+1)) (b+1)=E):=fun I l=>by
     refine KQ J ?_;rw[p,if_neg (by rw[I];decide),l]
    have s:B=false->y ≠ 0->Hid (y=E):=fun I l=>by
     have e6:GY n i o cs b=y:=(by rw[p,if_neg (by rw[I];decide)]);have:=GZ J (by rw[e6];exact l)
     rw[e6] at this;exact this
    replace a2:=qH a2;replace x:=qH x;replace s:=qH s;clear J p;go_wp2_with fail
    rcases g' with h0|h0
    ·subst h0;have I:B=false:=(by rw[<-U];exact vY (fun h=>by omega));replace a2:=trivial;replace x:=qH (x.out I);replace s:=qH (s.out I);clear U I HP;refine CW f1 (by kernel_rfl) ?_
     repeat (refine WQ.step fun K f=>?_;go_simp;first|(refine f _ ?_;clear f K)|(apply Exists.intro;refine⟨fun wq V=>?_,f _ ?_⟩;(·(first|with_reducible rfl|(go_simp;first|done|with_reducible rfl|with_reducible exact⟨rfl,rfl⟩)));clear f K))
     refine WQ.nil ?_;intro N t;obtain⟨Q,R,S,T⟩:=P.out N (btt O t);obtain⟨r0,r1,r2⟩:=HC.out N (btt r t);go_wp2_with fail
     refine(c1.out N (btt r t)).mono ?_;rintro e w5 ⟨rfl,c4⟩;have A:=btt (btt O t) c4;by_cases l:y=0
     ·have q:=x.out l;subst l;clear s x;go_wp2_with fail
      go_roundw
      case rel=>exact⟨_,by go_num,c9,q,A⟩
      case measure=>simp[intOf];omega
     ·have q:=s.out l;have h1:(y != 0)=true:=(by simpa using l);have c5:=btt j A;clear s x;go_wp2_with fail
      go_ret;exact⟨AM q.out,c5⟩
    ·obtain⟨p0,Z,Y⟩:=HP.out h0;obtain⟨pa,pc,C⟩:=Y.shape;subst C;obtain⟨c2,hP⟩:=AB ((cs.getD (b - 1) BE).1);have c3:B=decide (0<=AH c2 m.1):=(by rw[<-U,<-hP,<-c7];unfold NP;simp[h0]);rw[hP] at Z Y;obtain⟨j1,D⟩:=AB (AH c2 m.1);have b':=qH (fun W (d:Below M.heap.size M W)=>WZ (Y.keep (btt (btt G r) d)) (I0.out W (btt r d)));simp only[D] at b';rw[D] at c3;obtain⟨m1,b0⟩:=AB (c2.length);obtain⟨m2,b1⟩:=AB (m.1.length);obtain⟨k1,c8⟩:=AB (b - 1);rw[b0,c8] at Z;simp only[b0,b1] at b';have d4:=qH (fun W (d:Below M.heap.size M W)=>And.intro (g3.out W d) (AC (btt (btt G r) d) Z));simp only[b1] at d4;have d1:decide ((0:Int) < (b:Int))=true:=vZ (by omega);have i5:IntKind.i64.wrap ((b:Int) - 1)=(k1:Int):=(by rw[show(b:Int) - 1=(k1:Int) by omega];exact IntWalk.i64_in _ (by omega));have h':(k1:Int) < (cs.length:Int):=(by omega);have i0:(b:Int) < (cs.length:Int):=(by omega);replace U:=qH U;replace hP:=qH hP;replace D:=qH D;replace b0:=qH b0;replace b1:=qH b1;replace c8:=qH c8;clear Z Y;refine CW f1 (by kernel_rfl) ?_
     repeat (refine WQ.step fun K f=>?_;go_simp;first|(refine f _ ?_;clear f K)|(apply Exists.intro;refine⟨fun wq V=>?_,f _ ?_⟩;(·(first|with_reducible rfl|(obtain⟨⟨h6,h7⟩,f2⟩:=d4.out wq V;go_simp;first|done|with_reducible rfl|with_reducible exact⟨rfl,rfl⟩)));clear f K))
     (refine WQ.step fun K f=>?_;go_simp;first|(refine f _ ?_;clear f K)|(apply Exists.intro;refine⟨fun wq V=>?_,f _ ?_⟩;(·(refine(b'.out wq V).mono ?_;rintro e w' ⟨rfl,rfl⟩;exact⟨rfl,V⟩));clear f K))
     repeat (refine WQ.step fun K f=>?_;go_simp;first|(refine f _ ?_;clear f K)|(apply Exists.intro;refine⟨fun wq V=>?_,f _ ?_⟩;(·(first|with_reducible rfl|(go_simp;first|done|with_reducible rfl|with_reducible exact⟨rfl,rfl⟩)));clear f K))
     refine WQ.nil ?_;intro N t;rw[<-c3];clear c3;cases B
     ·replace a2:=trivial;replace x:=qH (x.out rfl);replace s:=qH (s.out rfl);obtain⟨Q,R,S,T⟩:=P.out N (btt O t);obtain⟨r0,r1,r2⟩:=HC.out N (btt r t);go_wp2_with fail
      refine(c1.out N (btt r t)).mono ?_;rintro e w5 ⟨rfl,c4⟩;have A:=btt (btt O t) c4;by_cases l:y=0
      ·have q:=x.out l;subst l;clear s x;go_wp2_with fail
       go_roundw
       case rel=>exact⟨_,by go_num,c9,q,A⟩
       case measure=>simp[intOf];omega
      ·have q:=s.out l;have h1:(y != 0)=true:=(by simpa using l);have c5:=btt j A;clear s x;go_wp2_with fail
       go_ret;exact⟨AM q.out,c5⟩
     ·have g7:=a2.out rfl;have A:=btt j (btt O t);go_wp2_with fail
      go_ret;exact⟨AM g7.out,A⟩
   ·rw[if_pos b2] at p;have q:=GZ J (by rw[p];exact b2);rw[p] at q;replace q:=qH q;have i6:(g2 != 0)=true:=(by simpa using b2);clear J p HP;go_wp2_with fail
    rw[<-z];replace z:=qH z;refine HV.out.mono ?_;rintro e M ⟨rfl,r⟩;have A:=btt j (btt D2 r);go_wp2_with fail
    go_ret;exact⟨AM q.out,A⟩
  ·have g6:Hid ((0:Int)=E):=by
    have:=D.out
    rw[show cs.length - b=0 by omega] at this;exact this
   have g8:=btt j a';clear D;go_wp2_with fail
   go_ret;exact⟨AM g6.out,g8⟩
end Go.Proofs.YtcnedkkcgdkioaaGreat

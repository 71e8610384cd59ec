/- Texts of this claim, put together: NG NC ND NE NF. -/
import Derived.Test.YtcnedkkcgdkioaaGreatKBv

set_option maxRecDepth 100000
set_option maxHeartbeats 12800000
namespace Go.Proofs.YtcnedkkcgdkioaaGreat
open Go.RowKit
theorem sQ {w:World}{u v:Value}{m n:Int}{xs ys:Jc}(k:DC w u m xs) (o:DC w v n ys) :
  Calls Tryz.prog 213 #[u,v] w fun e w'=>e = .returned (.bool (decide (m=n) && decide (xs=ys)))/\Below w.heap.size w w':=by
 obtain⟨su,rfl,hu⟩:=k;obtain⟨sv,rfl,hv⟩:=o;obtain⟨xa,xc,xb,xo,rfl,c0,M,_⟩:=hu;obtain⟨ya,yc,yb,yo,rfl,c1,P,_⟩:=hv;obtain⟨W,a⟩:=AF ((w.alloc (.cells #[.int .i64 m,.slice xa xs.length xc] 27)).alloc (.cells #[.int .i64 n,.slice ya ys.length yc] 27));obtain⟨b,⟨p0,p1⟩,⟨r0,r1⟩,_⟩:=fJ a;by_cases I:m=n
 ·subst I;rw[vZ rfl,Bool.true_and];obtain⟨B,f⟩:∃B,decide (xs=ys)=B:=⟨_,rfl⟩;rw[f];replace f:=qH f;by_cases l:xs.length=ys.length
  ·rw[<-l] at a r1|-;replace l:=qH l;have M:=qH (fun j (A:j < xs.length)=>show ∃u,W.cell? ⟨xb,xo+j,none⟩=some u/\KS 8 W u (xs.getD j []) from let ⟨u,c,p⟩:=M j A;⟨u,AC b c,p.keep b⟩);have P:=qH (fun j (A:j < ys.length)=>show ∃u,W.cell? ⟨yb,yo+j,none⟩=some u/\KS 8 W u (ys.getD j []) from let ⟨u,c,p⟩:=P j A;⟨u,AC b c,p.keep b⟩);have h0:Hid (xs.take 0=ys.take 0):=rfl;go_enter Tryz.func213, Tryz.ntmps213
   go_wp2_with fail
   rw[<-a];replace a:=qH a;go_wp2_with fail
   go_loopw [5] (fun R wr=>∃i:Nat,R = .int .i64 i/\i<=xs.length/\Hid (xs.take i=ys.take i)/\Qt W wr) (fun R _=>xs.length - (intOf R).toNat)
   case atStart=>exact⟨0,rfl,by omega,h0,Qt.refl _⟩
   case round=>
    clear h0;obtain⟨i,rfl,hi,t,n,rfl⟩:=hrel;by_cases D:i < xs.length
    ·obtain rfl:=c0 (by omega);obtain rfl:=c1 (by rw[<-l.out];omega);have b1:i < ys.length:=(by rw[<-l.out];exact D);obtain⟨u1,e',b3⟩:=M.out i D;obtain⟨u2,c2,b4⟩:=P.out i b1;obtain⟨x,k⟩:=AB (xs.getD i []);obtain⟨y,o⟩:=AB (ys.getD i []);rw[k] at b3;rw[o] at b4;have F:Hid (x=y->xs.take (i+1)=ys.take (i+1)):=fun h=>GA t.out D b1 (d:=[]) (by rw[k,o,h])
     have r:Hid (x ≠ y->B=false):=fun h=>by
      rw[<-f.out];exact vY fun p=>h (by rw[<-k,<-o,p])
     obtain⟨ma,mc,mb,mo,rfl,b7,H,_⟩:=b3;obtain⟨na,nc,nb,no,rfl,b8,J,_⟩:=b4;replace H:=qH H;replace J:=qH J;have e8:(i:Int) < (xs.length:Int):=(by omega);clear k o t;by_cases C:x.length=y.length
     ·rw[<-C] at c2;have G:=qH C;have b0:Hid (x.take 0=y.take 0):=rfl;clear C;go_wp2_with fail
      go_quiet (fail)
      go_wp2_with fail
      go_loopw [6] (fun S wr=>∃j:Nat,S = .int .i64 j/\j<=x.length/\Hid (x.take j=y.take j)/\Qt W wr) (fun S _=>x.length - (intOf S).toNat)
      case atStart=>exact⟨0,rfl,by omega,b0,by first|exact(Qt.mk' W n).step nq|exact Qt.mk' W _⟩
      case round=>
       clear b0;obtain⟨j,rfl,A,t,c3,rfl⟩:=hrel;by_cases E:j < x.length
       ·obtain rfl:=b7 (by omega);obtain rfl:=b8 (by rw[<-G.out];omega);have b2:j < y.length:=(by rw[<-G.out];exact E);obtain⟨L,N⟩:=H.out j E;obtain⟨O,Q⟩:=J.out j b2;obtain⟨f8,s⟩:=AB (x.getD j []);obtain⟨g0,z⟩:=AB (y.getD j []);rw[s] at L N;rw[z] at O Q;obtain⟨T,U,V,X,Y,Z,x6,x7,rfl⟩:=CT L;obtain⟨y0,y1,y2,y3,y4,y5,y6,y7,rfl⟩:=CT O;obtain⟨d2,d3,d4,d5,c4,c5,c6,c7⟩:=N.all8;obtain⟨d0,d1,e1,e2,e3,e4,d6,d7⟩:=Q.all8;have e9:(j:Int) < (x.length:Int):=(by omega);clear N Q L O;by_cases g : [T,U,V,X,Y,Z,x6,x7] = [y0,y1,y2,y3,y4,y5,y6,y7]
        ·have hE:BI [T,U,V,X,Y,Z,x6,x7] [y0,y1,y2,y3,y4,y5,y6,y7]=true:=FN.2 g;have K:Hid (x.take (j+1)=y.take (j+1)):=GA t.out E b2 (by rw[s,z,g]);clear s z g t;go_wp2_with fail
         go_quiet (fail)
         go_wp2_with fail
         go_roundw
         case rel=>exact⟨j+1,by go_num,E,K,by first|exact(Qt.mk' W c3).step nq|exact Qt.mk' W _⟩
         case measure=>simp[intOf];omega
        ·have hE:BI [T,U,V,X,Y,Z,x6,x7] [y0,y1,y2,y3,y4,y5,y6,y7]=false:=FL.2 g;have q:Hid (B=false):=r.out fun h=>g (by rw[<-s,<-z,h]);clear s z g t F r;go_wp2_with fail
         go_quiet (fail)
         go_wp2_with fail
         go_ret;exact⟨by rw[q.out];rfl,by first|exact wH b _|exact wH (wH b _) _⟩
       ·have K:Hid (xs.take (i+1)=ys.take (i+1)):=F.out (FZ t.out (by omega) (by rw[<-G.out];omega));clear F r t;go_wp2_with fail
        go_roundw
        case rel=>exact⟨i+1,by go_num,D,K,Qt.mk' W _⟩
        case measure=>simp[intOf];omega
     ·have q:Hid (B=false):=r.out fun h=>C (by rw[h]);have c:((x.length:Int) == (y.length:Int))=false:=(by simp;omega);clear F r;go_wp2_with fail
      go_quiet (fail)
      go_wp2_with fail
      go_ret;exact⟨by rw[q.out];rfl,by first|exact wH b _|exact wH (wH b _) _⟩
    ·have b5:Hid (B=true):=by
      show _=_;rw[<-f.out];exact vZ (FZ t.out (by omega) (by rw[<-l.out];omega))
     clear t;go_wp2_with fail
     go_ret;exact⟨by rw[b5.out];rfl,wH b _⟩
  ·have q:B=false:=(by rw[<-f.out];exact vY fun h=>l (by rw[h]));subst q;have c:((xs.length:Int) == (ys.length:Int))=false:=(by simp;omega);go_enter Tryz.func213, Tryz.ntmps213
   go_wp2_with fail
   rw[<-a];go_ret;exact⟨rfl,b⟩
 ·have c:(m == n)=false:=by simp[I]
  rw[vY I,Bool.false_and];go_enter Tryz.func213, Tryz.ntmps213
  go_wp2_with fail
  rw[<-a];go_ret;exact⟨rfl,b⟩
theorem sM {w:World}{u v:Value}{xs ys:List Int}(a:AR w u xs) (b:AR w v ys) :
  Calls Tryz.prog 215 #[u,v] w fun e w'=>e = .returned (.bool (decide (xs=ys)))/\Qt w w':=by
 obtain⟨G,I,H,J,rfl,s,j,_⟩:=a;obtain⟨K,M,L,N,rfl,A,k,_⟩:=b;obtain⟨B,c⟩:∃B,decide (xs=ys)=B:=⟨_,rfl⟩;rw[c];replace c:=qH c;replace j:=qH j;replace k:=qH k;by_cases l:xs.length=ys.length
 ·rw[<-l];replace l:=qH l;have o:Hid (xs.take 0=ys.take 0):=rfl;go_enter Tryz.func215, Tryz.ntmps215
  go_wp2;go_loopw [5] (fun m wr=>∃i:Nat,m = .int .i64 i/\i<=xs.length/\Hid (xs.take i=ys.take i)/\Qt w wr) (fun m _=>xs.length - (intOf m).toNat)
  case atStart=>exact⟨0,rfl,by omega,o,Qt.refl w⟩
  case round=>
   clear o;obtain⟨i,rfl,F,t,n,rfl⟩:=hrel;by_cases f:i < xs.length
   ·obtain rfl:=s (by omega);obtain rfl:=A (by rw[<-l.out];omega);have p:i < ys.length:=(by rw[<-l.out];exact f);have z:=j.out i f;have C:=k.out i p;obtain⟨x,a⟩:=AB (xs.getD i 0);obtain⟨y,b⟩:=AB (ys.getD i 0);rw[a] at z;rw[b] at C;by_cases d:x=y
    ·subst d;have r:Hid (xs.take (i+1)=ys.take (i+1)):=GA t.out f p (by rw[a,b]);clear a b t;go_wp2;go_quiet (fail)
     go_wp2;go_roundw
     case rel=>exact⟨i+1,by go_num,f,r,by first|exact(Qt.mk' w n).step nq|exact Qt.mk' w _⟩
     case measure=>simp[intOf];omega
    ·have E:(x == y)=false:=by simp[d]
     have g:Hid (B=false):=by
      show _=_;rw[<-c.out];refine vY fun h=>d ?_;rw[<-a,<-b,h]
     clear a b d t;go_wp2;go_quiet (fail)
     go_wp2;go_ret;exact⟨by rw[g.out];rfl,by first|exact(Qt.mk' w n).step nq|exact Qt.mk' w _⟩
   ·have q:Hid (B=true):=by
     show _=_;rw[<-c.out];exact vZ (FZ t.out (by omega) (by rw[<-l.out];omega))
    clear t;go_wp2;go_ret;exact⟨by rw[q.out];rfl,Qt.mk' w n⟩
 ·have g:B=false:=by rw[<-c.out];exact vY fun h=>l (by rw[h])
  subst g;have D:((xs.length:Int) == (ys.length:Int))=false:=by simp;omega
  go_enter Tryz.func215, Tryz.ntmps215
  go_wp2;go_ret;exact⟨rfl,Qt.refl w⟩
theorem sO {w:World}{u v:Value}{n i o an r:Int}{cs:List Cs}{ss:Jc}(V:ED w u n i o cs an ss r) (X:ED w v n i o cs an ss r) :
  Calls Tryz.prog 170 #[u,v] w fun e w'=>e = .returned (.bool true)/\Below w.heap.size w w':=by
 obtain⟨a,c,E,G,rfl,N,L⟩:=V;obtain⟨b,d,F,H,rfl,U,M⟩:=X;obtain⟨f,g⟩:=AF ((w.alloc (.cells #[.int .i64 n,.int .i64 i,.int .i64 o,.slice a cs.length c,.int .i64 an,.slice E ss.length G,.int .i64 r] 29)).alloc (.cells #[.int .i64 n,.int .i64 i,.int .i64 o,.slice b cs.length d,.int .i64 an,.slice F ss.length H,.int .i64 r] 29));have j:Below w.heap.size w f:=by rw[g];exact((wB _ w).alloc (wC _) _).alloc (by simp) _
 have O:f.heap[w.heap.size]? = some (.cells #[.int .i64 n,.int .i64 i,.int .i64 o,.slice a cs.length c,.int .i64 an,.slice E ss.length G,.int .i64 r] 29):=by
  rw[g];exact(Below.heap_alloc _ _ _ (by simp)).trans (wE w _)
 have P:f.heap[w.heap.size+1]? = some (.cells #[.int .i64 n,.int .i64 i,.int .i64 o,.slice b cs.length d,.int .i64 an,.slice F ss.length H,.int .i64 r] 29):=by
  rw[g];have:=wE (w.alloc (.cells #[.int .i64 n,.int .i64 i,.int .i64 o,.slice a cs.length c,.int .i64 an,.slice E ss.length G,.int .i64 r] 29)) (.cells #[.int .i64 n,.int .i64 i,.int .i64 o,.slice b cs.length d,.int .i64 an,.slice F ss.length H,.int .i64 r] 29)
  rwa [World.size_alloc] at this
 have T:=qH (fun W (h:Below f.heap.size f W)=>qY ((N.keep j).keep h) ((U.keep j).keep h));have J:=qH (fun W (h:Below f.heap.size f W)=>sQ ((L.keep j).keep h) ((M.keep j).keep h));simp only[decide_true,Bool.and_self] at T J;have K:=qH (fun W (h:Below f.heap.size f W)=>And.intro (keep7 h (box7' O)) (keep7 h (box7' P)));obtain⟨⟨p,k,l,m,q,s,t⟩,x,y,z,A,B,C,D⟩:=K.out f (wB _ _);rw[g] at p k l m q s t x y z A B C D;clear N U L M O P;go_enter Tryz.func170, Tryz.ntmps170
 go_wp2_with fail
 rw[<-g];replace g:=qH g;refine(T.out f (wB _ _)).mono ?_;rintro e Q ⟨rfl,I⟩;clear p k l m q s t x y z A B C D;obtain⟨⟨p,k,l,m,q,s,t⟩,x,y,z,A,B,C,D⟩:=K.out Q I;go_wp2_with fail
 refine(J.out Q I).mono ?_;rintro e Y ⟨rfl,R⟩;have S:=btt j (btt I R);clear p k l m q s t x y z A B C D;go_wp2_with fail
 go_ret;exact⟨rfl,S⟩
theorem qZ {w:World}{m n:Int}{xa g:Option Addr}{xc j:Nat}{xs ys:Jb}(x:KS 8 w (.slice xa xs.length xc) xs) (y:KS 8 w (.slice g ys.length j) ys) :
  Calls Tryz.prog 171 #[.agg #[.int .i64 m,.slice xa xs.length xc],.agg #[.int .i64 n,.slice g ys.length j]] w fun e w'=>e = .returned (.bool (decide (m=n) && decide (xs=ys)))/\Below w.heap.size w w':=by
 obtain⟨W,a⟩:=AF ((w.alloc (.cells #[.int .i64 m,.slice xa xs.length xc] 32)).alloc (.cells #[.int .i64 n,.slice g ys.length j] 32));have c:Below w.heap.size w W:=by rw[a];exact((wB _ w).alloc (wC _) _).alloc (by simp) _
 have F:W.heap[w.heap.size]? = some (.cells #[.int .i64 m,.slice xa xs.length xc] 32):=by
  rw[a];exact(Below.heap_alloc _ _ _ (by simp)).trans (wE w _)
 have G:W.heap[w.heap.size+1]? = some (.cells #[.int .i64 n,.slice g ys.length j] 32):=by
  rw[a];have:=wE (w.alloc (.cells #[.int .i64 m,.slice xa xs.length xc] 32)) (.cells #[.int .i64 n,.slice g ys.length j] 32)
  rwa [World.size_alloc] at this
 have HK:=qH (fun a7 (k:Below W.heap.size W a7)=>And.intro (And.intro (AC k (BA F).1) (AC k (BA F).2)) (And.intro (AC k (BA G).1) (AC k (BA G).2)));obtain⟨⟨H,I⟩,J,K⟩:=HK.out W (wB _ _);rw[a] at H I J K;obtain⟨e1,e3,xb,xo,p,b0,v,_⟩:=x;obtain⟨e6,e8,yb,yo,q,b1,C,_⟩:=y;injection p with p _ ex2;injection q with q _ ey2;subst p ex2 q ey2;replace v:=qH v;replace C:=qH C;clear F G;by_cases s:m=n
 ·subst s;rw[vZ (rfl:m=m),Bool.true_and];obtain⟨B,d⟩:∃B,decide (xs=ys)=B:=⟨_,rfl⟩;rw[d];replace d:=qH d;by_cases l:xs.length=ys.length
  ·have a5:((xs.length:Int) != (ys.length:Int))=false:=(by simp;omega);replace l:=qH l;have h0:Hid (xs.take 0=ys.take 0):=rfl;have a4:=wB W.heap.size W;go_enter Tryz.func171, Tryz.ntmps171
   go_wp2;rw[<-a];replace a:=qH a;clear H I J K;go_loopw [5] (fun E wr=>∃i:Nat,E = .int .i64 i/\i<=xs.length/\Hid (xs.take i=ys.take i)/\Below W.heap.size W wr) (fun E _=>xs.length - (intOf E).toNat)
   case atStart=>exact⟨0,rfl,by omega,h0,a4⟩
   case round=>
    clear h0 a4;obtain⟨i,rfl,hi,t,b⟩:=hrel;obtain⟨⟨H,I⟩,J,K⟩:=HK.out wr b;by_cases o:i < xs.length
    ·obtain rfl:=b0 (by omega);obtain rfl:=b1 (by rw[<-l.out];omega);have a6:i < ys.length:=(by rw[<-l.out];exact o);obtain⟨u,z⟩:=v.out i o;obtain⟨A,D⟩:=C.out i a6;obtain⟨e0,x⟩:=AB (xs.getD i []);obtain⟨e5,y⟩:=AB (ys.getD i []);rw[x] at u z;rw[y] at A D;obtain⟨L,M,N,O,P,Q,R,S,rfl⟩:=CT u;obtain⟨T,U,V,X,Y,Z,y6,y7,rfl⟩:=CT A;obtain⟨c0,c1,c2,c3,c4,c5,c6,c7⟩:=(z.keep (btt c b)).all8;obtain⟨d0,d1,d2,d3,d4,d5,d6,d7⟩:=(D.keep (btt c b)).all8;have d9:(i:Int) < (xs.length:Int):=(by omega);have d':(i:Int) < (ys.length:Int):=(by omega);clear z D u A;by_cases f : [L,M,N,O,P,Q,R,S] = [T,U,V,X,Y,Z,y6,y7]
     ·have hE:BI [L,M,N,O,P,Q,R,S] [T,U,V,X,Y,Z,y6,y7]=true:=FN.2 f;have a':Hid (xs.take (i+1)=ys.take (i+1)):=GA t.out o a6 (by rw[x,y,f]);clear x y f t;go_wp2;go_quiet (fail)
      go_wp2;go_roundw
      case rel=>exact⟨i+1,by go_num,o,a',by first|exact b|exact wH b _⟩
      case measure=>simp[intOf];omega
     ·have hE:BI [L,M,N,O,P,Q,R,S] [T,U,V,X,Y,Z,y6,y7]=false:=FL.2 f
      have r:Hid (B=false):=by
       show _=_;rw[<-d.out];refine vY fun h=>f ?_;rw[<-x,<-y,h]
      clear x y f t;go_wp2;go_quiet (fail)
      go_wp2;go_ret;exact⟨by rw[r.out];rfl,by first|exact btt c b|exact btt c (wH b _)⟩
    ·have a8:Hid (B=true):=by
      show _=_;rw[<-d.out];exact vZ (FZ t.out (by omega) (by rw[<-l.out];omega))
     clear t;go_wp2;go_ret;exact⟨by rw[a8.out];rfl,btt c b⟩
  ·have r:B=false:=(by rw[<-d.out];exact vY fun h=>l (by rw[h]));subst r;have a5:((xs.length:Int) != (ys.length:Int))=true:=(by simp;omega);go_enter Tryz.func171, Tryz.ntmps171
   go_wp2;go_ret;exact⟨rfl,by rw[<-a];exact c⟩
 ·have a5:(m != n)=true:=by simpa using s
  rw[vY s,Bool.false_and];go_enter Tryz.func171, Tryz.ntmps171
  go_wp2;go_ret;exact⟨rfl,by rw[<-a];exact c⟩
theorem rA {w:World}{x y:Ex}{u1 u2 L M:Value}(V:KS 7 w u1 x.2.1) (h2:BM w u2 x.2.2) (k1:KS 7 w L y.2.1) (k2:BM w M y.2.2) :
  Calls Tryz.prog 172 #[.agg #[.int .i64 x.1,u1,u2],.agg #[.int .i64 y.1,L,M]] w fun e w'=>e = .returned (.bool (NM x y))/\Below w.heap.size w w':=by
 have b6 : Tryz.prog.follows .mixedOrders=true:=by kernel_rfl
 obtain⟨r,xw,s⟩:=x;obtain⟨N,yw,f⟩:=y;obtain⟨a,c⟩:=AF ((w.alloc (.cells #[.int .i64 r,u1,u2] 80)).alloc (.cells #[.int .i64 N,L,M] 80));have m:Below w.heap.size w a:=by rw[c];exact((wB _ w).alloc (wC _) _).alloc (by simp) _
 have kA:a.heap[w.heap.size]? = some (.cells #[.int .i64 r,u1,u2] 80):=by
  rw[c];exact(Below.heap_alloc _ _ _ (by simp)).trans (wE w _)
 have kB:a.heap[w.heap.size+1]? = some (.cells #[.int .i64 N,L,M] 80):=by
  rw[c];have:=wE (w.alloc (.cells #[.int .i64 r,u1,u2] 80)) (.cells #[.int .i64 N,L,M] 80)
  rwa [World.size_alloc] at this
 have R:=qH (fun W (d:Below a.heap.size a W)=>sP ((V.keep m).keep d) ((k1.keep m).keep d));obtain⟨ua,uc,rfl⟩:=V.shape;obtain⟨va,vc,rfl⟩:=k1.shape;obtain⟨xa,xc,xb,xo,rfl,b',Y,_⟩:=h2;obtain⟨ya,yc,yb,yo,rfl,c0,Z,_⟩:=k2;have H:=qH (fun W (d:Below a.heap.size a W)=>And.intro (keep3 d (box3' kA)) (keep3 d (box3' kB)));obtain⟨⟨p,g,j⟩,q,k,l⟩:=H.out a (wB _ _);rw[c] at p g j q k l;unfold NM;replace Y:=qH Y;replace Z:=qH Z;clear V k1 kA kB;by_cases U:r=N
 ·subst U;rw[vZ (rfl:r=r),Bool.true_and];by_cases t:xw=yw
  ·rw[vZ t,Bool.true_and];simp only[decide_eq_true t] at R;clear t;obtain⟨B,u⟩:∃B,decide (s=f)=B:=⟨_,rfl⟩;show Calls _ _ _ _ fun e w'=>e = .returned (.bool (decide (s=f)))/\_;rw[u];replace u:=qH u;by_cases v:s.length=f.length
   ·have b5:((s.length:Int) != (f.length:Int))=false:=(by simp;omega);replace v:=qH v;have h0:Hid (s.take 0=f.take 0):=rfl;go_enter Tryz.func172, Tryz.ntmps172
    go_wp2_with fail
    rw[<-c];replace c:=qH c;refine(R.out a (wB _ _)).mono ?_;rintro e o ⟨rfl,F⟩;have n:Below a.heap.size a o:=F.below;clear p g j q k l;obtain⟨⟨p,g,j⟩,q,k,l⟩:=H.out o n;go_wp2_with fail
    clear p g j q k l;go_loopw [5] (fun iv wr=>∃i:Nat,iv = .int .i64 i/\i<=s.length/\Hid (s.take i=f.take i)/\Below a.heap.size a wr) (fun iv _=>s.length - (intOf iv).toNat)
    case atStart=>exact⟨0,rfl,by omega,h0,n⟩
    case round=>
     clear h0 n;obtain⟨i,rfl,hi,G,A⟩:=hrel;obtain⟨⟨p,g,j⟩,q,k,l⟩:=H.out wr A;by_cases P:i < s.length
     ·obtain rfl:=b' (by omega);obtain rfl:=c0 (by rw[<-v.out];omega);have a7:i < f.length:=(by rw[<-v.out];exact P);obtain⟨cu,a5,Q⟩:=Y.out i P;obtain⟨cv,a6,S⟩:=Z.out i a7;have O:=btt m A;obtain⟨x,I⟩:=AB (s.getD i []);obtain⟨y,J⟩:=AB (f.getD i []);rw[I] at Q;rw[J] at S;have HS:=qH (fun W (d:Below wr.heap.size wr W)=>sM ((Q.keep O).keep d) ((S.keep O).keep d));obtain⟨za,zc,hz⟩:=Q.shape;obtain⟨ta,tc,b8⟩:=S.shape;subst hz b8;have a':=qH (fun W (d:Below wr.heap.size wr W)=>And.intro (H.out W (btt A d)) (And.intro (AC d (AC O a5)) (AC d (AC O a6))));have c7:(i:Int) < (s.length:Int):=(by omega);have c8:(i:Int) < (f.length:Int):=(by omega);obtain⟨E,z⟩:∃E,decide (x=y)=E:=⟨_,rfl⟩;simp only[z] at HS;clear Q S a5 a6;go_wp2_with fail
      refine CW b6 (by kernel_rfl) ?_
      repeat (refine WQ.step fun K b=>?_;go_simp;first|(refine b _ ?_;clear b K)|(apply Exists.intro;refine⟨fun T C=>?_,b _ ?_⟩;(·(first|with_reducible rfl|(obtain⟨⟨⟨p,g,j⟩,q,k,l⟩,cu,cv⟩:=a'.out T C;go_simp;first|done|with_reducible rfl|with_reducible exact⟨rfl,rfl⟩)));clear b K))
      (refine WQ.step fun K b=>?_;go_simp;first|(refine b _ ?_;clear b K)|(apply Exists.intro;refine⟨fun T C=>?_,b _ ?_⟩;(·(refine(HS.out T C).mono ?_;rintro e w' ⟨rfl,hq⟩;exact⟨rfl,btt C hq.below⟩));clear b K))
      repeat (refine WQ.step fun K b=>?_;go_simp;first|(refine b _ ?_;clear b K)|(apply Exists.intro;refine⟨fun T C=>?_,b _ ?_⟩;(·(first|with_reducible rfl|(go_simp;first|done|with_reducible rfl|with_reducible exact⟨rfl,rfl⟩)));clear b K))
      refine WQ.nil ?_;intro w5 b4;have a4:=btt A b4;cases E with
      | true=>
       have D:=of_decide_eq_true z;have b9:Hid (s.take (i+1)=f.take (i+1)):=GA G.out P a7 (by rw[I,J,D]);clear I J D G z;go_wp2_with fail
       go_roundw
       case rel=>exact⟨i+1,by go_num,P,b9,a4⟩
       case measure=>simp[intOf];omega
      | false=>
       have D:=of_decide_eq_false z
       have X:Hid (B=false):=by
        show _=_;rw[<-u.out];refine vY fun h=>D ?_;rw[<-I,<-J,h]
       clear I J D G z;go_wp2_with fail
       go_ret;exact⟨by rw[X.out];rfl,btt m a4⟩
     ·have b3:Hid (B=true):=by
       show _=_;rw[<-u.out];exact vZ (FZ G.out (by omega) (by rw[<-v.out];omega))
      clear G;go_wp2;go_ret;exact⟨by rw[b3.out];rfl,btt m A⟩
   ·have X:B=false:=(by rw[<-u.out];exact vY fun h=>v (by rw[h]));subst X;have b5:((s.length:Int) != (f.length:Int))=true:=(by simp;omega);go_enter Tryz.func172, Tryz.ntmps172
    go_wp2_with fail
    rw[<-c];replace c:=qH c;refine(R.out a (wB _ _)).mono ?_;rintro e o ⟨rfl,F⟩;have n:Below a.heap.size a o:=F.below;clear p g j q k l;obtain⟨⟨p,g,j⟩,q,k,l⟩:=H.out o n;go_wp2;go_ret;exact⟨rfl,btt m n⟩
  ·rw[vY t,Bool.false_and];simp only[decide_eq_false t] at R;clear t;go_enter Tryz.func172, Tryz.ntmps172
   go_wp2_with fail
   rw[<-c];replace c:=qH c;refine(R.out a (wB _ _)).mono ?_;rintro e o ⟨rfl,F⟩;have n:Below a.heap.size a o:=F.below;clear p g j q k l;go_wp2;go_ret;exact⟨rfl,btt m n⟩
 ·have e2:(r != N)=true:=by simpa using U
  rw[vY U,Bool.false_and];go_enter Tryz.func172, Tryz.ntmps172
  go_wp2;go_ret;exact⟨rfl,by rw[<-c];exact m⟩
theorem qX {w:World}{u v:Value}{n i o an r tn T:Int}{cs:List Cs}{ss:Jc}{vs ws:Jb}{xs ys:List Ex}(R:CC w u n i o cs an ss r tn vs xs) (S:CC w v n i o cs an ss r T ws ys) :
  Calls Tryz.prog 105 #[u,v] w fun e w'=>e = .returned (.bool (decide (tn=T) && decide (vs=ws) && decide (xs=ys)))/\Below w.heap.size w w':=by
 have g2 : Tryz.prog.follows .mixedOrders=true:=by kernel_rfl
 obtain⟨b6,c1,a',c',va,vc,xa,xc,rfl,hP,hV,hX⟩:=R;obtain⟨b8,c5,b',d',wa,wc,ya,yc,rfl,hQ,hW,hY⟩:=S;obtain⟨a,J⟩:=AF ((w.alloc (.cells #[.int .i64 n,.int .i64 i,.int .i64 o,.slice b6 cs.length c1,.int .i64 an,.slice a' ss.length c',.int .i64 r,.int .i64 tn,.slice va vs.length vc,.slice xa xs.length xc] 35)).alloc (.cells #[.int .i64 n,.int .i64 i,.int .i64 o,.slice b8 cs.length c5,.int .i64 an,.slice b' ss.length d',.int .i64 r,.int .i64 T,.slice wa ws.length wc,.slice ya ys.length yc] 35));have P:Below w.heap.size w a:=by rw[J];exact((wB _ w).alloc (wC _) _).alloc (by simp) _
 have kA:a.heap[w.heap.size]? = some (.cells #[.int .i64 n,.int .i64 i,.int .i64 o,.slice b6 cs.length c1,.int .i64 an,.slice a' ss.length c',.int .i64 r,.int .i64 tn,.slice va vs.length vc,.slice xa xs.length xc] 35):=by
  rw[J];exact(Below.heap_alloc _ _ _ (by simp)).trans (wE w _)
 have kB:a.heap[w.heap.size+1]? = some (.cells #[.int .i64 n,.int .i64 i,.int .i64 o,.slice b8 cs.length c5,.int .i64 an,.slice b' ss.length d',.int .i64 r,.int .i64 T,.slice wa ws.length wc,.slice ya ys.length yc] 35):=by
  rw[J];have:=wE (w.alloc (.cells #[.int .i64 n,.int .i64 i,.int .i64 o,.slice b6 cs.length c1,.int .i64 an,.slice a' ss.length c',.int .i64 r,.int .i64 tn,.slice va vs.length vc,.slice xa xs.length xc] 35)) (.cells #[.int .i64 n,.int .i64 i,.int .i64 o,.slice b8 cs.length c5,.int .i64 an,.slice b' ss.length d',.int .i64 r,.int .i64 T,.slice wa ws.length wc,.slice ya ys.length yc] 35)
  rwa [World.size_alloc] at this
 have N:=qH (fun W (h:Below a.heap.size a W)=>And.intro (And.intro (keep7 h (AW kA).1) (keep3' h (AW kA).2)) (And.intro (keep7 h (AW kB).1) (keep3' h (AW kB).2)));have HP:=qH (fun W (h:Below a.heap.size a W)=>sO ((hP.keep P).keep h) ((hQ.keep P).keep h));have HT:=qH (fun W (h:Below a.heap.size a W)=>qZ (m:=tn) (n:=T) ((hV.keep P).keep h) ((hW.keep P).keep h));obtain⟨i7,i9,xb,xo,ex,g9,d7,_⟩:=hX;obtain⟨j5,j7,yb,yo,ey,g',d8,_⟩:=hY;injection ex with ex _ ex2;injection ey with ey _ ey2;subst ex ex2 ey ey2;obtain⟨⟨⟨c,d,f,g,j,k,l⟩,s,t,p⟩,⟨z,A,C,D,E,F,G⟩,H,I,q⟩:=N.out a (wB _ _);rw[J] at c d f g j k l s t p z A C D E F G H I q;replace d7:=qH d7;replace d8:=qH d8;obtain⟨b5,hT⟩:∃b5,(decide (tn=T) && decide (vs=ws))=b5:=⟨_,rfl⟩;simp only[hT] at HT;rw[hT];clear hP hQ hV hW kA kB hT;cases b5 with
 | true=>
  rw[Bool.true_and];obtain⟨B,U⟩:∃B,decide (xs=ys)=B:=⟨_,rfl⟩;rw[U];replace U:=qH U;by_cases V:xs.length=ys.length
  ·have g1:((xs.length:Int) != (ys.length:Int))=false:=(by simp;omega);replace V:=qH V;have h0:Hid (xs.take 0=ys.take 0):=rfl;go_enter Tryz.func105, Tryz.ntmps105
   go_wp2_with fail
   rw[<-J];replace J:=qH J;refine(HP.out a (wB _ _)).mono ?_;rintro e Q ⟨rfl,L⟩;clear c d f g j k l s t p z A C D E F G H I q;obtain⟨⟨⟨c,d,f,g,j,k,l⟩,s,t,p⟩,⟨z,A,C,D,E,F,G⟩,H,I,q⟩:=N.out Q L;go_wp2_with fail
   refine(HT.out Q L).mono ?_;rintro e w3 ⟨rfl,Z⟩;have O:=btt L Z;clear c d f g j k l s t p z A C D E F G H I q;obtain⟨⟨⟨c,d,f,g,j,k,l⟩,s,t,p⟩,⟨z,A,C,D,E,F,G⟩,H,I,q⟩:=N.out w3 O;go_wp2_with fail
   clear c d f g j k l s t p z A C D E F G H I q;go_loopw [5] (fun iv wr=>∃i:Nat,iv = .int .i64 i/\i<=xs.length/\Hid (xs.take i=ys.take i)/\Below a.heap.size a wr) (fun iv _=>xs.length - (intOf iv).toNat)
   case atStart=>exact⟨0,rfl,by omega,h0,O⟩
   case round=>
    clear h0 O;obtain⟨i,rfl,hi,ht,a0⟩:=hrel;obtain⟨⟨-,-,-,p⟩,-,-,-,q⟩:=N.out wr a0;by_cases a7:i < xs.length
    ·obtain rfl:=g9 (by omega);obtain rfl:=g' (by rw[<-V.out];omega);have f6:i < ys.length:=(by rw[<-V.out];exact a7);obtain⟨u1,u2,c0,c3,c2,i1,i2⟩:=d7.out i a7;obtain⟨v1,v2,d0,d1,d2,j1,j2⟩:=d8.out i f6;have M:=btt P a0;obtain⟨e5,R⟩:=AB (xs.getD i BJ);obtain⟨e8,S⟩:=AB (ys.getD i BJ);rw[R] at c0 i1 i2;rw[S] at d0 j1 j2;have HS:=qH (fun W (h:Below wr.heap.size wr W)=>rA (x:=e5) (y:=e8) (i1.keep (btt M h)) (i2.keep (btt M h)) (j1.keep (btt M h)) (j2.keep (btt M h)));simp only[cW] at HS;obtain⟨ea,ec,g5⟩:=i1.shape;obtain⟨eb,ed,g6⟩:=i2.shape;obtain⟨fa,fc,g7⟩:=j1.shape;obtain⟨fb,fd,g8⟩:=j2.shape;subst g5 g6 g7 g8;have f7:=qH (fun W (h:Below wr.heap.size wr W)=>And.intro (N.out W (btt a0 h)) (And.intro (And.intro (AC h (AC M c0)) (And.intro (AC h (AC M c3)) (AC h (AC M c2)))) (And.intro (AC h (AC M d0)) (And.intro (AC h (AC M d1)) (AC h (AC M d2))))));have h':(i:Int) < (xs.length:Int):=(by omega);have i0:(i:Int) < (ys.length:Int):=(by omega);obtain⟨b2,Y⟩:∃b2,decide (e5=e8)=b2:=⟨_,rfl⟩;simp only[Y] at HS;clear i1 i2 j1 j2 c0 c3 c2 d0 d1 d2;obtain⟨x0,xw,xv⟩:=e5;obtain⟨y0,yw,yv⟩:=e8;go_wp2_with fail
     refine CW g2 (by kernel_rfl) ?_
     repeat (refine WQ.step fun K b=>?_;go_simp;first|(refine b _ ?_;clear b K)|(apply Exists.intro;refine⟨fun wq X=>?_,b _ ?_⟩;(·(first|with_reducible rfl|(obtain⟨⟨⟨-,-,-,p⟩,-,-,-,q⟩,⟨c0,c3,c2⟩,d0,d1,d2⟩:=f7.out wq X;go_simp;first|done|with_reducible rfl|with_reducible exact⟨rfl,rfl⟩)));clear b K))
     (refine WQ.step fun K b=>?_;go_simp;first|(refine b _ ?_;clear b K)|(apply Exists.intro;refine⟨fun wq X=>?_,b _ ?_⟩;(·(refine(HS.out wq X).mono ?_;rintro e w' ⟨rfl,hq⟩;exact⟨rfl,btt X hq⟩));clear b K))
     repeat (refine WQ.step fun K b=>?_;go_simp;first|(refine b _ ?_;clear b K)|(apply Exists.intro;refine⟨fun wq X=>?_,b _ ?_⟩;(·(first|with_reducible rfl|(go_simp;first|done|with_reducible rfl|with_reducible exact⟨rfl,rfl⟩)));clear b K))
     refine WQ.nil ?_;intro w5 g0;have f5:=btt a0 g0;cases b2 with
     | true=>
      have he:=of_decide_eq_true Y;have g4:Hid (xs.take (i+1)=ys.take (i+1)):=GA ht.out a7 f6 (by rw[R,S,he]);clear R S he ht Y;go_wp2_with fail
      go_roundw
      case rel=>exact⟨i+1,by go_num,a7,g4,f5⟩
      case measure=>simp[intOf];omega
     | false=>
      have he:=of_decide_eq_false Y
      have d5:Hid (B=false):=by
       show _=_;rw[<-U.out];refine vY fun d4=>he ?_;rw[<-R,<-S,d4]
      clear R S he ht Y;go_wp2_with fail
      go_ret;exact⟨by rw[d5.out];rfl,btt P f5⟩
    ·have f8:Hid (B=true):=by
      show _=_;rw[<-U.out];exact vZ (FZ ht.out (by omega) (by rw[<-V.out];omega))
     clear ht;go_wp2;go_ret;exact⟨by rw[f8.out];rfl,btt P a0⟩
  ·have d5:B=false:=(by rw[<-U.out];exact vY fun d4=>V (by rw[d4]));subst d5;have g1:((xs.length:Int) != (ys.length:Int))=true:=(by simp;omega);go_enter Tryz.func105, Tryz.ntmps105
   go_wp2_with fail
   rw[<-J];replace J:=qH J;refine(HP.out a (wB _ _)).mono ?_;rintro e Q ⟨rfl,L⟩;clear c d f g j k l s t p z A C D E F G H I q;obtain⟨⟨⟨c,d,f,g,j,k,l⟩,s,t,p⟩,⟨z,A,C,D,E,F,G⟩,H,I,q⟩:=N.out Q L;go_wp2_with fail
   refine(HT.out Q L).mono ?_;rintro e w3 ⟨rfl,Z⟩;have O:=btt L Z;clear c d f g j k l s t p z A C D E F G H I q;obtain⟨⟨⟨c,d,f,g,j,k,l⟩,s,t,p⟩,⟨z,A,C,D,E,F,G⟩,H,I,q⟩:=N.out w3 O;go_wp2_with fail
   go_ret;exact⟨rfl,btt P O⟩
 | false=>
  rw[Bool.false_and];go_enter Tryz.func105, Tryz.ntmps105
  go_wp2_with fail
  rw[<-J];replace J:=qH J;refine(HP.out a (wB _ _)).mono ?_;rintro e Q ⟨rfl,L⟩;clear c d f g j k l s t p z A C D E F G H I q;obtain⟨⟨⟨c,d,f,g,j,k,l⟩,s,t,p⟩,⟨z,A,C,D,E,F,G⟩,H,I,q⟩:=N.out Q L;go_wp2_with fail
  refine(HT.out Q L).mono ?_;rintro e w3 ⟨rfl,Z⟩;have O:=btt L Z;clear c d f g j k l s t p z A C D E F G H I q;obtain⟨⟨⟨c,d,f,g,j,k,l⟩,s,t,p⟩,⟨z,A,C,D,E,F,G⟩,H,I,q⟩:=N.out w3 O;go_wp2_with fail
  go_ret;exact⟨rfl,btt P O⟩
end Go.Proofs.YtcnedkkcgdkioaaGreat

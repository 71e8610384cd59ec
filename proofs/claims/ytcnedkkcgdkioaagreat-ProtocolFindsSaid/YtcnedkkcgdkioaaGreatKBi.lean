/- Texts of this claim, put together: TE TF TG. -/
import Derived.Test.YtcnedkkcgdkioaaGreatKBh

set_option maxRecDepth 100000
set_option maxHeartbeats 12800000
namespace Go.Proofs.YtcnedkkcgdkioaaGreat
open Go.RowKit
theorem NK {w:World}{u v:Value}{xs ys:List Int}(b:AR w u xs) (f:AR w v ys) :
  Calls Tryz.prog 196 #[u,v] w fun e w'=>e = .returned (.int .i64 (AH xs ys))/\Qt w w':=by
 obtain⟨J,L,K,M,rfl,s,k,G⟩:=b;obtain⟨N,P,O,Q,rfl,A,m,H⟩:=f;obtain⟨E,a⟩:=AB (AH xs ys);rw[a];have p:Hid (AH (xs.drop 0) (ys.drop 0)=E):=a;replace k:=qH k;replace m:=qH m;clear a;go_enter Tryz.func196, Tryz.ntmps196
 go_wp2_with fail
 go_loopw [5] (fun o wr=>∃i:Nat,o = .int .i64 i/\i<=xs.length/\i<=ys.length/\Hid (AH (xs.drop i) (ys.drop i)=E)/\Qt w wr) (fun o _=>xs.length - (intOf o).toNat)
 case atStart=>exact⟨0,rfl,by omega,by omega,p,Qt.refl w⟩
 case round=>
  clear p;obtain⟨i,rfl,D,F,t,n,rfl⟩:=hrel;by_cases g:i < xs.length
  ·obtain rfl:=s (by omega);have z:=k.out i g;obtain⟨c,b⟩:=AB (xs.getD i 0);rw[b] at z;by_cases j:i < ys.length
   ·obtain rfl:=A (by omega);have B:=m.out i j;obtain⟨y,f⟩:=AB (ys.getD i 0);rw[f] at B;have h:=t.out;rw[JD g b,JD j f] at h;clear b f t;by_cases l:c < y
    ·have q:decide (c < y)=true:=vZ l;rw[GP (by rw[MV l];decide),MV l] at h;replace h:=qH h;clear l;go_wp2_with fail
     go_quiet (fail)
     go_wp2_with fail
     go_ret;exact⟨AM h.out,by first|exact(Qt.mk' w n).step nq|exact Qt.mk' w _|exact⟨_,by rw[World.drewN_drewN,World.drewN_drewN]⟩⟩
    ·have q:decide (c < y)=false:=vY l;by_cases d:y < c
     ·have r:decide (y < c)=true:=vZ d;rw[GP (by rw[MU d];decide),MU d] at h;replace h:=qH h;clear l d;go_wp2_with fail
      go_quiet (fail)
      go_wp2_with fail
      go_quiet (fail)
      go_wp2_with fail
      go_ret;exact⟨AM h.out,by first|exact(Qt.mk' w n).step nq|exact Qt.mk' w _|exact⟨_,by rw[World.drewN_drewN,World.drewN_drewN]⟩⟩
     ·have r:decide (y < c)=false:=vY d;rw[JA (KM.2 (show c=y by omega))] at h;replace h:=qH h;clear l d;go_wp2_with fail
      go_quiet (fail)
      go_wp2_with fail
      go_quiet (fail)
      go_wp2_with fail
      go_roundw
      case rel=>exact⟨i+1,by go_num,g,j,h,by first|exact(Qt.mk' w n).step nq|exact Qt.mk' w _|exact⟨_,by rw[World.drewN_drewN,World.drewN_drewN]⟩⟩
      case measure=>simp[intOf];omega
   ·have a:Hid ((1:Int)=E):=by
     have:=t.out
     rw[JD g b,JC (xs:=ys) (by omega)] at this;exact this
    have I : ¬xs.length < ys.length:=(by omega);have C:ys.length < xs.length:=(by omega);clear t b;go_wp2_with fail
    go_ret;exact⟨AM a.out,Qt.mk' w n⟩
  ·by_cases j:xs.length < ys.length
   ·have a:Hid ((-1:Int)=E):=by
     have:=t.out
     rw[JC (xs:=xs) (by omega),JD (xs:=ys) (x:=ys.getD i 0) (by omega) rfl] at this;exact this
    clear t;go_wp2_with fail
    go_ret;exact⟨AM a.out,Qt.mk' w n⟩
   ·have a:Hid ((0:Int)=E):=by
     have:=t.out
     rw[JC (xs:=xs) (by omega),JC (xs:=ys) (by omega)] at this;exact this
    have C : ¬ys.length < xs.length:=(by omega);clear t;go_wp2_with fail
    go_ret;exact⟨AM a.out,Qt.mk' w n⟩
theorem qB {w:World}{u v:Value}{l:Jb}{x:List Int}(E:BM w u l) (g:AR w v x) :
  Calls Tryz.prog 146 #[u,v] w fun e w'=>e = .returned (.bool (decide (x∈l)))/\Below w.heap.size w w':=by
 obtain⟨O,Q,P,R,rfl,F,j,K⟩:=E;replace j:=qH j;have s:Hid (x ∉ l.take 0):=by show ¬_;simp
 have C:=qH g;obtain⟨M,N,D⟩:=g.shape;subst D;clear g;go_enter Tryz.func146, Tryz.ntmps146
 go_wp2_with fail
 go_loopw [5] (fun p wr=>∃i:Nat,p = .int .i64 i/\i<=l.length/\Hid (x ∉ l.take i)/\Below w.heap.size w wr) (fun p _=>l.length - (intOf p).toNat)
 case atStart=>exact⟨0,rfl,by omega,s,wB _ _⟩
 case round=>
  clear s;obtain⟨i,rfl,J,n,b⟩:=hrel;by_cases t:i < l.length
  ·obtain rfl:=F (by omega);obtain⟨U,A,k⟩:=j.out i t;obtain⟨y,c⟩:=AB (l.getD i []);rw[c] at k;have I:=AC b A;have H:=NK (k.keep b) (C.out.keep b);have m:y∈l:=(by rw[<-c,AK t];exact wG t);have f:l.take (i+1)=l.take i ++ [y]:=(by rw[BY t [],c]);obtain⟨S,T,G⟩:=k.shape;subst G;clear k c A;by_cases a:y=x
   ·rw[cmpL_zero.2 a] at H;replace H:=qH H;have r:Hid (decide (x∈l)=true):=(by show _=_;rw[<-a];exact vZ m);clear f m a n;go_wp2_with fail
    refine H.out.mono ?_;rintro e w' ⟨rfl,q⟩;have d:=btt b q.below;clear q;go_wp2;go_ret;exact⟨by rw[r.out];rfl,d⟩
   ·obtain⟨z,o⟩:=AB (AH y x)
    have L:(z == 0)=false:=by
     rw[beq_eq_false_iff_ne,<-o];exact fun h=>a (cmpL_zero.1 h)
    rw[o] at H;replace H:=qH H
    have B:Hid (x ∉ l.take (i+1)):=by
     show ¬_;rw[f,List.mem_append,List.mem_singleton];exact fun h=>h.elim n.out fun h=>a h.symm
    clear f m a n o;go_wp2_with fail
    refine H.out.mono ?_;rintro e w' ⟨rfl,q⟩;have d:=btt b q.below;clear q;go_wp2;go_roundw
    case rel=>exact⟨i+1,by go_num,t,B,d⟩
    case measure=>simp[intOf];omega
  ·have r:Hid (decide (x∈l)=false):=by
    show _=_;have:=n.out
    rw[List.take_of_length_le (by omega)] at this;exact vY this
   clear n;go_wp2;go_ret;exact⟨by rw[r.out];rfl,b⟩
theorem cP {w:World}{u:Value}{xs:List Int}{n most:Int}(c:AR w u xs) :
  Calls Tryz.prog 195 #[u,.int .i64 n,.int .i64 most] w fun e w'=>e = .returned (.int .i64 (FG xs n most))/\w'=w:=by
 obtain⟨y,B,z,C,rfl,p,f,s⟩:=c;rw[eG];by_cases b:(xs.length:Int)=n
 ·rw[if_neg (fun h=>h b)];subst b;obtain⟨A,g⟩:=AB (xs.any (EO most));rw[g];have m:Hid ((xs.drop 0).any (EO most)=A):=g;replace f:=qH f;clear g;go_enter Tryz.func195, Tryz.ntmps195
  go_wp2_with fail
  go_loopw [7] (fun v wr=>∃i:Nat,v = .int .i64 i/\i<=xs.length/\Hid ((xs.drop i).any (EO most)=A)/\wr=w) (fun v _=>xs.length - (intOf v).toNat)
  case atStart=>exact⟨0,rfl,by omega,m,rfl⟩
  case round=>
   clear m;obtain⟨i,rfl,r,d,rfl⟩:=hrel;by_cases j:i < xs.length
   ·obtain rfl:=p (by omega);have q:=f.out i j;obtain⟨x,c⟩:=AB (xs.getD i 0);rw[c] at q;have t:=d.out;rw[JD j c,List.any_cons] at t;clear c d;by_cases l:x < 0
    ·rw[show EO most x=true from vZ (.inl l),Bool.true_or] at t;subst t;have k:decide (x < 0)=true:=vZ l;clear l;go_wp2_with fail
     go_ret;exact⟨rfl,rfl⟩
    ·have k:decide (x < 0)=false:=vY l;by_cases a:most<=x
     ·rw[show EO most x=true from vZ (.inr a),Bool.true_or] at t;subst t;have o:decide (most<=x)=true:=vZ a;clear l a;go_wp2_with fail
      go_ret;exact⟨rfl,rfl⟩
     ·rw[show EO most x=false from vY (fun h=>h.elim l a),Bool.false_or] at t;replace t:=qH t;have o:decide (most<=x)=false:=vY a;clear l a;go_wp2_with fail
      go_roundw
      case rel=>exact⟨i+1,by go_num,j,t,by first|rfl|trivial⟩
      case measure=>simp[intOf];omega
   ·have E:false=A:=by
     have:=d.out
     rw[JC (xs:=xs) (by omega)] at this;exact this
    clear d;subst E;go_wp2_with fail
    go_ret;exact⟨rfl,rfl⟩
 ·rw[if_pos b];have k:((xs.length:Int) != n)=true:=by simpa using b
  clear b f;go_enter Tryz.func195, Tryz.ntmps195
  go_wp2;go_ret;exact⟨rfl,rfl⟩
theorem qM {w:World}{v:Value}{n i o:Int}{cs:List Cs}{k:Nat}(h:IZ w v n i o cs) (hk:k < cs.length) :
  Calls Tryz.prog 143 #[v,.int .i64 (k:Int)] w fun e w'=>e = .returned (.int .i64 (GY n i o cs k))/\Below w.heap.size w w':=by
 have a1 : Tryz.prog.follows .mixedOrders=true:=by kernel_rfl
 obtain⟨sv,rfl,hS⟩:=h;obtain⟨sa,sc,G⟩:=hS.shape;subst G;obtain⟨c',d6,rfl,N⟩:=hS.at (by omega);obtain⟨u0,u1,u2,c0,c1,d2,i0,i1,i2⟩:=N k hk;obtain⟨x0,y0,G⟩:=i0.shape;subst G;obtain⟨x1,y1,G⟩:=i1.shape;subst G;obtain⟨x2,y2,G⟩:=i2.shape;subst G
 have HP:=qH (fun(h0:0 < k)=>by
  obtain⟨I,_,_,A,_,_,x,_⟩:=N (k - 1) (by omega);exact(⟨I,A,x⟩:∃I,w.cell? ⟨c',d6+(k - 1) * 3,none⟩=some I/\AR w I (cs.getD (k - 1) BE).1))
 have f:=WD (n:=n) (i:=i) (o:=o) (cs:=cs) (k:=k);obtain⟨j2,e4⟩:=AB (cs.getD k BE);obtain⟨c9,B⟩:=AB (NP cs k);rw[e4,B] at f;rw[e4] at c0 c1 d2 i0 i1 i2;obtain⟨l0,c,m⟩:=j2;have d3:=B;unfold NP at d3;rw[e4] at d3;replace B:=d3;clear d3;simp only at c0 c1 d2 i0 i1 i2 f B
 obtain⟨m0,e5⟩:=AB (l0.length);have k9:m.length<=5864062014805:=by obtain⟨_,_,_,_,_,_,_,h⟩:=i2;exact h
 have k7:cs.length<=1954687338268:=by obtain⟨_,_,_,_,_,_,_,h⟩:=hS;exact h
 rw[e5] at c0;obtain⟨W1,M⟩:=AF (w.alloc (.cells #[.int .i64 n,.int .i64 i,.int .i64 o,.slice (some ⟨c',d6,none⟩) cs.length sc] 24));have c3:Below w.heap.size w W1:=by rw[M];exact(wB _ w).alloc (wC _) _
 have kT:W1.heap[w.heap.size]? = some (.cells #[.int .i64 n,.int .i64 i,.int .i64 o,.slice (some ⟨c',d6,none⟩) cs.length sc] 24):=by rw[M];exact wE _ _
 have k0:W1.heap.size=w.heap.size+1:=by rw[M];simp
 obtain⟨W2,Y⟩:=AF (W1.alloc (.cells #[.slice x0 m0 y0,.slice x1 c.length y1,.slice x2 m.length y2] 95));have e3:Below W1.heap.size W1 W2:=by rw[Y];exact(wB _ _).alloc (wC _) _
 have kC:W2.heap[w.heap.size+1]? = some (.cells #[.slice x0 m0 y0,.slice x1 c.length y1,.slice x2 m.length y2] 95):=by rw[<-k0,Y];exact wE _ _
 have D:=btt c3 e3;have HT:=qH (fun W (b:Below W2.heap.size W2 W)=>keep4 (btt e3 b) (box4' kT));have HC:=qH (fun W (b:Below W2.heap.size W2 W)=>keep3 b (box3' kC));have I0:=qH (fun W (b:Below W2.heap.size W2 W)=>(i0.keep D).keep b);have I1:=qH (fun W (b:Below W2.heap.size W2 W)=>(i1.keep D).keep b);have I2:=qH (fun W (b:Below W2.heap.size W2 W)=>(i2.keep D).keep b)
 have HP:=qH (fun(h0:0 < k)=>by
  obtain⟨I,A,x⟩:=HP.out h0;exact(⟨I,AC D A,x.keep D⟩:∃I,W2.cell? ⟨c',d6+(k - 1) * 3,none⟩=some I/\AR W2 I (cs.getD (k - 1) BE).1))
 have H:=qH (cP (n:=n) (most:=i) (I0.out W2 (wB _ _)));simp only[e5] at H;obtain⟨a2,hz⟩:=AB (FG l0 n i);rw[hz] at H f;obtain⟨t0,t1,t2,t3⟩:=box4' kT;obtain⟨r0,r1,r2⟩:=HC.out W2 (wB _ _);obtain⟨f2,f3,f4,f5⟩:=HT.out W2 (wB _ _);have d0:=AC c3 c0;have d1:=AC c3 c1;have f9:=AC c3 d2;rw[Y] at r0 r1 r2 f2 f3 f4 f5;rw[M] at t0 t1 t2 t3 d0 d1 f9;rw[M] at r0 r1 r2 f2 f3 f4 f5;clear kC kT i0 i1 i2 hz N hS c0 c1 d2 c3 e3;rw[f];obtain⟨E,d⟩:∃E,(if a2 ≠ 0 then a2 else if c9=true then 14 else KZ n o (l0,c,m))=E:=⟨_,rfl⟩;rw[d];clear f;by_cases V:a2=0
 ·rw[if_neg (fun h=>h V)] at d;subst V;go_enter Tryz.func143, Tryz.ntmps143
  go_wp2_with fail
  rw[<-M,<-Y];replace M:=qH M;replace Y:=qH Y;refine H.out.mono ?_;rintro e S ⟨rfl,rfl⟩;clear t0 t1 t2 t3 r0 r1 r2 f2 f3 f4 f5 d0 d1 f9 H;go_wp2_with fail
  have i':=qH (fun W (b:Below S.heap.size S W)=>And.intro (HT.out W b).2.2.2 (HC.out W b).1);rcases Nat.eq_zero_or_pos k with h0|h0
  case' inl=>
   subst h0;obtain rfl:c9=false:=(by rw[<-B];exact vY (fun h=>by omega));clear B HP;refine CW a1 (by kernel_rfl) ?_
   repeat (refine WQ.step fun K a=>?_;go_simp;first|(refine a _ ?_;clear a K)|(apply Exists.intro;refine⟨fun q C=>?_,a _ ?_⟩;(·(first|with_reducible rfl|(go_simp;first|done|with_reducible rfl|with_reducible exact⟨rfl,rfl⟩)));clear a K))
   refine WQ.nil ?_;intro w4 u
  case' inr=>
   obtain⟨I,A,x⟩:=HP.out h0;obtain⟨pa,pc,G⟩:=x.shape;subst G;obtain⟨P,z⟩:=AB ((cs.getD (k - 1) BE).1);rw[z] at A x;rw[z] at B;obtain⟨c8,t⟩:=AB (AH P l0);have a0:c9=decide (0<=c8):=(by rw[<-B,t];simp[h0]);have J:=qH (fun W (b:Below S.heap.size S W)=>NK (x.keep b) (I0.out W b));simp only[t] at J;obtain⟨m1,F⟩:=AB (P.length);obtain⟨R,O⟩:=AB (k - 1);rw[F,O] at A;simp only[F,e5] at J;have b9:=qH (fun W (b:Below S.heap.size S W)=>And.intro (i'.out W b) (AC b A));have d1:decide ((0:Int) < (k:Int))=true:=vZ (by omega);have g8:IntKind.i64.wrap ((k:Int) - 1)=(R:Int):=(by rw[show(k:Int) - 1=(R:Int) by omega];exact IntWalk.i64_in _ (by omega));have g6:(R:Int) < (cs.length:Int):=(by omega);have k8:(k:Int) < (cs.length:Int):=(by omega);replace z:=qH z;replace t:=qH t;replace F:=qH F;replace O:=qH O;replace B:=qH B;clear A x;refine CW a1 (by kernel_rfl) ?_
   repeat (refine WQ.step fun K a=>?_;go_simp;first|(refine a _ ?_;clear a K)|(apply Exists.intro;refine⟨fun q C=>?_,a _ ?_⟩;(·(first|with_reducible rfl|(obtain⟨⟨L,T⟩,U⟩:=b9.out q C;go_simp;first|done|with_reducible rfl|with_reducible exact⟨rfl,rfl⟩)));clear a K))
   (refine WQ.step fun K a=>?_;go_simp;first|(refine a _ ?_;clear a K)|(apply Exists.intro;refine⟨fun q C=>?_,a _ ?_⟩;(·(refine(J.out q C).mono ?_;rintro e w' ⟨rfl,hq⟩;exact⟨rfl,btt C hq.below⟩));clear a K))
   repeat (refine WQ.step fun K a=>?_;go_simp;first|(refine a _ ?_;clear a K)|(apply Exists.intro;refine⟨fun q C=>?_,a _ ?_⟩;(·(first|with_reducible rfl|(go_simp;first|done|with_reducible rfl|with_reducible exact⟨rfl,rfl⟩)));clear a K))
   refine WQ.nil ?_;intro w4 u;rw[<-a0];clear a0;cases c9;rotate_left
   ·rw[if_pos rfl] at d;replace d:=qH d;have p:=btt D u;go_wp2_with fail
    go_ret;exact⟨AM d.out,p⟩
  all_goals
   rw[if_neg (by decide)] at d;obtain⟨g0,g1,g2,g3⟩:=HT.out w4 u;obtain⟨L,T,U⟩:=HC.out w4 u;unfold KZ at d;simp only at d
   by_cases e6:c.length < 1
   ·have dq:decide ((c.length:Int) < 1)=true:=vZ (by omega);rw[if_pos (by omega)] at d;replace d:=qH d;have p:=btt D u;clear e6;go_wp2_with fail
    go_ret;exact⟨AM d.out,p⟩
   have dq:decide ((c.length:Int) < 1)=false:=vY (by omega);by_cases g7:1024 < c.length
   ·have g4:decide ((1024:Int) < (c.length:Int))=true:=vZ (by omega);rw[if_pos (by omega)] at d;replace d:=qH d;have p:=btt D u;clear e6 g7;go_wp2_with fail
    go_ret;exact⟨AM d.out,p⟩
   have g4:decide ((1024:Int) < (c.length:Int))=false:=vY (by omega);rw[if_neg (by omega)] at d;obtain⟨F1,e1⟩:=AB (CZ (JI n o c) c.length 0);obtain⟨F2,e2⟩:=AB (CZ (JT c m) m.length 0);rw[e1,e2] at d;have s1:Hid (CZ (JI n o c) (c.length - 0) 0=F1):=e1;have s2:Hid (CZ (JT c m) (m.length - 0) 0=F2):=e2;replace d:=qH d;have j':0 < c.length:=(by omega);have k':c.length<=1024:=(by omega);clear e1 e2 e6 g7;go_wp2_with fail
   clear g0 g1 g2 g3 L T U dq g4;go_loopw [7] (fun iv wr=>∃j:Nat,iv = .int .i64 j/\j<=c.length/\Hid (CZ (JI n o c) (c.length - j) j=F1)/\Below S.heap.size S wr) (fun iv _=>c.length - (intOf iv).toNat)
   case atStart=>exact⟨0,rfl,by omega,s1,u⟩
   case round=>
    clear s1 u;obtain⟨j,rfl,hj,t,r⟩:=hrel;obtain⟨g0,g1,g2,g3⟩:=HT.out wr r;obtain⟨L,T,U⟩:=HC.out wr r;by_cases a5:j < c.length
    ·have s:=t.out;rw[show c.length - j=(c.length - (j+1))+1 by omega] at s;obtain⟨b1,o1,rfl,N⟩:=(I1.out wr r).at j';obtain⟨k4,X,Q⟩:=N j a5;have HQ:=qH (fun(h0:0 < j)=>N (j - 1) (by omega));have f:=bH (n:=n) (o:=o) (l:=c) (k:=j);obtain⟨a8,c5⟩:=AB (c.getD j []);rw[c5] at Q f;obtain⟨ua,uc,e7⟩:=Q.shape;subst e7;obtain⟨a2,hz⟩:=AB (FG a8 n o);obtain⟨a3,B⟩:=AB (GL c j);rw[hz,B] at f;unfold GL at B;rw[c5] at B;have H:=qH (fun W (b:Below wr.heap.size wr W)=>cP (n:=n) (most:=o) (Q.keep b));simp only[hz] at H;obtain⟨k2,hm⟩:=AB (a8.length);rw[hm] at X;simp only[hm] at H;have HU:=qH (fun W (b:Below wr.heap.size wr W)=>Q.keep b);have b6:=qH (fun W (b:Below wr.heap.size wr W)=>And.intro (HT.out W (btt r b)) (And.intro (HC.out W (btt r b)) (AC b X)));have j8:(j:Int) < (c.length:Int):=(by omega);clear N Q hz t g0 g1 g2 g3 L U;go_wp2_with fail
     refine CW a1 (by kernel_rfl) ?_
     repeat (refine WQ.step fun K a=>?_;go_simp;first|(refine a _ ?_;clear a K)|(apply Exists.intro;refine⟨fun q C=>?_,a _ ?_⟩;(·(first|with_reducible rfl|(obtain⟨⟨g0,g1,g2,g3⟩,⟨L,T,U⟩,X⟩:=b6.out q C;go_simp;first|done|with_reducible rfl|with_reducible exact⟨rfl,rfl⟩)));clear a K))
     (refine WQ.step fun K a=>?_;go_simp;first|(refine a _ ?_;clear a K)|(apply Exists.intro;refine⟨fun q C=>?_,a _ ?_⟩;(·(refine(H.out q C).mono ?_;rintro e w' ⟨rfl,rfl⟩;exact⟨rfl,C⟩));clear a K))
     repeat (refine WQ.step fun K a=>?_;go_simp;first|(refine a _ ?_;clear a K)|(apply Exists.intro;refine⟨fun q C=>?_,a _ ?_⟩;(·(first|with_reducible rfl|(go_simp;first|done|with_reducible rfl|with_reducible exact⟨rfl,rfl⟩)));clear a K))
     refine WQ.nil ?_;intro Z y;by_cases V:a2=0
     ·subst V;rw[if_neg (fun h=>h rfl)] at f;go_wp2_with fail
      rcases Nat.eq_zero_or_pos j with h0|h0
      ·subst h0;obtain rfl:a3=false:=(by rw[<-B];exact vY (fun h=>by omega));clear B HQ;refine CW a1 (by kernel_rfl) ?_
       repeat (refine WQ.step fun K a=>?_;go_simp;first|(refine a _ ?_;clear a K)|(apply Exists.intro;refine⟨fun q C=>?_,a _ ?_⟩;(·(first|with_reducible rfl|(go_simp;first|done|with_reducible rfl|with_reducible exact⟨rfl,rfl⟩)));clear a K))
       refine WQ.nil ?_;intro w4 u;have g:=qH (KQ s f);have p:=btt (btt r y) u;clear s f;go_wp2_with fail
       go_roundw
       case rel=>exact⟨_,by go_num,a5,g,p⟩
       case measure=>simp[intOf];omega
      ·obtain⟨I,A,x⟩:=HQ.out h0;obtain⟨pa,pc,G⟩:=x.shape;subst G;obtain⟨P,z⟩:=AB (c.getD (j - 1) []);rw[z] at x;rw[z] at B;obtain⟨c8,t⟩:=AB (AH P a8);have a0:a3=decide (0<=c8):=(by rw[<-B,t];simp[h0]);have J:=qH (fun W (b:Below Z.heap.size Z W)=>NK (x.keep (btt y b)) (HU.out W (btt y b)));simp only[t] at J;obtain⟨m1,F⟩:=AB (P.length);obtain⟨R,O⟩:=AB (j - 1);rw[z,F,O] at A;simp only[F,hm] at J;have b9:=qH (fun W (b:Below Z.heap.size Z W)=>And.intro (b6.out W (btt y b)) (AC (btt y b) A));have d1:decide ((0:Int) < (j:Int))=true:=vZ (by omega);have g8:IntKind.i64.wrap ((j:Int) - 1)=(R:Int):=(by rw[show(j:Int) - 1=(R:Int) by omega];exact IntWalk.i64_in _ (by omega));have g6:(R:Int) < (c.length:Int):=(by omega);replace z:=qH z;replace t:=qH t;replace F:=qH F;replace O:=qH O;replace B:=qH B;clear A x;refine CW a1 (by kernel_rfl) ?_
       repeat (refine WQ.step fun K a=>?_;go_simp;first|(refine a _ ?_;clear a K)|(apply Exists.intro;refine⟨fun q C=>?_,a _ ?_⟩;(·(first|with_reducible rfl|(obtain⟨⟨⟨g0,g1,g2,g3⟩,⟨L,T,U⟩,X⟩,cp⟩:=b9.out q C;go_simp;first|done|with_reducible rfl|with_reducible exact⟨rfl,rfl⟩)));clear a K))
       (refine WQ.step fun K a=>?_;go_simp;first|(refine a _ ?_;clear a K)|(apply Exists.intro;refine⟨fun q C=>?_,a _ ?_⟩;(·(refine(J.out q C).mono ?_;rintro e w' ⟨rfl,hq⟩;exact⟨rfl,btt C hq.below⟩));clear a K))
       repeat (refine WQ.step fun K a=>?_;go_simp;first|(refine a _ ?_;clear a K)|(apply Exists.intro;refine⟨fun q C=>?_,a _ ?_⟩;(·(first|with_reducible rfl|(go_simp;first|done|with_reducible rfl|with_reducible exact⟨rfl,rfl⟩)));clear a K))
       refine WQ.nil ?_;intro w4 u;rw[<-a0];clear a0;cases a3
       ·have g:=qH (KQ s f);have p:=btt (btt r y) u;clear s f;go_wp2_with fail
        go_roundw
        case rel=>exact⟨_,by go_num,a5,g,p⟩
        case measure=>simp[intOf];omega
       ·have g:=GZ s (by rw[f];decide);rw[f] at g
        have e0:Hid ((14:Int)=E):=by
         have:=d.out
         rw[<-g] at this;exact this
        have p:=btt D (btt (btt r y) u);clear s f g;go_wp2_with fail
        go_ret;exact⟨AM e0.out,p⟩
     ·rw[if_pos V] at f;have g:=GZ s (by rw[f];exact V);rw[f] at g
      have c2:Hid (a2=E):=by
       have:=d.out
       rw[<-g,if_pos V] at this;exact this
      have k1:(a2 != 0)=true:=(by simpa using V);have p:=btt D (btt r y);clear s f g;go_wp2_with fail
      go_ret;exact⟨AM c2.out,p⟩
    ·have hF:F1=0:=by
      have:=t.out
      rw[show c.length - j=0 by omega] at this;exact this.symm
     have c2:Hid (F2=E):=by
      have:=d.out
      rw[hF,if_neg (fun h=>h rfl)] at this;exact this
     clear t hF d;go_wp2_with fail
     obtain⟨wo,e8⟩:=AF (wr);rw[<-e8];rw[<-e8] at r;clear e8 g0 g1 g2 g3 L T U;go_loopw [9] (fun iv wr=>∃j:Nat,iv = .int .i64 j/\j<=m.length/\Hid (CZ (JT c m) (m.length - j) j=F2)/\Below S.heap.size S wr) (fun iv _=>m.length - (intOf iv).toNat)
     case atStart=>exact⟨0,rfl,by omega,s2,r⟩
     case round=>
      clear s2 r;obtain⟨j,rfl,hj,t,r⟩:=hrel;obtain⟨L,T,U⟩:=HC.out wr r;by_cases a5:j < m.length
      ·have s:=t.out;rw[show m.length - j=(m.length - (j+1))+1 by omega] at s;obtain⟨b1,o1,rfl,N⟩:=(I2.out wr r).at (by omega);obtain⟨k4,X,Q⟩:=N j a5;have HQ:=qH (fun(h0:0 < j)=>N (j - 1) (by omega));have f:=WC (o:=c) (l:=m) (k:=j);obtain⟨a8,c5⟩:=AB (m.getD j []);rw[c5] at Q f;obtain⟨ua,uc,e7⟩:=Q.shape;subst e7;obtain⟨i9,hA⟩:=AB (decide (a8∈c));obtain⟨a3,B⟩:=AB (GL m j);rw[hA,B] at f;unfold GL at B;rw[c5] at B;have H:=qH (fun W (b:Below wr.heap.size wr W)=>qB (I1.out W (btt r b)) (Q.keep b));simp only[hA] at H;obtain⟨k2,hm⟩:=AB (a8.length);rw[hm] at X;simp only[hm] at H;have HU:=qH (fun W (b:Below wr.heap.size wr W)=>Q.keep b);have b6:=qH (fun W (b:Below wr.heap.size wr W)=>And.intro (HC.out W (btt r b)) (AC b X));have j8:(j:Int) < (m.length:Int):=(by omega);clear N Q hA t L T;go_wp2_with fail
       refine CW a1 (by kernel_rfl) ?_
       repeat (refine WQ.step fun K a=>?_;go_simp;first|(refine a _ ?_;clear a K)|(apply Exists.intro;refine⟨fun q C=>?_,a _ ?_⟩;(·(first|with_reducible rfl|(obtain⟨⟨L,T,U⟩,X⟩:=b6.out q C;go_simp;first|done|with_reducible rfl|with_reducible exact⟨rfl,rfl⟩)));clear a K))
       (refine WQ.step fun K a=>?_;go_simp;first|(refine a _ ?_;clear a K)|(apply Exists.intro;refine⟨fun q C=>?_,a _ ?_⟩;(·(refine(H.out q C).mono ?_;rintro e w' ⟨rfl,b⟩;exact⟨rfl,btt C b⟩));clear a K))
       repeat (refine WQ.step fun K a=>?_;go_simp;first|(refine a _ ?_;clear a K)|(apply Exists.intro;refine⟨fun q C=>?_,a _ ?_⟩;(·(first|with_reducible rfl|(go_simp;first|done|with_reducible rfl|with_reducible exact⟨rfl,rfl⟩)));clear a K))
       refine WQ.nil ?_;intro Z y;cases i9
       ·rw[if_pos rfl] at f;have g:=GZ s (by rw[f];decide);rw[f] at g
        have j5:Hid ((6:Int)=E):=by
         have:=c2.out
         rw[<-g] at this;exact this
        have p:=btt D (btt r y);clear s f g;go_wp2_with fail
        go_ret;exact⟨AM j5.out,p⟩
       ·go_wp2_with fail
        rcases Nat.eq_zero_or_pos j with h0|h0
        ·subst h0;obtain rfl:a3=false:=(by rw[<-B];exact vY (fun h=>by omega));clear B HQ;refine CW a1 (by kernel_rfl) ?_
         repeat (refine WQ.step fun K a=>?_;go_simp;first|(refine a _ ?_;clear a K)|(apply Exists.intro;refine⟨fun q C=>?_,a _ ?_⟩;(·(first|with_reducible rfl|(go_simp;first|done|with_reducible rfl|with_reducible exact⟨rfl,rfl⟩)));clear a K))
         refine WQ.nil ?_;intro w4 u;have g:=qH (KQ s f);have p:=btt (btt r y) u;clear s f;go_wp2_with fail
         go_roundw
         case rel=>exact⟨_,by go_num,a5,g,p⟩
         case measure=>simp[intOf];omega
        ·obtain⟨I,A,x⟩:=HQ.out h0;obtain⟨pa,pc,G⟩:=x.shape;subst G;obtain⟨P,z⟩:=AB (m.getD (j - 1) []);rw[z] at x;rw[z] at B;obtain⟨c8,t⟩:=AB (AH P a8);have a0:a3=decide (0<=c8):=(by rw[<-B,t];simp[h0]);have J:=qH (fun W (b:Below Z.heap.size Z W)=>NK (x.keep (btt y b)) (HU.out W (btt y b)));simp only[t] at J;obtain⟨m1,F⟩:=AB (P.length);obtain⟨R,O⟩:=AB (j - 1);rw[z,F,O] at A;simp only[F,hm] at J;have b9:=qH (fun W (b:Below Z.heap.size Z W)=>And.intro (b6.out W (btt y b)) (AC (btt y b) A));have d1:decide ((0:Int) < (j:Int))=true:=vZ (by omega);have g8:IntKind.i64.wrap ((j:Int) - 1)=(R:Int):=(by rw[show(j:Int) - 1=(R:Int) by omega];exact IntWalk.i64_in _ (by omega));have g6:(R:Int) < (m.length:Int):=(by omega);replace z:=qH z;replace t:=qH t;replace F:=qH F;replace O:=qH O;replace B:=qH B;clear A x;refine CW a1 (by kernel_rfl) ?_
         repeat (refine WQ.step fun K a=>?_;go_simp;first|(refine a _ ?_;clear a K)|(apply Exists.intro;refine⟨fun q C=>?_,a _ ?_⟩;(·(first|with_reducible rfl|(obtain⟨⟨⟨L,T,U⟩,X⟩,cp⟩:=b9.out q C;go_simp;first|done|with_reducible rfl|with_reducible exact⟨rfl,rfl⟩)));clear a K))
         (refine WQ.step fun K a=>?_;go_simp;first|(refine a _ ?_;clear a K)|(apply Exists.intro;refine⟨fun q C=>?_,a _ ?_⟩;(·(refine(J.out q C).mono ?_;rintro e w' ⟨rfl,hq⟩;exact⟨rfl,btt C hq.below⟩));clear a K))
         repeat (refine WQ.step fun K a=>?_;go_simp;first|(refine a _ ?_;clear a K)|(apply Exists.intro;refine⟨fun q C=>?_,a _ ?_⟩;(·(first|with_reducible rfl|(go_simp;first|done|with_reducible rfl|with_reducible exact⟨rfl,rfl⟩)));clear a K))
         refine WQ.nil ?_;intro w4 u;rw[<-a0];clear a0;cases a3
         ·have g:=qH (KQ s f);have p:=btt (btt r y) u;clear s f;go_wp2_with fail
          go_roundw
          case rel=>exact⟨_,by go_num,a5,g,p⟩
          case measure=>simp[intOf];omega
         ·have g:=GZ s (by rw[f];decide);rw[f] at g
          have e0:Hid ((14:Int)=E):=by
           have:=c2.out
           rw[<-g] at this;exact this
          have p:=btt D (btt (btt r y) u);clear s f g;go_wp2_with fail
          go_ret;exact⟨AM e0.out,p⟩
      ·have j4:Hid ((0:Int)=E):=by
        have:=t.out
        rw[show m.length - j=0 by omega] at this;rw[<-c2.out,<-this];rfl
       have j6:=btt D r;clear t;go_wp2_with fail
       go_ret;exact⟨AM j4.out,j6⟩
 ·rw[if_pos V] at d;have k1:(a2 != 0)=true:=by simpa using V
  replace d:=qH d;clear HP B;go_enter Tryz.func143, Tryz.ntmps143
  go_wp2_with fail
  rw[<-M,<-Y];replace M:=qH M;replace Y:=qH Y;refine H.out.mono ?_;rintro e S ⟨rfl,rfl⟩;go_wp2_with fail
  go_ret;exact⟨AM d.out,D⟩
theorem pM {w:World}{v:Value}{n i o:Int}{cs:List Cs}(h:IZ w v n i o cs) :
  Calls Tryz.prog 84 #[v] w fun e w'=>e = .returned (.int .i64 (FK n i o cs))/\Below w.heap.size w w':=by
 have Z:=qH (fun W (F:Below w.heap.size w W)=>h.keep F);obtain⟨sv,rfl,S⟩:=h;obtain⟨X,Y,hs⟩:=S.shape;subst hs;obtain⟨f,b⟩:=AF (w.alloc (.cells #[.int .i64 n,.int .i64 i,.int .i64 o,.slice X cs.length Y] 24));have c:Below w.heap.size w f:=by rw[b];exact(wB _ w).alloc (wC _) _
 have U:f.heap[w.heap.size]? = some (.cells #[.int .i64 n,.int .i64 i,.int .i64 o,.slice X cs.length Y] 24):=by rw[b];exact wE _ _
 have K:=qH (fun W (F:Below f.heap.size f W)=>keep4 F (box4' U));obtain⟨E,a⟩:=AB (FK n i o cs);rw[a];unfold FK at a;have a5:cs.length<=1954687338268:=by obtain⟨_,_,_,_,_,_,_,h⟩:=S;exact h
 clear U S;obtain⟨A,B,C,D⟩:=K.out f (wB _ _);rw[b] at A B C D;by_cases q:n < 1
 ·have O:decide ((n:Int) < 1)=true:=vZ q;rw[if_pos (by omega)] at a;replace a:=qH a;clear q;go_enter Tryz.func84, Tryz.ntmps84
  go_wp2;go_ret;exact⟨AM a.out,by rw[<-b];exact c⟩
 have O:decide ((n:Int) < 1)=false:=vY q;by_cases d:5 < n
 ·have P:decide ((5:Int) < n)=true:=vZ d;rw[if_pos (by omega)] at a;replace a:=qH a;clear d;clear q;go_enter Tryz.func84, Tryz.ntmps84
  go_wp2;go_ret;exact⟨AM a.out,by rw[<-b];exact c⟩
 have P:decide ((5:Int) < n)=false:=vY d;by_cases g:i < 1
 ·have M:decide ((i:Int) < 1)=true:=vZ g;rw[if_pos (by omega)] at a;replace a:=qH a;clear g;clear q d;go_enter Tryz.func84, Tryz.ntmps84
  go_wp2;go_ret;exact⟨AM a.out,by rw[<-b];exact c⟩
 have M:decide ((i:Int) < 1)=false:=vY g;by_cases m:8 < i
 ·have N:decide ((8:Int) < i)=true:=vZ m;rw[if_pos (by omega)] at a;replace a:=qH a;clear m;clear q d g;go_enter Tryz.func84, Tryz.ntmps84
  go_wp2;go_ret;exact⟨AM a.out,by rw[<-b];exact c⟩
 have N:decide ((8:Int) < i)=false:=vY m;by_cases s:o < 1
 ·have Q:decide ((o:Int) < 1)=true:=vZ s;rw[if_pos (by omega)] at a;replace a:=qH a;clear s;clear q d g m;go_enter Tryz.func84, Tryz.ntmps84
  go_wp2;go_ret;exact⟨AM a.out,by rw[<-b];exact c⟩
 have Q:decide ((o:Int) < 1)=false:=vY s;by_cases y:8 < o
 ·have R:decide ((8:Int) < o)=true:=vZ y;rw[if_pos (by omega)] at a;replace a:=qH a;clear y;clear q d g m s;go_enter Tryz.func84, Tryz.ntmps84
  go_wp2;go_ret;exact⟨AM a.out,by rw[<-b];exact c⟩
 have R:decide ((8:Int) < o)=false:=vY y;rw[if_neg (by omega)] at a;clear q d g m s y;by_cases a2:cs.length < 1
 ·have J:decide ((cs.length:Int) < 1)=true:=vZ (by omega);rw[if_pos (by omega)] at a;replace a:=qH a;go_enter Tryz.func84, Tryz.ntmps84
  go_wp2;go_ret;exact⟨AM a.out,by rw[<-b];exact c⟩
 have J:decide ((cs.length:Int) < 1)=false:=vY (by omega);by_cases a3:1024 < cs.length
 ·have L:decide ((1024:Int) < (cs.length:Int))=true:=vZ (by omega);rw[if_pos (by omega)] at a;replace a:=qH a;go_enter Tryz.func84, Tryz.ntmps84
  go_wp2;go_ret;exact⟨AM a.out,by rw[<-b];exact c⟩
 have L:decide ((1024:Int) < (cs.length:Int))=false:=vY (by omega);rw[if_neg (by omega)] at a;have a7:cs.length<=1024:=by omega
 have V:Hid (CZ (GY n i o cs) (cs.length - 0) 0=E):=a;clear a a2 a3;go_enter Tryz.func84, Tryz.ntmps84
 go_wp2_with fail
 rw[<-b];replace b:=qH b;clear A B C D O P M N Q R J L;go_loopw [3] (fun I wr=>∃k:Nat,I = .int .i64 k/\k<=cs.length/\Hid (CZ (GY n i o cs) (cs.length - k) k=E)/\Below f.heap.size f wr) (fun I _=>cs.length - (intOf I).toNat)
 case atStart=>exact⟨0,rfl,by omega,V,wB _ _⟩
 case round=>
  clear V;obtain⟨k,rfl,hk,u,r⟩:=hrel;obtain⟨A,B,C,D⟩:=K.out wr r;by_cases T:k < cs.length
  ·have t:=u.out;rw[show cs.length - k=(cs.length - (k+1))+1 by omega] at t;have H:=qM (Z.out wr (btt c r)) T;obtain⟨z,l⟩:=AB (GY n i o cs k);rw[l] at H;replace H:=qH H;clear u;by_cases x:z=0
   ·have j:=qH (KQ t (by rw[l,x]));subst x;clear t l;go_wp2_with fail
    refine H.out.mono ?_;rintro e w2 ⟨rfl,G⟩;have p:=btt r G;go_wp2_with fail
    go_roundw
    case rel=>exact⟨k+1,by go_num,T,j,p⟩
    case measure=>simp[intOf];omega
   ·have j:=GZ t (by rw[l];exact x);rw[l] at j;replace j:=qH j;have a8:(z != 0)=true:=(by simpa using x);clear t l;go_wp2_with fail
    refine H.out.mono ?_;rintro e w2 ⟨rfl,G⟩;have p:=btt c (btt r G);go_wp2_with fail
    go_ret;exact⟨AM j.out,p⟩
  ·have a0:Hid ((0:Int)=E):=by
    have:=u.out
    rw[show cs.length - k=0 by omega] at this;exact this
   have p:=btt c r;clear u;go_wp2_with fail
   go_ret;exact⟨AM a0.out,p⟩
def KP (l:Jb):Bool:=decide (l.length<=30) && l.all (fun x=>decide (x.length<=10))
def LU (c:Cs):Bool:=decide (c.1.length<=10) && (KP c.2.1 && KP c.2.2)
def GS (cs:List Cs):Bool:=decide (cs.length<=30) && cs.all LU
theorem OD {α:Type}{xs:List α}{i:Nat}{d x:α}(h:i < xs.length) (a:xs.getD i d=x):xs.drop i=x::xs.drop (i+1):=by
 rw[List.drop_eq_getElem_cons h,<-a,AK h]
theorem cD {w:World}{u:Value}{l:Jb}(a:BM w u l) :
  Calls Tryz.prog 81 #[u,.int .i64 30] w fun e w'=>e = .returned (.bool (KP l))/\w'=w:=by
 obtain⟨B,D,C,F,rfl,p,c,v⟩:=a;unfold KP;by_cases n:l.length<=30
 ·rw[vZ n,Bool.true_and];have g:decide ((30:Int) < (l.length:Int))=false:=vY (by omega);obtain⟨A,b⟩:∃A,(l.all fun x=>decide (x.length<=10))=A:=⟨_,rfl⟩;rw[b];have j:Hid (((l.drop 0).all fun x=>decide (x.length<=10))=A):=b;replace c:=qH c;clear b;go_enter Tryz.func81, Tryz.ntmps81
  go_wp2_with fail
  clear g;go_loopw [5] (fun i wr=>∃k:Nat,i = .int .i64 k/\k<=l.length/\Hid (((l.drop k).all fun x=>decide (x.length<=10))=A)/\wr=w) (fun i _=>l.length - (intOf i).toNat)
  case atStart=>exact⟨0,rfl,by omega,j,rfl⟩
  case round=>
   clear j;obtain⟨k,rfl,r,t,rfl⟩:=hrel;by_cases d:k < l.length
   ·obtain rfl:=p (by omega);obtain⟨u,q,f⟩:=c.out k d;obtain⟨x,a⟩:=AB (l.getD k []);rw[a] at f;have h:=t.out;rw[OD d a,List.all_cons] at h;obtain⟨y,z,s⟩:=f.shape;subst s;clear f a t;by_cases m:x.length<=10
    ·rw[vZ m,Bool.true_and] at h;replace h:=qH h;have o:decide ((10:Int) < (x.length:Int))=false:=vY (by omega);go_wp2_with fail
     go_roundw
     case rel=>exact⟨k+1,by go_num,d,h,by first|rfl|trivial⟩
     case measure=>simp[intOf];omega
    ·rw[vY m,Bool.false_and] at h;subst h;have o:decide ((10:Int) < (x.length:Int))=true:=vZ (by omega);go_wp2_with fail
     go_ret;exact⟨rfl,rfl⟩
   ·have E:true=A:=by
     have:=t.out
     rw[List.drop_eq_nil_of_le (by omega)] at this;exact this
    clear t;subst E;go_wp2_with fail
    go_ret;exact⟨rfl,rfl⟩
 ·rw[vY n,Bool.false_and];have g:decide ((30:Int) < (l.length:Int))=true:=vZ (by omega);clear c n;go_enter Tryz.func81, Tryz.ntmps81
  go_wp2;go_ret;exact⟨rfl,rfl⟩
theorem pU {w:World}{v:Value}{n i o:Int}{cs:List Cs}(h:IZ w v n i o cs) :
  Calls Tryz.prog 33 #[v] w fun e w'=>e = .returned (.bool (GS cs))/\Below w.heap.size w w':=by
 obtain⟨sv,rfl,S⟩:=h;obtain⟨sa,sc,s⟩:=S.shape;subst s;obtain⟨b,c⟩:=AF (w.alloc (.cells #[.int .i64 n,.int .i64 i,.int .i64 o,.slice sa cs.length sc] 24));have j:Below w.heap.size w b:=by rw[c];exact(wB _ w).alloc (wC _) _
 have X:b.heap[w.heap.size]? = some (.cells #[.int .i64 n,.int .i64 i,.int .i64 o,.slice sa cs.length sc] 24):=by rw[c];exact wE _ _
 have M:=qH (fun W (D:Below b.heap.size b W)=>keep4 D (box4' X));have HS:=qH (fun W (D:Below b.heap.size b W)=>(S.keep j).keep D);clear X S;obtain⟨x,y,z,B⟩:=M.out b (wB _ _);rw[c] at x y z B;unfold GS;by_cases I:cs.length<=30
 ·rw[vZ I,Bool.true_and];have N:decide ((30:Int) < (cs.length:Int))=false:=vY (by omega);obtain⟨A,C⟩:=AB (cs.all LU);rw[C];have O:Hid ((cs.drop 0).all LU=A):=C;clear C;go_enter Tryz.func33, Tryz.ntmps33
  go_wp2_with fail
  rw[<-c];replace c:=qH c;clear N x y z B;go_loopw [3] (fun J wr=>∃k:Nat,J = .int .i64 k/\k<=cs.length/\Hid ((cs.drop k).all LU=A)/\Below b.heap.size b wr) (fun J _=>cs.length - (intOf J).toNat)
  case atStart=>exact⟨0,rfl,by omega,O,wB _ _⟩
  case round=>
   clear O;obtain⟨k,rfl,hk,m,r⟩:=hrel;obtain⟨x,y,z,B⟩:=M.out wr r;by_cases H:k < cs.length
   ·obtain⟨b4,b9,rfl,U⟩:=(HS.out wr r).at (by omega);obtain⟨u0,u1,u2,c0,c1,c2,p,d,f⟩:=U k H;obtain⟨b1,G⟩:=AB (cs.getD k BE);rw[G] at p d f;have t:=m.out;rw[OD H G,List.all_cons] at t;obtain⟨l,K,L⟩:=b1;simp only at p d f
    obtain⟨x0,y0,s⟩:=p.shape;subst s;obtain⟨x1,y1,s⟩:=d.shape;subst s;obtain⟨x2,y2,s⟩:=f.shape;subst s;obtain⟨W2,a⟩:=AF (wr.alloc (.cells #[.slice x0 l.length y0,.slice x1 K.length y1,.slice x2 L.length y2] 95));have E:Below wr.heap.size wr W2:=(by rw[a];exact(wB _ _).alloc (wC _) _);have V:W2.heap[wr.heap.size]? = some (.cells #[.slice x0 l.length y0,.slice x1 K.length y1,.slice x2 L.length y2] 95):=(by rw[a];exact wE _ _);obtain⟨Y,Z,r2⟩:=box3' V;have s0:=Y;have s1:=Z;have s2:=r2;rw[a] at Y Z r2;have F:=qH (cD (d.keep E));have u:=qH (cD (f.keep E));have T:=btt r E;have g:=btt j T;clear p d f G m V U;unfold LU at t;simp only at t
    obtain⟨P1,Q⟩:=AB (KP K);obtain⟨P2,R⟩:=AB (KP L);rw[Q] at F t;rw[R] at u t;clear Q R;by_cases P:l.length<=10
    ·have d1:decide ((10:Int) < (l.length:Int))=false:=vY (by omega);rw[vZ P,Bool.true_and] at t;cases P1
     ·rw[Bool.false_and,Bool.false_and] at t;subst t;go_wp2_with fail
      rw[<-a];replace a:=qH a;refine F.out.mono ?_;rintro e q ⟨rfl,rfl⟩;go_wp2_with fail
      go_ret;exact⟨rfl,g⟩
     ·rw[Bool.true_and] at t;cases P2
      ·rw[Bool.false_and] at t;subst t;go_wp2_with fail
       rw[<-a];replace a:=qH a;refine F.out.mono ?_;rintro e q ⟨rfl,rfl⟩;go_wp2_with fail
       refine u.out.mono ?_;rintro e q ⟨rfl,rfl⟩;go_wp2_with fail
       go_ret;exact⟨rfl,g⟩
      ·rw[Bool.true_and] at t;replace t:=qH t;go_wp2_with fail
       rw[<-a];replace a:=qH a;refine F.out.mono ?_;rintro e q ⟨rfl,rfl⟩;go_wp2_with fail
       refine u.out.mono ?_;rintro e q ⟨rfl,rfl⟩;go_wp2_with fail
       go_roundw
       case rel=>exact⟨k+1,by go_num,H,t,T⟩
       case measure=>simp[intOf];omega
    ·have d1:decide ((10:Int) < (l.length:Int))=true:=vZ (by omega);rw[vY P,Bool.false_and,Bool.false_and] at t;subst t;go_wp2_with fail
     go_ret;exact⟨rfl,by rw[<-a];exact g⟩
   ·have hE:true=A:=by
     have:=m.out
     rw[List.drop_eq_nil_of_le (by omega)] at this;exact this
    have g:=btt j r;clear m;subst hE;go_wp2_with fail
    go_ret;exact⟨rfl,g⟩
 ·rw[vY I,Bool.false_and];have N:decide ((30:Int) < (cs.length:Int))=true:=vZ (by omega);clear I;go_enter Tryz.func33, Tryz.ntmps33
  go_wp2;go_ret;exact⟨rfl,by rw[<-c];exact j⟩
end Go.Proofs.YtcnedkkcgdkioaaGreat

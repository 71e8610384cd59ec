/- Texts of this claim, put together: TY TZ NA MB0. -/
import Derived.Test.YtcnedkkcgdkioaaGreatKBt

set_option maxRecDepth 100000
set_option maxHeartbeats 12800000
namespace Go.Proofs.YtcnedkkcgdkioaaGreat
open Go.RowKit
theorem XW {w:World}{u v:Value}{xs ys:List Ex}(a:IV w u xs) (c:IV w v ys) :
  Calls Tryz.prog 108 #[u,v,.func (.func 109) #[] #[]] w fun e w'=>e = .returned (.bool (decide (xs=ys)))/\Below w.heap.size w w':=by
 obtain⟨xa,xc,xb,xo,rfl,c3,I,_⟩:=a;obtain⟨ya,yc,yb,yo,rfl,c4,J,_⟩:=c;obtain⟨B,k⟩:∃B,decide (xs=ys)=B:=⟨_,rfl⟩;rw[k];replace k:=qH k;replace I:=qH I;replace J:=qH J;by_cases l:xs.length=ys.length
 ·rw[<-l];replace l:=qH l;have Z:Hid (xs.take 0=ys.take 0):=rfl;have a0:=wB w.heap.size w;go_enter Tryz.func108, Tryz.ntmps108
  go_wp2;go_loopw [17] (fun K wr=>∃i:Nat,K = .int .i64 i/\i<=xs.length/\Hid (xs.take i=ys.take i)/\Below w.heap.size w wr) (fun K _=>xs.length - (intOf K).toNat)
  case atStart=>exact⟨0,rfl,by omega,Z,a0⟩
  case round=>
   clear Z a0;obtain⟨i,rfl,hi,t,b⟩:=hrel;by_cases r:i < xs.length
   ·obtain rfl:=c3 (by omega);obtain rfl:=c4 (by rw[<-l.out];omega);have a4:i < ys.length:=(by rw[<-l.out];exact r);obtain⟨u1,u2,o,E,F,s,z⟩:=I.out i r;obtain⟨v1,v2,d,g,j,A,C⟩:=J.out i a4;obtain⟨b4,a⟩:=AB (xs.getD i BJ);obtain⟨b5,c⟩:=AB (ys.getD i BJ);rw[a] at o s z;rw[c] at d A C;replace o:=AC b o;replace E:=AC b E;replace F:=AC b F;replace d:=AC b d;replace g:=AC b g;replace j:=AC b j;have Y:=qH (fun b6 (p:Below wr.heap.size wr b6)=>sS (x:=b4) (y:=b5) (s.keep (btt b p)) (z.keep (btt b p)) (A.keep (btt b p)) (C.keep (btt b p)));obtain⟨ua,uc,b'⟩:=s.shape;obtain⟨ub,ud,c0⟩:=z.shape;obtain⟨va,vc,c1⟩:=A.shape;obtain⟨vb,vd,c2⟩:=C.shape;subst b' c0 c1 c2;obtain⟨R,T,S⟩:=b4;obtain⟨U,X,V⟩:=b5;have c7:(i:Int) < (xs.length:Int):=(by omega);have c8:(i:Int) < (ys.length:Int):=(by omega);obtain⟨f,W⟩:=AF (wr.alloc (.cells #[.int .i64 R,.slice ua T.length uc,.slice ub S.length ud] 80));have q:Below wr.heap.size wr f:=(by rw[W];exact(wB _ _).alloc (wC _) _);have H:f.heap.size=wr.heap.size+1:=(by rw[W];simp);have k5:f.heap[wr.heap.size]? = some (.cells #[.int .i64 R,.slice ua T.length uc,.slice ub S.length ud] 80):=(by rw[W];exact wE _ _);obtain⟨D,m⟩:=AF (f.alloc (.cells #[.int .i64 U,.slice va X.length vc,.slice vb V.length vd] 80));have a2:Below f.heap.size f D:=(by rw[m];exact(wB _ _).alloc (wC _) _);have k6:D.heap[wr.heap.size+1]? = some (.cells #[.int .i64 U,.slice va X.length vc,.slice vb V.length vd] 80):=(by rw[<-H,m];exact wE _ _);obtain⟨L,M,N⟩:=box3' (AN a2 k5);obtain⟨O,P,Q⟩:=box3' k6;replace d:=AC q d;replace g:=AC q g;replace j:=AC q j;have a1:=btt q a2;clear s z A C k5 k6;rw[m] at L M N O P Q;rw[W] at L M N O P Q d g j H;go_wp2_with fail
    rw[<-W,<-m];replace W:=qH W;replace m:=qH m;refine(Y.out D a1).mono ?_;rintro e w7 ⟨rfl,b8⟩;have a3:=btt b (btt a1 b8);rw[cW];clear L M N O P Q o E F d g j H Y;by_cases n:((R,T,S):Ex)=(U,X,V)
    ·rw[vZ n];have b9:Hid (xs.take (i+1)=ys.take (i+1)):=GA t.out r a4 (by rw[a,c,n]);clear a c n t;go_wp2_with fail
     go_roundw
     case rel=>exact⟨i+1,by go_num,r,b9,a3⟩
     case measure=>simp[intOf];omega
    ·rw[vY n]
     have G:Hid (B=false):=by
      show _=_;rw[<-k.out];refine vY fun h=>n ?_;rw[<-a,<-c,h]
     clear a c n t;go_wp2_with fail
     go_ret;exact⟨by rw[G.out];rfl,a3⟩
   ·have b7:Hid (B=true):=by
     show _=_;rw[<-k.out];exact vZ (FZ t.out (by omega) (by rw[<-l.out];omega))
    clear t;go_wp2;go_ret;exact⟨by rw[b7.out];rfl,b⟩
 ·have G:B=false:=by rw[<-k.out];exact vY fun h=>l (by rw[h])
  subst G;have h1:((xs.length:Int) == (ys.length:Int))=false:=by simp;omega
  go_enter Tryz.func108, Tryz.ntmps108
  go_wp2;go_ret;exact⟨rfl,wB _ _⟩
def AZ (n i o:Int) (cs:List Cs) (an:Int) (ss:Jc) (r tn:Int) (vs:Jb) (xs:List Ex):Int:=
 if FD n i o cs an ss r ≠ 0 then FD n i o cs an ss r else
  if tn=n/\vs=(CR n.toNat cs (wL ss r.toNat 0)).1/\xs=(CR n.toNat cs (wL ss r.toNat 0)).2 then 0 else 3
theorem RG {w:World}{v:Value}{n i o an r tn:Int}{cs:List Cs}{ss:Jc}{vs:Jb}{xs:List Ex}(h:CC w v n i o cs an ss r tn vs xs) (c':DH n i o cs an ss r=true) :
  Calls Tryz.prog 60 #[v] w fun e w'=>e = .returned (.int .i64 (AZ n i o cs an ss r tn vs xs))/\Below w.heap.size w w':=by
 obtain⟨a,c,S,Y,va,vc,xa,xc,rfl,hP,hV,hX⟩:=h;have c2:=qH (fun W (d:Below w.heap.size w W)=>WA (hP.keep d) c');obtain⟨b9,G⟩:=AB (FD n i o cs an ss r);obtain⟨P,a3⟩:=AB ((CR n.toNat cs (wL ss r.toNat 0)).1);obtain⟨z,a4⟩:=AB ((CR n.toNat cs (wL ss r.toNat 0)).2);unfold AZ;rw[G,a3,a4];replace G:=qH G;replace a3:=qH a3;replace a4:=qH a4;obtain⟨A,t⟩:=AF (w.alloc (.cells #[.int .i64 n,.int .i64 i,.int .i64 o,.slice a cs.length c,.int .i64 an,.slice S ss.length Y,.int .i64 r,.int .i64 tn,.slice va vs.length vc,.slice xa xs.length xc] 35));have J:Below w.heap.size w A:=by rw[t];exact(wB _ w).alloc (wC _) _
 have k1:A.heap[w.heap.size]? = some (.cells #[.int .i64 n,.int .i64 i,.int .i64 o,.slice a cs.length c,.int .i64 an,.slice S ss.length Y,.int .i64 r,.int .i64 tn,.slice va vs.length vc,.slice xa xs.length xc] 35):=by rw[t];exact wE _ _
 have K:=qH (fun W (d:Below A.heap.size A W)=>And.intro (keep7 d (AW k1).1) (keep3' d (AW k1).2));obtain⟨⟨p0,p1,p2,p3,p4,p5,p6⟩,p,g,j⟩:=K.out A (wB _ _);rw[t] at p0 p1 p2 p3 p4 p5 p6;clear k1 hP p g j;by_cases a2:b9=0
 ·subst a2;rw[if_neg (fun h=>h rfl)];have HB:Hid (∀W,Below w.heap.size w W->Calls Tryz.prog 28 #[.agg #[.int .i64 n,.int .i64 i,.int .i64 o,.slice a cs.length c,.int .i64 an,.slice S ss.length Y,.int .i64 r]] W fun e w'=>(∃v',e = .returned (.tuple #[v',.int .i64 0])/\CC w' v' n i o cs an ss r n P z)/\Below W.heap.size W w'):=fun W d=>(c2.out W d).mono (fun e w' O=>⟨O.1.elim (fun h=>absurd G.out h.1) (fun h=>by rw[<-a3.out,<-a4.out];exact h.2),O.2⟩);obtain⟨R,C⟩:∃R,(if tn=n/\vs=P/\xs=z then (0:Int) else 3)=R:=⟨_,rfl⟩;rw[C];replace C:=qH C;go_enter Tryz.func60, Tryz.ntmps60
  go_wp2_with fail
  rw[<-t];replace t:=qH t;refine(HB.out A J).mono ?_;rintro e y ⟨⟨v2,rfl,U,Z,V,a0,b5,b6,b7,b8,rfl,-,a6,a8⟩,I⟩;by_cases en:tn=n
  ·have c9:=en.symm;subst c9;have E:=btt J I;obtain⟨b,f⟩:=AF (y.alloc (.cells #[.int .i64 n,.int .i64 i,.int .i64 o,.slice U cs.length Z,.int .i64 an,.slice V ss.length a0,.int .i64 r,.int .i64 n,.slice b5 P.length b6,.slice b7 z.length b8] 35));have x:Below y.heap.size y b:=(by rw[f];exact(wB _ _).alloc (wC _) _);have L:=btt I x;have u:=btt E x;have Q:b.heap[y.heap.size]? = some (.cells #[.int .i64 n,.int .i64 i,.int .i64 o,.slice U cs.length Z,.int .i64 an,.slice V ss.length a0,.int .i64 r,.int .i64 n,.slice b5 P.length b6,.slice b7 z.length b8] 35):=(by rw[f];exact wE _ _);have T:=qH (fun W (d:Below b.heap.size b W)=>keep3' d (AW Q).2);have H:=qH (fun W (d:Below b.heap.size b W)=>XZ (hV.keep (btt u d)) (a6.keep (btt x d)));have X:=qH (fun W (d:Below b.heap.size b W)=>XW (hX.keep (btt u d)) (a8.keep (btt x d)));obtain⟨-,p,g,j⟩:=K.out b L;obtain⟨q,m,s⟩:=T.out b (wB _ _);rw[f] at p g j q m s;clear p0 p1 p2 p3 p4 p5 p6 Q hV hX a6 a8;by_cases B:vs=P
   ·simp only[decide_eq_true B] at H;by_cases F:xs=z
    ·simp only[decide_eq_true F] at X;have D:=qH (show R=0 by rw[<-C.out,if_pos ⟨rfl,B,F⟩]);clear B F;go_wp2_with fail
     rw[<-f];replace f:=qH f;refine(H.out b (wB _ _)).mono ?_;rintro e l ⟨rfl,N⟩;have k:Below b.heap.size b l:=N.below;clear p g j q m s;obtain⟨-,p,g,j⟩:=K.out l (btt L k);obtain⟨q,m,s⟩:=T.out l k;go_wp2_with fail
     refine(X.out l k).mono ?_;rintro e w5 ⟨rfl,c0⟩;have M:=btt u (btt k c0);clear p g j q m s;go_wp2_with fail
     go_ret;exact⟨by rw[D.out]<;>rfl,M⟩
    ·simp only[decide_eq_false F] at X;have D:=qH (show R=3 by rw[<-C.out,if_neg (fun h=>F h.2.2)]);clear B F;go_wp2_with fail
     rw[<-f];replace f:=qH f;refine(H.out b (wB _ _)).mono ?_;rintro e l ⟨rfl,N⟩;have k:Below b.heap.size b l:=N.below;clear p g j q m s;obtain⟨-,p,g,j⟩:=K.out l (btt L k);obtain⟨q,m,s⟩:=T.out l k;go_wp2_with fail
     refine(X.out l k).mono ?_;rintro e w5 ⟨rfl,c0⟩;have M:=btt u (btt k c0);clear p g j q m s;go_wp2_with fail
     go_ret;exact⟨by rw[D.out]<;>rfl,M⟩
   ·simp only[decide_eq_false B] at H;have D:=qH (show R=3 by rw[<-C.out,if_neg (fun h=>B h.2.1)]);clear B;go_wp2_with fail
    rw[<-f];replace f:=qH f;refine(H.out b (wB _ _)).mono ?_;rintro e l ⟨rfl,N⟩;have k:Below b.heap.size b l:=N.below;have M:=btt u k;clear p g j q m s;go_wp2_with fail
    go_ret;exact⟨by rw[D.out]<;>rfl,M⟩
  ·have D:=qH (show R=3 by rw[<-C.out,if_neg (fun h=>en h.1)]);have d1:(tn != n)=true:=(by simpa using en);have E:=btt J I;obtain⟨b,f⟩:=AF (y.alloc (.cells #[.int .i64 n,.int .i64 i,.int .i64 o,.slice U cs.length Z,.int .i64 an,.slice V ss.length a0,.int .i64 r,.int .i64 n,.slice b5 P.length b6,.slice b7 z.length b8] 35));have x:Below y.heap.size y b:=(by rw[f];exact(wB _ _).alloc (wC _) _);have L:=btt I x;have u:=btt E x;have Q:b.heap[y.heap.size]? = some (.cells #[.int .i64 n,.int .i64 i,.int .i64 o,.slice U cs.length Z,.int .i64 an,.slice V ss.length a0,.int .i64 r,.int .i64 n,.slice b5 P.length b6,.slice b7 z.length b8] 35):=(by rw[f];exact wE _ _);have T:=qH (fun W (d:Below b.heap.size b W)=>keep3' d (AW Q).2);have H:=qH (fun W (d:Below b.heap.size b W)=>XZ (hV.keep (btt u d)) (a6.keep (btt x d)));have X:=qH (fun W (d:Below b.heap.size b W)=>XW (hX.keep (btt u d)) (a8.keep (btt x d)));obtain⟨-,p,g,j⟩:=K.out b L;obtain⟨q,m,s⟩:=T.out b (wB _ _);rw[f] at p g j q m s;clear p0 p1 p2 p3 p4 p5 p6 Q hV hX a6 a8;clear en H X T;go_wp2_with fail
   go_ret;exact⟨by rw[D.out]<;>rfl,by rw[<-f];exact u⟩
 ·rw[if_pos a2];have d2:(b9 != 0)=true:=by simpa using a2
  have HB:Hid (∀W,Below w.heap.size w W->Calls Tryz.prog 28 #[.agg #[.int .i64 n,.int .i64 i,.int .i64 o,.slice a cs.length c,.int .i64 an,.slice S ss.length Y,.int .i64 r]] W fun e w'=>e = .returned (.tuple #[.agg #[.int .i64 0,.int .i64 0,.int .i64 0,.slice none 0 0,.int .i64 0,.slice none 0 0,.int .i64 0,.int .i64 0,.slice none 0 0,.slice none 0 0],.int .i64 b9])/\Below W.heap.size W w'):=fun W d=>(c2.out W d).mono (fun e w' O=>⟨O.1.elim (fun h=>by rw[<-G.out];exact h.2) (fun h=>absurd (G.out.symm.trans h.1) a2),O.2⟩);go_enter Tryz.func60, Tryz.ntmps60
  go_wp2_with fail
  rw[<-t];refine(HB.out A J).mono ?_;rintro e y ⟨rfl,I⟩;clear p0 p1 p2 p3 p4 p5 p6;have E:=btt J I;replace t:=qH t;go_wp2_with fail
  go_ret;exact⟨rfl,by first|exact E|exact E.trans ((wB _ _).alloc (by have:=E.size;omega) _)⟩
theorem VY {W:World}{b:Nat}{v c d e f g:Value}{T:TypeId}(h:W.heap[b]? = some (.cells #[v,c,d,e,f,g] T)):W.cell? ⟨b,0,none⟩=some v/\∀j (a:j < 5),W.cell? ⟨b,1+j,none⟩=some (#[c,d,e,f,g][j]'a):=
 ⟨by rw[cell_of_row _ _ 0 _ _ _ h];rfl,fun j a=>by
  rcases(show j=0\/j=1\/j=2\/j=3\/j=4 by omega) with rfl|rfl|rfl|rfl|rfl
  ·rw[cell_of_row _ _ 1 _ _ _ h];rfl
  ·rw[cell_of_row _ _ 2 _ _ _ h];rfl
  ·rw[cell_of_row _ _ 3 _ _ _ h];rfl
  ·rw[cell_of_row _ _ 4 _ _ _ h];rfl
  ·rw[cell_of_row _ _ 5 _ _ _ h];rfl⟩
theorem UQ {wr:World}{b b1 b2 k:Nat}{v:Value}{c a d:Array Value}{t e f:TypeId}{w:World}(h:wr.heap[b]? = some (.cells c t)) (g:wr.heap[b1]? = some (.cells a e)) (i:wr.heap[b2]? = some (.cells d f)) (n:b ≠ b2) (n1:b1 ≠ b2) (B:w.heap.size<=b2) (j:Below w.heap.size w wr) :
  (wr.setCell ⟨b2,k,none⟩ v).heap[b]? = some (.cells c t)/\(wr.setCell ⟨b2,k,none⟩ v).heap[b1]? = some (.cells a e)/\(wr.setCell ⟨b2,k,none⟩ v).heap[b2]? = some (.cells (d.setIfInBounds k v) f)/\Below w.heap.size w (wr.setCell ⟨b2,k,none⟩ v):=
 ⟨(Below.heap_setCell wr ⟨b2,k,none⟩ v b n).trans h,(Below.heap_setCell wr ⟨b2,k,none⟩ v b1 n1).trans g,heap_setCell_same wr b2 k _ _ v i,j.setCell (p:=⟨b2,k,none⟩) B v⟩
theorem rZ {fn:Func}(h:fn.results = #[.cell 8 114]) (tmps:Array Value) (w:World) (g:Nat) {u0 u1 u2 u3 u4 u5 u6 u7:Value}(p:tmps.getD 8 undef = .pointer (some ⟨g,0,none⟩)) (c:w.heap[g]? = some (.cells #[u0,u1,u2,u3,u4,u5,u6,u7] 114)) :
  (results fn tmps).run Tryz.prog w = .ok (.agg #[u0,u1,u2,u3,u4,u5,u6,u7]) w:=by
 have a:tmps[8]?.getD undef = .pointer (some ⟨g,0,none⟩):=by simpa using p
 obtain⟨z,d,e,f,i,j,k,l⟩:=box8' c;have b:=Tryz.isAgg114;have s:=Tryz.sizeOf114;simp only[results,h];simp[Sem.run_bind,Result.andThen,a,asAddr,loadVar]
 go_simp
def KD (p r:Int) (S:Nat->Int) (k:Nat):Array Value:=#[.int .i64 p,.int .i64 r,.int .i64 0,.int .i64 (if 0 < k then S 0 else 0),.int .i64 (if 1 < k then S 1 else 0),.int .i64 (if 2 < k then S 2 else 0),.int .i64 (if 3 < k then S 3 else 0),.int .i64 (if 4 < k then S 4 else 0)]
theorem UP {p r:Int}{S:Nat->Int}{k:Nat}(h:k < 5):(KD p r S k).setIfInBounds (3+k) (.int .i64 (S k))=KD p r S (k+1):=by
 rcases(show k=0\/k=1\/k=2\/k=3\/k=4 by omega) with rfl|rfl|rfl|rfl|rfl<;>rfl
theorem sU {p r:Int}{S:Nat->Int}{k:Nat}{u v:Value}(h:k < 5):((KD p r S k).setIfInBounds (3+k) u).setIfInBounds (3+k) v=(KD p r S k).setIfInBounds (3+k) v:=by
 rcases(show k=0\/k=1\/k=2\/k=3\/k=4 by omega) with rfl|rfl|rfl|rfl|rfl<;>rfl
theorem sT {w:World}{b:Nat}{t:TypeId}{p r:Int}{S:Nat->Int}{k:Nat}(h:k < 5) (a:w.heap[b]? = some (.cells (KD p r S k) t)):∃v,w.cell? ⟨b,3+k,none⟩=some v:=by
 rcases(show k=0\/k=1\/k=2\/k=3\/k=4 by omega) with rfl|rfl|rfl|rfl|rfl
 all_goals exact⟨_,by rw[cell_of_row _ _ _ _ _ _ a];rfl⟩
theorem rB {w:World}{p N:Nat}{r l m n o q hs:Int}{u:Value}{bf:List Int}(Z:p < 5) (hN:N<=5) (C:bf.length=N) (hu:AR w u bf) (hh : [l,m,n,o,q].getD p 0=hs) (d3:0<=hs) (f7:hs<=31) :
  Calls Tryz.prog 187 #[.agg #[.int .i64 (N:Int),.int .i64 l,.int .i64 m,.int .i64 n,.int .i64 o,.int .i64 q],.int .i64 r,.int .i64 (p:Int),u] w fun e w'=>e = .returned (EG ([(p:Int),r,0]++IL hs bf))/\Below w.heap.size w w':=by
 obtain⟨F,x⟩:=AF (((w.alloc (.cells #[.int .i64 (N:Int),.int .i64 l,.int .i64 m,.int .i64 n,.int .i64 o,.int .i64 q] 146)).alloc (.cells #[.int .i64 0,.int .i64 0,.int .i64 0,.int .i64 0,.int .i64 0,.int .i64 0,.int .i64 0,.int .i64 0] 114)).alloc (.cells #[.int .i64 (p:Int),.int .i64 r,.int .i64 0,.int .i64 0,.int .i64 0,.int .i64 0,.int .i64 0,.int .i64 0] 114));have b2:Below w.heap.size w F:=by rw[x];exact(((wB _ w).alloc (wC _) _).alloc (by simp) _).alloc (by simp;omega) _
 have kG:F.heap[w.heap.size]? = some (.cells #[.int .i64 (N:Int),.int .i64 l,.int .i64 m,.int .i64 n,.int .i64 o,.int .i64 q] 146):=by
  rw[x];exact(Below.heap_alloc _ _ _ (by simp;omega)).trans ((Below.heap_alloc _ _ _ (by simp)).trans (wE w _))
 have kR:F.heap[w.heap.size+1]? = some (.cells #[.int .i64 0,.int .i64 0,.int .i64 0,.int .i64 0,.int .i64 0,.int .i64 0,.int .i64 0,.int .i64 0] 114):=by
  rw[x];have:=wE (w.alloc (.cells #[.int .i64 (N:Int),.int .i64 l,.int .i64 m,.int .i64 n,.int .i64 o,.int .i64 q] 146)) (.cells #[.int .i64 0,.int .i64 0,.int .i64 0,.int .i64 0,.int .i64 0,.int .i64 0,.int .i64 0,.int .i64 0] 114)
  rw[World.size_alloc] at this;exact(Below.heap_alloc _ _ _ (by simp)).trans this
 have kV:F.heap[w.heap.size+1+1]? = some (.cells #[.int .i64 (p:Int),.int .i64 r,.int .i64 0,.int .i64 0,.int .i64 0,.int .i64 0,.int .i64 0,.int .i64 0] 114):=by
  rw[x];have:=wE ((w.alloc (.cells #[.int .i64 (N:Int),.int .i64 l,.int .i64 m,.int .i64 n,.int .i64 o,.int .i64 q] 146)).alloc (.cells #[.int .i64 0,.int .i64 0,.int .i64 0,.int .i64 0,.int .i64 0,.int .i64 0,.int .i64 0,.int .i64 0] 114)) (.cells #[.int .i64 (p:Int),.int .i64 r,.int .i64 0,.int .i64 0,.int .i64 0,.int .i64 0,.int .i64 0,.int .i64 0] 114)
  rwa [World.size_alloc,World.size_alloc] at this
 have R : #[Value.int .i64 l,.int .i64 m,.int .i64 n,.int .i64 o,.int .i64 q][p]'Z = .int .i64 hs:=by
  rw[<-hh];rcases(show p=0\/p=1\/p=2\/p=3\/p=4 by omega) with rfl|rfl|rfl|rfl|rfl<;>rfl
 have g2:(p:Int) < 5:=by omega
 have g1:(0:Int)<=(p:Int):=by omega
 obtain⟨c,Y⟩:∃c:Nat->Int,c=fun a=>if a < N/\AY hs (a:Int)=true then bf.getD a 0 else (-1:Int):=⟨_,rfl⟩
 have b5:EG ([(p:Int),r,0]++IL hs bf) = .agg (KD (p:Int) r c 5):=by
  unfold EG IL;rw[C,Y];rfl
 rw[b5];have HU:=qH (fun W (t:Below w.heap.size w W)=>hu.keep t);obtain⟨ua,uc,d5⟩:=hu.shape;subst d5;have b1:Hid (∀a,c a=if a < N/\AY hs (a:Int)=true then bf.getD a 0 else (-1:Int)):=fun a=>by rw[Y]
 have c5:Hid (F.heap[w.heap.size+1+1]? = some (.cells (KD (p:Int) r c 0) 114)):=kV;replace R:=qH R;replace C:=qH C;clear b5 hu hh Y kV;go_enter Tryz.func187, Tryz.ntmps187
 go_wp2_with fail
 rw[<-x];replace x:=qH x;go_loopw [10] (fun iv wr=>∃a:Nat,iv = .int .i64 a/\a<=5/\wr.heap[w.heap.size]? = some (.cells #[.int .i64 (N:Int),.int .i64 l,.int .i64 m,.int .i64 n,.int .i64 o,.int .i64 q] 146)/\wr.heap[w.heap.size+1]? = some (.cells #[.int .i64 0,.int .i64 0,.int .i64 0,.int .i64 0,.int .i64 0,.int .i64 0,.int .i64 0,.int .i64 0] 114)/\Hid (wr.heap[w.heap.size+1+1]? = some (.cells (KD (p:Int) r c a) 114))/\Below w.heap.size w wr) (fun iv _=>5 - (intOf iv).toNat)
 case atStart=>exact⟨0,rfl,by omega,kG,kR,c5,b2⟩
 case round=>
  clear kG kR c5 b2;obtain⟨a,rfl,hk,A,j,g,D⟩:=hrel;obtain⟨q0,qh⟩:=VY A;have q1:=qh p Z;rw[R.out] at q1;clear qh;by_cases G:a < 5
  ·have f':(a:Int) < 5:=(by omega);have f9:(0:Int)<=(a:Int):=Int.natCast_nonneg _;obtain⟨x9,cc⟩:=sT G g.out;have fz:=BG g.out;obtain⟨d,i,s,f⟩:=UQ (k:=3+a) (v:=.int .i64 (-1)) A j g.out (by omega) (by omega) (by omega) D;have z:=b1.out a;have H:=qH (fun W=>MC hs (a:Int) W d3 (by omega) (by omega) (by omega));obtain⟨s9,sq⟩:=VY d;replace sq:=sq p Z;rw[R.out] at sq;by_cases hq:a < N
   ·have dq:decide ((a:Int) < (N:Int))=true:=vZ (by omega);have f4:(a:Int) < (N:Int):=(by omega);cases t:AY hs (a:Int) with
    | true=>
     rw[if_pos ⟨hq,t⟩] at z
     obtain⟨b9,o9,d4,b3⟩:∃b T,ua=some ⟨b,T,none⟩/\CI (wr.setCell ⟨w.heap.size+1+1,3+a,none⟩ (.int .i64 (-1))) b T bf:=by
      obtain⟨d',e4,b,T,e,e1,e2,_⟩:=HU.out _ f;injection e with e3 _ _;exact⟨b,T,e3.trans (e1 (by rw[C.out];omega)),e2⟩
     subst d4;have c7:=b3 a (by rw[C.out];omega);rw[<-z] at c7;have g0:(a:Int) < (bf.length:Int):=by rw[C.out];omega
     have yy:∃d8,(wr.setCell ⟨w.heap.size+1+1,3+a,none⟩ (.int .i64 (-1))).cell? ⟨w.heap.size+1+1,3+a,none⟩=some d8:=by
      obtain⟨U,V,I,X⟩:=UQ (k:=3+a) (v:=.int .i64 (c a)) d i s (by omega) (by omega) (by omega) f;rcases(show a=0\/a=1\/a=2\/a=3\/a=4 by omega) with rfl|rfl|rfl|rfl|rfl
      all_goals exact⟨_,by rw[cell_of_row _ _ _ _ _ _ s];rfl⟩
     obtain⟨y9,yc⟩:=yy;have f5:=BG s;obtain⟨U,V,I,X⟩:=UQ (k:=3+a) (v:=.int .i64 (c a)) d i s (by omega) (by omega) (by omega) f;rw[sU G,UP G] at I;simp only[t] at H;replace U:=qH U;replace V:=qH V;replace I:=qH I;replace X:=qH X;replace z:=qH z;clear A j g d i s f D t b3;go_wp2_with fail
     refine(H.out _).mono ?_;rintro e w' ⟨rfl,rfl⟩;go_wp2_with fail
     go_roundw
     case rel=>exact⟨a+1,by go_num,by omega,U.out,V.out,I,X.out⟩
     case measure=>simp[intOf];omega
    | false=>
     rw[if_neg (fun h=>by rw[t] at h;cases h.2)] at z;have y:=UP (p:=(p:Int)) (r:=r) (S:=c) G;rw[z] at y;rw[y] at s;clear y;simp only[t] at H;replace d:=qH d;replace i:=qH i;replace f:=qH f;replace s:=qH s;replace z:=qH z;clear A j g D t;go_wp2_with fail
     refine(H.out _).mono ?_;rintro e w' ⟨rfl,rfl⟩;go_wp2_with fail
     go_roundw
     case rel=>exact⟨a+1,by go_num,by omega,d.out,i.out,s,f.out⟩
     case measure=>simp[intOf];omega
   ·have dq:decide ((a:Int) < (N:Int))=false:=vY (by omega);rw[if_neg (fun h=>hq h.1)] at z;have y:=UP (p:=(p:Int)) (r:=r) (S:=c) G;rw[z] at y;rw[y] at s;clear y;replace d:=qH d;replace i:=qH i;replace f:=qH f;replace s:=qH s;replace z:=qH z;have f3:decide (a < N)=false:=vY hq;clear A j g D H;go_wp2_with fail
    go_roundw
    case rel=>exact⟨a+1,by go_num,by omega,d.out,i.out,s,f.out⟩
    case measure=>simp[intOf];omega
  ·obtain rfl:a=5:=(by omega);obtain⟨J,a7⟩:=AB (c 0);obtain⟨K,a8⟩:=AB (c 1);obtain⟨L,a9⟩:=AB (c 2);obtain⟨M,a'⟩:=AB (c 3);obtain⟨O,b0⟩:=AB (c 4);have g:wr.heap[w.heap.size+1+1]? = some (.cells #[.int .i64 (p:Int),.int .i64 r,.int .i64 0,.int .i64 (c 0),.int .i64 (c 1),.int .i64 (c 2),.int .i64 (c 3),.int .i64 (c 4)] 114):=g.out;have Q:Value.agg (KD (p:Int) r c 5) = .agg #[.int .i64 (p:Int),.int .i64 r,.int .i64 0,.int .i64 (c 0),.int .i64 (c 1),.int .i64 (c 2),.int .i64 (c 3),.int .i64 (c 4)]:=rfl;rw[a7,a8,a9,a',b0] at g Q;clear a7 a8 a9 a' b0 b1 HU;replace Q:=qH Q;have a6:wr.heap[w.heap.size+1+1]? = some (.cells #[.int .i64 (p:Int),.int .i64 r,.int .i64 0,.int .i64 J,.int .i64 K,.int .i64 L,.int .i64 M,.int .i64 O] 114):=g;obtain⟨c0,c1,c2,c3,c4,e',c6,f1⟩:=box8' a6;obtain⟨y0,y1,y2,y3,y4,y5,y6,y7⟩:=box8' j;have fz:=BG j;obtain⟨WE,P⟩:=AF ((((((((wr.setCell ⟨w.heap.size+1,0,none⟩ (.int .i64 (p:Int))).setCell ⟨w.heap.size+1,1,none⟩ (.int .i64 r)).setCell ⟨w.heap.size+1,2,none⟩ (.int .i64 0)).setCell ⟨w.heap.size+1,3,none⟩ (.int .i64 J)).setCell ⟨w.heap.size+1,4,none⟩ (.int .i64 K)).setCell ⟨w.heap.size+1,5,none⟩ (.int .i64 L)).setCell ⟨w.heap.size+1,6,none⟩ (.int .i64 M)).setCell ⟨w.heap.size+1,7,none⟩ (.int .i64 O));have k0:=heap_setCell_same wr (w.heap.size+1) 0 _ _ (.int .i64 (p:Int)) j;have k1:=heap_setCell_same _ (w.heap.size+1) 1 _ _ (.int .i64 r) k0;have k2:=heap_setCell_same _ (w.heap.size+1) 2 _ _ (.int .i64 0) k1;have k3:=heap_setCell_same _ (w.heap.size+1) 3 _ _ (.int .i64 J) k2;have k4:=heap_setCell_same _ (w.heap.size+1) 4 _ _ (.int .i64 K) k3;have k5:=heap_setCell_same _ (w.heap.size+1) 5 _ _ (.int .i64 L) k4;have k6:=heap_setCell_same _ (w.heap.size+1) 6 _ _ (.int .i64 M) k5;have E:=heap_setCell_same _ (w.heap.size+1) 7 _ _ (.int .i64 O) k6;rw[<-P] at E;have B:w.heap.size<=w.heap.size+1:=by omega
   have d2:Below w.heap.size w WE:=by
    rw[P];exact(((((((D.setCell (p:=⟨w.heap.size+1,0,none⟩) B _).setCell (p:=⟨w.heap.size+1,1,none⟩) B _).setCell (p:=⟨w.heap.size+1,2,none⟩) B _).setCell (p:=⟨w.heap.size+1,3,none⟩) B _).setCell (p:=⟨w.heap.size+1,4,none⟩) B _).setCell (p:=⟨w.heap.size+1,5,none⟩) B _).setCell (p:=⟨w.heap.size+1,6,none⟩) B _).setCell (p:=⟨w.heap.size+1,7,none⟩) B _
   replace E:WE.heap[w.heap.size+1]? = some (.cells #[.int .i64 (p:Int),.int .i64 r,.int .i64 0,.int .i64 J,.int .i64 K,.int .i64 L,.int .i64 M,.int .i64 O] 114):=E;clear A j g a6 k0 k1 k2 k3 k4 k5 k6 D;replace E:=qH E;have d1:=qH P;clear P;go_wp2_with fail
   rw[<-d1.out];exact⟨rfl,_,rZ rfl _ _ _ rfl E.out,by rw[Q.out],d2⟩
def aS:List Oper:=[⟨some 72,.move (.tmp 4),133,"ref.go:80",#[],none⟩,⟨some 73,.move (.tmp 6),3,"ref.go:80",#[],none⟩,⟨some 74,.indexAddr 133 (.tmp 72) (.tmp 73),0,"ref.go:80",#[⟨0,.data⟩,⟨1,.data⟩],none⟩,⟨some 75,.load 77 (.tmp 74),77,"ref.go:80",#[⟨2,.data⟩],none⟩,⟨some 76,.move (.tmp 8),3,"ref.go:80",#[],none⟩,⟨some 77,.binOp .sub 3 (.tmp 76) (.const (.int .i64 1)) 3,3,"ref.go:80",#[⟨4,.data⟩],none⟩,⟨some 78,.indexAddr 77 (.tmp 75) (.tmp 77),0,"ref.go:80",#[⟨3,.data⟩,⟨5,.data⟩],none⟩,⟨some 79,.fieldAddr 148 (.tmp 78) 0,0,"ref.go:80",#[⟨6,.data⟩],none⟩,⟨some 80,.load 146 (.tmp 79),146,"ref.go:80",#[⟨7,.data⟩],none⟩,⟨some 81,.move (.tmp 8),3,"ref.go:80",#[],none⟩,⟨some 82,.move (.tmp 10),3,"ref.go:80",#[],none⟩,⟨some 83,.fieldAddr 80 (.tmp 7) 2,0,"ref.go:80",#[],none⟩,⟨some 84,.load 78 (.tmp 83),78,"ref.go:80",#[⟨11,.data⟩],none⟩,⟨some 85,.move (.tmp 8),3,"ref.go:80",#[],none⟩,⟨some 86,.binOp .sub 3 (.tmp 85) (.const (.int .i64 1)) 3,3,"ref.go:80",#[⟨13,.data⟩],none⟩,⟨some 87,.indexAddr 78 (.tmp 84) (.tmp 86),0,"ref.go:80",#[⟨12,.data⟩,⟨14,.data⟩],none⟩,⟨some 88,.load 48 (.tmp 87),48,"ref.go:80",#[⟨15,.data⟩],none⟩,⟨some 89,.call { callee:=.value (.func 187),args:=#[.tmp 80,.tmp 81,.tmp 82,.tmp 88],argTypes:=#[146,3,3,48] },114,"ref.go:80",#[⟨8,.data⟩,⟨9,.data⟩,⟨10,.data⟩,⟨16,.data⟩],none⟩,⟨none,.store 114 (.tmp 11) (.tmp 89),0,"ref.go:80",#[⟨17,.data⟩,⟨17,.chain⟩,⟨0,.phase⟩,⟨1,.phase⟩,⟨2,.phase⟩,⟨3,.phase⟩,⟨4,.phase⟩,⟨5,.phase⟩,⟨6,.phase⟩,⟨7,.phase⟩,⟨8,.phase⟩,⟨9,.phase⟩,⟨10,.phase⟩,⟨11,.phase⟩,⟨12,.phase⟩,⟨13,.phase⟩,⟨14,.phase⟩,⟨15,.phase⟩,⟨16,.phase⟩,⟨17,.phase⟩],none⟩]
theorem rI {w:World}{T U V Y Z x9 a' b0 b1 b2 b3 b4 b5 b6 b7 b8 b9 b' c6 c7 c8 c9 c' d0 d1 d2 d3 d4 d5 d6 d7 d8 d9 d' e0 e1 e2 e3 e4 e5 e6 e7 e8 e9 e' f0 f1 f2 f3 f4 f5 f6 f7 f8 f9 f' g1 g2 g3 g4 g5 g6 g7 g8 g9 g' h4 h5 h6 h7 h8 h9 h' i0 i1 i2 i3 i4 i5 i6 i7 i8 i9 i':Value}{xs:List Value}{h2:Exit->Act->World->Prop}{b bx s t wc f ko J dc u yn yc j k k' q:Nat}{L M N O P Q z x A B C E H I:Int}{v0 v1 v2 v3 v4 v5 v6 v7 S:Value}
  (k5:w.heap[b]? = some (.cells #[v0,v1,v2,v3,v4,v5,v6,v7] 114))
  (X:∀W,Below w.heap.size w W->(W.cell? ⟨s,j,none⟩=some (.slice (some ⟨f,ko,none⟩) J dc)/\W.cell? ⟨f,ko+k' * 7,none⟩=some (.int .i64 L)/\W.cell? ⟨f,ko+k' * 7+1,none⟩=some (.int .i64 M)/\W.cell? ⟨f,ko+k' * 7+2,none⟩=some (.int .i64 N)/\W.cell? ⟨f,ko+k' * 7+3,none⟩=some (.int .i64 O)/\W.cell? ⟨f,ko+k' * 7+4,none⟩=some (.int .i64 P))/\W.cell? ⟨f,ko+k' * 7+5,none⟩=some (.int .i64 Q)/\W.cell? ⟨bx,2,none⟩=some (.slice (some ⟨u,0,none⟩) yn yc)/\W.cell? ⟨u,k',none⟩=some S)
  (j0:∀W,Below w.heap.size w W->Calls Tryz.prog 187 #[.agg #[.int .i64 L,.int .i64 M,.int .i64 N,.int .i64 O,.int .i64 P,.int .i64 Q],.int .i64 (k:Int),.int .i64 (q:Int),S] W fun e w'=>e = .returned (.agg #[.int .i64 z,.int .i64 x,.int .i64 A,.int .i64 B,.int .i64 C,.int .i64 E,.int .i64 H,.int .i64 I])/\Below W.heap.size W w')
  (k8:IntKind.i64.wrap ((k:Int) - 1)=(k':Int)) (k4:(j:Int) < (t:Int)) (k7:(k':Int) < (J:Int)) (k9:(k':Int) < (yn:Int)) (k6:(0:Int)<=(k':Int))
  (j2:∀(_y18:Value) (W:World),(((fun i=>decide (i < 19)) 18=false->Below w.heap.size w W)/\((fun i=>decide (i < 19)) 18=true->∃v,Below w.heap.size w v/\W=((((((((v.setCell ⟨b,0,none⟩ (.int .i64 z)).setCell ⟨b,1,none⟩ (.int .i64 x)).setCell ⟨b,2,none⟩ (.int .i64 A)).setCell ⟨b,3,none⟩ (.int .i64 B)).setCell ⟨b,4,none⟩ (.int .i64 C)).setCell ⟨b,5,none⟩ (.int .i64 E)).setCell ⟨b,6,none⟩ (.int .i64 H)).setCell ⟨b,7,none⟩ (.int .i64 I))))->(True)->h2 .normal ⟨List.toArray (T::U::V::Y::.slice (some ⟨s,0,none⟩) t wc::Z::.int .i64 (j:Int)::.pointer (some ⟨bx,0,none⟩)::.int .i64 (k:Int)::x9::.int .i64 (q:Int)::.pointer (some ⟨b,0,none⟩)::a'::b0::b1::b2::b3::b4::b5::b6::b7::b8::b9::b'::c6::c7::c8::c9::c'::d0::d1::d2::d3::d4::d5::d6::d7::d8::d9::d'::e0::e1::e2::e3::e4::e5::e6::e7::e8::e9::e'::f0::f1::f2::f3::f4::f5::f6::f7::f8::f9::f'::g1::g2::g3::g4::g5::g6::g7::g8::g9::g'::.slice (some ⟨s,0,none⟩) t wc::.int .i64 (j:Int)::.pointer (some ⟨s,j,none⟩)::.slice (some ⟨f,ko,none⟩) J dc::.int .i64 (k:Int)::.int .i64 (k':Int)::.pointer (some ⟨f,ko+k' * 7,none⟩)::.pointer (some ⟨f,ko+k' * 7,none⟩)::.agg #[.int .i64 L,.int .i64 M,.int .i64 N,.int .i64 O,.int .i64 P,.int .i64 Q]::.int .i64 (k:Int)::.int .i64 (q:Int)::.pointer (some ⟨bx,2,none⟩)::.slice (some ⟨u,0,none⟩) yn yc::.int .i64 (k:Int)::.int .i64 (k':Int)::.pointer (some ⟨u,k',none⟩)::S::.agg #[.int .i64 z,.int .i64 x,.int .i64 A,.int .i64 B,.int .i64 C,.int .i64 E,.int .i64 H,.int .i64 I]::xs),[]⟩ W) :
  (Code.region 19 aS.toArray true).wp Tryz.prog h2 ⟨List.toArray (T::U::V::Y::.slice (some ⟨s,0,none⟩) t wc::Z::.int .i64 (j:Int)::.pointer (some ⟨bx,0,none⟩)::.int .i64 (k:Int)::x9::.int .i64 (q:Int)::.pointer (some ⟨b,0,none⟩)::a'::b0::b1::b2::b3::b4::b5::b6::b7::b8::b9::b'::c6::c7::c8::c9::c'::d0::d1::d2::d3::d4::d5::d6::d7::d8::d9::d'::e0::e1::e2::e3::e4::e5::e6::e7::e8::e9::e'::f0::f1::f2::f3::f4::f5::f6::f7::f8::f9::f'::g1::g2::g3::g4::g5::g6::g7::g8::g9::g'::h4::h5::h6::h7::h8::h9::h'::i0::i1::i2::i3::i4::i5::i6::i7::i8::i9::i'::xs),[]⟩ w:=by
 refine GB (l:=aS) (F:=(fun y=>⟨List.toArray (T::U::V::Y::.slice (some ⟨s,0,none⟩) t wc::Z::.int .i64 (j:Int)::.pointer (some ⟨bx,0,none⟩)::.int .i64 (k:Int)::x9::.int .i64 (q:Int)::.pointer (some ⟨b,0,none⟩)::a'::b0::b1::b2::b3::b4::b5::b6::b7::b8::b9::b'::c6::c7::c8::c9::c'::d0::d1::d2::d3::d4::d5::d6::d7::d8::d9::d'::e0::e1::e2::e3::e4::e5::e6::e7::e8::e9::e'::f0::f1::f2::f3::f4::f5::f6::f7::f8::f9::f'::g1::g2::g3::g4::g5::g6::g7::g8::g9::g'::y 0::y 1::y 2::y 3::y 4::y 5::y 6::y 7::y 8::y 9::y 10::y 11::y 12::y 13::y 14::y 15::y 16::y 17::xs),[]⟩)) (Φ:=[AI (.slice (some ⟨s,0,none⟩) t wc),AI (.int .i64 (j:Int)),AI (.pointer (some ⟨s,j,none⟩)),AI (.slice (some ⟨f,ko,none⟩) J dc),AI (.int .i64 (k:Int)),AI (.int .i64 (k':Int)),AI (.pointer (some ⟨f,ko+k' * 7,none⟩)),AI (.pointer (some ⟨f,ko+k' * 7,none⟩)),AI (.agg #[.int .i64 L,.int .i64 M,.int .i64 N,.int .i64 O,.int .i64 P,.int .i64 Q]),AI (.int .i64 (k:Int)),AI (.int .i64 (q:Int)),AI (.pointer (some ⟨bx,2,none⟩)),AI (.slice (some ⟨u,0,none⟩) yn yc),AI (.int .i64 (k:Int)),AI (.int .i64 (k':Int)),AI (.pointer (some ⟨u,k',none⟩)),AI S,AI (.agg #[.int .i64 z,.int .i64 x,.int .i64 A,.int .i64 B,.int .i64 C,.int .i64 E,.int .i64 H,.int .i64 I]),CM]) (R:=(fun _ _=>True)) (G:=(fun D _ W=>(D 18=false->Below w.heap.size w W)/\(D 18=true->∃v,Below w.heap.size w v/\W=((((((((v.setCell ⟨b,0,none⟩ (.int .i64 z)).setCell ⟨b,1,none⟩ (.int .i64 x)).setCell ⟨b,2,none⟩ (.int .i64 A)).setCell ⟨b,3,none⟩ (.int .i64 B)).setCell ⟨b,4,none⟩ (.int .i64 C)).setCell ⟨b,5,none⟩ (.int .i64 E)).setCell ⟨b,6,none⟩ (.int .i64 H)).setCell ⟨b,7,none⟩ (.int .i64 I))))) ⟨?s0,?s1,?s2,?s3,?s4,?s5,?s6,?s7,?s8,?s9,?s10,?s11,?s12,?s13,?s14,?s15,?s16,?s17,?s18,trivial⟩ (fun i=>([h4,h5,h6,h7,h8,h9,h',i0,i1,i2,i3,i4,i5,i6,i7,i8,i9,i',undef]:List Value).getD i undef) (by kernel_rfl) (by kernel_rfl) ⟨sE,sE,sE,sE,sE,sE,sE,sE,sE,sE,sE,sE,sE,sE,sE,sE,sE,sE,fun _ _ _ h _=>h,trivial⟩ ?g0 ?gx ?fin
 case s0|s1|s4|s9|s10|s11|s13=>
  refine .q0 (CE rfl) (fun _=>trivial) (fun _ _ _ h=>h) (fun _=>rfl) fun y W K a=>?_;go_simp;exact a
 case s2|s6|s15=>
  refine .q2 (CE rfl) (fun _=>trivial) (fun _ _ _ h=>h) (fun _=>rfl) rfl (fun _ _ h=>h) (fun _ _ h=>h) fun y W K a=>?_;dsimp [AJ]
  go_simp;exact a
 case s3=>
  refine AL.mk rfl (AD 2 fun y2=>fun y D W K m r d c a=>?_);obtain rfl:=(d.get 2 rfl).2;dsimp [AJ]
  have n:=r.no (j:=18) (i:=3) rfl (by kernel_rfl) m;obtain⟨g,o⟩:=c;obtain⟨⟨a9,c0,c1,c2,c3,c4⟩,c5,cX,cr⟩:=X W (g n);go_simp;exact a _ _ trivial ⟨g,o⟩ rfl
 case s5|s7|s14=>
  refine .q1 (CE rfl) (fun _=>trivial) (fun _ _ _ h=>h) (fun _=>rfl) rfl (fun _ _ h=>h) fun y W K a=>?_;dsimp [AJ]
  go_simp;exact a
 case s8=>
  refine AL.mk rfl (AD 7 fun y7=>fun y D W K m r d c a=>?_);obtain rfl:=(d.get 7 rfl).2;dsimp [AJ]
  have n:=r.no (j:=18) (i:=8) rfl (by kernel_rfl) m;obtain⟨g,o⟩:=c;obtain⟨⟨a9,c0,c1,c2,c3,c4⟩,c5,cX,cr⟩:=X W (g n);go_simp;exact a _ _ trivial ⟨g,o⟩ rfl
 case s12=>
  refine AL.mk rfl (AD 11 fun l4=>fun y D W K m r d c a=>?_);obtain rfl:=(d.get 11 rfl).2;dsimp [AJ]
  have n:=r.no (j:=18) (i:=12) rfl (by kernel_rfl) m;obtain⟨g,o⟩:=c;obtain⟨⟨a9,c0,c1,c2,c3,c4⟩,c5,cX,cr⟩:=X W (g n);go_simp;exact a _ _ trivial ⟨g,o⟩ rfl
 case s16=>
  refine AL.mk rfl (AD 15 fun l5=>fun y D W K m r d c a=>?_);obtain rfl:=(d.get 15 rfl).2;dsimp [AJ]
  have n:=r.no (j:=18) (i:=16) rfl (by kernel_rfl) m;obtain⟨g,o⟩:=c;obtain⟨⟨a9,c0,c1,c2,c3,c4⟩,c5,cX,cr⟩:=X W (g n);go_simp;exact a _ _ trivial ⟨g,o⟩ rfl
 case s17=>
  refine AL.mk rfl (AD 8 fun y8=>AD 9 fun y9=>AD 10 fun l3=>AD 16 fun l6=>fun y D W K m r d c a=>?_);obtain rfl:=(d.get 8 rfl).2;obtain rfl:=(d.get 9 rfl).2;obtain rfl:=(d.get 10 rfl).2;obtain rfl:=(d.get 16 rfl).2;dsimp [AJ]
  have n:=r.no (j:=18) (i:=17) rfl (by kernel_rfl) m;obtain⟨g,o⟩:=c;go_simp;refine(j0 W (g n)).mono ?_;rintro e W9 ⟨rfl,j1⟩;exact a _ _ trivial ⟨fun _=>btt (g n) j1,fun h=>(by rw[show AP D 17 18=D 18 from rfl,n] at h;cases h)⟩ rfl
 case s18=>
  refine AL.mk rfl (AD 17 fun l7=>fun y D W K m _ d c a=>?_);obtain rfl:=(d.get 17 rfl).2;dsimp [AJ]
  obtain⟨g,o⟩:=c;have kv:=AN (g m) k5;obtain⟨T,U,V,Y,x4,Z,x6,x7⟩:=box8' kv;have fz:=BG kv;go_simp;exact a undef _ trivial ⟨fun h=>(by cases h),fun _=>⟨W,g m,rfl⟩⟩ trivial
 case g0=>exact⟨fun _=>wH (wB _ w) 1,fun h=>(by cases h)⟩
 case gx=>exact fun D D' y W h ⟨g,o⟩=>⟨fun q=>g ((h 18 (by decide)).trans q),fun q=>o ((h 18 (by decide)).trans q)⟩
 case fin=>
  intro y W c p;try dsimp only
  rw[(AG p 0:y 0=_),(AG p 1:y 1=_),(AG p 2:y 2=_),(AG p 3:y 3=_),(AG p 4:y 4=_),(AG p 5:y 5=_),(AG p 6:y 6=_),(AG p 7:y 7=_),(AG p 8:y 8=_),(AG p 9:y 9=_),(AG p 10:y 10=_),(AG p 11:y 11=_),(AG p 12:y 12=_),(AG p 13:y 13=_),(AG p 14:y 14=_),(AG p 15:y 15=_),(AG p 16:y 16=_),(AG p 17:y 17=_)];exact j2 (y 18) W c (AG p 18)
end Go.Proofs.YtcnedkkcgdkioaaGreat

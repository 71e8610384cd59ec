/- Texts of this claim, put together: MF SR SS ST QC QD. -/
import Derived.Test.YtcnedkkcgdkioaaGreatKBzg

set_option maxRecDepth 100000
set_option maxHeartbeats 12800000
namespace Go.Proofs.YtcnedkkcgdkioaaGreat
open Go.RowKit
theorem OV {w:World}{v:Value}{n i o an r tn:Int}{cs:List Cs}{ss:Jc}{vs:Jb}{xs:List Ex}(h:CC w v n i o cs an ss r tn vs xs) (c9:DH n i o cs an ss r=true) :
  Calls Tryz.prog 56 #[v] w fun e w'=>e = .returned (.int .i64 (AZ n i o cs an ss r tn vs xs))/\Below w.heap.size w w':=by
 have hh:=qH h;obtain⟨a,c,D,F,va,vc,xa,xc,rfl,hP,-,-⟩:=h;have X:=qH (fun W (d:Below w.heap.size w W)=>pG (hP.keep d) c9);obtain⟨E,j⟩:=AB (FD n i o cs an ss r);obtain⟨P,I⟩:=AB ((CR n.toNat cs (wL ss r.toNat 0)).1);obtain⟨g,J⟩:=AB ((CR n.toNat cs (wL ss r.toNat 0)).2);unfold AZ;rw[j,I,J];replace j:=qH j;replace I:=qH I;replace J:=qH J;obtain⟨f,b⟩:=AF (w.alloc (.cells #[.int .i64 n,.int .i64 i,.int .i64 o,.slice a cs.length c,.int .i64 an,.slice D ss.length F,.int .i64 r,.int .i64 tn,.slice va vs.length vc,.slice xa xs.length xc] 35));have K:Below w.heap.size w f:=by rw[b];exact(wB _ w).alloc (wC _) _
 have V:f.heap[w.heap.size]? = some (.cells #[.int .i64 n,.int .i64 i,.int .i64 o,.slice a cs.length c,.int .i64 an,.slice D ss.length F,.int .i64 r,.int .i64 tn,.slice va vs.length vc,.slice xa xs.length xc] 35):=by rw[b];exact wE _ _
 have Y:=qH (fun W (d:Below f.heap.size f W)=>And.intro (keep7 d (AW V).1) (keep3' d (AW V).2));obtain⟨⟨p,m,q,t,u,y,z⟩,M,N,Q⟩:=Y.out f (wB _ _);rw[b] at p m q t u y z;clear V hP M N Q;by_cases G:E=0
 ·subst G;rw[if_neg (fun h=>h rfl)];have S:Hid (∀W,Below w.heap.size w W->Calls Tryz.prog 71 #[.agg #[.int .i64 n,.int .i64 i,.int .i64 o,.slice a cs.length c,.int .i64 an,.slice D ss.length F,.int .i64 r]] W fun e w'=>(∃v',e = .returned (.tuple #[v',.int .i64 0])/\CC w' v' n i o cs an ss r n P g)/\Below W.heap.size W w'):=fun W d=>(X.out W d).mono (fun e w' O=>⟨O.1.elim (fun h=>absurd j.out h.1) (fun h=>by rw[<-I.out,<-J.out];exact h.2),O.2⟩)
  have hR:(if tn=n/\vs=P/\xs=g then (0:Int) else 3)=if (decide (tn=n) && decide (vs=P) && decide (xs=g))=true then 0 else 3:=by
   simp only[Bool.and_eq_true,decide_eq_true_eq,and_assoc]
  rw[hR];obtain⟨R,A⟩:∃R,(decide (tn=n) && decide (vs=P) && decide (xs=g))=R:=⟨_,rfl⟩;rw[A];clear hR;replace A:=qH A;go_enter Tryz.func56, Tryz.ntmps56
  go_wp2_with fail
  rw[<-b];replace b:=qH b;refine(S.out f K).mono ?_;rintro e C ⟨⟨v2,rfl,a5⟩,L⟩;clear p m q t u y z;have c6:=qH a5;obtain⟨Z,c2,a0,a2,b9,c0,c3,c5,rfl,-,-,-⟩:=a5;have B:=btt K L;obtain⟨T,k⟩:=AF (C.alloc (.cells #[.int .i64 n,.int .i64 i,.int .i64 o,.slice Z cs.length c2,.int .i64 an,.slice a0 ss.length a2,.int .i64 r,.int .i64 n,.slice b9 P.length c0,.slice c3 g.length c5] 35));have U:Below C.heap.size C T:=by rw[k];exact(wB _ _).alloc (wC _) _
  have c7:=btt L U;have a6:=btt B U;have k3:T.heap[C.heap.size]? = some (.cells #[.int .i64 n,.int .i64 i,.int .i64 o,.slice Z cs.length c2,.int .i64 an,.slice a0 ss.length a2,.int .i64 r,.int .i64 n,.slice b9 P.length c0,.slice c3 g.length c5] 35):=by rw[k];exact wE _ _
  obtain⟨⟨p,m,q,t,u,y,z⟩,M,N,Q⟩:=Y.out T c7;obtain⟨⟨q0,q1,q2,q3,q4,q5,q6⟩,q7,q8,q9⟩:=AW k3;have H:=qX (hh.out.keep a6) (c6.out.keep U);rw[A.out] at H;replace H:=qH H;rw[k] at p m q t u y z M N Q q0 q1 q2 q3 q4 q5 q6 q7 q8 q9;go_wp2_with fail
  rw[<-k];replace k:=qH k;refine H.out.mono ?_;rintro e w4 ⟨rfl,c8⟩;have a7:=btt a6 c8;clear p m q t u y z M N Q q0 q1 q2 q3 q4 q5 q6 q7 q8 q9 H A;cases R
  ·go_wp2_with fail
   go_ret;exact⟨rfl,a7⟩
  ·go_wp2_with fail
   go_ret;exact⟨rfl,a7⟩
 ·rw[if_pos G];have d1:(E != 0)=true:=by simpa using G
  have S:Hid (∀W,Below w.heap.size w W->Calls Tryz.prog 71 #[.agg #[.int .i64 n,.int .i64 i,.int .i64 o,.slice a cs.length c,.int .i64 an,.slice D ss.length F,.int .i64 r]] W fun e w'=>e = .returned (.tuple #[.agg #[.int .i64 0,.int .i64 0,.int .i64 0,.slice none 0 0,.int .i64 0,.slice none 0 0,.int .i64 0,.int .i64 0,.slice none 0 0,.slice none 0 0],.int .i64 E])/\Below W.heap.size W w'):=fun W d=>(X.out W d).mono (fun e w' O=>⟨O.1.elim (fun h=>by rw[<-j.out];exact h.2) (fun h=>absurd (j.out.symm.trans h.1) G),O.2⟩);go_enter Tryz.func56, Tryz.ntmps56
  go_wp2_with fail
  rw[<-b];refine(S.out f K).mono ?_;rintro e C ⟨rfl,L⟩;clear p m q t u y z;have B:=btt K L;replace b:=qH b;go_wp2_with fail
  go_ret;exact⟨rfl,by first|exact B|exact B.trans ((wB _ _).alloc (by have:=B.size;omega) _)⟩
theorem pV {w:World}{v:Value}{n i o an tn:Int}{r e0:Nat}{cs:List Cs}{ss:Jc}{vs:Jb}{xs:List Ex}(h:CC w v n i o cs an ss (r:Int) tn vs xs) (N:e0 < xs.length) (t:r < (xs.getD e0 BJ).2.2.length) :
  Calls Tryz.prog 121 #[v,.int .i64 (e0:Int)] w fun e w'=>∃u,e = .returned u/\AR w' u ((xs.getD e0 BJ).2.2.getD r [])/\Below w.heap.size w w':=by
 obtain⟨a,c,g,j,H,I,xa,K,rfl,P,V,X⟩:=h;obtain⟨J,L,rfl,C⟩:=X.at (by omega);obtain⟨u1,u2,F,Q,G,B,D⟩:=C e0 N;obtain⟨x,y⟩:=AB (xs.getD e0 BJ);rw[y] at F B D t|-;obtain⟨f,W⟩:=AF (w.alloc (.cells #[.int .i64 n,.int .i64 i,.int .i64 o,.slice a cs.length c,.int .i64 an,.slice g ss.length j,.int .i64 (r:Int),.int .i64 tn,.slice H vs.length I,.slice (some ⟨J,L,none⟩) xs.length K] 35));have b:Below w.heap.size w f:=by rw[W];exact(wB _ w).alloc (wC _) _
 have E:f.heap[w.heap.size]? = some (.cells #[.int .i64 n,.int .i64 i,.int .i64 o,.slice a cs.length c,.int .i64 an,.slice g ss.length j,.int .i64 (r:Int),.int .i64 tn,.slice H vs.length I,.slice (some ⟨J,L,none⟩) xs.length K] 35):=by rw[W];exact wE _ _
 obtain⟨⟨R,S,T,U,Y,Z,z6⟩,z7,z8,z9⟩:=AW E;obtain⟨ya,yc,yb,yo,rfl,z,A,-⟩:=D;obtain rfl:=z (by omega);obtain⟨u,d,k⟩:=A r t;obtain⟨l,p⟩:=AB (x.2.2.getD r []);rw[p] at k|-;have m:=qH (fun q=>k.keep (wH b q));have M:=qH (fun q=>wH b q);replace G:=AC b G;replace d:=AC b d;have d1:(e0:Int) < (xs.length:Int):=by omega
 have d2:(r:Int) < (x.2.2.length:Int):=by omega
 obtain⟨ua,uc,O⟩:=k.shape;rw[O] at d m;clear R S T U Y Z z7 z8 F Q B A k P V X C z E y p;go_enter Tryz.func121, Tryz.ntmps121
 go_wp2_with fail
 rw[<-W];replace W:=qH W;go_quiet (fail)
 go_wp2;go_ret;exact⟨_,rfl,m.out _,M.out _⟩
theorem pQ {w:World}{x:Ex}{u1 u2:Value}(k:KS 7 w u1 x.2.1) (p:BM w u2 x.2.2) (D:x.2.1.length<=10) :
  Calls Tryz.prog 184 #[.agg #[.int .i64 x.1,u1,u2]] w fun e w'=>e = .returned (.int .i64 (DT x))/\Below w.heap.size w w':=by
 obtain⟨c,d,v⟩:=x;obtain⟨F,a⟩:=AB (DT (c,d,v));rw[a];simp only at k p D|-
 obtain⟨q,wc,rfl⟩:=k.shape;obtain⟨y,A,rfl⟩:=p.shape;obtain⟨W,h⟩:=AF (w.alloc (.cells #[.int .i64 c,.slice q d.length wc,.slice y v.length A] 80));have j:Below w.heap.size w W:=by rw[h];exact(wB _ w).alloc (wC _) _
 have X:W.heap[w.heap.size]? = some (.cells #[.int .i64 c,.slice q d.length wc,.slice y v.length A] 80):=by rw[h];exact wE _ _
 have B:W.cell? ⟨w.heap.size,1,none⟩=some (.slice q d.length wc):=by rw[cell_of_row _ _ 1 _ _ _ X];rfl
 replace a:=qH a;clear p X;rw[h] at B;rcases Nat.eq_zero_or_pos d.length with z|z
 ·have C:F=0:=by rw[<-a.out];unfold DT;rw[if_pos z]
  subst C;have n:=j;rw[h] at n;rw[z] at B n|-;go_enter Tryz.func184, Tryz.ntmps184
  go_wp2_with fail
  go_ret;exact⟨rfl,n⟩
 ·obtain⟨m,o⟩:∃m,d.length=m+1:=⟨d.length - 1,by omega⟩;obtain⟨K,L,rfl,u⟩:=k.at7 z;obtain⟨r,b⟩:=u m (by omega)
  have g:(d.getD m []).getD 6 0=F:=by
   rw[<-a.out];unfold DT;rw[if_neg (show ¬d.length=0 by omega)];show _=(d.getD (d.length - 1) []).getD 6 0;rw[o,Nat.add_sub_cancel]
  obtain⟨J,t⟩:=AB (d.getD m []);rw[t] at r b g;have f:=b 6 (by omega);rw[g] at f;replace f:=AC j f;rw[h] at f;have I:IntKind.i64.wrap ((d.length:Int) - 1)=(m:Int):=by rw[IntWalk.i64_in _ (by omega)];omega
  have H:(m:Int) < (d.length:Int):=by omega
  have E:((d.length:Int) == 0)=false:=beq_eq_false_iff_ne.2 (by omega);have G:(d.length == 0)=false:=beq_eq_false_iff_ne.2 (by omega);replace o:=qH o;clear b r g t u k;go_enter Tryz.func184, Tryz.ntmps184
  go_wp2_with fail
  go_ret;exact⟨rfl,by rw[<-h];exact j⟩
theorem mH {W a:World}{b o:Nat}{v d e:Value}(c:Below W.heap.size W a) (h:W.cell? ⟨b,o,none⟩=some v/\W.cell? ⟨b,o+1,none⟩=some d/\W.cell? ⟨b,o+2,none⟩=some e):a.cell? ⟨b,o,none⟩=some v/\a.cell? ⟨b,o+1,none⟩=some d/\a.cell? ⟨b,o+2,none⟩=some e:=
 ⟨AC c h.1,AC c h.2.1,AC c h.2.2⟩
theorem qG {w:World}{v:Value}{n i o an r tn:Int}{e0:Nat}{cs:List Cs}{ss:Jc}{vs:Jb}{xs:List Ex}(h:CC w v n i o cs an ss r tn vs xs) (Y:e0 < xs.length) (a0:1<=tn) (a1:tn<=5) (D:(xs.getD e0 BJ).2.1.length<=10) :
  Calls Tryz.prog 123 #[v,.int .i64 (e0:Int)] w fun e w'=>e = .returned (.int .i64 (bits BinOp.andNot IntKind.i64 (DI tn) (DT (xs.getD e0 BJ))))/\Below w.heap.size w w':=by
 have Z : Tryz.prog.follows .mixedOrders=true:=by kernel_rfl
 obtain⟨a,c,u,y,J,L,xa,N,rfl,S,V,X⟩:=h;obtain⟨M,O,rfl,C⟩:=X.at (by omega);obtain⟨u1,u2,t,G,I,k,m⟩:=C e0 Y;obtain⟨x,E⟩:=AB (xs.getD e0 BJ);rw[E] at t k m D|-;obtain⟨d,g⟩:=AF (w.alloc (.cells #[.int .i64 n,.int .i64 i,.int .i64 o,.slice a cs.length c,.int .i64 an,.slice u ss.length y,.int .i64 r,.int .i64 tn,.slice J vs.length L,.slice (some ⟨M,O,none⟩) xs.length N] 35));have j:Below w.heap.size w d:=by rw[g];exact(wB _ w).alloc (wC _) _
 have A:d.heap[w.heap.size]? = some (.cells #[.int .i64 n,.int .i64 i,.int .i64 o,.slice a cs.length c,.int .i64 an,.slice u ss.length y,.int .i64 r,.int .i64 tn,.slice J vs.length L,.slice (some ⟨M,O,none⟩) xs.length N] 35):=by rw[g];exact wE _ _
 have F:=qH (fun W (f:Below d.heap.size d W)=>pQ (x:=x) (k.keep (btt j f)) (m.keep (btt j f)) D);obtain⟨a2,z⟩:=AB (DT x);rw[z] at F|-;have U:=qH (fun W:World=>cE tn W a0 a1);obtain⟨a3,B⟩:=AB (DI tn);rw[B] at U|-;obtain⟨wa,wc,rfl⟩:=k.shape;obtain⟨ya,yc,rfl⟩:=m.shape;have P:=qH (fun W (f:Below d.heap.size d W)=>mH (btt j f) ⟨t,G,I⟩);have H:=qH (fun W (f:Below d.heap.size d W)=>And.intro (AC f (AW A).2.1) (AC f (AW A).2.2.2));have d1:(e0:Int) < (xs.length:Int):=by omega
 clear t G I k m S V X C A E z B;go_enter Tryz.func123, Tryz.ntmps123
 go_wp2_with fail
 rw[<-g];replace g:=qH g;refine CW Z (by kernel_rfl) ?_
 repeat (refine WQ.step fun K b=>?_;go_simp;first|(refine b _ ?_;clear b K)|(apply Exists.intro;refine⟨fun q C=>?_,b _ ?_⟩;(·(first|with_reducible rfl|(obtain⟨Q,R⟩:=H.out q C;go_simp;first|done|with_reducible rfl|with_reducible exact⟨rfl,rfl⟩)));clear b K))
 (refine WQ.step fun K b=>?_;go_simp;first|(refine b _ ?_;clear b K)|(apply Exists.intro;refine⟨fun q C=>?_,b _ ?_⟩;(·(refine(U.out q).mono ?_;rintro e w' ⟨rfl,p⟩;exact⟨rfl,by rw[<-p];exact C⟩));clear b K))
 repeat (refine WQ.step fun K b=>?_;go_simp;first|(refine b _ ?_;clear b K)|(apply Exists.intro;refine⟨fun q C=>?_,b _ ?_⟩;(·(first|with_reducible rfl|(obtain⟨Q,R⟩:=H.out q C;obtain⟨y0,y1,y2⟩:=P.out q C;go_simp;first|done|with_reducible rfl|with_reducible exact⟨rfl,rfl⟩)));clear b K))
 (refine WQ.step fun K b=>?_;go_simp;first|(refine b _ ?_;clear b K)|(apply Exists.intro;refine⟨fun q C=>?_,b _ ?_⟩;(·(refine(F.out q C).mono ?_;rintro e w' ⟨rfl,p⟩;exact⟨rfl,btt C p⟩));clear b K))
 repeat (refine WQ.step fun K b=>?_;go_simp;first|(refine b _ ?_;clear b K)|(apply Exists.intro;refine⟨fun q C=>?_,b _ ?_⟩;(·(first|with_reducible rfl|(go_simp;first|done|with_reducible rfl|with_reducible exact⟨rfl,rfl⟩)));clear b K))
 refine WQ.nil ?_;intro w3 T;go_wp2_with fail
 go_ret;exact⟨rfl,btt j T⟩
theorem fA:((List.range 5).all fun n=>(List.range 32).all fun F=>decide (0<=bits BinOp.andNot IntKind.i64 (DI ((n:Int)+1)) (F:Int)/\bits BinOp.andNot IntKind.i64 (DI ((n:Int)+1)) (F:Int)<=31) && (List.range (n+1)).all fun p=>AY (bits BinOp.andNot IntKind.i64 (DI ((n:Int)+1)) (F:Int)) (p:Int) == !AY (F:Int) (p:Int))=true:=by decide +kernel
theorem eZ {n:Nat}{F:Int}(b:1<=n) (c:n<=5) (f0:0<=F) (f1:F<=31):(0<=bits BinOp.andNot IntKind.i64 (DI (n:Int)) F/\bits BinOp.andNot IntKind.i64 (DI (n:Int)) F<=31)/\∀p:Nat,p < n->AY (bits BinOp.andNot IntKind.i64 (DI (n:Int)) F) (p:Int) = !AY F (p:Int):=by
 obtain⟨m,rfl⟩:∃m,n=m+1:=⟨n - 1,by omega⟩;obtain⟨G,rfl⟩:∃G:Nat,F=G:=⟨F.toNat,by omega⟩;have h:=List.all_eq_true.1 (List.all_eq_true.1 fA m (List.mem_range.2 (by omega))) G (List.mem_range.2 (by omega));rw[Bool.and_eq_true,List.all_eq_true] at h;rw[show((m+1:Nat):Int)=(m:Int)+1 by omega];exact⟨of_decide_eq_true h.1,fun p a=>by simpa using h.2 p (List.mem_range.2 a)⟩
theorem cA {w:World}{v:Value}{n i o an:Int}{N r e0:Nat}{cs:List Cs}{ss:Jc}{vs:Jb}{xs:List Ex}(h:CC w v n i o cs an ss (r:Int) (N:Int) vs xs) (he:e0 < xs.length) (h1:1<=N) (h5:N<=5) (G:MK N r (xs.getD e0 BJ)) :
  Calls Tryz.prog 69 #[v,.int .i64 (e0:Int)] w fun e w'=>∃u,e = .returned u/\AA 83 2 EI w' w.heap.size u (BP N r (xs.getD e0 BJ)).length (BP N r (xs.getD e0 BJ))/\Below w.heap.size w w':=by
 obtain⟨x,hx⟩:=AB (xs.getD e0 BJ);have M:=fun W (g:Below w.heap.size w W)=>qG (h.keep g) he (by omega) (by omega) G.wd;have k:=fun W (g:Below w.heap.size w W)=>pV (h.keep g) he (by have:=G.vw;omega);rw[hx] at G|-;simp only[hx] at M k;obtain⟨d,q⟩:=eZ (F:=DT x) h1 h5 G.f0 G.f1;have X:=G.fin;obtain⟨a6,m⟩:=AB (DT x);rw[m] at d q;simp only[m] at M;obtain⟨a8,hM⟩:=AB (bits BinOp.andNot IntKind.i64 (DI (N:Int)) a6);simp only[hM] at d q M;obtain⟨l,U⟩:=AB (x.2.2.getD r []);simp only[U] at k X;obtain⟨ok,Z⟩:∃ok:Nat->Bool,ok=fun(p:Nat)=>!AY a6 (p:Int):=⟨_,rfl⟩
 have c1:BP N r x=BL ok l N:=by
  unfold BP;rw[m,Z,U]
 rw[c1];subst X;have a0:∀p:Nat,p < l.length->AY a8 (p:Int)=ok p:=fun p hp=>by rw[q p hp,Z]
 obtain⟨a9,b0,a',c',va,vc,xa,xc,rfl,hP,hV,hX⟩:=h;obtain⟨c,f⟩:=AF (w.alloc (.cells #[.int .i64 n,.int .i64 i,.int .i64 o,.slice a9 cs.length b0,.int .i64 an,.slice a' ss.length c',.int .i64 (r:Int),.int .i64 (l.length:Int),.slice va vs.length vc,.slice xa xs.length xc] 35));have b5:Below w.heap.size w c:=by rw[f];exact(wB _ w).alloc (wC _) _
 have kA:c.heap[w.heap.size]? = some (.cells #[.int .i64 n,.int .i64 i,.int .i64 o,.slice a9 cs.length b0,.int .i64 an,.slice a' ss.length c',.int .i64 (r:Int),.int .i64 (l.length:Int),.slice va vs.length vc,.slice xa xs.length xc] 35):=by rw[f];exact wE _ _
 have HB:=qH (fun W (g:Below c.heap.size c W)=>And.intro (keep7 g (AW kA).1) (keep3' g (AW kA).2));obtain⟨⟨C,D,E,I,J,L,P⟩,Q,R,S⟩:=HB.out c (wB _ _);rw[f] at C D E I J L P Q R S;have c6:=qH (k c b5);replace M:=qH M;replace a0:=qH a0;replace d:=qH d;clear hP hV hX kA G q c1 Z hM m hx k U;go_enter Tryz.func69, Tryz.ntmps69
 go_wp2_with fail
 rw[<-f];replace f:=qH f;refine c6.out.mono ?_;rintro e b ⟨u2,rfl,d4,b6⟩;have T:=btt b5 b6;obtain⟨la,lc,lb,lo,rfl,b9,V,-⟩:=d4;obtain rfl:=b9 (by omega);replace V:=qH V;have h0:AA 83 2 EI b b.heap.size (.slice none 0 0) (BL ok l 0).length (BL ok l 0):=AA.nil _ _;clear C D E I J L P Q R S b9;go_wp2_with fail
 go_loopw [5,7] (fun ov iv wr=>∃(p:Nat),iv = .int .i64 p/\p<=l.length/\AA 83 2 EI wr b.heap.size ov (BL ok l p).length (BL ok l p)/\Below b.heap.size b wr) (fun _ iv _=>l.length - (intOf iv).toNat)
 case atStart=>exact⟨0,rfl,by omega,h0,wB _ _⟩
 case round=>
  clear h0;obtain⟨p,rfl,hp,O,z⟩:=hrel;obtain⟨oa,oc,e5⟩:=O.shape;subst e5;by_cases Y:p < l.length
  ·have X:(p:Int) < (l.length:Int):=(by omega);have e6:(BL ok l p).length<=1000:=(by have:=IQ (ok:=ok) (l:=l) p;omega);obtain⟨⟨C,D,E,I,J,L,P⟩,Q,R,S⟩:=HB.out wr (btt b6 z);have c7:=qH (M.out wr (btt T z));have H:=fun W=>MC a8 (p:Int) W d.out.1 (by have:=d.out.2;omega) (by omega) (by omega);rw[a0.out p Y] at H;obtain⟨c8,K⟩:=AB (ok p);rw[K] at H;replace H:=qH H;have t:=qH O;clear O;go_wp2_with fail
   refine c7.out.mono ?_;rintro e w3 ⟨rfl,b7⟩;clear C D E I J L P Q R S;go_wp2_with fail
   refine(H.out w3).mono ?_;rintro e w4 ⟨rfl,rfl⟩;have A:=btt z b7;have j:=t.out.keep (EI.stab _) b7;have cl:=V.out.keep A p (by omega);obtain⟨y,B⟩:=AB (l.getD p 0);rw[B] at cl;clear t H;cases c8
   ·have a:BL ok l (p+1)=BL ok l p:=(by rw[BL,K];rfl);have d5:Hid (AA 83 2 EI w3 b.heap.size (.slice oa (BL ok l p).length oc) (BL ok l (p+1)).length (BL ok l (p+1))):=(by show AA _ _ _ _ _ _ _ _;rw[a];exact j);clear a j B K;go_wp2_with fail
    go_roundw
    case rel=>exact⟨p+1,by go_num,Y,d5.out,A⟩
    case measure=>simp[intOf];omega
   ·have a:BL ok l (p+1)=BL ok l p ++ [[(p:Int),y]]:=(by rw[BL,K,if_pos rfl,B]);obtain⟨c9,hS⟩:=AB (BL ok l p);rw[hS] at a j e6|-;have e4:c9.length<=1000000000000:=by omega
    have e2:Hid (∀u∈(#[.int .i64 (p:Int),.int .i64 y]:Array Value).toList,u.oneCell'=true):=fun u hu=>by
     rcases List.mem_cons.1 hu with rfl|hu
     ·rfl
     ·rw[List.mem_singleton.1 hu];rfl
    have d3:Hid (EI w3 [.int .i64 (p:Int),.int .i64 y] [(p:Int),y]):=rfl;replace a:=qH a;have e7:=A.size;clear hS B K;go_wp2_with (at_builtin;refine FH (x:=[(p:Int),y]) EE (by decide) (by decide) (EI.stab _) rfl _ _ rfl rfl j rfl rfl rfl e2.out d3.out e4 e7 ?_)
    intro v5 w5 b' e3 d' e8
    have d6:Hid (AA 83 2 EI w5 b.heap.size v5 (BL ok l (p+1)).length (BL ok l (p+1))):=by
     show AA _ _ _ _ _ _ _ _;rw[a.out,List.length_append];exact b'
    have e1:=A.trans d';clear b' j e3 e8;go_wp2_with fail
    go_roundw
    case rel=>exact⟨p+1,by go_num,Y,d6.out,e1⟩
    case measure=>simp[intOf];omega
  ·obtain rfl:p=l.length:=(by omega);have t:=qH O;clear O;go_wp2;go_ret;exact⟨_,rfl,t.out.base T.size,btt T z⟩
end Go.Proofs.YtcnedkkcgdkioaaGreat
namespace Go.Proofs.YtcnedkkcgdkioaaGreat
open Go.RowKit
theorem gQ (a b:Int):AU a b = -1\/AU a b=0\/AU a b=1:=by
 unfold AU;split
 ·exact .inl rfl
 ·split
  ·exact .inr (.inr rfl)
  ·exact .inr (.inl rfl)
theorem SD:∀a b:List Int,AH a b = -1\/AH a b=0\/AH a b=1
 | [],[]=>.inr (.inl rfl)
 | [],_::_=>.inl rfl
 | _::_,[]=>.inr (.inr rfl)
 | a::x,b::y=>by
  rw[AH];split
  ·exact SD x y
  ·exact gQ a b
theorem OM {α:Type}{c:α->α->Int}{x:α}:∀ {l:List α},(DA c x l).length=l.length+1
 | []=>rfl
 | y::l=>by
  rw[DA];split
  ·rfl
  ·rw[List.length_cons,OM,List.length_cons]
def rW (d:Bool) (s:Jb) (r:Jc):Jc:=if d=true then r else DA CY s r
structure EW (l:Jc) (s:Jb) (i:Nat) (d:Bool) (out:Jc):Prop where
 eq:out++rW d s (l.drop i)=DA CY s l
 out:s ∉ l.take i
theorem EW.len {l:Jc}{s:Jb}{i:Nat}{d:Bool}{out:Jc}(h:EW l s i d out):out.length<=l.length+1:=by
 have:=congrArg List.length h.eq
 rw[List.length_append,OM] at this;omega
theorem EW.zero (l:Jc) (s:Jb):EW l s 0 false []:=⟨rfl,by simp⟩
section
variable {l:Jc} {s:Jb} {i:Nat} {out:Jc} {x:Jb}
theorem aK (t:i < l.length) (a:l.getD i []=x) (o:s ∉ l.take i) (n:CY s x ≠ 0):s ∉ l.take (i+1):=by
 rw[BY t [],a,List.mem_append,List.mem_singleton];rintro(h|rfl)
 ·exact o h
 ·exact n (gX s)
theorem EW.more {d:Bool}(h:EW l s i d out) (t:i < l.length) (b:l.getD i []=x) (n:CY s x ≠ 0) (a:d=true\/¬CY s x < 0):EW l s (i+1) d (out ++ [x]):=by
 refine⟨?_,aK t b h.out n⟩;rw[<-h.eq,LR t (d:=[]),b,List.append_assoc];congr 1
 cases d
 ·have a:=a.resolve_left (by decide);show x::DA CY s (l.drop (i+1))=DA CY s (x::l.drop (i+1));rw[DA,if_neg a]
 ·rfl
theorem EW.put (h:EW l s i false out) (t:i < l.length) (a:l.getD i []=x) (n:CY s x < 0):EW l s (i+1) true (out ++ [s] ++ [x]):=by
 refine⟨?_,aK t a h.out (by omega)⟩;rw[<-h.eq,LR t (d:=[]),a,List.append_assoc,List.append_assoc];congr 1
 show s::x::l.drop (i+1)=DA CY s (x::l.drop (i+1));rw[DA,if_pos n]
theorem EW.endT (h:EW l s l.length true out):BK CY l s=out:=by
 have a:=h.eq;have b:=h.out;rw[List.drop_length] at a;rw[List.take_length] at b;unfold BK;rw[if_neg b,<-a];show out ++ []=out;rw[List.append_nil]
theorem EW.endF (h:EW l s l.length false out):BK CY l s=out ++ [s]:=by
 have a:=h.eq;have b:=h.out;rw[List.drop_length] at a;rw[List.take_length] at b;unfold BK;rw[if_neg b,<-a];rfl
end
def CF (P:Value->Jb->Prop) (_:World) (cs:List Value) (x:Jb):Prop:=∃u,cs = [u]/\P u x
theorem CF.stab (P:Value->Jb->Prop) (E:TypeId):CP E (CF P):=fun _ _ _ _ h _=>h
theorem AA.pcell {P:Value->Jb->Prop}{w:World}{B g n cap:Nat}{E:TypeId}{a:Jc}(h:AA E 1 (CF P) w B (.slice (some ⟨g,0,none⟩) n cap) n a) {j:Nat}(o:j < n):∃u,w.cell? ⟨g,j,none⟩=some u/\P u (a.getD j []):=by
 obtain⟨v,b,m,_,f⟩:=h;have p:v.length=n:=by have:=b.1;omega
 have c:=World.ownsRow.cellAt b j (by omega);rw[List.getElem?_eq_getElem (by omega)] at c;obtain⟨u,e,k⟩:=f j (a.getD j []) (by rw[AK (by omega)];exact List.getElem?_eq_getElem (by omega));rw[Nat.mul_one,List.drop_eq_getElem_cons (by omega)] at e;have d:v[j]=u:=by injection e
 exact⟨_,c,by rw[d];exact k⟩
theorem qS {P:Value->Jb->Prop}{w0 w:World}{u v:Value}{l:Jc}{s:Jb}(h:AA 38 1 (CF P) w 0 v l.length l) (a5:Below w0.heap.size w0 w) (a:∀u x,P u x->CO 2 w0 u x) (kp:P u s) (hv:VS s) (S:∀x∈l,VS x) (hl:l.length<=100000) :
  Calls Tryz.prog 145 #[v,u] w fun e w'=>∃v',e = .returned v'/\AA 38 1 (CF P) w' 0 v' (BK CY l s).length (BK CY l s)/\Below w.heap.size w w':=by
 have k:=a _ _ kp;obtain⟨sa,sc,L⟩:=k.shape;subst L;have kh:=qH k;have a3:Hid (∀W:World,CF P W [.slice sa s.length sc] s):=fun _=>⟨_,rfl,kp⟩;have a6:Hid (∀u∈(#[.slice sa s.length sc]:Array Value).toList,u.oneCell'=true):=fun u Q=>by rw[List.mem_singleton.1 Q];rfl
 obtain⟨va,vc,L⟩:=h.shape;subst L;have c0:=fun hn=>h.form hn;have hh:=qH h;have h0:AA 38 1 (CF P) w w.heap.size (.slice none 0 0) ([]:Jc).length []:=AA.nil _ _;have a4:=qH (EW.zero l s);replace S:=qH S;obtain⟨b3,R⟩:=AF (BK CY l s);rw[<-R];replace R:=qH R;have b8:=qH a;clear h k kp a;go_enter Tryz.func145, Tryz.ntmps145
 go_wp2_with fail
 go_loopw [5,6,7] (fun ov dv U wr=>∃(i:Nat) (d:Bool) (out:Jc),dv = .bool d/\U = .int .i64 i/\i<=l.length/\AA 38 1 (CF P) wr w.heap.size ov out.length out/\Hid (EW l s i d out)/\Below w.heap.size w wr) (fun _ _ U _=>l.length - (intOf U).toNat)
 case atStart=>exact⟨0,false,[],rfl,rfl,by omega,h0,a4,wB _ _⟩
 case round=>
  clear h0 a4;obtain⟨i,d,out,rfl,rfl,hi,b,a,r⟩:=hrel;obtain⟨oa,oc,c5⟩:=b.shape;subst c5;have e4:=a.out.len;have D:out.length<=1000000000000:=by omega
  have c2:out.length+1<=1000000000000:=by omega
  have c7:=r.size;by_cases t:i < l.length
  ·have d':(i:Int) < (l.length:Int):=(by omega);obtain⟨d8,d6,he,_⟩:=c0 (by omega);injection he with e1 e2 e3;subst e1 e3;clear e2;have a7:=hh.out.pcell t;obtain⟨x,c⟩:=AB (l.getD i []);rw[c] at a7;have c':=S.out x (by rw[<-c,AK t];exact wG t);obtain⟨ux,g,V⟩:=a7;have X:=b8.out _ _ V;have H:Hid (∀W:World,CF P W [ux] x):=fun _=>⟨_,rfl,V⟩;have b4:=qH g;replace g:=AC r g;obtain⟨xa,xc,M⟩:=X.shape;subst M;have T:Hid (∀u∈(#[.slice xa x.length xc]:Array Value).toList,u.oneCell'=true):=fun u Q=>by rw[List.mem_singleton.1 Q];rfl
   have HC:=qH (cC (kh.out.ks.keep (btt a5 r)) (X.ks.keep (btt a5 r)));have y:=fun(c4:CY s x ≠ 0) hd=>a.out.more t c c4 hd;obtain⟨C,f⟩:=AB (CY s x);have a2:BS s x=C:=f;rw[a2] at HC;rw[f] at y;have h3:C = -1\/C=0\/C=1:=(by rw[<-f];exact SD _ _);replace f:=qH f;replace y:=qH y;replace c:=qH c;replace b:=qH b;clear a2 X V;go_wp2_with fail
   refine HC.out.mono ?_;rintro e Y ⟨rfl,J⟩;have j:=btt r J;have N:=j.size;have I:=b.out.keep (CF.stab _ _) J;replace g:=AC J g;clear b;have e5:=c;rcases h3 with rfl|rfl|rfl
   ·cases d
    ·have m:Hid (EW l s (i+1) true (out ++ [s] ++ [x])):=a.out.put t c.out (by rw[f.out];decide);have G:=qH (a3.out Y);go_wp2_with (at_builtin;refine FH (x:=s) GR (by decide) (by decide) (CF.stab _ _) rfl _ _ rfl rfl I rfl rfl rfl a6.out G.out D N ?_)
     intro v4 Z z c1 K d0;have n:=j.trans K;have c8:=n.size;obtain⟨pa,pc,c6⟩:=z.shape;subst c6;have d7:=AC n b4.out;have E:=qH (H.out Z);clear g;go_wp2_with (at_builtin;refine FH (x:=x) GR (by decide) (by decide) (CF.stab _ _) rfl _ _ rfl rfl z rfl rfl rfl T.out E.out c2 c8 ?_)
     intro A B o a8 q a'
     have O:Hid (AA 38 1 (CF P) B w.heap.size A (out ++ [s] ++ [x]).length (out ++ [s] ++ [x])):=by
      show AA _ _ _ _ _ _ _ _;rw[show out ++ [s] ++ [x]=out ++ [s,x] by simp,List.length_append];exact o
     have p:=n.trans q;clear o;go_wp2_with fail
     go_roundw
     case rel=>exact⟨i+1,true,_,rfl,by go_num,t,O.out,m,p⟩
     case measure=>simp[intOf];omega
    ·have m:Hid (EW l s (i+1) true (out ++ [x])):=y.out (by decide) (.inl rfl);have E:=qH (H.out Y);go_wp2_with (at_builtin;refine FH (x:=x) GR (by decide) (by decide) (CF.stab _ _) rfl _ _ rfl rfl I rfl rfl rfl T.out E.out D N ?_)
     intro A B o a8 q a'
     have O:Hid (AA 38 1 (CF P) B w.heap.size A (out ++ [x]).length (out ++ [x])):=by
      show AA _ _ _ _ _ _ _ _;rw[List.length_append];exact o
     have p:=j.trans q;clear o;go_wp2_with fail
     go_roundw
     case rel=>exact⟨i+1,true,_,rfl,by go_num,t,O.out,m,p⟩
     case measure=>simp[intOf];omega
   ·have M:b3=l:=by
     have:=(gY hv c').1 f.out
     rw[R.out];unfold BK;rw[if_pos];rw[this,<-c.out,AK t];exact wG t
    subst M;have b7:=qH ((hh.out.keep (CF.stab _ _) j));go_wp2_with fail
    go_ret;exact⟨_,rfl,b7.out,j⟩
   ·have m:Hid (EW l s (i+1) d (out ++ [x])):=y.out (by decide) (.inr (by decide));have E:=qH (H.out Y);cases d
    all_goals
     go_wp2_with (at_builtin;refine FH (x:=x) GR (by decide) (by decide) (CF.stab _ _) rfl _ _ rfl rfl I rfl rfl rfl T.out E.out D N ?_)
     intro A B o a8 q a'
     have O:Hid (AA 38 1 (CF P) B w.heap.size A (out ++ [x]).length (out ++ [x])):=by
      show AA _ _ _ _ _ _ _ _;rw[List.length_append];exact o
     have p:=j.trans q;clear o;go_wp2_with fail
     go_roundw
     case rel=>exact⟨i+1,_,_,rfl,by go_num,t,O.out,m,p⟩
     case measure=>simp[intOf];omega
  ·obtain rfl:i=l.length:=(by omega);cases d
   ·have F:=R.out.trans a.out.endF;have G:=qH (a3.out wr);clear a R;subst F;go_wp2_with (at_builtin;refine FH (x:=s) GR (by decide) (by decide) (CF.stab _ _) rfl _ _ rfl rfl b rfl rfl rfl a6.out G.out D c7 ?_)
    intro v4 Z z c1 K d0
    have O:Hid (AA 38 1 (CF P) Z 0 v4 (out ++ [s]).length (out ++ [s])):=by
     show AA _ _ _ _ _ _ _ _;rw[List.length_append];exact z.base (Nat.zero_le _)
    have n:=r.trans K;clear z;go_wp2_with fail
    go_ret;exact⟨_,rfl,O.out,n⟩
   ·have F:=R.out.trans a.out.endT;clear a R;subst F;have O:=qH (b.base (Nat.zero_le _));clear b;go_wp2_with fail
    go_ret;exact⟨_,rfl,O.out,r⟩
end Go.Proofs.YtcnedkkcgdkioaaGreat
namespace Go.Proofs.YtcnedkkcgdkioaaGreat
open Go.RowKit
theorem bZ {l:Jc}{s:Jb}:(BK CY l s).length<=l.length+1:=by
 unfold BK;split
 ·omega
 ·rw[OM];omega
theorem pC {l:Jc}{s:Jb}(h:∀x∈l,VS x) (hs:VS s):∀x∈BK CY l s,VS x:=fun x a=>by
 rcases UF.1 a with rfl|a
 ·exact hs
 ·exact h x a
theorem nO {l out:Jc}{i:Nat}{s:Jb}(h:i < l.length) (hs:l.getD i []=s):GG l (l.drop i) out=GG l (l.drop (i+1)) (if 0 < s.length/\FE l s=false then BK CY out s else out):=by
 rw[LR h (d:=[]),hs,GG]
def JP (P:Value->Jb->Prop) (w:World) (v:Value) (l:Jc):Prop:=
 ∃a c b o,v = .slice a l.length c/\(0 < l.length->a=some ⟨b,o,none⟩)/\(∀j,j < l.length->∃u,w.cell? ⟨b,o+j,none⟩=some u/\P u (l.getD j []))/\l.length<=c
theorem JP.kss {P:Value->Jb->Prop}{w0 w:World}{v:Value}{l:Jc}(h:JP P w v l) (m:Below w0.heap.size w0 w) (k:∀u x,P u x->CO 2 w0 u x) (r:l.length<=1000000):EB 2 w v l:=by
 obtain⟨a,c,b,q,d,e,f,g⟩:=h;exact⟨a,c,b,q,d,e,fun j n=>let ⟨u,o,p⟩:=f j n;⟨u,o,(k _ _ p).keep m⟩,by omega,g⟩
theorem JP.ofOwX {P:Value->Jb->Prop}{w:World}{B n:Nat}{v:Value}{l:Jc}(h:AA 38 1 (CF P) w B v n l):JP P w v l:=by
 obtain rfl:=h.length;obtain⟨a,c,rfl⟩:=h.shape;have e:=(AA.capM h).1;rcases Nat.eq_zero_or_pos l.length with d|d
 ·exact⟨a,c,0,0,rfl,fun h=>absurd h (by omega),fun j b=>absurd b (by omega),e⟩
 ·obtain⟨g,p,f,_⟩:=h.form d;injection f with e1 e2 e3;subst e1 e3;exact⟨_,_,g,0,rfl,fun _=>rfl,fun j b=>by rw[Nat.zero_add];exact h.pcell b,e⟩
theorem qI {P:Value->Jb->Prop}{w:World}{v:Value}{l:Jc}(Y:JP P w v l) (F:∀u x,P u x->CO 2 w u x) (hv:∀s∈l,VS s) (hl:l.length<=10000) :
  Calls Tryz.prog 85 #[v] w fun e w'=>∃a c,e = .returned (.agg #[.slice a (BC l).length c])/\AA 38 1 (CF P) w' 0 (.slice a (BC l).length c) (BC l).length (BC l)/\Below w.heap.size w w':=by
 have h:=Y.kss (wB _ _) F (by omega);obtain⟨b,d⟩:=AF (w.alloc (.cells #[.slice none 0 0] 57));have b2:Below w.heap.size w b:=by rw[d];exact(wB _ w).alloc (wC _) _
 have kR:b.heap[w.heap.size]? = some (.cells #[.slice none 0 0] 57):=by rw[d];exact wE _ _
 have a1:b.heap.size=w.heap.size+1:=by rw[d];simp
 have HV:=qH (fun W s u (H:Below w.heap.size w W) (b':KS 2 W u s)=>pO (h.kss.keep H) b');obtain⟨a,c,c3,c9,rfl,ha,Z,-⟩:=Y;have X:=qH F;have b5:=qH (fun i (hi:i < l.length)=>Z i hi);have b8:=qH hv;have b6:=qH kR;have Q:AA 38 1 (CF P) b 0 (.slice none 0 0) ([]:Jc).length []:=AA.nil _ _;obtain⟨R,G⟩:=AF (BC l);rw[<-G];have T:Hid (R=GG l (l.drop 0) []):=G;replace a1:=qH a1;clear Z hv kR G h F;go_enter Tryz.func85, Tryz.ntmps85
 go_wp2_with fail
 rw[<-d];replace d:=qH d;go_loopw [3,4] (fun ov L wr=>∃(i:Nat) (out:Jc),L = .int .i64 i/\i<=l.length/\AA 38 1 (CF P) wr 0 ov out.length out/\Hid (R=GG l (l.drop i) out)/\Hid (out.length<=i/\∀x∈out,VS x)/\Below b.heap.size b wr) (fun _ L _=>l.length - (intOf L).toNat)
 case atStart=>exact⟨0,[],rfl,by omega,Q,T,⟨by simp,by simp⟩,wB _ _⟩
 case round=>
  clear Q T;obtain⟨i,out,rfl,hi,O,q,g,r⟩:=hrel;have m:=btt b2 r;by_cases t:i < l.length
  ·have c6:(i:Int) < (l.length:Int):=(by omega);obtain rfl:=ha (by omega);obtain⟨u,j,z⟩:=b5.out i t;have c8:=qH j;replace j:=AC m j;obtain⟨s,K⟩:=AB (l.getD i []);have A:=b8.out (l.getD i []) (by rw[AK t];exact wG t);rw[K] at z A;have I:=X.out _ _ z;have U:=nO (out:=out) t K;obtain⟨ua,uc,b7⟩:=I.shape;subst b7;have V:=qH (HV.out wr s _ m (I.ks.keep m));have HP:=qH (fun W (H:Below w.heap.size w W) (v':Value) (h':AA 38 1 (CF P) W 0 v' out.length out)=>qS h' H X.out z A g.out.2 (by have:=g.out.1;omega));have y:=qH (q.out.trans U);have b9:=qH A;have E:=qH O;obtain⟨C,D,J⟩:=O.shape;clear q U K I z A O;subst J;rcases Nat.eq_zero_or_pos s.length with B|B
   ·have M:Hid (R=GG l (l.drop (i+1)) out):=(by have:=y.out;rw[if_neg (by omega)] at this;exact this);have n:Hid (out.length<=i+1/\∀x∈out,VS x):=⟨by have:=g.out.1;omega,g.out.2⟩;rw[B] at j;go_wp2_with fail
    go_roundw
    case rel=>exact⟨i+1,out,by go_num,t,E.out,M,n,r⟩
    case measure=>simp[intOf];omega
   ·have hd:decide (0 < s.length)=true:=vZ B;obtain⟨a4,S⟩:=AB (FE l s);rw[S] at V y;clear S;go_wp2_with fail
    refine V.out.mono ?_;rintro e w3 ⟨rfl,f⟩;have b1:=btt m f;replace j:=AC f j;cases a4
    ·have M:Hid (R=GG l (l.drop (i+1)) (BK CY out s)):=(by have:=y.out;rw[if_pos ⟨B,rfl⟩] at this;exact this);have n:Hid ((BK CY out s).length<=i+1/\∀x∈BK CY out s,VS x):=⟨by have:=g.out.1;have:=bZ (l:=out) (s:=s);omega,pC g.out.2 b9.out⟩;have a6:=qH (HP.out w3 b1 _ (E.out.keep (CF.stab _ _) f));go_wp2_with fail
     refine a6.out.mono ?_;rintro e w4 ⟨v4,rfl,a',b3⟩;go_wp2_with fail
     go_roundw
     case rel=>exact⟨i+1,_,by go_num,t,a',M,n,btt r (btt f b3)⟩
     case measure=>simp[intOf];omega
    ·have M:Hid (R=GG l (l.drop (i+1)) out):=(by have:=y.out;rw[if_neg (by simp)] at this;exact this);have n:Hid (out.length<=i+1/\∀x∈out,VS x):=⟨by have:=g.out.1;omega,g.out.2⟩;have k:=qH (E.out.keep (CF.stab _ _) f);go_wp2_with fail
     go_roundw
     case rel=>exact⟨i+1,out,by go_num,t,k.out,M,n,btt r f⟩
     case measure=>simp[intOf];omega
  ·obtain rfl:i=l.length:=(by omega);have hE:R=out:=(by have:=q.out;rw[List.drop_length] at this;exact this);clear q;subst hE;obtain⟨C,D,J⟩:=O.shape;subst J;have o:=AN r b6.out;have z3:=wJ o;have fz:=BG o;have k:=O.other (CF.stab _ _) (E':=57) (by decide) (AE.setCell (p:=⟨w.heap.size,0,none⟩) o (.slice C R.length D));have N:=heap_setCell_same wr w.heap.size 0 _ _ (.slice C R.length D) o;have b4:=m.setCell (p:=⟨w.heap.size,0,none⟩) (wC _) (.slice C R.length D);replace N:=qH N;replace k:=qH k;clear O o;go_wp2_with fail
   exact⟨rfl,_,cQ rfl _ _ _ rfl N.out,_,_,rfl,k.out,b4⟩
end Go.Proofs.YtcnedkkcgdkioaaGreat

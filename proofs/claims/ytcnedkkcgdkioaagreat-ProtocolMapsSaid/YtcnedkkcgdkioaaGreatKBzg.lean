/- Texts of this claim, put together: MC ME. -/
import Derived.Test.YtcnedkkcgdkioaaGreatKBzf

set_option maxRecDepth 100000
set_option maxHeartbeats 12800000
namespace Go.Proofs.YtcnedkkcgdkioaaGreat
open Go.RowKit
theorem rY {fn:Func}(h:fn.results = #[.cell 2 35]) (tmps:Array Value) (w:World) (g:Nat) {u0 u1 u2 u3 u4 u5 u6 u7 u8 u9:Value}(p:tmps.getD 2 undef = .pointer (some ⟨g,0,none⟩)) (c:w.heap[g]? = some (.cells #[u0,u1,u2,u3,u4,u5,u6,u7,u8,u9] 35)) :
  (results fn tmps).run Tryz.prog w = .ok (.agg #[u0,u1,u2,u3,u4,u5,u6,u7,u8,u9]) w:=by
 have a:tmps[2]?.getD undef = .pointer (some ⟨g,0,none⟩):=by simpa using p
 obtain⟨⟨d,e,f,i,j,k,l⟩,m,n,o⟩:=AW c;have b:=Tryz.isAgg35;have s:=Tryz.sizeOf35;simp only[results,h];simp[Sem.run_bind,Result.andThen,a,asAddr,loadVar]
 go_simp
theorem pH {w:World}{n i o an r:Int}{cs:List Cs}{ss:Jc}{N K:Nat}{a C:Option Addr}{c D:Nat}(h:ED w (.agg #[.int .i64 n,.int .i64 i,.int .i64 o,.slice a cs.length c,.int .i64 an,.slice C ss.length D,.int .i64 r]) n i o cs an ss r) (hN:n=(N:Int)) (hr:r=(K:Int)) (hf:FV ss=true) (_G1:GS cs=true) (hc:DJ n i o cs an ss r=0) (hn:numP cs ss K<=60) :
  Calls Tryz.prog 124 #[.agg #[.int .i64 n,.int .i64 i,.int .i64 o,.slice a cs.length c,.int .i64 an,.slice C ss.length D,.int .i64 r]] w fun e w'=>∃va vc xa xc,e = .returned (.agg #[.int .i64 n,.int .i64 i,.int .i64 o,.slice a cs.length c,.int .i64 an,.slice C ss.length D,.int .i64 r,.int .i64 n,.slice va (CR N cs (wL ss K 0)).1.length vc,.slice xa (CR N cs (wL ss K 0)).2.length xc])/\
   AA 114 8 EI w' 0 (.slice va (CR N cs (wL ss K 0)).1.length vc) (CR N cs (wL ss K 0)).1.length (CR N cs (wL ss K 0)).1/\AA 80 3 CL w' 0 (.slice xa (CR N cs (wL ss K 0)).2.length xc) (CR N cs (wL ss K 0)).2.length (CR N cs (wL ss K 0)).2/\Below w.heap.size w w':=by
 have M7 : Tryz.prog.follows .mixedOrders=true:=by kernel_rfl
 subst hN hr;have F':=hc;obtain⟨c1,U,c3,c4,c5⟩:=LQ hc;obtain⟨p8,O3⟩:=MR c1;obtain⟨⟨J1,J2⟩,n4⟩:=MF c1;obtain⟨za,zc,R2,R4,B7,hT,hA⟩:=h;have B8:=congrArg (fun f9:Value=>match f9 with | .agg a=>a.toList|_=>[]) B7;simp only[List.cons.injEq,Value.slice.injEq,and_true,true_and] at B8;obtain⟨⟨rfl,rfl⟩,rfl,rfl⟩:=B8;clear B7;have O:=(JU hA hf U).wd;obtain⟨D3,D4,s3⟩:=OB (ES.ofWd O) O.2.2.1 p8 hn;have o8:=MI ss K 0;have A9:1<=(wL ss K 0).length:=by rw[o8];exact SI O K 0 O.2.2.1
 have t8:cs.length * (wL ss K 0).length<=60:=by rw[o8];exact s3
 have I0:(wL ss K 0).length<=60:=by have:=Nat.mul_le_mul_right (wL ss K 0).length p8;omega
 have hF:=qH (fun W (y:Below w.heap.size w W)=>pX (ES.ofWd O) K (by omega) (hA.keep y) O.2.2.1 (by omega));have t1:=hA.len8;have o7:=qH (LF ss K 0);have B0:=qH (RI t1 U K 0);have B3:=qH (eJ U K 0);obtain⟨s,B4⟩:=AB (wL ss K 0);rw[B4] at hF o7 B0 B3 A9 t8 I0|-;obtain⟨sv,f1,v8⟩:=hT;injection f1 with f1
 have f1:Value.slice a cs.length c=sv:=by
  have:=congrArg (fun a:Array Value=>a.toList) f1
  simpa using this
 subst f1
 obtain⟨G,Y,rfl,h8⟩:∃g' j3,a=some ⟨g',j3,none⟩/\KH w g' j3 cs:=by
  obtain⟨a2,U,g',j3,h1,h2,E4,_⟩:=v8;injection h1 with l2 _ _;exact⟨g',j3,l2.trans (h2 p8),E4⟩
 have G0:G < w.heap.size:=by
  obtain⟨_,_,_,h1,_⟩:=h8 0 (by omega);exact World.block_lt_of_cell? _ _ h1
 replace h8:=qH h8;replace n4:=qH n4;have N2:ss.length<=100000:=by have:=O.1;omega
 have L7:K<=6:=by omega
 have n8:N<=5:=by omega
 have M8:1<=N:=by omega
 have F5:=qH (c3.symm:an=(N:Int));clear O hn hc F' c1 U c3 c4 c5 D3 D4 s3 o8 t1 B4 v8 hA hf _G1 J1 J2;obtain⟨PC,c7⟩:∃PC:Array Value,PC = #[.int .i64 (N:Int),.int .i64 i,.int .i64 o,.slice (some ⟨G,Y,none⟩) cs.length c,.int .i64 an,.slice C ss.length D,.int .i64 (K:Int)]:=⟨_,rfl⟩;obtain⟨S,E⟩:∃S:Value->Value->Array Value,S=fun f8 J=>#[.int .i64 (N:Int),.int .i64 i,.int .i64 o,.slice (some ⟨G,Y,none⟩) cs.length c,.int .i64 an,.slice C ss.length D,.int .i64 (K:Int),.int .i64 (N:Int),f8,J]:=⟨_,rfl⟩;have F0:Hid (∀f8 J f9,(S f8 J).setIfInBounds 9 f9=S f8 f9):=fun f8 J f9=>by rw[E];rfl
 obtain⟨W0,a6⟩:=AF ((w.alloc (.cells #[.int .i64 (N:Int),.int .i64 i,.int .i64 o,.slice (some ⟨G,Y,none⟩) cs.length c,.int .i64 an,.slice C ss.length D,.int .i64 (K:Int)] 29)).alloc (.cells #[.int .i64 0,.int .i64 0,.int .i64 0,.slice none 0 0,.int .i64 0,.slice none 0 0,.int .i64 0,.int .i64 0,.slice none 0 0,.slice none 0 0] 35));have H6:W0.heap.size=w.heap.size+1+1:=by rw[a6];simp
 have x4:Below w.heap.size w W0:=by rw[a6];exact((wB _ w).alloc (wC _) _).alloc (by simp) _
 have kP:W0.heap[w.heap.size]? = some (.cells #[.int .i64 (N:Int),.int .i64 i,.int .i64 o,.slice (some ⟨G,Y,none⟩) cs.length c,.int .i64 an,.slice C ss.length D,.int .i64 (K:Int)] 29):=by
  rw[a6];exact(Below.heap_alloc _ _ _ (by simp)).trans (wE w _)
 have kZ:W0.heap[w.heap.size+1]? = some (.cells #[.int .i64 0,.int .i64 0,.int .i64 0,.slice none 0 0,.int .i64 0,.slice none 0 0,.int .i64 0,.int .i64 0,.slice none 0 0,.slice none 0 0] 35):=by
  rw[a6];have:=wE (w.alloc (.cells #[.int .i64 (N:Int),.int .i64 i,.int .i64 o,.slice (some ⟨G,Y,none⟩) cs.length c,.int .i64 an,.slice C ss.length D,.int .i64 (K:Int)] 29)) (.cells #[.int .i64 0,.int .i64 0,.int .i64 0,.slice none 0 0,.int .i64 0,.slice none 0 0,.int .i64 0,.int .i64 0,.slice none 0 0,.slice none 0 0] 35)
  rwa [World.size_alloc] at this
 obtain⟨W1,d'⟩:=AF (W0.alloc (.cells #[.int .i64 (N:Int),.int .i64 i,.int .i64 o,.slice (some ⟨G,Y,none⟩) cs.length c,.int .i64 an,.slice C ss.length D,.int .i64 (K:Int),.int .i64 (N:Int),.slice none 0 0,.slice none 0 0] 35));have e4:Below W0.heap.size W0 W1:=by rw[d'];exact(wB _ _).alloc (wC _) _
 have kS:W1.heap[w.heap.size+1+1]? = some (.cells (S (.slice none ([]:Jb).length 0) (.slice none ([]:List Ex).length 0)) 35):=by rw[d',E,<-H6];exact wE _ _
 have m5:=btt x4 e4
 have h3:∀(wv:Value) (W:World),Below W1.heap.size W1 W->AA 77 1 BW W W1.heap.size wv s.length s->KG w S PC wv s [] [] W:=fun wv W y O=>
  ⟨btt m5 y,by rw[c7];exact AN (btt e4 y) kP,AN (btt e4 y) kZ,⟨none,0,none,0,AN y kS,AA.nil _ _,AA.nil _ _⟩,O.base (Nat.zero_le _)⟩
 replace h3:=qH h3;obtain⟨Z,g1,g2,g3,g4,g5,g6⟩:=box7' kP;obtain⟨p0,p1,J6,J7,J8,J9,J'⟩:=keep7 e4 (box7' kP);rw[a6] at Z g1 g2 g3 g4 g5 g6;replace c7:=qH c7;replace E:=qH E;clear kP kZ kS x4 e4;obtain⟨P1,l9⟩:=AB ((CR N cs s).1);obtain⟨P2,l'⟩:=AB ((CR N cs s).2);have v6:Hid (P1=(BB N [] (CV cs s cs.length 0)).1):=by show _=_;rw[bR,<-l9];rfl
 have v7:Hid (P2=(BB N [] (CV cs s cs.length 0)).2):=by show _=_;rw[bR,<-l'];rfl
 rw[l9,l'];clear l9 l';go_enter Tryz.func124, Tryz.ntmps124
 go_upto_region 2 with fail
 rw[<-a6,<-d'];replace a6:=qH a6;replace d':=qH d';clear Z g1 g2 g3 g4 g5 g6;go_wp2_with fail
 refine(hF.out W1 m5).mono ?_;rintro e w3 ⟨d3,rfl,hu,x6⟩;clear p0 p1 J6 J7 J8 J9 J';obtain⟨wg,wc,rfl,-⟩:=hu.form A9;have t3:=qH (h3.out _ _ x6 hu);clear hu x6 h3 m5 hF;go_wp2_with fail
 go_loopw [5] (fun iv wr=>∃m:Nat,iv = .int .i64 (m:Int)/\m<=cs.length/\Hid (KG w S PC (.slice (some ⟨wg,0,none⟩) s.length wc) s (BB N [] (CV cs s m 0)).1 (BB N [] (CV cs s m 0)).2 wr)) (fun iv _=>cs.length - (intOf iv).toNat)
 case atStart=>exact⟨0,rfl,by omega,t3⟩
 case round=>
  clear t3;obtain⟨m,rfl,M0,B⟩:=hrel;obtain⟨Z,g1,g2,g3,g4,g5,g6⟩:=box7' (by have:=B.out.kP;rw[c7.out] at this;exact this);by_cases i0:m < cs.length
  ·have M1:(m:Int) < (cs.length:Int):=(by omega);obtain⟨I7,I6⟩:=n4.out m i0;obtain⟨u0,u1,u2,l1,-,-,B9,-,-⟩:=h8.out m i0;obtain⟨l,i7⟩:=AB ((cs.getD m BE).1);rw[i7] at B9 I7 I6;obtain⟨ia,ic,ib,io,hs,G3,h9,-⟩:=B9;subst hs;obtain rfl:=G3 (by omega);have G5:l.length ≠ 0->ib < w.heap.size:=fun h=>World.block_lt_of_cell? _ _ (h9 0 (by omega));replace h9:=qH h9;replace l1:=qH l1;replace i7:=qH i7;have t2:=B;go_wp2_with fail
   clear Z g1 g2 g3 g4 g5 g6;go_loopw [6] (fun jv wr=>∃t:Nat,jv = .int .i64 (t:Int)/\t<=s.length/\Hid (KG w S PC (.slice (some ⟨wg,0,none⟩) s.length wc) s (BB N [] (CV cs s m t)).1 (BB N [] (CV cs s m t)).2 wr)) (fun jv _=>s.length - (intOf jv).toNat)
   case atStart=>exact⟨0,rfl,by omega,t2⟩
   case round=>
    clear t2 B;obtain⟨t,rfl,hj,B⟩:=hrel;by_cases c':t < s.length
    ·have G7:(t:Int) < (s.length:Int):=(by omega);obtain⟨d,f2⟩:=AB (s.getD t []);obtain⟨uw,cw,i5⟩:=BW.cell B.out.kW c';rw[f2] at i5;obtain⟨wa,d5,hs⟩:=i5.shape;subst hs;have i4:d∈s:=(by rw[<-f2,AK c'];exact wG c');have B2:Hid (d.length=K):=o7.out d i4;have I2:=qH (fun r g=>VC (B0.out d i4) r g);have I5:=qH (B3.out d i4);have i2:BB N [] (CV cs s m (t+1))=((AQ N l d (BB N [] (CV cs s m t)).1 d.length).1,(BB N [] (CV cs s m t)).2 ++ [((m:Int),d,(AQ N l d (BB N [] (CV cs s m t)).1 d.length).2)]):=(by rw[oS c',i7.out,f2,SU]);have o5:=NB N (K:=K) (CV cs s m t) [] (fun Q5 hy=>Nat.le_of_eq (o7.out _ (oQ hy)));have e7:=oO (M:=60) i0 hj t8;have E7:N * (K+1)<=5 * 7:=Nat.mul_le_mul n8 (by omega);have H':(CV cs s m t).length * (N * (K+1))<=60 * (5 * 7):=Nat.mul_le_mul e7 E7;have B5:=NC N (CV cs s m t) [];obtain⟨v,o6⟩:=AB ((BB N [] (CV cs s m t)).1);obtain⟨L,o'⟩:=AB ((BB N [] (CV cs s m t)).2);rw[o6,o'] at i2 B;rw[o6] at o5;rw[o'] at B5;have N6:v.length<=2100:=(by simp only[List.length_nil] at o5;omega);have N7:L.length<=60:=(by omega);replace i2:=qH i2;have I3:=qH f2;clear o6 o' o5 e7 H' B5 f2 i4;obtain⟨T,F4⟩:=AF (wr);subst F4;obtain⟨va,vc,xa,xc,i',v9,w5⟩:=B.out.kS;have o4:w.heap.size+1+1 < T.heap.size:=(wD.1 i').1;obtain⟨WX,e3⟩:=AF (T.alloc (.cells #[.int .i64 (m:Int),.slice wa d.length d5,.slice none 0 0] 80));have e5:Below T.heap.size T WX:=(by rw[e3];exact(wB _ _).alloc (wC _) _);have t6:Hid (HY w T S (.slice xa L.length xc) (m:Int) (.slice wa d.length d5) (DV N l d v 0).1 (DV N l d v 0).2 WX):=⟨btt B.out.bel e5,ER.below e5,⟨va,vc,AN e5 i',v9.keep (EI.stab _) e5⟩,none,0,by rw[e3];exact wE _ _,AA.nil _ _⟩;have E':=qH B.out.kP;have I1:=qH i5;have p4:=qH i';have w6:=qH w5;have t4:=B;clear i' w5 v9 e5 i5;go_wp2_with fail
     rw[<-e3];replace e3:=qH e3;clear cw B;go_loopw [8] (fun kv wr=>∃b:Nat,kv = .int .i64 (b:Int)/\b<=K+1/\Hid (HY w T S (.slice xa L.length xc) (m:Int) (.slice wa d.length d5) (DV N l d v b).1 (DV N l d v b).2 wr)) (fun kv _=>K+1 - (intOf kv).toNat)
     case atStart=>exact⟨0,rfl,by omega,t6⟩
     case round=>
      clear t6;obtain⟨b,rfl,hk,A⟩:=hrel;have i9:=A.out.kp.obj (k:=w.heap.size) (by omega) E'.out;have E9:=qH i9;rw[c7.out] at i9;obtain⟨Z,g1,g2,g3,g4,g5,g6⟩:=box7' i9;clear i9;by_cases M4:b<=K
      ·have M3:(b:Int)<=(K:Int):=(by omega);obtain⟨W3,F2⟩:=AF (wr);subst F2;have i3:=oE N l d v b;have e7:=oC N l d v b;have E8:N * b<=5 * 6:=Nat.mul_le_mul n8 (by omega);obtain⟨z,A8⟩:=AB ((DV N l d v b).1);rw[A8] at i3 e7 A;have N5:z.length<=2200:=(by omega);have v1:Hid (FR w W3 S (.slice xa L.length xc) (AS (CQ N l d v b) z 0).1 (AS (CQ N l d v b) z 0).2 (.slice none 0 0) W3):=FR.start A.out;replace i3:=qH i3;clear A8 e7 E8;go_wp2_with fail
       clear Z g1 g2 g3 g4 g5 g6;go_loopw [9,10] (fun lv qv wr=>∃g:Nat,qv = .int .i64 (g:Int)/\g<=N/\Hid (FR w W3 S (.slice xa L.length xc) (AS (CQ N l d v b) z g).1 (AS (CQ N l d v b) z g).2 lv wr)) (fun _ qv _=>N - (intOf qv).toNat)
       case atStart=>exact⟨0,rfl,by omega,v1⟩
       case round=>
        clear v1;obtain⟨g,rfl,hq,Q⟩:=hrel;have p3:=Q.out.kp.obj (k:=w.heap.size) (by omega) E9.out;rw[c7.out] at p3;obtain⟨Z,g1,g2,g3,g4,g5,g6⟩:=box7' p3;clear p3;by_cases A3:g < N
        ·have N0:(g:Int) < (N:Int):=(by omega);have N1:(g:Int) < (l.length:Int):=(by omega);have G4:=G5 (by omega);have D2:=(Q.out.bel.cell (p:=⟨G,Y+m * 3,none⟩) G0).trans l1.out;have cx:=(Q.out.bel.cell (p:=⟨ib,io+g,none⟩) G4).trans (h9.out g (by omega));obtain⟨J,hx⟩:=AB (l.getD g 0);rw[hx] at cx;have o1:=sL N l d v b g;have e9:b=0->CQ N l d v b g=KA (g:Int) J:=fun e=>by unfold CQ;rw[if_pos e,hx]
         have i1:∀u,b=u+1->CQ N l d v b g=FY (d.getD u []) b g ((DV N l d v b).2.getD u []):=fun u e=>by unfold CQ;rw[if_neg (by omega),show b - 1=u by omega]
         have a7:AS (CQ N l d v b) z (g+1)=(BO (AS (CQ N l d v b) z g).1 (CQ N l d v b g),(AS (CQ N l d v b) z g).2 ++ [(ixOf (BO (AS (CQ N l d v b) z g).1 (CQ N l d v b g)) (CQ N l d v b g):Int)]):=rfl;have w1:=NE (f:=CQ N l d v b) (vs:=z) g;have t7:=HJ (f:=CQ N l d v b) (vs:=z) g;obtain⟨R0,F⟩:=AB (CQ N l d v b g);rw[F] at o1 e9 a7;simp only[F] at i1;obtain⟨k6,hV⟩:=AB ((AS (CQ N l d v b) z g).1);obtain⟨g9,hL⟩:=AB ((AS (CQ N l d v b) z g).2);rw[hV,hL] at a7 Q;rw[hV] at w1;rw[hL] at t7;obtain⟨z0,z1,z2,z3,z4,z5,z6,z7,rfl⟩:=CT o1;obtain⟨y0,y1,y2,y3,y4,y5,y6,y7,hy⟩:=CT (x:=KA (g:Int) J) rfl;have k5:=pW wr (g:Int) J;rw[hy] at k5 e9;have q':Hid (Calls Tryz.prog 186 #[.int .i64 (g:Int),.int .i64 J] wr fun e w'=>e = .returned (.agg #[.int .i64 y0,.int .i64 y1,.int .i64 y2,.int .i64 y3,.int .i64 y4,.int .i64 y5,.int .i64 y6,.int .i64 y7])/\Below wr.heap.size wr w'):=k5;have L9:k6.length<=2300:=(by omega);have L8:g9.length<=5:=(by omega);obtain⟨la,lc,n6⟩:=Q.out.kL.shape;subst n6;have N4:W3.heap.size<=wr.heap.size:=Q.out.kp.1;have H9:w.heap.size<=W3.heap.size:=(by have:=A.out.kp.1;omega);replace a7:=qH a7;replace e9:=qH e9;replace i1:=qH i1;clear k5 hy hx F hV hL o1 w1 t7;go_wp2_with fail
         refine q'.out.mono ?_;rintro e w4 ⟨rfl,m6⟩;clear Z g1 g2 g3 g4 g5 g6 D2 cx q';have N3:=m6.size;obtain⟨W5,e0⟩:=AF (w4.alloc (.cells #[.int .i64 y0,.int .i64 y1,.int .i64 y2,.int .i64 y3,.int .i64 y4,.int .i64 y5,.int .i64 y6,.int .i64 y7] 114));have x7:Below w4.heap.size w4 W5:=(by rw[e0];exact(wB _ _).alloc (wC _) _);have p2:W5.heap[w4.heap.size]? = some (.cells #[.int .i64 y0,.int .i64 y1,.int .i64 y2,.int .i64 y3,.int .i64 y4,.int .i64 y5,.int .i64 y6,.int .i64 y7] 114):=(by rw[e0];exact wE _ _);have H:=btt m6 x7;go_upto_if 71 with fail
         rw[<-e0];replace e0:=qH e0;clear x7 m6;by_cases n5:b=0
         case' pos=>
          have e:=e9.out n5;simp only[List.cons.injEq,and_true] at e;obtain⟨rfl,rfl,rfl,rfl,rfl,rfl,rfl,rfl⟩:=e;have d1:decide ((0:Int) < (b:Int))=false:=vY (by omega);have d2:decide (0 < b)=false:=vY (by omega);have t0 : ¬0 < b:=(by omega);clear n5;obtain⟨WV,e2⟩:=AF (W5);subst e2;have x':=H;have kV:=p2;go_upto_region 20 with fail
         case' neg=>
          obtain⟨u,z8⟩:∃u,b=u+1:=⟨b - 1,by omega⟩;have I4:=B2.out;have F:=i1.out u z8;have H1:IntKind.i64.wrap ((b:Int) - 1)=(u:Int):=(by rw[show(b:Int) - 1=(u:Int) by omega];exact IntWalk.i64_in _ (by omega));have d1:decide ((0:Int) < (b:Int))=true:=vZ (by omega);have G8:(0:Int)<=(u:Int):=Int.natCast_nonneg _;have d2:decide (0 < b)=true:=vZ (by omega);have t0:0 < b:=(by omega);clear n5;have v2:=Q.out.keep H;have l4:=A.out.row v2 o4;have A0:=t4.out.mid p4.out w6.out l4;obtain⟨O8,s5,i6⟩:=BW.cell A0.2.2.2 c';have B1:s.getD t []=d:=I3.out;rw[B1] at i6;obtain⟨P4,P5,e'⟩:=i6.shape;subst e';obtain⟨ka,kc,kb,ko,G9,z9,z',-⟩:=i6.ks (by omega);injection G9 with ke1 ke2 ke3;obtain rfl:=ke1.trans (z9 (by omega));obtain⟨p9,cm⟩:=z' u (by omega);have A4:d.getD u []∈d:=(by rw[AK (by omega)];exact wG _);have n':=I5.out _ A4;have m8:=fun J3=>I2.out u J3;obtain⟨rd,e8⟩:=AB (d.getD u []);rw[e8] at p9 cm n' F;simp only[e8] at m8;obtain⟨K0,r1,r2,r3,r4,r5,K1,rfl⟩:=LD p9;obtain⟨c0,c1,U,c3,c4,c5,c6⟩:=cm.all7;have H5:K0=(N:Int):=(by rw[<-F5.out];exact n');subst H5;have h7:=m8 (1+g);obtain⟨ya,yc,f5,m4⟩:=l4.kX;have H3:=bK N l d v b;have n9:=oD N l d v (k:=b) (j:=u) (by omega);obtain⟨k9,y8⟩:=AB ((DV N l d v b).2.getD u []);obtain⟨yg,Q9,I9,-⟩:=m4.form (by omega);injection I9 with ye1 ye2 ye3;subst ye1 ye3;obtain⟨ur,cr,o0⟩:=BD.cell m4 (j:=u) (by omega);rw[y8] at o0 n9 F;obtain⟨-,-,cX⟩:=boxL3 f5;obtain⟨A7,n2⟩:=AB ([r1,r2,r3,r4,r5].getD g 0)
          have n1:([(N:Int),r1,r2,r3,r4,r5,K1]:List Int).getD (1+g) 0=A7:=by
           rw[<-n2,Nat.add_comm];rcases(show g=0\/g=1\/g=2\/g=3\/g=4 by omega) with rfl|rfl|rfl|rfl|rfl<;>rfl
          have B6:EG ([(g:Int),(b:Int),0]++IL A7 k9) = .agg #[.int .i64 z0,.int .i64 z1,.int .i64 z2,.int .i64 z3,.int .i64 z4,.int .i64 z5,.int .i64 z6,.int .i64 z7]:=by
           unfold FY at F;rw[n1] at F;rw[<-F];rfl
          have A5:k9.length=N:=n9;have A6:=o0.intsE (by omega);rw[n1] at h7
          have r6:Hid (∀W,Below W5.heap.size W5 W->Calls Tryz.prog 187 #[.agg #[.int .i64 (N:Int),.int .i64 r1,.int .i64 r2,.int .i64 r3,.int .i64 r4,.int .i64 r5],.int .i64 (b:Int),.int .i64 (g:Int),ur] W fun e w'=>e = .returned (.agg #[.int .i64 z0,.int .i64 z1,.int .i64 z2,.int .i64 z3,.int .i64 z4,.int .i64 z5,.int .i64 z6,.int .i64 z7])/\Below W.heap.size W w'):=fun W y=>by
           have:=rB (w:=W) (p:=g) (N:=N) (r:=(b:Int)) (bf:=k9) (by omega) n8 A5 (A6.keep y) n2 h7.1 h7.2
           rw[B6] at this;exact this
          have HX:=qH (fun W (y:Below W5.heap.size W5 W)=>And.intro (And.intro (AC y s5) (And.intro (AC y c0) (And.intro (AC y c1) (And.intro (AC y U) (And.intro (AC y c3) (AC y c4)))))) (And.intro (AC y c5) (And.intro (AC y cX) (AC y cr))));have G':(u:Int) < (d.length:Int):=(by omega);have H0:(u:Int) < ((DV N l d v b).2.length:Int):=(by omega);have M6:u < (DV N l d v b).2.length:=(by omega);have M5:u < d.length:=(by omega);replace e8:=qH e8;clear I4 s5 i6 z' p9 cm n' m8 c0 c1 U c3 c4 c5 c6 f5 m4 y8 cr o0 cX n2 n1 B6 A6 F H3 n9 B1 A0 l4 v2 z8 A4 z9 A5 ke1 ke2 ke3 h7 ye2 e8;go_upto_region 19 with fail
          refine rI (j:=t) (k:=b) (k':=u) (q:=g) (bx:=T.heap.size) p2 (fun W y=>HX.out W y) (fun W y=>r6.out W y) H1 G7 G' H0 G8 ?_;rintro Q6 W7 ⟨-,G2⟩ -;obtain⟨P3,x8,w2⟩:=G2 rfl;rw[w2];have C2:=AN x8 p2;clear HX r6 w2 G2;refine tY (u0:=.int .i64 z0) (u1:=.int .i64 z1) (u2:=.int .i64 z2) (u3:=.int .i64 z3) (u4:=.int .i64 z4) (u5:=.int .i64 z5) (u6:=.int .i64 z6) (u7:=.int .i64 z7) C2 ?_;intro WV e2 F9 L' kV D6 l2 D7 D8 D9 D' E0 E1;rw[<-e2];have x':Below wr.heap.size wr WV:=F9 _ _ (by omega) (btt H x8);replace e2:=qH e2;clear D6 l2 D7 D8 D9 D' E0 E1 C2;go_upto_region 20 with fail
         all_goals
          have v3:=Q.out.keep x';obtain⟨C4,C6,I,m2⟩:=v3.kS;have b4:=I;rw[E.out] at b4;obtain⟨-,s7,s8,-⟩:=AW b4;obtain⟨K8,K9,K',L0,L1,v5,L2,L3⟩:=box8' kV;have g8:=qQ (tn:=(N:Int)) (x:=[z0,z1,z2,z3,z4,z5,z6,z7]) m2 (by omega) rfl;obtain⟨V,w0⟩:=AB (BO k6 [z0,z1,z2,z3,z4,z5,z6,z7]);rw[w0] at g8 a7;obtain⟨I8,t5⟩:=AB (ixOf V [z0,z1,z2,z3,z4,z5,z6,z7]);rw[t5] at g8 a7;have r0:Hid (Calls Tryz.prog 188 #[.agg #[.int .i64 (N:Int),.slice C4 k6.length C6],.agg #[.int .i64 z0,.int .i64 z1,.int .i64 z2,.int .i64 z3,.int .i64 z4,.int .i64 z5,.int .i64 z6,.int .i64 z7]] WV fun e w'=>∃C3 C5,e = .returned (.tuple #[.agg #[.int .i64 (N:Int),.slice C3 V.length C5],.int .i64 (I8:Nat)])/\AA 114 8 EI w' 0 (.slice C3 V.length C5) V.length V/\Below WV.heap.size WV w'):=g8;clear g8 w0 t5 b4 d1 d2 t0;replace kV:=qH kV;replace I:=qH I;go_wp2_with fail
          refine r0.out.mono ?_;rintro e w8 ⟨q6,q7,rfl,t',x9⟩;clear s7 s8 K8 K9 K' L0 L1 v5 L2 L3 r0;obtain⟨W9,e1⟩:=AF (w8.alloc (.cells #[.int .i64 (N:Int),.slice q6 V.length q7] 32));have m7:Below w8.heap.size w8 W9:=(by rw[e1];exact(wB _ _).alloc (wC _) _);have C1:W9.heap[w8.heap.size]? = some (.cells #[.int .i64 (N:Int),.slice q6 V.length q7] 32):=(by rw[e1];exact wE _ _);go_upto_region 21 with fail
          rw[<-e1];replace e1:=qH e1;have m1:=v3.keep (btt x9 m7);have p6:=AN (btt x9 m7) I.out;have f4:=p6;rw[E.out] at f4;obtain⟨-,s7,s8,-⟩:=AW f4;obtain⟨K4,K5⟩:=BA C1;have fz:=BG f4;go_upto_region 22 with fail
          refine dW (u7:=.int .i64 (N:Int)) (u8:=.slice q6 V.length q7) f4 ?_;intro k7 h6 F7 w7 C0 A2;rw[<-h6];have H7:W9.heap.size<=k7.heap.size:=(by rw[h6];simp);have m0:Hid (FR w W3 S (.slice xa L.length xc) V g9 (.slice la g9.length lc) k7):=m1.put p6 w7 H7 (F7 _ _ (by omega) m1.bel) A2 (by rw[E.out];exact C0) (t'.keep (EI.stab _) m7);have v0:=m0.out.kL;have H8:W3.heap.size<=k7.heap.size:=m0.out.kp.1;replace h6:=qH h6;clear s7 s8 K4 K5 fz p6 f4 C1 m1 t' w7 C0 A2;go_wp2_with (at_builtin;refine RJ rfl _ _ rfl rfl v0 rfl (by omega) H8 ?_)
          intro O9 O' t9 y' x5;have h5:=m0.out.app H9 t9 y' x5;rw[show V=(AS (CQ N l d v b) z (g+1)).1 by rw[a7.out],show g9 ++ [(I8:Int)]=(AS (CQ N l d v b) z (g+1)).2 by rw[a7.out]] at h5;replace h5:=qH h5;clear v0 t9 y' x5;go_wp2_with fail
          go_roundw
          case rel=>exact⟨g+1,by go_num,A3,h5⟩
          case measure=>
           have hm:N - (g+1) < N - g:=Nat.sub_lt_sub_left A3 (Nat.lt_succ_self g);simpa [intOf] using hm
        ·obtain rfl:N=g:=(by omega);have h4:=A.out.row Q.out o4;obtain⟨VN,m3⟩:=AB ((AS (CQ N l d v b) z N).1);obtain⟨LN,l8⟩:=AB ((AS (CQ N l d v b) z N).2);rw[m3] at h4;have h':=Q.out.kL;rw[l8] at h';obtain⟨la,lc,n6⟩:=h'.shape;subst n6;obtain⟨ya,yc,X,hY⟩:=h4.kX;have d0:=i3.out;rw[m3,l8] at d0;obtain⟨R,hR⟩:=AB ((DV N l d v b).2);have v4:=bK N l d v b;rw[hR] at h4 hY X d0 v4;obtain⟨x0,x1,x2⟩:=boxL3 X;have fz:=BG X;have l5:Hid (BD wr [.slice la LN.length lc] LN):=⟨_,rfl,h'.base (Nat.zero_le _)⟩;have m':Hid (∀d3∈(#[.slice la LN.length lc]:Array Value).toList,d3.oneCell'=true):=fun d3 hu=>by rw[List.mem_singleton.1 hu];rfl
         have n3:R.length<=1000000000000:=(by omega);have o3:T.heap.size+1<=wr.heap.size:=(wD.1 X).1;replace d0:=qH d0;clear m3 l8 hR v4 Q h';go_wp2_with (at_builtin;refine FH (x:=LN) SP (by decide) (by decide) (BD.stab (by decide)) rfl _ _ rfl rfl hY rfl rfl rfl m'.out l5.out n3 o3 ?_)
         intro v5 C7 b1 n0 H b3;obtain⟨a5,c5,e'⟩:=b1.shape;subst e';have P:=h4.put o4 X b1 H b3;have f5:=(b3 _ _ _ X (by decide)).trans X;obtain⟨P6,P7,P8⟩:=boxL3 f5;have E2:=BG f5;rw[show VN=(DV N l d v (b+1)).1 by rw[d0.out],show R ++ [LN]=(DV N l d v (b+1)).2 by rw[d0.out]] at P;replace P:=qH P;clear b1 n0 H b3 X x0 x1 x2 fz hY;go_wp2_with fail
         go_roundw
         case rel=>exact⟨b+1,by go_num,by omega,P⟩
         case measure=>simp[intOf];omega
      ·obtain rfl:b=K+1:=(by omega);have n7:=t4.out.mid p4.out w6.out A.out;obtain⟨ya,yc,X,hY⟩:=A.out.kX;obtain⟨C4,C6,I,m2⟩:=A.out.kS;have b4:=I;rw[E.out] at b4;obtain⟨-,s7,s8,s9⟩:=AW b4;obtain⟨x0,x1,x2⟩:=boxL3 X;have A':=I1.out.other (EI.stab _) (by decide) (A.out.kp.keepX p4.out);have f0:BB N [] (CV cs s m (t+1))=((DV N l d v (K+1)).1,L ++ [((m:Int),d,(DV N l d v (K+1)).2)]):=(by rw[i2.out,B2.out];rfl);have e6:=fun K7 C'=>KG.put (W':=C') (v':=K7) (x:=((m:Int),d,(DV N l d v (K+1)).2)) F0.out A.out n7;obtain⟨R,hR⟩:=AB ((DV N l d v (K+1)).2);rw[hR] at X x2 hY f0;simp only[hR] at e6;have l5:Hid (CL wr [.int .i64 (m:Int),.slice wa d.length d5,.slice ya R.length yc] ((m:Int),d,R)):=⟨wa,d5,ya,yc,rfl,A',hY.base (Nat.zero_le _)⟩
       have m':Hid (∀d3∈(#[.int .i64 (m:Int),.slice wa d.length d5,.slice ya R.length yc]:Array Value).toList,d3.oneCell'=true):=fun d3 hu=>by
        simp only[List.mem_cons,List.not_mem_nil,or_false] at hu;rcases hu with rfl|rfl|rfl<;>rfl
       have x3:=n7.2.2.1;have n3:L.length<=1000000000000:=(by omega);have o3:w.heap.size<=wr.heap.size:=A.out.bel.size;replace f0:=qH f0;replace e6:=qH e6;clear hR A' n7 hY m2 X;go_wp2_with (at_builtin;refine FH (x:=((m:Int),d,R)) XS (by decide) (by decide) (CL.stab (by decide) (by decide) (by decide)) rfl _ _ rfl rfl x3 rfl rfl rfl m'.out l5.out n3 o3 ?_)
       intro v5 C7 b1 n0 H b3;obtain⟨a5,c5,e'⟩:=b1.shape;subst e';have P:=e6.out _ C7 b1 H b3;have p5:=(b3 _ _ _ I (by decide)).trans I;rw[E.out] at p5;obtain⟨-,O4,O5,O6⟩:=AW p5;have E2:=BG p5;rw[show(DV N l d v (K+1)).1=(BB N [] (CV cs s m (t+1))).1 by rw[f0.out],show L ++ [((m:Int),d,R)]=(BB N [] (CV cs s m (t+1))).2 by rw[f0.out]] at P;replace P:=qH P;clear b1 n0 H b3 s7 s8 s9 x0 x1 x2 I b4 e6 x3;go_wp2_with fail
       go_roundw
       case rel=>exact⟨t+1,by go_num,c',P⟩
       case measure=>simp[intOf];omega
    ·obtain rfl:t=s.length:=(by omega);rw[oR] at B;go_wp2_with fail
     go_roundw
     case rel=>exact⟨m+1,by go_num,i0,B⟩
     case measure=>simp[intOf];omega
  ·obtain rfl:m=cs.length:=(by omega);obtain⟨F6,kP,kZ,⟨va,vc,xa,xc,kS,hV,hX⟩,-⟩:=B.out;rw[<-v6.out] at hV;rw[<-v7.out] at hX;rw[<-v6.out,<-v7.out] at kS;rw[E.out] at kS;obtain⟨⟨y0,y1,y2,y3,y4,y5,y6⟩,y7,Q7,y9⟩:=AW kS;obtain⟨⟨x0,x1,x2,P9,P',Q0,Q1⟩,Q2,Q3,Q4⟩:=AW kZ;have fz:=BG kZ;clear B;go_wp2_with fail
   refine ME (u0:=.int .i64 (N:Int)) (u1:=.int .i64 i) (u2:=.int .i64 o) (u3:=.slice (some ⟨G,Y,none⟩) cs.length c) (u4:=.int .i64 an) (u5:=.slice C ss.length D) (u6:=.int .i64 (K:Int)) (u7:=.int .i64 (N:Int)) (u8:=.slice va P1.length vc) (u9:=.slice xa P2.length xc) kZ ?_;intro W6 F3 F8 w9 E5 M9;rw[<-F3];exact⟨rfl,_,rY rfl _ _ _ rfl E5,va,vc,xa,xc,rfl,hV.other (EI.stab _) (by decide) w9,(hX.base (Nat.zero_le _)).other (CL.stab (by decide) (by decide) (by decide)) (by decide) w9,F8 _ _ (by omega) F6⟩
theorem UN {fn:Func}(h:fn.results = #[.cell 2 35,.tmp 3]) (tmps:Array Value) (w:World) (g:Nat) {u0 u1 u2 u3 u4 u5 u6 u7 u8 u9 x:Value}(p:tmps.getD 2 undef = .pointer (some ⟨g,0,none⟩)) (b:tmps.getD 3 undef=x) (c:w.heap[g]? = some (.cells #[u0,u1,u2,u3,u4,u5,u6,u7,u8,u9] 35)) :
  (results fn tmps).run Tryz.prog w = .ok (.tuple #[.agg #[u0,u1,u2,u3,u4,u5,u6,u7,u8,u9],x]) w:=by
 have a:tmps[2]?.getD undef = .pointer (some ⟨g,0,none⟩):=by simpa using p
 have d:tmps[3]?.getD undef=x:=by simpa using b
 obtain⟨⟨f,i,j,k,l,m,n⟩,o,q,r⟩:=AW c;have e:=Tryz.isAgg35;have s:=Tryz.sizeOf35;simp only[results,h];simp[Sem.run_bind,Result.andThen,a,d,asAddr,loadVar]
 go_simp
theorem pG {w:World}{v:Value}{n i o an r:Int}{cs:List Cs}{ss:Jc}(h:ED w v n i o cs an ss r) (b8:DH n i o cs an ss r=true) :
  Calls Tryz.prog 71 #[v] w (VL w n i o cs an ss r):=by
 unfold DH at b8;simp only[Bool.and_eq_true,Bool.or_eq_true,decide_eq_true_eq] at b8;obtain⟨f0,hf,_,J⟩:=b8;have V:=qH (fun W (y:Below w.heap.size w W)=>cB (h.keep y));have hh:=qH h;obtain⟨a,c,u,x,rfl,-,-⟩:=h;obtain⟨f,b⟩:=AF ((w.alloc (.cells #[.int .i64 n,.int .i64 i,.int .i64 o,.slice a cs.length c,.int .i64 an,.slice u ss.length x,.int .i64 r] 29)).alloc (.cells #[.int .i64 0,.int .i64 0,.int .i64 0,.slice none 0 0,.int .i64 0,.slice none 0 0,.int .i64 0,.int .i64 0,.slice none 0 0,.slice none 0 0] 35));have g1:f.heap.size=w.heap.size+2:=by rw[b];simp
 have t:Below w.heap.size w f:=by rw[b];exact((wB _ w).alloc (wC _) _).alloc (by simp) _
 have kP:f.heap[w.heap.size]? = some (.cells #[.int .i64 n,.int .i64 i,.int .i64 o,.slice a cs.length c,.int .i64 an,.slice u ss.length x,.int .i64 r] 29):=by
  rw[b];exact(Below.heap_alloc _ _ _ (by simp)).trans (wE w _)
 have R:f.heap[w.heap.size+1]? = some (.cells #[.int .i64 0,.int .i64 0,.int .i64 0,.slice none 0 0,.int .i64 0,.slice none 0 0,.int .i64 0,.int .i64 0,.slice none 0 0,.slice none 0 0] 35):=by
  rw[b];have:=wE (w.alloc (.cells #[.int .i64 n,.int .i64 i,.int .i64 o,.slice a cs.length c,.int .i64 an,.slice u ss.length x,.int .i64 r] 29)) (.cells #[.int .i64 0,.int .i64 0,.int .i64 0,.slice none 0 0,.int .i64 0,.slice none 0 0,.int .i64 0,.int .i64 0,.slice none 0 0,.slice none 0 0] 35)
  rwa [World.size_alloc] at this
 have S:=qH (fun W (y:Below f.heap.size f W)=>keep7 y (box7' kP));obtain⟨g,j,l,m,p,q,s⟩:=S.out f (wB _ _);rw[b] at g j l m p q s;replace R:=qH R;clear kP;have E:FD n i o cs an ss r=if DJ n i o cs an ss r ≠ 0 then DJ n i o cs an ss r else if 4096 < numP cs ss r.toNat then 17 else 0:=rfl
 obtain⟨e3,hz⟩:=AB (DJ n i o cs an ss r);rw[hz] at V E;by_cases Y:e3=0
 ·subst Y;rw[if_neg (fun h=>h rfl)] at E;have Q:=hz;replace hz:=qH hz;obtain⟨z,B,c3,c4,c5⟩:=LQ Q;obtain⟨l1,l2⟩:=MR z;obtain⟨_,_,_,_,_,_,C⟩:=id hh.out;have hO:=JU C hf B;have hN:=qH (fun W (y:Below w.heap.size w W)=>cK (h:=hh.out.keep y) hO l2 (k:=r.toNat) (by omega) (by omega));obtain⟨a',M⟩:=AB (numP cs ss r.toNat);rw[M] at hN E J;by_cases I:4096 < a'
  ·rw[if_pos I] at E;have dM:decide ((4096:Int) < (a':Int))=true:=vZ (by omega);replace M:=qH M;clear hO C Q z B c3 c4 c5 I J;go_enter Tryz.func71, Tryz.ntmps71
   go_wp2_with fail
   rw[<-b];replace b:=qH b;refine(V.out f t).mono ?_;rintro e A ⟨rfl,d⟩;clear g j l m p q s;obtain⟨g,j,l,m,p,q,s⟩:=S.out A d;go_wp2_with fail
   refine(hN.out A (btt t d)).mono ?_;rintro e w3 ⟨rfl,X⟩;clear g j l m p q s;have Z:=AN (btt d X) R.out;obtain⟨⟨y0,y1,y2,y3,y4,y5,y6⟩,y7,y8,y9⟩:=AW Z;have fz:=BG Z;go_wp2_with fail
   refine ME (u0:=.int .i64 0) (u1:=.int .i64 0) (u2:=.int .i64 0) (u3:=.slice none 0 0) (u4:=.int .i64 0) (u5:=.slice none 0 0) (u6:=.int .i64 0) (u7:=.int .i64 0) (u8:=.slice none 0 0) (u9:=.slice none 0 0) Z ?_;intro W4 b4 b7 e' U f1;rw[<-b4];exact⟨rfl,_,UN rfl _ _ _ rfl rfl U,.inl ⟨by rw[E];decide,by rw[E];rfl⟩,b7 _ _ (by omega) (btt (btt t d) X)⟩
  ·rw[if_neg I] at E;have dM:decide ((4096:Int) < (a':Int))=false:=vY (by omega)
   have a2:numP cs ss r.toNat<=60:=by
    rw[M];rcases J with h|h|h
    ·exact absurd Q h
    ·exact h
    ·exact absurd h I
   have hB:=qH (fun W (y:Below w.heap.size w W)=>pH (hh.out.keep y) (N:=n.toNat) (K:=r.toNat) (by have:=(MF z).1;omega) (by omega) hf f0 Q a2)
   have f3:(CR n.toNat cs (wL ss r.toNat 0)).1.length<=8000:=by
    have O:=(JU C hf B).wd;obtain⟨_,_,c6⟩:=OB (ES.ofWd O) O.2.2.1 l1 a2;have h1:=NB n.toNat (K:=r.toNat) (DU cs (wL ss r.toNat 0)) [] (fun d3 hy=>Nat.le_of_eq (LF ss r.toNat 0 _ (MB hy)));have h2:(DU cs (wL ss r.toNat 0)).length * (n.toNat * (r.toNat+1))<=60 * (5 * 7):=Nat.mul_le_mul (by rw[NI,MI];exact c6) (Nat.mul_le_mul (by have:=(MF z).1;omega) (by omega));simp only[List.length_nil] at h1;show(BB n.toNat [] (DU cs (wL ss r.toNat 0))).1.length<=8000
    omega
   have L:(CR n.toNat cs (wL ss r.toNat 0)).2.length<=100000/\∀a7∈(CR n.toNat cs (wL ss r.toNat 0)).2,a7.2.1.length<=100000/\a7.2.2.length<=100000/\∀c0∈a7.2.2,c0.length<=100000:=by
    have O:=(JU C hf B).wd;obtain⟨_,_,c6⟩:=OB (ES.ofWd O) O.2.2.1 l1 a2;have h5:=(MF z).1;refine⟨?_,fun d3 hy=>?_⟩
    ·show(BB n.toNat [] (DU cs (wL ss r.toNat 0))).2.length<=100000
     rw[NC,NI,MI];omega
    ·obtain⟨⟨a7,hx,e⟩,h2,h3⟩:=PY n.toNat _ _ d3 hy;have U:=LF ss r.toNat 0 _ (MB hx);exact⟨by rw[e];omega,by rw[h2,e];omega,fun c0 hq=>by rw[h3 c0 hq];omega⟩
   obtain⟨T,P⟩:=AB ((CR n.toNat cs (wL ss r.toNat 0)).1);obtain⟨P2,D⟩:=AB ((CR n.toNat cs (wL ss r.toNat 0)).2);rw[P,D] at hB;rw[P] at f3;rw[D] at L;replace L:=qH L;replace M:=qH M;replace P:=qH P;replace D:=qH D;clear hO C Q z B c3 c4 c5 I J a2;go_enter Tryz.func71, Tryz.ntmps71
   go_wp2_with fail
   rw[<-b];replace b:=qH b;refine(V.out f t).mono ?_;rintro e A ⟨rfl,d⟩;clear g j l m p q s;obtain⟨g,j,l,m,p,q,s⟩:=S.out A d;go_wp2_with fail
   refine(hN.out A (btt t d)).mono ?_;rintro e w3 ⟨rfl,X⟩;have G:=btt d X;clear g j l m p q s;obtain⟨g,j,l,m,p,q,s⟩:=S.out w3 G;go_wp2_with fail
   refine(hB.out w3 (btt t G)).mono ?_;rintro e w4 ⟨va,vc,xa,xc,rfl,b3,b5,b6⟩;clear g j l m p q s;replace b3:=qH b3;replace b5:=qH b5;obtain⟨W5,F⟩:=AF (w4.alloc (.cells #[.int .i64 n,.int .i64 i,.int .i64 o,.slice a cs.length c,.int .i64 an,.slice u ss.length x,.int .i64 r,.int .i64 n,.slice va T.length vc,.slice xa P2.length xc] 35));have H:Below w4.heap.size w4 W5:=(by rw[F];exact(wB _ _).alloc (wC _) _);have k5:W5.heap[w4.heap.size]? = some (.cells #[.int .i64 n,.int .i64 i,.int .i64 o,.slice a cs.length c,.int .i64 an,.slice u ss.length x,.int .i64 r,.int .i64 n,.slice va T.length vc,.slice xa P2.length xc] 35):=(by rw[F];exact wE _ _);have b':=AN (btt G (btt b6 H)) R.out;obtain⟨⟨y0,y1,y2,y3,y4,y5,y6⟩,y7,y8,y9⟩:=AW b';have fz:=BG b';obtain⟨⟨x0,x1,x2,x3,x4,x5,x6⟩,x7,x8,x9⟩:=AW k5;have dV:decide ((8192:Int) < (T.length:Int))=false:=vY (by omega);go_upto_region 7 with fail
   rw[<-F];replace F:=qH F;go_wp2_with fail
   refine ME (u0:=.int .i64 n) (u1:=.int .i64 i) (u2:=.int .i64 o) (u3:=.slice a cs.length c) (u4:=.int .i64 an) (u5:=.slice u ss.length x) (u6:=.int .i64 r) (u7:=.int .i64 n) (u8:=.slice va T.length vc) (u9:=.slice xa P2.length xc) b' ?_;intro W6 e9 d0 c' h6 g0;rw[<-e9];refine⟨rfl,_,UN rfl _ _ _ rfl rfl h6,.inr ⟨E,_,rfl,?_⟩,d0 _ _ (by omega) (btt (btt t G) (btt b6 H))⟩;rw[P.out,D.out];exact⟨a,c,u,x,va,vc,xa,xc,rfl,hh.out.keep (d0 _ _ (by omega) (btt (btt t G) (btt b6 H))),((b3.out.keep (EI.stab _) H).other (EI.stab _) (by decide) c').ks (by omega),((b5.out.keep (CL.stab (by decide) (by decide) (by decide)) H).other (CL.stab (by decide) (by decide) (by decide)) (by decide) c').exs L.out.1 L.out.2⟩
 ·rw[if_pos Y] at E;have f':(e3 != 0)=true:=by simpa using Y
  clear J;go_enter Tryz.func71, Tryz.ntmps71
  go_wp2_with fail
  rw[<-b];replace b:=qH b;refine(V.out f t).mono ?_;rintro e A ⟨rfl,d⟩;clear g j l m p q s;have Z:=AN d R.out;obtain⟨⟨y0,y1,y2,y3,y4,y5,y6⟩,y7,y8,y9⟩:=AW Z;have fz:=BG Z;go_wp2_with fail
  refine ME (u0:=.int .i64 0) (u1:=.int .i64 0) (u2:=.int .i64 0) (u3:=.slice none 0 0) (u4:=.int .i64 0) (u5:=.slice none 0 0) (u6:=.int .i64 0) (u7:=.int .i64 0) (u8:=.slice none 0 0) (u9:=.slice none 0 0) Z ?_;intro W4 b4 b7 e' U f1;rw[<-b4];exact⟨rfl,_,UN rfl _ _ _ rfl rfl U,.inl ⟨by rw[E];exact Y,by rw[E];rfl⟩,b7 _ _ (by omega) (btt t d)⟩
end Go.Proofs.YtcnedkkcgdkioaaGreat

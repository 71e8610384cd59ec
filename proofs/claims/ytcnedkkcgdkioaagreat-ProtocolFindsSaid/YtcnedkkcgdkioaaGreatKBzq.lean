/- Texts of this claim, put together: MN MM ML. -/
import Derived.Test.YtcnedkkcgdkioaaGreatKBzp
import Derived.Test.YtcnedkkcgdkioaaGreatKBzn

set_option maxRecDepth 100000
set_option maxHeartbeats 12800000
namespace Go.Proofs.YtcnedkkcgdkioaaGreat
open Go.RowKit
theorem pS {w:World}{v:Value}{s:Jb}(h:∃a c,v = .slice a s.length c):Calls Tryz.prog 15 #[v] w fun e w'=>e = .returned (.bool (decide (s.length<=10)))/\Below w.heap.size w w':=by
 obtain⟨f,g,rfl⟩:=h;obtain⟨B,b⟩:=AB (decide (s.length<=10))
 have d:decide ((s.length:Int)<=10)=B:=by
  rw[<-b];by_cases h:s.length<=10
  ·rw[vZ h,vZ (by omega)]
  ·rw[vY h,vY (by omega)]
 rw[b];clear b;go_enter Tryz.func15, Tryz.ntmps15
 go_wp2;go_ret;exact⟨rfl,wB _ w⟩
theorem pL {w:World}{v:Value}{s:Jb}(h:KS 2 w v s):Calls Tryz.prog 65 #[v] w fun e w'=>e = .returned (.int .i64 (CX s))/\Below w.heap.size w w':=by
 have a2 : Tryz.prog.follows .mixedOrders=true:=by kernel_rfl
 obtain⟨va,vc,vb,vo,rfl,ha,A,-⟩:=h;by_cases l:s.length=0
 ·have k:CX s=16:=by unfold CX;rw[if_pos l]
  rw[k,l];clear k A;go_enter Tryz.func65, Tryz.ntmps65
  go_wp2;go_ret;exact⟨rfl,wB _ w⟩
 by_cases D:8 < s.length
 ·have k:CX s=5:=by unfold CX;rw[if_neg l,if_pos D]
  have d1:((s.length:Int) == 0)=false:=by simpa using l
  have d2:decide ((8:Int) < (s.length:Int))=true:=vZ (by omega);rw[k];clear k A;go_enter Tryz.func65, Tryz.ntmps65
  go_wp2;go_ret;exact⟨rfl,wB _ w⟩
 obtain rfl:=ha (by omega);obtain⟨n,r⟩:=AB (s.length);have d1:((n:Int) == 0)=false:=by simp;omega
 have d2:decide ((8:Int) < (n:Int))=false:=vY (by omega);obtain⟨E,k⟩:=AB (CX s)
 have a4:Hid ((if EZ (s.getD 0 [])=false then (2:Int) else DW (s.getD 0 []) (s.drop 1))=E):=by
  show _=_;rw[<-k];unfold CX;rw[if_neg l,if_neg D];cases s with
  | nil=>exact absurd rfl l
  | cons c3 c8=>rfl
 have c0:Hid (∀i,i < n->DW (s.getD (i - 1) []) (s.drop i)=if EZ (s.getD i [])=false then 2 else if 0<=AH (s.getD (i - 1) []) (s.getD i []) then 14 else DW (s.getD i []) (s.drop (i+1))):=fun i L=>by
  have e:s.getD i []=s[i]'(by rw[r];exact L):=AK (by rw[r];exact L) [];rw[List.drop_eq_getElem_cons (by omega),DW,e]
 have b5:Hid (DW (s.getD (n - 1) []) (s.drop n)=0):=by
  show _=_;rw[List.drop_eq_nil_of_le (by omega),DW]
 have a0:=qH A;have a3:=qH r;rw[k,r];have b6:0 < n:=by omega
 have c6:n<=8:=by omega
 replace k:=qH k;clear A r l D;go_enter Tryz.func65, Tryz.ntmps65
 go_wp2_with fail
 go_loopw [3] (fun Q wr=>∃i:Nat,Q = .int .i64 i/\i<=n/\Hid (0 < i->DW (s.getD (i - 1) []) (s.drop i)=E)/\Below w.heap.size w wr) (fun Q _=>n - (intOf Q).toNat)
 case atStart=>exact⟨0,rfl,by omega,fun h=>absurd h (Nat.lt_irrefl _),wB _ w⟩
 case round=>
  obtain⟨i,rfl,L,p,z⟩:=hrel;by_cases a1:i < n
  ·have c5:(i:Int) < (n:Int):=(by omega);obtain⟨T,U⟩:=a0.out i (by rw[a3.out];exact a1);obtain⟨c3,x⟩:=AB (s.getD i []);rw[x] at T U;have g:=c0.out i a1;rw[x] at g;obtain⟨a,b,rfl⟩:=BZ T;obtain⟨t,u⟩:=U.all2;replace t:=AC z t;replace u:=AC z u;clear U T;have a7:=qH (fun W (o:Below wr.heap.size wr W)=>And.intro (AC o t) (AC o u));have G:=z;obtain⟨a6,B⟩:=AB (EZ [a,b]);have H:=fun W=>qT a b W;rw[B] at H g;replace H:=qH H;cases a6
   ·have b0:Hid (E=2):=by
     show _=_;rw[if_pos rfl] at g;rcases Nat.eq_zero_or_pos i with h|h
     ·subst h;have:=a4.out
      rw[x,B,if_pos rfl] at this;exact this.symm
     ·exact(p.out h).symm.trans g
    clear x B g;go_wp2_with fail
    refine(H.out wr).mono ?_;rintro e w3 ⟨rfl,m⟩;go_wp2;go_ret;exact⟨by rw[b0.out];rfl,btt G m⟩
   ·rw[if_neg (by decide)] at g;rcases Nat.eq_zero_or_pos i with h|h
    ·have N:Hid (0 < i+1->DW (s.getD (i+1 - 1) []) (s.drop (i+1))=E):=fun _=>by
      have:=a4.out
      subst h;rw[x,B,if_neg (by decide)] at this;rw[show 0+1 - 1=0 from rfl,x];exact this
     have b':decide ((0:Int) < (i:Int))=false:=vY (by omega);have b9 : ¬0 < i:=(by omega);replace h:=qH h;clear x B g;go_wp2_with fail
     refine(H.out wr).mono ?_;rintro e w3 ⟨rfl,m⟩;go_wp2_with fail
     refine CW a2 (by kernel_rfl) ?_
     repeat (refine WQ.step fun K f=>?_;go_simp;first|(refine f _ ?_;clear f K)|(apply Exists.intro;refine⟨fun q j=>?_,f _ ?_⟩;(·(first|with_reducible rfl|(go_simp;first|done|with_reducible rfl|with_reducible exact⟨rfl,rfl⟩)));clear f K))
     refine WQ.nil ?_;intro w4 y;go_wp2_with fail
     go_roundw
     case rel=>exact⟨i+1,by go_num,by omega,N,btt (btt G m) y⟩
     case measure=>simp[intOf];omega
    ·obtain⟨V,X⟩:=a0.out (i - 1) (by rw[a3.out];omega);obtain⟨d4,P⟩:=AB (s.getD (i - 1) []);rw[P] at V X g;obtain⟨c,d,rfl⟩:=BZ V;have J:=p.out h;rw[P] at J;rw[J] at g;obtain⟨R,S⟩:=X.all2;have Y:=qH (fun W (o:Below w.heap.size w W)=>And.intro (AC o R) (AC o S));have O:=fun W=>UJ c d a b W;obtain⟨a8,Z⟩:=AB (AH [c,d] [a,b]);rw[Z] at O g;replace O:=qH O;have c1:IntKind.i64.wrap ((i:Int) - 1)=((i - 1:Nat):Int):=(by rw[show(i:Int) - 1=((i - 1:Nat):Int) by omega];exact IntWalk.i64_in _ (by omega));have b':decide ((0:Int) < (i:Int))=true:=vZ (by omega);have b9:0 < i:=h;have b7:((i - 1:Nat):Int) < (n:Int):=(by omega);have b8:(0:Int)<=((i - 1:Nat):Int):=Int.natCast_nonneg _;obtain⟨c7,M⟩:=AB (i - 1);rw[M] at Y c1 b7 b8;replace M:=qH M;obtain⟨C,j⟩:=AB (decide (0<=a8))
     have N:Hid (C=false->0 < i+1->DW (s.getD (i+1 - 1) []) (s.drop (i+1))=E):=fun F _=>by
      rw[Nat.add_sub_cancel,x,g,if_neg (of_decide_eq_false (j.trans F))]
     have b1:Hid (C=true->E=14):=fun F=>by
      rw[g,if_pos (of_decide_eq_true (j.trans F))]
     have c4:=qH h;clear x B g Z P J R S X V p h;go_wp2_with fail
     refine(H.out wr).mono ?_;rintro e w3 ⟨rfl,m⟩;go_wp2_with fail
     refine CW a2 (by kernel_rfl) ?_;have I:=btt G m;clear t u
     repeat (refine WQ.step fun K f=>?_;go_simp;first|(refine f _ ?_;clear f K)|(apply Exists.intro;refine⟨fun q j=>?_,f _ ?_⟩;(·(first|with_reducible rfl|(obtain⟨R,S⟩:=Y.out q (btt I j);obtain⟨z0,z1⟩:=a7.out q (btt m j);go_simp;first|done|with_reducible rfl|with_reducible exact⟨rfl,rfl⟩)));clear f K))
     (refine WQ.step fun K f=>?_;go_simp;first|(refine f _ ?_;clear f K)|(apply Exists.intro;refine⟨fun q j=>?_,f _ ?_⟩;(·(refine(O.out q).mono ?_;rintro e w' ⟨rfl,b4⟩;exact⟨rfl,btt j b4⟩));clear f K))
     repeat (refine WQ.step fun K f=>?_;go_simp;first|(refine f _ ?_;clear f K)|(apply Exists.intro;refine⟨fun q j=>?_,f _ ?_⟩;(·(first|with_reducible rfl|(go_simp;first|done|with_reducible rfl|with_reducible exact⟨rfl,rfl⟩)));clear f K))
     refine WQ.nil ?_;intro w4 y;clear j;cases C
     ·go_wp2_with fail
      go_roundw
      case rel=>exact⟨i+1,by go_num,by omega,N.out (by first|rfl|trivial),btt I y⟩
      case measure=>simp[intOf];omega
     ·go_wp2;go_ret;exact⟨by rw[b1.out (by first|rfl|trivial)];rfl,btt I y⟩
  ·obtain rfl:i=n:=(by omega);have b2:Hid (E=0):=(by show _=_;rw[<-p.out b6];exact b5.out);clear p;go_wp2;go_ret;exact⟨by rw[b2.out];rfl,z⟩
theorem ZZ {l:Jc}:∀(k:Nat) (s:Jb),s∈l->0 < s.length->(∀t∈l,t.length<=s.length+k)->∃t∈BC l,∀v∈s,v∈t
 | 0,s,hs,a,b=>⟨s,GF.2 ⟨hs,a,by
   cases c:FE l s
   ·rfl
   ·obtain⟨t,d,e,_⟩:=MY.1 c;have:=b t d
    omega⟩,fun _ h=>h⟩
 | k+1,s,hs,a,b=>by
  cases c:FE l s
  ·exact⟨s,GF.2 ⟨hs,a,c⟩,fun _ h=>h⟩
  ·obtain⟨t,d,e,f⟩:=MY.1 c;obtain⟨u,i,g⟩:=ZZ k t d (by omega) (fun z m=>by have:=b z m;omega);exact⟨u,i,fun v j=>g v (f v j)⟩
theorem mZ {l:Jc}{B:Nat}(e:∀t∈l,t.length<=B) {x:Jb}:(BC l).any (CJ x)=(l.filter fun t=>decide (0 < t.length)).any (CJ x):=by
 rw[Bool.eq_iff_iff,List.any_eq_true,List.any_eq_true];constructor
 ·rintro⟨t,c,h⟩;obtain⟨a,b,_⟩:=GF.1 c;exact⟨t,List.mem_filter.2 ⟨a,vZ b⟩,h⟩
 ·rintro⟨t,c,h⟩;obtain⟨a,b⟩:=List.mem_filter.1 c;obtain⟨u,f,d⟩:=ZZ B t a (of_decide_eq_true b) (fun z i=>by have:=e z i;omega);exact⟨u,f,dY.2 fun v g=>d v (dY.1 h v g)⟩
theorem pJ {w:World}{v u:Value}{n i o an r tn:Int}{cs:List Cs}{ss:Jc}{vs:Jb}{xs:List Ex}{l:Jb}(h:CC w v n i o cs an ss r tn vs xs) (A:KS 2 w u l) (c5:DH n i o cs an ss r=true) (e3:cs.length<=1000000) :
  Calls Tryz.prog 17 #[v,u] w fun e w'=>∃v',e = .returned (.tuple #[v',.int .i64 (GQ (AZ n i o cs an ss r tn vs xs) l)])/\AR w' v' (if GQ (AZ n i o cs an ss r tn vs xs) l=0 then CS n.toNat r.toNat xs l cs.length else [])/\Below w.heap.size w w':=by
 have V:=qH (fun W (b:Below w.heap.size w W)=>OV (h.keep b) c5);have g:=IR h c5;have H:=qH (fun W (b:Below w.heap.size w W) (G:tn=n/\n=(n.toNat:Int)/\r=(r.toNat:Int)/\r.toNat<=6/\IC n.toNat r.toNat vs xs) (C:Int)=>QU (idx:=C) (OY (h.keep b) G.1 G.2.1 G.2.2.1) G.2.2.2.2.n1 G.2.2.2.2.n5 G.2.2.2.2.ex (by have:=G.2.2.2.2.xl;omega));have d7:=qH (fun W (b:Below w.heap.size w W)=>pL (A.keep b));obtain⟨E,X⟩:=AB (AZ n i o cs an ss r tn vs xs);rw[X] at V g|-;obtain⟨a6,a8,a',c',va,vc,xa,xc,rfl,-,-,-⟩:=h;have e5:=qH (fun W (b:Below w.heap.size w W)=>A.keep b);obtain⟨la,lc,rfl⟩:=A.shape;obtain⟨f,c⟩:=AF (w.alloc (.cells #[.int .i64 n,.int .i64 i,.int .i64 o,.slice a6 cs.length a8,.int .i64 an,.slice a' ss.length c',.int .i64 r,.int .i64 tn,.slice va vs.length vc,.slice xa xs.length xc] 35));have b9:Below w.heap.size w f:=by rw[c];exact(wB _ w).alloc (wC _) _
 have kS:f.heap[w.heap.size]? = some (.cells #[.int .i64 n,.int .i64 i,.int .i64 o,.slice a6 cs.length a8,.int .i64 an,.slice a' ss.length c',.int .i64 r,.int .i64 tn,.slice va vs.length vc,.slice xa xs.length xc] 35):=by rw[c];exact wE _ _
 have U:=qH (fun W (b:Below f.heap.size f W)=>And.intro (keep7 b (AW kS).1) (keep3' b (AW kS).2));obtain⟨⟨D,J,K,p,L,O,P⟩,Q,S,T⟩:=U.out f (wB _ _);rw[c] at D J K p L O P Q S T;replace X:=qH X;obtain⟨M,Z⟩:=AB (cs.length);rw[Z] at V U H c p e3|-;replace Z:=qH Z;obtain⟨F,a⟩:=AB (GQ E l);rw[a];obtain⟨a5,R⟩:∃a5,(if F=0 then CS n.toNat r.toNat xs l M else [])=a5:=⟨_,rfl⟩;rw[R];unfold GQ at a;clear kS A;go_enter Tryz.func17, Tryz.ntmps17
 go_wp2_with fail
 rw[<-c];replace c:=qH c;refine(V.out f b9).mono ?_;rintro e w2 ⟨rfl,b'⟩;clear D J K p L O P Q S T;have a0:=btt b9 b';by_cases z:E=0
 ·subst z;rw[if_neg (fun h=>h rfl)] at a;have G:=qH (g rfl);clear g;go_wp2_with fail
  refine(d7.out w2 a0).mono ?_;rintro e d ⟨rfl,c0⟩;have t:=btt a0 c0;have e0:=btt b' c0;rw[a];by_cases y:F=0
  ·subst y;rw[if_pos rfl] at R
   have c6:∀C:Int,∀c9∈AX n.toNat r.toNat xs C,c9.length<=5:=fun C c9 ht=>by
    obtain⟨d2,_,rfl⟩:=List.mem_map.1 ht;have h5:=G.out.2.2.2.2.n5;have:=IQ (ok:=fun e9=>!AY (DT d2) (e9:Int)) (l:=d2.2.2.getD r.toNat []) n.toNat
    unfold BP;omega
   have d8:Hid (∀q:Nat,(BC (AX n.toNat r.toNat xs (q:Int))).any (CJ l)=MZ n.toNat r.toNat xs l q):=fun q=>mZ (c6 (q:Int))
   have d9:Hid (∀q:Nat,(BC (AX n.toNat r.toNat xs (q:Int))).length<=1000000):=fun q=>by
    have h1:=OP (l:=AX n.toNat r.toNat xs (q:Int));have h2:=MD (n:=n.toNat) (r:=r.toNat) (xs:=xs) (idx:=(q:Int));have:=G.out.2.2.2.2.xl
    omega
   have d':=qH (fun W b (q:Nat)=>H.out W b G.out (q:Int));have b5:Hid (OI d d.heap.size (.slice none 0 0) (CS n.toNat r.toNat xs l 0).length (CS n.toNat r.toNat xs l 0)):=OI.nil _ _;clear c6 H G a;go_wp2_with fail
   go_loopw [8,9] (fun ov qv wr=>∃q:Nat,qv = .int .i64 q/\q<=M/\Hid (OI wr d.heap.size ov (CS n.toNat r.toNat xs l q).length (CS n.toNat r.toNat xs l q))/\Below d.heap.size d wr) (fun _ qv _=>M - (intOf qv).toNat)
   case atStart=>exact⟨0,rfl,by omega,b5,wB _ _⟩
   case round=>
    clear b5;obtain⟨q,rfl,hq,I,x⟩:=hrel;obtain⟨⟨D,J,K,p,L,O,P⟩,Q,S,T⟩:=U.out wr (btt e0 x);by_cases g1:q < M
    ·have g3:(q:Int) < (M:Int):=(by omega);have m:=d'.out wr (btt t x) q;have b4:=d9.out q;have B:=d8.out q;have s:=XP n.toNat r.toNat xs l q;have b2:=SL n.toNat r.toNat xs l q;obtain⟨d6,hC⟩:=AB (CS n.toNat r.toNat xs l q);rw[hC] at I s b2;obtain⟨FS,b3⟩:=AB (BC (AX n.toNat r.toNat xs (q:Int)));rw[b3] at m b4 B;obtain⟨d5,hB⟩:=AB (MZ n.toNat r.toNat xs l q);rw[hB] at s B;obtain⟨oa,oc,a2⟩:=I.out.shape;subst a2;replace s:=qH s;replace B:=qH B;replace m:=qH m;clear hC b3 hB;go_wp2_with fail
     refine m.out.mono ?_;rintro e w4 ⟨fa,fc,rfl,b7,c1⟩;clear D J K p L O P Q S T;have b6:=((JP.ofOwX b7).kss (wB _ _) GW.ksc b4).kss;have c4:=btt x c1;have j:=qC b6 (e5.out w4 (btt t c4));rw[B.out] at j;replace j:=qH j;have Y:=I.out.keep c1;clear b7 b6;go_wp2_with fail
     refine j.out.mono ?_;rintro e w5 ⟨rfl,c2⟩;have a1:=btt c4 c2;have k:=Y.keep c2;have e6:=a1.size;cases d5
     ·have s:=s.out;rw[if_neg (by decide),List.append_nil] at s;replace s:=qH s
      have N:Hid (OI w5 d.heap.size (.slice oa d6.length oc) (CS n.toNat r.toNat xs l (q+1)).length (CS n.toNat r.toNat xs l (q+1))):=by
       show OI _ _ _ _ _;rw[s.out];exact k
      clear I Y k;go_wp2_with fail
      go_roundw
      case rel=>exact⟨q+1,by go_num,by omega,N,a1⟩
      case measure=>simp[intOf];omega
     ·have s:=s.out;rw[if_pos rfl] at s;replace s:=qH s;clear I Y;go_wp2_with (at_builtin;refine RJ rfl _ _ rfl rfl k rfl (by omega) e6 ?_)
      intro v6 w6 b8 e4 c3
      have N:Hid (OI w6 d.heap.size v6 (CS n.toNat r.toNat xs l (q+1)).length (CS n.toNat r.toNat xs l (q+1))):=by
       show OI _ _ _ _ _;rw[s.out,List.length_append];exact b8
      have e2:=a1.trans c3;clear b8 e4 c3 k;go_wp2_with fail
      go_roundw
      case rel=>exact⟨q+1,by go_num,by omega,N,e2⟩
      case measure=>simp[intOf];omega
    ·obtain rfl:M=q:=(by omega);have b2:=SL n.toNat r.toNat xs l M;have N:=I.out.intsE (by omega);rw[R] at N;have e1:=btt t x;obtain⟨oa,oc,a2⟩:=I.out.shape;subst a2;replace N:=qH N;clear I;go_wp2_with fail
     go_ret2
     exact⟨_,rfl,N.out,e1⟩
  ·rw[if_neg y] at R;subst R;have g0:(F != 0)=true:=(by simpa using y);clear y a H G;go_wp2_with fail
   go_ret2
   exact⟨_,rfl,AR.nil _ _ _,t⟩
 ·rw[if_pos z] at a;subst a;rw[if_neg z] at R;subst R;have f':(E != 0)=true:=by simpa using z
  replace z:=qH z;clear g H;go_wp2_with fail
  go_ret2
  exact⟨_,rfl,AR.nil _ _ _,a0⟩
theorem mR {w:World}{v:Value}{n i o an r tn:Int}{cs:List Cs}{ss:Jc}{vs:Jb}{xs:List Ex}{u:Value}{l:Jb}(h:IY w v n i o cs an ss r tn vs xs) (V:MO w u l) :
  Calls Tryz.prog 4 #[v,u] w (RO w):=by
 have T:=qH (fun W (b:Below w.heap.size w W)=>h.keep b);have a8:=qH V;obtain⟨la,lc,rfl⟩:=V.shape;clear V;obtain⟨a1,a3,a',c',va,vc,xa,xc,rfl,-,-,-⟩:=h;obtain⟨z,a⟩:=AF (w.alloc (.cells #[.int .i64 n,.int .i64 i,.int .i64 o,.slice a1 cs.length a3,.int .i64 an,.slice a' ss.length c',.int .i64 r,.int .i64 tn,.slice va vs.length vc,.slice xa xs.length xc] 35));have A:Below w.heap.size w z:=by rw[a];exact(wB _ w).alloc (wC _) _
 have X:z.heap[w.heap.size]? = some (.cells #[.int .i64 n,.int .i64 i,.int .i64 o,.slice a1 cs.length a3,.int .i64 an,.slice a' ss.length c',.int .i64 r,.int .i64 tn,.slice va vs.length vc,.slice xa xs.length xc] 35):=by rw[a];exact wE _ _
 have H:=qH (UK (T.out z A));have M:=qH (fun W (b:Below z.heap.size z W)=>And.intro (keep7 b (AW X).1) (keep3' b (AW X).2));obtain⟨⟨g,d,f,j,k,m,p⟩,q,t,x⟩:=M.out z (wB _ _);rw[a] at g d f j k m p q t x;clear X
 have S:JF n i o cs an ss r vs xs=true->cs.length<=1000000:=fun h=>by
  have N:=PZ h;unfold DH at N;simp only[Bool.and_eq_true] at N;have:=(jV N.1).1
  omega
 cases y:JF n i o cs an ss r vs xs
 ·rw[y] at H;clear y S;go_enter Tryz.func4, Tryz.ntmps4
  go_wp2_with fail
  rw[<-a];replace a:=qH a;refine H.out.mono ?_;rintro e Y ⟨rfl,b7⟩;clear g d f j k m p q t x;go_wp2_with fail
  refine(LP Y).mono ?_;rintro e w3 ⟨rfl,G⟩;have I:=btt (btt A b7) G;go_wp2;go_ret;exact⟨rfl,I⟩
 ·rw[y] at H;have U:=PZ y;have T:=qH (fun W (b:Below w.heap.size w W)=>(T.out W b).sys y);have R:=S y;have L:=qH (fun W=>pS (w:=W) (v:=.slice la l.length lc) (s:=l) ⟨la,lc,rfl⟩);have C:=fun(J:l.length<=10) W (b:Below w.heap.size w W)=>bP (T.out W b) ((a8.out.ks (by omega)).keep b) U R;have B:=fun(J:l.length<=10) W (b:Below w.heap.size w W)=>pJ (T.out W b) ((a8.out.ks (by omega)).keep b) U R;obtain⟨F,a6⟩:∃F,(if GQ (AZ n i o cs an ss r tn vs xs) l=0 then CS n.toNat r.toNat xs l cs.length else [])=F:=⟨_,rfl⟩;simp only[a6] at C B;obtain⟨zI,a9⟩:=AB (GQ (AZ n i o cs an ss r tn vs xs) l);simp only[a9] at C B;replace C:=qH C;replace B:=qH B;obtain⟨a0,P⟩:=AB (decide (l.length<=10));rw[P] at L;have J:Hid (a0=true->l.length<=10):=fun h=>of_decide_eq_true (P.trans h);clear a6 a9 y U R S P;go_enter Tryz.func4, Tryz.ntmps4
  go_wp2_with fail
  rw[<-a];replace a:=qH a;refine H.out.mono ?_;rintro e Y ⟨rfl,c⟩;clear g d f j k m p q t x H;have a5:=qH (L.out Y);go_wp2_with fail
  refine a5.out.mono ?_;rintro e Z ⟨rfl,a7⟩;replace c:=btt c a7;clear a5 a7 L;cases a0
  ·go_wp2_with fail
   refine(LP Z).mono ?_;rintro e w3 ⟨rfl,G⟩;have I:=btt (btt A c) G;go_wp2;go_ret;exact⟨rfl,I⟩
  ·obtain⟨⟨g,d,f,j,k,m,p⟩,q,t,x⟩:=M.out Z c;have D:=qH (C.out (J.out (by first|rfl|trivial)) Z (btt A c));go_wp2_with fail
   refine D.out.mono ?_;rintro e u1 ⟨v1,rfl,O,b⟩;replace c:=btt c b;clear g d f j k m p q t x D b;obtain⟨⟨g,d,f,j,k,m,p⟩,q,t,x⟩:=M.out u1 c;have D:=qH (B.out (J.out (by first|rfl|trivial)) u1 (btt A c));obtain⟨c0,c1,b1,o1,b8,-⟩:=id O;subst b8;replace O:=qH O;go_wp2_with fail
   refine D.out.mono ?_;rintro e u2 ⟨v2,rfl,Q,b⟩;replace c:=btt c b;have E:=OJ (O.out.keep b) Q;rw[vZ (rfl:F=F)] at E;obtain⟨a2,c2,b2,o2,b9,-⟩:=id Q;subst b9;replace E:=qH E;clear g d f j k m p q t x D b O Q;go_wp2_with fail
   refine E.out.mono ?_;rintro e x1 ⟨rfl,K⟩;replace c:=btt c (by first|exact K|exact K.below|(rw[K];exact wB _ _));clear E K;go_wp2_with fail
   refine(LP x1).mono ?_;rintro e w3 ⟨rfl,G⟩;have I:=btt (btt A c) G;go_wp2;go_ret;exact⟨rfl,I⟩
end Go.Proofs.YtcnedkkcgdkioaaGreat

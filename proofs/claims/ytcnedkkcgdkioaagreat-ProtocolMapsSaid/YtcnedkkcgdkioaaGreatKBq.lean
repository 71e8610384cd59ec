/- Texts of this claim, put together: TS CD DA L1 V5. -/
import Derived.Test.YtcnedkkcgdkioaaGreatKBp
import Derived.Laws.EntriesVeiled
import Derived.Deep.DeepAppendRoom

set_option maxRecDepth 100000
set_option maxHeartbeats 12800000
namespace Go.Proofs.YtcnedkkcgdkioaaGreat
open Go.RowKit
theorem dC {wr:World}{b:Nat}{s n f e d c v:Value}{T:TypeId}(h:wr.heap[b]? = some (.cells #[s,n,f,e,d,c,v] T)) (u0 u1 u2 u3 u4 u5 u6:Value) {W:World}(o:W=((((((wr.setCell ⟨b,0,none⟩ u0).setCell ⟨b,1,none⟩ u1).setCell ⟨b,2,none⟩ u2).setCell ⟨b,3,none⟩ u3).setCell ⟨b,4,none⟩ u4).setCell ⟨b,5,none⟩ u5).setCell ⟨b,6,none⟩ u6) :
  W.heap[b]? = some (.cells #[u0,u1,u2,u3,u4,u5,u6] T)/\AE T wr W/\∀(w:World) (B:Nat),Below B w wr->B<=b->Below B w W:=by
 have k:(wr.setCell ⟨b,0,none⟩ u0).heap[b]? = some (.cells #[u0,n,f,e,d,c,v] T):=heap_setCell_same _ b 0 _ _ u0 h;have g:((wr.setCell ⟨b,0,none⟩ u0).setCell ⟨b,1,none⟩ u1).heap[b]? = some (.cells #[u0,u1,f,e,d,c,v] T):=heap_setCell_same _ b 1 _ _ u1 k;have i:(((wr.setCell ⟨b,0,none⟩ u0).setCell ⟨b,1,none⟩ u1).setCell ⟨b,2,none⟩ u2).heap[b]? = some (.cells #[u0,u1,u2,e,d,c,v] T):=heap_setCell_same _ b 2 _ _ u2 g;have j:((((wr.setCell ⟨b,0,none⟩ u0).setCell ⟨b,1,none⟩ u1).setCell ⟨b,2,none⟩ u2).setCell ⟨b,3,none⟩ u3).heap[b]? = some (.cells #[u0,u1,u2,u3,d,c,v] T):=heap_setCell_same _ b 3 _ _ u3 i;have l:(((((wr.setCell ⟨b,0,none⟩ u0).setCell ⟨b,1,none⟩ u1).setCell ⟨b,2,none⟩ u2).setCell ⟨b,3,none⟩ u3).setCell ⟨b,4,none⟩ u4).heap[b]? = some (.cells #[u0,u1,u2,u3,u4,c,v] T):=heap_setCell_same _ b 4 _ _ u4 j;have m:((((((wr.setCell ⟨b,0,none⟩ u0).setCell ⟨b,1,none⟩ u1).setCell ⟨b,2,none⟩ u2).setCell ⟨b,3,none⟩ u3).setCell ⟨b,4,none⟩ u4).setCell ⟨b,5,none⟩ u5).heap[b]? = some (.cells #[u0,u1,u2,u3,u4,u5,v] T):=heap_setCell_same _ b 5 _ _ u5 l;have r:(((((((wr.setCell ⟨b,0,none⟩ u0).setCell ⟨b,1,none⟩ u1).setCell ⟨b,2,none⟩ u2).setCell ⟨b,3,none⟩ u3).setCell ⟨b,4,none⟩ u4).setCell ⟨b,5,none⟩ u5).setCell ⟨b,6,none⟩ u6).heap[b]? = some (.cells #[u0,u1,u2,u3,u4,u5,u6] T):=heap_setCell_same _ b 6 _ _ u6 m;subst o;refine⟨r,(((((((AE.setCell (p:=⟨b,0,none⟩) h u0).trans (AE.setCell (p:=⟨b,1,none⟩) k u1)).trans (AE.setCell (p:=⟨b,2,none⟩) g u2)).trans (AE.setCell (p:=⟨b,3,none⟩) i u3)).trans (AE.setCell (p:=⟨b,4,none⟩) j u4)).trans (AE.setCell (p:=⟨b,5,none⟩) l u5)).trans (AE.setCell (p:=⟨b,6,none⟩) m u6)),fun w B q a=>?_⟩;exact((((((q.setCell (p:=⟨b,0,none⟩) a u0).setCell (p:=⟨b,1,none⟩) a u1).setCell (p:=⟨b,2,none⟩) a u2).setCell (p:=⟨b,3,none⟩) a u3).setCell (p:=⟨b,4,none⟩) a u4).setCell (p:=⟨b,5,none⟩) a u5).setCell (p:=⟨b,6,none⟩) a u6
def LL (w:World) (v:Value) (n i o:Int) (cs:List Cs) (an:Int) (ss:Jc) (r:Int):Prop:=
 ∃a c b d B e f g,v = .agg #[.int .i64 n,.int .i64 i,.int .i64 o,.slice a cs.length c,.int .i64 an,.slice b ss.length d,.int .i64 r]/\AA 95 3 FT w B (.slice a cs.length c) cs.length (FW BE cs f cs.length)/\AA 180 1 GH w e (.slice b ss.length d) ss.length (FW [] ss g ss.length)
theorem LL.other {E:TypeId}(k:3 ≠ E) (l:48 ≠ E) (m:95 ≠ E) (p:178 ≠ E) (q:180 ≠ E) {w w':World}{v:Value}{n i o an r:Int}{cs:List Cs}{ss:Jc}(h:LL w v n i o cs an ss r) (x:AE E w w'):LL w' v n i o cs an ss r:=by
 obtain⟨a,c,d,g,B,b,f,j,e,s,t⟩:=h;exact⟨a,c,d,g,B,b,f,j,e,s.other (FT.stab k l) m x,t.other (GH.stab p) q x⟩
theorem LL.pr {w:World}{v:Value}{n i o an r:Int}{cs:List Cs}{ss:Jc}(h:LL w v n i o cs an ss r) (d:cs.length<=100000) (hs:ss.length<=100000) (b:∀c∈cs,PH c) (l:∀x∈ss,x.length<=1000000):ED w v n i o cs an ss r:=by
 obtain⟨a,c,m,p,B,j,f,q,e,k,g⟩:=h;exact⟨_,_,_,_,e,⟨_,rfl,k.css d b⟩,⟨_,rfl,g.kssM hs l⟩⟩
theorem iM {w:World}{v:Value}{n i o an r:Int}{cs:List Cs}{ss:Jc}(h:ED w v n i o cs an ss r) (n1:1<=cs.length) (p6:cs.length<=1024) (n6:1<=ss.length) (q0:ss.length<=1000) (hb:∀c∈cs,PH c) (hl:∀x∈ss,x.length<=1000000) :
  Calls Tryz.prog 74 #[v] w fun e w'=>∃v',e = .returned v'/\LL w' v' n i o cs an ss r/\Below w.heap.size w w':=by
 obtain⟨a,c,a',c',rfl,⟨sv,a5,hT⟩,hA⟩:=h;injection a5 with a5
 have a5:Value.slice a cs.length c=sv:=by
  have:=congrArg (fun a:Array Value=>a.toList) a5
  simpa using this
 subst a5
 obtain⟨b,m,rfl,j7⟩:∃b m,a=some ⟨b,m,none⟩/\KH w b m cs:=by
  obtain⟨a2,f4,b,m,y,M,h3,_⟩:=hT;injection y with K _ _;exact⟨b,m,K.trans (M n1),h3⟩
 obtain⟨q,hf⟩:∃q:Nat->Value × Value × Value,∀j,j < cs.length->w.cell? ⟨b,m+j * 3,none⟩=some (q j).1/\w.cell? ⟨b,m+j * 3+1,none⟩=some (q j).2.1/\w.cell? ⟨b,m+j * 3+2,none⟩=some (q j).2.2/\AR w (q j).1 (cs.getD j BE).1/\BM w (q j).2.1 (cs.getD j BE).2.1/\BM w (q j).2.2 (cs.getD j BE).2.2:=by
  refine Classical.axiomOfChoice (r:=fun j (t:Value × Value × Value)=>j < cs.length->w.cell? ⟨b,m+j * 3,none⟩=some t.1/\w.cell? ⟨b,m+j * 3+1,none⟩=some t.2.1/\w.cell? ⟨b,m+j * 3+2,none⟩=some t.2.2/\AR w t.1 (cs.getD j BE).1/\BM w t.2.1 (cs.getD j BE).2.1/\BM w t.2.2 (cs.getD j BE).2.2) fun j=>?_;by_cases l:j < cs.length
  ·obtain⟨u0,u1,u2,y,M,h3,h4,m4,h6⟩:=j7 j l;exact⟨(u0,u1,u2),fun _=>⟨y,M,h3,h4,m4,h6⟩⟩
  ·exact⟨(undef,undef,undef),fun h=>absurd h l⟩
 have m6:DC w (.agg #[.int .i64 an,.slice a' ss.length c']) an ss:=hA;obtain⟨o6,a6,hK⟩:=hA;injection a6 with a6
 have a6:Value.slice a' ss.length c'=o6:=by
  have:=congrArg (fun a:Array Value=>a.toList) a6
  simpa using this
 subst a6
 obtain⟨b',c9,rfl,j9⟩:∃b m,a'=some ⟨b,m,none⟩/\LH 8 w b m ss:=by
  obtain⟨a2,f4,b,m,y,M,h3,_⟩:=hK;injection y with K _ _;exact⟨b,m,K.trans (M n6),h3⟩
 obtain⟨f',c3⟩:∃q:Nat->Value,∀j,j < ss.length->w.cell? ⟨b',c9+j,none⟩=some (q j)/\KS 8 w (q j) (ss.getD j []):=by
  refine Classical.axiomOfChoice (r:=fun j (t:Value)=>j < ss.length->w.cell? ⟨b',c9+j,none⟩=some t/\KS 8 w t (ss.getD j [])) fun j=>?_;by_cases l:j < ss.length
  ·obtain⟨u,y,M⟩:=j9 j l;exact⟨u,fun _=>⟨y,M⟩⟩
  ·exact⟨undef,fun h=>absurd h l⟩
 obtain⟨W,a0⟩:=AF (w.alloc (.cells #[.int .i64 n,.int .i64 i,.int .i64 o,.slice (some ⟨b,m,none⟩) cs.length c,.int .i64 an,.slice (some ⟨b',c9,none⟩) ss.length c',.int .i64 r] 29));have n0:Below w.heap.size w W:=by rw[a0];exact(wB _ w).alloc (wC _) _
 have k1:W.heap[w.heap.size]? = some (.cells #[.int .i64 n,.int .i64 i,.int .i64 o,.slice (some ⟨b,m,none⟩) cs.length c,.int .i64 an,.slice (some ⟨b',c9,none⟩) ss.length c',.int .i64 r] 29):=by rw[a0];exact wE _ _
 have n7:W.heap.size=w.heap.size+1:=by rw[a0];simp
 obtain⟨W2,a1⟩:=AF (W.alloc (.cells #[.int .i64 0,.int .i64 0,.int .i64 0,.slice none 0 0,.int .i64 0,.slice none 0 0,.int .i64 0] 29));have j4:Below W.heap.size W W2:=by rw[a1];exact(wB _ W).alloc (wC _) _
 have k2:W2.heap[W.heap.size]? = some (.cells #[.int .i64 0,.int .i64 0,.int .i64 0,.slice none 0 0,.int .i64 0,.slice none 0 0,.int .i64 0] 29):=by rw[a1];exact wE _ _
 replace k1:=AN j4 k1;rw[n7] at k2;have i7:=btt n0 j4
 have a4:∀u∈MG q cs.length,u.oneCell'=true:=fun u hu=>by
  obtain⟨k,D,rfl⟩:=List.mem_map.1 hu;rw[List.mem_range] at D;obtain⟨_,_,_,T,q1,q2⟩:=hf (k / 3) (by omega);obtain⟨_,_,_,_,e0,_⟩:=T;obtain⟨_,_,_,_,K,_⟩:=q1;obtain⟨_,_,_,_,e2,_⟩:=q2;split
  ·rw[e0];rfl
  ·split
   ·rw[K];rfl
   ·rw[e2];rfl
 have HC:=qH (fX (w:=W2) ⟨b,m,none⟩ cs.length c (MG q cs.length) UX (by omega) (fun j u l=>by
  have J:j < cs.length * 3:=by
   have:=(List.getElem?_eq_some_iff.1 l).1
   rwa [UX] at this
  rw[RF J] at l;injection l with l;obtain⟨T,q1,q2,_⟩:=hf (j / 3) (by omega);rw[Addr.add_lit];refine AC i7 ?_;rw[<-l];split
  ·rename_i p5
   have e:m+j=m+j / 3 * 3:=(by omega);rw[e];exact T
  ·split
   ·have e:m+j=m+j / 3 * 3+1:=(by omega);rw[e];exact q1
   ·have e:m+j=m+j / 3 * 3+2:=(by omega);rw[e];exact q2) a4)
 obtain⟨y0,y1,y2,y3,y4,y5,y6⟩:=box7' k1;have P:=qH k1;have a3:=qH k2;replace hf:=qH hf;replace c3:=qH c3;replace hb:=qH hb;replace hl:=qH hl;clear j7 hT j9 hK m6 a5 a6 k1 k2 a4;go_enter Tryz.func74, Tryz.ntmps74
 go_wp2_with fail
 rw[<-a0,<-a1];replace a0:=qH a0;replace a1:=qH a1;refine HC.out.mono ?_;rintro e U ⟨v3,rfl,j',g1⟩;obtain⟨F,hF⟩:∃F:Nat->List Value,F=fun j=>[(q j).1,(q j).2.1,(q j).2.2]:=⟨_,rfl⟩
 have f7:AA 95 3 FT U W2.heap.size v3 cs.length (FW BE cs F 0):=by
  refine⟨_,j',LY,fun u hu=>?_,fun j x l=>?_⟩
  ·obtain⟨k,D,rfl⟩:=List.mem_map.1 hu;rw[List.mem_range] at D;obtain⟨_,_,_,T,q1,q2⟩:=hf.out (k / 3) (by omega);obtain⟨_,_,_,_,e0,_⟩:=T;obtain⟨_,_,_,_,K,_⟩:=q1;obtain⟨_,_,_,_,e2,_⟩:=q2;split
   ·rw[e0];rfl
   ·split
    ·rw[K];rfl
    ·rw[e2];rfl
  ·have J:j < cs.length:=by
    have:=(List.getElem?_eq_some_iff.1 l).1
    rwa [LY] at this
   rw[LX J,if_neg (by omega)] at l;injection l with l;subst l;rw[uB J,hF];rfl
 obtain⟨g,C,rfl,hg⟩:=f7.form (by omega);have m7:=btt i7 g1;have H:=AN g1 P.out;have c8:=AN g1 a3.out;have q3:W2.heap.size=w.heap.size+2:=by rw[a1.out];simp;omega
 clear y0 y1 y2 y3 y4 y5 y6;obtain⟨y0,y1,y2,y3,y4,y5,y6⟩:=box7' H;have p9:g ≠ w.heap.size:=by omega
 have p':g ≠ w.heap.size+1:=by omega
 obtain⟨W4,f8⟩:=AF (U.setCell ⟨w.heap.size,3,none⟩ (.slice (some ⟨g,0,none⟩) cs.length C));have fz:=BG H;have k4:=heap_setCell_same U w.heap.size 3 _ _ (.slice (some ⟨g,0,none⟩) cs.length C) H;have h0:(U.setCell ⟨w.heap.size,3,none⟩ (.slice (some ⟨g,0,none⟩) cs.length C)).heap[w.heap.size+1]? = _:=(Below.heap_setCell U ⟨w.heap.size,3,none⟩ _ (w.heap.size+1) (by show w.heap.size+1 ≠ w.heap.size;omega)).trans c8;have d4:Below w.heap.size w (U.setCell ⟨w.heap.size,3,none⟩ (.slice (some ⟨g,0,none⟩) cs.length C)):=Below.setCell (p:=⟨w.heap.size,3,none⟩) m7 (wC _) _;have b7:AA 95 3 FT (U.setCell ⟨w.heap.size,3,none⟩ (.slice (some ⟨g,0,none⟩) cs.length C)) W2.heap.size (.slice (some ⟨g,0,none⟩) cs.length C) cs.length (FW BE cs F 0):=f7.other (FT.stab (by decide) (by decide)) (by decide) (AE.setCell (p:=⟨w.heap.size,3,none⟩) H _);rw[<-f8] at k4 h0 d4 b7;replace b7:=qH b7;replace hF:=qH hF;replace P:=qH k4;replace a3:=qH h0;have m9:=qH f8;clear k4 h0 j' f7 H c8 HC f8;go_wp2_with fail
 rw[<-m9.out];go_loopw [17] (fun S wr=>∃k:Nat,S = .int .i64 k/\k<=cs.length/\Hid (AA 95 3 FT wr W2.heap.size (.slice (some ⟨g,0,none⟩) cs.length C) cs.length (FW BE cs F k))/\Below W2.heap.size W4 wr) (fun S _=>cs.length - (intOf S).toNat)
 case atStart=>exact⟨0,rfl,by omega,b7,wB _ _⟩
 case round=>
  clear b7;obtain⟨k,rfl,D,O,A⟩:=hrel;by_cases s:k < cs.length
  ·obtain⟨us,n9,E,c5⟩:=O.out.cells (LX (d:=BE) (f:=F) (i:=k) s);rw[if_neg (by omega)] at E;have E:us=F k:=E;rw[hF.out] at E;subst E;obtain⟨T,q1,q2,R,i1,i2⟩:=hf.out k s;obtain⟨v0,c6⟩:=AB ((q k).1);obtain⟨v1,k3⟩:=AB ((q k).2.1);obtain⟨v2,k5⟩:=AB ((q k).2.2);obtain⟨x,G⟩:=AB (cs.getD k BE);have c0:=c5 0 v0 (by rw[<-c6];rfl);have l9:=c5 1 v1 (by rw[<-k3];rfl);have f4:=c5 2 v2 (by rw[<-k5];rfl);rw[Nat.add_zero] at c0;rw[c6,G] at R;rw[k3,G] at i1;rw[k5,G] at i2;have a7:Below w.heap.size w wr:=d4.trans (A.mono (by omega));obtain⟨q7,q8,q9,o3,o4⟩:=hb.out x (by rw[<-G,AK s];exact wG s);obtain⟨za,zc,g6⟩:=R.shape;obtain⟨zb,zd,o0⟩:=i1.shape;obtain⟨ze,zf,o1⟩:=i2.shape;subst g6 o0 o1;obtain⟨W5,b9⟩:=AF (wr.alloc (.cells #[.slice za x.1.length zc,.slice zb x.2.1.length zd,.slice ze x.2.2.length zf] 95));have z:Below wr.heap.size wr W5:=(by rw[b9];exact(wB _ wr).alloc (wC _) _);have o2:W5.heap[wr.heap.size]? = some (.cells #[.slice za x.1.length zc,.slice zb x.2.1.length zd,.slice ze x.2.2.length zf] 95):=(by rw[b9];exact wE _ _);have j1:=AN z ((A.block w.heap.size (by omega)).trans P.out);obtain⟨x0,x1,x2,x3,x4,x5,x6⟩:=box7' j1;obtain⟨p0,p1,p2⟩:=box3' o2;have N:=O.out.keep (FT.stab (by decide) (by decide)) z;have n4:(k:Int) < (cs.length:Int):=by omega
   have j8:g < wr.heap.size:=by
    obtain⟨_,y,_⟩:=O.out;exact(y.lt g rfl).2
   replace N:=qH N;clear O j1 y0 y1 y2 y3 y4 y5 y6;go_wp2_with fail
   rw[<-b9];replace b9:=qH b9;go_upto_region 5 with fail
   refine rL x3 p0 p1 p2 ((R.keep a7).keep z) ((i1.keep a7).keep z) ((i2.keep a7).keep z) (by omega) (by omega) (by omega) (fun h5 hy=>by have:=o3 h5 hy;omega) (fun h5 hy=>by have:=o4 h5 hy;omega) N.out s (by have:=z.size;omega) (by omega) ?_;intro y6 y9 q' r0 r1 L f5 _ _ _ _ _;have d5:=f5.2.2 rfl;rw[aB s G] at d5;have c2:Below W2.heap.size W4 L:=(A.trans (z.mono (by omega))).trans f5.2.1;replace d5:=qH d5;clear f5 G x0 x1 x2 x3 x4 x5 x6 p0 p1 p2 c0 l9 f4;go_wp2_with fail
   go_roundw
   case rel=>exact⟨k+1,by go_num,s,d5,c2⟩
   case measure=>simp[intOf];omega
  ·obtain rfl:k=cs.length:=(by omega);have Y:=(A.block w.heap.size (by omega)).trans P.out;have Z:=(A.block (w.heap.size+1) (by omega)).trans a3.out;have k7:Below w.heap.size w wr:=d4.trans (A.mono (by omega))
   have j8:g < wr.heap.size:=by
    obtain⟨_,y,_⟩:=O.out;exact(y.lt g rfl).2
   obtain⟨z0,z1,z2,z3,z4,z5,z6⟩:=box7' Y
   have a4:∀u∈(List.range ss.length).map f',u.oneCell'=true:=fun u hu=>by
    obtain⟨k,D,rfl⟩:=List.mem_map.1 hu;rw[List.mem_range] at D;obtain⟨_,_,_,_,_,e,_⟩:=c3.out k D;rw[e];rfl
   have HC:=qH (gA (w:=wr) ⟨b',c9,none⟩ ss.length c' ((List.range ss.length).map f') (by simp) (by omega) (fun j u l=>by
    have J:j < ss.length:=by
     have:=(List.getElem?_eq_some_iff.1 l).1
     simpa using this
    rw[List.getElem?_map,List.getElem?_range J] at l;injection l with l;rw[Addr.add_lit,<-l];exact AC k7 (c3.out j J).1) a4)
   have m8:=O;have i9:=qH Y;have i':=qH Z;clear O Y Z P a3;go_wp2_with fail
   refine HC.out.mono ?_;rintro e V ⟨v5,rfl,k0,z⟩;obtain⟨X,d3⟩:∃X:Nat->List Value,X=fun j=>[f' j]:=⟨_,rfl⟩
   have N:AA 180 1 GH V wr.heap.size v5 ss.length (FW [] ss X 0):=by
    refine⟨_,k0,LY,a4,fun j x l=>?_⟩
    have J:j < ss.length:=by
     have:=(List.getElem?_eq_some_iff.1 l).1
     rwa [LY] at this
    rw[LX J,if_neg (by omega)] at l;injection l with l;subst l;rw[Nat.mul_one,List.drop_eq_getElem_cons (by simpa using J),List.take_succ_cons,List.take_zero,d3];show[_] = [f' j]
    rw[List.getElem_map,List.getElem_range]
   obtain⟨B,I,rfl,n3⟩:=N.form (by omega);have H:=AN z i9.out;have c8:=AN z i'.out;have q6:=A.size;have q4:=d4.size;clear z0 z1 z2 z3 z4 z5 z6;obtain⟨z0,z1,z2,z3,z4,z5,z6⟩:=box7' H;have p4:=BG H;obtain⟨L,c1⟩:=AF (V.setCell ⟨w.heap.size,5,none⟩ (.slice (some ⟨B,0,none⟩) ss.length I));have k6:=heap_setCell_same V w.heap.size 5 _ _ (.slice (some ⟨B,0,none⟩) ss.length I) H;have d7:(V.setCell ⟨w.heap.size,5,none⟩ (.slice (some ⟨B,0,none⟩) ss.length I)).heap[w.heap.size+1]? = _:=(Below.heap_setCell V ⟨w.heap.size,5,none⟩ _ (w.heap.size+1) (by show w.heap.size+1 ≠ w.heap.size;omega)).trans c8;have j5:Below w.heap.size w (V.setCell ⟨w.heap.size,5,none⟩ (.slice (some ⟨B,0,none⟩) ss.length I)):=Below.setCell (p:=⟨w.heap.size,5,none⟩) (btt k7 z) (wC _) _;have Q:=AE.setCell (p:=⟨w.heap.size,5,none⟩) H (.slice (some ⟨B,0,none⟩) ss.length I);have b8:=N.other (GH.stab (by decide)) (by decide) Q;have Q:=(AE.below z).trans Q;rw[<-c1] at k6 d7 j5 b8 Q;have p8:w.heap.size+1 < L.heap.size:=(wD.1 d7).1
   have q5:wr.heap.size<=L.heap.size:=by
    have e:L.heap.size=V.heap.size:=(by rw[c1];simp[World.setCell]);have:=z.size
    omega
   replace b8:=qH b8;replace Q:=qH Q;replace d3:=qH d3;have P:=qH k6;have a3:=qH d7;replace c1:=qH c1;clear k6 d7 k0 N H c8 HC i9 i' a4;go_wp2_with fail
   rw[<-c1.out];obtain⟨wo,n'⟩:=AF (wr);subst n';go_loopw [48] (fun S wr=>∃k:Nat,S = .int .i64 k/\k<=ss.length/\Hid (AA 180 1 GH wr wo.heap.size (.slice (some ⟨B,0,none⟩) ss.length I) ss.length (FW [] ss X k))/\Below wo.heap.size L wr) (fun S _=>ss.length - (intOf S).toNat)
   case atStart=>exact⟨0,rfl,by omega,b8,wB _ _⟩
   case round=>
    clear b8;obtain⟨k,rfl,D,O,A⟩:=hrel;have a7:Below w.heap.size w wr:=j5.trans (A.mono (by omega));have Y:=(A.block w.heap.size (by omega)).trans P.out;obtain⟨x0,x1,x2,x3,x4,x5,x6⟩:=box7' Y;by_cases s:k < ss.length
    ·obtain⟨us,n9,E,c5⟩:=O.out.cells (LX (d:=[]) (f:=X) (i:=k) s);rw[if_neg (by omega)] at E;have E:us=X k:=E;rw[d3.out] at E;subst E;obtain⟨T,R⟩:=c3.out k s;obtain⟨v0,c6⟩:=AB (f' k);obtain⟨x,G⟩:=AB (ss.getD k []);have c0:=c5 0 v0 (by rw[<-c6];rfl);rw[Nat.mul_one,Nat.add_zero] at c0;rw[c6,G] at R;have n5:=hl.out x (by rw[<-G,AK s];exact wG s);obtain⟨za,zc,g6⟩:=R.shape;subst g6;have n4:(k:Int) < (ss.length:Int):=by omega
     have j8:B < wr.heap.size:=by
      obtain⟨_,y,_⟩:=O.out;exact(y.lt B rfl).2
     clear Y;go_wp2_with fail
     go_upto_region 11 with fail
     refine rK x5 (R.keep a7) n5 O.out s (by omega) n3 ?_;intro y5 y7 W7 f6 _ _;have d6:=f6.2.2 rfl;rw[aB s G] at d6;have c2:Below wo.heap.size L W7:=A.trans f6.2.1;replace d6:=qH d6;clear f6 G x0 x1 x2 x3 x4 x5 x6 c0;go_wp2_with fail
     go_roundw
     case rel=>exact⟨k+1,by go_num,s,d6,c2⟩
     case measure=>simp[intOf];omega
    ·obtain rfl:k=ss.length:=(by omega);have Z:=(A.block (w.heap.size+1) (by omega)).trans a3.out;have k8:AE 29 wo wr:=fun k cs t D ht=>(A.block k (wD.1 D).1).trans (Q.out k cs t D ht);obtain⟨z0,z1,z2,z3,z4,z5,z6⟩:=box7' Z;obtain⟨Wf,f9⟩:=AF (((((((wr.setCell ⟨w.heap.size+1,0,none⟩ (.int .i64 n)).setCell ⟨w.heap.size+1,1,none⟩ (.int .i64 i)).setCell ⟨w.heap.size+1,2,none⟩ (.int .i64 o)).setCell ⟨w.heap.size+1,3,none⟩ (.slice (some ⟨g,0,none⟩) cs.length C)).setCell ⟨w.heap.size+1,4,none⟩ (.int .i64 an)).setCell ⟨w.heap.size+1,5,none⟩ (.slice (some ⟨B,0,none⟩) ss.length I)).setCell ⟨w.heap.size+1,6,none⟩ (.int .i64 r));obtain⟨kf,g4,j6⟩:=dC Z (.int .i64 n) (.int .i64 i) (.int .i64 o) (.slice (some ⟨g,0,none⟩) cs.length C) (.int .i64 an) (.slice (some ⟨B,0,none⟩) ss.length I) (.int .i64 r) f9;have hC:=m8.out.other (FT.stab (by decide) (by decide)) (by decide) (k8.trans g4);have hS:=O.out.other (GH.stab (by decide)) (by decide) g4;have g2:LL Wf (.agg #[.int .i64 n,.int .i64 i,.int .i64 o,.slice (some ⟨g,0,none⟩) cs.length C,.int .i64 an,.slice (some ⟨B,0,none⟩) ss.length I,.int .i64 r]) n i o cs an ss r:=⟨_,_,_,_,_,_,_,_,rfl,hC,hS⟩;have c2:=j6 w w.heap.size a7 (by omega);obtain⟨e0,K,e2,e3,e4,e5,e6⟩:=box7' kf;replace g2:=qH g2;have n2:=BG Z;have m':=qH f9;clear O hC k8 g4 f9 hS kf j6;go_wp2_with fail
     rw[<-m'.out];clear x0 x1 x2 x3 x4 x5 x6 z0 z1 z2 z3 z4 z5 z6 n2;refine bodyPost_ret (v:=.agg #[.int .i64 n,.int .i64 i,.int .i64 o,.slice (some ⟨g,0,none⟩) cs.length C,.int .i64 an,.slice (some ⟨B,0,none⟩) ss.length I,.int .i64 r]) (by simp[results,Tryz.results74,go_sem,e0,K,e2,e3,e4,e5,e6]) rfl ?_;exact⟨_,rfl,g2.out,c2⟩
end Go.Proofs.YtcnedkkcgdkioaaGreat
namespace Go.Proofs.YtcnedkkcgdkioaaGreat
open Go.RowKit Go.ChangeMaps Go.MapKept Go.WideMaps
theorem AE.size {E:TypeId}{w w':World}{k:Nat}{cs:Array Value}{t:TypeId}(x:AE E w w') (h:w.heap[k]? = some (.cells cs t)) (a:t ≠ E):w'.heap[k]? = some (.cells cs t):=(x k cs t h a).trans h
theorem uX {r:List Int}(p:r.length=7) (h:EN r=0):∀x∈r,0<=x/\x<=31:=by
 obtain⟨c,d,e,g,i,j,f,rfl⟩:=LD p
 have o:DG c [d,e,g,i,j]=0:=by
  by_cases k:DG c [d,e,g,i,j]=0
  ·exact k
  ·rw[PR k] at h;exact h
 obtain⟨s,a⟩:=WI o;obtain⟨_,l,m⟩:=SA (RY h);have q:=UY (n:=c);intro x b;simp only[List.mem_cons,List.not_mem_nil,or_false] at b;have l:0<=f:=l;have m:f < CD c:=m;rcases b with rfl|b
 ·omega
 rcases b with rfl|rfl|rfl|rfl|rfl|rfl
 ·exact a x (by simp)
 ·exact a x (by simp)
 ·exact a x (by simp)
 ·exact a x (by simp)
 ·exact a x (by simp)
 ·omega
end Go.Proofs.YtcnedkkcgdkioaaGreat
namespace Go.Proofs.YtcnedkkcgdkioaaGreat
open Go.RowKit
theorem AA.mono {α:Type}{E:TypeId}{k:Nat}{El l:World->List Value->α->Prop}{w:World}{B:Nat}{v:Value}{n:Nat}{xs:List α}(h:AA E k El w B v n xs) (i:∀cs x,El w cs x->l w cs x):AA E k l w B v n xs:=by
 obtain⟨s,a,b,c,d⟩:=h;exact⟨s,a,b,c,fun j x e=>i _ _ (d j x e)⟩
def wL (ss:Jc):Nat->Nat->Jc
 | 0,_=>[[]]
 | m+1,s=>(ss.getD s []).flatMap fun v=>(wL ss m (CH v)).map (rdOf v::·)
theorem MI (ss:Jc):∀(m s:Nat),(wL ss m s).length=DX ss m s
 | 0,_=>rfl
 | m+1,s=>by
  rw[wL,DX,List.length_flatMap];congr 1
  refine List.map_congr_left fun v _=>?_;rw[List.length_map,MI ss m]
def IB (g:Nat) (w:World) (cs:List Value) (x:Jb):Prop:=∃u,cs = [u]/\AA 148 7 EI w 0 u x.length x/\u.ownBlock ≠ some g
theorem IB.stab (g:Nat) {E:TypeId}(h:148 ≠ E):CP E (IB g):=fun _ _ _ _ ⟨u,a,b,c⟩ x=>⟨u,a,b.other (EI.stab _) h x,c⟩
theorem AA.sameB {α:Type}{E:TypeId}{k:Nat}{El l:World->List Value->α->Prop}{w w':World}{B n:Nat}{v:Value}{xs:List α}(h:AA E k El w B v n xs) (p:∀g,v.ownBlock=some g->w'.heap[g]? = w.heap[g]?) (m:∀cs x,El w cs x->l w' cs x):AA E k l w' B v n xs:=by
 obtain⟨t,a,e,f,i⟩:=h;refine⟨t,⟨a.1,?_⟩,e,f,fun j x o=>m _ _ (i j x o)⟩;rcases a.2 with d|⟨g,c,u,b,q,r,s⟩
 ·exact .inl d
 ·exact .inr ⟨g,c,u,b,q,(p g (by rw[b];rfl)).trans r,s⟩
theorem AA.blockT {α:Type}{E:TypeId}{k:Nat}{El:World->List Value->α->Prop}{w:World}{B n:Nat}{v:Value}{xs:List α}(h:AA E k El w B v n xs) {g:Nat}(b:v.ownBlock=some g):B<=g/\g < w.heap.size/\∃cs,w.heap[g]? = some (.cells cs E):=by
 obtain⟨s,a,_⟩:=h;obtain⟨c,d⟩:=World.ownsRow.lt a g b;exact⟨c,d,EY a g b⟩
def JQ (w:World) (B g bo:Nat) (out:Jc):Prop:=∃o n,w.heap[bo]? = some (.cells #[o] 133 (0,0))/\AA 77 1 (IB g) w B o n out/\B<=bo
theorem JQ.keepG {w w':World}{B g bo:Nat}{out:Jc}(h:JQ w B g bo out) (f:∃cs,w.heap[g]? = some (.cells cs 148)) (k:∀j,j < w.heap.size->j ≠ g->w'.heap[j]? = w.heap[j]?):JQ w' B g bo out:=by
 obtain⟨y,n,d,i,m⟩:=h;obtain⟨cs,f⟩:=f
 have l:∀ {t:TypeId} {s:Array Value} {j:Nat},w.heap[j]? = some (.cells s t)->t ≠ 148->j ≠ g:=fun a q e=>by
  rw[e,f] at a;simp at a
  exact q a.2.symm
 have p:bo ≠ g:=l d (by decide);refine⟨y,n,(k bo (wD.1 d).1 p).trans d,i.sameB (fun j a=>?_) (fun s x v=>?_),m⟩
 ·obtain⟨_,b,s,c⟩:=i.blockT a;exact k j b (l c (by decide))
 ·obtain⟨u,r,b,c⟩:=v;refine⟨u,r,b.sameB (fun j a=>?_) (fun _ _ h=>h),c⟩;obtain⟨_,o,_⟩:=b.blockT a;exact k j o (fun e=>c (by rw[<-e];exact a))
def KW (B g bo:Nat) (w w':World):Prop:=Below B w w'/\∀(j:Nat) (c:Array Value) (t:TypeId),w.heap[j]? = some (.cells c t)->j ≠ g->j ≠ bo->t ≠ 77->w'.heap[j]? = w.heap[j]?
theorem KW.refl (B g bo:Nat) (w:World):KW B g bo w w:=⟨wB _ _,fun _ _ _ _ _ _ _=>rfl⟩
theorem KW.trans {B g bo:Nat}{a b c:World}(h:KW B g bo a b) (k:KW B g bo b c):KW B g bo a c:=⟨h.1.trans k.1,fun j s t l d e f=>by
 have i:=h.2 j s t l d e f;have m:b.heap[j]? = some (.cells s t):=i.trans l;exact(k.2 j s t m d e f).trans i⟩
theorem KW.below {B g bo:Nat}{w w':World}(h:Below w.heap.size w w') (a:B<=w.heap.size):KW B g bo w w':=⟨h.mono a,fun j _ _ b _ _ _=>h.block j (wD.1 b).1⟩
theorem KW.grown {B g bo:Nat}{w w':World}(h:w.grownBy w' (some g)) (c:B<=w.heap.size) (e:B<=g):KW B g bo w w':=
 ⟨(wB B w).grown h c (fun k a=>by injection a with a;omega),fun j _ _ d b _ _=>h.block j (wD.1 d).1 (by simp;exact b)⟩
theorem KW.box {B g bo:Nat}{w w':World}(h:KW B g bo w w') {b:Nat}{cs:Array Value}{t:TypeId}(a:w.heap[b]? = some (.cells cs t)) (c:b ≠ g) (d:b ≠ bo) (e:t ≠ 77):w'.heap[b]? = some (.cells cs t):=(h.2 b cs t a c d e).trans a
theorem AA.pre {E:TypeId}{w:World}{B g l cap:Nat}{x:Jb}{r:List Int}(h:AA E 7 EI w B (.slice (some ⟨g,0,none⟩) (l+1) cap) (l+1) (x ++ [r])) (c:x.length=l):AA E 7 EI w B (.slice (some ⟨g,0,none⟩) l cap) l x:=by
 obtain⟨v,a,D,f,i⟩:=h;have G:v.length=(l+1) * 7:=a.1;rcases a.2 with⟨e,_⟩|⟨C,A,d,k,p,q,H,s,t,z⟩
 ·cases e
 ·injection k with k _ kc;injection k with k;injection k with k;subst k kc;refine⟨v.take (l * 7),⟨by rw[List.length_take];omega,.inr ⟨g,cap,d,rfl,p,q,by omega,s,t,?_⟩⟩,c,fun u o=>f u (List.mem_of_mem_take o),fun j y b=>?_⟩
  ·rw[<-z,List.take_take,show min (l * 7) ((l+1) * 7)=l * 7 by omega]
  ·have F:j < l:=(by rw[<-c];exact(List.getElem?_eq_some_iff.1 b).1);have m:=i j y (by rw[List.getElem?_append_left (by omega)];exact b)
   have n:((v.take (l * 7)).drop (j * 7)).take 7=(v.drop (j * 7)).take 7:=by
    rw[List.drop_take,List.take_take,show min 7 (l * 7 - j * 7)=7 by omega]
   rw[n];exact m
theorem tW {w:World}{B g l cap:Nat}{x:Jb}{O:Array Oper}{o:Oper}{a:Act}{K:Act->World->Prop}{Q:Exit->Act->World->Prop}{R:Prop}(p:o.guard=none) (s y:Operand) {cs:List Value}{r:List Int}
  (A:o.op = .call { callee:=.builtin .append,args:=#[s,y],argTypes:=#[77,77] }) (hs:a.eval s = .slice (some ⟨g,0,none⟩) l cap) (C:AA 148 7 EI w B (.slice (some ⟨g,0,none⟩) l cap) l x) (e:Addr) (c:Nat) (H:a.eval y = .slice (some e) 1 c) (m:cs.length=7)
  (z:∀j u,cs[j]? = some u->w.cell? (e.add j)=some u) (f:∀u∈cs,u.oneCell'=true) (E:cs=r.map (Value.int .i64)) (F:l+1<=cap)
  (h:∀w',AA 148 7 EI w' B (.slice (some ⟨g,0,none⟩) (l+1) cap) (l+1) (x ++ [r])->w.grownBy w' (some g)->K (a.put o.dst (.slice (some ⟨g,0,none⟩) (l+1) cap)) w') :
  if Region.wanted o (yielded O a.tmps)=true then Oper.wp Tryz.prog o a w K Q else R:=by
 rw[if_pos (by simp[Region.wanted,p])];obtain⟨J,q,T,I,U⟩:=info_parts JX.2.1;obtain⟨v,k,L,M,N⟩:=C;obtain⟨w',D,i,n⟩:=run_append_own_spare (P:=Tryz.prog) w B 77 o.type 148 J 7 JX.1 q I g l cap v k e 1 c cs (by simpa using m) z f F;unfold Oper.wp execOp;simp only[A,resolve,invoke,builtin,Sem.run_bind,Sem.run_pure,Result.andThen_ok,List.map_toArray,List.map_cons,List.map_nil,hs,H,D];have G:v.length=l * 7:=k.1;refine h w' ⟨v++cs,i,by simp[L],fun u d=>?_,fun j y b=>?_⟩ n
 ·rcases List.mem_append.1 d with d|d
  ·exact M u d
  ·exact f u d
 ·by_cases S:j < l
  ·rw[List.getElem?_append_left (by omega)] at b;rw[List.drop_append_of_le_length (by omega),List.take_append_of_le_length (by rw[List.length_drop];omega)];exact N j y b
  ·rw[List.getElem?_append_right (by omega)] at b
   have t:j - x.length=0:=by
    have:=(List.getElem?_eq_some_iff.1 b).1
    simpa using this
   rw[t] at b;simp only[List.getElem?_cons_zero,Option.some.injEq] at b;subst b;obtain rfl:j=l:=(by omega);rw[<-G,List.drop_left,List.take_of_length_le (by omega)];exact E
end Go.Proofs.YtcnedkkcgdkioaaGreat

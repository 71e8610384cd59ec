/- Texts of this claim, put together: OG OH OJ OK. -/
import Derived.Test.YtcnedkkcgdkioaaGreatKBz
import Derived.Test.YtcnedkkcgdkioaaGreatKBx

set_option maxRecDepth 100000
set_option maxHeartbeats 12800000
namespace Go.Proofs.YtcnedkkcgdkioaaGreat
open Go.RowKit Go.ChangeMaps Go.MapKept Go.WideMaps
theorem VW {B:Nat}{w W:World}(h:Below B w W) {b:Nat}(c:B<=b) (o:Obj):Below B w (setBlock W b o):=
 ⟨h.os,h.tape,h.output,by simpa [Go.ChangeMaps.setBlock] using h.size,fun k a=>(dD o (by omega)).trans (h.block k a)⟩
def DZ (ss:Jc) (i:Nat):List (List Int × Nat):=(List.range i).flatMap fun j=>(ss.getD j []).map fun x=>(x,j)
theorem ZH (ss:Jc) (i:Nat):DZ ss (i+1)=DZ ss i++(ss.getD i []).map fun x=>(x,i):=by
 unfold DZ;rw[List.range_succ,List.flatMap_append];simp
theorem QE {ss:Jc}(h:∀s∈ss,s.length<=1000):∀i,(DZ ss i).length<=i * 1000
 | 0=>by simp[DZ]
 | i+1=>by
  rw[ZH,List.length_append,List.length_map];have:=QE h i
  have b:(ss.getD i []).length<=1000:=by
   by_cases a:i < ss.length
   ·rw[AK a];exact h _ (wG a)
   ·rw[List.getD_eq_getElem?_getD,List.getElem?_eq_none (by omega)];decide
  omega
theorem TT (m:List (List Int × Nat)) (r:List Int):(CB m r).length<=m.length:=by
 unfold CB;rw[List.length_map];exact List.length_filter_le _ _
theorem ZI {w:World}{v:Value}{ss:Jc}(hK:BT 2 w v ss) (hW:∀s∈ss,∀x∈s,IF x) (hn:ss.length<=100000) (V:∀s∈ss,s.length<=1000) :
  Calls Tryz.prog 93 #[v] w fun e w'=>∃b,e = .returned (.map (some b))/\EM w' b w.heap.size (DZ ss ss.length)/\Below w.heap.size w w':=by
 obtain⟨va,vc,vb,vo,rfl,ha,hc,-⟩:=hK;obtain⟨n,c7⟩:=AB (ss.length);have e7:=qH (fun c (C:c < n)=>hc c (by omega));have f2:=qH (QE V)
 have e2:=qH (fun i (hi:i < n) c (C:c < (ss.getD i []).length)=>(show IF ((ss.getD i []).getD c []) by
  rw[AK C];refine hW _ ?_ _ (wG C);rw[AK (by omega)];exact wG _))
 have e':=qH (fun i (hi:i < n)=>(show(ss.getD i []).length<=1000 by rw[AK (by omega)];exact V _ (wG _)));have f6:=qH (ZH ss);rw[c7] at ha hn|-;clear hc V hW c7;have G:EM (w.alloc (.map #[] 0)) w.heap.size w.heap.size (DZ ss 0):=⟨[],MS.made w,by simp,FU.nil _ _⟩;have b7:Below w.heap.size w (w.alloc (.map #[] 0)):=(wB _ w).alloc (wC _) _;replace G:=qH G;have h3:=@run_makeMap Tryz.prog;go_enter Tryz.func93, Tryz.ntmps93
 go_wp2_with fail
 go_loopw [11] (fun iv wr=>∃i:Nat,iv = .int .i64 i/\i<=n/\Hid (EM wr w.heap.size w.heap.size (DZ ss i))/\Below w.heap.size w wr) (fun iv _=>n - (intOf iv).toNat)
 case atStart=>exact⟨0,rfl,by omega,G,b7⟩
 case round=>
  clear G b7;obtain⟨i,rfl,hi,T,h⟩:=hrel;by_cases E:i < n
  ·have h0:(i:Int) < (n:Int):=(by omega);obtain rfl:=ha (by omega);obtain⟨u,q,c3⟩:=e7.out i E;replace q:=AC h q;obtain⟨s,Z⟩:=AB (ss.getD i []);have B:=e2.out i E;have f1:=e'.out i E;have p:=f6.out i
   have N:Hid (EM wr w.heap.size w.heap.size (DZ ss i++(s.take 0).map fun x=>(x,i))):=by
    show EM _ _ _ _;simpa using T.out
   rw[Z] at c3 B f1 p;have c4:=f2.out i;obtain⟨F,M⟩:=AB (DZ ss i);rw[M] at N p c4;have p:=qH p;have B:=qH B;replace M:=qH M;replace Z:=qH Z;have h2:F.length<=100000000:=(by omega);clear T c4;obtain⟨sa,sc,sb,so,rfl,f5,a0,-⟩:=c3;replace a0:=qH a0;obtain⟨wo,f7⟩:=AF (wr);subst f7;go_wp2_with fail
   go_loopw [18] (fun jv wr=>∃c:Nat,jv = .int .i64 c/\c<=s.length/\Hid (EM wr w.heap.size w.heap.size (F++(s.take c).map fun x=>(x,i)))/\Below w.heap.size w wr) (fun jv _=>s.length - (intOf jv).toNat)
   case atStart=>exact⟨0,rfl,by omega,N,h⟩
   case round=>
    clear N q h;obtain⟨c,rfl,C,T,h⟩:=hrel;by_cases D:c < s.length
    ·have h1:(c:Int) < (s.length:Int):=(by omega);obtain rfl:=f5 (by omega);obtain⟨x2,xi⟩:=a0.out c D;have c9:=B.out c D;have I:=BY D ([]:List Int);obtain⟨x,hx⟩:=AB (s.getD c []);rw[hx] at x2 xi c9 I;obtain⟨d,b,rfl⟩:=BZ x2;obtain⟨c0,c1⟩:=xi.all2;replace c0:=AC h c0;replace c1:=AC h c1;replace I:=qH I;replace hx:=qH hx;clear x2 xi;obtain⟨f,A⟩:=AF (wr.alloc (.cells #[.int .i64 d,.int .i64 b] 83));have e6:Below wr.heap.size wr f:=(by rw[A];exact(wB _ _).alloc (wC _) _);have kM:f.heap[wr.heap.size]? = some (.cells #[.int .i64 d,.int .i64 b] 83):=(by rw[A];exact wE _ _);obtain⟨g,k⟩:=AF (f.alloc (.cells #[.int .i64 (i:Int)] 3));have c':g.heap.size=f.heap.size+1:=(by rw[k];simp);have a3:f.heap.size=wr.heap.size+1:=(by rw[A];simp);have b6:Below f.heap.size f g:=(by rw[k];exact(wB _ _).alloc (wC _) _);have R:=btt e6 b6;have d2:g.heap[f.heap.size]? = some (.cells #[.int .i64 (i:Int)] 3):=(by rw[k];exact wE _ _);have g':=h.size;obtain⟨z0,z1⟩:=BA kM;obtain⟨P,o⟩:∃P,F++(s.take c).map (fun x=>(x,i))=P:=⟨_,rfl⟩;rw[o] at T;obtain⟨K,st,d7,k1,r,⟨g6,g4,c5⟩,O,t⟩:=(T.out.keep R).entry (a:=([d,b],i)) c9
     have g8:P.length<=200000000:=by
      rw[<-o,List.length_append,List.length_map,List.length_take];omega
     have e9:=TT P [d,b];obtain⟨W,l⟩:=AF (setBlock g w.heap.size (.map d7 k1));have f8:∀b0,AE b0 g W:=fun b0=>by rw[l];exact QG c5 _
     have d0:W.heap.size=g.heap.size:=(by rw[l];simp[setBlock]);rw[<-l] at r O t;obtain⟨l0,Y⟩:=AB ((CB P [d,b]).length);obtain⟨X0,X⟩:=AB (BF (CB P [d,b]));have O:OI W w.heap.size K (CB P [d,b]).length (BF (CB P [d,b])):=O;have t:∀(m:World) (v':Value),W.grownBy m K.ownBlock->IW W K v'->OI m w.heap.size v' ((CB P [d,b]).length+1) (BF (CB P [d,b]) ++ [(i:Int)])->∃y c2,(Instr.entryStore 164 (.map (some w.heap.size)) (goInt st) v').run Tryz.prog m = .ok () (setBlock m w.heap.size (.map y c2))/\(∃es d5,m.heap[w.heap.size]? = some (.map es d5))/\EM (setBlock m w.heap.size (.map y c2)) w.heap.size w.heap.size (P ++ [([d,b],i)]):=t;rw[Y] at O t e9;rw[X] at O t;replace Y:=qH Y;replace X:=qH X;have r:(Instr.mapEntry 164 (.map (some w.heap.size)) (.agg #[.int .i64 d,.int .i64 b])).run Tryz.prog g = .ok (.tuple #[K,.int .i64 (st:Int)]) W:=r;have d3:=(f8 83).size d2 (by decide)
     have H:∀(J:Nat) (u:Value),[Value.int .i64 (i:Int)][J]? = some u->W.cell? ((⟨f.heap.size,0,none⟩:Addr).add J)=some u:=fun J u U=>by
      have e8:J=0:=(by have:=(List.getElem?_eq_some_iff.1 U).1;simpa using this);subst e8;simp only[List.getElem?_cons_zero,Option.some.injEq] at U;subst U;exact AO (j:=0) d3 rfl
     have S:∀u ∈ [Value.int .i64 (i:Int)],u.oneCell'=true:=fun u q=>by rw[List.mem_singleton.1 q];rfl
     have d':=O.owx;have f0:l0<=1000000000000:=(by omega);have d8:w.heap.size<=W.heap.size:=(by omega);have e3:Below w.heap.size w W:=(by rw[l];exact VW (btt h R) (wC _) _);rw[k] at r;rw[A] at z0 z1 r;have g9:=qH a3;replace H:=qH H;replace S:=qH S;replace k:=qH k;replace l:=qH l;replace c':=qH c';replace d0:=qH d0;replace o:=qH o;rw[a3] at H;clear kM d2 d3 O b6 c5 T R a3;go_wp2_with (at_builtin;refine VE (cs:=[.int .i64 (i:Int)]) (x:=(i:Int)) XU (by decide) (by decide) (LJ.stab _) rfl _ _ rfl rfl d' ⟨wr.heap.size+1,0,none⟩ 1 rfl rfl H.out S.out rfl f0 d8 ?_)
     intro v6 w6 c8 b9 c6 e4 h4;obtain⟨y,k2,a1,⟨g7,g5,f3⟩,Q⟩:=t w6 v6 b9 c6 c8.oi;obtain⟨L,z⟩:=AF (setBlock w6 w.heap.size (.map y k2));rw[<-z] at a1 Q;have a1:(Instr.entryStore 164 (.map (some w.heap.size)) (.int .i64 (st:Int)) v6).run Tryz.prog w6 = .ok () L:=a1;have e5:Below w.heap.size w L:=by rw[z];exact VW (e3.trans e4) (wC _) _
     have e1:Hid (EM L w.heap.size w.heap.size (F++(s.take (c+1)).map fun x=>(x,i))):=by
      show EM _ _ _ _;rw[I.out,List.map_append,<-List.append_assoc,o.out];exact Q
     replace z:=qH z;clear t c8 b9 c6 r f3 Q;go_wp2;go_roundw
     case rel=>exact⟨c+1,by go_num,D,e1,e5⟩
     case measure=>simp[intOf];omega
    ·obtain rfl:c=s.length:=by omega
     have e0:Hid (EM wr w.heap.size w.heap.size (DZ ss (i+1))):=by
      show EM _ _ _ _;have:=T.out
      rw[List.take_length] at this;rw[p.out];exact this
     clear T;go_wp2;go_roundw
     case rel=>exact⟨i+1,by go_num,E,e0,h⟩
     case measure=>simp[intOf];omega
  ·obtain rfl:i=n:=(by omega);go_wp2;go_ret;exact⟨_,rfl,T.out,h⟩
end Go.Proofs.YtcnedkkcgdkioaaGreat
namespace Go.Proofs.YtcnedkkcgdkioaaGreat
open Go.RowKit
def EP (s t:Jb):Bool:=decide (s.length < t.length) && DS s t
theorem iR {w:World}{p b5 i:Nat}{u v:Value}{ss:Jc}{s:Jb}(c:w.cell? ⟨p,0,none⟩=some u) (d:w.cell? ⟨b5,0,none⟩=some v) (h:EB 2 w u ss) (hs:CO 2 w v s) (y:i < ss.length) :
  Calls Tryz.prog 150 #[.int .i64 (i:Int),.pointer (some ⟨p,0,none⟩),.pointer (some ⟨b5,0,none⟩)] w fun e w'=>e = .returned (.bool (EP s (ss.getD i [])))/\Below w.heap.size w w':=by
 have A : Tryz.prog.follows .mixedOrders=true:=by kernel_rfl
 obtain⟨U,X,V,Y,rfl,N,r,-⟩:=h;obtain rfl:=N (by omega);obtain⟨x,E,k⟩:=r i y;obtain⟨t,D⟩:=AB (ss.getD i []);rw[D] at k|-;obtain⟨n,B⟩:=AB (ss.length);rw[B] at c y;have P:(i:Int) < (n:Int):=by omega
 have H:=qH (fun W (b:Below w.heap.size w W)=>jS (hs.ks.keep b) (k.keep b));obtain⟨Q,R,rfl⟩:=hs.shape;obtain⟨S,T,rfl⟩:=k.shape;have a:=qH (fun W (b:Below w.heap.size w W)=>And.intro (AC b c) (And.intro (AC b d) (AC b E)));obtain⟨m,l⟩:=AB (s.length);obtain⟨o,j⟩:=AB (t.length);unfold EP;rw[l,j];rw[l] at d;simp only[l,j] at H a;obtain⟨F,f⟩:=AB (DS s t);rw[f];simp only[f] at H;clear f D B k hs r c d E l j;by_cases z:m < o
 ·have M:decide ((m:Int) < (o:Int))=true:=vZ (by omega);rw[vZ z,Bool.true_and];go_enter Tryz.func150, Tryz.ntmps150
  go_wp2_with fail
  refine CW A (by kernel_rfl) ?_
  repeat (refine WQ.step fun K h=>?_;go_simp;first|(refine h _ ?_;clear h K)|(apply Exists.intro;refine⟨fun q C=>?_,h _ ?_⟩;(·(first|with_reducible rfl|(obtain⟨G,I,J⟩:=a.out q C;go_simp;first|done|with_reducible rfl|with_reducible exact⟨rfl,rfl⟩)));clear h K))
  (refine WQ.step fun K h=>?_;go_simp;first|(refine h _ ?_;clear h K)|(apply Exists.intro;refine⟨fun q C=>?_,h _ ?_⟩;(·(refine(H.out q C).mono ?_;rintro e w' ⟨rfl,L⟩;exact⟨rfl,btt C L⟩));clear h K))
  repeat (refine WQ.step fun K h=>?_;go_simp;first|(refine h _ ?_;clear h K)|(apply Exists.intro;refine⟨fun q C=>?_,h _ ?_⟩;(·(first|with_reducible rfl|(go_simp;first|done|with_reducible rfl|with_reducible exact⟨rfl,rfl⟩)));clear h K))
  refine WQ.nil ?_;intro O g;go_wp2;go_ret;exact⟨rfl,g⟩
 ·have M:decide ((m:Int) < (o:Int))=false:=vY (by omega);rw[vY z,Bool.false_and];go_enter Tryz.func150, Tryz.ntmps150
  go_wp2_with fail
  refine CW A (by kernel_rfl) ?_
  repeat (refine WQ.step fun K h=>?_;go_simp;first|(refine h _ ?_;clear h K)|(apply Exists.intro;refine⟨fun q C=>?_,h _ ?_⟩;(·(first|with_reducible rfl|(obtain⟨G,I,J⟩:=a.out q C;go_simp;first|done|with_reducible rfl|with_reducible exact⟨rfl,rfl⟩)));clear h K))
  refine WQ.nil ?_;intro O g;go_wp2;go_ret;exact⟨rfl,g⟩
theorem lT {w:World}{A b5:Nat}{u v z:Value}{ss:Jc}{s:Jb}{L:List Nat}(B:w.cell? ⟨A,0,none⟩=some u) (D:w.cell? ⟨b5,0,none⟩=some v) (K:EB 2 w u ss) (hs:CO 2 w v s) (O:AR w z (BF L)) (G:∀i∈L,i < ss.length) :
  Calls Tryz.prog 201 #[z,.func (.func 150) #[] #[.pointer (some ⟨A,0,none⟩),.pointer (some ⟨b5,0,none⟩)]] w fun e w'=>∃k:Int,e = .returned (.int .i64 k)/\decide (0<=k)=L.any (fun i=>EP s (ss.getD i []))/\Below w.heap.size w w':=by
 have M:=qH (fun W (l:Below w.heap.size w W) i (H:i∈L)=>iR (AC l B) (AC l D) (K.keep l) (hs.keep l) (G i H));obtain⟨za,zc,zb,zo,rfl,I,J,Z⟩:=O;obtain⟨E,c⟩:∃E,L.any (fun i=>EP s (ss.getD i []))=E:=⟨_,rfl⟩;rw[c];have m:(BF L).length=L.length:=by unfold BF;rw[List.length_map]
 obtain⟨n,b⟩:=AB (L.length)
 have R:Hid (∀j,j < n->w.cell? ⟨zb,zo+j,none⟩=some (.int .i64 ((L.getD j 0:Nat):Int))):=fun j a=>by
  have:=J j (by rw[m,b];exact a)
  rw[this,AK (by rw[m,b];exact a),AK (by rw[b];exact a)];simp[BF]
 have Y:Hid (∀j,j < n->EP s (ss.getD (L.getD j 0) [])=true->E=true):=fun j a h=>by
  rw[<-c,List.any_eq_true];exact⟨L.getD j 0,by rw[AK (by rw[b];exact a)];exact wG _,h⟩
 have V:Hid ((∀j,j < n->EP s (ss.getD (L.getD j 0) [])=false)->E=false):=fun h=>by
  rw[<-c,List.any_eq_false];intro a4 X;obtain⟨j,a,rfl⟩:=List.getElem_of_mem X;have:=h j (by rw[<-b];exact a)
  rw[AK a] at this;intro F;rw[this] at F;cases F
 have U:Hid (∀j,j < n->L.getD j 0∈L):=fun j a=>by rw[AK (by rw[b];exact a)];exact wG _
 rw[m,b] at I Z|-;replace c:=qH c;clear b m J B D K hs G;go_enter Tryz.func201, Tryz.ntmps201
 go_wp2_with fail
 go_loopw [8] (fun x wr=>∃i:Nat,x = .int .i64 i/\i<=n/\Hid (∀j,j < i->EP s (ss.getD (L.getD j 0) [])=false)/\Below w.heap.size w wr) (fun x _=>n - (intOf x).toNat)
 case atStart=>exact⟨0,rfl,by omega,fun j a=>absurd a (Nat.not_lt_zero _),wB _ w⟩
 case round=>
  obtain⟨i,rfl,H,g,r⟩:=hrel;by_cases t:i < n
  ·have a3:(i:Int) < (n:Int):=(by omega);obtain rfl:=I (by omega);have N:=AC r (R.out i t);have f:=M.out wr r _ (U.out i t);have y:=Y.out i t;obtain⟨q,o⟩:=AB (L.getD i 0);rw[o] at N f y;obtain⟨C,d⟩:=AB (EP s (ss.getD q []));rw[d] at f y;replace f:=qH f;have T:decide ((0:Int)<=(i:Int))=true:=vZ (by omega);cases C
   ·have S:Hid (∀j,j < i+1->EP s (ss.getD (L.getD j 0) [])=false):=fun j a=>by
     rcases Nat.lt_or_ge j i with h|h
     ·exact g.out j h
     ·obtain rfl:j=i:=(by omega);rw[o];exact d
    clear o d y g;go_wp2_with fail
    refine f.out.mono ?_;rintro e w3 ⟨rfl,p⟩;go_wp2_with fail
    go_roundw
    case rel=>exact⟨i+1,by go_num,by omega,S,btt r p⟩
    case measure=>simp[intOf];omega
   ·have Q:=qH (y rfl);clear o d y g;go_wp2_with fail
    refine f.out.mono ?_;rintro e w3 ⟨rfl,p⟩;go_wp2;go_ret;exact⟨_,rfl,by rw[Q.out];exact T,btt r p⟩
  ·obtain rfl:i=n:=(by omega);have P:=qH (V.out g.out);clear g;go_wp2;go_ret;exact⟨_,rfl,by rw[P.out];rfl,r⟩
theorem iK {w:World}{b b5:Nat}{u v z:Value}{ss:Jc}{s:Jb}{L:List Nat}(c:w.cell? ⟨b,0,none⟩=some u) (a:w.cell? ⟨b5,0,none⟩=some v) (K:EB 2 w u ss) (hs:CO 2 w v s) (h:AR w z (BF L)) (f:∀i∈L,i < ss.length) :
  Calls Tryz.prog 149 #[z,.func (.func 150) #[] #[.pointer (some ⟨b,0,none⟩),.pointer (some ⟨b5,0,none⟩)]] w fun e w'=>e = .returned (.bool (L.any fun i=>EP s (ss.getD i [])))/\Below w.heap.size w w':=by
 have H:=qH (lT c a K hs h f);obtain⟨o,p,_,_,rfl,_⟩:=h;obtain⟨E,d⟩:∃E,L.any (fun i=>EP s (ss.getD i []))=E:=⟨_,rfl⟩;rw[d] at H|-;obtain⟨l,n⟩:=AB ((BF L).length);rw[n] at H|-;clear d n c a K hs f;go_enter Tryz.func149, Tryz.ntmps149
 go_wp2_with fail
 refine H.out.mono ?_;rintro e m ⟨k,rfl,j,g⟩;go_wp2;go_ret;exact⟨rfl,g⟩
theorem XN {w:World}{u v z:Value}{ss:Jc}{s:Jb}{L:List Nat}(K:EB 2 w u ss) (hs:CO 2 w v s) (A:AR w z (BF L)) (j:∀i∈L,i < ss.length) :
  Calls Tryz.prog 94 #[u,z,v] w fun e w'=>e = .returned (.bool (L.any fun i=>EP s (ss.getD i [])))/\Below w.heap.size w w':=by
 obtain⟨a,c,p⟩:=K.shape;obtain⟨d,f,q⟩:=hs.shape;subst p q;obtain⟨W,h⟩:=AF ((w.alloc (.cells #[.slice a ss.length c] 55)).alloc (.cells #[.slice d s.length f] 38));have b:Below w.heap.size w W:=by rw[h];exact((wB _ w).alloc (wC _) _).alloc (by simp) _
 have m:W.heap[w.heap.size]? = some (.cells #[.slice a ss.length c] 55):=by
  rw[h];exact(Below.heap_alloc _ _ _ (by simp)).trans (wE w _)
 have B:W.heap[w.heap.size+1]? = some (.cells #[.slice d s.length f] 38):=by
  rw[h];have:=wE (w.alloc (.cells #[.slice a ss.length c] 55)) (.cells #[.slice d s.length f] 38)
  rwa [World.size_alloc] at this
 have H:=iK (wJ m) (wJ B) (K.keep b) (hs.keep b) (A.keep b) j;obtain⟨C,D,_,_,rfl,_⟩:=A;obtain⟨r,n⟩:=AB (ss.length);obtain⟨t,k⟩:=AB (s.length);obtain⟨E,g⟩:∃E,L.any (fun i=>EP s (ss.getD i []))=E:=⟨_,rfl⟩;rw[g] at H|-;rw[n,k] at h|-;obtain⟨x,l⟩:=AB ((BF L).length);rw[l] at H|-;replace H:=qH H;clear g n k m B K hs j l;go_enter Tryz.func94, Tryz.ntmps94
 go_wp2_with fail
 rw[<-h];replace h:=qH h;refine H.out.mono ?_;rintro e y ⟨rfl,o⟩;go_wp2;go_ret;exact⟨rfl,btt b o⟩
theorem heap_setCell_other {w:World}{p:Addr}{v:Value}{k:Nat}(h:k ≠ p.block):(w.setCell p v).heap[k]? = w.heap[k]?:=Below.heap_setCell w p v k h
theorem UR {b:Nat}{E:TypeId}:∀(vs:List Value) (o:Nat) (w:World) (c:Array Value),w.heap[b]? = some (.cells c E)->
  ∃u,(w.setCells b o vs).heap[b]? = some (.cells u E)/\u.size=c.size/\u.toList.take o=c.toList.take o/\(∀k,k ≠ b->(w.setCells b o vs).heap[k]? = w.heap[k]?)/\
   (w.setCells b o vs).heap.size=w.heap.size/\(w.setCells b o vs).os=w.os/\(w.setCells b o vs).tape=w.tape/\(w.setCells b o vs).output=w.output
 | [],o,w,c,h=>⟨c,h,rfl,rfl,fun _ _=>rfl,rfl,rfl,rfl,rfl⟩
 | v::vs,o,w,c,h=>by
  have d:=heap_setCell_same w b o c E v h;obtain⟨u,e,f,g,i,j,l,m,n⟩:=UR vs (o+1) (w.setCell ⟨b,o,none⟩ v) _ d;refine⟨u,e,by rw[f];simp,?_,fun k a=>(i k a).trans (heap_setCell_other a),j.trans (by simp[World.setCell]),l,m,n⟩;have:=congrArg (List.take o) g
  rw[List.take_take,List.take_take,Nat.min_eq_left (Nat.le_succ o)] at this;rw[this,Array.toList_setIfInBounds,List.take_set,List.set_eq_of_length_le (by rw[List.length_take];exact Nat.min_le_left _ _)]
def WK (w:World) (vs:List Value) (s:Jc):Prop:=vs.length=s.length/\∀(j:Nat) (v:Value) (u:Jb),vs[j]? = some v->s[j]? = some u->CO 2 w v u
theorem CO.oneCell {k:Nat}{w:World}{v:Value}{xs:Jb}(h:CO k w v xs):v.oneCell'=true:=by obtain⟨_,_,_,_,rfl,_⟩:=h;rfl
def DP (w0:World) (_:World) (cs:List Value) (x:Jb):Prop:=∃u,cs = [u]/\CO 2 w0 u x
theorem DP.stab (w0:World) (E:TypeId):CP E (DP w0):=fun _ _ _ _ h _=>h
theorem AA.ofWK {w0 w:World}{B n:Nat}{E:TypeId}{v:Value}{vs:List Value}{s:Jc}(h:w.ownsRow B E 1 v n vs) (W:WK w0 vs s):AA E 1 (DP w0) w B v n s:=by
 have l:vs.length=n:=by have:=h.1;omega
 refine⟨vs,h,by rw[<-W.1,l],fun u c=>?_,fun j x a=>?_⟩
 ·obtain⟨j,a,rfl⟩:=List.getElem_of_mem c;exact(W.2 j _ (s.getD j []) (List.getElem?_eq_getElem a) (by rw[AK (by rw[<-W.1];exact a)];exact List.getElem?_eq_getElem (by rw[<-W.1];exact a))).oneCell
 ·have b:j < vs.length:=by rw[W.1];exact(List.getElem?_eq_some_iff.1 a).1
  refine⟨vs[j],?_,W.2 j _ x (List.getElem?_eq_getElem b) a⟩;rw[Nat.mul_one,List.drop_eq_getElem_cons b];rfl
theorem AA.toWK {w0 w:World}{B n:Nat}{E:TypeId}{v:Value}{s:Jc}(h:AA E 1 (DP w0) w B v n s):∃vs,w.ownsRow B E 1 v n vs/\WK w0 vs s:=by
 obtain⟨vs,b,f,_,g⟩:=h;have l:vs.length=n:=by have:=b.1;omega
 refine⟨vs,b,by rw[l,f],fun j v u a i=>?_⟩;obtain⟨m,e,k⟩:=g j u i;have c:=(List.getElem?_eq_some_iff.1 a).1;rw[Nat.mul_one,List.drop_eq_getElem_cons c] at e;rw[List.getElem?_eq_getElem c] at a;injection a with a;have d:vs[j]=m:=by injection e
 rw[<-a,d];exact k
theorem AA.kcell {w0 w:World}{B g n cap:Nat}{E:TypeId}{s:Jc}(h:AA E 1 (DP w0) w B (.slice (some ⟨g,0,none⟩) n cap) n s) {j:Nat}(d:j < n):∃u,w.cell? ⟨g,j,none⟩=some u/\CO 2 w0 u (s.getD j []):=by
 obtain⟨v,b,a⟩:=h.toWK;have l:v.length=n:=by have:=b.1;omega
 have c:=World.ownsRow.cellAt b j (by omega);rw[List.getElem?_eq_getElem (by omega)] at c;refine⟨_,c,a.2 j _ _ (List.getElem?_eq_getElem (by omega)) ?_⟩;rw[AK (by rw[<-a.1];omega)];exact List.getElem?_eq_getElem (by rw[<-a.1];omega)
theorem AA.kssK {w0 w:World}{B n:Nat}{E:TypeId}{v:Value}{s:Jc}(h:AA E 1 (DP w0) w B v n s) (e:Below w0.heap.size w0 w) (o:n<=1000000):EB 2 w v s:=by
 have l:=h.length;obtain⟨a,c,rfl⟩:=h.shape;subst l;have p:=(AA.capM h).1;rcases Nat.eq_zero_or_pos s.length with d|d
 ·exact⟨a,c,0,0,rfl,fun h=>absurd h (by omega),fun j b=>absurd b (by omega),by omega,p⟩
 ·obtain⟨g,m,f,_⟩:=h.form d;injection f with e1 e2 e3;subst e1 e3;refine⟨_,_,g,0,rfl,fun _=>rfl,fun j b=>?_,by omega,p⟩;obtain⟨u,i,k⟩:=h.kcell b;exact⟨u,by rw[Nat.zero_add];exact i,k.keep e⟩
open Go.Shelf Go.Lib Go.Sort
theorem YU {w w':World}(h:Go.RowKit.Below w.heap.size w w') (g:w.drawn<=w'.drawn):∃q os,w'=grow (w.drewN q) os:=by
 refine⟨w'.drawn - w.drawn,w'.heap.extract w.heap.size w'.heap.size,?_⟩
 have e:w'.heap=w.heap++w'.heap.extract w.heap.size w'.heap.size:=by
  apply Array.ext_getElem?
  intro k;by_cases f:k < w.heap.size
  ·rw[Array.getElem?_append_left f];exact h.block k f
  ·have s:=h.size;rw[Array.getElem?_append_right (by omega),Array.getElem?_extract];by_cases j:k < w'.heap.size
   ·rw[if_pos (by omega)];congr 1;omega
   ·rw[if_neg (by omega),Array.getElem?_eq_none (by omega)]
 have a:=h.os;have b:=h.tape;have c:=h.output;have d:w.drawn+(w'.drawn - w.drawn)=w'.drawn:=by omega
 cases w with
 | mk p l r os u=>
  cases w' with
  | mk i m n o t=>
   simp only at a b c e d
   subst a b c;simp only[grow,World.drewN];rw[d,<-e]
theorem ZD {α:Type} [Inhabited α] {enc:α->Value}{w:World}{b k:Nat}(o n:Nat) (d:Array α) (os:Array Obj) (e:k ≠ b) (a:k < w.heap.size):(sortWorld enc w b o n d os).heap[k]? = w.heap[k]?:=by
 simp only[sortWorld,grow,putRow,mapBlock,Sort.ahead];rw[Array.getElem?_append_left (by simpa using a),Array.getElem?_modify,if_neg (fun h=>e h.symm)]
theorem ZE {α:Type} [Inhabited α] {enc:α->Value}{w:World}{b:Nat}(o n:Nat) (d:Array α) (os:Array Obj) {cs:Array Value}{t:TypeId}{f:Nat × Nat}(h:w.heap[b]? = some (.cells cs t f)):(sortWorld enc w b o n d os).heap[b]? = some (.cells (putCells enc o d cs) t f):=by
 simp only[sortWorld,grow,putRow,mapBlock,Sort.ahead];rw[Array.getElem?_append_left (by simpa using (wD.1 h).1),Array.getElem?_modify,if_pos rfl,h];rfl
theorem RT {α:Type} [Inhabited α] {enc:α->Value}{w:World}{b:Nat}(n:Nat) (d:Array α) (os:Array Obj) {B:Nat}(h:B<=b) (a:b < w.heap.size):Go.RowKit.Below B w (sortWorld enc w b 0 n d os):=by
 refine⟨rfl,rfl,rfl,?_,fun k c=>ZD _ _ _ _ (by omega) (by omega)⟩;simp[sortWorld,grow,putRow,mapBlock,Sort.ahead]
theorem bY {α:Type} [Inhabited α] (enc:α->Value) (d:Array α) (cs:Array Value) (a:d.size<=cs.size):(putCells enc 0 d cs).toList.take d.size=d.toList.map enc:=by
 apply List.ext_getElem?
 intro k;rw[List.getElem?_take];by_cases h:k < d.size
 ·rw[if_pos h,Array.getElem?_toList];simp only[putCells,Array.getElem?_mapIdx];rw[Array.getElem?_eq_getElem (by omega:k < cs.size)];simp[h]
 ·rw[if_neg h,List.getElem?_eq_none (by simp;omega)]
def DQ (w0:World):Type:={ x:Value × Jb // CO 2 w0 x.1 x.2 }
theorem mL (w0:World):CO 2 w0 (.slice none 0 0) []:=⟨none,0,0,0,rfl,fun h=>absurd h (by decide),fun j a=>absurd a (Nat.not_lt_zero _),by decide,by decide⟩
instance (w0:World):Inhabited (DQ w0):=⟨⟨(.slice none 0 0,[]),mL w0⟩⟩
def DQ.enc {w0:World}(x:DQ w0):Value:=x.1.1
def DQ.cf {w0:World}(x y:DQ w0):Int:=AH x.1.2.flatten y.1.2.flatten
theorem DQ.one (w0:World):OneCell (DQ.enc (w0:=w0)):=fun x=>x.2.oneCell
theorem DQ.swo (w0:World):SWO (ltOf (DQ.cf (w0:=w0))) where
 irrefl _:=vY fun h=>KN _ _ h h
 trans _ _ _ h1 h2:=vZ (JV _ _ _ (of_decide_eq_true h1) (of_decide_eq_true h2))
 ntrans _ _ _ h1 h2:=vY (XB _ _ _ (of_decide_eq_false h1) (of_decide_eq_false h2))
theorem DQ.lays {w0 w:World}{b:Nat}(size:Nat) (h:Go.RowKit.Below w0.heap.size w0 w) (B:w0.heap.size<=b) (l:b < w.heap.size):CmpLays1 Tryz.prog 92 #[] (DQ.enc (w0:=w0)) DQ.cf b 0 size w:=by
 intro m o d _ x y;have k:=h.trans (RT (enc:=DQ.enc (w0:=w0)) m d o B l);exact(SJ (x.2.keep k).ks (y.2.keep k).ks).mono fun _ _ ⟨e,h,a⟩=>⟨e,YU h a⟩
theorem tR {w0 w:World}{B g n cap:Nat}{u:Jc}(N:Go.RowKit.Below w0.heap.size w0 w) (a3:w0.heap.size<=B) (h:AA 38 1 (DP w0) w B (.slice (some ⟨g,0,none⟩) n cap) n u) (hn:n<=1000000) :
  Calls Tryz.prog 197 #[.slice (some ⟨g,0,none⟩) n cap,.func (.func 92) #[] #[]] w fun e w'=>
   e = .returned (.tuple #[])/\∃r:Jc,r.Perm u/\r.Pairwise (fun a b=>¬AH b.flatten a.flatten < 0)/\AA 38 1 (DP w0) w' B (.slice (some ⟨g,0,none⟩) n cap) n r/\Go.RowKit.Below B w w':=by
 have Y:=h.length;obtain⟨k,l,W⟩:=h.toWK;have a7:k.length=n:=by have:=l.1;omega
 have X:∀j,j < n->CO 2 w0 (k.getD j (.slice none 0 0)) (u.getD j []):=fun j f=>
  W.2 j _ _ (by rw[AK (by omega)];exact List.getElem?_eq_getElem (by omega)) (by rw[AK (by omega)];exact List.getElem?_eq_getElem (by omega))
 rcases l.2 with⟨L,_⟩|⟨g',a1,y,R,z,D,O,P,Q,a4⟩
 ·cases L
 ·injection R with he1 he2 he3;injection he1 with he1;injection he1 with he1;subst he1 he3;let mk:Fin n->DQ w0:=fun j=>⟨(k.getD j (.slice none 0 0),u.getD j []),X j j.2⟩
  obtain⟨d,A⟩:=AF (Array.ofFn mk);have s:d.size=n:=by rw[A];simp
  have C:∀j (f:j < n),d[j]! = mk ⟨j,f⟩:=fun j f=>by rw[getElem!_pos d j (by omega)];simp[A]
  have q:=(wD.1 D).1
  have M:Holds (DQ.enc (w0:=w0)) w g 0 d:=by
   intro j f;rw[s] at f;rw[C j f,Nat.zero_add];refine⟨?_,World.ownsRow.frozenAt l j⟩;rw[World.ownsRow.cellAt l j (by omega)];show k[j]? = some (k.getD j (.slice none 0 0));rw[AK (by omega)];exact List.getElem?_eq_getElem (by omega)
  have J:∀t w,(callFunc 92 t).run Tryz.prog w = .ok (.enter 92 t) w:=enters_of Tryz.func92 (by kernel_rfl) rfl;have S:=Any.slices_SortFunc Tryz.sortVs DQ.enc (DQ.one w0) DQ.cf (DQ.swo w0) 92 #[] g 0 cap d w J (DQ.lays d.size N (by omega) q) M q (by omega);rw[s] at S;change Calls Tryz.prog 197 _ _ _ at S;refine S.mono ?_;rintro e w' ⟨rfl,c,m,G,Z,hs,rfl⟩;obtain⟨p,_,F⟩:=Z;rw[s] at p;have H:c.extract 0 n=c:=by rw[<-p];simp
  have I:d.extract 0 n=d:=by rw[<-s];simp
  rw[H,I] at F
  have K:d.toList.map (fun x:DQ w0=>x.1.2)=u:=by
   apply List.ext_getElem
   ·simp[s,Y]
   ·intro j a5 U;simp only[List.getElem_map,Array.getElem_toList];have:=C j (by omega)
    rw[getElem!_pos d j (by omega)] at this;rw[this];exact AK U []
  refine⟨rfl,c.toList.map (fun x:DQ w0=>x.1.2),?_,?_,AA.ofWK (vs:=c.toList.map DQ.enc) ⟨by simp[p],.inr ⟨g,cap,putCells DQ.enc 0 c y,rfl,z,ZE 0 m c G D,O,P,by simpa [putCells] using Q,?_⟩⟩ ⟨by simp,fun j a9 a8 v o=>?_⟩,RT m c G z q⟩
  ·rw[<-K];exact F.map _
  ·rw[List.pairwise_map,List.pairwise_iff_getElem];intro i j E f T;simp only[Array.length_toList] at E f;have:=hs i j (Nat.zero_le _) T (by omega)
   rw[getElem!_pos c i E,getElem!_pos c j f] at this;exact of_decide_eq_false this
  ·have:=bY DQ.enc c y (by omega)
   rw[p] at this;rw[Nat.mul_one,this]
  ·rw[List.getElem?_map] at v o
   have V:j < c.size:=by
    rcases Nat.lt_or_ge j c.size with h|h
    ·exact h
    ·rw[List.getElem?_eq_none (by simpa using h)] at v;cases v
   rw[Array.getElem?_toList,Array.getElem?_eq_getElem V] at v o;simp only[Option.map_some,Option.some.injEq] at v o;rw[<-v,<-o];exact c[j].2
theorem AA.frozen {α:Type}{E:TypeId}{k:Nat}{El:World->List Value->α->Prop}{w:World}{B g n cap:Nat}{xs:List α}(h:AA E k El w B (.slice (some ⟨g,0,none⟩) n cap) n xs) (j:Nat):w.frozen? ⟨g,j,none⟩=false:=by
 obtain⟨v,a,_⟩:=h;exact World.ownsRow.frozenAt a j
def BN:Jc->Jc
 | []=>[]
 | [x]=>[x]
 | x::y::r=>if x=y then BN (y::r) else x::BN (y::r)
theorem XK:∀ {l:Jc}{x y:Jb},BN (l ++ [x] ++ [y])=if x=y then BN (l ++ [x]) else BN (l ++ [x]) ++ [y]
 | [],x,y=>by
  by_cases h:x=y
  ·subst h;simp[BN]
  ·simp[BN,h]
 | [a],x,y=>by
  by_cases c:a=x<;>by_cases h:x=y<;>simp[BN,c,h]
 | a::b::l,x,y=>by
  have i:=XK (l:=b::l) (x:=x) (y:=y);simp only[List.cons_append] at i|-;by_cases c:a=b
  ·rw[BN,if_pos c,i];by_cases h:x=y
   ·rw[if_pos h,if_pos h,BN,if_pos c]
   ·rw[if_neg h,if_neg h,BN,if_pos c]
  ·rw[BN,if_neg c,i];by_cases h:x=y
   ·rw[if_pos h,if_pos h,BN,if_neg c]
   ·rw[if_neg h,if_neg h,BN,if_neg c];rfl
theorem SH {xs:Jc}{m:Nat}(h:m+1 < xs.length):BN (xs.take (m+2))=if xs.getD m []=xs.getD (m+1) [] then BN (xs.take (m+1)) else BN (xs.take (m+1)) ++ [xs.getD (m+1) []]:=by
 rw[BY h [],BY (show m < xs.length by omega) [],XK]
theorem XJ:∀l:Jc,(BN l).length<=l.length
 | []=>by simp[BN]
 | [x]=>by simp[BN]
 | x::y::r=>by
  have:=XJ (y::r)
  rw[BN];split<;>simp at this|-<;>omega
theorem iG {xs cs:Jc}{m kk:Nat}{x:Jb}(l:cs.length=xs.length) (k:kk < m) (c:m < xs.length) (a:cs.take kk=BN (xs.take m)) (b:∀j,kk<=j->cs.getD j []=xs.getD j []) (h:xs.getD m []=x) (n : ¬xs.getD (m - 1) []=x) :
  (cs.set kk x).take (kk+1)=BN (xs.take (m+1))/\∀j,kk+1<=j->(cs.set kk x).getD j []=xs.getD j []:=by
 obtain⟨p,rfl⟩:∃p,m=p+1:=⟨m - 1,by omega⟩;refine⟨?_,fun j d=>?_⟩
 ·rw[SH c,if_neg (by rw[h];exact n),<-a,h,List.take_set,BY (show kk < cs.length by omega) [],List.set_append_right _ _ (by rw[List.length_take];exact Nat.min_le_left _ _),List.length_take,Nat.min_eq_left (by omega),Nat.sub_self];rfl
 ·rw[List.getD_eq_getElem?_getD,List.getElem?_set_ne (by omega),<-List.getD_eq_getElem?_getD];exact b j (by omega)
theorem AA.setTailK {w:World}{B g n cap m:Nat}{w0:World}{xs:Jc}(h:AA 38 1 (DP w0) w B (.slice (some ⟨g,0,none⟩) n cap) n xs) (D:m<=n) (vs:List Value) :
  AA 38 1 (DP w0) (w.setCells g (m * 1) vs) B (.slice (some ⟨g,0,none⟩) m cap) m (xs.take m)/\Below B w (w.setCells g (m * 1) vs)/\AE 38 w (w.setCells g (m * 1) vs):=by
 have V:=h.length;obtain⟨s,d,S,o,p⟩:=h;rcases d.2 with⟨l,_⟩|⟨R,P,r,A,q,f,T,v,y,z⟩
 ·cases l
 ·injection A with he1 he2 he3;injection he1 with he1;injection he1 with he1;subst he1 he3;obtain⟨c,I,J,K,i,L,M,N,O⟩:=UR vs (m * 1) w r f;have E:m * 1<=n * 1:=Nat.mul_le_mul_right _ D;have W:s.length=n * 1:=d.1
  have H:c.toList.take (m * 1)=s.take (m * 1):=by
   rw[K,<-z,List.take_take,Nat.min_eq_left E]
  refine⟨⟨s.take (m * 1),⟨by rw[List.length_take];omega,.inr ⟨g,cap,c,rfl,q,I,by omega,v,by rw[J];exact y,H⟩⟩,by rw[List.length_take];omega,fun u G=>o u (List.mem_of_mem_take G),fun j x b=>?_⟩,⟨M,N,O,by rw[L];exact wC _,fun k a=>i k (by omega)⟩,fun k Q t a F=>i k fun e=>?_⟩
  ·rw[List.getElem?_take] at b;split at b
   ·rename_i C
    have:=p j x b
    have U:j * 1+1<=m * 1:=(by rw[<-Nat.succ_mul];exact Nat.mul_le_mul_right _ C);rw[List.drop_take,List.take_take,Nat.min_eq_left (by omega)];exact this
   ·cases b
  ·subst e;rw[f] at a;injection a with a;injection a with _ a;exact F a.symm
theorem iA {w0 w:World}{B g n cap:Nat}{xs:Jc}(D:Below w0.heap.size w0 w) (d':w0.heap.size<=B) (h:AA 38 1 (DP w0) w B (.slice (some ⟨g,0,none⟩) n cap) n xs) (hn:n<=1000) :
  Calls Tryz.prog 198 #[.slice (some ⟨g,0,none⟩) n cap,.func (.func 199) #[] #[]] w fun e w'=>∃m,e = .returned (.slice (some ⟨g,0,none⟩) m cap)/\AA 38 1 (DP w0) w' B (.slice (some ⟨g,0,none⟩) m cap) m (BN xs)/\Below B w w'/\AE 38 w w':=by
 have hl:=h.length
 have hB:B<=g:=by
  obtain⟨_,o,_⟩:=h;exact(World.ownsRow.lt o g rfl).1
 have e':n<=cap/\(cap:Int)<=9223372036854775807:=by
  obtain⟨_,o,_⟩:=h;rcases o.2 with⟨h0,_⟩|⟨g',g5,g7,b,_,_,e2,e3,_⟩
  ·cases h0
  ·injection b with _ _ he3;subst he3;unfold maxLen at e3;exact⟨e2,by omega⟩
 obtain⟨i9,i'⟩:=e';have b8:=qH (fun c (hj:c < n)=>AA.kcell h hj);have hh:=qH h;have t:=qH hl;clear h hl
 have c1:Hid (∀q,BN (xs.take n)=xs.take n->AA 38 1 (DP w0) (w.drewN q) B (.slice (some ⟨g,0,none⟩) n cap) n (BN xs)):=fun q hq=>by
  rw[List.take_of_length_le (by rw[t.out];exact wC _)] at hq;rw[hq];exact hh.out.keep (DP.stab _ _) (wH (wB _ w) q)
 have Z:Hid (∀q,Below B w (w.drewN q)/\AE 38 w (w.drewN q)):=fun q=>⟨wH (wB _ w) q,AE.below (wH (wB _ w) q)⟩;by_cases h2:n < 2
 ·have e0:Hid (BN (xs.take n)=xs.take n):=by
   show _=_;have:n=0\/n=1:=by omega
   rcases this with rfl|rfl
   ·simp[BN]
   ·match xs,t.out with
    | [i],_=>simp[BN]
  have hd:decide ((n:Int) < 2)=true:=vZ (by omega);go_enter Tryz.func198, Tryz.ntmps198
  go_wp2;go_ret;exact⟨n,rfl,c1.out 0 e0.out,(Z.out 0).1,(Z.out 0).2⟩
 ·have hd:decide ((n:Int) < 2)=false:=vY (by omega)
  have o:Hid (BN (xs.take (0+1))=xs.take (0+1)):=by
   show _=_;match xs,t.out with
   | i::r,_=>simp[BN]
   | [],h=>simp at h;omega
  go_enter Tryz.func198, Tryz.ntmps198
  go_wp2_with fail
  go_loopg [5] n (fun f kv wr=>∃a q:Nat,kv = .int .i64 ((a:Int)+1)/\a+1<=n/\n<=a+1+f/\wr=w.drewN q/\Hid (BN (xs.take (a+1))=xs.take (a+1)))
  case atStart=>exact⟨0,0,rfl,by omega,by omega,rfl,o⟩
  case round=>
   clear o;obtain⟨a,q,rfl,hp,j1,rfl,E⟩:=hrel;by_cases a4:a+1 < n
   ·obtain⟨f,rfl⟩:∃f,gk=f+1:=⟨gk - 1,by omega⟩;obtain⟨u1,c0,l⟩:=b8.out (a+1) a4;obtain⟨u2,d0,y⟩:=b8.out a (by omega);obtain⟨i,v⟩:=AB (xs.getD (a+1) []);obtain⟨b0,z⟩:=AB (xs.getD a []);have A:=SH (xs:=xs) (m:=a) (by rw[t.out];exact a4);rw[v,z] at A;rw[v] at l;rw[z] at y;have H:=fun q=>YA (l.keep (wH D q)).ks (y.keep (wH D q)).ks;obtain⟨L,M,a5⟩:=l.shape;obtain⟨g1,g2,a6⟩:=y.shape;subst a5 a6;have e5:(a:Int)+1 < (n:Int):=(by omega);have i0:(0:Int)<=(a:Int):=(by omega);have e6:(0:Int)<=(a:Int)+1:=(by omega);have i1:(a:Int) < (n:Int):=(by omega);have W:IntKind.i64.wrap ((a:Int)+1 - 1)=(a:Int):=(by rw[show(a:Int)+1 - 1=(a:Int) by omega];exact IntWalk.i64_in _ (by omega));have V:((a:Int)+1).toNat=a+1:=(by omega);have a7:=z;have a8:=v;clear l y v z;by_cases b:i=b0
    ·simp only[decide_eq_true b] at H;replace H:=qH H;rw[if_pos b.symm,E.out] at A;have A:=qH A;replace a7:=qH a7;clear b E a8;go_wp2_with fail
     go_quiet ((go_at_call 199;first|exact LB (H.out _)|(refine(H.out _).mono ?_;rintro e w' ⟨b,a9,rfl⟩;exact⟨b,_,World.drewN_drewN _ _ _⟩)))
     go_wp2_with fail
     obtain⟨N,a1⟩:=AB (n - (a+1));obtain⟨C2,a0⟩:=AB (cap - (a+1));rw[a1,a0];have c7:n=a+1+N:=(by omega);replace a0:=qH a0;replace a1:=qH a1;have e9:=qH c7;have h4:(1:Int)<=(N:Int):=(by omega);have d2:Hid (xs.take (a+1)=BN (xs.take (a+1+(0+1)))):=A.out.symm;have b5:AA 38 1 (DP w0) (w.drewN (q+nq)) B (.slice (some ⟨g,0,none⟩) n cap) n xs:=hh.out;have D:Below B w (w.drewN (q+nq)):=wH (wB _ w) _;have c4:AE 38 w (w.drewN (q+nq)):=AE.below (wH (wB _ w) _);have c5:=qH c4;have d3:Hid (∀c,a+1<=c->xs.getD c []=xs.getD c []):=fun _ _=>rfl;clear c7 c0 d0 e5 e6 V W c4;go_loopg [5,7] N (fun f kv rv wr=>∃(k r:Nat) (s:Jc),kv = .int .i64 ((k:Nat):Int)/\rv = .int .i64 ((r:Int)+1)/\r+1<=N/\N<=r+1+f/\k < a+1+(r+1)/\AA 38 1 (DP w0) wr B (.slice (some ⟨g,0,none⟩) n cap) n s/\Hid (s.take k=BN (xs.take (a+1+(r+1))))/\Hid (∀c,k<=c->s.getD c []=xs.getD c [])/\Below B w wr/\Hid (AE 38 w wr))
     case atStart=>exact⟨a+1,0,xs,by go_num,rfl,by omega,by omega,by omega,b5,d2,d3,D,c5⟩
     case round=>
      clear b5 d2 d3 D c5;obtain⟨k,r,s,rfl,rfl,hr,j3,e8,O,U,J,R,S⟩:=hrel;have C:=O.length;have G:=qH O;have F:=e9.out;by_cases i7:r+1 < N
      ·obtain⟨f,rfl⟩:∃f,gk=f+1:=⟨gk - 1,by omega⟩;obtain⟨u1,c0,l⟩:=AA.kcell O (j:=a+1+(r+1)) (by omega);obtain⟨u2,d0,y⟩:=AA.kcell O (j:=a+1+r) (by omega);obtain⟨u3,g8,f9⟩:=AA.kcell O (j:=k) (by omega);rw[J.out _ (by omega)] at l;rw[J.out _ (by omega)] at y;obtain⟨i,v⟩:=AB (xs.getD (a+1+(r+1)) []);obtain⟨b0,z⟩:=AB (xs.getD (a+1+r) []);obtain⟨j4,hz⟩:=AB (s.getD k []);have K:=SH (xs:=xs) (m:=a+1+r) (by rw[t.out];omega);have T:=iG (xs:=xs) (cs:=s) (m:=a+1+(r+1)) (kk:=k) (x:=i) (by rw[C,t.out]) e8 (by rw[t.out];omega) U.out J.out v;rw[show a+1+r+1=a+1+(r+1) by omega,v,z] at K;rw[show a+1+(r+1) - 1=a+1+r by omega,z] at T;rw[v] at l;rw[z] at y;have b7:Below w0.heap.size w0 wr:=D.trans (R.mono d');have H:=fun q=>YA (l.keep (wH b7 q)).ks (y.keep (wH b7 q)).ks;have f7:=qH l;obtain⟨L,M,a5⟩:=l.shape;obtain⟨g1,g2,a6⟩:=y.shape;subst a5 a6;have h6:(r:Int)+1 < (N:Int):=(by omega);have h7:(0:Int)<=(r:Int)+1:=(by omega);have h8:(0:Int)<=(r:Int):=(by omega);have h9:(r:Int) < (N:Int):=(by omega);have h':(k:Int) < (n:Int):=(by omega);have h3:(N:Int)<=1000:=(by omega);have i5:(k:Int)<=1000:=(by omega);have V:((r:Int)+1).toNat=r+1:=(by omega);have W:IntKind.i64.wrap ((r:Int)+1 - 1)=(r:Int):=(by rw[show(r:Int)+1 - 1=(r:Int) by omega];exact IntWalk.i64_in _ (by omega));have d4:IntKind.i64.wrap (r:Int)=(r:Int):=IntWalk.i64_in _ (by omega);clear l y f9 v z hz O;by_cases b:i=b0
       ·simp only[decide_eq_true b] at H;replace H:=qH H;rw[if_pos b.symm] at K;have f6:Hid (s.take k=BN (xs.take (a+1+(r+1+1)))):=U.out.trans K.symm;clear b K T;replace F:=qH F;replace C:=qH C;go_wp2_with fail
        go_quiet ((go_at_call 199;first|exact LB (H.out _)|(refine(H.out _).mono ?_;rintro e w' ⟨b,a9,rfl⟩;exact⟨b,_,World.drewN_drewN _ _ _⟩)))
        clear W d4 V;go_wp2_with fail
        go_roundg f
        case measure=>omega
        case rel=>exact⟨k,r+1,s,rfl,by go_num,by omega,by omega,by omega,G.out,f6,J,wH R _,S.out.trans (AE.below (wH (wB _ _) _))⟩
       ·simp only[decide_eq_false b] at H;replace H:=qH H;obtain⟨c8,c9⟩:=T (fun h=>b h.symm);have f0:=qH c8;have f1:=qH c9;have f2:Hid (∀d,AA 38 1 (DP w0) ((wr.drewN d).setCell ⟨g,k,none⟩ (.slice L i.length M)) B (.slice (some ⟨g,0,none⟩) n cap) n (s.set k i)):=fun d=>(AA.store1 (DP.stab _ _) (AA.keep (DP.stab _ _) G.out (wH (wB _ _) d)) (by omega) (u:=.slice L i.length M) rfl (x:=i) ⟨_,rfl,f7.out⟩).1;have f4:Hid (∀d,Below B w ((wr.drewN d).setCell ⟨g,k,none⟩ (.slice L i.length M))):=fun d=>Below.setCell (p:=⟨g,k,none⟩) (wH R d) hB _
        have f3:Hid (∀d,AE 38 w ((wr.drewN d).setCell ⟨g,k,none⟩ (.slice L i.length M))):=fun d=>by
         obtain⟨_,o,_⟩:=AA.keep (DP.stab _ _) G.out (wH (wB wr.heap.size wr) d);obtain⟨g6,g0⟩:=EY o g rfl;exact(S.out.trans (AE.below (wH (wB _ _) d))).trans (AE.setCell (p:=⟨g,k,none⟩) g0 _)
        have I:∀c,wr.frozen? ⟨g,c,none⟩=false:=fun c=>G.out.frozen c;have g9:=I k;clear b K T c8 c9 I;replace F:=qH F;replace C:=qH C;go_wp2_with fail
        go_quiet ((go_at_call 199;first|exact LB (H.out _)|(refine(H.out _).mono ?_;rintro e w' ⟨b,a9,rfl⟩;exact⟨b,_,World.drewN_drewN _ _ _⟩)))
        clear W d4 V;go_wp2_with fail
        go_roundg f
        case measure=>omega
        case rel=>exact⟨k+1,r+1,s.set k i,by go_num,by go_num,by omega,by omega,by omega,f2.out _,f0,f1,f4.out _,f3.out _⟩
      ·have d1:r+1=N:=(by omega);have I:∀c,wr.frozen? ⟨g,c,none⟩=false:=fun c=>O.frozen c
       have b':∀c,c < n - k->(wr.cell? ⟨g,k+c,none⟩).isSome=true:=fun c hj=>by
        obtain⟨_,o,_⟩:=AA.kcell O (j:=k+c) (by omega);rw[o];rfl
       have b9:=fun ty=>Lib.run_clear_slice (P:=Tryz.prog) wr 55 38 ty (.slice none 0 0) (by kernel_rfl) (fun w=>by kernel_rfl) rfl rfl g k (n - k) (cap - k) (by omega) b' (fun c _=>I _);obtain⟨b1,hZ⟩:=AB (List.replicate (n - k) (Value.slice none 0 0));simp only[hZ] at b9;obtain⟨Q,X,Y⟩:=AA.setTailK O (m:=k) (by omega) b1;rw[U.out,List.take_of_length_le (by rw[t.out];omega)] at Q;rw[Nat.mul_one] at Q X Y;obtain⟨W2,a2⟩:=AB (wr.setCells g k b1);rw[a2] at Q X Y;simp only[a2] at b9;have a3:=qH Q;have e7:=qH (S.out.trans Y);have e1:=R.trans X;have i2:(k:Int)<=(n:Int):=(by omega);have i6:k < n:=(by omega);have i4:k < cap:=(by omega);have i3:(k:Int)<=(cap:Int):=(by omega);have h5:decide ((r:Int)+1 < (N:Int))=false:=vY (by omega);clear Q X Y O G I b' hZ a2 U S J;replace F:=qH F;replace C:=qH C;replace d1:=qH d1;go_wp2;go_ret;exact⟨k,rfl,a3.out,e1,e7.out⟩
    ·simp only[decide_eq_false b] at H;replace H:=qH H;rw[if_neg (fun h=>b h.symm),E.out] at A;have f5:Hid (BN (xs.take (a+1+1))=xs.take (a+1+1)):=(by show _=_;rw[A,<-a8];exact(BY (by rw[t.out];exact a4) []).symm);clear b E a7 A a8;go_wp2_with fail
     go_quiet ((go_at_call 199;first|exact LB (H.out _)|(refine(H.out _).mono ?_;rintro e w' ⟨b,a9,rfl⟩;exact⟨b,_,World.drewN_drewN _ _ _⟩)))
     go_wp2_with fail
     go_roundg f
     case measure=>omega
     case rel=>exact⟨a+1,_,by go_num,by omega,by omega,(by first|exact rfl|exact World.drewN_drewN _ _ _),f5⟩
   ·obtain rfl:n=a+1:=(by omega);have a3:=qH (c1.out q E.out);obtain⟨d5,b2⟩:=Z.out q;have d6:=qH b2;clear E b2;go_wp2_with fail
    go_ret;exact⟨a+1,by first|rfl|(congr 2;done),a3.out,d5,d6.out⟩
end Go.Proofs.YtcnedkkcgdkioaaGreat

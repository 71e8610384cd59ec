/- Texts of this claim, put together: TP TQ. -/
import Derived.Test.YtcnedkkcgdkioaaGreatKBn

set_option maxRecDepth 100000
set_option maxHeartbeats 12800000
namespace Go.Proofs.YtcnedkkcgdkioaaGreat
open Go.RowKit
theorem TF {a:Type} [DecidableEq a] {l:List a}{x:a}(h:x∈l):ixOf l x < l.length:=List.idxOf_lt_length_of_mem h
def AS (f:Nat->List Int) (vs:Jb):Nat->Jb × List Int
 | 0=>(vs,[])
 | k+1=>(BO (AS f vs k).1 (f k),(AS f vs k).2 ++ [(ixOf (BO (AS f vs k).1 (f k)) (f k):Int)])
section
variable {f:Nat->List Int} {vs:Jb}
theorem HJ:∀k,(AS f vs k).2.length=k
 | 0=>rfl
 | k+1=>by rw[AS,List.length_append,HJ k];rfl
theorem NE:∀k,(AS f vs k).1.length<=vs.length+k
 | 0=>wC _
 | k+1=>by
  have h:=NE k;have a:=oY (vs:=(AS f vs k).1) (v:=f k);rw[AS];show(BO _ _).length<=_;omega
theorem SZ:∀k,∀i∈(AS f vs k).2,0<=i/\i < ((AS f vs k).1.length:Int)
 | 0=>fun i a=>by cases a
 | k+1=>fun i a=>by
  rw[AS] at a|-
  have d:(AS f vs k).1.length<=(BO (AS f vs k).1 (f k)).length:=by
   unfold BO;split
   ·exact wC _
   ·rw[List.length_append];omega
  rcases List.mem_append.1 a with h|h
  ·obtain⟨b,c⟩:=SZ k i h;exact⟨b,by show i < ((BO _ _).length:Int);omega⟩
  ·rw[List.mem_singleton] at h;subst h;have:=TF (l:=BO (AS f vs k).1 (f k)) (x:=f k) (QS.2 (.inr rfl))
   exact⟨by omega,by show _ < ((BO _ _).length:Int);omega⟩
end
def IL (hs:Int) (b:List Int):List Int:=(List.range 5).map fun q=>if q < b.length/\AY hs (q:Int)=true then b.getD q 0 else -1
def FY (r:List Int) (k p:Nat) (b:List Int):List Int:=[(p:Int),(k:Int),0]++IL (r.getD (1+p) 0) b
def AQ (n:Nat) (xs:List Int) (wd:Jb) (vs:Jb):Nat->Jb × Jb
 | 0=>((AS (fun p=>KA (p:Int) (xs.getD p 0)) vs n).1,[(AS (fun p=>KA (p:Int) (xs.getD p 0)) vs n).2])
 | k+1=>((AS (fun p=>FY (wd.getD k []) (k+1) p ((AQ n xs wd vs k).2.getD k [])) (AQ n xs wd vs k).1 n).1,(AQ n xs wd vs k).2 ++ [(AS (fun p=>FY (wd.getD k []) (k+1) p ((AQ n xs wd vs k).2.getD k [])) (AQ n xs wd vs k).1 n).2])
theorem IN (n:Nat) (xs:List Int) (wd:Jb) (vs:Jb):∀k,(AQ n xs wd vs k).2.length=k+1
 | 0=>rfl
 | k+1=>by rw[AQ,List.length_append,IN n xs wd vs k];rfl
theorem NJ (n:Nat) (xs:List Int) (wd:Jb) (vs:Jb):∀k,(AQ n xs wd vs k).1.length<=vs.length+n * (k+1)
 | 0=>by rw[AQ,Nat.zero_add,Nat.mul_one];exact NE n
 | k+1=>by
  have h:=NJ n xs wd vs k;rw[AQ];refine wI (NE n) ?_;rw[Nat.mul_succ n (k+1)];omega
def BB (n:Nat) (vs:Jb):List (Int × List Int × Jb)->Jb × List Ex
 | []=>(vs,[])
 | (c,xs,wd)::l=>((BB n (AQ n xs wd vs wd.length).1 l).1,(c,wd,(AQ n xs wd vs wd.length).2)::(BB n (AQ n xs wd vs wd.length).1 l).2)
def DU (cs:List Cs) (ws:Jc):List (Int × List Int × Jb):=
 cs.zipIdx.flatMap fun c=>ws.map fun w=>((c.2:Int),c.1.1,w)
def CR (n:Nat) (cs:List Cs) (ws:Jc):Jb × List Ex:=BB n [] (DU cs ws)
end Go.Proofs.YtcnedkkcgdkioaaGreat
namespace Go.Proofs.YtcnedkkcgdkioaaGreat
open Go.RowKit
theorem OI.keepB {w w':World}{B g n c bb:Nat}{xs:List Int}(h:OI w B (.slice (some ⟨g,0,none⟩) n c) n xs) (d:0 < n) (k:BH bb w w') (i:∃cs,w.heap[bb]? = some (.cells cs 140)):OI w' B (.slice (some ⟨g,0,none⟩) n c) n xs:=by
 obtain⟨_,_,cs,b⟩:=h.made d;refine h.same d (k g cs _ b (by decide) fun e=>?_);subst e;obtain⟨s,a⟩:=i;rw[b] at a;injection a with a;injection a with _ a;exact absurd a (by decide)
theorem BX.box {w:World}{B bb mb:Nat}{n:Int}{vs:Jb}(h:BX w B bb mb n vs):∃cs,w.heap[bb]? = some (.cells cs 140):=by
 obtain⟨v,a,_⟩:=h;exact⟨_,a⟩
theorem BX.num {w:World}{B bb mb:Nat}{n:Int}{vs:Jb}(h:BX w B bb mb n vs):w.cell? ⟨bb,0,none⟩=some (.int .i64 n):=by
 obtain⟨v,a,_⟩:=h;rw[cell_of_row _ _ 0 _ _ _ a];rfl
theorem BH.newCell {bb g j:Nat}{w W:World}{v:Value}{cs:Array Value}{t:TypeId}(h:BH bb w W) (d:w.heap.size<=g) (c:W.heap[g]? = some (.cells cs t)):BH bb w (W.setCell ⟨g,j,none⟩ v):=⟨fun k cs t a b n=>by
 have l:=(wD.1 a).1;exact(Below.heap_setCell W ⟨g,j,none⟩ v k (by show k ≠ g;omega)).trans (h k cs t a b n),h.lo.trans (BR.setCell (p:=⟨g,j,none⟩) c v)⟩
theorem BX.storeI {w:World}{B B' bb mb g m c:Nat}{n:Int}{vs:Jb}{xs:List Int}(h:BX w B bb mb n vs) (t:OI w B' (.slice (some ⟨g,0,none⟩) m c) m xs) (s:0 < m) (j:Nat) (v:Value):BX (w.setCell ⟨g,j,none⟩ v) B bb mb n vs:=by
 obtain⟨_,_,y,i⟩:=t.made s;obtain⟨u,a,k,b,l,o,q,r⟩:=h;have x:AE 3 w (w.setCell ⟨g,j,none⟩ v):=AE.setCell (p:=⟨g,j,none⟩) i v;refine⟨u,(x bb _ _ a (by decide)).trans a,k.other (E':=3) (EI.stab _) (by decide) x,b.keep (Below.heap_setCell w ⟨g,j,none⟩ v mb fun e=>?_),l,o,q,r⟩;have e:mb=g:=e;obtain⟨z,c,d,_⟩:=b;rw[e,i] at d;cases d
theorem OI.keepB2 {w w':World}{B n bb:Nat}{v:Value}{xs:List Int}(h:OI w B v n xs) (l:BH bb w w') (k:∃cs,w.heap[bb]? = some (.cells cs 140)):OI w' B v n xs:=by
 refine⟨h.1,?_⟩;rcases h.2 with a|⟨g,p,c,d,i,b,j⟩
 ·exact .inl a
 ·refine .inr ⟨g,p,c,d,i,(l g c _ b (by decide) fun e=>?_).trans b,j⟩;subst e;obtain⟨s,a⟩:=k;rw[b] at a;injection a with a;injection a with _ a;exact absurd a (by decide)
theorem AA.keepBV {w w':World}{B n bb:Nat}{v:Value}{xs:Jb}(h:AA 48 1 BD w B v n xs) (i:BH bb w w') (d:∃cs,w.heap[bb]? = some (.cells cs 140)):AA 48 1 BD w' B v n xs:=by
 obtain⟨vs,b,l,m,o⟩:=h;refine⟨vs,⟨b.1,?_⟩,l,m,fun j x q=>?_⟩
 ·rcases b.2 with a|⟨g,p,c,s,t,k,y⟩
  ·exact .inl a
  ·refine .inr ⟨g,p,c,s,t,(i g c _ k (by decide) fun e=>?_).trans k,y⟩;subst e;obtain⟨z,a⟩:=d;rw[k] at a;injection a with a;injection a with _ a;exact absurd a (by decide)
 ·obtain⟨u,e,r⟩:=o j x q;exact⟨u,e,r.keepB2 i d⟩
theorem KS.at7 {w:World}{a:Option Addr}{c:Nat}{l:Jb}(h:KS 7 w (.slice a l.length c) l) (d:0 < l.length):∃b o,a=some ⟨b,o,none⟩/\CK 7 w b o l:=by
 obtain⟨i,j,b,o,v,e,g,_⟩:=h;injection v with e1 _ _;exact⟨b,o,e1.trans (e d),g⟩
def AT (hs:Int) (b:List Int) (q j:Nat):Int:=if j < q/\AY hs (j:Int)=true then b.getD j 0 else -1
theorem JJ {hs:Int}{bf:List Int}{q j:Nat}(h:j ≠ q):AT hs bf (q+1) j=AT hs bf q j:=by
 unfold AT;have:j < q+1↔j < q:=by omega
 simp only[this]
theorem sW {hs:Int}{bf:List Int}{q:Nat}(h:AY hs (q:Int)=true):AT hs bf (q+1) q=bf.getD q 0:=by
 unfold AT;rw[if_pos ⟨Nat.lt_succ_self q,h⟩]
theorem sY {hs:Int}{bf:List Int}{q:Nat}(h:AY hs (q:Int)=false):AT hs bf (q+1) q=AT hs bf q q:=by
 unfold AT;rw[h,if_neg (by simp),if_neg (by simp)]
theorem sX {P K Z:Value}{hs:Int}{bf:List Int}{q:Nat}(i:q < 5) (h:AY hs (q:Int)=true):(#[P,K,Z,.int .i64 (AT hs bf q 0),.int .i64 (AT hs bf q 1),.int .i64 (AT hs bf q 2),.int .i64 (AT hs bf q 3),.int .i64 (AT hs bf q 4)]:Array Value).setIfInBounds (3+q) (.int .i64 (bf.getD q 0)) = #[P,K,Z,.int .i64 (AT hs bf (q+1) 0),.int .i64 (AT hs bf (q+1) 1),.int .i64 (AT hs bf (q+1) 2),.int .i64 (AT hs bf (q+1) 3),.int .i64 (AT hs bf (q+1) 4)]:=by
 have e:=sW (bf:=bf) h;have a:0 ≠ q->AT hs bf (q+1) 0=AT hs bf q 0:=JJ;have b:1 ≠ q->AT hs bf (q+1) 1=AT hs bf q 1:=JJ;have c:2 ≠ q->AT hs bf (q+1) 2=AT hs bf q 2:=JJ;have d:3 ≠ q->AT hs bf (q+1) 3=AT hs bf q 3:=JJ;have g:4 ≠ q->AT hs bf (q+1) 4=AT hs bf q 4:=JJ;rcases(show q=0\/q=1\/q=2\/q=3\/q=4 by omega) with rfl|rfl|rfl|rfl|rfl
 ·rw[e,b (by decide),c (by decide),d (by decide),g (by decide)];rfl
 ·rw[e,a (by decide),c (by decide),d (by decide),g (by decide)];rfl
 ·rw[e,a (by decide),b (by decide),d (by decide),g (by decide)];rfl
 ·rw[e,a (by decide),b (by decide),c (by decide),g (by decide)];rfl
 ·rw[e,a (by decide),b (by decide),c (by decide),d (by decide)];rfl
theorem sZ {P K Z:Value}{hs:Int}{bf:List Int}{q:Nat}(i:q < 5) (h:AY hs (q:Int)=false):(#[P,K,Z,.int .i64 (AT hs bf q 0),.int .i64 (AT hs bf q 1),.int .i64 (AT hs bf q 2),.int .i64 (AT hs bf q 3),.int .i64 (AT hs bf q 4)]:Array Value) = #[P,K,Z,.int .i64 (AT hs bf (q+1) 0),.int .i64 (AT hs bf (q+1) 1),.int .i64 (AT hs bf (q+1) 2),.int .i64 (AT hs bf (q+1) 3),.int .i64 (AT hs bf (q+1) 4)]:=by
 have e:=sY (bf:=bf) h;have a:0 ≠ q->AT hs bf (q+1) 0=AT hs bf q 0:=JJ;have b:1 ≠ q->AT hs bf (q+1) 1=AT hs bf q 1:=JJ;have c:2 ≠ q->AT hs bf (q+1) 2=AT hs bf q 2:=JJ;have d:3 ≠ q->AT hs bf (q+1) 3=AT hs bf q 3:=JJ;have g:4 ≠ q->AT hs bf (q+1) 4=AT hs bf q 4:=JJ;rcases(show q=0\/q=1\/q=2\/q=3\/q=4 by omega) with rfl|rfl|rfl|rfl|rfl
 ·rw[e,b (by decide),c (by decide),d (by decide),g (by decide)]
 ·rw[e,a (by decide),c (by decide),d (by decide),g (by decide)]
 ·rw[e,a (by decide),b (by decide),d (by decide),g (by decide)]
 ·rw[e,a (by decide),b (by decide),c (by decide),g (by decide)]
 ·rw[e,a (by decide),b (by decide),c (by decide),d (by decide)]
theorem fQ {W:World}{b q:Nat}{a c d e g i j k:Value}{t:TypeId}(l:q < 5) (h:W.heap[b]? = some (.cells #[a,c,d,e,g,i,j,k] t)):∃v,W.cell? ⟨b,3+q,none⟩=some v:=by
 rcases(show q=0\/q=1\/q=2\/q=3\/q=4 by omega) with rfl|rfl|rfl|rfl|rfl
 all_goals exact⟨_,by rw[cell_of_row _ _ _ _ _ _ h];rfl⟩
theorem sV {hs:Int}{bf:List Int}{q j:Nat}(h:∀i∈bf,0<=i/\i<=100000) : -1000000<=AT hs bf q j/\AT hs bf q j<=1000000:=by
 unfold AT;split
 ·by_cases a:j < bf.length
  ·have:=h (bf.getD j 0) (by rw[AK a];exact wG a)
   omega
  ·rw[List.getD_eq_getElem?_getD,List.getElem?_eq_none (by omega)];exact⟨by decide,by decide⟩
 ·omega
theorem oF (n:Nat) (xs:List Int) (wd:Jb) (vs:Jb):∀k,∀i∈(AQ n xs wd vs k).2.getD k [],0<=i/\i < ((AQ n xs wd vs k).1.length:Int)
 | 0,i,h=>SZ n i h
 | k+1,i,h=>by
  have l:=IN n xs wd vs k;rw[AQ] at h|-;have h:i∈((AQ n xs wd vs k).2 ++ [(AS (fun p=>FY (wd.getD k []) (k+1) p ((AQ n xs wd vs k).2.getD k [])) (AQ n xs wd vs k).1 n).2]).getD (k+1) []:=h;rw[List.getD_eq_getElem?_getD,List.getElem?_append_right (by rw[l];exact wC _),l,Nat.sub_self] at h;exact SZ n i h
theorem BH.behind {bb:Nat}{w W W':World}(h:BH bb w W) (b:Below w.heap.size W W'):BH bb w W':=⟨fun k s t a d n=>(b.block k (wD.1 a).1).trans (h k s t a d n),⟨wI h.lo.size b.size,fun k o c l=>(b.block k (wD.1 c).1).trans (h.lo.objs k o c l)⟩⟩
theorem oB {w:World}{B n b:Nat}{v:Value}{xs:Jb}(h:AA 114 8 EI w B v n xs) (d:w.heap.size<=b):v.ownBlock ≠ some b:=fun e=>by
 obtain⟨vs,a,_⟩:=h;obtain⟨s,c⟩:=EY a b e;have:=(wD.1 c).1
 omega
theorem BX.lt {w:World}{B bb mb:Nat}{n:Int}{vs:Jb}(h:BX w B bb mb n vs):bb < w.heap.size/\mb < w.heap.size:=by
 obtain⟨v,a,c,b,_⟩:=h;exact⟨(wD.1 a).1,b.lt⟩
theorem lN {hs:Int}{b:List Int}{q:Nat}(h:q=b.length):IL hs b = [AT hs b q 0,AT hs b q 1,AT hs b q 2,AT hs b q 3,AT hs b q 4]:=by
 subst h;rfl
theorem oH {w0 w:World}{B bb mb N:Nat}{vs:Jb}{u wv:Value}{xs:List Int}{wd:Jb}(i4:Below w0.heap.size w0 w) (h7:w0.heap.size=B) (hU:BX w B bb mb (N:Int) vs) (hx:AR w0 u xs) (t1:xs.length=N) (j7:∀j,j < N->0<=xs.getD j 0/\xs.getD j 0<=1000) (hw:KS 7 w0 wv wd) (x9:wd.length<=6) (j6:∀k,k < wd.length->∀p:Nat,p < 5->0<=(wd.getD k []).getD (1+p) 0/\(wd.getD k []).getD (1+p) 0<=31) (hN:1<=N/\N<=5) (x8:vs.length<=5000) :
  Calls Tryz.prog 77 #[.pointer (some ⟨bb,0,none⟩),u,wv] w fun e w'=>∃ov,e = .returned ov/\AA 48 1 BD w' B ov (wd.length+1) (AQ N xs wd vs wd.length).2/\BX w' B bb mb (N:Int) (AQ N xs wd vs wd.length).1/\BH bb w w'/\Below B w w':=by
 have I:B<=w.heap.size:=by rw[<-h7];exact i4.size
 obtain⟨xa,xc,xb,xo,rfl,m6,m7,_⟩:=hx;obtain rfl:=m6 (by omega);rw[t1];obtain⟨wa,wc,s8⟩:=hw.shape;subst s8;have hX:=qH (fun W (r:Below B w W) p (hp:p < N)=>AC (i4.trans (by rw[h7];exact r)) (m7 p (by omega)));have hW:=qH (fun W (r:Below B w W)=>hw.keep (i4.trans (by rw[h7];exact r)));replace j6:=qH j6;have p9:=qH hU;have r9:=hU.num;obtain⟨f,hf⟩:∃f:Nat->List Int,f=fun(p:Nat)=>KA (p:Int) (xs.getD p 0):=⟨_,rfl⟩
 have f1:∀j,j < N->MM (f j):=fun j G=>by
  have n:=j7 j G;rw[hf];refine⟨rfl,fun v1 hy=>?_⟩;simp only[KA,List.mem_cons,List.not_mem_nil,or_false] at hy;rcases hy with rfl|rfl|rfl|rfl|rfl|rfl|rfl|rfl<;>omega
 replace f1:=qH f1;have l8:=qH (fun(p:Nat)=>show EG (f p) = .agg #[.int .i64 (p:Int),.int .i64 0,.int .i64 (xs.getD p 0),.int .i64 (-1),.int .i64 (-1),.int .i64 (-1),.int .i64 (-1),.int .i64 (-1)] by rw[hf];rfl);replace j7:=qH j7;replace hf:=qH hf;obtain⟨w3,k6⟩:=hN;clear hU m7 m6 hw;go_enter Tryz.func77, Tryz.ntmps77
 go_wp2_with (at_make;refine VF rfl _ _ rfl N rfl rfl (by omega) I ?_;intro w1 i9 q7 e4)
 have l1:=p9.out.keep e4;obtain⟨g,hg⟩:=AF (w.heap.size);rw[<-hg] at i9|-;replace hg:=qH hg;have f4:BH bb w w1:=BH.below e4;have k0:Below B w w1:=e4.mono I;have f5:OI w1 B (.slice (some ⟨g,0,none⟩) N N) N ((AS f vs 0).2++List.replicate (N - 0) 0):=i9;have d8:BX w1 B bb mb (N:Int) (AS f vs 0).1:=l1;replace f5:=qH f5;replace d8:=qH d8;replace f4:=qH f4;clear i9 l1 q7 e4 r9;go_wp2_with fail
 go_loopw [24] (fun iv wr=>∃p:Nat,iv = .int .i64 p/\p<=N/\Hid (BX wr B bb mb (N:Int) (AS f vs p).1)/\Hid (OI wr B (.slice (some ⟨g,0,none⟩) N N) N ((AS f vs p).2++List.replicate (N - p) 0))/\Hid (BH bb w wr)/\Below B w wr) (fun iv _=>N - (intOf iv).toNat)
 case atStart=>exact⟨0,rfl,by omega,d8,f5,f4,k0⟩
 case round=>
  clear d8 f5 f4 k0;obtain⟨p,rfl,hp,U,F,P,v⟩:=hrel;by_cases a3:p < N
  ·have d3:=hX.out wr v p a3;obtain⟨n4,b0⟩:=AB (xs.getD p 0);rw[b0] at d3;have e':=l8.out p;rw[b0] at e';have a6:=v.size;have H:=qH (fun W (r:Below wr.heap.size wr W)=>VQ (U.out.keep r) (wI (wI I a6) r.size) (f1.out p a3) (by have:=NE (f:=f) (vs:=vs) p;omega));simp only[e'] at H;have t:AS f vs (p+1)=(BO (AS f vs p).1 (f p),(AS f vs p).2 ++ [(ixOf (BO (AS f vs p).1 (f p)) (f p):Int)]):=rfl;have m:=HJ (f:=f) (vs:=vs) p;obtain⟨n5,hV⟩:=AB ((AS f vs p).1);obtain⟨g9,hI⟩:=AB ((AS f vs p).2);rw[hV,hI] at t;rw[hI] at m;simp only[hV] at H;obtain⟨V',e1⟩:∃V',BO n5 (f p)=V':=⟨_,rfl⟩;rw[e1] at t;simp only[e1] at H;obtain⟨a,hq⟩:=AB (ixOf V' (f p));rw[hq] at t;simp only[hq] at H;have q5:=fun W (h:OI W B (.slice (some ⟨g,0,none⟩) N N) N (g9++List.replicate (N - p) 0))=>h.cell a3
   have a4:(g9++List.replicate (N - p) 0).set p (a:Int)=(g9 ++ [(a:Int)])++List.replicate (N - (p+1)) 0:=by
    rw[List.set_append_right _ _ (by omega),m,Nat.sub_self,show N - p=(N - (p+1))+1 by omega,List.replicate_succ,List.set_cons_zero,List.append_assoc];rfl
   rw[hI] at F;replace t:=qH t;replace a4:=qH a4;replace e':=qH e';replace b0:=qH b0;replace hV:=qH hV;replace hI:=qH hI;replace e1:=qH e1;replace hq:=qH hq;replace m:=qH m;have m4:(p:Int) < (N:Int):=(by omega);clear q5;go_wp2_with fail
   go_region_held3 (fun w'=>w'.cell? ⟨xb,xo+p,none⟩=some (.int .i64 n4))
    (first
     | go_keep
     | (exact AC C d3)
     | (have h:=hX.out _ (Below.setCell (p:=⟨g,p,none⟩) (v.trans (Z.trans M)) (World.ownsRow.lt F.out g rfl).1 (.int .i64 (a:Int))) p a3;rw[b0.out] at h;exact h)
     | (have h:=hX.out _ (v.trans (Z.trans M)) p a3;rw[b0.out] at h;exact h))
    (first
     | (go_at_call 136;refine(dH _).mono ?_;rintro e d ⟨rfl,C⟩;have e6:Below wr.heap.size wr d:=(by first|exact C|exact(wH (wB _ wr) 1).trans C);have Z:Below B wr d:=e6.mono (wI I a6))
     | (go_at_call 135;refine(H.out _ (by first|exact C|exact(wH (wB _ wr) 1).trans C)).mono ?_;rintro e i ⟨rfl,S,K,M,_⟩;have y:=(F.out.keep e6).keepB (by omega) K (U.out.keep e6).box;have cN:=y.cell a3;have fN:=y.free p))
   have i5:Below B w (i.setCell ⟨g,p,none⟩ (.int .i64 (a:Int))):=Below.setCell (p:=⟨g,p,none⟩) (v.trans (Z.trans M)) (World.ownsRow.lt F.out g rfl).1 _;have a1:=(y.store p (a:Int)).1;rw[a4.out] at a1;have b8:=S.storeI y (by omega) p (.int .i64 (a:Int));have a0:BH bb w (i.setCell ⟨g,p,none⟩ (.int .i64 (a:Int))):=((P.out.trans (BH.below e6)).trans K).newCell (by rw[hg.out];exact wC _) (y.made (by omega)).2.2.choose_spec;have i2:Hid (BX (i.setCell ⟨g,p,none⟩ (.int .i64 (a:Int))) B bb mb (N:Int) (AS f vs (p+1)).1):=(by show BX _ _ _ _ _ _;rw[t.out];exact b8);have h':Hid (OI (i.setCell ⟨g,p,none⟩ (.int .i64 (a:Int))) B (.slice (some ⟨g,0,none⟩) N N) N ((AS f vs (p+1)).2++List.replicate (N - (p+1)) 0)):=(by show OI _ _ _ _ _;rw[t.out];exact a1);replace a0:=qH a0;clear a1 b8 S K y cN fN;go_wp2_with fail
   go_roundw
   case rel=>exact⟨p+1,by go_num,a3,i2,h',a0,i5⟩
   case measure=>simp[intOf];omega
  ·have f8:p=N:=(by omega);have O:=F.out;rw[f8,Nat.sub_self,List.replicate_zero,List.append_nil] at O;have T:=U.out;rw[f8] at T;have e0:AQ N xs wd vs 0=((AS f vs N).1,[(AS f vs N).2]):=(by rw[hf.out];rfl);have m:=HJ (f:=f) (vs:=vs) N;obtain⟨W2,b'⟩:=AF (wr.alloc (.cells #[.slice (some ⟨g,0,none⟩) N N] 48));have A:Below wr.heap.size wr W2:=(by rw[b'];exact(wB _ _).alloc (wC _) _);have a6:=v.size;have b3:B<=wr.heap.size:=wI I a6;have j0:=World.ownsRow_lit (base:=w.heap.size) (e:=48) (size:=1) wr #[.slice (some ⟨g,0,none⟩) N N] 1 a6 (by unfold maxLen;omega) rfl;rw[<-b'] at j0
   have L:AA 48 1 BD W2 w.heap.size (.slice (some ⟨wr.heap.size,0,none⟩) 1 1) (0+1) (AQ N xs wd vs 0).2:=by
    rw[e0];refine⟨_,j0,rfl,fun u hu=>by rw[List.mem_singleton.1 hu];rfl,fun j n4 G=>?_⟩;match j,G with
    | 0,G=>
     simp only[List.getElem?_cons_zero,Option.some.injEq] at G;subst G;exact⟨_,rfl,by rw[m];exact(O.keep A).base (Nat.zero_le _)⟩
    | j+1,G=>simp at G
   have J:OI W2 B (.slice (some ⟨g,0,none⟩) N N) N ((AQ N xs wd vs 0).2.getD 0 []):=(by rw[e0];exact O.keep A);have d9:BX W2 B bb mb (N:Int) (AQ N xs wd vs 0).1:=(by rw[e0];exact T.keep A);have d7:BH bb w W2:=P.out.trans (BH.below A);have k1:Below B w W2:=v.trans (A.mono b3);replace L:=qH L;replace J:=qH J;replace d9:=qH d9;replace d7:=qH d7;replace f8:=qH f8;clear U F P O T e0 m j0 a6 b3 A v l8 f1;go_wp2_with fail
   rw[<-b'];replace b':=qH b';go_loopw [7,9,44] (fun nv ov iv wr=>∃k gk:Nat,nv = .slice (some ⟨gk,0,none⟩) N N/\iv = .int .i64 k/\k<=wd.length/\Hid (OI wr B (.slice (some ⟨gk,0,none⟩) N N) N ((AQ N xs wd vs k).2.getD k []))/\Hid (AA 48 1 BD wr w.heap.size ov (k+1) (AQ N xs wd vs k).2)/\Hid (BX wr B bb mb (N:Int) (AQ N xs wd vs k).1)/\Hid (BH bb w wr)/\Below B w wr) (fun _ _ iv _=>wd.length - (intOf iv).toNat)
   case atStart=>exact⟨0,g,rfl,rfl,by omega,J,L,d9,d7,k1⟩
   case round=>
    clear L J d9 d7 k1;obtain⟨k,gk,rfl,rfl,hk,J,L,i1,h9,v⟩:=hrel;obtain⟨oa,oc,s0⟩:=L.out.shape;subst s0;by_cases i8:k < wd.length
    ·obtain⟨wb,wo,s7,m5⟩:=(hW.out wr v).at7 (by omega);obtain⟨j1,j2⟩:=m5 k i8;obtain⟨x',hr⟩:=AB (wd.getD k []);have e7:=j6.out k i8;rw[hr] at j1 j2 e7;obtain⟨r0,r1,r2,r3,r4,r5,r6,rfl⟩:=LD j1;obtain⟨d3,c1,n9,c3,c4,c5,c6⟩:=j2.all7;obtain⟨b,c0⟩:=AB ((AQ N xs wd vs k).2.getD k []);obtain⟨o,a2⟩:=AF (wr.alloc (.cells #[.int .i64 r0,.int .i64 r1,.int .i64 r2,.int .i64 r3,.int .i64 r4,.int .i64 r5,.int .i64 r6] 148));have a8:Below wr.heap.size wr o:=(by rw[a2];exact(wB _ _).alloc (wC _) _);have kR:o.heap[wr.heap.size]? = some (.cells #[.int .i64 r0,.int .i64 r1,.int .i64 r2,.int .i64 r3,.int .i64 r4,.int .i64 r5,.int .i64 r6] 148):=(by rw[a2];exact wE _ _);have g3:o.heap.size=wr.heap.size+1:=(by rw[a2];simp);rw[c0] at J;have b3:B<=wr.heap.size:=wI I v.size;have R:=i1.out.keep a8;have n3:=R.num;have k8:=qH (J.out.keep a8);have p5:=qH (L.out.keep (BD.stab (by decide)) a8);have p0:=qH (h9.out.trans (BH.below a8));have k2:Below B w o:=v.trans (a8.mono b3);have d5:B<=o.heap.size:=wI b3 a8.size;replace R:=qH R;replace e7:=qH e7;replace kR:=qH kR;replace hr:=qH hr;replace c0:=qH c0;replace g3:=qH g3;rw[a2] at n3;clear m5 j1 j2 J L i1 h9;subst s7;go_wp2_with (at_make;rw[<-a2];refine VF rfl _ _ rfl N rfl rfl (by omega) d5 ?_;intro w4 m1 q8 e5)
     have m2:OI w4 B (.slice (some ⟨wr.heap.size+1,0,none⟩) N N) N (List.replicate N 0):=(by rw[<-g3.out];exact m1);have q3:b.length=N:=k8.out.length;obtain⟨l,s'⟩:=AF (wr);subst s'
     have q2:Hid (∀b1∈b,0<=b1/\b1<=100000):=by
      show ∀b1∈b,_;intro b1 hi;have n:=oF N xs wd vs k b1 (by rw[c0.out];exact hi);have h2:=NJ N xs wd vs k;have h3:N * (k+1)<=5 * 7:=Nat.mul_le_mul k6 (by omega);omega
     obtain⟨c,e9⟩:∃c:Nat->List Int,c=fun(p:Nat)=>FY [r0,r1,r2,r3,r4,r5,r6] (k+1) p b:=⟨_,rfl⟩;obtain⟨V,b9⟩:=AB ((AQ N xs wd vs k).1);rw[b9] at R
     have w5:V.length<=5040:=by
      have n:=NJ N xs wd vs k;rw[b9] at n;have h2:N * (k+1)<=5 * 7:=Nat.mul_le_mul k6 (by omega);omega
     have l2:Hid (BX w4 B bb mb (N:Int) (AS c V 0).1):=R.out.keep e5;have m3:Hid (OI w4 B (.slice (some ⟨l.heap.size+1,0,none⟩) N N) N ((AS c V 0).2++List.replicate (N - 0) 0)):=m2;have k5:Hid (BH bb o w4):=BH.below e5;have k3:Below B o w4:=e5.mono d5;replace e9:=qH e9;replace b9:=qH b9;replace a2:=qH a2;clear m1 m2 q8 e5 n3 d3 c1 n9 c3 c4 c5 c6;go_wp2_with fail
     go_loopw [56] (fun pv wr=>∃p:Nat,pv = .int .i64 p/\p<=N/\Hid (BX wr B bb mb (N:Int) (AS c V p).1)/\Hid (OI wr B (.slice (some ⟨l.heap.size+1,0,none⟩) N N) N ((AS c V p).2++List.replicate (N - p) 0))/\Hid (BH bb o wr)/\Below B o wr) (fun pv _=>N - (intOf pv).toNat)
     case atStart=>exact⟨0,rfl,by omega,l2,m3,k5,k3⟩
     case round=>
      clear l2 m3 k5 k3;obtain⟨p,rfl,x2,U,F,P,i6⟩:=hrel;have p7:=i6.size;by_cases l':p < N
      ·have l6:=e7.out p (by omega);obtain⟨s,c2⟩:=AB ([r0,r1,r2,r3,r4,r5,r6].getD (1+p) 0);rw[c2] at l6;obtain⟨s3,s4⟩:=l6;have w9:IntKind.i64.wrap ((k:Int)+1)=(k:Int)+1:=IntWalk.i64_in _ (by omega);go_wp2_with fail
       refine(dH _).mono ?_;rintro e d ⟨rfl,C⟩;obtain⟨wy,s9⟩:=AF (wr);subst s9;have b7:=U.out.keep C;have r7:=b7.lt;have b6:BH bb o d:=P.out.trans (BH.below C);have Z:Below B o d:=i6.trans (C.mono (wI d5 p7));have f6:=F.out.keep C;have k9:=k8.out.keepB2 b6 R.out.box
       have m8:=(b6 l.heap.size _ _ kR.out (by decide) (fun e=>by
        obtain⟨cs,hc⟩:=R.out.box;have n:=kR.out;rw[e,hc] at n;injection n with n;injection n with _ n;exact absurd n (by decide))).trans kR.out
       obtain⟨W5,a7⟩:=AF (d.alloc (.cells #[.int .i64 (p:Int),.int .i64 ((k:Int)+1),.int .i64 0,.int .i64 (AT s b 0 0),.int .i64 (AT s b 0 1),.int .i64 (AT s b 0 2),.int .i64 (AT s b 0 3),.int .i64 (AT s b 0 4)] 114));have l5:Below d.heap.size d W5:=(by rw[a7];exact(wB _ _).alloc (wC _) _);have kV:W5.heap[d.heap.size]? = some (.cells #[.int .i64 (p:Int),.int .i64 ((k:Int)+1),.int .i64 0,.int .i64 (AT s b 0 0),.int .i64 (AT s b 0 1),.int .i64 (AT s b 0 2),.int .i64 (AT s b 0 3),.int .i64 (AT s b 0 4)] 114):=(by rw[a7];exact wE _ _);have p3:=qH (fun W (r:Below d.heap.size d W) j (G:j < N)=>(k9.keep r).cell G)
       have p6:=qH (fun W (r:Below d.heap.size d W)=>show W.cell? ⟨l.heap.size,1+p,none⟩=some (.int .i64 s) by
        rw[cell_of_row _ _ (1+p) _ _ _ (AN r m8),<-c2];rcases(show p=0\/p=1\/p=2\/p=3\/p=4 by omega) with rfl|rfl|rfl|rfl|rfl<;>rfl)
       replace b7:=qH b7;replace b6:=qH b6;replace f6:=qH f6;replace c2:=qH c2;clear U F P k9 m8 C;have w6:=qH a7;go_wp2_with fail
       first
        | rw[<-a7]
        | rw[show d.alloc (.cells #[.int .i64 (p:Int),.int .i64 ((k:Int)+1),.int .i64 0,.int .i64 (-1),.int .i64 (-1),.int .i64 (-1),.int .i64 (-1),.int .i64 (-1)] 114)=W5 from a7.symm]
       clear a7;go_loopw [66] (fun qv wr=>∃a:Nat,qv = .int .i64 a/\a<=N/\wr.heap[d.heap.size]? = some (.cells #[.int .i64 (p:Int),.int .i64 ((k:Int)+1),.int .i64 0,.int .i64 (AT s b a 0),.int .i64 (AT s b a 1),.int .i64 (AT s b a 2),.int .i64 (AT s b a 3),.int .i64 (AT s b a 4)] 114)/\Below d.heap.size d wr) (fun qv _=>N - (intOf qv).toNat)
       case atStart=>exact⟨0,rfl,by omega,kV,l5⟩
       case round=>
        clear kV l5;obtain⟨a,rfl,x5,Q,D⟩:=hrel;by_cases q':a < N
        ·have cn:=p3.out wr D a q';have cr:=p6.out wr D;have m4:(p:Int) < 5:=(by omega);have g1:a < 5:=(by omega);have x6:(a:Int) < (N:Int):=(by omega);have x4:(a:Int) < 5:=(by omega);have x3:(0:Int)<=(a:Int):=Int.natCast_nonneg _;have ha:=RQ (x:=s) s3 s4 g1;cases a9:AY s (a:Int) with
         | true=>
          rw[a9,if_pos rfl] at ha;obtain⟨v9,c9⟩:=fQ g1 Q;have fz:=BG Q;have kN:=heap_setCell_same wr d.heap.size (3+a) _ _ (.int .i64 (b.getD a 0)) Q;rw[sX g1 a9] at kN;have l7:=Below.setCell (p:=⟨d.heap.size,3+a,none⟩) D (wC _) (.int .i64 (b.getD a 0));replace kN:=qH kN;obtain⟨b1,hi⟩:=AB (b.getD a 0);rw[hi] at cn kN l7;clear a9 Q D hi;go_wp2_with fail
          go_roundw
          case rel=>exact⟨a+1,by go_num,by omega,kN.out,l7⟩
          case measure=>simp[intOf];omega
         | false=>
          rw[a9,if_neg (by decide)] at ha;rw[sZ g1 a9] at Q;replace Q:=qH Q;clear a9;go_wp2_with fail
          go_roundw
          case rel=>exact⟨a+1,by go_num,by omega,Q.out,D⟩
          case measure=>simp[intOf];omega
        ·have s2:N=a:=(by omega);subst s2
         have f0:c p = [(p:Int),(k:Int)+1,0,AT s b N 0,AT s b N 1,AT s b N 2,AT s b N 3,AT s b N 4]:=by
          rw[e9.out];show[(p:Int),((k+1:Nat):Int),0]++IL ([r0,r1,r2,r3,r4,r5,r6].getD (1+p) 0) b=_
          rw[c2.out,lN q3.symm];rfl
         have p8:MM (c p):=by
          have A:=fun j=>sV (hs:=s) (bf:=b) (q:=N) (j:=j) (q2.out);have e0:=A 0;have Y:=A 1;have v5:=A 2;have v6:=A 3;have v7:=A 4;rw[f0];refine⟨rfl,fun v1 hy=>?_⟩;simp only[List.mem_cons,List.not_mem_nil,or_false] at hy;rcases hy with rfl|rfl|rfl|rfl|rfl|rfl|rfl|rfl<;>omega
         have j4:EG (c p) = .agg #[.int .i64 (p:Int),.int .i64 ((k:Int)+1),.int .i64 0,.int .i64 (AT s b N 0),.int .i64 (AT s b N 1),.int .i64 (AT s b N 2),.int .i64 (AT s b N 3),.int .i64 (AT s b N 4)]:=(by rw[f0];rfl);have l3:=b7.out.keep D;have q4:=l3.box;have x0:d.heap.size < wr.heap.size:=(wD.1 Q).1
         have a':∀g7,wr.heap[bb]? = some (.cells #[.int .i64 (N:Int),g7,.map (some mb)] 140)->g7.ownBlock ≠ some d.heap.size:=fun g7 X=>by
          obtain⟨v8,t2,t4,_⟩:=b7.out;rw[D.block bb r7.1,t2] at X;injection X with X;injection X with X _
          have X:v8=g7:=by
           have:=congrArg (fun n7:Array Value=>n7.toList) X
           simp only[List.cons.injEq,and_true,true_and] at this;first|exact this|exact this.1
          rw[<-X];exact oB t4 (wC _)
         have s6:w.heap.size<=wr.heap.size:=(by have:=k2.size;have:=Z.size;have:=D.size;omega);have o9:B<=wr.heap.size:=wI I s6;have H:=qH (fun W (r:Below wr.heap.size wr W)=>VQ (l3.keep r) (wI o9 r.size) p8 (by have:=NE (f:=c) (vs:=V) p;omega));simp only[j4] at H;have f7:=f6.out.keep D;have t:AS c V (p+1)=(BO (AS c V p).1 (c p),(AS c V p).2 ++ [(ixOf (BO (AS c V p).1 (c p)) (c p):Int)]):=rfl;have m:=HJ (f:=c) (vs:=V) p;obtain⟨V1,e2⟩:=AB ((AS c V p).1);obtain⟨I1,b5⟩:=AB ((AS c V p).2);rw[e2,b5] at t;rw[b5] at m;simp only[e2] at H;obtain⟨V2,e3⟩:=AB (BO V1 (c p));rw[e3] at t;simp only[e3] at H;obtain⟨z,hz⟩:=AB (ixOf V2 (c p));rw[hz] at t;simp only[hz] at H
         have a4:(I1++List.replicate (N - p) 0).set p (z:Int)=(I1 ++ [(z:Int)])++List.replicate (N - (p+1)) 0:=by
          rw[List.set_append_right _ _ (by omega),m,Nat.sub_self,show N - p=(N - (p+1))+1 by omega,List.replicate_succ,List.set_cons_zero,List.append_assoc];rfl
         rw[b5] at f7;have x1:d.heap.size ≠ l.heap.size+1:=(by have:=(World.ownsRow.lt f6.out (l.heap.size+1) rfl).2;omega);have t7:=box8' Q;obtain⟨y0,y1,y2,y3,y4,y5,y6,y7⟩:=t7;replace t:=qH t;replace a4:=qH a4;replace e2:=qH e2;replace b5:=qH b5;replace e3:=qH e3;replace hz:=qH hz;replace m:=qH m;replace f0:=qH f0;replace j4:=qH j4;have w8:=qH Q;have x7:=qH a';replace f7:=qH f7;have m4:(p:Int) < (N:Int):=(by omega);clear Q a';go_wp2_with fail
         refine(H.out _ (wB _ _)).mono ?_;rintro e i ⟨rfl,S,K,M,o'⟩;have y:=f7.out.keepB (by omega) K q4;have cN:=y.cell l';have fN:=y.free p;go_wp2_with fail
         have h6:Below B o i:=(Z.trans (D.mono (by have:=Z.size;have:=d5;omega))).trans M;have i5:Below B o (i.setCell ⟨l.heap.size+1,p,none⟩ (.int .i64 (z:Int))):=Below.setCell (p:=⟨l.heap.size+1,p,none⟩) h6 (by show B<=l.heap.size+1;omega) _;have a1:=(y.store p (z:Int)).1;rw[a4.out] at a1;have b8:=S.storeI y (by omega) p (.int .i64 (z:Int));have a0:BH bb o (i.setCell ⟨l.heap.size+1,p,none⟩ (.int .i64 (z:Int))):=((b6.out.trans (BH.below D)).trans K).newCell (by rw[g3.out];exact wC _) (y.made (by omega)).2.2.choose_spec;have i2:Hid (BX (i.setCell ⟨l.heap.size+1,p,none⟩ (.int .i64 (z:Int))) B bb mb (N:Int) (AS c V (p+1)).1):=(by show BX _ _ _ _ _ _;rw[t.out];exact b8);have h':Hid (OI (i.setCell ⟨l.heap.size+1,p,none⟩ (.int .i64 (z:Int))) B (.slice (some ⟨l.heap.size+1,0,none⟩) N N) N ((AS c V (p+1)).2++List.replicate (N - (p+1)) 0)):=(by show OI _ _ _ _ _;rw[t.out];exact a1);replace a0:=qH a0;clear a1 b8 S K y cN fN o';go_roundw
         case rel=>exact⟨p+1,by go_num,l',i2,h',a0,i5⟩
         case measure=>simp[intOf];omega
      ·have f9:p=N:=(by omega);have O:=F.out;rw[f9,Nat.sub_self,List.replicate_zero,List.append_nil] at O;have T:=U.out;rw[f9] at T
       have Y:AQ N xs wd vs (k+1)=((AS c V N).1,(AQ N xs wd vs k).2 ++ [(AS c V N).2]):=by
        rw[e9.out,<-b9.out,<-hr.out,<-c0.out];rfl
       have m:=HJ (f:=c) (vs:=V) N;have i':=p5.out.keepBV P.out R.out.box;have h8:BH bb w wr:=p0.out.trans P.out;have k4:Below B w wr:=k2.trans i6;have f':=IN N xs wd vs k;have d6:BD wr [.slice (some ⟨l.heap.size+1,0,none⟩) N N] (AS c V N).2:=⟨_,rfl,by rw[m];exact O.base (Nat.zero_le _)⟩;have i7:∀u∈(#[.slice (some ⟨l.heap.size+1,0,none⟩) N N]:Array Value).toList,u.oneCell'=true:=fun u hu=>by rw[List.mem_singleton.1 hu];rfl
       have q9:k+1<=1000000000000:=(by omega);have s5:w.heap.size<=wr.heap.size:=k4.size
       have r8:∀g',(Value.slice oa (k+1) oc).ownBlock=some g'->g' ≠ mb:=fun g' q6 e=>by
        obtain⟨ws,n,_⟩:=i';obtain⟨cs,hc⟩:=EY n g' q6;obtain⟨_,_,_,⟨es,v2,hm,_⟩,_⟩:=T;rw[e] at hc;rw[hc] at hm;cases hm
       have q0:=qH T;have l0:=qH O;have r':(AS c V N).2.length=N:=m;replace d6:=qH d6;replace i7:=qH i7;replace h8:=qH h8;replace Y:=qH Y;replace f':=qH f';replace f9:=qH f9;obtain⟨n0,a'⟩:=AB ((AS c V N).2);rw[a'] at d6 l0 r' Y;replace a':=qH a';clear U F P O T m;go_wp2_with (at_builtin;refine FH (x:=n0) SP (by decide) (by decide) (BD.stab (by decide)) rfl _ _ rfl rfl i' rfl rfl rfl i7.out d6.out q9 s5 ?_)
       intro v9 i k' l9 M g4
       have S:BX i B bb mb (N:Int) (AS c V N).1:=by
        obtain⟨vv,n,h2,h3,h4,h5,o7,o8⟩:=q0.out;exact⟨vv,(g4 bb _ _ n (by decide)).trans n,h2.other (E':=48) (EI.stab _) (by decide) g4,h3.keep (l9.block mb h3.lt fun e=>r8 mb e.symm rfl),h4,h5,o7,o8⟩
       have k7:=l0.out.other (E:=48) (by decide) g4;have K:BH bb w i:=h8.out.behind M;have h6:Below B w i:=k4.trans (M.mono I);have p':Hid (BX i B bb mb (N:Int) (AQ N xs wd vs (k+1)).1):=(by show BX _ _ _ _ _ _;rw[Y.out];exact S);have p4:Hid (AA 48 1 BD i w.heap.size v9 (k+1+1) (AQ N xs wd vs (k+1)).2):=by show AA _ _ _ _ _ _ _ _;rw[Y.out];exact k'
       have p2:Hid (OI i B (.slice (some ⟨l.heap.size+1,0,none⟩) N N) N ((AQ N xs wd vs (k+1)).2.getD (k+1) [])):=by
        show OI _ _ _ _ _;rw[Y.out];show OI _ _ _ _ (((AQ N xs wd vs k).2 ++ [n0]).getD (k+1) []);rw[List.getD_eq_getElem?_getD,List.getElem?_append_right (by rw[f'.out];exact wC _),f'.out,Nat.sub_self];exact k7
       replace K:=qH K;clear k' S k7 l9 M g4 i';go_wp2_with fail
       go_roundw
       case rel=>exact⟨k+1,l.heap.size+1,rfl,by go_num,i8,p2,p4,p',K,h6⟩
       case measure=>simp[intOf];omega
    ·obtain rfl:k=wd.length:=(by omega);clear J;go_wp2_with fail
     go_ret;exact⟨_,rfl,L.out.base I,i1.out,h9.out,v⟩
end Go.Proofs.YtcnedkkcgdkioaaGreat

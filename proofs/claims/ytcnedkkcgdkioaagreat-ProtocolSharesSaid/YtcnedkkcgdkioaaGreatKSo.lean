/- Texts of this claim, put together: TP TQ. -/
import Derived.Test.YtcnedkkcgdkioaaGreatKSn

set_option maxRecDepth 100000
set_option maxHeartbeats 12800000
namespace Go.Proofs.YtcnedkkcgdkioaaGreat
open Go.RowKit
theorem ixOf_ltV {κ:Type} [DecidableEq κ] {l:List κ}{x:κ}(h:x∈l):ixOf l x < l.length:=List.idxOf_lt_length_of_mem h
def idN (f:Nat->List Int) (vs:Jb):Nat->Jb × List Int
 | 0=>(vs,[])
 | k+1=>(putV (idN f vs k).1 (f k),(idN f vs k).2 ++ [(ixOf (putV (idN f vs k).1 (f k)) (f k):Int)])
section
variable {f:Nat->List Int} {vs:Jb}
theorem idN_len:∀k,(idN f vs k).2.length=k
 | 0=>rfl
 | k+1=>by rw[idN,List.length_append,idN_len k];rfl
theorem idN_le:∀k,(idN f vs k).1.length<=vs.length+k
 | 0=>Nat.le_refl _
 | k+1=>by
  have h1:=idN_le k;have h2:=putV_len (vs:=(idN f vs k).1) (v:=f k);rw[idN];show(putV _ _).length<=_;omega
theorem idN_lt:∀k,∀i∈(idN f vs k).2,0<=i/\i < ((idN f vs k).1.length:Int)
 | 0=>fun i hi=>by cases hi
 | k+1=>fun i hi=>by
  rw[idN] at hi|-
  have hl:(idN f vs k).1.length<=(putV (idN f vs k).1 (f k)).length:=by
   unfold putV;split
   ·exact Nat.le_refl _
   ·rw[List.length_append];omega
  rcases List.mem_append.1 hi with h1|h1
  ·obtain⟨h2,h3⟩:=idN_lt k i h1;exact⟨h2,by show i < ((putV _ _).length:Int);omega⟩
  ·rw[List.mem_singleton] at h1;subst h1;have:=ixOf_ltV (l:=putV (idN f vs k).1 (f k)) (x:=f k) (putV_mem.2 (.inr rfl))
   exact⟨by omega,by show _ < ((putV _ _).length:Int);omega⟩
end
def herL (hs:Int) (before:List Int):List Int:=(List.range 5).map fun q=>if q < before.length/\hasI hs (q:Int)=true then before.getD q 0 else -1
def seeV (r:List Int) (k p:Nat) (before:List Int):List Int:=[(p:Int),(k:Int),0]++herL (r.getD (1+p) 0) before
def plN (n:Nat) (xs:List Int) (wd:Jb) (vs:Jb):Nat->Jb × Jb
 | 0=>((idN (fun p=>fstV (p:Int) (xs.getD p 0)) vs n).1,[(idN (fun p=>fstV (p:Int) (xs.getD p 0)) vs n).2])
 | k+1=>((idN (fun p=>seeV (wd.getD k []) (k+1) p ((plN n xs wd vs k).2.getD k [])) (plN n xs wd vs k).1 n).1,(plN n xs wd vs k).2 ++ [(idN (fun p=>seeV (wd.getD k []) (k+1) p ((plN n xs wd vs k).2.getD k [])) (plN n xs wd vs k).1 n).2])
theorem plN_len (n:Nat) (xs:List Int) (wd:Jb) (vs:Jb):∀k,(plN n xs wd vs k).2.length=k+1
 | 0=>rfl
 | k+1=>by rw[plN,List.length_append,plN_len n xs wd vs k];rfl
theorem plN_le (n:Nat) (xs:List Int) (wd:Jb) (vs:Jb):∀k,(plN n xs wd vs k).1.length<=vs.length+n * (k+1)
 | 0=>by rw[plN,Nat.zero_add,Nat.mul_one];exact idN_le n
 | k+1=>by
  have h1:=plN_le n xs wd vs k;rw[plN];refine Nat.le_trans (idN_le n) ?_;rw[Nat.mul_succ n (k+1)];omega
def exeL (n:Nat) (vs:Jb):List (Int × List Int × Jb)->Jb × List Ex
 | []=>(vs,[])
 | (c,xs,wd)::l=>((exeL n (plN n xs wd vs wd.length).1 l).1,(c,wd,(plN n xs wd vs wd.length).2)::(exeL n (plN n xs wd vs wd.length).1 l).2)
def pairsP (cs:List Cs) (ws:Jc):List (Int × List Int × Jb):=
 cs.zipIdx.flatMap fun c=>ws.map fun w=>((c.2:Int),c.1.1,w)
def sysP (n:Nat) (cs:List Cs) (ws:Jc):Jb × List Ex:=exeL n [] (pairsP cs ws)
end Go.Proofs.YtcnedkkcgdkioaaGreat
namespace Go.Proofs.YtcnedkkcgdkioaaGreat
open Go.RowKit
theorem OI.keepB {w w':World}{B g n c bb:Nat}{xs:List Int}(h:OI w B (.slice (some ⟨g,0,none⟩) n c) n xs) (hn:0 < n) (hk:KeepB bb w w') (hbb:∃cs,w.heap[bb]? = some (.cells cs 140)):OI w' B (.slice (some ⟨g,0,none⟩) n c) n xs:=by
 obtain⟨_,_,cs,hc⟩:=h.made hn;refine h.same hn (hk g cs _ hc (by decide) fun e=>?_);subst e;obtain⟨cs',h'⟩:=hbb;rw[hc] at h';injection h' with h';injection h' with _ h';exact absurd h' (by decide)
theorem BuV.box {w:World}{B bb mb:Nat}{n:Int}{vs:Jb}(h:BuV w B bb mb n vs):∃cs,w.heap[bb]? = some (.cells cs 140):=by
 obtain⟨v,h1,_⟩:=h;exact⟨_,h1⟩
theorem BuV.num {w:World}{B bb mb:Nat}{n:Int}{vs:Jb}(h:BuV w B bb mb n vs):w.cell? ⟨bb,0,none⟩=some (.int .i64 n):=by
 obtain⟨v,h1,_⟩:=h;rw[cell_of_row _ _ 0 _ _ _ h1];rfl
theorem KeepB.newCell {bb g j:Nat}{w W:World}{v:Value}{cs:Array Value}{t:TypeId}(h:KeepB bb w W) (hg:w.heap.size<=g) (hc:W.heap[g]? = some (.cells cs t)):KeepB bb w (W.setCell ⟨g,j,none⟩ v):=⟨fun k cs t hk ht hn=>by
 have hl:=(Array.getElem?_eq_some_iff.1 hk).1;exact(Below.heap_setCell W ⟨g,j,none⟩ v k (by show k ≠ g;omega)).trans (h k cs t hk ht hn),h.lo.trans (KeepL.setCell (p:=⟨g,j,none⟩) hc v)⟩
theorem BuV.storeI {w:World}{B B' bb mb g m c:Nat}{n:Int}{vs:Jb}{xs:List Int}(h:BuV w B bb mb n vs) (ho:OI w B' (.slice (some ⟨g,0,none⟩) m c) m xs) (hm:0 < m) (j:Nat) (v:Value):BuV (w.setCell ⟨g,j,none⟩ v) B bb mb n vs:=by
 obtain⟨_,_,cs,hc⟩:=ho.made hm;obtain⟨vv,h1,h2,h3,h4,h5,h6,h7⟩:=h;have hx:KeepX 3 w (w.setCell ⟨g,j,none⟩ v):=KeepX.setCell (p:=⟨g,j,none⟩) hc v;refine⟨vv,(hx bb _ _ h1 (by decide)).trans h1,h2.other (E':=3) (EI.stab _) (by decide) hx,h3.keep (Below.heap_setCell w ⟨g,j,none⟩ v mb fun e=>?_),h4,h5,h6,h7⟩;have e:mb=g:=e;obtain⟨es,c,hb,_⟩:=h3;rw[e,hc] at hb;cases hb
theorem OI.keepB2 {w w':World}{B n bb:Nat}{v:Value}{xs:List Int}(h:OI w B v n xs) (hk:KeepB bb w w') (hbb:∃cs,w.heap[bb]? = some (.cells cs 140)):OI w' B v n xs:=by
 refine⟨h.1,?_⟩;rcases h.2 with h'|⟨g,cap,cur,h1,h2,h3,h4⟩
 ·exact .inl h'
 ·refine .inr ⟨g,cap,cur,h1,h2,(hk g cur _ h3 (by decide) fun e=>?_).trans h3,h4⟩;subst e;obtain⟨cs',h'⟩:=hbb;rw[h3] at h';injection h' with h';injection h' with _ h';exact absurd h' (by decide)
theorem OwX.keepBV {w w':World}{B n bb:Nat}{v:Value}{xs:Jb}(h:OwX 48 1 EVi w B v n xs) (hk:KeepB bb w w') (hbb:∃cs,w.heap[bb]? = some (.cells cs 140)):OwX 48 1 EVi w' B v n xs:=by
 obtain⟨vs,h1,h2,h3,h4⟩:=h;refine⟨vs,⟨h1.1,?_⟩,h2,h3,fun j x hj=>?_⟩
 ·rcases h1.2 with h'|⟨g,cap,cur,k1,k2,k3,k4⟩
  ·exact .inl h'
  ·refine .inr ⟨g,cap,cur,k1,k2,(hk g cur _ k3 (by decide) fun e=>?_).trans k3,k4⟩;subst e;obtain⟨cs',h'⟩:=hbb;rw[k3] at h';injection h' with h';injection h' with _ h';exact absurd h' (by decide)
 ·obtain⟨u,e,ho⟩:=h4 j x hj;exact⟨u,e,ho.keepB2 hk hbb⟩
theorem KS.at7 {w:World}{a:Option Addr}{c:Nat}{l:Jb}(h:KS 7 w (.slice a l.length c) l) (h0:0 < l.length):∃b off,a=some ⟨b,off,none⟩/\CK 7 w b off l:=by
 obtain⟨a',c',b,off,hv,ha,hc,_⟩:=h;injection hv with e1 _ _;exact⟨b,off,e1.trans (ha h0),hc⟩
def seeQ (hs:Int) (before:List Int) (q j:Nat):Int:=if j < q/\hasI hs (j:Int)=true then before.getD j 0 else -1
theorem seeQ_ne {hs:Int}{bf:List Int}{q j:Nat}(h:j ≠ q):seeQ hs bf (q+1) j=seeQ hs bf q j:=by
 unfold seeQ;have:j < q+1↔j < q:=by omega
 simp only[this]
theorem seeQ_hit {hs:Int}{bf:List Int}{q:Nat}(h:hasI hs (q:Int)=true):seeQ hs bf (q+1) q=bf.getD q 0:=by
 unfold seeQ;rw[if_pos ⟨Nat.lt_succ_self q,h⟩]
theorem seeQ_miss {hs:Int}{bf:List Int}{q:Nat}(h:hasI hs (q:Int)=false):seeQ hs bf (q+1) q=seeQ hs bf q q:=by
 unfold seeQ;rw[h,if_neg (by simp),if_neg (by simp)]
theorem seeQ_hitA {P K Z:Value}{hs:Int}{bf:List Int}{q:Nat}(hq:q < 5) (h:hasI hs (q:Int)=true):(#[P,K,Z,.int .i64 (seeQ hs bf q 0),.int .i64 (seeQ hs bf q 1),.int .i64 (seeQ hs bf q 2),.int .i64 (seeQ hs bf q 3),.int .i64 (seeQ hs bf q 4)]:Array Value).setIfInBounds (3+q) (.int .i64 (bf.getD q 0)) = #[P,K,Z,.int .i64 (seeQ hs bf (q+1) 0),.int .i64 (seeQ hs bf (q+1) 1),.int .i64 (seeQ hs bf (q+1) 2),.int .i64 (seeQ hs bf (q+1) 3),.int .i64 (seeQ hs bf (q+1) 4)]:=by
 have eh:=seeQ_hit (bf:=bf) h;have e0:0 ≠ q->seeQ hs bf (q+1) 0=seeQ hs bf q 0:=seeQ_ne;have e1:1 ≠ q->seeQ hs bf (q+1) 1=seeQ hs bf q 1:=seeQ_ne;have e2:2 ≠ q->seeQ hs bf (q+1) 2=seeQ hs bf q 2:=seeQ_ne;have e3:3 ≠ q->seeQ hs bf (q+1) 3=seeQ hs bf q 3:=seeQ_ne;have e4:4 ≠ q->seeQ hs bf (q+1) 4=seeQ hs bf q 4:=seeQ_ne;rcases(show q=0\/q=1\/q=2\/q=3\/q=4 by omega) with rfl|rfl|rfl|rfl|rfl
 ·rw[eh,e1 (by decide),e2 (by decide),e3 (by decide),e4 (by decide)];rfl
 ·rw[eh,e0 (by decide),e2 (by decide),e3 (by decide),e4 (by decide)];rfl
 ·rw[eh,e0 (by decide),e1 (by decide),e3 (by decide),e4 (by decide)];rfl
 ·rw[eh,e0 (by decide),e1 (by decide),e2 (by decide),e4 (by decide)];rfl
 ·rw[eh,e0 (by decide),e1 (by decide),e2 (by decide),e3 (by decide)];rfl
theorem seeQ_missA {P K Z:Value}{hs:Int}{bf:List Int}{q:Nat}(hq:q < 5) (h:hasI hs (q:Int)=false):(#[P,K,Z,.int .i64 (seeQ hs bf q 0),.int .i64 (seeQ hs bf q 1),.int .i64 (seeQ hs bf q 2),.int .i64 (seeQ hs bf q 3),.int .i64 (seeQ hs bf q 4)]:Array Value) = #[P,K,Z,.int .i64 (seeQ hs bf (q+1) 0),.int .i64 (seeQ hs bf (q+1) 1),.int .i64 (seeQ hs bf (q+1) 2),.int .i64 (seeQ hs bf (q+1) 3),.int .i64 (seeQ hs bf (q+1) 4)]:=by
 have eh:=seeQ_miss (bf:=bf) h;have e0:0 ≠ q->seeQ hs bf (q+1) 0=seeQ hs bf q 0:=seeQ_ne;have e1:1 ≠ q->seeQ hs bf (q+1) 1=seeQ hs bf q 1:=seeQ_ne;have e2:2 ≠ q->seeQ hs bf (q+1) 2=seeQ hs bf q 2:=seeQ_ne;have e3:3 ≠ q->seeQ hs bf (q+1) 3=seeQ hs bf q 3:=seeQ_ne;have e4:4 ≠ q->seeQ hs bf (q+1) 4=seeQ hs bf q 4:=seeQ_ne;rcases(show q=0\/q=1\/q=2\/q=3\/q=4 by omega) with rfl|rfl|rfl|rfl|rfl
 ·rw[eh,e1 (by decide),e2 (by decide),e3 (by decide),e4 (by decide)]
 ·rw[eh,e0 (by decide),e2 (by decide),e3 (by decide),e4 (by decide)]
 ·rw[eh,e0 (by decide),e1 (by decide),e3 (by decide),e4 (by decide)]
 ·rw[eh,e0 (by decide),e1 (by decide),e2 (by decide),e4 (by decide)]
 ·rw[eh,e0 (by decide),e1 (by decide),e2 (by decide),e3 (by decide)]
theorem cellQ {W:World}{b q:Nat}{v0 v1 v2 v3 v4 v5 v6 v7:Value}{t:TypeId}(hq:q < 5) (h:W.heap[b]? = some (.cells #[v0,v1,v2,v3,v4,v5,v6,v7] t)):∃v,W.cell? ⟨b,3+q,none⟩=some v:=by
 rcases(show q=0\/q=1\/q=2\/q=3\/q=4 by omega) with rfl|rfl|rfl|rfl|rfl
 all_goals exact⟨_,by rw[cell_of_row _ _ _ _ _ _ h];rfl⟩
theorem seeQ_bd {hs:Int}{bf:List Int}{q j:Nat}(h:∀i∈bf,0<=i/\i<=100000) : -1000000<=seeQ hs bf q j/\seeQ hs bf q j<=1000000:=by
 unfold seeQ;split
 ·by_cases hj:j < bf.length
  ·have:=h (bf.getD j 0) (by rw[getD_eq hj];exact List.getElem_mem hj)
   omega
  ·rw[List.getD_eq_getElem?_getD,List.getElem?_eq_none (by omega)];exact⟨by decide,by decide⟩
 ·omega
theorem plN_bd (n:Nat) (xs:List Int) (wd:Jb) (vs:Jb):∀k,∀i∈(plN n xs wd vs k).2.getD k [],0<=i/\i < ((plN n xs wd vs k).1.length:Int)
 | 0,i,hi=>idN_lt n i hi
 | k+1,i,hi=>by
  have hpl:=plN_len n xs wd vs k;rw[plN] at hi|-;have hi:i∈((plN n xs wd vs k).2 ++ [(idN (fun p=>seeV (wd.getD k []) (k+1) p ((plN n xs wd vs k).2.getD k [])) (plN n xs wd vs k).1 n).2]).getD (k+1) []:=hi;rw[List.getD_eq_getElem?_getD,List.getElem?_append_right (by rw[hpl];exact Nat.le_refl _),hpl,Nat.sub_self] at hi;exact idN_lt n i hi
theorem KeepB.behind {bb:Nat}{w W W':World}(h:KeepB bb w W) (hb:Below w.heap.size W W'):KeepB bb w W':=⟨fun k cs t hk ht hn=>(hb.block k (Array.getElem?_eq_some_iff.1 hk).1).trans (h k cs t hk ht hn),⟨Nat.le_trans h.lo.size hb.size,fun k o ho hl=>(hb.block k (Array.getElem?_eq_some_iff.1 ho).1).trans (h.lo.objs k o ho hl)⟩⟩
theorem ownNot {w:World}{B n b:Nat}{v:Value}{xs:Jb}(h:OwX 114 8 EI w B v n xs) (hb:w.heap.size<=b):v.ownBlock ≠ some b:=fun e=>by
 obtain⟨vs,h1,_⟩:=h;obtain⟨cs,hc⟩:=ownsRow_ty h1 b e;have:=(Array.getElem?_eq_some_iff.1 hc).1
 omega
theorem BuV.lt {w:World}{B bb mb:Nat}{n:Int}{vs:Jb}(h:BuV w B bb mb n vs):bb < w.heap.size/\mb < w.heap.size:=by
 obtain⟨v,h1,h2,h3,_⟩:=h;exact⟨(Array.getElem?_eq_some_iff.1 h1).1,h3.lt⟩
theorem herL_seeQ {hs:Int}{before:List Int}{q:Nat}(h:q=before.length):herL hs before = [seeQ hs before q 0,seeQ hs before q 1,seeQ hs before q 2,seeQ hs before q 3,seeQ hs before q 4]:=by
 subst h;rfl
theorem playRow {w0 w:World}{B bb mb N:Nat}{vs:Jb}{u wv:Value}{xs:List Int}{wd:Jb}(hb0:Below w0.heap.size w0 w) (hBe:w0.heap.size=B) (hU:BuV w B bb mb (N:Int) vs) (hx:Ints w0 u xs) (hxl:xs.length=N) (hxs:∀j,j < N->0<=xs.getD j 0/\xs.getD j 0<=1000) (hw:KS 7 w0 wv wd) (hwl:wd.length<=6) (hwb:∀k,k < wd.length->∀p:Nat,p < 5->0<=(wd.getD k []).getD (1+p) 0/\(wd.getD k []).getD (1+p) 0<=31) (hN:1<=N/\N<=5) (hvl:vs.length<=5000) :
  Calls Tryz.prog 77 #[.pointer (some ⟨bb,0,none⟩),u,wv] w fun e w'=>∃ov,e = .returned ov/\OwX 48 1 EVi w' B ov (wd.length+1) (plN N xs wd vs wd.length).2/\BuV w' B bb mb (N:Int) (plN N xs wd vs wd.length).1/\KeepB bb w w'/\Below B w w':=by
 have hBw:B<=w.heap.size:=by rw[<-hBe];exact hb0.size
 obtain⟨xa,xc,xb,xo,rfl,hxa,hxc,_⟩:=hx;obtain rfl:=hxa (by omega);rw[hxl];obtain⟨wa,wc,hws⟩:=hw.shape;subst hws;have hX:=qH (fun W (hb:Below B w W) p (hp:p < N)=>cell_kept (hb0.trans (by rw[hBe];exact hb)) (hxc p (by omega)));have hW:=qH (fun W (hb:Below B w W)=>hw.keep (hb0.trans (by rw[hBe];exact hb)));replace hwb:=qH hwb;have hU0:=qH hU;have hn0:=hU.num;obtain⟨f,hf⟩:∃f:Nat->List Int,f=fun(p:Nat)=>fstV (p:Int) (xs.getD p 0):=⟨_,rfl⟩
 have hfs:∀j,j < N->SmV (f j):=fun j hj=>by
  have h1:=hxs j hj;rw[hf];refine⟨rfl,fun y hy=>?_⟩;simp only[fstV,List.mem_cons,List.not_mem_nil,or_false] at hy;rcases hy with rfl|rfl|rfl|rfl|rfl|rfl|rfl|rfl<;>omega
 replace hfs:=qH hfs;have hfv:=qH (fun(p:Nat)=>show vwV (f p) = .agg #[.int .i64 (p:Int),.int .i64 0,.int .i64 (xs.getD p 0),.int .i64 (-1),.int .i64 (-1),.int .i64 (-1),.int .i64 (-1),.int .i64 (-1)] by rw[hf];rfl);replace hxs:=qH hxs;replace hf:=qH hf;obtain⟨hN1,hN5⟩:=hN;clear hU hxc hxa hw;go_enter Tryz.func77, Tryz.ntmps77
 go_wp2_with (at_make;refine wpMakeI rfl _ _ rfl N rfl rfl (by omega) hBw ?_;intro w1 ho1 hgr1 hb1)
 have hU1:=hU0.out.keep hb1;obtain⟨g,hg⟩:=exF (w.heap.size);rw[<-hg] at ho1|-;replace hg:=qH hg;have hk1:KeepB bb w w1:=KeepB.below hb1;have hB1:Below B w w1:=hb1.mono hBw;have ho1':OI w1 B (.slice (some ⟨g,0,none⟩) N N) N ((idN f vs 0).2++List.replicate (N - 0) 0):=ho1;have hU1':BuV w1 B bb mb (N:Int) (idN f vs 0).1:=hU1;replace ho1':=qH ho1';replace hU1':=qH hU1';replace hk1:=qH hk1;clear ho1 hU1 hgr1 hb1 hn0;go_wp2_with fail
 go_loopw [24] (fun iv wr=>∃p:Nat,iv = .int .i64 p/\p<=N/\Hid (BuV wr B bb mb (N:Int) (idN f vs p).1)/\Hid (OI wr B (.slice (some ⟨g,0,none⟩) N N) N ((idN f vs p).2++List.replicate (N - p) 0))/\Hid (KeepB bb w wr)/\Below B w wr) (fun iv _=>N - (intOf iv).toNat)
 case atStart=>exact⟨0,rfl,by omega,hU1',ho1',hk1,hB1⟩
 case round=>
  clear hU1' ho1' hk1 hB1;obtain⟨p,rfl,hp,hUr,hor,hkr,hbr⟩:=hrel;by_cases hlt:p < N
  ·have c0:=hX.out wr hbr p hlt;obtain⟨x,hxx⟩:=exE (xs.getD p 0);rw[hxx] at c0;have hfp:=hfv.out p;rw[hxx] at hfp;have hSz:=hbr.size;have hHA:=qH (fun W (hb:Below wr.heap.size wr W)=>addC (hUr.out.keep hb) (Nat.le_trans (Nat.le_trans hBw hSz) hb.size) (hfs.out p hlt) (by have:=idN_le (f:=f) (vs:=vs) p;omega));simp only[hfp] at hHA;have hstep:idN f vs (p+1)=(putV (idN f vs p).1 (f p),(idN f vs p).2 ++ [(ixOf (putV (idN f vs p).1 (f p)) (f p):Int)]):=rfl;have hil:=idN_len (f:=f) (vs:=vs) p;obtain⟨V,hV⟩:=exE ((idN f vs p).1);obtain⟨I,hI⟩:=exE ((idN f vs p).2);rw[hV,hI] at hstep;rw[hI] at hil;simp only[hV] at hHA;obtain⟨V',hV'⟩:∃V',putV V (f p)=V':=⟨_,rfl⟩;rw[hV'] at hstep;simp only[hV'] at hHA;obtain⟨q,hq⟩:=exE (ixOf V' (f p));rw[hq] at hstep;simp only[hq] at hHA;have hfr:=fun W (h:OI W B (.slice (some ⟨g,0,none⟩) N N) N (I++List.replicate (N - p) 0))=>h.cell hlt
   have hset:(I++List.replicate (N - p) 0).set p (q:Int)=(I ++ [(q:Int)])++List.replicate (N - (p+1)) 0:=by
    rw[List.set_append_right _ _ (by omega),hil,Nat.sub_self,show N - p=(N - (p+1))+1 by omega,List.replicate_succ,List.set_cons_zero,List.append_assoc];rfl
   rw[hI] at hor;replace hstep:=qH hstep;replace hset:=qH hset;replace hfp:=qH hfp;replace hxx:=qH hxx;replace hV:=qH hV;replace hI:=qH hI;replace hV':=qH hV';replace hq:=qH hq;replace hil:=qH hil;have hpi:(p:Int) < (N:Int):=(by omega);clear hfr;go_wp2_with fail
   go_region_held3 (fun w'=>w'.cell? ⟨xb,xo+p,none⟩=some (.int .i64 x))
    (first
     | go_keep
     | (exact cell_kept hb8 c0)
     | (have h:=hX.out _ (Below.setCell (p:=⟨g,p,none⟩) (hbr.trans (hB8.trans hb9)) (World.ownsRow.lt hor.out g rfl).1 (.int .i64 (q:Int))) p hlt;rw[hxx.out] at h;exact h)
     | (have h:=hX.out _ (hbr.trans (hB8.trans hb9)) p hlt;rw[hxx.out] at h;exact h))
    (first
     | (go_at_call 136;refine(silenceC _).mono ?_;rintro e w8 ⟨rfl,hb8⟩;have hb8':Below wr.heap.size wr w8:=(by first|exact hb8|exact(below_drewN (Below.refl _ wr) 1).trans hb8);have hB8:Below B wr w8:=hb8'.mono (Nat.le_trans hBw hSz))
     | (go_at_call 135;refine(hHA.out _ (by first|exact hb8|exact(below_drewN (Below.refl _ wr) 1).trans hb8)).mono ?_;rintro e w9 ⟨rfl,hU9,hK9,hb9,_⟩;have ho9:=(hor.out.keep hb8').keepB (by omega) hK9 (hUr.out.keep hb8').box;have cN:=ho9.cell hlt;have fN:=ho9.free p))
   have hbe:Below B w (w9.setCell ⟨g,p,none⟩ (.int .i64 (q:Int))):=Below.setCell (p:=⟨g,p,none⟩) (hbr.trans (hB8.trans hb9)) (World.ownsRow.lt hor.out g rfl).1 _;have hOn:=(ho9.store p (q:Int)).1;rw[hset.out] at hOn;have hUn:=hU9.storeI ho9 (by omega) p (.int .i64 (q:Int));have hKn:KeepB bb w (w9.setCell ⟨g,p,none⟩ (.int .i64 (q:Int))):=((hkr.out.trans (KeepB.below hb8')).trans hK9).newCell (by rw[hg.out];exact Nat.le_refl _) (ho9.made (by omega)).2.2.choose_spec;have hUn':Hid (BuV (w9.setCell ⟨g,p,none⟩ (.int .i64 (q:Int))) B bb mb (N:Int) (idN f vs (p+1)).1):=(by show BuV _ _ _ _ _ _;rw[hstep.out];exact hUn);have hOn':Hid (OI (w9.setCell ⟨g,p,none⟩ (.int .i64 (q:Int))) B (.slice (some ⟨g,0,none⟩) N N) N ((idN f vs (p+1)).2++List.replicate (N - (p+1)) 0)):=(by show OI _ _ _ _ _;rw[hstep.out];exact hOn);replace hKn:=qH hKn;clear hOn hUn hU9 hK9 ho9 cN fN;go_wp2_with fail
   go_roundw
   case rel=>exact⟨p+1,by go_num,hlt,hUn',hOn',hKn,hbe⟩
   case measure=>simp[intOf];omega
  ·have hpN:p=N:=(by omega);have hOr:=hor.out;rw[hpN,Nat.sub_self,List.replicate_zero,List.append_nil] at hOr;have hUr':=hUr.out;rw[hpN] at hUr';have e0:plN N xs wd vs 0=((idN f vs N).1,[(idN f vs N).2]):=(by rw[hf.out];rfl);have hil:=idN_len (f:=f) (vs:=vs) N;obtain⟨W2,hW2⟩:=exF (wr.alloc (.cells #[.slice (some ⟨g,0,none⟩) N N] 48));have hb2:Below wr.heap.size wr W2:=(by rw[hW2];exact(Below.refl _ _).alloc (Nat.le_refl _) _);have hSz:=hbr.size;have hBr:B<=wr.heap.size:=Nat.le_trans hBw hSz;have hown:=World.ownsRow_lit (base:=w.heap.size) (e:=48) (size:=1) wr #[.slice (some ⟨g,0,none⟩) N N] 1 hSz (by unfold maxLen;omega) rfl;rw[<-hW2] at hown
   have hOut:OwX 48 1 EVi W2 w.heap.size (.slice (some ⟨wr.heap.size,0,none⟩) 1 1) (0+1) (plN N xs wd vs 0).2:=by
    rw[e0];refine⟨_,hown,rfl,fun u hu=>by rw[List.mem_singleton.1 hu];rfl,fun j x hj=>?_⟩;match j,hj with
    | 0,hj=>
     simp only[List.getElem?_cons_zero,Option.some.injEq] at hj;subst hj;exact⟨_,rfl,by rw[hil];exact(hOr.keep hb2).base (Nat.zero_le _)⟩
    | j+1,hj=>simp at hj
   have hNow:OI W2 B (.slice (some ⟨g,0,none⟩) N N) N ((plN N xs wd vs 0).2.getD 0 []):=(by rw[e0];exact hOr.keep hb2);have hU2:BuV W2 B bb mb (N:Int) (plN N xs wd vs 0).1:=(by rw[e0];exact hUr'.keep hb2);have hK2:KeepB bb w W2:=hkr.out.trans (KeepB.below hb2);have hB2:Below B w W2:=hbr.trans (hb2.mono hBr);replace hOut:=qH hOut;replace hNow:=qH hNow;replace hU2:=qH hU2;replace hK2:=qH hK2;replace hpN:=qH hpN;clear hUr hor hkr hOr hUr' e0 hil hown hSz hBr hb2 hbr hfv hfs;go_wp2_with fail
   rw[<-hW2];replace hW2:=qH hW2;go_loopw [7,9,44] (fun nv ov iv wr=>∃k gk:Nat,nv = .slice (some ⟨gk,0,none⟩) N N/\iv = .int .i64 k/\k<=wd.length/\Hid (OI wr B (.slice (some ⟨gk,0,none⟩) N N) N ((plN N xs wd vs k).2.getD k []))/\Hid (OwX 48 1 EVi wr w.heap.size ov (k+1) (plN N xs wd vs k).2)/\Hid (BuV wr B bb mb (N:Int) (plN N xs wd vs k).1)/\Hid (KeepB bb w wr)/\Below B w wr) (fun _ _ iv _=>wd.length - (intOf iv).toNat)
   case atStart=>exact⟨0,g,rfl,rfl,by omega,hNow,hOut,hU2,hK2,hB2⟩
   case round=>
    clear hOut hNow hU2 hK2 hB2;obtain⟨k,gk,rfl,rfl,hk,hNow,hOut,hUk,hKk,hbr⟩:=hrel;obtain⟨oa,oc,hos⟩:=hOut.out.shape;subst hos;by_cases hlk:k < wd.length
    ·obtain⟨wb,wo,hwa,hwc⟩:=(hW.out wr hbr).at7 (by omega);obtain⟨hr7,hrc⟩:=hwc k hlk;obtain⟨r,hr⟩:=exE (wd.getD k []);have hbits:=hwb.out k hlk;rw[hr] at hr7 hrc hbits;obtain⟨r0,r1,r2,r3,r4,r5,r6,rfl⟩:=seven hr7;obtain⟨c0,c1,c2,c3,c4,c5,c6⟩:=hrc.all7;obtain⟨bf,hbf⟩:=exE ((plN N xs wd vs k).2.getD k []);obtain⟨W3,hW3⟩:=exF (wr.alloc (.cells #[.int .i64 r0,.int .i64 r1,.int .i64 r2,.int .i64 r3,.int .i64 r4,.int .i64 r5,.int .i64 r6] 148));have hb3:Below wr.heap.size wr W3:=(by rw[hW3];exact(Below.refl _ _).alloc (Nat.le_refl _) _);have kR:W3.heap[wr.heap.size]? = some (.cells #[.int .i64 r0,.int .i64 r1,.int .i64 r2,.int .i64 r3,.int .i64 r4,.int .i64 r5,.int .i64 r6] 148):=(by rw[hW3];exact heap_alloc_new _ _);have hsW3:W3.heap.size=wr.heap.size+1:=(by rw[hW3];simp);rw[hbf] at hNow;have hBr:B<=wr.heap.size:=Nat.le_trans hBw hbr.size;have hU3:=hUk.out.keep hb3;have n3:=hU3.num;have hNow3:=qH (hNow.out.keep hb3);have hOut3:=qH (hOut.out.keep (EVi.stab (by decide)) hb3);have hK3:=qH (hKk.out.trans (KeepB.below hb3));have hB3:Below B w W3:=hbr.trans (hb3.mono hBr);have hB3s:B<=W3.heap.size:=Nat.le_trans hBr hb3.size;replace hU3:=qH hU3;replace hbits:=qH hbits;replace kR:=qH kR;replace hr:=qH hr;replace hbf:=qH hbf;replace hsW3:=qH hsW3;rw[hW3] at n3;clear hwc hr7 hrc hNow hOut hUk hKk;subst hwa;go_wp2_with (at_make;rw[<-hW3];refine wpMakeI rfl _ _ rfl N rfl rfl (by omega) hB3s ?_;intro w4 ho4 hgr4 hb4)
     have ho4':OI w4 B (.slice (some ⟨wr.heap.size+1,0,none⟩) N N) N (List.replicate N 0):=(by rw[<-hsW3.out];exact ho4);have hbl:bf.length=N:=hNow3.out.length;obtain⟨wz,hwz⟩:=exF (wr);subst hwz
     have hbB:Hid (∀i∈bf,0<=i/\i<=100000):=by
      show ∀i∈bf,_;intro i hi;have h1:=plN_bd N xs wd vs k i (by rw[hbf.out];exact hi);have h2:=plN_le N xs wd vs k;have h3:N * (k+1)<=5 * 7:=Nat.mul_le_mul hN5 (by omega);omega
     obtain⟨f2,hf2⟩:∃f2:Nat->List Int,f2=fun(p:Nat)=>seeV [r0,r1,r2,r3,r4,r5,r6] (k+1) p bf:=⟨_,rfl⟩;obtain⟨Vk,hVk⟩:=exE ((plN N xs wd vs k).1);rw[hVk] at hU3
     have hVl:Vk.length<=5040:=by
      have h1:=plN_le N xs wd vs k;rw[hVk] at h1;have h2:N * (k+1)<=5 * 7:=Nat.mul_le_mul hN5 (by omega);omega
     have hU4:Hid (BuV w4 B bb mb (N:Int) (idN f2 Vk 0).1):=hU3.out.keep hb4;have ho4h:Hid (OI w4 B (.slice (some ⟨wz.heap.size+1,0,none⟩) N N) N ((idN f2 Vk 0).2++List.replicate (N - 0) 0)):=ho4';have hK4:Hid (KeepB bb W3 w4):=KeepB.below hb4;have hB4:Below B W3 w4:=hb4.mono hB3s;replace hf2:=qH hf2;replace hVk:=qH hVk;replace hW3:=qH hW3;clear ho4 ho4' hgr4 hb4 n3 c0 c1 c2 c3 c4 c5 c6;go_wp2_with fail
     go_loopw [56] (fun pv wr=>∃p:Nat,pv = .int .i64 p/\p<=N/\Hid (BuV wr B bb mb (N:Int) (idN f2 Vk p).1)/\Hid (OI wr B (.slice (some ⟨wz.heap.size+1,0,none⟩) N N) N ((idN f2 Vk p).2++List.replicate (N - p) 0))/\Hid (KeepB bb W3 wr)/\Below B W3 wr) (fun pv _=>N - (intOf pv).toNat)
     case atStart=>exact⟨0,rfl,by omega,hU4,ho4h,hK4,hB4⟩
     case round=>
      clear hU4 ho4h hK4 hB4;obtain⟨p,rfl,hp3,hUr,hor,hkr,hbr3⟩:=hrel;have hS3:=hbr3.size;by_cases hlp:p < N
      ·have hbit:=hbits.out p (by omega);obtain⟨hs,hhs⟩:=exE ([r0,r1,r2,r3,r4,r5,r6].getD (1+p) 0);rw[hhs] at hbit;obtain⟨hs0,hs1⟩:=hbit;have hki:IntKind.i64.wrap ((k:Int)+1)=(k:Int)+1:=IntWalk.i64_in _ (by omega);go_wp2_with fail
       refine(silenceC _).mono ?_;rintro e w8 ⟨rfl,hb8⟩;obtain⟨wy,hwy⟩:=exF (wr);subst hwy;have hU8:=hUr.out.keep hb8;have hlt8:=hU8.lt;have hK8:KeepB bb W3 w8:=hkr.out.trans (KeepB.below hb8);have hB8:Below B W3 w8:=hbr3.trans (hb8.mono (Nat.le_trans hB3s hS3));have hor8:=hor.out.keep hb8;have hNow8:=hNow3.out.keepB2 hK8 hU3.out.box
       have kR8:=(hK8 wz.heap.size _ _ kR.out (by decide) (fun e=>by
        obtain⟨cs,hc⟩:=hU3.out.box;have h1:=kR.out;rw[e,hc] at h1;injection h1 with h1;injection h1 with _ h1;exact absurd h1 (by decide))).trans kR.out
       obtain⟨W5,hW5⟩:=exF (w8.alloc (.cells #[.int .i64 (p:Int),.int .i64 ((k:Int)+1),.int .i64 0,.int .i64 (seeQ hs bf 0 0),.int .i64 (seeQ hs bf 0 1),.int .i64 (seeQ hs bf 0 2),.int .i64 (seeQ hs bf 0 3),.int .i64 (seeQ hs bf 0 4)] 114));have hb5:Below w8.heap.size w8 W5:=(by rw[hW5];exact(Below.refl _ _).alloc (Nat.le_refl _) _);have kV:W5.heap[w8.heap.size]? = some (.cells #[.int .i64 (p:Int),.int .i64 ((k:Int)+1),.int .i64 0,.int .i64 (seeQ hs bf 0 0),.int .i64 (seeQ hs bf 0 1),.int .i64 (seeQ hs bf 0 2),.int .i64 (seeQ hs bf 0 3),.int .i64 (seeQ hs bf 0 4)] 114):=(by rw[hW5];exact heap_alloc_new _ _);have hNowh:=qH (fun W (hb:Below w8.heap.size w8 W) j (hj:j < N)=>(hNow8.keep hb).cell hj)
       have hRc:=qH (fun W (hb:Below w8.heap.size w8 W)=>show W.cell? ⟨wz.heap.size,1+p,none⟩=some (.int .i64 hs) by
        rw[cell_of_row _ _ (1+p) _ _ _ (keptO hb kR8),<-hhs];rcases(show p=0\/p=1\/p=2\/p=3\/p=4 by omega) with rfl|rfl|rfl|rfl|rfl<;>rfl)
       replace hU8:=qH hU8;replace hK8:=qH hK8;replace hor8:=qH hor8;replace hhs:=qH hhs;clear hUr hor hkr hNow8 kR8 hb8;have hW5':=qH hW5;go_wp2_with fail
       first
        | rw[<-hW5]
        | rw[show w8.alloc (.cells #[.int .i64 (p:Int),.int .i64 ((k:Int)+1),.int .i64 0,.int .i64 (-1),.int .i64 (-1),.int .i64 (-1),.int .i64 (-1),.int .i64 (-1)] 114)=W5 from hW5.symm]
       clear hW5;go_loopw [66] (fun qv wr=>∃q:Nat,qv = .int .i64 q/\q<=N/\wr.heap[w8.heap.size]? = some (.cells #[.int .i64 (p:Int),.int .i64 ((k:Int)+1),.int .i64 0,.int .i64 (seeQ hs bf q 0),.int .i64 (seeQ hs bf q 1),.int .i64 (seeQ hs bf q 2),.int .i64 (seeQ hs bf q 3),.int .i64 (seeQ hs bf q 4)] 114)/\Below w8.heap.size w8 wr) (fun qv _=>N - (intOf qv).toNat)
       case atStart=>exact⟨0,rfl,by omega,kV,hb5⟩
       case round=>
        clear kV hb5;obtain⟨q,rfl,hqN,kQ,hbq⟩:=hrel;by_cases hlq:q < N
        ·have cn:=hNowh.out wr hbq q hlq;have cr:=hRc.out wr hbq;have hpi:(p:Int) < 5:=(by omega);have hq5:q < 5:=(by omega);have hqi:(q:Int) < (N:Int):=(by omega);have hq5i:(q:Int) < 5:=(by omega);have hq0:(0:Int)<=(q:Int):=Int.natCast_nonneg _;have ha:=and1N (x:=hs) hs0 hs1 hq5;cases hbt:hasI hs (q:Int) with
         | true=>
          rw[hbt,if_pos rfl] at ha;obtain⟨v9,c9⟩:=cellQ hq5 kQ;have fz:=row_free kQ;have kN:=heap_setCell_same wr w8.heap.size (3+q) _ _ (.int .i64 (bf.getD q 0)) kQ;rw[seeQ_hitA hq5 hbt] at kN;have hbn:=Below.setCell (p:=⟨w8.heap.size,3+q,none⟩) hbq (Nat.le_refl _) (.int .i64 (bf.getD q 0));replace kN:=qH kN;obtain⟨i,hi⟩:=exE (bf.getD q 0);rw[hi] at cn kN hbn;clear hbt kQ hbq hi;go_wp2_with fail
          go_roundw
          case rel=>exact⟨q+1,by go_num,by omega,kN.out,hbn⟩
          case measure=>simp[intOf];omega
         | false=>
          rw[hbt,if_neg (by decide)] at ha;rw[seeQ_missA hq5 hbt] at kQ;replace kQ:=qH kQ;clear hbt;go_wp2_with fail
          go_roundw
          case rel=>exact⟨q+1,by go_num,by omega,kQ.out,hbq⟩
          case measure=>simp[intOf];omega
        ·have hqe:N=q:=(by omega);subst hqe
         have hfq:f2 p = [(p:Int),(k:Int)+1,0,seeQ hs bf N 0,seeQ hs bf N 1,seeQ hs bf N 2,seeQ hs bf N 3,seeQ hs bf N 4]:=by
          rw[hf2.out];show[(p:Int),((k+1:Nat):Int),0]++herL ([r0,r1,r2,r3,r4,r5,r6].getD (1+p) 0) bf=_
          rw[hhs.out,herL_seeQ hbl.symm];rfl
         have hSmf:SmV (f2 p):=by
          have hb2:=fun j=>seeQ_bd (hs:=hs) (bf:=bf) (q:=N) (j:=j) (hbB.out);have e0:=hb2 0;have e1:=hb2 1;have e2:=hb2 2;have e3:=hb2 3;have e4:=hb2 4;rw[hfq];refine⟨rfl,fun y hy=>?_⟩;simp only[List.mem_cons,List.not_mem_nil,or_false] at hy;rcases hy with rfl|rfl|rfl|rfl|rfl|rfl|rfl|rfl<;>omega
         have hvf:vwV (f2 p) = .agg #[.int .i64 (p:Int),.int .i64 ((k:Int)+1),.int .i64 0,.int .i64 (seeQ hs bf N 0),.int .i64 (seeQ hs bf N 1),.int .i64 (seeQ hs bf N 2),.int .i64 (seeQ hs bf N 3),.int .i64 (seeQ hs bf N 4)]:=(by rw[hfq];rfl);have hUw:=hU8.out.keep hbq;have hbx:=hUw.box;have hltq:w8.heap.size < wr.heap.size:=(Array.getElem?_eq_some_iff.1 kQ).1
         have hrow:∀v,wr.heap[bb]? = some (.cells #[.int .i64 (N:Int),v,.map (some mb)] 140)->v.ownBlock ≠ some w8.heap.size:=fun v hv=>by
          obtain⟨v8,k8,o8,_⟩:=hU8.out;rw[hbq.block bb hlt8.1,k8] at hv;injection hv with hv;injection hv with hv _
          have hv:v8=v:=by
           have:=congrArg (fun a:Array Value=>a.toList) hv
           simp only[List.cons.injEq,and_true,true_and] at this;first|exact this|exact this.1
          rw[<-hv];exact ownNot o8 (Nat.le_refl _)
         have hw8s:w.heap.size<=wr.heap.size:=(by have:=hB3.size;have:=hB8.size;have:=hbq.size;omega);have hBs:B<=wr.heap.size:=Nat.le_trans hBw hw8s;have hHA:=qH (fun W (hb:Below wr.heap.size wr W)=>addC (hUw.keep hb) (Nat.le_trans hBs hb.size) hSmf (by have:=idN_le (f:=f2) (vs:=Vk) p;omega));simp only[hvf] at hHA;have horw:=hor8.out.keep hbq;have hstep:idN f2 Vk (p+1)=(putV (idN f2 Vk p).1 (f2 p),(idN f2 Vk p).2 ++ [(ixOf (putV (idN f2 Vk p).1 (f2 p)) (f2 p):Int)]):=rfl;have hil:=idN_len (f:=f2) (vs:=Vk) p;obtain⟨V1,hV1⟩:=exE ((idN f2 Vk p).1);obtain⟨I1,hI1⟩:=exE ((idN f2 Vk p).2);rw[hV1,hI1] at hstep;rw[hI1] at hil;simp only[hV1] at hHA;obtain⟨V2,hV2⟩:=exE (putV V1 (f2 p));rw[hV2] at hstep;simp only[hV2] at hHA;obtain⟨z,hz⟩:=exE (ixOf V2 (f2 p));rw[hz] at hstep;simp only[hz] at hHA
         have hset:(I1++List.replicate (N - p) 0).set p (z:Int)=(I1 ++ [(z:Int)])++List.replicate (N - (p+1)) 0:=by
          rw[List.set_append_right _ _ (by omega),hil,Nat.sub_self,show N - p=(N - (p+1))+1 by omega,List.replicate_succ,List.set_cons_zero,List.append_assoc];rfl
         rw[hI1] at horw;have hne2:w8.heap.size ≠ wz.heap.size+1:=(by have:=(World.ownsRow.lt hor8.out (wz.heap.size+1) rfl).2;omega);have p0:=box8' kQ;obtain⟨y0,y1,y2,y3,y4,y5,y6,y7⟩:=p0;replace hstep:=qH hstep;replace hset:=qH hset;replace hV1:=qH hV1;replace hI1:=qH hI1;replace hV2:=qH hV2;replace hz:=qH hz;replace hil:=qH hil;replace hfq:=qH hfq;replace hvf:=qH hvf;have hkQ:=qH kQ;have hrowh:=qH hrow;replace horw:=qH horw;have hpi:(p:Int) < (N:Int):=(by omega);clear kQ hrow;go_wp2_with fail
         refine(hHA.out _ (Below.refl _ _)).mono ?_;rintro e w9 ⟨rfl,hU9,hK9,hb9,hF9⟩;have ho9:=horw.out.keepB (by omega) hK9 hbx;have cN:=ho9.cell hlp;have fN:=ho9.free p;go_wp2_with fail
         have hB9:Below B W3 w9:=(hB8.trans (hbq.mono (by have:=hB8.size;have:=hB3s;omega))).trans hb9;have hbe:Below B W3 (w9.setCell ⟨wz.heap.size+1,p,none⟩ (.int .i64 (z:Int))):=Below.setCell (p:=⟨wz.heap.size+1,p,none⟩) hB9 (by show B<=wz.heap.size+1;omega) _;have hOn:=(ho9.store p (z:Int)).1;rw[hset.out] at hOn;have hUn:=hU9.storeI ho9 (by omega) p (.int .i64 (z:Int));have hKn:KeepB bb W3 (w9.setCell ⟨wz.heap.size+1,p,none⟩ (.int .i64 (z:Int))):=((hK8.out.trans (KeepB.below hbq)).trans hK9).newCell (by rw[hsW3.out];exact Nat.le_refl _) (ho9.made (by omega)).2.2.choose_spec;have hUn':Hid (BuV (w9.setCell ⟨wz.heap.size+1,p,none⟩ (.int .i64 (z:Int))) B bb mb (N:Int) (idN f2 Vk (p+1)).1):=(by show BuV _ _ _ _ _ _;rw[hstep.out];exact hUn);have hOn':Hid (OI (w9.setCell ⟨wz.heap.size+1,p,none⟩ (.int .i64 (z:Int))) B (.slice (some ⟨wz.heap.size+1,0,none⟩) N N) N ((idN f2 Vk (p+1)).2++List.replicate (N - (p+1)) 0)):=(by show OI _ _ _ _ _;rw[hstep.out];exact hOn);replace hKn:=qH hKn;clear hOn hUn hU9 hK9 ho9 cN fN hF9;go_roundw
         case rel=>exact⟨p+1,by go_num,hlp,hUn',hOn',hKn,hbe⟩
         case measure=>simp[intOf];omega
      ·have hpN3:p=N:=(by omega);have hOr:=hor.out;rw[hpN3,Nat.sub_self,List.replicate_zero,List.append_nil] at hOr;have hUr':=hUr.out;rw[hpN3] at hUr'
       have e1:plN N xs wd vs (k+1)=((idN f2 Vk N).1,(plN N xs wd vs k).2 ++ [(idN f2 Vk N).2]):=by
        rw[hf2.out,<-hVk.out,<-hr.out,<-hbf.out];rfl
       have hil:=idN_len (f:=f2) (vs:=Vk) N;have hout:=hOut3.out.keepBV hkr.out hU3.out.box;have hK5:KeepB bb w wr:=hK3.out.trans hkr.out;have hB5:Below B w wr:=hB3.trans hbr3;have hpl:=plN_len N xs wd vs k;have hEl:EVi wr [.slice (some ⟨wz.heap.size+1,0,none⟩) N N] (idN f2 Vk N).2:=⟨_,rfl,by rw[hil];exact hOr.base (Nat.zero_le _)⟩;have hc9:∀u∈(#[.slice (some ⟨wz.heap.size+1,0,none⟩) N N]:Array Value).toList,u.oneCell'=true:=fun u hu=>by rw[List.mem_singleton.1 hu];rfl
       have hi9:k+1<=1000000000000:=(by omega);have hsz:w.heap.size<=wr.heap.size:=hB5.size
       have hmne:∀g',(Value.slice oa (k+1) oc).ownBlock=some g'->g' ≠ mb:=fun g' hg' e=>by
        obtain⟨ws,h1,_⟩:=hout;obtain⟨cs,hc⟩:=ownsRow_ty h1 g' hg';obtain⟨_,_,_,⟨es,c,hm,_⟩,_⟩:=hUr';rw[e] at hc;rw[hc] at hm;cases hm
       have hUh:=qH hUr';have hOh:=qH hOr;have hnN:(idN f2 Vk N).2.length=N:=hil;replace hEl:=qH hEl;replace hc9:=qH hc9;replace hK5:=qH hK5;replace e1:=qH e1;replace hpl:=qH hpl;replace hpN3:=qH hpN3;obtain⟨row,hrow⟩:=exE ((idN f2 Vk N).2);rw[hrow] at hEl hOh hnN e1;replace hrow:=qH hrow;clear hUr hor hkr hOr hUr' hil;go_wp2_with (at_builtin;refine wpAppX (x:=row) elemVv (by decide) (by decide) (EVi.stab (by decide)) rfl _ _ rfl rfl hout rfl rfl rfl hc9.out hEl.out hi9 hsz ?_)
       intro v9 w9 hO9 hg9 hb9 hx9
       have hU9:BuV w9 B bb mb (N:Int) (idN f2 Vk N).1:=by
        obtain⟨vv,h1,h2,h3,h4,h5,h6,h7⟩:=hUh.out;exact⟨vv,(hx9 bb _ _ h1 (by decide)).trans h1,h2.other (E':=48) (EI.stab _) (by decide) hx9,h3.keep (hg9.block mb h3.lt fun e=>hmne mb e.symm rfl),h4,h5,h6,h7⟩
       have hN9:=hOh.out.other (E:=48) (by decide) hx9;have hK9:KeepB bb w w9:=hK5.out.behind hb9;have hB9:Below B w w9:=hB5.trans (hb9.mono hBw);have hU9':Hid (BuV w9 B bb mb (N:Int) (plN N xs wd vs (k+1)).1):=(by show BuV _ _ _ _ _ _;rw[e1.out];exact hU9);have hO9':Hid (OwX 48 1 EVi w9 w.heap.size v9 (k+1+1) (plN N xs wd vs (k+1)).2):=by show OwX _ _ _ _ _ _ _ _;rw[e1.out];exact hO9
       have hN9':Hid (OI w9 B (.slice (some ⟨wz.heap.size+1,0,none⟩) N N) N ((plN N xs wd vs (k+1)).2.getD (k+1) [])):=by
        show OI _ _ _ _ _;rw[e1.out];show OI _ _ _ _ (((plN N xs wd vs k).2 ++ [row]).getD (k+1) []);rw[List.getD_eq_getElem?_getD,List.getElem?_append_right (by rw[hpl.out];exact Nat.le_refl _),hpl.out,Nat.sub_self];exact hN9
       replace hK9:=qH hK9;clear hO9 hU9 hN9 hg9 hb9 hx9 hout;go_wp2_with fail
       go_roundw
       case rel=>exact⟨k+1,wz.heap.size+1,rfl,by go_num,hlk,hN9',hO9',hU9',hK9,hB9⟩
       case measure=>simp[intOf];omega
    ·obtain rfl:k=wd.length:=(by omega);clear hNow;go_wp2_with fail
     go_ret;exact⟨_,rfl,hOut.out.base hBw,hUk.out,hKk.out,hbr⟩
end Go.Proofs.YtcnedkkcgdkioaaGreat

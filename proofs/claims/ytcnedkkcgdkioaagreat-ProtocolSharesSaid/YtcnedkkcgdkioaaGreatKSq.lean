/- Texts of this claim, put together: TS CD DA L1 V5. -/
import Derived.Test.YtcnedkkcgdkioaaGreatKSp
import Derived.Laws.EntriesVeiled
import Derived.Deep.DeepAppendRoom

set_option maxRecDepth 100000
set_option maxHeartbeats 12800000
namespace Go.Proofs.YtcnedkkcgdkioaaGreat
open Go.RowKit
theorem setAll7 {wr:World}{b:Nat}{v0 v1 v2 v3 v4 v5 v6:Value}{T:TypeId}(h:wr.heap[b]? = some (.cells #[v0,v1,v2,v3,v4,v5,v6] T)) (u0 u1 u2 u3 u4 u5 u6:Value) {W:World}(hW:W=((((((wr.setCell ⟨b,0,none⟩ u0).setCell ⟨b,1,none⟩ u1).setCell ⟨b,2,none⟩ u2).setCell ⟨b,3,none⟩ u3).setCell ⟨b,4,none⟩ u4).setCell ⟨b,5,none⟩ u5).setCell ⟨b,6,none⟩ u6) :
  W.heap[b]? = some (.cells #[u0,u1,u2,u3,u4,u5,u6] T)/\KeepX T wr W/\∀(w:World) (B:Nat),Below B w wr->B<=b->Below B w W:=by
 have k0:(wr.setCell ⟨b,0,none⟩ u0).heap[b]? = some (.cells #[u0,v1,v2,v3,v4,v5,v6] T):=heap_setCell_same _ b 0 _ _ u0 h;have k1:((wr.setCell ⟨b,0,none⟩ u0).setCell ⟨b,1,none⟩ u1).heap[b]? = some (.cells #[u0,u1,v2,v3,v4,v5,v6] T):=heap_setCell_same _ b 1 _ _ u1 k0;have k2:(((wr.setCell ⟨b,0,none⟩ u0).setCell ⟨b,1,none⟩ u1).setCell ⟨b,2,none⟩ u2).heap[b]? = some (.cells #[u0,u1,u2,v3,v4,v5,v6] T):=heap_setCell_same _ b 2 _ _ u2 k1;have k3:((((wr.setCell ⟨b,0,none⟩ u0).setCell ⟨b,1,none⟩ u1).setCell ⟨b,2,none⟩ u2).setCell ⟨b,3,none⟩ u3).heap[b]? = some (.cells #[u0,u1,u2,u3,v4,v5,v6] T):=heap_setCell_same _ b 3 _ _ u3 k2;have k4:(((((wr.setCell ⟨b,0,none⟩ u0).setCell ⟨b,1,none⟩ u1).setCell ⟨b,2,none⟩ u2).setCell ⟨b,3,none⟩ u3).setCell ⟨b,4,none⟩ u4).heap[b]? = some (.cells #[u0,u1,u2,u3,u4,v5,v6] T):=heap_setCell_same _ b 4 _ _ u4 k3;have k5:((((((wr.setCell ⟨b,0,none⟩ u0).setCell ⟨b,1,none⟩ u1).setCell ⟨b,2,none⟩ u2).setCell ⟨b,3,none⟩ u3).setCell ⟨b,4,none⟩ u4).setCell ⟨b,5,none⟩ u5).heap[b]? = some (.cells #[u0,u1,u2,u3,u4,u5,v6] T):=heap_setCell_same _ b 5 _ _ u5 k4;have k6:(((((((wr.setCell ⟨b,0,none⟩ u0).setCell ⟨b,1,none⟩ u1).setCell ⟨b,2,none⟩ u2).setCell ⟨b,3,none⟩ u3).setCell ⟨b,4,none⟩ u4).setCell ⟨b,5,none⟩ u5).setCell ⟨b,6,none⟩ u6).heap[b]? = some (.cells #[u0,u1,u2,u3,u4,u5,u6] T):=heap_setCell_same _ b 6 _ _ u6 k5;subst hW;refine⟨k6,(((((((KeepX.setCell (p:=⟨b,0,none⟩) h u0).trans (KeepX.setCell (p:=⟨b,1,none⟩) k0 u1)).trans (KeepX.setCell (p:=⟨b,2,none⟩) k1 u2)).trans (KeepX.setCell (p:=⟨b,3,none⟩) k2 u3)).trans (KeepX.setCell (p:=⟨b,4,none⟩) k3 u4)).trans (KeepX.setCell (p:=⟨b,5,none⟩) k4 u5)).trans (KeepX.setCell (p:=⟨b,6,none⟩) k5 u6)),fun w B hb hB=>?_⟩;exact((((((hb.setCell (p:=⟨b,0,none⟩) hB u0).setCell (p:=⟨b,1,none⟩) hB u1).setCell (p:=⟨b,2,none⟩) hB u2).setCell (p:=⟨b,3,none⟩) hB u3).setCell (p:=⟨b,4,none⟩) hB u4).setCell (p:=⟨b,5,none⟩) hB u5).setCell (p:=⟨b,6,none⟩) hB u6
def PrO (w:World) (v:Value) (n i o:Int) (cs:List Cs) (an:Int) (ss:Jc) (r:Int):Prop:=
 ∃a c a' c' B B' f f',v = .agg #[.int .i64 n,.int .i64 i,.int .i64 o,.slice a cs.length c,.int .i64 an,.slice a' ss.length c',.int .i64 r]/\OwX 95 3 ECm w B (.slice a cs.length c) cs.length (mixL csNil cs f cs.length)/\OwX 180 1 EMm w B' (.slice a' ss.length c') ss.length (mixL [] ss f' ss.length)
theorem PrO.other {E:TypeId}(h1:3 ≠ E) (h2:48 ≠ E) (h3:95 ≠ E) (h4:178 ≠ E) (h5:180 ≠ E) {w w':World}{v:Value}{n i o an r:Int}{cs:List Cs}{ss:Jc}(h:PrO w v n i o cs an ss r) (hx:KeepX E w w'):PrO w' v n i o cs an ss r:=by
 obtain⟨a,c,a',c',B,B',f,f',e,k1,k2⟩:=h;exact⟨a,c,a',c',B,B',f,f',e,k1.other (ECm.stab h1 h2) h3 hx,k2.other (EMm.stab h4) h5 hx⟩
theorem PrO.pr {w:World}{v:Value}{n i o an r:Int}{cs:List Cs}{ss:Jc}(h:PrO w v n i o cs an ss r) (hc:cs.length<=100000) (hs:ss.length<=100000) (hb:∀c∈cs,SmC c) (hl:∀x∈ss,x.length<=1000000):PrV w v n i o cs an ss r:=by
 obtain⟨a,c,a',c',B,B',f,f',e,k1,k2⟩:=h;exact⟨_,_,_,_,e,⟨_,rfl,k1.css hc hb⟩,⟨_,rfl,k2.kssM hs hl⟩⟩
theorem copiedO {w:World}{v:Value}{n i o an r:Int}{cs:List Cs}{ss:Jc}(h:PrV w v n i o cs an ss r) (hc1:1<=cs.length) (hc2:cs.length<=1024) (hs1:1<=ss.length) (hs2:ss.length<=1000) (hb:∀c∈cs,SmC c) (hl:∀x∈ss,x.length<=1000000) :
  Calls Tryz.prog 74 #[v] w fun e w'=>∃v',e = .returned v'/\PrO w' v' n i o cs an ss r/\Below w.heap.size w w':=by
 obtain⟨a,c,a',c',rfl,⟨sv,hsv,hT⟩,hA⟩:=h;injection hsv with hsv
 have hsv:Value.slice a cs.length c=sv:=by
  have:=congrArg (fun a:Array Value=>a.toList) hsv
  simpa using this
 subst hsv
 obtain⟨b,off,rfl,hcc⟩:∃b off,a=some ⟨b,off,none⟩/\CsC w b off cs:=by
  obtain⟨a2,c2,b,off,h1,h2,h3,_⟩:=hT;injection h1 with e1 _ _;exact⟨b,off,e1.trans (h2 hc1),h3⟩
 obtain⟨f,hf⟩:∃f:Nat->Value × Value × Value,∀j,j < cs.length->w.cell? ⟨b,off+j * 3,none⟩=some (f j).1/\w.cell? ⟨b,off+j * 3+1,none⟩=some (f j).2.1/\w.cell? ⟨b,off+j * 3+2,none⟩=some (f j).2.2/\Ints w (f j).1 (cs.getD j csNil).1/\Intss w (f j).2.1 (cs.getD j csNil).2.1/\Intss w (f j).2.2 (cs.getD j csNil).2.2:=by
  refine Classical.axiomOfChoice (r:=fun j (t:Value × Value × Value)=>j < cs.length->w.cell? ⟨b,off+j * 3,none⟩=some t.1/\w.cell? ⟨b,off+j * 3+1,none⟩=some t.2.1/\w.cell? ⟨b,off+j * 3+2,none⟩=some t.2.2/\Ints w t.1 (cs.getD j csNil).1/\Intss w t.2.1 (cs.getD j csNil).2.1/\Intss w t.2.2 (cs.getD j csNil).2.2) fun j=>?_;by_cases hj:j < cs.length
  ·obtain⟨u0,u1,u2,h1,h2,h3,h4,h5,h6⟩:=hcc j hj;exact⟨(u0,u1,u2),fun _=>⟨h1,h2,h3,h4,h5,h6⟩⟩
  ·exact⟨(undef,undef,undef),fun h=>absurd h hj⟩
 have hA':AdvV w (.agg #[.int .i64 an,.slice a' ss.length c']) an ss:=hA;obtain⟨sv2,hsv2,hK⟩:=hA;injection hsv2 with hsv2
 have hsv2:Value.slice a' ss.length c'=sv2:=by
  have:=congrArg (fun a:Array Value=>a.toList) hsv2
  simpa using this
 subst hsv2
 obtain⟨b',off',rfl,hkk⟩:∃b off,a'=some ⟨b,off,none⟩/\CKK 8 w b off ss:=by
  obtain⟨a2,c2,b,off,h1,h2,h3,_⟩:=hK;injection h1 with e1 _ _;exact⟨b,off,e1.trans (h2 hs1),h3⟩
 obtain⟨f',hf'⟩:∃f:Nat->Value,∀j,j < ss.length->w.cell? ⟨b',off'+j,none⟩=some (f j)/\KS 8 w (f j) (ss.getD j []):=by
  refine Classical.axiomOfChoice (r:=fun j (t:Value)=>j < ss.length->w.cell? ⟨b',off'+j,none⟩=some t/\KS 8 w t (ss.getD j [])) fun j=>?_;by_cases hj:j < ss.length
  ·obtain⟨u,h1,h2⟩:=hkk j hj;exact⟨u,fun _=>⟨h1,h2⟩⟩
  ·exact⟨undef,fun h=>absurd h hj⟩
 obtain⟨W1,hW1⟩:=exF (w.alloc (.cells #[.int .i64 n,.int .i64 i,.int .i64 o,.slice (some ⟨b,off,none⟩) cs.length c,.int .i64 an,.slice (some ⟨b',off',none⟩) ss.length c',.int .i64 r] 29));have hb1:Below w.heap.size w W1:=by rw[hW1];exact(Below.refl _ w).alloc (Nat.le_refl _) _
 have k1:W1.heap[w.heap.size]? = some (.cells #[.int .i64 n,.int .i64 i,.int .i64 o,.slice (some ⟨b,off,none⟩) cs.length c,.int .i64 an,.slice (some ⟨b',off',none⟩) ss.length c',.int .i64 r] 29):=by rw[hW1];exact heap_alloc_new _ _
 have hs1w:W1.heap.size=w.heap.size+1:=by rw[hW1];simp
 obtain⟨W2,hW2⟩:=exF (W1.alloc (.cells #[.int .i64 0,.int .i64 0,.int .i64 0,.slice none 0 0,.int .i64 0,.slice none 0 0,.int .i64 0] 29));have hb2:Below W1.heap.size W1 W2:=by rw[hW2];exact(Below.refl _ W1).alloc (Nat.le_refl _) _
 have k2:W2.heap[W1.heap.size]? = some (.cells #[.int .i64 0,.int .i64 0,.int .i64 0,.slice none 0 0,.int .i64 0,.slice none 0 0,.int .i64 0] 29):=by rw[hW2];exact heap_alloc_new _ _
 replace k1:=keptO hb2 k1;rw[hs1w] at k2;have hB2:=btt hb1 hb2
 have hone:∀u∈tri3 f cs.length,u.oneCell'=true:=fun u hu=>by
  obtain⟨k,hk,rfl⟩:=List.mem_map.1 hu;rw[List.mem_range] at hk;obtain⟨_,_,_,q0,q1,q2⟩:=hf (k / 3) (by omega);obtain⟨_,_,_,_,e0,_⟩:=q0;obtain⟨_,_,_,_,e1,_⟩:=q1;obtain⟨_,_,_,_,e2,_⟩:=q2;split
  ·rw[e0];rfl
  ·split
   ·rw[e1];rfl
   ·rw[e2];rfl
 have HC:=qH (cloneCa (w:=W2) ⟨b,off,none⟩ cs.length c (tri3 f cs.length) tri3_len (by omega) (fun j u hj=>by
  have hjl:j < cs.length * 3:=by
   have:=(List.getElem?_eq_some_iff.1 hj).1
   rwa [tri3_len] at this
  rw[tri3_at hjl] at hj;injection hj with hj;obtain⟨q0,q1,q2,_⟩:=hf (j / 3) (by omega);rw[Addr.add_lit];refine cell_kept hB2 ?_;rw[<-hj];split
  ·rename_i h0
   have e:off+j=off+j / 3 * 3:=(by omega);rw[e];exact q0
  ·split
   ·have e:off+j=off+j / 3 * 3+1:=(by omega);rw[e];exact q1
   ·have e:off+j=off+j / 3 * 3+2:=(by omega);rw[e];exact q2) hone)
 obtain⟨y0,y1,y2,y3,y4,y5,y6⟩:=box7' k1;have hk1:=qH k1;have hk2:=qH k2;replace hf:=qH hf;replace hf':=qH hf';replace hb:=qH hb;replace hl:=qH hl;clear hcc hT hkk hK hA' hsv hsv2 k1 k2 hone;go_enter Tryz.func74, Tryz.ntmps74
 go_wp2_with fail
 rw[<-hW1,<-hW2];replace hW1:=qH hW1;replace hW2:=qH hW2;refine HC.out.mono ?_;rintro e w3 ⟨v3,rfl,ho3,hb3⟩;obtain⟨F,hF⟩:∃F:Nat->List Value,F=fun j=>[(f j).1,(f j).2.1,(f j).2.2]:=⟨_,rfl⟩
 have hO3:OwX 95 3 ECm w3 W2.heap.size v3 cs.length (mixL csNil cs F 0):=by
  refine⟨_,ho3,mixL_len,fun u hu=>?_,fun j x hj=>?_⟩
  ·obtain⟨k,hk,rfl⟩:=List.mem_map.1 hu;rw[List.mem_range] at hk;obtain⟨_,_,_,q0,q1,q2⟩:=hf.out (k / 3) (by omega);obtain⟨_,_,_,_,e0,_⟩:=q0;obtain⟨_,_,_,_,e1,_⟩:=q1;obtain⟨_,_,_,_,e2,_⟩:=q2;split
   ·rw[e0];rfl
   ·split
    ·rw[e1];rfl
    ·rw[e2];rfl
  ·have hjl:j < cs.length:=by
    have:=(List.getElem?_eq_some_iff.1 hj).1
    rwa [mixL_len] at this
   rw[mixL_at hjl,if_neg (by omega)] at hj;injection hj with hj;subst hj;rw[tri3_part hjl,hF];rfl
 obtain⟨g,cap,rfl,hg⟩:=hO3.form (by omega);have hB3:=btt hB2 hb3;have kk1:=keptO hb3 hk1.out;have kk2:=keptO hb3 hk2.out;have hs2w:W2.heap.size=w.heap.size+2:=by rw[hW2.out];simp;omega
 clear y0 y1 y2 y3 y4 y5 y6;obtain⟨y0,y1,y2,y3,y4,y5,y6⟩:=box7' kk1;have hgne:g ≠ w.heap.size:=by omega
 have hgne1:g ≠ w.heap.size+1:=by omega
 obtain⟨W4,hW4⟩:=exF (w3.setCell ⟨w.heap.size,3,none⟩ (.slice (some ⟨g,0,none⟩) cs.length cap));have fz:=row_free kk1;have k4:=heap_setCell_same w3 w.heap.size 3 _ _ (.slice (some ⟨g,0,none⟩) cs.length cap) kk1;have k42:(w3.setCell ⟨w.heap.size,3,none⟩ (.slice (some ⟨g,0,none⟩) cs.length cap)).heap[w.heap.size+1]? = _:=(Below.heap_setCell w3 ⟨w.heap.size,3,none⟩ _ (w.heap.size+1) (by show w.heap.size+1 ≠ w.heap.size;omega)).trans kk2;have hb4:Below w.heap.size w (w3.setCell ⟨w.heap.size,3,none⟩ (.slice (some ⟨g,0,none⟩) cs.length cap)):=Below.setCell (p:=⟨w.heap.size,3,none⟩) hB3 (Nat.le_refl _) _;have hO4:OwX 95 3 ECm (w3.setCell ⟨w.heap.size,3,none⟩ (.slice (some ⟨g,0,none⟩) cs.length cap)) W2.heap.size (.slice (some ⟨g,0,none⟩) cs.length cap) cs.length (mixL csNil cs F 0):=hO3.other (ECm.stab (by decide) (by decide)) (by decide) (KeepX.setCell (p:=⟨w.heap.size,3,none⟩) kk1 _);rw[<-hW4] at k4 k42 hb4 hO4;replace hO4:=qH hO4;replace hF:=qH hF;replace hk1:=qH k4;replace hk2:=qH k42;have hW4':=qH hW4;clear k4 k42 ho3 hO3 kk1 kk2 HC hW4;go_wp2_with fail
 rw[<-hW4'.out];go_loopw [17] (fun iv wr=>∃k:Nat,iv = .int .i64 k/\k<=cs.length/\Hid (OwX 95 3 ECm wr W2.heap.size (.slice (some ⟨g,0,none⟩) cs.length cap) cs.length (mixL csNil cs F k))/\Below W2.heap.size W4 wr) (fun iv _=>cs.length - (intOf iv).toNat)
 case atStart=>exact⟨0,rfl,by omega,hO4,Below.refl _ _⟩
 case round=>
  clear hO4;obtain⟨k,rfl,hk,hO,hbr⟩:=hrel;by_cases hlt:k < cs.length
  ·obtain⟨us,hul,hue,huc⟩:=hO.out.cells (mixL_at (d:=csNil) (f:=F) (i:=k) hlt);rw[if_neg (by omega)] at hue;have hue:us=F k:=hue;rw[hF.out] at hue;subst hue;obtain⟨q0,q1,q2,i0,i1,i2⟩:=hf.out k hlt;obtain⟨v0,hv0⟩:=exE ((f k).1);obtain⟨v1,hv1⟩:=exE ((f k).2.1);obtain⟨v2,hv2⟩:=exE ((f k).2.2);obtain⟨x,hx⟩:=exE (cs.getD k csNil);have c0:=huc 0 v0 (by rw[<-hv0];rfl);have c1:=huc 1 v1 (by rw[<-hv1];rfl);have c2:=huc 2 v2 (by rw[<-hv2];rfl);rw[Nat.add_zero] at c0;rw[hv0,hx] at i0;rw[hv1,hx] at i1;rw[hv2,hx] at i2;have hwr0:Below w.heap.size w wr:=hb4.trans (hbr.mono (by omega));obtain⟨sc1,sc2,sc3,sc4,sc5⟩:=hb.out x (by rw[<-hx,getD_eq hlt];exact List.getElem_mem hlt);obtain⟨za,zc,hz0⟩:=i0.shape;obtain⟨zb,zd,hz1⟩:=i1.shape;obtain⟨ze,zf,hz2⟩:=i2.shape;subst hz0 hz1 hz2;obtain⟨W5,hW5⟩:=exF (wr.alloc (.cells #[.slice za x.1.length zc,.slice zb x.2.1.length zd,.slice ze x.2.2.length zf] 95));have hb5:Below wr.heap.size wr W5:=(by rw[hW5];exact(Below.refl _ wr).alloc (Nat.le_refl _) _);have k5:W5.heap[wr.heap.size]? = some (.cells #[.slice za x.1.length zc,.slice zb x.2.1.length zd,.slice ze x.2.2.length zf] 95):=(by rw[hW5];exact heap_alloc_new _ _);have hK1:=keptO hb5 ((hbr.block w.heap.size (by omega)).trans hk1.out);obtain⟨x0,x1,x2,x3,x4,x5,x6⟩:=box7' hK1;obtain⟨p0,p1,p2⟩:=box3' k5;have hO5:=hO.out.keep (ECm.stab (by decide) (by decide)) hb5;have hkc:(k:Int) < (cs.length:Int):=by omega
   have hglt:g < wr.heap.size:=by
    obtain⟨_,h1,_⟩:=hO.out;exact(h1.lt g rfl).2
   replace hO5:=qH hO5;clear hO hK1 y0 y1 y2 y3 y4 y5 y6;go_wp2_with fail
   rw[<-hW5];replace hW5:=qH hW5;go_upto_region 5 with fail
   refine regCopy5 x3 p0 p1 p2 ((i0.keep hwr0).keep hb5) ((i1.keep hwr0).keep hb5) ((i2.keep hwr0).keep hb5) (by omega) (by omega) (by omega) (fun y hy=>by have:=sc4 y hy;omega) (fun y hy=>by have:=sc5 y hy;omega) hO5.out hlt (by have:=hb5.size;omega) (by omega) ?_;intro y6 y9 y12 y13 y15 W6 hG6 _ _ _ _ _;have ho6:=hG6.2.2 rfl;rw[mixL_set hlt hx] at ho6;have hbe:Below W2.heap.size W4 W6:=(hbr.trans (hb5.mono (by omega))).trans hG6.2.1;replace ho6:=qH ho6;clear hG6 hx x0 x1 x2 x3 x4 x5 x6 p0 p1 p2 c0 c1 c2;go_wp2_with fail
   go_roundw
   case rel=>exact⟨k+1,by go_num,hlt,ho6,hbe⟩
   case measure=>simp[intOf];omega
  ·obtain rfl:k=cs.length:=(by omega);have hH1:=(hbr.block w.heap.size (by omega)).trans hk1.out;have hH2:=(hbr.block (w.heap.size+1) (by omega)).trans hk2.out;have hw8:Below w.heap.size w wr:=hb4.trans (hbr.mono (by omega))
   have hglt:g < wr.heap.size:=by
    obtain⟨_,h1,_⟩:=hO.out;exact(h1.lt g rfl).2
   obtain⟨z0,z1,z2,z3,z4,z5,z6⟩:=box7' hH1
   have hone:∀u∈(List.range ss.length).map f',u.oneCell'=true:=fun u hu=>by
    obtain⟨k,hk,rfl⟩:=List.mem_map.1 hu;rw[List.mem_range] at hk;obtain⟨_,_,_,_,_,e,_⟩:=hf'.out k hk;rw[e];rfl
   have HC:=qH (cloneMs (w:=wr) ⟨b',off',none⟩ ss.length c' ((List.range ss.length).map f') (by simp) (by omega) (fun j u hj=>by
    have hjl:j < ss.length:=by
     have:=(List.getElem?_eq_some_iff.1 hj).1
     simpa using this
    rw[List.getElem?_map,List.getElem?_range hjl] at hj;injection hj with hj;rw[Addr.add_lit,<-hj];exact cell_kept hw8 (hf'.out j hjl).1) hone)
   have hOh:=hO;have hH1':=qH hH1;have hH2':=qH hH2;clear hO hH1 hH2 hk1 hk2;go_wp2_with fail
   refine HC.out.mono ?_;rintro e w5 ⟨v5,rfl,ho5,hb5⟩;obtain⟨F',hF'⟩:∃F':Nat->List Value,F'=fun j=>[f' j]:=⟨_,rfl⟩
   have hO5:OwX 180 1 EMm w5 wr.heap.size v5 ss.length (mixL [] ss F' 0):=by
    refine⟨_,ho5,mixL_len,hone,fun j x hj=>?_⟩
    have hjl:j < ss.length:=by
     have:=(List.getElem?_eq_some_iff.1 hj).1
     rwa [mixL_len] at this
    rw[mixL_at hjl,if_neg (by omega)] at hj;injection hj with hj;subst hj;rw[Nat.mul_one,List.drop_eq_getElem_cons (by simpa using hjl),List.take_succ_cons,List.take_zero,hF'];show[_] = [f' j]
    rw[List.getElem_map,List.getElem_range]
   obtain⟨g2,cap2,rfl,hg2⟩:=hO5.form (by omega);have kk1:=keptO hb5 hH1'.out;have kk2:=keptO hb5 hH2'.out;have hwrs:=hbr.size;have hw4s:=hb4.size;clear z0 z1 z2 z3 z4 z5 z6;obtain⟨z0,z1,z2,z3,z4,z5,z6⟩:=box7' kk1;have fz2:=row_free kk1;obtain⟨W6,hW6⟩:=exF (w5.setCell ⟨w.heap.size,5,none⟩ (.slice (some ⟨g2,0,none⟩) ss.length cap2));have k6:=heap_setCell_same w5 w.heap.size 5 _ _ (.slice (some ⟨g2,0,none⟩) ss.length cap2) kk1;have k62:(w5.setCell ⟨w.heap.size,5,none⟩ (.slice (some ⟨g2,0,none⟩) ss.length cap2)).heap[w.heap.size+1]? = _:=(Below.heap_setCell w5 ⟨w.heap.size,5,none⟩ _ (w.heap.size+1) (by show w.heap.size+1 ≠ w.heap.size;omega)).trans kk2;have hb6:Below w.heap.size w (w5.setCell ⟨w.heap.size,5,none⟩ (.slice (some ⟨g2,0,none⟩) ss.length cap2)):=Below.setCell (p:=⟨w.heap.size,5,none⟩) (btt hw8 hb5) (Nat.le_refl _) _;have hx6:=KeepX.setCell (p:=⟨w.heap.size,5,none⟩) kk1 (.slice (some ⟨g2,0,none⟩) ss.length cap2);have hO6:=hO5.other (EMm.stab (by decide)) (by decide) hx6;have hx6:=(KeepX.below hb5).trans hx6;rw[<-hW6] at k6 k62 hb6 hO6 hx6;have hgl6:w.heap.size+1 < W6.heap.size:=(Array.getElem?_eq_some_iff.1 k62).1
   have hw6s:wr.heap.size<=W6.heap.size:=by
    have e:W6.heap.size=w5.heap.size:=(by rw[hW6];simp[World.setCell]);have:=hb5.size
    omega
   replace hO6:=qH hO6;replace hx6:=qH hx6;replace hF':=qH hF';have hk1:=qH k6;have hk2:=qH k62;replace hW6:=qH hW6;clear k6 k62 ho5 hO5 kk1 kk2 HC hH1' hH2' hone;go_wp2_with fail
   rw[<-hW6.out];obtain⟨wo,hwo⟩:=exF (wr);subst hwo;go_loopw [48] (fun iv wr=>∃k:Nat,iv = .int .i64 k/\k<=ss.length/\Hid (OwX 180 1 EMm wr wo.heap.size (.slice (some ⟨g2,0,none⟩) ss.length cap2) ss.length (mixL [] ss F' k))/\Below wo.heap.size W6 wr) (fun iv _=>ss.length - (intOf iv).toNat)
   case atStart=>exact⟨0,rfl,by omega,hO6,Below.refl _ _⟩
   case round=>
    clear hO6;obtain⟨k,rfl,hk,hO,hbr⟩:=hrel;have hwr0:Below w.heap.size w wr:=hb6.trans (hbr.mono (by omega));have hH1:=(hbr.block w.heap.size (by omega)).trans hk1.out;obtain⟨x0,x1,x2,x3,x4,x5,x6⟩:=box7' hH1;by_cases hlt:k < ss.length
    ·obtain⟨us,hul,hue,huc⟩:=hO.out.cells (mixL_at (d:=[]) (f:=F') (i:=k) hlt);rw[if_neg (by omega)] at hue;have hue:us=F' k:=hue;rw[hF'.out] at hue;subst hue;obtain⟨q0,i0⟩:=hf'.out k hlt;obtain⟨v0,hv0⟩:=exE (f' k);obtain⟨x,hx⟩:=exE (ss.getD k []);have c0:=huc 0 v0 (by rw[<-hv0];rfl);rw[Nat.mul_one,Nat.add_zero] at c0;rw[hv0,hx] at i0;have hl0:=hl.out x (by rw[<-hx,getD_eq hlt];exact List.getElem_mem hlt);obtain⟨za,zc,hz0⟩:=i0.shape;subst hz0;have hkc:(k:Int) < (ss.length:Int):=by omega
     have hglt:g2 < wr.heap.size:=by
      obtain⟨_,h1,_⟩:=hO.out;exact(h1.lt g2 rfl).2
     clear hH1;go_wp2_with fail
     go_upto_region 11 with fail
     refine regCopy11 x5 (i0.keep hwr0) hl0 hO.out hlt (by omega) hg2 ?_;intro y5 y7 W7 hG7 _ _;have ho7:=hG7.2.2 rfl;rw[mixL_set hlt hx] at ho7;have hbe:Below wo.heap.size W6 W7:=hbr.trans hG7.2.1;replace ho7:=qH ho7;clear hG7 hx x0 x1 x2 x3 x4 x5 x6 c0;go_wp2_with fail
     go_roundw
     case rel=>exact⟨k+1,by go_num,hlt,ho7,hbe⟩
     case measure=>simp[intOf];omega
    ·obtain rfl:k=ss.length:=(by omega);have hH2:=(hbr.block (w.heap.size+1) (by omega)).trans hk2.out;have hxf:KeepX 29 wo wr:=fun k cs t hk ht=>(hbr.block k (Array.getElem?_eq_some_iff.1 hk).1).trans (hx6.out k cs t hk ht);obtain⟨z0,z1,z2,z3,z4,z5,z6⟩:=box7' hH2;obtain⟨Wf,hWf⟩:=exF (((((((wr.setCell ⟨w.heap.size+1,0,none⟩ (.int .i64 n)).setCell ⟨w.heap.size+1,1,none⟩ (.int .i64 i)).setCell ⟨w.heap.size+1,2,none⟩ (.int .i64 o)).setCell ⟨w.heap.size+1,3,none⟩ (.slice (some ⟨g,0,none⟩) cs.length cap)).setCell ⟨w.heap.size+1,4,none⟩ (.int .i64 an)).setCell ⟨w.heap.size+1,5,none⟩ (.slice (some ⟨g2,0,none⟩) ss.length cap2)).setCell ⟨w.heap.size+1,6,none⟩ (.int .i64 r));obtain⟨kf,hxf2,hbf⟩:=setAll7 hH2 (.int .i64 n) (.int .i64 i) (.int .i64 o) (.slice (some ⟨g,0,none⟩) cs.length cap) (.int .i64 an) (.slice (some ⟨g2,0,none⟩) ss.length cap2) (.int .i64 r) hWf;have hC:=hOh.out.other (ECm.stab (by decide) (by decide)) (by decide) (hxf.trans hxf2);have hS:=hO.out.other (EMm.stab (by decide)) (by decide) hxf2;have hfin:PrO Wf (.agg #[.int .i64 n,.int .i64 i,.int .i64 o,.slice (some ⟨g,0,none⟩) cs.length cap,.int .i64 an,.slice (some ⟨g2,0,none⟩) ss.length cap2,.int .i64 r]) n i o cs an ss r:=⟨_,_,_,_,_,_,_,_,rfl,hC,hS⟩;have hbe:=hbf w w.heap.size hwr0 (by omega);obtain⟨e0,e1,e2,e3,e4,e5,e6⟩:=box7' kf;replace hfin:=qH hfin;have hf0:=row_free hH2;have hWf':=qH hWf;clear hO hC hxf hxf2 hWf hS kf hbf;go_wp2_with fail
     rw[<-hWf'.out];clear x0 x1 x2 x3 x4 x5 x6 z0 z1 z2 z3 z4 z5 z6 hf0;refine bodyPost_ret (v:=.agg #[.int .i64 n,.int .i64 i,.int .i64 o,.slice (some ⟨g,0,none⟩) cs.length cap,.int .i64 an,.slice (some ⟨g2,0,none⟩) ss.length cap2,.int .i64 r]) (by simp[results,Tryz.results74,go_sem,e0,e1,e2,e3,e4,e5,e6]) rfl ?_;exact⟨_,rfl,hfin.out,hbe⟩
end Go.Proofs.YtcnedkkcgdkioaaGreat
namespace Go.Proofs.YtcnedkkcgdkioaaGreat
open Go.RowKit Go.ChangeMaps Go.MapKept Go.WideMaps
theorem KeepX.size {E:TypeId}{w w':World}{k:Nat}{cs:Array Value}{t:TypeId}(hx:KeepX E w w') (h:w.heap[k]? = some (.cells cs t)) (ht:t ≠ E):w'.heap[k]? = some (.cells cs t):=(hx k cs t h ht).trans h
theorem wf31 {r:List Int}(hl:r.length=7) (h:chkRd r=0):∀x∈r,0<=x/\x<=31:=by
 obtain⟨n,h0,h1,h2,h3,h4,f,rfl⟩:=seven hl
 have hg:chkGr n [h0,h1,h2,h3,h4]=0:=by
  by_cases hc:chkGr n [h0,h1,h2,h3,h4]=0
  ·exact hc
  ·rw[chkRd_1 hc] at h;exact h
 obtain⟨hn,hh⟩:=chkGr_zero hg;obtain⟨_,hf0,hf1⟩:=chkSet_zero (chkRd_zero h);have h32:=twoI_le (n:=n);intro x hx;simp only[List.mem_cons,List.not_mem_nil,or_false] at hx;have hf0:0<=f:=hf0;have hf1:f < twoI n:=hf1;rcases hx with rfl|hx
 ·omega
 rcases hx with rfl|rfl|rfl|rfl|rfl|rfl
 ·exact hh x (by simp)
 ·exact hh x (by simp)
 ·exact hh x (by simp)
 ·exact hh x (by simp)
 ·exact hh x (by simp)
 ·omega
end Go.Proofs.YtcnedkkcgdkioaaGreat
namespace Go.Proofs.YtcnedkkcgdkioaaGreat
open Go.RowKit
theorem OwX.mono {α:Type}{E:TypeId}{k:Nat}{El El':World->List Value->α->Prop}{w:World}{B:Nat}{v:Value}{n:Nat}{xs:List α}(h:OwX E k El w B v n xs) (hi:∀cs x,El w cs x->El' w cs x):OwX E k El' w B v n xs:=by
 obtain⟨vs,h1,h2,h3,h4⟩:=h;exact⟨vs,h1,h2,h3,fun j x hj=>hi _ _ (h4 j x hj)⟩
def wL (ss:Jc):Nat->Nat->Jc
 | 0,_=>[[]]
 | m+1,s=>(ss.getD s []).flatMap fun mv=>(wL ss m (mvTo mv)).map (rdOf mv::·)
theorem wL_len (ss:Jc):∀(m s:Nat),(wL ss m s).length=cnt ss m s
 | 0,_=>rfl
 | m+1,s=>by
  rw[wL,cnt,List.length_flatMap];congr 1
  refine List.map_congr_left fun mv _=>?_;rw[List.length_map,wL_len ss m]
def EWg (g:Nat) (w:World) (cs:List Value) (x:Jb):Prop:=∃u,cs = [u]/\OwX 148 7 EI w 0 u x.length x/\u.ownBlock ≠ some g
theorem EWg.stab (g:Nat) {E:TypeId}(h:148 ≠ E):Stab E (EWg g):=fun _ _ _ _ ⟨u,h1,h2,h3⟩ hx=>⟨u,h1,h2.other (EI.stab _) h hx,h3⟩
theorem OwX.sameB {α:Type}{E:TypeId}{k:Nat}{El El':World->List Value->α->Prop}{w w':World}{B n:Nat}{v:Value}{xs:List α}(h:OwX E k El w B v n xs) (hk:∀g,v.ownBlock=some g->w'.heap[g]? = w.heap[g]?) (hE:∀cs x,El w cs x->El' w' cs x):OwX E k El' w' B v n xs:=by
 obtain⟨vs,h1,h2,h3,h4⟩:=h;refine⟨vs,⟨h1.1,?_⟩,h2,h3,fun j x hj=>hE _ _ (h4 j x hj)⟩;rcases h1.2 with h'|⟨g,cap,cur,k1,k2,k3,k4⟩
 ·exact .inl h'
 ·exact .inr ⟨g,cap,cur,k1,k2,(hk g (by rw[k1];rfl)).trans k3,k4⟩
theorem OwX.blockT {α:Type}{E:TypeId}{k:Nat}{El:World->List Value->α->Prop}{w:World}{B n:Nat}{v:Value}{xs:List α}(h:OwX E k El w B v n xs) {g:Nat}(hg:v.ownBlock=some g):B<=g/\g < w.heap.size/\∃cs,w.heap[g]? = some (.cells cs E):=by
 obtain⟨vs,h1,_⟩:=h;obtain⟨h2,h3⟩:=World.ownsRow.lt h1 g hg;exact⟨h2,h3,ownsRow_ty h1 g hg⟩
def WOut (w:World) (B g bo:Nat) (out:Jc):Prop:=∃ov n,w.heap[bo]? = some (.cells #[ov] 133 (0,0))/\OwX 77 1 (EWg g) w B ov n out/\B<=bo
theorem WOut.keepG {w w':World}{B g bo:Nat}{out:Jc}(h:WOut w B g bo out) (hg:∃cs,w.heap[g]? = some (.cells cs 148)) (hk:∀j,j < w.heap.size->j ≠ g->w'.heap[j]? = w.heap[j]?):WOut w' B g bo out:=by
 obtain⟨ov,n,h1,h2,h3⟩:=h;obtain⟨cs,hg⟩:=hg
 have hne:∀ {t:TypeId} {cs':Array Value} {j:Nat},w.heap[j]? = some (.cells cs' t)->t ≠ 148->j ≠ g:=fun hj ht e=>by
  rw[e,hg] at hj;simp at hj
  exact ht hj.2.symm
 have hbo:bo ≠ g:=hne h1 (by decide);refine⟨ov,n,(hk bo (Array.getElem?_eq_some_iff.1 h1).1 hbo).trans h1,h2.sameB (fun j hj=>?_) (fun cs' x hx=>?_),h3⟩
 ·obtain⟨_,h5,cs',h6⟩:=h2.blockT hj;exact hk j h5 (hne h6 (by decide))
 ·obtain⟨u,hu,h5,h6⟩:=hx;refine⟨u,hu,h5.sameB (fun j hj=>?_) (fun _ _ h=>h),h6⟩;obtain⟨_,h7,_⟩:=h5.blockT hj;exact hk j h7 (fun e=>h6 (by rw[<-e];exact hj))
def KW (B g bo:Nat) (w w':World):Prop:=Below B w w'/\∀(j:Nat) (cs:Array Value) (t:TypeId),w.heap[j]? = some (.cells cs t)->j ≠ g->j ≠ bo->t ≠ 77->w'.heap[j]? = w.heap[j]?
theorem KW.refl (B g bo:Nat) (w:World):KW B g bo w w:=⟨Below.refl _ _,fun _ _ _ _ _ _ _=>rfl⟩
theorem KW.trans {B g bo:Nat}{a b c:World}(h:KW B g bo a b) (k:KW B g bo b c):KW B g bo a c:=⟨h.1.trans k.1,fun j cs t hj h1 h2 h3=>by
 have h4:=h.2 j cs t hj h1 h2 h3;have h5:b.heap[j]? = some (.cells cs t):=h4.trans hj;exact(k.2 j cs t h5 h1 h2 h3).trans h4⟩
theorem KW.below {B g bo:Nat}{w w':World}(h:Below w.heap.size w w') (hB:B<=w.heap.size):KW B g bo w w':=⟨h.mono hB,fun j _ _ hj _ _ _=>h.block j (Array.getElem?_eq_some_iff.1 hj).1⟩
theorem KW.grown {B g bo:Nat}{w w':World}(h:w.grownBy w' (some g)) (hB:B<=w.heap.size) (hg:B<=g):KW B g bo w w':=
 ⟨(Below.refl B w).grown h hB (fun k hk=>by injection hk with hk;omega),fun j _ _ hj h1 _ _=>h.block j (Array.getElem?_eq_some_iff.1 hj).1 (by simp;exact h1)⟩
theorem KW.box {B g bo:Nat}{w w':World}(h:KW B g bo w w') {b:Nat}{cs:Array Value}{t:TypeId}(hb:w.heap[b]? = some (.cells cs t)) (h1:b ≠ g) (h2:b ≠ bo) (h3:t ≠ 77):w'.heap[b]? = some (.cells cs t):=(h.2 b cs t hb h1 h2 h3).trans hb
theorem OwX.pre {E:TypeId}{w:World}{B g l cap:Nat}{x:Jb}{r:List Int}(h:OwX E 7 EI w B (.slice (some ⟨g,0,none⟩) (l+1) cap) (l+1) (x ++ [r])) (hx:x.length=l):OwX E 7 EI w B (.slice (some ⟨g,0,none⟩) l cap) l x:=by
 obtain⟨vs,h1,h2,h3,h4⟩:=h;have hvl:vs.length=(l+1) * 7:=h1.1;rcases h1.2 with⟨h',_⟩|⟨g',cap',cur,k1,k2,k3,k4,k5,k6,k7⟩
 ·cases h'
 ·injection k1 with k1 _ kc;injection k1 with k1;injection k1 with k1;subst k1 kc;refine⟨vs.take (l * 7),⟨by rw[List.length_take];omega,.inr ⟨g,cap,cur,rfl,k2,k3,by omega,k5,k6,?_⟩⟩,hx,fun u hu=>h3 u (List.mem_of_mem_take hu),fun j y hj=>?_⟩
  ·rw[<-k7,List.take_take,show min (l * 7) ((l+1) * 7)=l * 7 by omega]
  ·have hjl:j < l:=(by rw[<-hx];exact(List.getElem?_eq_some_iff.1 hj).1);have h5:=h4 j y (by rw[List.getElem?_append_left (by omega)];exact hj)
   have h6:((vs.take (l * 7)).drop (j * 7)).take 7=(vs.drop (j * 7)).take 7:=by
    rw[List.drop_take,List.take_take,show min 7 (l * 7 - j * 7)=7 by omega]
   rw[h6];exact h5
theorem step_appW {w:World}{B g l cap:Nat}{x:Jb}{ops:Array Oper}{o:Oper}{a:Act}{K:Act->World->Prop}{Q:Exit->Act->World->Prop}{R:Prop}(hgd:o.guard=none) (s y:Operand) {cs:List Value}{r:List Int}
  (ho:o.op = .call { callee:=.builtin .append,args:=#[s,y],argTypes:=#[77,77] }) (hs:a.eval s = .slice (some ⟨g,0,none⟩) l cap) (hown:OwX 148 7 EI w B (.slice (some ⟨g,0,none⟩) l cap) l x) (ad:Addr) (c:Nat) (hx:a.eval y = .slice (some ad) 1 c) (hcs:cs.length=7)
  (hnews:∀j u,cs[j]? = some u->w.cell? (ad.add j)=some u) (hc1:∀u∈cs,u.oneCell'=true) (hEl:cs=r.map (Value.int .i64)) (hroom:l+1<=cap)
  (h:∀w',OwX 148 7 EI w' B (.slice (some ⟨g,0,none⟩) (l+1) cap) (l+1) (x ++ [r])->w.grownBy w' (some g)->K (a.put o.dst (.slice (some ⟨g,0,none⟩) (l+1) cap)) w') :
  if Region.wanted o (yielded ops a.tmps)=true then Oper.wp Tryz.prog o a w K Q else R:=by
 rw[if_pos (by simp[Region.wanted,hgd])];obtain⟨i0,hi,hz0,hz1,hz2⟩:=info_parts elemRd.2.1;obtain⟨vs,k1,k2,k3,k4⟩:=hown;obtain⟨w',hr,h1,hg⟩:=run_append_own_spare (P:=Tryz.prog) w B 77 o.type 148 i0 7 elemRd.1 hi hz1 g l cap vs k1 ad 1 c cs (by simpa using hcs) hnews hc1 hroom;unfold Oper.wp execOp;simp only[ho,resolve,invoke,builtin,Sem.run_bind,Sem.run_pure,Result.andThen_ok,List.map_toArray,List.map_cons,List.map_nil,hs,hx,hr];have hvl:vs.length=l * 7:=k1.1;refine h w' ⟨vs++cs,h1,by simp[k2],fun u hu=>?_,fun j y hj=>?_⟩ hg
 ·rcases List.mem_append.1 hu with hu|hu
  ·exact k3 u hu
  ·exact hc1 u hu
 ·by_cases hjn:j < l
  ·rw[List.getElem?_append_left (by omega)] at hj;rw[List.drop_append_of_le_length (by omega),List.take_append_of_le_length (by rw[List.length_drop];omega)];exact k4 j y hj
  ·rw[List.getElem?_append_right (by omega)] at hj
   have hj0:j - x.length=0:=by
    have:=(List.getElem?_eq_some_iff.1 hj).1
    simpa using this
   rw[hj0] at hj;simp only[List.getElem?_cons_zero,Option.some.injEq] at hj;subst hj;obtain rfl:j=l:=(by omega);rw[<-hvl,List.drop_left,List.take_of_length_le (by omega)];exact hEl
end Go.Proofs.YtcnedkkcgdkioaaGreat

/- Texts of this claim, put together: LVb LVc LVa LPa LPb0. -/
import Derived.Test.YtcnedkkcgdkioaaGreatKSzg
import Derived.Lib.OwnBridge
import Derived.Sort.OwnSortedInts
import Derived.Shelf.SortM.SortNone

set_option maxRecDepth 100000
set_option maxHeartbeats 12800000
namespace Go.Proofs.YtcnedkkcgdkioaaGreat
open Go.RowKit
theorem elemBool28:ElemOK Tryz.prog 221 4 (.bool false) 1:=⟨by kernel_rfl,by kernel_rfl,rfl⟩
theorem wpMakeB28 {w:World}{ops:Array Oper}{rest:List Oper}{o:Oper}{a:Act}{Q:Exit->Act->World->Prop}(hgd:o.guard=none) (l c:Operand)
  (ho:o.op = .makeSlice 221 l c) (n:Nat) (hl:a.eval l = .int .i64 (n:Int)) (hc:a.eval c = .int .i64 (n:Int)) (hn:n<=1000000000000) {B:Nat} (hB:B<=w.heap.size)
  (h:∀w',OBs w' B (.slice (some ⟨w.heap.size,0,none⟩) n n) n (List.replicate n false)->w.grownBy w' none->Below w.heap.size w w'->wpList Tryz.prog ops Q rest (a.put o.dst (.slice (some ⟨w.heap.size,0,none⟩) n n)) w') :
  wpList Tryz.prog ops Q (o::rest) a w:=
 wpMake elemBool28 (by decide) hgd l c ho n hl hc hn hB fun w' h1 h2 h3=>h w' (by unfold OBs;rw[List.map_replicate];exact h1) h2 h3
def setY (x:Ex) (l:List Int) (ys:List Bool):Nat->List Bool
 | 0=>ys
 | p+1=>if !hasI (fltX x) (p:Int) then (setY x l ys p).set (l.getD p 0).toNat true else setY x l ys p
def yesY (n r V:Nat) (xs:List Ex):Nat->List Bool
 | 0=>List.replicate V false
 | k+1=>setY (xs.getD k exNil) ((xs.getD k exNil).2.2.getD r []) (yesY n r V xs k) n
theorem setY_len {x:Ex}{l:List Int}{ys:List Bool}:∀p,(setY x l ys p).length=ys.length
 | 0=>rfl
 | p+1=>by rw[setY];split<;>simp[setY_len p]
theorem yesY_len {n r V:Nat}{xs:List Ex}:∀k,(yesY n r V xs k).length=V
 | 0=>by simp[yesY]
 | k+1=>by rw[yesY,setY_len,yesY_len k]
def relN (ys:List Bool):Nat->List Int
 | 0=>[]
 | j+1=>if ys.getD j false then relN ys j ++ [(j:Int)] else relN ys j
def relL (n r V:Nat) (xs:List Ex):List Int:=relN (yesY n r V xs xs.length) V
theorem relN_len {ys:List Bool}:∀j,(relN ys j).length<=j
 | 0=>Nat.le_refl _
 | j+1=>by have:=relN_len (ys:=ys) j;rw[relN];split<;>simp<;>omega
theorem rel1C {w:World}{j:Int}:Calls Tryz.prog 98 #[.int .i64 j] w fun e w'=>e = .returned (.bool true)/\Below w.heap.size w w':=by
 go_enter Tryz.func98, Tryz.ntmps98
 go_wp2;go_ret;exact⟨rfl,Below.refl _ _⟩
theorem relevantC {w:World}{v:Value}{n i o an r:Int}{N K:Nat}{cs:List Cs}{ss:Jc}{vs:Jb}{xs:List Ex}(h:SysV w v n i o cs an ss r n vs xs) (hG:SysG N K vs xs) (hn:n=(N:Int)) (hr:r=(K:Int)) :
  Calls Tryz.prog 97 #[v,.func (.func 98) #[] #[]] w fun e w'=>∃u,e = .returned u/\OI w' w.heap.size u (relL N K vs.length xs).length (relL N K vs.length xs)/\Below w.heap.size w w':=by
 subst hn hr;have hh:=qH h;obtain⟨a,c,a',c',va,vc,xa,xc,rfl,-,-,hX⟩:=h;obtain⟨W1,hW1⟩:=exF (w.alloc (.cells #[.int .i64 (N:Int),.int .i64 i,.int .i64 o,.slice a cs.length c,.int .i64 an,.slice a' ss.length c',.int .i64 (K:Int),.int .i64 (N:Int),.slice va vs.length vc,.slice xa xs.length xc] 35));have hb1:Below w.heap.size w W1:=by rw[hW1];exact(Below.refl _ w).alloc (Nat.le_refl _) _
 have kS:W1.heap[w.heap.size]? = some (.cells #[.int .i64 (N:Int),.int .i64 i,.int .i64 o,.slice a cs.length c,.int .i64 an,.slice a' ss.length c',.int .i64 (K:Int),.int .i64 (N:Int),.slice va vs.length vc,.slice xa xs.length xc] 35):=by rw[hW1];exact heap_alloc_new _ _
 have HK:=qH (fun W (hb:Below W1.heap.size W1 W)=>And.intro (keep7 hb (box10' kS).1) (keep3' hb (box10' kS).2));have HX:=qH hX;have HH:=qH (fun W (hb:Below W1.heap.size W1 W)=>hh.out.keep (btt hb1 hb));have hex:=qH hG.ex;have hok:=qH hG.ok;have hn1:=hG.n1;have hn5:=hG.n5;have hr9:=hG.r9;have hvl:=hG.vl;have hxl:=hG.xl;obtain⟨⟨p0,p1,p2,p3,p4,p5,p6⟩,p7,p8,p9⟩:=HK.out W1 (Below.refl _ _);rw[hW1] at p8;obtain⟨V,hV⟩:=exE (vs.length);rw[hV] at p8 hvl HK hW1 HH|-;replace hV:=qH hV;obtain⟨L,hL⟩:=exE (xs.length);rw[hL] at hxl HK hW1 HH|-;replace hL:=qH hL;clear kS hX hG p0 p1 p2 p3 p4 p5 p6 p7 p9;go_enter Tryz.func97, Tryz.ntmps97
 go_wp2_with (at_make;rw[<-hW1];refine wpMakeB28 (B:=W1.heap.size) rfl _ _ rfl V rfl rfl (by omega) (Nat.le_refl _) ?_;intro W2 ho hgr hb2;obtain⟨⟨p0,p1,p2,p3,p4,p5,p6⟩,p7,p8,p9⟩:=HK.out W2 hb2)
 clear hgr;have hs1:W1.heap.size=w.heap.size+1:=by rw[hW1];simp
 replace hW1:=qH hW1;obtain⟨g,hg⟩:=exE (w.heap.size+1);rw[hs1,hg] at ho hb2 HK HH;rw[hg];have hgw:w.heap.size<=g:=by omega
 have h1g:W1.heap.size=g:=hs1.trans hg;replace hs1:=qH h1g;clear h1g;replace hg:=qH hg;have HE0:=qH (fun W (hb:Below g W1 W)=>btt hb1 (show Below W1.heap.size W1 W from hs1.out.symm▸hb));have ho0:OBs W2 g (.slice (some ⟨g,0,none⟩) V V) V (yesY N K V xs 0):=ho;clear ho;clear p0 p1 p2 p3 p4 p5 p6 p7 p8 p9;go_loopw [22] (fun iv wr=>∃k:Nat,iv = .int .i64 k/\k<=L/\OBs wr g (.slice (some ⟨g,0,none⟩) V V) V (yesY N K V xs k)/\Below g W1 wr) (fun iv _=>L - (intOf iv).toNat)
 case atStart=>exact⟨0,rfl,by omega,ho0,hb2⟩
 case round=>
  clear ho0;obtain⟨k,rfl,hk,ho,hbr⟩:=hrel;obtain⟨wo,hwo⟩:=exF (wr);subst hwo;by_cases hlt:k < L
  ·have hkl:k < xs.length:=(by rw[hL.out];exact hlt);have D0:Below w.heap.size w wo:=btt hb1 (show Below W1.heap.size W1 wo from hs1.out.symm▸hbr);have hX2:=HX.out;obtain⟨xb,xo,rfl,hC⟩:=hX2.at (by omega);obtain⟨u1,u2,q0,q1,q2,k1,k2⟩:=hC k hkl;replace q0:=cell_kept D0 q0;replace q1:=cell_kept D0 q1;replace q2:=cell_kept D0 q2;have hmem:xs.getD k exNil∈xs:=(by rw[getD_eq hkl];exact List.getElem_mem _);have gx:=hex.out _ hmem;have ox:=hok.out _ hmem;have hy1:yesY N K V xs (k+1)=setY (xs.getD k exNil) ((xs.getD k exNil).2.2.getD K []) (yesY N K V xs k) N:=rfl;obtain⟨x,hx⟩:=exE (xs.getD k exNil);rw[hx] at q0 k1 k2 gx ox hy1;obtain⟨Y,hY⟩:=exE (yesY N K V xs k);have hYl:Y.length=V:=(by rw[<-hY];exact yesY_len k);rw[hY] at ho hy1;obtain⟨lX,hlX⟩:=exE (x.2.2.getD K []);rw[hlX] at hy1;have hro:=ox.rows K (Nat.le_refl _);have hfin:=gx.fin;have hvw:=gx.vw;obtain⟨wa,wc,rfl⟩:=k1.shape;obtain⟨va2,vc2,vb2,vo2,hve,hva2,hvc2,hvl2⟩:=id k2;subst hve;obtain rfl:=hva2 (by rw[hvw];omega);obtain⟨lx,clx,klx⟩:=hvc2 K (by rw[hvw];omega);rw[hlX] at hro hfin klx;obtain⟨la,lc,lb,lo,rfl,hla,hlc,hll⟩:=klx;obtain rfl:=hla (by omega);rw[hfin] at clx;obtain⟨W3,hW3⟩:=exF (wo.alloc (.cells #[.int .i64 x.1,.slice wa x.2.1.length wc,.slice (some ⟨vb2,vo2,none⟩) x.2.2.length vc2] 80));have hb3:Below wo.heap.size wo W3:=(by rw[hW3];exact(Below.refl _ _).alloc (Nat.le_refl _) _);have k3:W3.heap[wo.heap.size]? = some (.cells #[.int .i64 x.1,.slice wa x.2.1.length wc,.slice (some ⟨vb2,vo2,none⟩) x.2.2.length vc2] 80):=(by rw[hW3];exact heap_alloc_new _ _);have hgo:g<=wo.heap.size:=(by rw[<-hs1.out];exact hbr.size);have HO:=qH (obligedC ((HH.out wo hbr).keep hb3) (k1.keep (btt D0 hb3)) (k2.keep (btt D0 hb3)) (by omega) (by omega) gx.wd);have hbits:=qH (fun p (hp:p < N)=>msk_bit (n:=(N:Int)) (x:=x) (q:=p) (by omega) (by omega) gx.f0 gx.f1 (by omega));have hS:Hid (∀p:Nat,setY x lX Y (p+1)=if !hasI (fltX x) (p:Int) then (setY x lX Y p).set (lX.getD p 0).toNat true else setY x lX Y p):=fun p=>rfl;have hS0:setY x lX Y 0=Y:=rfl;obtain⟨M,hM⟩:=exE (mskX N x);rw[hM] at HO hbits;obtain⟨n1,hn1e⟩:=exE (x.2.1.length);rw[hvw] at HO q2 hW3 k3;rw[hn1e] at HO q1 hW3 k3;have HQ:=qH (fun W (hb:Below W3.heap.size W3 W)=>box3' (keptO hb k3));have HE:=qH (fun W (hb:Below g W1 W)=>btt hb1 (show Below W1.heap.size W1 W from hs1.out.symm▸hb));have hmul:(k:Int) < (L:Int):=(by omega);have hkK:(K:Int) < (K:Int)+1:=(by omega);replace hlX:=qH hlX;replace hvw:=qH hvw;replace hfin:=qH hfin;replace hro:=qH hro;replace hYl:=qH hYl;replace hy1:=qH hy1;clear hX2 hC hmem gx ox hx hY k1 k2 hvc2 hM hn1e k3 hS0;obtain⟨⟨p0,p1,p2,p3,p4,p5,p6⟩,p7,p8,p9⟩:=HK.out W3 (bt hbr hb3 hgo);obtain⟨z0,z1,z2⟩:=HQ.out W3 (Below.refl _ _);rw[hW3] at p0 p1 p2 p3 p4 p5 p6 p7 p8 p9 z0 z1 z2;go_wp2_with fail
   rw[<-hW3];replace hW3:=qH hW3;clear p0 p1 p2 p3 p4 p5 p6 p7 p8 p9 z0 z1 z2;refine HO.out.mono ?_;rintro e w4 ⟨rfl,hb4⟩;have D4:=bt (bt hbr hb3 hgo) hb4 (Nat.le_trans hgo hb3.size);have E4:=HE.out w4 D4;obtain⟨z0,z1,z2⟩:=HQ.out w4 hb4;obtain⟨⟨p0,p1,p2,p3,p4,p5,p6⟩,p7,p8,p9⟩:=HK.out w4 D4;have cl4:=cell_kept E4 clx;have ho4:OBs w4 g (.slice (some ⟨g,0,none⟩) V V) V (setY x lX Y 0):=ho.keep (btt hb3 hb4);clear q0 q1 q2 HO ho;go_wp2_with fail
   clear p0 p1 p2 p3 p4 p5 p6 p7 p8 p9 z0 z1 z2 cl4;go_loopw [37] (fun pv wr=>∃p:Nat,pv = .int .i64 p/\p<=N/\OBs wr g (.slice (some ⟨g,0,none⟩) V V) V (setY x lX Y p)/\Below g W1 wr) (fun pv _=>N - (intOf pv).toNat)
   case atStart=>exact⟨0,rfl,by omega,ho4,D4⟩
   case round=>
    clear ho4;obtain⟨p,rfl,hp,hop,hbp⟩:=hrel;by_cases hpl:p < N
    ·have cx:=cell_kept (HE.out wr hbp) (hlc p (by rw[hfin.out];exact hpl));obtain⟨j,hj,hjV,-⟩:=hro.out.2 p hpl;rw[hV.out] at hjV;have hs:=hS.out p;rw[hj,Int.toNat_natCast] at hs;rw[hj] at cx;have hb:=hbits.out p hpl;obtain⟨B,hB⟩:=exE ((!hasI (fltX x) (p:Int)));rw[hB] at hb hs;obtain⟨S,hS1⟩:=exE (setY x lX Y p);rw[hS1] at hs hop;have hpN:(p:Int) < (N:Int):=(by omega);have hp64:(p:Int)<=64:=(by omega);have hjV2:(j:Int) < (V:Int):=(by omega);have hw1:IntKind.i64.wrap ((p:Int)+1)=((p+1:Nat):Int):=(by rw[IntWalk.i64_in _ (by omega)];omega);clear hj hS1 hB;cases B
     ·rw[if_neg (by decide)] at hs;replace hs:=qH hs;go_wp2_with fail
      go_roundw
      case rel=>exact⟨p+1,by go_num,hpl,by rw[hs.out];exact hop,hbp⟩
      case measure=>simp[intOf];omega
     ·rw[if_pos rfl] at hs;replace hs:=qH hs;have hst:=hop.store j true;have hf:=hop.free j;have hc:=hop.cell hjV;have hbf:=hbp.setCell (p:=⟨g,j,none⟩) (Nat.le_refl _) (.bool true);go_wp2_with fail
      go_roundw
      case rel=>exact⟨p+1,by go_num,hpl,by rw[hs.out];exact hst,hbf⟩
      case measure=>simp[intOf];omega
    ·obtain rfl:p=N:=(by omega);have hw1:IntKind.i64.wrap ((k:Int)+1)=((k+1:Nat):Int):=(by rw[IntWalk.i64_in _ (by omega)];omega);go_wp2_with fail
     go_roundw
     case rel=>exact⟨k+1,by go_num,hlt,by rw[hy1.out];exact hop,hbp⟩
     case measure=>simp[intOf];omega
  ·obtain rfl:k=L:=(by omega);have C0:=HE0.out wo hbr;have hRl:=qH (show relL N K V xs=relN (yesY N K V xs k) V by unfold relL;rw[hL.out]);obtain⟨Y,hY⟩:=exE (yesY N K V xs k);rw[hY] at ho hRl;replace hY:=qH hY;go_wp2_with fail
   go_loopw [11,54] (fun ov iv wr=>∃j:Nat,iv = .int .i64 j/\j<=V/\OI wr wo.heap.size ov (relN Y j).length (relN Y j)/\Below wo.heap.size wo wr) (fun _ iv _=>V - (intOf iv).toNat)
   case atStart=>exact⟨0,rfl,by omega,OI.nil _ _,Below.refl _ _⟩
   case round=>
    obtain⟨j,rfl,hj,hO,hbj⟩:=hrel;obtain⟨oa,oc,rfl⟩:=hO.shape;by_cases hjl:j < V
    ·have c:=cell_kept hbj (ho.cell hjl);have hs:relN Y (j+1)=if Y.getD j false then relN Y j ++ [(j:Int)] else relN Y j:=rfl
     obtain⟨B,hB⟩:=exE (Y.getD j false);rw[hB] at c hs;have hjV:(j:Int) < (V:Int):=(by omega);have hw1:IntKind.i64.wrap ((j:Int)+1)=((j+1:Nat):Int):=(by rw[IntWalk.i64_in _ (by omega)];omega);have hlen:=relN_len (ys:=Y) j;obtain⟨S,hS⟩:=exE (relN Y j);rw[hS] at hs hO hlen|-;clear hB hS;cases B
     ·rw[if_neg (by decide)] at hs;replace hs:=qH hs;go_wp2_with fail
      go_roundw
      case rel=>exact⟨j+1,by go_num,hjl,by rw[hs.out];exact hO,hbj⟩
      case measure=>simp[intOf];omega
     ·rw[if_pos rfl] at hs;replace hs:=qH hs;have hC:=qH (rel1C (w:=wr) (j:=(j:Int)));go_wp2_with fail
      refine hC.out.mono ?_;rintro e w5 ⟨rfl,hb5⟩;have hO5:=hO.keep hb5;have hb05:=btt hbj hb5;have hsz:=hb05.size;clear hC hO c;go_wp2_with (at_builtin;refine wpAppI rfl _ _ rfl rfl hO5 rfl (by omega) hsz ?_)
      intro v6 w6 hO6 hg6 hb6
      have hN:Hid (OI w6 wo.heap.size v6 (relN Y (j+1)).length (relN Y (j+1))):=by
       show OI _ _ _ _ _;rw[hs.out,List.length_append];exact hO6
      have hbr6:=hb05.trans hb6;clear hO6 hg6 hb6 hO5;go_wp2_with fail
      go_roundw
      case rel=>exact⟨j+1,by go_num,hjl,hN.out,hbr6⟩
      case measure=>simp[intOf];omega
    ·obtain rfl:j=V:=(by omega);have hfin:=hO.base C0.size;have hbf:=btt C0 hbj;go_wp2_with fail
     go_ret;exact⟨_,rfl,by rw[hRl.out];exact hfin,hbf⟩
theorem relevantAll {w:World}{v:Value}{n i o an r tn:Int}{cs:List Cs}{ss:Jc}{vs:Jb}{xs:List Ex}(h:SysV w v n i o cs an ss r tn vs xs) (hfew:fewP n i o cs an ss r=true) (hz:verE n i o cs an ss r tn vs xs=0) :
  Calls Tryz.prog 49 #[v] w fun e w'=>∃u,e = .returned (.tuple #[u,.int .i64 0])/\OI w' w.heap.size u (relL n.toNat r.toNat vs.length xs).length (relL n.toNat r.toNat vs.length xs)/\Below w.heap.size w w':=by
 have HV:=qH (fun W (hb:Below w.heap.size w W)=>verifyC (h.keep hb) hfew);rw[hz] at HV;obtain⟨rfl,hn,hr,-,hG⟩:=sysG_ver h hfew hz;have HR:=qH (fun W (hb:Below w.heap.size w W)=>relevantC (h.keep hb) hG hn hr);obtain⟨R,hR⟩:=exE (relL tn.toNat r.toNat vs.length xs);rw[hR] at HR|-;obtain⟨a,c,a',c',va,vc,xa,xc,rfl,-,-,-⟩:=h;obtain⟨W1,hW1⟩:=exF (w.alloc (.cells #[.int .i64 tn,.int .i64 i,.int .i64 o,.slice a cs.length c,.int .i64 an,.slice a' ss.length c',.int .i64 r,.int .i64 tn,.slice va vs.length vc,.slice xa xs.length xc] 35));have hb1:Below w.heap.size w W1:=by rw[hW1];exact(Below.refl _ w).alloc (Nat.le_refl _) _
 have kS:W1.heap[w.heap.size]? = some (.cells #[.int .i64 tn,.int .i64 i,.int .i64 o,.slice a cs.length c,.int .i64 an,.slice a' ss.length c',.int .i64 r,.int .i64 tn,.slice va vs.length vc,.slice xa xs.length xc] 35):=by rw[hW1];exact heap_alloc_new _ _
 have HK:=qH (fun W (hb:Below W1.heap.size W1 W)=>And.intro (keep7 hb (box10' kS).1) (keep3' hb (box10' kS).2));obtain⟨⟨p0,p1,p2,p3,p4,p5,p6⟩,p7,p8,p9⟩:=HK.out W1 (Below.refl _ _);rw[hW1] at p0 p1 p2 p3 p4 p5 p6 p7 p8 p9;clear hn hr hR kS hz hG;go_enter Tryz.func49, Tryz.ntmps49
 go_wp2_with fail
 rw[<-hW1];replace hW1:=qH hW1;refine(HV.out W1 hb1).mono ?_;rintro e w2 ⟨rfl,hb2⟩;clear p0 p1 p2 p3 p4 p5 p6 p7 p8 p9;obtain⟨⟨p0,p1,p2,p3,p4,p5,p6⟩,p7,p8,p9⟩:=HK.out w2 hb2;have hb12:=btt hb1 hb2;have hC:=qH (HR.out w2 hb12);go_wp2_with fail
 refine hC.out.mono ?_;rintro e w3 ⟨u,rfl,hO,hb3⟩;obtain⟨oa,oc,rfl⟩:=hO.shape;have hO2:=hO.base hb12.size;have hbf:=btt hb12 hb3;clear hO;go_wp2;go_ret2
 exact⟨_,rfl,hO2,hbf⟩
end Go.Proofs.YtcnedkkcgdkioaaGreat
namespace Go.Proofs.YtcnedkkcgdkioaaGreat
open Go.RowKit Go.Sort
def sortL28 (xs:List Int):List Int:=xs.mergeSort fun x y=>decide (x<=y)
theorem sortL28_len (xs:List Int):(sortL28 xs).length=xs.length:=by simp[sortL28,List.length_mergeSort]
theorem sortL28_mem (xs:List Int) (x:Int):x∈sortL28 xs↔x∈xs:=by simp[sortL28]
theorem sortL28_asc (xs:List Int):(sortL28 xs).Pairwise fun a b=>a<=b:=by
 have h:=List.pairwise_mergeSort (le:=fun x y:Int=>decide (x<=y)) (fun a b c h1 h2=>by simp only[decide_eq_true_eq] at h1 h2|-;omega) (fun a b=>by simp only[Bool.or_eq_true,decide_eq_true_eq];omega) xs;exact List.Pairwise.imp (fun h=>by simpa using h) h
theorem sortI28 {w:World}{B n:Nat}{v:Value}{xs:List Int}(h:OI w B v n xs) (hn:0 < n) (hn2:n<=1000000) :
  Calls Tryz.prog 50 #[v] w fun e w'=>e = .returned (.tuple #[])/\OI w' B v n (sortL28 xs)/\Below B w w'/\w.grownBy w' v.ownBlock:=by
 have hne:v ≠ .slice none 0 0:=by
  rintro rfl;rcases h.2 with⟨_,h0⟩|⟨g,cap,cur,h1,_⟩
  ·omega
  ·cases h1
 obtain⟨g,cap,rfl,hB,hg,hnc,hcm,hl,hH⟩:=Lib.holds_of_ownsRow h hne;have hc:=AnyM.slices_Sort_int Tryz.sortI g 0 cap xs w hH hg (by omega);rw[hl] at hc;refine hc.mono ?_;rintro e w' ⟨rfl,q,os,rfl⟩;have h1:=Lib.ownsRow_putRow (q:=q) (k:=n) (ys:=sortL28 xs) h (by rw[sortL28_len,hl]) (Nat.le_refl _);have ht:(sortL28 xs).take n=sortL28 xs:=List.take_of_length_le (by rw[sortL28_len];omega);rw[ht] at h1;have h2:OI (grow (putRow (Value.int .i64) (Sort.ahead w q) g 0 (sortL28 xs).toArray) os) B (.slice (some ⟨g,0,none⟩) n cap) n (sortL28 xs):=OI.keep h1 ⟨rfl,rfl,rfl,by simp[grow],fun k hk=>Array.getElem?_append_left hk⟩;have hgb:=grownBy_sortedI (w:=w) (g:=g) (n:=q) (os:=os) (sortL28 xs).toArray;refine⟨rfl,h2,(Below.refl B w).grown hgb ?_ ?_,hgb⟩
 ·omega
 ·intro k hk;injection hk with hk;omega
theorem sortI28A {w:World}{B n:Nat}{v:Value}{xs:List Int}(h:OI w B v n xs) (hn2:n<=1000000) :
  Calls Tryz.prog 50 #[v] w fun e w'=>e = .returned (.tuple #[])/\OI w' B v n (sortL28 xs)/\Below B w w':=by
 rcases Nat.eq_zero_or_pos n with h0|h0
 ·subst h0;obtain⟨a,c,rfl⟩:=h.shape;have hx:xs = []:=List.eq_nil_of_length_eq_zero h.length;subst hx;refine(AnyM.slices_Sort_int_none Tryz.sortI a c w).mono ?_;rintro e w' ⟨rfl,rfl⟩;have he:sortL28 [] = []:=List.eq_nil_of_length_eq_zero (by rw[sortL28_len];rfl);exact⟨rfl,by rw[he];exact h,Below.refl _ _⟩
 ·exact(sortI28 h h0 hn2).mono fun e w' ⟨h1,h2,h3,_⟩=>⟨h1,h2,h3⟩
end Go.Proofs.YtcnedkkcgdkioaaGreat
namespace Go.Proofs.YtcnedkkcgdkioaaGreat
open Go.RowKit
def colM (s:Jb):Int:=s.foldl (fun m v=>bits BinOp.or IntKind.i64 m (2 ^ (v.getD 0 0).toNat)) 0
theorem chromC {w:World}{v:Value}{s:Jb}(h:KS 2 w v s) (hc:chkS s=0) (h1:0 < s.length) (hd:∀j,j+1 < s.length->(s.getD j []).getD 0 0 ≠ (s.getD (j+1) []).getD 0 0) :
  Calls Tryz.prog 45 #[v] w fun e w'=>e = .returned (.tuple #[.bool true,.int .i64 0])/\Below w.heap.size w w':=by
 have HC:=qH (checkS h);rw[hc] at HC;obtain⟨va,vc,vb,vo,rfl,ha,hcl,hsl⟩:=h;obtain rfl:=ha (by omega);replace hcl:=qH hcl;replace hd:=qH hd;clear ha hc;go_enter Tryz.func45, Tryz.ntmps45
 go_wp2_with fail
 refine HC.out.mono ?_;rintro e w2 ⟨rfl,hb2⟩;go_wp2_with fail
 go_loopw [5] (fun iv wr=>∃m:Nat,iv = .int .i64 ((m+1:Nat):Int)/\m+1<=s.length/\Below w.heap.size w wr) (fun iv _=>s.length - (intOf iv).toNat)
 case atStart=>exact⟨0,rfl,by omega,hb2⟩
 case round=>
  obtain⟨m,rfl,hm,hbr⟩:=hrel;by_cases hlt:m+1 < s.length
  ·obtain⟨x2,xi⟩:=hcl.out m (by omega);obtain⟨y2,yi⟩:=hcl.out (m+1) hlt;have hne:=hd.out m hlt;obtain⟨x,hx⟩:=exE (s.getD m []);obtain⟨y,hy⟩:=exE (s.getD (m+1) []);rw[hx] at x2 xi hne;rw[hy] at y2 yi hne;obtain⟨p,r,rfl⟩:=two x2;obtain⟨p',r',rfl⟩:=two y2;obtain⟨c0,-⟩:=xi.all2;obtain⟨c0',-⟩:=yi.all2;replace c0:=cell_kept hbr c0;replace c0':=cell_kept hbr c0';have hz:(p == p')=false:=beq_eq_false_iff_ne.2 hne;have hw1:IntKind.i64.wrap (((m+1:Nat):Int) - 1)=(m:Int):=(by rw[IntWalk.i64_in _ (by omega)];omega);have hi0:(m:Int) < (s.length:Int):=(by omega);have hi1:((m+1:Nat):Int) < (s.length:Int):=(by omega);have hw2:IntKind.i64.wrap (((m+1:Nat):Int)+1)=((m+1+1:Nat):Int):=(by rw[IntWalk.i64_in _ (by omega)];omega);obtain⟨k,hk⟩:∃k:Nat,m+1=k:=⟨_,rfl⟩;rw[hk] at hw1 hi1 hw2 c0' hlt|-;replace hk:=qH hk;clear hne x2 xi y2 yi hx hy;go_wp2_with fail
   go_quiet (fail)
   go_wp2_with fail
   go_roundw
   case rel=>exact⟨k,by go_num,by omega,btt hbr (below_drewN (Below.refl _ _) _)⟩
   case measure=>simp[intOf];omega
  ·go_wp2_with fail
   go_ret2
   exact⟨rfl,hbr⟩
theorem colorsC {w:World}{v:Value}{s:Jb}(h:KS 2 w v s) (hc:chkS s=0) (h1:0 < s.length) (hd:∀j,j < s.length->0<=(s.getD j []).getD 0 0/\(s.getD j []).getD 0 0 < 8) :
  Calls Tryz.prog 46 #[v] w fun e w'=>e = .returned (.tuple #[.int .i64 (colM s),.int .i64 0])/\Below w.heap.size w w':=by
 have HC:=qH (checkS h);rw[hc] at HC;obtain⟨va,vc,vb,vo,rfl,ha,hcl,hsl⟩:=h;obtain rfl:=ha (by omega);obtain⟨Mf,hMf⟩:=exE (colM s);rw[hMf];replace hMf:=qH hMf;replace hcl:=qH hcl;replace hd:=qH hd;clear ha hc;go_enter Tryz.func46, Tryz.ntmps46
 go_wp2_with fail
 refine HC.out.mono ?_;rintro e w2 ⟨rfl,hb2⟩;go_wp2_with fail
 go_loopw [5,15] (fun mv iv wr=>∃k:Nat,mv = .int .i64 (colM (s.take k))/\iv = .int .i64 (k:Int)/\k<=s.length/\Below w.heap.size w wr) (fun _ iv _=>s.length - (intOf iv).toNat)
 case atStart=>exact⟨0,rfl,rfl,by omega,hb2⟩
 case round=>
  obtain⟨k,rfl,rfl,hk,hbr⟩:=hrel;by_cases hlt:k < s.length
  ·obtain⟨x2,xi⟩:=hcl.out k hlt;have hb:=hd.out k hlt;obtain⟨x,hx⟩:=exE (s.getD k [])
   have ht:colM (s.take (k+1))=bits BinOp.or IntKind.i64 (colM (s.take k)) (2 ^ (x.getD 0 0).toNat):=by
    unfold colM;rw[take_snoc hlt [],List.foldl_append,hx];rfl
   rw[hx] at x2 xi hb;obtain⟨p,r,rfl⟩:=two x2;obtain⟨hp0,hp8⟩:0<=p/\p < 8:=hb;have ht':colM (s.take (k+1))=bits BinOp.or IntKind.i64 (colM (s.take k)) (2 ^ p.toNat):=ht;obtain⟨c0,c1⟩:=xi.all2;replace c0:=cell_kept hbr c0;replace c1:=cell_kept hbr c1;have hp64:p<=64:=by omega
   have hwp:IntKind.i64.wrap (2 ^ p.toNat)=2 ^ p.toNat:=by
    have h8:p=0\/p=1\/p=2\/p=3\/p=4\/p=5\/p=6\/p=7:=(by omega);rcases h8 with rfl|rfl|rfl|rfl|rfl|rfl|rfl|rfl<;>decide
   have hi1:(k:Int) < (s.length:Int):=(by omega);obtain⟨M,hM⟩:=exE (colM (s.take k));rw[hM] at ht' |-;replace ht':=qH ht';clear ht x2 xi hx hM;go_wp2_with fail
   go_roundw
   case rel=>exact⟨k+1,by rw[ht'.out]<;>rfl,by go_num,hlt,hbr.alloc hbr.size _⟩
   case measure=>simp[intOf];omega
  ·obtain rfl:k=s.length:=(by omega);have he:colM (s.take s.length)=Mf:=(by rw[List.take_length];exact hMf.out);rw[he];clear he;go_wp2_with fail
   go_ret2
   exact⟨rfl,hbr⟩
theorem srcVs {w w0 W:World}{B n:Nat}{v:Value}{ss:Jc}(h:OwX 38 1 EVx w B v n ss) (hl:∀s∈ss,s.length<=1000000) (hb:Below w.heap.size w w0) (hW:Below w.heap.size w W):SrcX 1 (EWk w0) W v ss:=by
 obtain⟨ya,yc,ws,e1,e2,e3,e4,e5,e6⟩:=h.src;refine⟨ya,yc,ws,e1,e2,e3,fun j x hx=>?_,e5,fun ad ha j u hu=>cell_kept hW (e6 ad ha j u hu)⟩;obtain⟨a,c,hcs,k⟩:=e4 j x hx;exact⟨_,hcs,(EVx.ksc k (hl x (List.mem_of_getElem? hx))).keep hb⟩
theorem bothCx {w:World}{u v:Value}{fs gs:Jc}(hu:KSSC 2 w u fs) (hv:KSSC 2 w v gs) (hF:CxG fs) (hG:CxG gs) :
  Calls Tryz.prog 88 #[.agg #[u],.agg #[v]] w fun e w'=>e = .returned (.int .i64 0)/\Below w.heap.size w w':=by
 obtain⟨W1,hW1⟩:=exF ((w.alloc (.cells #[u] 57)).alloc (.cells #[v] 57));have hb1:Below w.heap.size w W1:=by rw[hW1];exact((Below.refl _ w).alloc (Nat.le_refl _) _).alloc (by simp) _
 have kA:W1.heap[w.heap.size]? = some (.cells #[u] 57):=by
  rw[hW1];exact(Below.heap_alloc _ _ _ (by simp)).trans (heap_alloc_new w _)
 have kB:W1.heap[w.heap.size+1]? = some (.cells #[v] 57):=by
  rw[hW1];have:=heap_alloc_new (w.alloc (.cells #[u] 57)) (.cells #[v] 57)
  rwa [World.size_alloc] at this
 have H1:=qH (checkCx (hu.keep hb1) hF);have H2:=qH (fun W (hb:Below W1.heap.size W1 W)=>checkCx (hv.keep (btt hb1 hb)) hG);have HK:=qH (fun W (hb:Below W1.heap.size W1 W)=>cell_kept hb (cell_of_one kB));have r0:=cell_of_one kA;obtain⟨ua,uc,rfl⟩:=hu.shape;obtain⟨va,vc,rfl⟩:=hv.shape;rw[hW1] at r0;clear kA kB hu hv;go_enter Tryz.func88, Tryz.ntmps88
 go_wp2_with fail
 rw[<-hW1];replace hW1:=qH hW1;refine H1.out.mono ?_;rintro e w2 ⟨rfl,hb2⟩;have r1:=HK.out w2 hb2;have hC:=qH (H2.out w2 hb2);go_wp2_with fail
 refine hC.out.mono ?_;rintro e w3 ⟨rfl,hb3⟩;have hbf:=btt (btt hb1 hb2) hb3;go_wp2;go_ret;exact⟨rfl,hbf⟩
theorem limitedCx {w:World}{v:Value}{ss:Jc}(hK:KSSC 2 w v ss) (hn:ss.length<=1000) (hv:∀s∈ss,VS s) (hs:∀s∈ss,SmS s) (hl:(cxP ss).length<=4096) :
  Calls Tryz.prog 89 #[v] w fun e w'=>∃v',e = .returned (.tuple #[v',.int .i64 0])/\CxO w' v' (cxP ss)/\Below w.heap.size w w':=by
 obtain⟨W1,hW1⟩:=exF (w.alloc (.cells #[.slice none 0 0] 57));have hb1:Below w.heap.size w W1:=by rw[hW1];exact(Below.refl _ w).alloc (Nat.le_refl _) _
 have kR:W1.heap[w.heap.size]? = some (.cells #[.slice none 0 0] 57):=by rw[hW1];exact heap_alloc_new _ _
 have HC:=qH (complexOfC (hK.keep hb1) hn hv hs);obtain⟨va,vc,rfl⟩:=hK.shape;obtain⟨R,hR⟩:=exE (cxP ss);rw[hR] at HC hl|-;have hkR:=qH kR;have dn:decide ((4096:Int) < (R.length:Int))=false:=decide_eq_false (by omega);clear kR hK hR;go_enter Tryz.func89, Tryz.ntmps89
 go_wp2_with fail
 rw[<-hW1];replace hW1:=qH hW1;refine HC.out.mono ?_;rintro e w2 ⟨v2,rfl,⟨fa,fc,rfl,hO⟩,hb2⟩;obtain⟨W3,hW3⟩:=exF (w2.alloc (.cells #[.slice fa R.length fc] 57));have hb3:Below w2.heap.size w2 W3:=by rw[hW3];exact(Below.refl _ _).alloc (Nat.le_refl _) _
 have k3:W3.heap[w2.heap.size]? = some (.cells #[.slice fa R.length fc] 57):=by rw[hW3];exact heap_alloc_new _ _
 have q0:=cell_of_one k3;rw[hW3] at q0;obtain⟨z4,fz,m1,hend⟩:=endCx (w:=w) (keptO (btt hb2 hb3) hkR.out) (hO.keep EVx.stb hb3) (btt (btt hb1 hb2) hb3) (Nat.le_refl _);replace m1:=qH m1;rw[hW3] at z4 fz;clear hO k3;go_wp2;rw[<-hW3];exact⟨rfl,_,results_cx2 (k:=2) rfl _ _ _ rfl rfl m1.out,_,rfl,hend.out.1,hend.out.2⟩
def oUn4_0:Oper:=⟨some 14,.fieldAddr 57 (.tmp 2) 0,0,"complex.go:308",#[],none⟩
def oUn4_1:Oper:=⟨some 15,.load 55 (.tmp 14),55,"complex.go:308",#[⟨0,.data⟩],none⟩
def oUn4_2:Oper:=⟨some 16,.call { callee:=.value (.func 90),args:=#[.tmp 15],argTypes:=#[55] },55,"complex.go:308",#[⟨1,.data⟩],none⟩
def oUn4_3:Oper:=⟨some 17,.fieldAddr 57 (.tmp 3) 0,0,"complex.go:308",#[],none⟩
def oUn4_4:Oper:=⟨some 18,.load 55 (.tmp 17),55,"complex.go:308",#[⟨3,.data⟩],none⟩
def oUn4_5:Oper:=⟨some 19,.call { callee:=.builtin .append,args:=#[.tmp 16,.tmp 18],argTypes:=#[55,55] },55,"complex.go:308",#[⟨2,.data⟩,⟨4,.data⟩,⟨2,.chain⟩],none⟩
def oUn4_6:Oper:=⟨some 20,.call { callee:=.value (.func 89),args:=#[.tmp 19],argTypes:=#[55] },58,"complex.go:308",#[⟨5,.data⟩,⟨5,.chain⟩],none⟩
def oUn4_7:Oper:=⟨some 21,.extract (.tmp 20) 0,57,"complex.go:308",#[⟨6,.data⟩],none⟩
def oUn4_8:Oper:=⟨some 22,.extract (.tmp 20) 1,41,"complex.go:308",#[⟨6,.data⟩],none⟩
def oUn4_9:Oper:=⟨none,.store 57 (.tmp 4) (.tmp 21),0,"complex.go:308",#[⟨7,.data⟩,⟨6,.chain⟩,⟨0,.phase⟩,⟨1,.phase⟩,⟨2,.phase⟩,⟨3,.phase⟩,⟨4,.phase⟩,⟨5,.phase⟩,⟨6,.phase⟩,⟨7,.phase⟩,⟨8,.phase⟩],none⟩
def oUn4_10:Oper:=⟨some 5,.assign (.tmp 22),41,"complex.go:308",#[⟨8,.data⟩,⟨9,.chain⟩,⟨0,.phase⟩,⟨1,.phase⟩,⟨2,.phase⟩,⟨3,.phase⟩,⟨4,.phase⟩,⟨5,.phase⟩,⟨6,.phase⟩,⟨7,.phase⟩,⟨8,.phase⟩,⟨9,.phase⟩],none⟩
def opsUn4:List Oper:=[oUn4_0,oUn4_1,oUn4_2,oUn4_3,oUn4_4,oUn4_5,oUn4_6,oUn4_7,oUn4_8,oUn4_9,oUn4_10]
theorem regUn4 {w:World}{x0 x1 x5 x6 x7 x8 x9 x10 x11 x12 x13 x14 x15 x16 x17 x18 x19 x20 x21 x22:Value}{Q:Exit->Act->World->Prop}{bc bd br uc vc:Nat}{ua va:Option Addr}{u0:Value}{fs gs R:Jc}
  (kc:w.heap[bc]? = some (.cells #[.slice ua fs.length uc] 57)) (kd:w.heap[bd]? = some (.cells #[.slice va gs.length vc] 57)) (kr:w.heap[br]? = some (.cells #[u0] 57))
  (hgs:OwX 38 1 EVx w 0 (.slice va gs.length vc) gs.length gs) (hgl:∀s∈gs,s.length<=1000000) (hn:fs.length+gs.length<=1000000) (hn1:fs.length+gs.length<=1000000)
  (HC:∀W,Below w.heap.size w W->Calls Tryz.prog 90 #[.slice ua fs.length uc] W fun e w'=>∃u,e = .returned u/\OwX 38 1 (EWk W) w' W.heap.size u fs.length fs/\Below W.heap.size W w')
  (HL:∀W u,KSSC 2 W u (fs++gs)->Calls Tryz.prog 89 #[u] W fun e w'=>∃v',e = .returned (.tuple #[v',.int .i64 0])/\CxO w' v' R/\Below W.heap.size W w')
  (hfin:∀(y2 y5 y6 y7 _y9:Value) (W:World),(((fun i=>decide (i < 11)) 9=false->Below w.heap.size w W)/\((fun i=>decide (i < 11)) 2=true->(fun i=>decide (i < 11)) 5=false->∃W0,Below w.heap.size w W0/\Below W0.heap.size W0 W/\OwX 38 1 (EWk W0) W W0.heap.size y2 (fs.length) (fs))/\((fun i=>decide (i < 11)) 5=true->(fun i=>decide (i < 11)) 6=false->∃W0,Below w.heap.size w W0/\Below W0.heap.size W0 W/\OwX 38 1 (EWk W0) W W0.heap.size y5 (fs.length+gs.length) (fs++gs))/\((fun i=>decide (i < 11)) 6=true->(fun i=>decide (i < 11)) 9=false->∃a c,y6 = .tuple #[.agg #[.slice a R.length c],.int .i64 0]/\OwX 38 1 EVx W 0 (.slice a R.length c) R.length R)/\((fun i=>decide (i < 11)) 7=true->(fun i=>decide (i < 11)) 9=false->∃a c,y7 = .agg #[.slice a R.length c]/\OwX 38 1 EVx W 0 (.slice a R.length c) R.length R)/\((fun i=>decide (i < 11)) 9=true->∃W5 a c,Below w.heap.size w W5/\OwX 38 1 EVx W5 0 (.slice a R.length c) R.length R/\W=W5.setCell ⟨br,0,none⟩ (.slice a R.length c)))->(True)->(True)->(∃a c,y6 = .tuple #[.agg #[.slice a R.length c],.int .i64 0])->(True)->(True)->Q .normal ⟨#[x0,x1,.pointer (some ⟨bc,0,none⟩),.pointer (some ⟨bd,0,none⟩),.pointer (some ⟨br,0,none⟩),.int .i64 0,x6,x7,x8,x9,x10,x11,x12,x13,.pointer (some ⟨bc,0,none⟩),.slice ua fs.length uc,y2,.pointer (some ⟨bd,0,none⟩),.slice va gs.length vc,y5,y6,y7,.int .i64 0],[]⟩ W) :
  (Code.region 4 opsUn4.toArray true).wp Tryz.prog Q ⟨#[x0,x1,.pointer (some ⟨bc,0,none⟩),.pointer (some ⟨bd,0,none⟩),.pointer (some ⟨br,0,none⟩),x5,x6,x7,x8,x9,x10,x11,x12,x13,x14,x15,x16,x17,x18,x19,x20,x21,x22],[]⟩ w:=by
 obtain⟨SG,hSG⟩:=exS (StepG Tryz.prog opsUn4.toArray (fun ys=>⟨#[x0,x1,.pointer (some ⟨bc,0,none⟩),.pointer (some ⟨bd,0,none⟩),.pointer (some ⟨br,0,none⟩),ys 10,x6,x7,x8,x9,x10,x11,x12,x13,ys 0,ys 1,ys 2,ys 3,ys 4,ys 5,ys 6,ys 7,ys 8],[]⟩) [eqV (.pointer (some ⟨bc,0,none⟩)),eqV (.slice ua fs.length uc),anyV,eqV (.pointer (some ⟨bd,0,none⟩)),eqV (.slice va gs.length vc),anyV,fun _ v=>∃a c,v = .tuple #[.agg #[.slice a R.length c],.int .i64 0],anyV,eqV (.int .i64 0),anyV,eqV (.int .i64 0)] (fun _ _=>True) (fun D ys W=>(D 9=false->Below w.heap.size w W)/\(D 2=true->D 5=false->∃W0,Below w.heap.size w W0/\Below W0.heap.size W0 W/\OwX 38 1 (EWk W0) W W0.heap.size (ys 2) (fs.length) (fs))/\(D 5=true->D 6=false->∃W0,Below w.heap.size w W0/\Below W0.heap.size W0 W/\OwX 38 1 (EWk W0) W W0.heap.size (ys 5) (fs.length+gs.length) (fs++gs))/\(D 6=true->D 9=false->∃a c,(ys 6) = .tuple #[.agg #[.slice a R.length c],.int .i64 0]/\OwX 38 1 EVx W 0 (.slice a R.length c) R.length R)/\(D 7=true->D 9=false->∃a c,(ys 7) = .agg #[.slice a R.length c]/\OwX 38 1 EVx W 0 (.slice a R.length c) R.length R)/\(D 9=true->∃W5 a c,Below w.heap.size w W5/\OwX 38 1 EVx W5 0 (.slice a R.length c) R.length R/\W=W5.setCell ⟨br,0,none⟩ (.slice a R.length c))) Q)
 have st0:SG 0 oUn4_0:=by
  subst hSG;refine StepG.mk rfl (openY 2 fun y2=>openY 5 fun y5=>openY 6 fun y6=>openY 7 fun y7=>fun ys D W K _ _ _ hG hK=>?_);simp only[updG,Nat.reduceEqDiff,reduceIte] at hG|-;unfold oUn4_0;obtain⟨g1,g2,g3,g4,g5,g6⟩:=hG;go_simp;exact hK _ _ trivial ⟨g1,g2,g3,g4,g5,g6⟩ rfl
 have st1:SG 1 oUn4_1:=by
  subst hSG;refine StepG.mk rfl (openY 0 fun y0=>openY 2 fun y2=>openY 5 fun y5=>openY 6 fun y6=>openY 7 fun y7=>fun ys D W K hD hcl hd hG hK=>?_);have e0:y0=_:=(hd.get 0 rfl).2;subst e0;simp only[updG,Nat.reduceEqDiff,reduceIte] at hG|-;unfold oUn4_1;have d2:=hcl.no (j:=2) (i:=1) rfl (by kernel_rfl) hD;have d5:=hcl.no (j:=5) (i:=2) rfl (by kernel_rfl) d2;have d6:=hcl.no (j:=6) (i:=5) rfl (by kernel_rfl) d5;have d7:=hcl.no (j:=7) (i:=6) rfl (by kernel_rfl) d6;have d9:=hcl.no (j:=9) (i:=7) rfl (by kernel_rfl) d7;obtain⟨g1,g2,g3,g4,g5,g6⟩:=hG;have c0:=cell_of_one (keptO (g1 d9) kc);go_simp;exact hK _ _ trivial ⟨g1,g2,g3,g4,g5,g6⟩ rfl
 have st2:SG 2 oUn4_2:=by
  subst hSG;refine StepG.mk rfl (openY 1 fun y1=>openY 2 fun y2=>openY 5 fun y5=>openY 6 fun y6=>openY 7 fun y7=>fun ys D W K hD hcl hd hG hK=>?_);have e1:y1=_:=(hd.get 1 rfl).2;subst e1;simp only[updG,Nat.reduceEqDiff,reduceIte] at hG|-;unfold oUn4_2;have d5:=hcl.no (j:=5) (i:=2) rfl (by kernel_rfl) hD;have d6:=hcl.no (j:=6) (i:=5) rfl (by kernel_rfl) d5;have d7:=hcl.no (j:=7) (i:=6) rfl (by kernel_rfl) d6;have d9:=hcl.no (j:=9) (i:=7) rfl (by kernel_rfl) d7;obtain⟨g1,g2,g3,g4,g5,g6⟩:=hG;go_simp;refine(HC W (g1 d9)).mono ?_;rintro e W9 ⟨u9,rfl,hO9,hb9⟩;exact hK _ _ trivial ⟨fun _=>btt (g1 d9) hb9,fun _ _=>⟨W,g1 d9,hb9,hO9⟩,fun h _=>(by rw[show addG D 2 5=D 5 from rfl,d5] at h;cases h),fun h _=>(by rw[show addG D 2 6=D 6 from rfl,d6] at h;cases h),fun h _=>(by rw[show addG D 2 7=D 7 from rfl,d7] at h;cases h),fun h=>(by rw[show addG D 2 9=D 9 from rfl,d9] at h;cases h)⟩ trivial
 have st3:SG 3 oUn4_3:=by
  subst hSG;refine StepG.mk rfl (openY 2 fun y2=>openY 5 fun y5=>openY 6 fun y6=>openY 7 fun y7=>fun ys D W K _ _ _ hG hK=>?_);simp only[updG,Nat.reduceEqDiff,reduceIte] at hG|-;unfold oUn4_3;obtain⟨g1,g2,g3,g4,g5,g6⟩:=hG;go_simp;exact hK _ _ trivial ⟨g1,g2,g3,g4,g5,g6⟩ rfl
 have st4:SG 4 oUn4_4:=by
  subst hSG;refine StepG.mk rfl (openY 3 fun y3=>openY 2 fun y2=>openY 5 fun y5=>openY 6 fun y6=>openY 7 fun y7=>fun ys D W K hD hcl hd hG hK=>?_);have e3:y3=_:=(hd.get 3 rfl).2;subst e3;simp only[updG,Nat.reduceEqDiff,reduceIte] at hG|-;unfold oUn4_4;have d5:=hcl.no (j:=5) (i:=4) rfl (by kernel_rfl) hD;have d6:=hcl.no (j:=6) (i:=5) rfl (by kernel_rfl) d5;have d7:=hcl.no (j:=7) (i:=6) rfl (by kernel_rfl) d6;have d9:=hcl.no (j:=9) (i:=7) rfl (by kernel_rfl) d7;obtain⟨g1,g2,g3,g4,g5,g6⟩:=hG;have c0:=cell_of_one (keptO (g1 d9) kd);go_simp;exact hK _ _ trivial ⟨g1,g2,g3,g4,g5,g6⟩ rfl
 have st5:SG 5 oUn4_5:=by
  subst hSG;refine StepG.mk rfl (openY 4 fun y4=>openY 2 fun y2=>openY 5 fun y5=>openY 6 fun y6=>openY 7 fun y7=>fun ys D W K hD hcl hd hG hK=>?_);have d2:=(hd.get 2 rfl).1;have e4:y4=_:=(hd.get 4 rfl).2;subst e4;simp only[updG,Nat.reduceEqDiff,reduceIte] at hG|-;unfold oUn4_5;have d6:=hcl.no (j:=6) (i:=5) rfl (by kernel_rfl) hD;have d7:=hcl.no (j:=7) (i:=6) rfl (by kernel_rfl) d6;have d9:=hcl.no (j:=9) (i:=7) rfl (by kernel_rfl) d7;have d2:=(hd.get 2 rfl).1;obtain⟨g1,g2,g3,g4,g5,g6⟩:=hG;obtain⟨W0,hw0,hw1,hO⟩:=g2 d2 hD;refine wp_appXG (B:=W0.heap.size) elemVs (by decide) (by decide) (EWk.stab _ _) _ _ (by rfl) (by rfl) hO (by rfl) (srcVs hgs hgl hw0 (g1 d9)) hn hw1.size ?_;intro v9 w9 hO9 hg9 hb9 hx9;have hb0:=btt hw0 (hw1.trans hb9);exact hK _ _ trivial ⟨fun _=>hb0,fun _ h=>(by cases h),fun _ _=>⟨W0,hw0,hw1.trans hb9,hO9⟩,fun h _=>(by rw[show addG D 5 6=D 6 from rfl,d6] at h;cases h),fun h _=>(by rw[show addG D 5 7=D 7 from rfl,d7] at h;cases h),fun h=>(by rw[show addG D 5 9=D 9 from rfl,d9] at h;cases h)⟩ trivial
 have st6:SG 6 oUn4_6:=by
  subst hSG;refine StepG.mk rfl (openY 2 fun y2=>openY 5 fun y5=>openY 6 fun y6=>openY 7 fun y7=>fun ys D W K hD hcl hd hG hK=>?_);have d5:=(hd.get 5 rfl).1;simp only[updG,Nat.reduceEqDiff,reduceIte] at hG|-;unfold oUn4_6;have d7:=hcl.no (j:=7) (i:=6) rfl (by kernel_rfl) hD;have d9:=hcl.no (j:=9) (i:=7) rfl (by kernel_rfl) d7;have d5:=(hd.get 5 rfl).1;obtain⟨g1,g2,g3,g4,g5,g6⟩:=hG;obtain⟨W0,hw0,hw1,hO⟩:=g3 d5 hD;have hk:=hO.kssK hw1 hn1;go_simp;refine(HL W _ hk).mono ?_;rintro e W9 ⟨u9,rfl,⟨fa,fc,rfl,hO9⟩,hb9⟩;exact hK _ _ trivial ⟨fun _=>btt (g1 d9) hb9,fun _ h=>(by rw[show addG D 6 5=D 5 from rfl,d5] at h;cases h),fun _ h=>(by cases h),fun _ _=>⟨_,_,rfl,hO9⟩,fun h _=>(by rw[show addG D 6 7=D 7 from rfl,d7] at h;cases h),fun h=>(by rw[show addG D 6 9=D 9 from rfl,d9] at h;cases h)⟩ ⟨_,_,rfl⟩
 have st7:SG 7 oUn4_7:=by
  subst hSG;refine StepG.mk rfl (openY 6 fun y6=>openY 2 fun y2=>openY 5 fun y5=>openY 7 fun y7=>fun ys D W K hD hcl hd hG hK=>?_);obtain⟨d6,e6⟩:D 6=true/\(∃a c,y6 = .tuple #[.agg #[.slice a R.length c],.int .i64 0]):=hd.get 6 rfl;simp only[updG,Nat.reduceEqDiff,reduceIte] at hG|-;unfold oUn4_7;have d9:=hcl.no (j:=9) (i:=7) rfl (by kernel_rfl) hD;have d6:=(hd.get 6 rfl).1;obtain⟨g1,g2,g3,g4,g5,g6⟩:=hG;obtain⟨fa,fc,e6,hO⟩:=g4 d6 d9;subst e6;go_simp;exact hK _ _ trivial ⟨g1,g2,g3,g4,fun _ _=>⟨_,_,rfl,hO⟩,g6⟩ trivial
 have st8:SG 8 oUn4_8:=by
  subst hSG;refine StepG.mk rfl (openY 6 fun y6=>openY 2 fun y2=>openY 5 fun y5=>openY 7 fun y7=>fun ys D W K _ _ hd hG hK=>?_);obtain⟨d6,e6⟩:D 6=true/\(∃a c,y6 = .tuple #[.agg #[.slice a R.length c],.int .i64 0]):=hd.get 6 rfl;simp only[updG,Nat.reduceEqDiff,reduceIte] at hG|-;unfold oUn4_8;obtain⟨g1,g2,g3,g4,g5,g6⟩:=hG;obtain⟨fa,fc,e6⟩:=(hd.get 6 rfl).2;subst e6;go_simp;exact hK _ _ trivial ⟨g1,g2,g3,g4,g5,g6⟩ rfl
 have st9:SG 9 oUn4_9:=by
  subst hSG;refine StepG.mk rfl (openY 2 fun y2=>openY 5 fun y5=>openY 6 fun y6=>openY 7 fun y7=>fun ys D W K hD _ hd hG hK=>?_);have d7:=(hd.get 7 rfl).1;simp only[updG,Nat.reduceEqDiff,reduceIte] at hG|-;unfold oUn4_9;have d7:=(hd.get 7 rfl).1;obtain⟨g1,g2,g3,g4,g5,g6⟩:=hG;obtain⟨fa,fc,e7,hO⟩:=g5 d7 hD;subst e7;have kr1:=keptO (g1 hD) kr;have z0:=cell_of_one kr1;have fz:=row_free kr1;go_simp;exact hK undef _ trivial ⟨fun h=>(by cases h),fun q q2=>(by rw[show addG D 9 5=D 5 from rfl,(hd.get 5 rfl).1] at q2;cases q2),fun q q2=>(by rw[show addG D 9 6=D 6 from rfl,(hd.get 6 rfl).1] at q2;cases q2),fun _ h=>(by cases h),fun _ h=>(by cases h),fun _=>⟨W,_,_,g1 hD,hO,rfl⟩⟩ trivial
 have st10:SG 10 oUn4_10:=by
  subst hSG;refine StepG.mk rfl (openY 8 fun y8=>openY 2 fun y2=>openY 5 fun y5=>openY 6 fun y6=>openY 7 fun y7=>fun ys D W K _ _ hd hG hK=>?_);have e8:y8=_:=(hd.get 8 rfl).2;subst e8;simp only[updG,Nat.reduceEqDiff,reduceIte] at hG|-;unfold oUn4_10;obtain⟨g1,g2,g3,g4,g5,g6⟩:=hG;go_simp;exact hK _ _ trivial ⟨g1,g2,g3,g4,g5,g6⟩ rfl
 subst hSG;refine wp_region_sg (l:=opsUn4) ⟨st0,st1,st2,st3,st4,st5,st6,st7,st8,st9,st10,trivial⟩ (fun i=>([x14,x15,x16,x17,x18,x19,x20,x21,x22,undef,x5]:List Value).getD i undef) (by kernel_rfl) (by kernel_rfl) ⟨sE,sE,fun _ _ _ h _=>h,sE,sE,fun _ _ _ h _=>h,fun _ _ _ h _=>h,fun _ _ _ h _=>h,sE,fun _ _ _ h _=>h,sE,trivial⟩ ?g0 ?gx ?fin
 case g0=>exact⟨fun _=>below_drewN (Below.refl _ w) 1,fun h=>(by cases h),fun h=>(by cases h),fun h=>(by cases h),fun h=>(by cases h),fun h=>(by cases h)⟩
 case gx=>exact fun D D' ys W h ⟨g1,g2,g3,g4,g5,g6⟩=>⟨fun q=>g1 ((h 9 (by decide)).trans q),fun q q2=>g2 ((h 2 (by decide)).trans q) ((h 5 (by decide)).trans q2),fun q q2=>g3 ((h 5 (by decide)).trans q) ((h 6 (by decide)).trans q2),fun q q2=>g4 ((h 6 (by decide)).trans q) ((h 9 (by decide)).trans q2),fun q q2=>g5 ((h 7 (by decide)).trans q) ((h 9 (by decide)).trans q2),fun q=>g6 ((h 9 (by decide)).trans q)⟩
 case fin=>
  intro ys W hG hp;try dsimp only
  rw[(hp 0 (by decide):ys 0=_),(hp 1 (by decide):ys 1=_),(hp 3 (by decide):ys 3=_),(hp 4 (by decide):ys 4=_),(hp 8 (by decide):ys 8=_),(hp 10 (by decide):ys 10=_)];exact hfin (ys 2) (ys 5) (ys 6) (ys 7) (ys 9) W hG (hp 2 (by decide)) (hp 5 (by decide)) (hp 6 (by decide)) (hp 7 (by decide)) (hp 9 (by decide))
end Go.Proofs.YtcnedkkcgdkioaaGreat

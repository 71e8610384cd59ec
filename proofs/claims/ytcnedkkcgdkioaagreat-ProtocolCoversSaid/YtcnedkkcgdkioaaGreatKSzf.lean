/- Texts of this claim, put together: SS LSa PN PO0 PO. -/
import Derived.Test.YtcnedkkcgdkioaaGreatKSze

set_option maxRecDepth 100000
set_option maxHeartbeats 12800000
namespace Go.Proofs.YtcnedkkcgdkioaaGreat
open Go.RowKit
theorem keep3c {W W1:World}{b o:Nat}{v0 v1 v2:Value}(hb:Below W.heap.size W W1) (h:W.cell? ⟨b,o,none⟩=some v0/\W.cell? ⟨b,o+1,none⟩=some v1/\W.cell? ⟨b,o+2,none⟩=some v2):W1.cell? ⟨b,o,none⟩=some v0/\W1.cell? ⟨b,o+1,none⟩=some v1/\W1.cell? ⟨b,o+2,none⟩=some v2:=
 ⟨cell_kept hb h.1,cell_kept hb h.2.1,cell_kept hb h.2.2⟩
def mskX (n:Int) (x:Ex):Int:=bits BinOp.andNot IntKind.i64 (fullI n) (fltX x)
theorem refRightC {w:World}{v:Value}{n i o an r:Int}{cs:List Cs}{ss:Jc}(h:PrV w v n i o cs an ss r) :
  Calls Tryz.prog 27 #[v] w fun e w'=>e = .returned (.bool (fewP n i o cs an ss r && decide (bldE n i o cs an ss r=0)))/\Below w.heap.size w w':=by
 have HF:=qH (fun W (hb:Below w.heap.size w W)=>refFewP (h.keep hb));have HB:=qH (fun W (hb:Below w.heap.size w W) (hf:fewP n i o cs an ss r=true)=>refBuildAll (h.keep hb) hf);obtain⟨a,c,a',c',rfl,-,-⟩:=h;obtain⟨W1,hW1⟩:=exF (w.alloc (.cells #[.int .i64 n,.int .i64 i,.int .i64 o,.slice a cs.length c,.int .i64 an,.slice a' ss.length c',.int .i64 r] 29));have hb1:Below w.heap.size w W1:=by rw[hW1];exact(Below.refl _ w).alloc (Nat.le_refl _) _
 have kT:W1.heap[w.heap.size]? = some (.cells #[.int .i64 n,.int .i64 i,.int .i64 o,.slice a cs.length c,.int .i64 an,.slice a' ss.length c',.int .i64 r] 29):=by rw[hW1];exact heap_alloc_new _ _
 have HK:=qH (fun W (hb:Below W1.heap.size W1 W)=>keep7 hb (box7' kT));obtain⟨g0,g1,g2,g3,g4,g5,g6⟩:=HK.out W1 (Below.refl _ _);rw[hW1] at g0 g1 g2 g3 g4 g5 g6;obtain⟨P,hP⟩:=exE (fewP n i o cs an ss r);simp only[hP] at HF HB;rw[hP];obtain⟨E,hE⟩:=exE (bldE n i o cs an ss r);rw[hE];replace hE:=qH hE;obtain⟨B,hB⟩:∃B,decide (E=0)=B:=⟨_,rfl⟩;rw[hB];replace hB:=qH hB;clear kT hP;go_enter Tryz.func27, Tryz.ntmps27
 go_wp2_with fail
 rw[<-hW1];replace hW1:=qH hW1;refine(HF.out W1 hb1).mono ?_;rintro e w2 ⟨rfl,hb2⟩;clear g0 g1 g2 g3 g4 g5 g6;cases P
 ·have hbf:=btt hb1 hb2;go_wp2_with fail
  go_ret;exact⟨rfl,hbf⟩
 ·obtain⟨g0,g1,g2,g3,g4,g5,g6⟩:=HK.out w2 hb2;have hb12:=btt hb1 hb2;have HC:=qH (HB.out w2 hb12 rfl);go_wp2_with fail
  refine HC.out.mono ?_;rintro e w3 ⟨hO,hb3⟩;have hb13:=btt hb12 hb3;clear g0 g1 g2 g3 g4 g5 g6;rcases hO with⟨hne,rfl⟩|⟨he,v',rfl,x1,x2,x3,x4,x5,x6,x7,x8,rfl,-⟩
  ·rw[hE.out] at hne;rw[hE.out];have hBf:Hid (B=false):=hB.out.symm.trans (decide_eq_false hne);have hz:(E == 0)=false:=(by simpa using hne);have hbf:Below w.heap.size w (w3.alloc (.cells #[.int .i64 0,.int .i64 0,.int .i64 0,.slice none 0 0,.int .i64 0,.slice none 0 0,.int .i64 0,.int .i64 0,.slice none 0 0,.slice none 0 0] 35)):=hb13.alloc hb13.size _;unfold zSysV;replace hne:=qH hne;go_wp2_with fail
   go_ret;exact⟨by rw[hBf.out];rfl,hbf⟩
  ·rw[hE.out] at he;subst he;have hBt:Hid (B=true):=hB.out.symm;go_wp2_with fail
   go_ret;exact⟨by rw[hBt.out];rfl,hb13.alloc hb13.size _⟩
theorem obligedC {w:World}{v u1 u2:Value}{n i o an r tn:Int}{cs:List Cs}{ss:Jc}{vs:Jb}{xs:List Ex}{x:Ex}(h:SysV w v n i o cs an ss r tn vs xs) (k1:KS 7 w u1 x.2.1) (k2:Intss w u2 x.2.2) (ht1:1<=tn) (ht5:tn<=5) (hw:x.2.1.length<=10) :
  Calls Tryz.prog 78 #[v,.agg #[.int .i64 x.1,u1,u2]] w fun e w'=>e = .returned (.int .i64 (mskX tn x))/\Below w.heap.size w w':=by
 obtain⟨a,c,a',c',va,vc,xa,xc,rfl,-,-,-⟩:=h;obtain⟨cx,wd,vss⟩:=x;simp only at k1 k2 hw|-
 obtain⟨wa,wc,rfl⟩:=k1.shape;obtain⟨ya,yc,rfl⟩:=k2.shape;obtain⟨W1,hW1⟩:=exF ((w.alloc (.cells #[.int .i64 n,.int .i64 i,.int .i64 o,.slice a cs.length c,.int .i64 an,.slice a' ss.length c',.int .i64 r,.int .i64 tn,.slice va vs.length vc,.slice xa xs.length xc] 35)).alloc (.cells #[.int .i64 cx,.slice wa wd.length wc,.slice ya vss.length yc] 80));have hb1:Below w.heap.size w W1:=by rw[hW1];exact((Below.refl _ w).alloc (Nat.le_refl _) _).alloc (by simp) _
 have hX:Hid (mskX tn (cx,wd,vss)=bits BinOp.andNot IntKind.i64 (fullI tn) (fltX (cx,wd,vss))):=rfl;obtain⟨M,hM⟩:=exE (mskX tn (cx,wd,vss));rw[hM] at hX|-;replace hM:=qH hM;rcases Nat.eq_zero_or_pos wd.length with hz|hz
 ·have hF0:fltX (cx,wd,vss)=0:=by unfold fltX;rw[if_pos hz]
  have hX0:=hX.out;rw[hF0,show bits BinOp.andNot IntKind.i64 (fullI tn) 0=fullI tn by rcases powN tn ht1 ht5 with rfl|rfl|rfl|rfl|rfl<;>decide] at hX0;obtain rfl:wd = []:=List.eq_nil_of_length_eq_zero hz;clear hF0 hX k1 k2 hz hw;rcases powN tn ht1 ht5 with rfl|rfl|rfl|rfl|rfl
  all_goals
   have hMf:=qH hX0;rw[hW1] at hb1;simp only[List.length_nil] at hb1;clear hX0 hW1;go_enter Tryz.func78, Tryz.ntmps78
   go_wp2_with fail
   go_ret;exact⟨ret_int (by rw[hMf.out];rfl),hb1⟩
 ·obtain⟨m,hm⟩:∃m,wd.length=m+1:=⟨wd.length - 1,by omega⟩;obtain⟨wb,wo,rfl,hwc⟩:=k1.at7 hz;obtain⟨f7,fc⟩:=hwc m (by omega)
  have hFm:(wd.getD m []).getD 6 0=fltX (cx,wd,vss):=by
   unfold fltX;rw[if_neg (show ¬wd.length=0 by omega)];show _=(wd.getD (wd.length - 1) []).getD 6 0;rw[hm,Nat.add_sub_cancel]
  have fc6:=fc 6 (by omega);rw[hFm] at fc6;replace fc6:=cell_kept hb1 fc6;obtain⟨F,hF⟩:=exE (fltX (cx,wd,vss));rw[hF] at fc6 hX;rw[hW1] at fc6;have hmw:IntKind.i64.wrap ((wd.length:Int) - 1)=(m:Int):=by rw[IntWalk.i64_in _ (by omega)];omega
  have hm1:(m:Int) < (wd.length:Int):=by omega
  have hd:decide ((0:Int) < (wd.length:Int))=true:=decide_eq_true (by omega);replace hm:=qH hm;clear fc f7 hFm hF hwc k1 k2 hz hw;rcases powN tn ht1 ht5 with rfl|rfl|rfl|rfl|rfl
  all_goals
   go_enter Tryz.func78, Tryz.ntmps78
   go_wp2_with fail
   go_ret;exact⟨ret_int (by rw[hX.out];rfl),by rw[<-hW1];exact hb1⟩
theorem execObliged {w:World}{v:Value}{n i o an r tn:Int}{j:Nat}{cs:List Cs}{ss:Jc}{vs:Jb}{xs:List Ex}(h:SysV w v n i o cs an ss r tn vs xs) (hfew:fewP n i o cs an ss r=true) (hz:verE n i o cs an ss r tn vs xs=0) (hj:j < xs.length) :
  Calls Tryz.prog 29 #[v,.int .i64 (j:Int)] w fun e w'=>e = .returned (.tuple #[.int .i64 (mskX n (xs.getD j exNil)),.int .i64 0])/\Below w.heap.size w w':=by
 have hmx : Tryz.prog.follows .mixedOrders=true:=by kernel_rfl
 have HV:=qH (fun W (hb:Below w.heap.size w W)=>verifyC (h.keep hb) hfew);rw[hz] at HV;obtain⟨rfl,hn,-,-,hG⟩:=sysG_ver h hfew hz;have hh:=qH h;obtain⟨a,c,a',c',va,vc,xa,xc,rfl,-,-,hX⟩:=h;obtain⟨xb,xo,rfl,hC⟩:=hX.at (by omega);obtain⟨u1,u2,q0,q1,q2,k1,k2⟩:=hC j hj;have hxg:=hG.ex (xs.getD j exNil) (by rw[getD_eq hj];exact List.getElem_mem hj);have hn1:=hG.n1;have hn5:=hG.n5;obtain⟨x,hx⟩:=exE (xs.getD j exNil);rw[hx] at q0 k1 k2 hxg|-;have HO:=qH (fun W (hb:Below w.heap.size w W)=>obligedC (hh.out.keep hb) (k1.keep hb) (k2.keep hb) (by omega) (by omega) hxg.wd);obtain⟨M,hM⟩:=exE (mskX tn x);simp only[hM] at HO;rw[hM];obtain⟨W1,hW1⟩:=exF (w.alloc (.cells #[.int .i64 tn,.int .i64 i,.int .i64 o,.slice a cs.length c,.int .i64 an,.slice a' ss.length c',.int .i64 r,.int .i64 tn,.slice va vs.length vc,.slice (some ⟨xb,xo,none⟩) xs.length xc] 35));have hb1:Below w.heap.size w W1:=by rw[hW1];exact(Below.refl _ w).alloc (Nat.le_refl _) _
 have kS:W1.heap[w.heap.size]? = some (.cells #[.int .i64 tn,.int .i64 i,.int .i64 o,.slice a cs.length c,.int .i64 an,.slice a' ss.length c',.int .i64 r,.int .i64 tn,.slice va vs.length vc,.slice (some ⟨xb,xo,none⟩) xs.length xc] 35):=by rw[hW1];exact heap_alloc_new _ _
 obtain⟨wa,wc,rfl⟩:=k1.shape;obtain⟨ya,yc,rfl⟩:=k2.shape;have HK:=qH (fun W (hb:Below W1.heap.size W1 W)=>And.intro (And.intro (keep7 hb (box10' kS).1) (keep3' hb (box10' kS).2)) (keep3c (btt hb1 hb) ⟨q0,q1,q2⟩));obtain⟨⟨⟨p0,p1,p2,p3,p4,p5,p6⟩,p7,p8,p9⟩,-⟩:=HK.out W1 (Below.refl _ _);rw[hW1] at p0 p1 p2 p3 p4 p5 p6 p7 p8 p9;have d1:(j:Int) < (xs.length:Int):=by omega
 have d0:decide ((j:Int) < 0)=false:=decide_eq_false (by omega);have d2:decide ((xs.length:Int)<=(j:Int))=false:=decide_eq_false (by omega);clear kS hX hC q0 q1 q2 k1 k2 hx hM hG hxg hn1 hn5 hn hz;go_enter Tryz.func29, Tryz.ntmps29
 go_wp2_with fail
 rw[<-hW1];replace hW1:=qH hW1;refine(HV.out W1 hb1).mono ?_;rintro e w2 ⟨rfl,hb2⟩;clear p0 p1 p2 p3 p4 p5 p6 p7 p8 p9;obtain⟨⟨⟨p0,p1,p2,p3,p4,p5,p6⟩,p7,p8,p9⟩,-⟩:=HK.out w2 hb2;go_wp2_with fail
 clear p0 p1 p2 p3 p4 p5 p6 p7 p8 p9;refine wp_region_bw hmx (by kernel_rfl) ?_
 repeat (refine WQ.step fun K hK=>?_;go_simp;first|(refine hK _ ?_;clear hK K)|(apply Exists.intro;refine⟨fun wq hC=>?_,hK _ ?_⟩;(·(first|with_reducible rfl|(obtain⟨⟨⟨p0,p1,p2,p3,p4,p5,p6⟩,p7,p8,p9⟩,y0,y1,y2⟩:=HK.out wq (btt hb2 hC);go_simp;first|done|with_reducible rfl|with_reducible exact⟨rfl,rfl⟩)));clear hK K))
 (refine WQ.step fun K hK=>?_;go_simp;first|(refine hK _ ?_;clear hK K)|(apply Exists.intro;refine⟨fun wq hC=>?_,hK _ ?_⟩;(·(refine(HO.out wq (btt hb1 (btt hb2 hC))).mono ?_;rintro e w' ⟨rfl,hb'⟩;exact⟨rfl,btt hC hb'⟩));clear hK K))
 repeat (refine WQ.step fun K hK=>?_;go_simp;first|(refine hK _ ?_;clear hK K)|(apply Exists.intro;refine⟨fun wq hC=>?_,hK _ ?_⟩;(·(first|with_reducible rfl|(go_simp;first|done|with_reducible rfl|with_reducible exact⟨rfl,rfl⟩)));clear hK K))
 refine WQ.nil ?_;intro w3 hb3;have hbf:=btt hb1 (btt hb2 hb3);go_wp2_with fail
 go_ret2
 exact⟨rfl,hbf⟩
def inpV (vs:Jb):Nat->Nat->Int
 | 0,j=>(vs.getD j []).getD 2 0
 | k+1,j=>inpV vs k ((vs.getD j []).getD (3+((vs.getD j []).getD 0 0).toNat) 0).toNat
def inpJ (vs:Jb) (j:Nat):Int:=inpV vs ((vs.getD j []).getD 1 0).toNat j
theorem inpJ_zero {vs:Jb}{j:Nat}(h:(vs.getD j []).getD 1 0=0):inpJ vs j=(vs.getD j []).getD 2 0:=by
 unfold inpJ;rw[h];rfl
theorem inpJ_succ {n:Nat}{vs:Jb}(hT:TabOK n vs) {j:Nat}(hj:j < vs.length) (h:(vs.getD j []).getD 1 0 ≠ 0) :
  ∃j':Nat,(vs.getD j []).getD (3+((vs.getD j []).getD 0 0).toNat) 0=(j':Int)/\j' < vs.length/\inpJ vs j=inpJ vs j'/\(vs.getD j' []).getD 1 0=(vs.getD j []).getD 1 0 - 1:=by
 obtain⟨_,_,k,hk,hs⟩:=hT (vs.getD j []) (by rw[getD_eq hj];exact List.getElem_mem hj);obtain⟨j',h1,h2,_,h4⟩:=hs (by omega);refine⟨j',h1,h2,?_,by omega⟩;unfold inpJ;obtain⟨m,rfl⟩:∃m,k=m+1:=⟨k - 1,by omega⟩;rw[hk,h4,Int.toNat_natCast,Int.toNat_natCast,inpV,h1,Int.toNat_natCast];rfl
def pjRd (b1 b2 vc:Nat) (va:Option Addr) (vs:Jb) (W:World):Prop:=
 W.cell? ⟨b1,8,none⟩=some (.slice va vs.length vc)/\W.cell? ⟨b2,0,none⟩=some (.func (.func 55) #[] #[.pointer (some ⟨b1,0,none⟩),.pointer (some ⟨b2,0,none⟩)])/\KS 8 W (.slice va vs.length vc) vs
theorem pjRd.keep {b1 b2 vc:Nat}{va:Option Addr}{vs:Jb}{W W':World}(h:pjRd b1 b2 vc va vs W) (hb:Below W.heap.size W W'):pjRd b1 b2 vc va vs W':=
 ⟨cell_kept hb h.1,cell_kept hb h.2.1,h.2.2.keep hb⟩
theorem projIn {b1 b2 vc n:Nat}{va:Option Addr}{vs:Jb}(hT:TabOK n vs) (hn:n<=5) (hvl:vs.length<=100000):∀(k j:Nat) (W:World),j < vs.length->(vs.getD j []).getD 1 0=(k:Int)->pjRd b1 b2 vc va vs W->
  Calls Tryz.prog 55 #[.int .i64 (j:Int),.pointer (some ⟨b1,0,none⟩),.pointer (some ⟨b2,0,none⟩)] W fun e w'=>e = .returned (.int .i64 (inpJ vs j))/\Below W.heap.size W w':=by
 have hmx : Tryz.prog.follows .mixedOrders=true:=by kernel_rfl
 intro k;induction k with
 | zero=>
  intro j W hj hk hrd;have hz:inpJ vs j=(vs.getD j []).getD 2 0:=inpJ_zero hk;rw[hz];obtain⟨r0,r1,va',vc',vb,vo,he,hva,hvc,-⟩:=hrd;injection he with e1 e2 e3;subst e1 e3;obtain rfl:=hva (by omega);obtain⟨x8,xi⟩:=hvc j hj;obtain⟨x,hx⟩:=exE (vs.getD j []);rw[hx] at x8 xi hk|-;obtain⟨x0,x1,x2,x3,x4,x5,x6,x7,rfl⟩:=eight x8;have hk:x1=0:=hk;subst hk;obtain⟨c0,c1,c2,c3,c4,c5,c6,c7⟩:=xi.all8;obtain⟨W1,hW1⟩:=exF (W.alloc (.cells #[.int .i64 x0,.int .i64 0,.int .i64 x2,.int .i64 x3,.int .i64 x4,.int .i64 x5,.int .i64 x6,.int .i64 x7] 114));have hb1:Below W.heap.size W W1:=by rw[hW1];exact(Below.refl _ W).alloc (Nat.le_refl _) _
  have kV:W1.heap[W.heap.size]? = some (.cells #[.int .i64 x0,.int .i64 0,.int .i64 x2,.int .i64 x3,.int .i64 x4,.int .i64 x5,.int .i64 x6,.int .i64 x7] 114):=by rw[hW1];exact heap_alloc_new _ _
  obtain⟨z0,z1,z2,z3,z4,z5,z6,z7⟩:=box8' kV;have hji:(j:Int) < (vs.length:Int):=by omega
  clear hvc x8 xi kV hx hz;go_enter Tryz.func55, Tryz.ntmps55
  go_upto_region 2 with fail
  rw[<-hW1];replace hW1:=qH hW1;go_wp2;go_ret;exact⟨rfl,hb1⟩
 | succ k ih=>
  intro j W hj hk hrd;have ihh:=qH ih;clear ih;obtain⟨j',hj1,hj2,hj3,hj4⟩:=inpJ_succ hT hj (by omega);obtain⟨p,hp1,hp2⟩:∃p:Nat,(vs.getD j []).getD 0 0=(p:Int)/\p < n:=(hT (vs.getD j []) (by rw[getD_eq hj];exact List.getElem_mem hj)).2.1;rw[hj3];have hrdh:=qH (fun W' (hb:Below W.heap.size W W')=>hrd.keep hb);obtain⟨r0,r1,va',vc',vb,vo,he,hva,hvc,-⟩:=hrd;injection he with e1 e2 e3;subst e1 e3;obtain rfl:=hva (by omega);obtain⟨x8,xi⟩:=hvc j hj;rw[hp1,Int.toNat_natCast] at hj1;have hk1:=hk;rw[hk] at hj4;obtain⟨x,hx⟩:=exE (vs.getD j []);rw[hx] at x8 xi hk1 hj1 hp1;obtain⟨x0,x1,x2,x3,x4,x5,x6,x7,rfl⟩:=eight x8;replace hp1:x0=(p:Int):=hp1;replace hk1:x1=((k+1:Nat):Int):=hk1;have hm0:(x1 == 0)=false:=beq_eq_false_iff_ne.2 (by omega);subst hp1;replace hk1:=qH hk1;have IH:=qH (fun W' (hb:Below W.heap.size W W')=>ihh.out j' W' hj2 (by omega) (hrdh.out W' hb));obtain⟨c0,c1,c2,c3,c4,c5,c6,c7⟩:=xi.all8;obtain⟨W1,hW1⟩:=exF (W.alloc (.cells #[.int .i64 (p:Int),.int .i64 x1,.int .i64 x2,.int .i64 x3,.int .i64 x4,.int .i64 x5,.int .i64 x6,.int .i64 x7] 114));have hb1:Below W.heap.size W W1:=by rw[hW1];exact(Below.refl _ W).alloc (Nat.le_refl _) _
  have kV:W1.heap[W.heap.size]? = some (.cells #[.int .i64 (p:Int),.int .i64 x1,.int .i64 x2,.int .i64 x3,.int .i64 x4,.int .i64 x5,.int .i64 x6,.int .i64 x7] 114):=by rw[hW1];exact heap_alloc_new _ _
  have hown:W1.cell? ⟨W.heap.size,3+p,none⟩=some (.int .i64 (j':Int)):=by
   obtain⟨z0,z1,z2,z3,z4,z5,z6,z7⟩:=box8' kV;have h5:p=0\/p=1\/p=2\/p=3\/p=4:=(by omega);rcases h5 with rfl|rfl|rfl|rfl|rfl
   ·rw[<-hj1];exact z3
   ·rw[<-hj1];exact z4
   ·rw[<-hj1];exact z5
   ·rw[<-hj1];exact z6
   ·rw[<-hj1];exact z7
  have HK:=qH (fun W' (hb:Below W1.heap.size W1 W')=>And.intro (cell_kept hb (box8' kV).1) (And.intro (cell_kept hb hown) (cell_kept hb (cell_kept hb1 r1))));have z1:=(box8' kV).2.1;have hji:(j:Int) < (vs.length:Int):=by omega
  have hp5:(p:Int) < 5:=by omega
  clear hvc x8 xi kV hx hj1 hj4 hk hown;go_enter Tryz.func55, Tryz.ntmps55
  go_upto_region 2 with fail
  rw[<-hW1];replace hW1:=qH hW1;clear c0 c1 c2 c3 c4 c5 c6 c7;go_upto_region 4 with fail
  clear z1;refine wp_region_bw hmx (by kernel_rfl) ?_
  repeat (refine WQ.step fun K hK=>?_;go_simp;first|(refine hK _ ?_;clear hK K)|(apply Exists.intro;refine⟨fun wq hC=>?_,hK _ ?_⟩;(·(first|with_reducible rfl|(obtain⟨q0,q1,q2⟩:=HK.out wq hC;go_simp;first|done|with_reducible rfl|with_reducible exact⟨rfl,rfl⟩)));clear hK K))
  (refine WQ.step fun K hK=>?_;go_simp;first|(refine hK _ ?_;clear hK K)|(apply Exists.intro;refine⟨fun wq hC=>?_,hK _ ?_⟩;(·(refine(IH.out wq (btt hb1 hC)).mono ?_;rintro e w' ⟨rfl,hb'⟩;exact⟨rfl,btt hC hb'⟩));clear hK K))
  repeat (refine WQ.step fun K hK=>?_;go_simp;first|(refine hK _ ?_;clear hK K)|(apply Exists.intro;refine⟨fun wq hC=>?_,hK _ ?_⟩;(·(first|with_reducible rfl|(go_simp;first|done|with_reducible rfl|with_reducible exact⟨rfl,rfl⟩)));clear hK K))
  refine WQ.nil ?_;intro w4 hb4;go_wp2;go_ret;exact⟨rfl,btt hb1 hb4⟩
def ApV (u v:Value):Prop:=u.ownBlock=none\/u.ownBlock ≠ v.ownBlock
theorem OwX.keptG {E:TypeId}{k:Nat}{w w':World}{B n:Nat}{v u:Value}{xs:Jb}(h:OwX E k EI w B v n xs) (hg:w.grownBy w' u.ownBlock) (ha:ApV v u):OwX E k EI w' B v n xs:=by
 obtain⟨vs,h1,h2,h3,h4⟩:=h;exact⟨vs,World.ownsRow.kept h1 hg ha,h2,h3,h4⟩
theorem ApV.new {E:TypeId}{k:Nat}{w:World}{B n:Nat}{v u u':Value}{xs:Jb}(ha:ApV v u) (h:OwX E k EI w B v n xs) (hn:NewAt w u u'):ApV v u':=by
 rcases ha with ha|ha
 ·exact .inl ha
 ·rcases hn with hn|hn
  ·exact .inr (by rw[hn];exact ha)
  ·by_cases hv:v.ownBlock=none
   ·exact .inl hv
   ·refine .inr fun e=>?_;rw[hn] at e;obtain⟨vs,h1,_⟩:=h;have:=(World.ownsRow.lt h1 _ e).2
    omega
def opsPjo14:List Oper:=[⟨some 42,.fieldAddr 40 (.tmp 8) 1,0,"protocol.go:101",#[],none⟩,⟨some 43,.load 38 (.tmp 42),38,"protocol.go:101",#[⟨0,.data⟩],none⟩,⟨some 44,.fieldAddr 83 (.tmp 10) 0,0,"protocol.go:101",#[],none⟩,⟨some 45,.load 3 (.tmp 44),3,"protocol.go:101",#[⟨2,.data⟩],none⟩,⟨some 46,.load 111 (.tmp 7),111,"protocol.go:101",#[],none⟩,⟨some 47,.fieldAddr 83 (.tmp 10) 1,0,"protocol.go:101",#[],none⟩,⟨some 48,.load 3 (.tmp 47),3,"protocol.go:101",#[⟨5,.data⟩],none⟩,⟨some 49,.call { callee:=.value (.tmp 46),args:=#[.tmp 48],argTypes:=#[3] },3,"protocol.go:101",#[⟨4,.data⟩,⟨6,.data⟩],none⟩,⟨some 50,.build 83 #[(0,.tmp 45),(1,.tmp 49)],83,"protocol.go:101",#[⟨3,.data⟩,⟨7,.data⟩],none⟩,⟨some 51,.buildSlice 38 1 #[(0,.tmp 50)],38,"protocol.go:101",#[⟨8,.data⟩],none⟩,⟨some 52,.call { callee:=.builtin .append,args:=#[.tmp 43,.tmp 51],argTypes:=#[38,38] },38,"protocol.go:101",#[⟨1,.data⟩,⟨9,.data⟩,⟨7,.chain⟩],none⟩,⟨some 53,.fieldAddr 40 (.tmp 8) 1,0,"protocol.go:101",#[⟨0,.phase⟩,⟨1,.phase⟩,⟨2,.phase⟩,⟨3,.phase⟩,⟨4,.phase⟩,⟨5,.phase⟩,⟨6,.phase⟩,⟨7,.phase⟩,⟨8,.phase⟩,⟨9,.phase⟩,⟨10,.phase⟩],none⟩,⟨none,.store 38 (.tmp 53) (.tmp 52),0,"protocol.go:101",#[⟨11,.data⟩,⟨10,.data⟩,⟨10,.chain⟩,⟨0,.phase⟩,⟨1,.phase⟩,⟨2,.phase⟩,⟨3,.phase⟩,⟨4,.phase⟩,⟨5,.phase⟩,⟨6,.phase⟩,⟨7,.phase⟩,⟨8,.phase⟩,⟨9,.phase⟩,⟨10,.phase⟩],none⟩]
theorem regPj14 {w:World}{x0 x1 x2 x3 x4 x5 x6 x9 x11 x12 x13 x14 x15 x16 x17 x18 x19 x20 x21 x22 x23 x24 x25 x26 x27 x28 x29 x30 x31 x32 x33 x34 x35 x36 x37 x38 x39 x40 x41 x42 x43 x44 x45 x46 x47 x48 x49 x50 x51 x52 x53 x54 x55:Value}{Q:Exit->Act->World->Prop}{b1 b7 b8 b10 B i m fc tc:Nat}{fa ta:Option Addr}{fs ts:Jb}{cl lb ip:Int}
  (k8:w.heap[b8]? = some (.cells #[.slice fa m fc,.slice ta i tc] 40)) (k10:w.heap[b10]? = some (.cells #[.int .i64 cl,.int .i64 lb] 83)) (hT:OwX 83 2 EI w B (.slice ta i tc) i ts) (hF:OwX 83 2 EI w B (.slice fa m fc) m fs) (hap:ApV (.slice fa m fc) (.slice ta i tc))
  (hfn:∀W,Below B w W->W.cell? ⟨b7,0,none⟩=some (.func (.func 55) #[] #[.pointer (some ⟨b1,0,none⟩),.pointer (some ⟨b7,0,none⟩)])) (hcall:∀W,Below B w W->Calls Tryz.prog 55 #[.int .i64 lb,.pointer (some ⟨b1,0,none⟩),.pointer (some ⟨b7,0,none⟩)] W fun e w'=>e = .returned (.int .i64 ip)/\Below W.heap.size W w') (hi:i<=100000) (hBb:B<=b8)
  (hfin:∀(y9 y10 _y12:Value) (W:World),(Below B w W/\((fun i=>decide (i < 13)) 12=false->W.heap[b8]? = some (.cells #[.slice fa m fc,.slice ta i tc] 40))/\((fun i=>decide (i < 13)) 10=false->W.heap[b10]? = some (.cells #[.int .i64 cl,.int .i64 lb] 83)/\OwX 83 2 EI W B (.slice ta i tc) i ts/\OwX 83 2 EI W B (.slice fa m fc) m fs)/\((fun i=>decide (i < 13)) 9=true->(fun i=>decide (i < 13)) 10=false->∃g,y9 = .slice (some ⟨g,0,none⟩) 1 1/\W.heap[g]? = some (.cells #[.int .i64 cl,.int .i64 ip] 83))/\((fun i=>decide (i < 13)) 10=true->(∃a c,y10 = .slice a (i+1) c)/\OwX 83 2 EI W B y10 (i+1) (ts ++ [[cl,ip]])/\OwX 83 2 EI W B (.slice fa m fc) m fs/\ApV (.slice fa m fc) y10)/\((fun i=>decide (i < 13)) 12=true->W.heap[b8]? = some (.cells #[.slice fa m fc,y10] 40))/\w.heap.size<=W.heap.size)->(True)->(True)->(True)->Q .normal ⟨#[x0,x1,x2,x3,x4,x5,x6,.pointer (some ⟨b7,0,none⟩),.pointer (some ⟨b8,0,none⟩),x9,.pointer (some ⟨b10,0,none⟩),x11,x12,x13,x14,x15,x16,x17,x18,x19,x20,x21,x22,x23,x24,x25,x26,x27,x28,x29,x30,x31,x32,x33,x34,x35,x36,x37,x38,x39,x40,x41,.pointer (some ⟨b8,1,none⟩),.slice ta i tc,.pointer (some ⟨b10,0,none⟩),.int .i64 cl,.func (.func 55) #[] #[.pointer (some ⟨b1,0,none⟩),.pointer (some ⟨b7,0,none⟩)],.pointer (some ⟨b10,1,none⟩),.int .i64 lb,.int .i64 ip,.agg #[.int .i64 cl,.int .i64 ip],y9,y10,.pointer (some ⟨b8,1,none⟩),x54,x55],[]⟩ W) :
  (Code.region 14 opsPjo14.toArray true).wp Tryz.prog Q ⟨#[x0,x1,x2,x3,x4,x5,x6,.pointer (some ⟨b7,0,none⟩),.pointer (some ⟨b8,0,none⟩),x9,.pointer (some ⟨b10,0,none⟩),x11,x12,x13,x14,x15,x16,x17,x18,x19,x20,x21,x22,x23,x24,x25,x26,x27,x28,x29,x30,x31,x32,x33,x34,x35,x36,x37,x38,x39,x40,x41,x42,x43,x44,x45,x46,x47,x48,x49,x50,x51,x52,x53,x54,x55],[]⟩ w:=by
 have hBs:B<=w.heap.size:=by have:=(Array.getElem?_eq_some_iff.1 k8).1;omega
 refine wp_region_sg (l:=opsPjo14) (F:=(fun ys=>⟨#[x0,x1,x2,x3,x4,x5,x6,.pointer (some ⟨b7,0,none⟩),.pointer (some ⟨b8,0,none⟩),x9,.pointer (some ⟨b10,0,none⟩),x11,x12,x13,x14,x15,x16,x17,x18,x19,x20,x21,x22,x23,x24,x25,x26,x27,x28,x29,x30,x31,x32,x33,x34,x35,x36,x37,x38,x39,x40,x41,ys 0,ys 1,ys 2,ys 3,ys 4,ys 5,ys 6,ys 7,ys 8,ys 9,ys 10,ys 11,x54,x55],[]⟩)) (Φ:=[eqV (.pointer (some ⟨b8,1,none⟩)),eqV (.slice ta i tc),eqV (.pointer (some ⟨b10,0,none⟩)),eqV (.int .i64 cl),eqV (.func (.func 55) #[] #[.pointer (some ⟨b1,0,none⟩),.pointer (some ⟨b7,0,none⟩)]),eqV (.pointer (some ⟨b10,1,none⟩)),eqV (.int .i64 lb),eqV (.int .i64 ip),eqV (.agg #[.int .i64 cl,.int .i64 ip]),anyV,anyV,eqV (.pointer (some ⟨b8,1,none⟩)),anyV]) (R:=(fun _ _=>True)) (G:=(fun D ys W=>Below B w W/\(D 12=false->W.heap[b8]? = some (.cells #[.slice fa m fc,.slice ta i tc] 40))/\(D 10=false->W.heap[b10]? = some (.cells #[.int .i64 cl,.int .i64 lb] 83)/\OwX 83 2 EI W B (.slice ta i tc) i ts/\OwX 83 2 EI W B (.slice fa m fc) m fs)/\(D 9=true->D 10=false->∃g,(ys 9) = .slice (some ⟨g,0,none⟩) 1 1/\W.heap[g]? = some (.cells #[.int .i64 cl,.int .i64 ip] 83))/\(D 10=true->(∃a c,(ys 10) = .slice a (i+1) c)/\OwX 83 2 EI W B (ys 10) (i+1) (ts ++ [[cl,ip]])/\OwX 83 2 EI W B (.slice fa m fc) m fs/\ApV (.slice fa m fc) (ys 10))/\(D 12=true->W.heap[b8]? = some (.cells #[.slice fa m fc,(ys 10)] 40))/\w.heap.size<=W.heap.size)) ⟨?s0,?s1,?s2,?s3,?s4,?s5,?s6,?s7,?s8,?s9,?s10,?s11,?s12,trivial⟩ (fun i=>([x42,x43,x44,x45,x46,x47,x48,x49,x50,x51,x52,x53,undef]:List Value).getD i undef) (by kernel_rfl) (by kernel_rfl) ⟨sE,sE,sE,sE,sE,sE,sE,sE,sE,fun _ _ _ h _=>h,fun _ _ _ h _=>h,sE,fun _ _ _ h _=>h,trivial⟩ ?g0 ?gx ?fin
 case s0|s2|s5|s11=>
  refine .q0 (wantU rfl) (fun _=>trivial) (fun _ _ _ h=>h) (fun _=>rfl) fun ys W K hK=>?_;go_simp;exact hK
 case s1=>
  refine StepG.mk rfl (openY 0 fun y0=>openY 9 fun y9=>openY 10 fun y10=>fun ys D W K hD hcl hd hG hK=>?_);obtain rfl:=(hd.get 0 rfl).2;dsimp [updG] at hG|-
  have d12:=hcl.no (j:=12) (i:=1) rfl (by kernel_rfl) hD;obtain⟨g1,g2,g3,g5,g6,g7,g8⟩:=hG;have z0:=cell_of_row _ _ 1 _ _ _ (g2 d12);go_simp;exact hK _ _ trivial ⟨g1,g2,g3,g5,g6,g7,g8⟩ rfl
 case s3=>
  refine StepG.mk rfl (openY 2 fun y2=>openY 9 fun y9=>openY 10 fun y10=>fun ys D W K hD hcl hd hG hK=>?_);obtain rfl:=(hd.get 2 rfl).2;dsimp [updG] at hG|-
  have d8:=hcl.no (j:=8) (i:=3) rfl (by kernel_rfl) hD;have d9:=hcl.no (j:=9) (i:=8) rfl (by kernel_rfl) d8;have d10:=hcl.no (j:=10) (i:=9) rfl (by kernel_rfl) d9;obtain⟨g1,g2,g3,g5,g6,g7,g8⟩:=hG;have z0:=(boxL2 (g3 d10).1).1;go_simp;exact hK _ _ trivial ⟨g1,g2,g3,g5,g6,g7,g8⟩ rfl
 case s4=>
  refine StepG.mk rfl (openY 9 fun y9=>openY 10 fun y10=>fun ys D W K _ _ _ hG hK=>?_);dsimp [updG] at hG|-
  obtain⟨g1,g2,g3,g5,g6,g7,g8⟩:=hG;have z0:=(hfn W g1);go_simp;exact hK _ _ trivial ⟨g1,g2,g3,g5,g6,g7,g8⟩ rfl
 case s6=>
  refine StepG.mk rfl (openY 5 fun y5=>openY 9 fun y9=>openY 10 fun y10=>fun ys D W K hD hcl hd hG hK=>?_);obtain rfl:=(hd.get 5 rfl).2;dsimp [updG] at hG|-
  have d7:=hcl.no (j:=7) (i:=6) rfl (by kernel_rfl) hD;have d10:=hcl.no (j:=10) (i:=7) rfl (by kernel_rfl) d7;obtain⟨g1,g2,g3,g5,g6,g7,g8⟩:=hG;have z0:=(boxL2 (g3 d10).1).2;go_simp;exact hK _ _ trivial ⟨g1,g2,g3,g5,g6,g7,g8⟩ rfl
 case s7=>
  refine StepG.mk rfl (openY 4 fun y4=>openY 6 fun y6=>openY 9 fun y9=>openY 10 fun y10=>fun ys D W K hD hcl hd hG hK=>?_);obtain rfl:=(hd.get 4 rfl).2;obtain rfl:=(hd.get 6 rfl).2;dsimp [updG] at hG|-
  have d8:=hcl.no (j:=8) (i:=7) rfl (by kernel_rfl) hD;have d9:=hcl.no (j:=9) (i:=8) rfl (by kernel_rfl) d8;have d10:=hcl.no (j:=10) (i:=7) rfl (by kernel_rfl) hD;have d12:=hcl.no (j:=12) (i:=7) rfl (by kernel_rfl) hD;obtain⟨g1,g2,g3,g5,g6,g7,g8⟩:=hG;go_simp;refine(hcall W g1).mono ?_;rintro e W9 ⟨rfl,hb9⟩;exact hK _ _ trivial ⟨g1.trans (hb9.mono (Nat.le_trans hBs g8)),fun _=>keptO hb9 (g2 d12),fun _=>⟨keptO hb9 (g3 d10).1,(g3 d10).2.1.keep (EI.stab _) hb9,(g3 d10).2.2.keep (EI.stab _) hb9⟩,fun h=>(by rw[show addG D 7 9=D 9 from rfl,d9] at h;cases h),fun h=>(by rw[show addG D 7 10=D 10 from rfl,d10] at h;cases h),fun h=>(by rw[show addG D 7 12=D 12 from rfl,d12] at h;cases h),Nat.le_trans g8 hb9.size⟩ rfl
 case s8=>
  refine .q2 (wantU rfl) (fun _=>trivial) (fun _ _ _ h=>h) (fun _=>rfl) rfl (fun _ _ h=>h) (fun _ _ h=>h) fun ys W K hK=>?_;dsimp [updG]
  go_simp;exact hK
 case s9=>
  refine StepG.mk rfl (openY 8 fun y8=>openY 9 fun y9=>openY 10 fun y10=>fun ys D W K hD hcl hd hG hK=>?_);obtain rfl:=(hd.get 8 rfl).2;dsimp [updG] at hG|-
  have d10:=hcl.no (j:=10) (i:=9) rfl (by kernel_rfl) hD;have d12:=hcl.no (j:=12) (i:=9) rfl (by kernel_rfl) hD;obtain⟨g1,g2,g3,g5,g6,g7,g8⟩:=hG;have ha:Below W.heap.size W (W.alloc (.cells #[.int .i64 cl,.int .i64 ip] 83)):=(Below.refl _ W).alloc (Nat.le_refl _) _;go_simp;exact hK _ _ trivial ⟨g1.trans (ha.mono (Nat.le_trans hBs g8)),fun _=>keptO ha (g2 d12),fun _=>⟨keptO ha (g3 d10).1,(g3 d10).2.1.keep (EI.stab _) ha,(g3 d10).2.2.keep (EI.stab _) ha⟩,fun _ _=>⟨_,rfl,heap_alloc_new W _⟩,fun h=>(by rw[show addG D 9 10=D 10 from rfl,d10] at h;cases h),fun h=>(by rw[show addG D 9 12=D 12 from rfl,d12] at h;cases h),Nat.le_trans g8 ha.size⟩ trivial
 case s10=>
  refine StepG.mk rfl (openY 1 fun y1=>openY 9 fun y9=>openY 10 fun y10=>fun ys D W K hD hcl hd hG hK=>?_);obtain rfl:=(hd.get 1 rfl).2;have d9:=(hd.get 9 rfl).1;dsimp [updG] at hG|-
  have d12:=hcl.no (j:=12) (i:=10) rfl (by kernel_rfl) hD;have d9:=(hd.get 9 rfl).1;obtain⟨g1,g2,g3,g5,g6,g7,g8⟩:=hG;obtain⟨g,e9,hg⟩:=g5 d9 hD;subst e9;obtain⟨-,hT,hF⟩:=g3 hD;refine wp_appX (B:=B) (cs:=[.int .i64 cl,.int .i64 ip]) (x:=[cl,ip]) elemVx (by decide) (by decide) (EI.stab _) _ _ (by rfl) (by rfl) hT ⟨g,0,none⟩ 1 (by rfl) rfl (World.news_of_block hg) (fun u hu=>by rcases List.mem_cons.1 hu with rfl|hu;rfl;rw[List.mem_singleton.1 hu];rfl) rfl (by omega) (Nat.le_trans hBs g8) ?_;intro v9 w9 hO9 hg9 hn9 hb9 hx9;obtain⟨a9,c9,rfl⟩:=hO9.shape;exact hK _ _ trivial ⟨g1.trans hb9,fun _=>(hx9 b8 _ _ (g2 d12) (by decide)).trans (g2 d12),fun h=>(by cases h),fun _ h=>(by cases h),fun _=>⟨⟨_,_,rfl⟩,hO9,hF.keptG hg9 hap,ApV.new hap hF hn9⟩,fun h=>(by rw[show addG D 10 12=D 12 from rfl,d12] at h;cases h),Nat.le_trans g8 hg9.size⟩ trivial
 case s12=>
  refine StepG.mk rfl (openY 11 fun y11=>openY 9 fun y9=>openY 10 fun y10=>fun ys D W K hD _ hd hG hK=>?_);obtain rfl:=(hd.get 11 rfl).2;have d10:=(hd.get 10 rfl).1;dsimp [updG] at hG|-
  have d10:=(hd.get 10 rfl).1;obtain⟨g1,g2,g3,g5,g6,g7,g8⟩:=hG;obtain⟨⟨a9,c9,hy⟩,hO9,hF9,hap9⟩:=g6 d10;subst hy;have k8:=g2 hD;have z0:=cell_of_row _ _ 1 _ _ _ k8;have fz:=row_free k8;have hX:=KeepX.setCell (p:=⟨b8,1,none⟩) k8 (.slice a9 (i+1) c9);go_simp;exact hK undef _ trivial ⟨g1.setCell (p:=⟨b8,1,none⟩) hBb _,fun h=>(by cases h),fun h=>(by rw[show addG D 12 10=D 10 from rfl,d10] at h;cases h),fun _ h=>(by rw[show addG D 12 10=D 10 from rfl,d10] at h;cases h),fun _=>⟨⟨_,_,rfl⟩,hO9.other (EI.stab _) (by decide) hX,hF9.other (EI.stab _) (by decide) hX,hap9⟩,fun _=>heap_setCell_same W b8 1 _ _ _ k8,(by simpa using g8)⟩ trivial
 case g0=>exact⟨(below_drewN (Below.refl _ w) 1).mono hBs,fun _=>k8,fun _=>⟨k10,hT.keep (EI.stab _) (below_drewN (Below.refl _ w) 1),hF.keep (EI.stab _) (below_drewN (Below.refl _ w) 1)⟩,fun h=>(by cases h),fun h=>(by cases h),fun h=>(by cases h),Nat.le_refl _⟩
 case gx=>exact fun D D' ys W h ⟨g1,g2,g3,g5,g6,g7,g8⟩=>⟨g1,fun q=>g2 ((h 12 (by decide)).trans q),fun q=>g3 ((h 10 (by decide)).trans q),fun q q'=>g5 ((h 9 (by decide)).trans q) ((h 10 (by decide)).trans q'),fun q=>g6 ((h 10 (by decide)).trans q),fun q=>g7 ((h 12 (by decide)).trans q),g8⟩
 case fin=>
  intro ys W hG hp;try dsimp only
  rw[(hpE hp 0:ys 0=_),(hpE hp 1:ys 1=_),(hpE hp 2:ys 2=_),(hpE hp 3:ys 3=_),(hpE hp 4:ys 4=_),(hpE hp 5:ys 5=_),(hpE hp 6:ys 6=_),(hpE hp 7:ys 7=_),(hpE hp 8:ys 8=_),(hpE hp 11:ys 11=_)];exact hfin (ys 9) (ys 10) (ys 12) W hG (hpE hp 9) (hpE hp 10) (hpE hp 12)
theorem ptX_sims {N k:Nat}{vs:Jb}{xs:List Ex}{idx:Int}(hG:SysG N k vs xs):∀v∈ptsX (maxX (simsX N k xs idx)),∃c j:Nat,v = [(c:Int),(j:Int)]/\c < N/\j < vs.length/\(vs.getD j []).getD 1 0=(k:Int):=fun v hv=>by
 obtain⟨s,hs,hvs⟩:=ptsX_mem.1 hv;obtain⟨x,hx,rfl⟩:=List.mem_map.1 (maxX_mem.1 hs).1;obtain⟨p,h1,_,rfl⟩:=simN_mem.1 hvs;obtain⟨j,g1,g2,_,g4⟩:=((hG.ok x (List.mem_filter.1 hx).1).rows k (Nat.le_refl _)).2 p h1;exact⟨p,j,by rw[g1],h1,g2,g4⟩
theorem simsX_cxg {N k:Nat}{vs:Jb}{xs:List Ex}{idx:Int}(hG:SysG N k vs xs):CxG (maxX (simsX N k xs idx)):=by
 refine maxX_cxg (fun s hs=>?_) (fun s hs h0=>?_) ?_
 ·obtain⟨x,hx,rfl⟩:=List.mem_map.1 hs;exact simX_vs
 ·obtain⟨x,hx,rfl⟩:=List.mem_map.1 hs;exact simX_sm (hG.ok x (List.mem_filter.1 hx).1) hG.n5 hG.vl h0
 ·unfold simsX;rw[List.length_map];exact Nat.le_trans (List.length_filter_le _ _) (Nat.le_trans hG.xl (by decide))
theorem ptX_len {N k:Nat}{vs:Jb}{xs:List Ex}{idx:Int}(hG:SysG N k vs xs):(ptsX (maxX (simsX N k xs idx))).length<=800:=by
 have hC:=simsX_cxg (idx:=idx) hG
 have h1:(ptsX (maxX (simsX N k xs idx))).length<=(maxX (simsX N k xs idx)).flatten.length:=by
  refine nodup_le ?_ fun v hv=>?_
  ·exact(ptsX_asc _).imp fun {a b} hab e=>by subst e;exact cmpL_asymm _ _ hab hab
  ·obtain⟨s,hs,h⟩:=ptsX_mem.1 hv;exact List.mem_flatten.2 ⟨s,hs,h⟩
 have h2:∀l:Jc,(∀s∈l,s.length<=8)->l.flatten.length<=l.length * 8:=by
  intro l;induction l with
  | nil=>simp
  | cons a r ih=>
   intro h;have:=ih fun s hs=>h s (by simp[hs])
   have:=h a (by simp)
   simp only[List.flatten_cons,List.length_append,List.length_cons];omega
 have h3:=h2 _ fun s hs=>(hC.sm s hs).2.1;have h4:=hC.len;omega
def prjX (vs:Jb) (P:Jb):Jb:=P.map fun v=>[v.getD 0 0,inpJ vs (v.getD 1 0).toNat]
def MapV (w:World) (v:Value) (P Q:Jb):Prop:=∃fa fc ta tc,v = .agg #[.slice fa P.length fc,.slice ta Q.length tc]/\KS 2 w (.slice fa P.length fc) P/\KS 2 w (.slice ta Q.length tc) Q
theorem MapV.keep {w w':World}{v:Value}{P Q:Jb}(h:MapV w v P Q) (hb:Below w.heap.size w w'):MapV w' v P Q:=by
 obtain⟨fa,fc,ta,tc,h1,h2,h3⟩:=h;exact⟨fa,fc,ta,tc,h1,h2.keep hb,h3.keep hb⟩
theorem results_mp {fn:Func}(h:fn.results = #[.cell 2 40,.tmp 3]) (tmps:Array Value) (w:World) (g1:Nat) {u0 u1 x:Value}(hp1:tmps.getD 2 undef = .pointer (some ⟨g1,0,none⟩)) (hp2:tmps.getD 3 undef=x) (hc1:w.heap[g1]? = some (.cells #[u0,u1] 40)) :
  (results fn tmps).run Tryz.prog w = .ok (.tuple #[.agg #[u0,u1],x]) w:=by
 have hp1':tmps[2]?.getD undef = .pointer (some ⟨g1,0,none⟩):=by simpa using hp1
 have hp2':tmps[3]?.getD undef=x:=by simpa using hp2
 obtain⟨z0,z1⟩:=boxL2 hc1;have a1:=Tryz.isAgg40;have s1:=Tryz.sizeOf40;simp only[results,h];simp[Sem.run_bind,Result.andThen,hp1',hp2',asAddr,loadVar]
 go_simp
theorem ApV.symm {u v:Value}(h:ApV u v):ApV v u:=by
 rcases h with h|h
 ·by_cases hv:v.ownBlock=none
  ·exact .inl hv
  ·exact .inr (by rw[h];exact hv)
 ·exact .inr fun e=>h e.symm
theorem prjX_snoc (vs:Jb) (P:Jb) (c j:Nat):prjX vs (P ++ [[(c:Int),(j:Int)]])=prjX vs P ++ [[(c:Int),inpJ vs j]]:=by
 unfold prjX;rw[List.map_append];rfl
theorem setTwo {W:World}{b:Nat}{t:TypeId}{a0 a1:Value}(h:W.heap[b]? = some (.cells #[a0,a1] t)) (u0 u1:Value) :
  ((W.setCell ⟨b,0,none⟩ u0).setCell ⟨b,1,none⟩ u1).heap[b]? = some (.cells #[u0,u1] t)/\KeepX t W ((W.setCell ⟨b,0,none⟩ u0).setCell ⟨b,1,none⟩ u1)/\∀(B:Nat) (w:World),B<=b->Below B w W->Below B w ((W.setCell ⟨b,0,none⟩ u0).setCell ⟨b,1,none⟩ u1):=by
 have h1:=heap_setCell_same W b 0 _ _ u0 h;refine⟨heap_setCell_same _ b 1 _ _ u1 h1,?_,fun B w hB hb=>?_⟩
 ·exact(KeepX.setCell (p:=⟨b,0,none⟩) h u0).trans (KeepX.setCell (p:=⟨b,1,none⟩) h1 u1)
 ·exact(hb.setCell (p:=⟨b,0,none⟩) hB u0).setCell (p:=⟨b,1,none⟩) hB u1
theorem protProject {w:World}{v:Value}{n i o an r tn:Int}{cs:List Cs}{ss:Jc}{vs:Jb}{xs:List Ex}(h:SysV w v n i o cs an ss r tn vs xs) (hfew:fewP n i o cs an ss r=true) :
  Calls Tryz.prog 12 #[v] w fun e w'=>∃v',e = .returned (.tuple #[v',.int .i64 (verE n i o cs an ss r tn vs xs)])/\MapV w' v' (if verE n i o cs an ss r tn vs xs=0 then ptsX (maxX (simsX n.toNat r.toNat xs (-1))) else []) (if verE n i o cs an ss r tn vs xs=0 then prjX vs (ptsX (maxX (simsX n.toNat r.toNat xs (-1)))) else [])/\Below w.heap.size w w':=by
 have HC:=qH (fun W (hb:Below w.heap.size w W)=>protComplex (h.keep hb) hfew);have HG:=sysG_ver h hfew;obtain⟨E,hE⟩:=exE (verE n i o cs an ss r tn vs xs);rw[hE] at HC HG|-;obtain⟨a,c,a',c',va,vc,xa,xc,rfl,-,hV,-⟩:=h;obtain⟨VA,hVA⟩:∃VA:Array Value,VA = #[.int .i64 n,.int .i64 i,.int .i64 o,.slice a cs.length c,.int .i64 an,.slice a' ss.length c',.int .i64 r,.int .i64 tn,.slice va vs.length vc,.slice xa xs.length xc]:=⟨_,rfl⟩;obtain⟨W1,hW1⟩:=exF ((w.alloc (.cells VA 35)).alloc (.cells #[.slice none 0 0,.slice none 0 0] 40));have hb1:Below w.heap.size w W1:=by rw[hW1];exact((Below.refl _ w).alloc (Nat.le_refl _) _).alloc (by simp) _
 have kR:W1.heap[w.heap.size+1]? = some (.cells #[.slice none 0 0,.slice none 0 0] 40):=by
  rw[hW1];have:=heap_alloc_new (w.alloc (.cells VA 35)) (.cells #[.slice none 0 0,.slice none 0 0] 40)
  rwa [World.size_alloc] at this
 have kS:W1.heap[w.heap.size]? = some (.cells VA 35):=by
  rw[hW1];exact(Below.heap_alloc _ _ _ (by simp)).trans (heap_alloc_new w _)
 subst hVA;have HK:=qH (fun W (hb:Below W1.heap.size W1 W)=>And.intro (keep7 hb (box10' kS).1) (keep3' hb (box10' kS).2));obtain⟨⟨p0,p1,p2,p3,p4,p5,p6⟩,p7,p8,p9⟩:=HK.out W1 (Below.refl _ _);rw[hW1] at p0 p1 p2 p3 p4 p5 p6 p7 p8 p9;have hkR:=qH kR;have hVh:=qH (fun W (hb:Below w.heap.size w W)=>hV.keep hb);replace hE:=qH hE;have HGl:=HG;clear kS kR hV;by_cases hz:E=0
 ·subst hz;obtain⟨-,-,-,hr6,hG⟩:=HG rfl;rw[if_pos rfl] at HC|-;rw[if_pos rfl];have hpt:=ptX_sims (idx:=-1) hG;have hpl:=ptX_len (idx:=-1) hG;have hcg:=simsX_cxg (idx:=-1) hG;obtain⟨FS,hFS⟩:=exE (maxX (simsX n.toNat r.toNat xs (-1)));rw[hFS] at HC hpt hpl hcg|-;obtain⟨P,hP⟩:=exE (ptsX FS);have HV:=qH (fun W u (hu:CxO W u FS)=>verticesCx hu hcg);rw[hP] at HV hpt hpl|-;replace hpt:=qH hpt;clear HG HGl hFS hP;go_enter Tryz.func12, Tryz.ntmps12
  go_wp2_with fail
  rw[<-hW1];replace hW1:=qH hW1;refine(HC.out W1 hb1).mono ?_;rintro e w2 ⟨v2,rfl,hcx,hb2⟩;obtain⟨fa,fc,rfl,hO⟩:=hcx;clear p0 p1 p2 p3 p4 p5 p6 p7 p8 p9;obtain⟨W3,hW3⟩:=exF (w2.alloc (.cells #[.slice fa FS.length fc] 57));have hb3:Below w2.heap.size w2 W3:=by rw[hW3];exact(Below.refl _ w2).alloc (Nat.le_refl _) _
  have k3:=cell_of_one (show W3.heap[w2.heap.size]? = some (.cells #[.slice fa FS.length fc] 57) by rw[hW3];exact heap_alloc_new _ _);have hcx3:CxO W3 (.agg #[.slice fa FS.length fc]) FS:=⟨_,_,rfl,hO.keep EVx.stb hb3⟩;have HV3:=qH (HV.out W3 _ hcx3);clear hO hcx3;go_upto_region 2 with fail
  rw[<-hW3];replace hW3:=qH hW3;go_wp2_with fail
  refine HV3.out.mono ?_;rintro e w4 ⟨u4,rfl,hO4,hb4⟩;have hb24:=btt hb2 (btt hb3 hb4);clear k3;obtain⟨ua,uc,hus⟩:=hO4.shape;subst hus;have hKP:=hO4.ks (by omega);obtain⟨W5,hW5⟩:=exF (w4.alloc (.cells #[.func (.func 55) #[] #[.pointer (some ⟨w.heap.size,0,none⟩),.pointer (some ⟨w4.heap.size,0,none⟩)]] 111));obtain⟨W6,hW6⟩:=exF (W5.alloc (.cells #[.slice none 0 0,.slice none 0 0] 40));have hb45:Below w4.heap.size w4 W5:=by rw[hW5];exact(Below.refl _ w4).alloc (Nat.le_refl _) _
  have hb56:Below W5.heap.size W5 W6:=by rw[hW6];exact(Below.refl _ W5).alloc (Nat.le_refl _) _
  have hs5:W5.heap.size=w4.heap.size+1:=by rw[hW5];simp
  have hs6:W6.heap.size=W5.heap.size+1:=by rw[hW6];simp
  have kF:W5.heap[w4.heap.size]? = some (.cells #[.func (.func 55) #[] #[.pointer (some ⟨w.heap.size,0,none⟩),.pointer (some ⟨w4.heap.size,0,none⟩)]] 111):=by
   rw[hW5];exact heap_alloc_new w4 _
  have k8:W6.heap[W5.heap.size]? = some (.cells #[.slice none 0 0,.slice none 0 0] 40):=by
   rw[hW6];exact heap_alloc_new W5 _
  have hb15:Below W1.heap.size W1 W5:=btt hb24 hb45;have hrd:pjRd w.heap.size w4.heap.size vc va vs W5:=⟨(HK.out W5 hb15).2.2.1,cell_of_one kF,hVh.out W5 (btt hb1 hb15)⟩;have hKPh:=qH (fun W (hb:Below W5.heap.size W5 W)=>(hKP.keep hb45).keep hb);have hfn:=qH (fun W (hb:Below W5.heap.size W5 W)=>(hrd.keep hb).2.1);have hcall:=qH (fun j (hj:j < vs.length) (hk:(vs.getD j []).getD 1 0=((r.toNat:Nat):Int)) W (hb:Below W5.heap.size W5 W)=>projIn hG.tab hG.n5 hG.vl r.toNat j W hj hk (hrd.keep hb));rw[hW5] at hW6
  have hI0:∃(fa:Option Addr) (fc:Nat) (ta:Option Addr) (tc:Nat),W6.heap[W5.heap.size]? = some (.cells #[.slice fa 0 fc,.slice ta 0 tc] 40)/\OwX 83 2 EI W6 W5.heap.size (.slice fa 0 fc) 0 (P.take 0)/\OwX 83 2 EI W6 W5.heap.size (.slice ta 0 tc) 0 (prjX vs (P.take 0))/\ApV (.slice fa 0 fc) (.slice ta 0 tc):=
   ⟨none,0,none,0,k8,OwX.nil _ _,OwX.nil _ _,.inl rfl⟩
  replace hI0:=qH hI0;obtain⟨b7,hb7⟩:=exE (w4.heap.size);rw[hb7] at hW6 hcall hfn hs5;rw[hs5] at hI0 hcall hfn hKPh hs6 hb56;have hb1B:Below w.heap.size w W5:=btt hb1 hb15
  have hwB:Hid (w.heap.size+2<=b7):=by
   have h1:=hb24.size;have h2:W1.heap.size=w.heap.size+2:=(by rw[hW1.out];simp);show _<=_;omega
  replace hb7:=qH hb7;replace hs5:=qH hs5;replace hs6:=qH hs6;clear hKP hrd kF k8 hO4;go_wp2_with fail
  rw[hb7.out,<-hW6];replace hW6:=qH hW6;replace hW5:=qH hW5;go_loopw [32] (fun iv wr=>∃(i:Nat) (fa:Option Addr) (fc:Nat) (ta:Option Addr) (tc:Nat),iv = .int .i64 i/\i<=P.length/\Hid (wr.heap[b7+1]? = some (.cells #[.slice fa i fc,.slice ta i tc] 40)/\OwX 83 2 EI wr (b7+1) (.slice fa i fc) i (P.take i)/\OwX 83 2 EI wr (b7+1) (.slice ta i tc) i (prjX vs (P.take i))/\ApV (.slice fa i fc) (.slice ta i tc))/\Below (b7+1) W6 wr) (fun iv _=>P.length - (intOf iv).toNat)
  case atStart=>
   obtain⟨fa,fc,ta,tc,h⟩:=hI0.out;exact⟨0,fa,fc,ta,tc,rfl,by omega,h,Below.refl _ _⟩
  case round=>
   clear hI0;obtain⟨q,fa,fc,ta,tc,rfl,hq,hI,hbr⟩:=hrel;have hb5r:Below (b7+1) W5 wr:=hb56.trans hbr;by_cases hlt:q < P.length
   ·have hqi:(q:Int) < (P.length:Int):=(by omega);obtain⟨k8,hF,hT,hap⟩:=hI.out;obtain⟨pa,pc,pb,po,he,hpa,hpc,-⟩:=hKPh.out wr hb5r;injection he with e1 e2 e3;subst e1 e3;obtain rfl:=hpa (by omega);obtain⟨x2,xi⟩:=hpc q hlt;obtain⟨cl,lj,hx,hcl,hlj,hlk⟩:=hpt.out (P.getD q []) (by rw[getD_eq hlt];exact List.getElem_mem hlt);have htk:=take_snoc hlt ([]:List Int);rw[hx] at x2 xi htk;obtain⟨c0,c1⟩:=xi.all2;obtain⟨W7,hW7⟩:=exF (wr.alloc (.cells #[.int .i64 (cl:Int),.int .i64 (lj:Int)] 83));obtain⟨W8,hW8⟩:=exF (W7.alloc (.cells #[.int .i64 (cl:Int),.int .i64 (lj:Int)] 83));have hb7':Below wr.heap.size wr W7:=(by rw[hW7];exact(Below.refl _ wr).alloc (Nat.le_refl _) _);have hb8':Below W7.heap.size W7 W8:=(by rw[hW8];exact(Below.refl _ W7).alloc (Nat.le_refl _) _);have hs7:W7.heap.size=wr.heap.size+1:=(by rw[hW7];simp);have kv7:W7.heap[wr.heap.size]? = some (.cells #[.int .i64 (cl:Int),.int .i64 (lj:Int)] 83):=(by rw[hW7];exact heap_alloc_new wr _);have kv8:W8.heap[W7.heap.size]? = some (.cells #[.int .i64 (cl:Int),.int .i64 (lj:Int)] 83):=(by rw[hW8];exact heap_alloc_new W7 _);have hF8:=(hF.keep (EI.stab _) hb7').keep (EI.stab _) hb8';have hT8:=(hT.keep (EI.stab _) hb7').keep (EI.stab _) hb8';have k88:=keptO hb8' (keptO hb7' k8);have kvv:=keptO hb8' kv7;have hBr:b7+1<=wr.heap.size:=(by have:=hs6.out;have:=hbr.size;omega);have hBz:b7+1<=W8.heap.size:=(by have:=hb7'.size;have:=hb8'.size;omega);have hbr8:Below (b7+1) W6 W8:=(hbr.trans (hb7'.mono hBr)).trans (hb8'.mono (by omega));have hFb:Hid (∀g,(Value.slice fa q fc).ownBlock=some g->g < wr.heap.size):=fun g hg=>by obtain⟨_,h1,_⟩:=hF;exact(World.ownsRow.lt h1 _ hg).2
    have hnews:=World.news_of_block kv8;rw[hs7] at hnews;have hc9:∀u ∈ [Value.int .i64 (cl:Int),.int .i64 (lj:Int)],u.oneCell'=true:=fun u hu=>by rcases List.mem_cons.1 hu with rfl|hu;rfl;rw[List.mem_singleton.1 hu];rfl
    have hi9:q<=1000000000000:=(by omega);have z0:=(boxL2 k8).1;have v0:=(boxL2 kv7).1;have v1:=(boxL2 kv7).2;have y0:=(boxL2 (keptO hb7' k8)).1;have hKEY:=qH (And.intro hF8 (And.intro hT8 (And.intro k88 (And.intro kvv (And.intro hap (And.intro hbr8 hnews))))));rw[hW7] at v0 v1 y0 hW8;have hss:(wr.alloc (.cells #[.int .i64 (cl:Int),.int .i64 (lj:Int)] 83)).heap.size=wr.heap.size+1:=(by simp);have htk:=qH htk;replace hs7:=qH hs7;replace hW7:=qH hW7;clear hF hT k8 hap hI hF8 hT8 k88 kvv kv7 kv8 hbr8 hb7' hb8' x2 xi hpc;go_upto_region 13 with fail
    go_wp2_with (at_builtin;rw[<-hW8];refine wpList_appX (B:=b7+1) (cs:=[.int .i64 (cl:Int),.int .i64 (lj:Int)]) (x:=[(cl:Int),(lj:Int)]) elemVx (by decide) (by decide) (EI.stab _) rfl _ _ rfl rfl hKEY.out.1 ⟨wr.heap.size+1,0,none⟩ 1 rfl rfl hnews hc9 rfl hi9 hBz ?_)
    intro v9 w9 hO9 hg9 hn9 hb9 hx9;rw[<-hW8] at hg9 hn9 hb9 hx9;replace hW8:=qH hW8;obtain⟨hF8,hT8,k88,kvv,hap,hbr8,-⟩:=hKEY.out;obtain⟨a9,c9,hv9⟩:=hO9.shape;subst hv9;have k9:=(hx9 (b7+1) _ _ k88 (by decide)).trans k88;have hT9:=hT8.keptG hg9 hap.symm;have hap9:=(ApV.new hap.symm hT8 hn9).symm;have kv9:=(hg9.block wr.heap.size (Array.getElem?_eq_some_iff.1 kvv).1 (fun e=>by have:=hFb.out _ e.symm;omega)).trans kvv;have k10:=heap_setCell_same w9 (b7+1) 0 _ _ (.slice a9 (q+1) c9) k9;have hX10:=KeepX.setCell (p:=⟨b7+1,0,none⟩) k9 (.slice a9 (q+1) c9);have hF10:=hO9.other (E':=40) (EI.stab _) (by decide) hX10;have hT10:=hT9.other (E':=40) (EI.stab _) (by decide) hX10;have kv10:=(hX10 _ _ _ kv9 (by decide)).trans kv9;have hbr10:Below (b7+1) W6 (w9.setCell ⟨b7+1,0,none⟩ (.slice a9 (q+1) c9)):=(hbr8.trans hb9).setCell (p:=⟨b7+1,0,none⟩) (Nat.le_refl _) _;have zz9:=(boxL2 k9).1;have f9:=row_free0 k9;have hb510:Below (b7+1) W5 (w9.setCell ⟨b7+1,0,none⟩ (.slice a9 (q+1) c9)):=hb56.trans hbr10;have hlst:∀(l:Jb),l=P.take q ++ [[(cl:Int),(lj:Int)]]->P.take (q+1)=l:=fun l e=>by rw[e];exact htk.out
    replace hlst:=qH hlst;clear v0 v1 y0 z0 c0 c1 hnews hO9 hg9 hn9 hb9 hx9 hT9 kv9 hX10 k9 hF8 hT8 k88 kvv hap hbr8 hss;go_upto_region 14 with fail
    refine regPj14 (b1:=w.heap.size) (b7:=b7) (b8:=b7+1) (b10:=wr.heap.size) (B:=b7+1) (cl:=(cl:Int)) (lb:=(lj:Int)) (ip:=inpJ vs lj) k10 kv10 hT10 hF10 hap9 (fun W hb=>hfn.out W (hb510.trans hb)) (fun W hb=>hcall.out lj hlj hlk W (hb510.trans hb)) (by omega) (Nat.le_refl _) ?_;rintro y9 y10 y12 W11 ⟨g1,-,-,-,G6,G7,-⟩ - - -;obtain⟨⟨a11,c11,rfl⟩,hT11,hF11,hap11⟩:=G6 rfl;have k11:=G7 rfl
    have hN:Hid (W11.heap[b7+1]? = some (.cells #[.slice a9 (q+1) c9,.slice a11 (q+1) c11] 40)/\OwX 83 2 EI W11 (b7+1) (.slice a9 (q+1) c9) (q+1) (P.take (q+1))/\OwX 83 2 EI W11 (b7+1) (.slice a11 (q+1) c11) (q+1) (prjX vs (P.take (q+1)))/\ApV (.slice a9 (q+1) c9) (.slice a11 (q+1) c11)):=by
     show _/\_;rw[htk.out,prjX_snoc];exact⟨k11,hF11,hT11,hap11⟩
    have hb11:=hbr10.trans g1;clear G6 G7 g1 k10 kv10 hT10 hF10 hap9 hT11 hF11 hap11 k11 zz9 f9;go_wp2_with fail
    go_roundw
    case rel=>exact⟨q+1,a9,c9,a11,c11,by go_num,by omega,hN,hb11⟩
    case measure=>simp[intOf];omega
   ·obtain rfl:q=P.length:=(by omega);obtain⟨k8,hF,hT,-⟩:=hI.out;rw[List.take_length] at hF hT
    have hkr:wr.heap[w.heap.size+1]? = some (.cells #[.slice none 0 0,.slice none 0 0] 40):=by
     have h1:=hkR.out;have h2:=keptO hb15 h1;exact(hb5r.block _ (by have:=hwB.out;omega)).trans h2
    have hbe:Below w.heap.size w wr:=hb1B.trans (hb5r.mono (by have:=hwB.out;omega));obtain⟨z0,z1⟩:=boxL2 k8;obtain⟨y0,y1⟩:=boxL2 hkr;have f0:=row_free hkr 0;have f1:=row_free hkr 1;obtain⟨m1,hX,hbb⟩:=setTwo hkr (.slice fa P.length fc) (.slice ta P.length tc);have hF2:=(hF.other (EI.stab _) (by decide) hX).ks (by omega);have hT2:=(hT.other (EI.stab _) (by decide) hX).ks (by omega);have hbf:=hbb w.heap.size w (Nat.le_succ _) hbe;have hpl2:(prjX vs P).length=P.length:=(by unfold prjX;rw[List.length_map]);have hmv:Hid (MapV ((wr.setCell ⟨w.heap.size+1,0,none⟩ (.slice fa P.length fc)).setCell ⟨w.heap.size+1,1,none⟩ (.slice ta P.length tc)) (.agg #[.slice fa P.length fc,.slice ta P.length tc]) P (prjX vs P)):=⟨fa,fc,ta,tc,by rw[hpl2],hF2,by rw[hpl2];exact hT2⟩;have m1:=qH m1;clear hF hT hI hF2 hT2 hX hbb k8 hkr hpl2;go_wp2;exact⟨rfl,_,results_mp rfl _ _ _ rfl rfl m1.out,_,rfl,hmv.out,hbf⟩
 ·rw[if_neg hz] at HC|-;rw[if_neg hz];have hE0:(E == 0)=false:=by simpa using hz
  replace hz:=qH hz;clear HG HGl;go_enter Tryz.func12, Tryz.ntmps12
  go_wp2_with fail
  rw[<-hW1];replace hW1:=qH hW1;refine(HC.out W1 hb1).mono ?_;rintro e w2 ⟨v2,rfl,hcx,hb2⟩;obtain⟨fa,fc,rfl,hO⟩:=hcx;clear p0 p1 p2 p3 p4 p5 p6 p7 p8 p9 hO;obtain⟨W3,hW3⟩:=exF (w2.alloc (.cells #[.slice fa 0 fc] 57));have hb3:Below w2.heap.size w2 W3:=by rw[hW3];exact(Below.refl _ w2).alloc (Nat.le_refl _) _
  have hkr:=keptO (btt hb2 hb3) hkR.out;obtain⟨y0,y1⟩:=boxL2 hkr;have f0:=row_free hkr 0;have f1:=row_free hkr 1;obtain⟨m1,-,hbb⟩:=setTwo hkr (.slice none 0 0) (.slice none 0 0);have hbf:=hbb w.heap.size w (Nat.le_succ _) (btt hb1 (btt hb2 hb3));have m1:=qH m1;clear hkr hbb;go_upto_region 2 with fail
  rw[<-hW3];replace hW3:=qH hW3;go_wp2;exact⟨rfl,_,results_mp rfl _ _ _ rfl rfl m1.out,_,rfl,⟨none,0,none,0,rfl,OwX.ksNil _,OwX.ksNil _⟩,hbf⟩
end Go.Proofs.YtcnedkkcgdkioaaGreat

/- Texts of this claim, put together: TE TF TG. -/
import Derived.Test.YtcnedkkcgdkioaaGreatKSh

set_option maxRecDepth 100000
set_option maxHeartbeats 12800000
namespace Go.Proofs.YtcnedkkcgdkioaaGreat
open Go.RowKit
theorem refOrderC {w:World}{u v:Value}{xs ys:List Int}(hx:Ints w u xs) (hy:Ints w v ys) :
  Calls Tryz.prog 196 #[u,v] w fun e w'=>e = .returned (.int .i64 (cmpL xs ys))/\Qt w w':=by
 obtain⟨xa,xc,xb,xo,rfl,hxa,hxc,hxl⟩:=hx;obtain⟨ya,yc,yb,yo,rfl,hya,hyc,hyl⟩:=hy;obtain⟨E,hE⟩:=exE (cmpL xs ys);rw[hE];have h0:Hid (cmpL (xs.drop 0) (ys.drop 0)=E):=hE;replace hxc:=qH hxc;replace hyc:=qH hyc;clear hE;go_enter Tryz.func196, Tryz.ntmps196
 go_wp2_with fail
 go_loopw [5] (fun iv wr=>∃i:Nat,iv = .int .i64 i/\i<=xs.length/\i<=ys.length/\Hid (cmpL (xs.drop i) (ys.drop i)=E)/\Qt w wr) (fun iv _=>xs.length - (intOf iv).toNat)
 case atStart=>exact⟨0,rfl,by omega,by omega,h0,Qt.refl w⟩
 case round=>
  clear h0;obtain⟨i,rfl,hi,hj,ht,n,rfl⟩:=hrel;by_cases hlt:i < xs.length
  ·obtain rfl:=hxa (by omega);have hxi:=hxc.out i hlt;obtain⟨x,hx⟩:=exE (xs.getD i 0);rw[hx] at hxi;by_cases hlu:i < ys.length
   ·obtain rfl:=hya (by omega);have hyi:=hyc.out i hlu;obtain⟨y,hy⟩:=exE (ys.getD i 0);rw[hy] at hyi;have ht2:=ht.out;rw[drop_cons0 hlt hx,drop_cons0 hlu hy] at ht2;clear hx hy ht;by_cases l1:x < y
    ·have d1:decide (x < y)=true:=decide_eq_true l1;rw[cmpL_ne (by rw[cmpI_lt l1];decide),cmpI_lt l1] at ht2;replace ht2:=qH ht2;clear l1;go_wp2_with fail
     go_quiet (fail)
     go_wp2_with fail
     go_ret;exact⟨ret_int ht2.out,by first|exact(Qt.mk' w n).step nq|exact Qt.mk' w _|exact⟨_,by rw[World.drewN_drewN,World.drewN_drewN]⟩⟩
    ·have d1:decide (x < y)=false:=decide_eq_false l1;by_cases l2:y < x
     ·have d2:decide (y < x)=true:=decide_eq_true l2;rw[cmpL_ne (by rw[cmpI_gt l2];decide),cmpI_gt l2] at ht2;replace ht2:=qH ht2;clear l1 l2;go_wp2_with fail
      go_quiet (fail)
      go_wp2_with fail
      go_quiet (fail)
      go_wp2_with fail
      go_ret;exact⟨ret_int ht2.out,by first|exact(Qt.mk' w n).step nq|exact Qt.mk' w _|exact⟨_,by rw[World.drewN_drewN,World.drewN_drewN]⟩⟩
     ·have d2:decide (y < x)=false:=decide_eq_false l2;rw[cmpL_hd (cmpI_zero.2 (show x=y by omega))] at ht2;replace ht2:=qH ht2;clear l1 l2;go_wp2_with fail
      go_quiet (fail)
      go_wp2_with fail
      go_quiet (fail)
      go_wp2_with fail
      go_roundw
      case rel=>exact⟨i+1,by go_num,hlt,hlu,ht2,by first|exact(Qt.mk' w n).step nq|exact Qt.mk' w _|exact⟨_,by rw[World.drewN_drewN,World.drewN_drewN]⟩⟩
      case measure=>simp[intOf];omega
   ·have hE:Hid ((1:Int)=E):=by
     have:=ht.out
     rw[drop_cons0 hlt hx,dropEnd (xs:=ys) (by omega)] at this;exact this
    have n3 : ¬xs.length < ys.length:=(by omega);have n4:ys.length < xs.length:=(by omega);clear ht hx;go_wp2_with fail
    go_ret;exact⟨ret_int hE.out,Qt.mk' w n⟩
  ·by_cases hlu:xs.length < ys.length
   ·have hE:Hid ((-1:Int)=E):=by
     have:=ht.out
     rw[dropEnd (xs:=xs) (by omega),drop_cons0 (xs:=ys) (x:=ys.getD i 0) (by omega) rfl] at this;exact this
    clear ht;go_wp2_with fail
    go_ret;exact⟨ret_int hE.out,Qt.mk' w n⟩
   ·have hE:Hid ((0:Int)=E):=by
     have:=ht.out
     rw[dropEnd (xs:=xs) (by omega),dropEnd (xs:=ys) (by omega)] at this;exact this
    have n4 : ¬ys.length < xs.length:=(by omega);clear ht;go_wp2_with fail
    go_ret;exact⟨ret_int hE.out,Qt.mk' w n⟩
theorem refHasC {w:World}{u v:Value}{l:Jb}{x:List Int}(hx:Intss w u l) (hv:Ints w v x) :
  Calls Tryz.prog 146 #[u,v] w fun e w'=>e = .returned (.bool (decide (x∈l)))/\Below w.heap.size w w':=by
 obtain⟨xa,xc,xb,xo,rfl,hxa,hxc,hxl⟩:=hx;replace hxc:=qH hxc;have h0:Hid (x ∉ l.take 0):=by show ¬_;simp
 have hvh:=qH hv;obtain⟨va,vc,hvv⟩:=hv.shape;subst hvv;clear hv;go_enter Tryz.func146, Tryz.ntmps146
 go_wp2_with fail
 go_loopw [5] (fun iv wr=>∃i:Nat,iv = .int .i64 i/\i<=l.length/\Hid (x ∉ l.take i)/\Below w.heap.size w wr) (fun iv _=>l.length - (intOf iv).toNat)
 case atStart=>exact⟨0,rfl,by omega,h0,Below.refl _ _⟩
 case round=>
  clear h0;obtain⟨i,rfl,hi,hno,hbr⟩:=hrel;by_cases hlt:i < l.length
  ·obtain rfl:=hxa (by omega);obtain⟨xu,hxi,hxk⟩:=hxc.out i hlt;obtain⟨y,hy⟩:=exE (l.getD i []);rw[hy] at hxk;have c0:=cell_kept hbr hxi;have HC:=refOrderC (hxk.keep hbr) (hvh.out.keep hbr);have hmem:y∈l:=(by rw[<-hy,getD_eq hlt];exact List.getElem_mem hlt);have htk:l.take (i+1)=l.take i ++ [y]:=(by rw[take_snoc hlt [],hy]);obtain⟨xsa,xsc,hxs⟩:=hxk.shape;subst hxs;clear hxk hy hxi;by_cases he:y=x
   ·rw[cmpL_zero.2 he] at HC;replace HC:=qH HC;have hres:Hid (decide (x∈l)=true):=(by show _=_;rw[<-he];exact decide_eq_true hmem);clear htk hmem he hno;go_wp2_with fail
    refine HC.out.mono ?_;rintro e w' ⟨rfl,hq⟩;have hbn:=btt hbr hq.below;clear hq;go_wp2;go_ret;exact⟨by rw[hres.out];rfl,hbn⟩
   ·obtain⟨z,hz⟩:=exE (cmpL y x)
    have hz1:(z == 0)=false:=by
     rw[beq_eq_false_iff_ne,<-hz];exact fun h=>he (cmpL_zero.1 h)
    rw[hz] at HC;replace HC:=qH HC
    have hnx:Hid (x ∉ l.take (i+1)):=by
     show ¬_;rw[htk,List.mem_append,List.mem_singleton];exact fun h=>h.elim hno.out fun h=>he h.symm
    clear htk hmem he hno hz;go_wp2_with fail
    refine HC.out.mono ?_;rintro e w' ⟨rfl,hq⟩;have hbn:=btt hbr hq.below;clear hq;go_wp2;go_roundw
    case rel=>exact⟨i+1,by go_num,hlt,hnx,hbn⟩
    case measure=>simp[intOf];omega
  ·have hres:Hid (decide (x∈l)=false):=by
    show _=_;have:=hno.out
    rw[List.take_of_length_le (by omega)] at this;exact decide_eq_false this
   clear hno;go_wp2;go_ret;exact⟨by rw[hres.out];rfl,hbr⟩
theorem refVectorC {w:World}{u:Value}{xs:List Int}{n most:Int}(hx:Ints w u xs) :
  Calls Tryz.prog 195 #[u,.int .i64 n,.int .i64 most] w fun e w'=>e = .returned (.int .i64 (vecE xs n most))/\w'=w:=by
 obtain⟨xa,xc,xb,xo,rfl,hxa,hxc,hxl⟩:=hx;rw[vecE_eq];by_cases hn:(xs.length:Int)=n
 ·rw[if_neg (fun h=>h hn)];subst hn;obtain⟨A,hA⟩:=exE (xs.any (outR most));rw[hA];have h0:Hid ((xs.drop 0).any (outR most)=A):=hA;replace hxc:=qH hxc;clear hA;go_enter Tryz.func195, Tryz.ntmps195
  go_wp2_with fail
  go_loopw [7] (fun iv wr=>∃i:Nat,iv = .int .i64 i/\i<=xs.length/\Hid ((xs.drop i).any (outR most)=A)/\wr=w) (fun iv _=>xs.length - (intOf iv).toNat)
  case atStart=>exact⟨0,rfl,by omega,h0,rfl⟩
  case round=>
   clear h0;obtain⟨i,rfl,hi,ht,rfl⟩:=hrel;by_cases hlt:i < xs.length
   ·obtain rfl:=hxa (by omega);have hxi:=hxc.out i hlt;obtain⟨x,hx⟩:=exE (xs.getD i 0);rw[hx] at hxi;have ht2:=ht.out;rw[drop_cons0 hlt hx,List.any_cons] at ht2;clear hx ht;by_cases l1:x < 0
    ·rw[show outR most x=true from decide_eq_true (.inl l1),Bool.true_or] at ht2;subst ht2;have d1:decide (x < 0)=true:=decide_eq_true l1;clear l1;go_wp2_with fail
     go_ret;exact⟨rfl,rfl⟩
    ·have d1:decide (x < 0)=false:=decide_eq_false l1;by_cases l2:most<=x
     ·rw[show outR most x=true from decide_eq_true (.inr l2),Bool.true_or] at ht2;subst ht2;have d2:decide (most<=x)=true:=decide_eq_true l2;clear l1 l2;go_wp2_with fail
      go_ret;exact⟨rfl,rfl⟩
     ·rw[show outR most x=false from decide_eq_false (fun h=>h.elim l1 l2),Bool.false_or] at ht2;replace ht2:=qH ht2;have d2:decide (most<=x)=false:=decide_eq_false l2;clear l1 l2;go_wp2_with fail
      go_roundw
      case rel=>exact⟨i+1,by go_num,hlt,ht2,by first|rfl|trivial⟩
      case measure=>simp[intOf];omega
   ·have hE:false=A:=by
     have:=ht.out
     rw[dropEnd (xs:=xs) (by omega)] at this;exact this
    clear ht;subst hE;go_wp2_with fail
    go_ret;exact⟨rfl,rfl⟩
 ·rw[if_pos hn];have d1:((xs.length:Int) != n)=true:=by simpa using hn
  clear hn hxc;go_enter Tryz.func195, Tryz.ntmps195
  go_wp2;go_ret;exact⟨rfl,rfl⟩
theorem refOneC {w:World}{v:Value}{n i o:Int}{cs:List Cs}{k:Nat}(h:TaskV w v n i o cs) (hk:k < cs.length) :
  Calls Tryz.prog 143 #[v,.int .i64 (k:Int)] w fun e w'=>e = .returned (.int .i64 (caseE n i o cs k))/\Below w.heap.size w w':=by
 have hmx : Tryz.prog.follows .mixedOrders=true:=by kernel_rfl
 obtain⟨sv,rfl,hS⟩:=h;obtain⟨sa,sc,hs⟩:=hS.shape;subst hs;obtain⟨b,off,rfl,hc⟩:=hS.at (by omega);obtain⟨u0,u1,u2,c0,c1,c2,i0,i1,i2⟩:=hc k hk;obtain⟨x0,y0,hs⟩:=i0.shape;subst hs;obtain⟨x1,y1,hs⟩:=i1.shape;subst hs;obtain⟨x2,y2,hs⟩:=i2.shape;subst hs
 have HP:=qH (fun(h0:0 < k)=>by
  obtain⟨p0,_,_,q0,_,_,j0,_⟩:=hc (k - 1) (by omega);exact(⟨p0,q0,j0⟩:∃p0,w.cell? ⟨b,off+(k - 1) * 3,none⟩=some p0/\Ints w p0 (cs.getD (k - 1) csNil).1))
 have hfk:=caseE_eq (n:=n) (i:=i) (o:=o) (cs:=cs) (k:=k);obtain⟨c,hcc⟩:=exE (cs.getD k csNil);obtain⟨B,hB⟩:=exE (unordC' cs k);rw[hcc,hB] at hfk;rw[hcc] at c0 c1 c2 i0 i1 i2;obtain⟨l0,l1,l2⟩:=c;have hB2:=hB;unfold unordC' at hB2;rw[hcc] at hB2;replace hB:=hB2;clear hB2;simp only at c0 c1 c2 i0 i1 i2 hfk hB
 obtain⟨m0,hm0⟩:=exE (l0.length);have hl2:l2.length<=5864062014805:=by obtain⟨_,_,_,_,_,_,_,h⟩:=i2;exact h
 have hNl:cs.length<=1954687338268:=by obtain⟨_,_,_,_,_,_,_,h⟩:=hS;exact h
 rw[hm0] at c0;obtain⟨W1,hW1⟩:=exF (w.alloc (.cells #[.int .i64 n,.int .i64 i,.int .i64 o,.slice (some ⟨b,off,none⟩) cs.length sc] 24));have hb1:Below w.heap.size w W1:=by rw[hW1];exact(Below.refl _ w).alloc (Nat.le_refl _) _
 have kT:W1.heap[w.heap.size]? = some (.cells #[.int .i64 n,.int .i64 i,.int .i64 o,.slice (some ⟨b,off,none⟩) cs.length sc] 24):=by rw[hW1];exact heap_alloc_new _ _
 have hs1:W1.heap.size=w.heap.size+1:=by rw[hW1];simp
 obtain⟨W2,hW2⟩:=exF (W1.alloc (.cells #[.slice x0 m0 y0,.slice x1 l1.length y1,.slice x2 l2.length y2] 95));have hb2:Below W1.heap.size W1 W2:=by rw[hW2];exact(Below.refl _ _).alloc (Nat.le_refl _) _
 have kC:W2.heap[w.heap.size+1]? = some (.cells #[.slice x0 m0 y0,.slice x1 l1.length y1,.slice x2 l2.length y2] 95):=by rw[<-hs1,hW2];exact heap_alloc_new _ _
 have hb02:=btt hb1 hb2;have HT:=qH (fun W (hb:Below W2.heap.size W2 W)=>keep4 (btt hb2 hb) (box4' kT));have HC:=qH (fun W (hb:Below W2.heap.size W2 W)=>keep3 hb (box3' kC));have I0:=qH (fun W (hb:Below W2.heap.size W2 W)=>(i0.keep hb02).keep hb);have I1:=qH (fun W (hb:Below W2.heap.size W2 W)=>(i1.keep hb02).keep hb);have I2:=qH (fun W (hb:Below W2.heap.size W2 W)=>(i2.keep hb02).keep hb)
 have HP:=qH (fun(h0:0 < k)=>by
  obtain⟨p0,q0,j0⟩:=HP.out h0;exact(⟨p0,cell_kept hb02 q0,j0.keep hb02⟩:∃p0,W2.cell? ⟨b,off+(k - 1) * 3,none⟩=some p0/\Ints W2 p0 (cs.getD (k - 1) csNil).1))
 have HV:=qH (refVectorC (n:=n) (most:=i) (I0.out W2 (Below.refl _ _)));simp only[hm0] at HV;obtain⟨z,hz⟩:=exE (vecE l0 n i);rw[hz] at HV hfk;obtain⟨t0,t1,t2,t3⟩:=box4' kT;obtain⟨r0,r1,r2⟩:=HC.out W2 (Below.refl _ _);obtain⟨t0',t1',t2',t3'⟩:=HT.out W2 (Below.refl _ _);have d0:=cell_kept hb1 c0;have d1:=cell_kept hb1 c1;have d2:=cell_kept hb1 c2;rw[hW2] at r0 r1 r2 t0' t1' t2' t3';rw[hW1] at t0 t1 t2 t3 d0 d1 d2;rw[hW1] at r0 r1 r2 t0' t1' t2' t3';clear kC kT i0 i1 i2 hz hc hS c0 c1 c2 hb1 hb2;rw[hfk];obtain⟨E,hE⟩:∃E,(if z ≠ 0 then z else if B=true then 14 else outsE n o (l0,l1,l2))=E:=⟨_,rfl⟩;rw[hE];clear hfk;by_cases hz0:z=0
 ·rw[if_neg (fun h=>h hz0)] at hE;subst hz0;go_enter Tryz.func143, Tryz.ntmps143
  go_wp2_with fail
  rw[<-hW1,<-hW2];replace hW1:=qH hW1;replace hW2:=qH hW2;refine HV.out.mono ?_;rintro e w3 ⟨rfl,rfl⟩;clear t0 t1 t2 t3 r0 r1 r2 t0' t1' t2' t3' d0 d1 d2 HV;go_wp2_with fail
  have HKr:=qH (fun W (hb:Below w3.heap.size w3 W)=>And.intro (HT.out W hb).2.2.2 (HC.out W hb).1);rcases Nat.eq_zero_or_pos k with h0|h0
  case' inl=>
   subst h0;obtain rfl:B=false:=(by rw[<-hB];exact decide_eq_false (fun h=>by omega));clear hB HP;refine wp_region_bw hmx (by kernel_rfl) ?_
   repeat (refine WQ.step fun K hK=>?_;go_simp;first|(refine hK _ ?_;clear hK K)|(apply Exists.intro;refine⟨fun wq hC=>?_,hK _ ?_⟩;(·(first|with_reducible rfl|(go_simp;first|done|with_reducible rfl|with_reducible exact⟨rfl,rfl⟩)));clear hK K))
   refine WQ.nil ?_;intro w4 hb4
  case' inr=>
   obtain⟨p0,q0,j0⟩:=HP.out h0;obtain⟨pa,pc,hs⟩:=j0.shape;subst hs;obtain⟨P,hP⟩:=exE ((cs.getD (k - 1) csNil).1);rw[hP] at q0 j0;rw[hP] at hB;obtain⟨t,ht⟩:=exE (cmpL P l0);have hBz:B=decide (0<=t):=(by rw[<-hB,ht];simp[h0]);have HCm:=qH (fun W (hb:Below w3.heap.size w3 W)=>refOrderC (j0.keep hb) (I0.out W hb));simp only[ht] at HCm;obtain⟨m1,hm1⟩:=exE (P.length);obtain⟨k1,hk1⟩:=exE (k - 1);rw[hm1,hk1] at q0;simp only[hm1,hm0] at HCm;have HR2:=qH (fun W (hb:Below w3.heap.size w3 W)=>And.intro (HKr.out W hb) (cell_kept hb q0));have d1:decide ((0:Int) < (k:Int))=true:=decide_eq_true (by omega);have hwr:IntKind.i64.wrap ((k:Int) - 1)=(k1:Int):=(by rw[show(k:Int) - 1=(k1:Int) by omega];exact IntWalk.i64_in _ (by omega));have hi1:(k1:Int) < (cs.length:Int):=(by omega);have hi2:(k:Int) < (cs.length:Int):=(by omega);replace hP:=qH hP;replace ht:=qH ht;replace hm1:=qH hm1;replace hk1:=qH hk1;replace hB:=qH hB;clear q0 j0;refine wp_region_bw hmx (by kernel_rfl) ?_
   repeat (refine WQ.step fun K hK=>?_;go_simp;first|(refine hK _ ?_;clear hK K)|(apply Exists.intro;refine⟨fun wq hC=>?_,hK _ ?_⟩;(·(first|with_reducible rfl|(obtain⟨⟨f0,f1⟩,f2⟩:=HR2.out wq hC;go_simp;first|done|with_reducible rfl|with_reducible exact⟨rfl,rfl⟩)));clear hK K))
   (refine WQ.step fun K hK=>?_;go_simp;first|(refine hK _ ?_;clear hK K)|(apply Exists.intro;refine⟨fun wq hC=>?_,hK _ ?_⟩;(·(refine(HCm.out wq hC).mono ?_;rintro e w' ⟨rfl,hq⟩;exact⟨rfl,btt hC hq.below⟩));clear hK K))
   repeat (refine WQ.step fun K hK=>?_;go_simp;first|(refine hK _ ?_;clear hK K)|(apply Exists.intro;refine⟨fun wq hC=>?_,hK _ ?_⟩;(·(first|with_reducible rfl|(go_simp;first|done|with_reducible rfl|with_reducible exact⟨rfl,rfl⟩)));clear hK K))
   refine WQ.nil ?_;intro w4 hb4;rw[<-hBz];clear hBz;cases B;rotate_left
   ·rw[if_pos rfl] at hE;replace hE:=qH hE;have hbf:=btt hb02 hb4;go_wp2_with fail
    go_ret;exact⟨ret_int hE.out,hbf⟩
  all_goals
   rw[if_neg (by decide)] at hE;obtain⟨g0,g1,g2,g3⟩:=HT.out w4 hb4;obtain⟨f0,f1,f2⟩:=HC.out w4 hb4;unfold outsE at hE;simp only at hE
   by_cases hq0:l1.length < 1
   ·have dq:decide ((l1.length:Int) < 1)=true:=decide_eq_true (by omega);rw[if_pos (by omega)] at hE;replace hE:=qH hE;have hbf:=btt hb02 hb4;clear hq0;go_wp2_with fail
    go_ret;exact⟨ret_int hE.out,hbf⟩
   have dq:decide ((l1.length:Int) < 1)=false:=decide_eq_false (by omega);by_cases hq1:1024 < l1.length
   ·have dq1:decide ((1024:Int) < (l1.length:Int))=true:=decide_eq_true (by omega);rw[if_pos (by omega)] at hE;replace hE:=qH hE;have hbf:=btt hb02 hb4;clear hq0 hq1;go_wp2_with fail
    go_ret;exact⟨ret_int hE.out,hbf⟩
   have dq1:decide ((1024:Int) < (l1.length:Int))=false:=decide_eq_false (by omega);rw[if_neg (by omega)] at hE;obtain⟨F1,hF1⟩:=exE (firstE (outE n o l1) l1.length 0);obtain⟨F2,hF2⟩:=exE (firstE (calmE l1 l2) l2.length 0);rw[hF1,hF2] at hE;have s1:Hid (firstE (outE n o l1) (l1.length - 0) 0=F1):=hF1;have s2:Hid (firstE (calmE l1 l2) (l2.length - 0) 0=F2):=hF2;replace hE:=qH hE;have hl0:0 < l1.length:=(by omega);have hlb:l1.length<=1024:=(by omega);clear hF1 hF2 hq0 hq1;go_wp2_with fail
   clear g0 g1 g2 g3 f0 f1 f2 dq dq1;go_loopw [7] (fun iv wr=>∃j:Nat,iv = .int .i64 j/\j<=l1.length/\Hid (firstE (outE n o l1) (l1.length - j) j=F1)/\Below w3.heap.size w3 wr) (fun iv _=>l1.length - (intOf iv).toNat)
   case atStart=>exact⟨0,rfl,by omega,s1,hb4⟩
   case round=>
    clear s1 hb4;obtain⟨j,rfl,hj,ht,hbr⟩:=hrel;obtain⟨g0,g1,g2,g3⟩:=HT.out wr hbr;obtain⟨f0,f1,f2⟩:=HC.out wr hbr;by_cases hlt:j < l1.length
    ·have ht1:=ht.out;rw[show l1.length - j=(l1.length - (j+1))+1 by omega] at ht1;obtain⟨b1,o1,rfl,hc⟩:=(I1.out wr hbr).at hl0;obtain⟨u,cu,hu⟩:=hc j hlt;have HQ:=qH (fun(h0:0 < j)=>hc (j - 1) (by omega));have hfk:=outE_eq (n:=n) (o:=o) (l:=l1) (k:=j);obtain⟨q,hqq⟩:=exE (l1.getD j []);rw[hqq] at hu hfk;obtain⟨ua,uc,hus⟩:=hu.shape;subst hus;obtain⟨z,hz⟩:=exE (vecE q n o);obtain⟨D,hB⟩:=exE (unordB l1 j);rw[hz,hB] at hfk;unfold unordB at hB;rw[hqq] at hB;have HV:=qH (fun W (hb:Below wr.heap.size wr W)=>refVectorC (n:=n) (most:=o) (hu.keep hb));simp only[hz] at HV;obtain⟨m,hm⟩:=exE (q.length);rw[hm] at cu;simp only[hm] at HV;have HU:=qH (fun W (hb:Below wr.heap.size wr W)=>hu.keep hb);have HKc:=qH (fun W (hb:Below wr.heap.size wr W)=>And.intro (HT.out W (btt hbr hb)) (And.intro (HC.out W (btt hbr hb)) (cell_kept hb cu)));have hji:(j:Int) < (l1.length:Int):=(by omega);clear hc hu hz ht g0 g1 g2 g3 f0 f2;go_wp2_with fail
     refine wp_region_bw hmx (by kernel_rfl) ?_
     repeat (refine WQ.step fun K hK=>?_;go_simp;first|(refine hK _ ?_;clear hK K)|(apply Exists.intro;refine⟨fun wq hC=>?_,hK _ ?_⟩;(·(first|with_reducible rfl|(obtain⟨⟨g0,g1,g2,g3⟩,⟨f0,f1,f2⟩,cu⟩:=HKc.out wq hC;go_simp;first|done|with_reducible rfl|with_reducible exact⟨rfl,rfl⟩)));clear hK K))
     (refine WQ.step fun K hK=>?_;go_simp;first|(refine hK _ ?_;clear hK K)|(apply Exists.intro;refine⟨fun wq hC=>?_,hK _ ?_⟩;(·(refine(HV.out wq hC).mono ?_;rintro e w' ⟨rfl,rfl⟩;exact⟨rfl,hC⟩));clear hK K))
     repeat (refine WQ.step fun K hK=>?_;go_simp;first|(refine hK _ ?_;clear hK K)|(apply Exists.intro;refine⟨fun wq hC=>?_,hK _ ?_⟩;(·(first|with_reducible rfl|(go_simp;first|done|with_reducible rfl|with_reducible exact⟨rfl,rfl⟩)));clear hK K))
     refine WQ.nil ?_;intro w5 hb5;by_cases hz0:z=0
     ·subst hz0;rw[if_neg (fun h=>h rfl)] at hfk;go_wp2_with fail
      rcases Nat.eq_zero_or_pos j with h0|h0
      ·subst h0;obtain rfl:D=false:=(by rw[<-hB];exact decide_eq_false (fun h=>by omega));clear hB HQ;refine wp_region_bw hmx (by kernel_rfl) ?_
       repeat (refine WQ.step fun K hK=>?_;go_simp;first|(refine hK _ ?_;clear hK K)|(apply Exists.intro;refine⟨fun wq hC=>?_,hK _ ?_⟩;(·(first|with_reducible rfl|(go_simp;first|done|with_reducible rfl|with_reducible exact⟨rfl,rfl⟩)));clear hK K))
       refine WQ.nil ?_;intro w4 hb4;have hn:=qH (firstE_step ht1 hfk);have hbf:=btt (btt hbr hb5) hb4;clear ht1 hfk;go_wp2_with fail
       go_roundw
       case rel=>exact⟨_,by go_num,hlt,hn,hbf⟩
       case measure=>simp[intOf];omega
      ·obtain⟨p0,q0,j0⟩:=HQ.out h0;obtain⟨pa,pc,hs⟩:=j0.shape;subst hs;obtain⟨P,hP⟩:=exE (l1.getD (j - 1) []);rw[hP] at j0;rw[hP] at hB;obtain⟨t,ht⟩:=exE (cmpL P q);have hBz:D=decide (0<=t):=(by rw[<-hB,ht];simp[h0]);have HCm:=qH (fun W (hb:Below w5.heap.size w5 W)=>refOrderC (j0.keep (btt hb5 hb)) (HU.out W (btt hb5 hb)));simp only[ht] at HCm;obtain⟨m1,hm1⟩:=exE (P.length);obtain⟨k1,hk1⟩:=exE (j - 1);rw[hP,hm1,hk1] at q0;simp only[hm1,hm] at HCm;have HR2:=qH (fun W (hb:Below w5.heap.size w5 W)=>And.intro (HKc.out W (btt hb5 hb)) (cell_kept (btt hb5 hb) q0));have d1:decide ((0:Int) < (j:Int))=true:=decide_eq_true (by omega);have hwr:IntKind.i64.wrap ((j:Int) - 1)=(k1:Int):=(by rw[show(j:Int) - 1=(k1:Int) by omega];exact IntWalk.i64_in _ (by omega));have hi1:(k1:Int) < (l1.length:Int):=(by omega);replace hP:=qH hP;replace ht:=qH ht;replace hm1:=qH hm1;replace hk1:=qH hk1;replace hB:=qH hB;clear q0 j0;refine wp_region_bw hmx (by kernel_rfl) ?_
       repeat (refine WQ.step fun K hK=>?_;go_simp;first|(refine hK _ ?_;clear hK K)|(apply Exists.intro;refine⟨fun wq hC=>?_,hK _ ?_⟩;(·(first|with_reducible rfl|(obtain⟨⟨⟨g0,g1,g2,g3⟩,⟨f0,f1,f2⟩,cu⟩,cp⟩:=HR2.out wq hC;go_simp;first|done|with_reducible rfl|with_reducible exact⟨rfl,rfl⟩)));clear hK K))
       (refine WQ.step fun K hK=>?_;go_simp;first|(refine hK _ ?_;clear hK K)|(apply Exists.intro;refine⟨fun wq hC=>?_,hK _ ?_⟩;(·(refine(HCm.out wq hC).mono ?_;rintro e w' ⟨rfl,hq⟩;exact⟨rfl,btt hC hq.below⟩));clear hK K))
       repeat (refine WQ.step fun K hK=>?_;go_simp;first|(refine hK _ ?_;clear hK K)|(apply Exists.intro;refine⟨fun wq hC=>?_,hK _ ?_⟩;(·(first|with_reducible rfl|(go_simp;first|done|with_reducible rfl|with_reducible exact⟨rfl,rfl⟩)));clear hK K))
       refine WQ.nil ?_;intro w4 hb4;rw[<-hBz];clear hBz;cases D
       ·have hn:=qH (firstE_step ht1 hfk);have hbf:=btt (btt hbr hb5) hb4;clear ht1 hfk;go_wp2_with fail
        go_roundw
        case rel=>exact⟨_,by go_num,hlt,hn,hbf⟩
        case measure=>simp[intOf];omega
       ·have hn:=firstE_stop ht1 (by rw[hfk];decide);rw[hfk] at hn
        have hE14:Hid ((14:Int)=E):=by
         have:=hE.out
         rw[<-hn] at this;exact this
        have hbf:=btt hb02 (btt (btt hbr hb5) hb4);clear ht1 hfk hn;go_wp2_with fail
        go_ret;exact⟨ret_int hE14.out,hbf⟩
     ·rw[if_pos hz0] at hfk;have hn:=firstE_stop ht1 (by rw[hfk];exact hz0);rw[hfk] at hn
      have hEE:Hid (z=E):=by
       have:=hE.out
       rw[<-hn,if_pos hz0] at this;exact this
      have hz1:(z != 0)=true:=(by simpa using hz0);have hbf:=btt hb02 (btt hbr hb5);clear ht1 hfk hn;go_wp2_with fail
      go_ret;exact⟨ret_int hEE.out,hbf⟩
    ·have hF:F1=0:=by
      have:=ht.out
      rw[show l1.length - j=0 by omega] at this;exact this.symm
     have hEE:Hid (F2=E):=by
      have:=hE.out
      rw[hF,if_neg (fun h=>h rfl)] at this;exact this
     clear ht hF hE;go_wp2_with fail
     obtain⟨wo,hwo⟩:=exF (wr);rw[<-hwo];rw[<-hwo] at hbr;clear hwo g0 g1 g2 g3 f0 f1 f2;go_loopw [9] (fun iv wr=>∃j:Nat,iv = .int .i64 j/\j<=l2.length/\Hid (firstE (calmE l1 l2) (l2.length - j) j=F2)/\Below w3.heap.size w3 wr) (fun iv _=>l2.length - (intOf iv).toNat)
     case atStart=>exact⟨0,rfl,by omega,s2,hbr⟩
     case round=>
      clear s2 hbr;obtain⟨j,rfl,hj,ht,hbr⟩:=hrel;obtain⟨f0,f1,f2⟩:=HC.out wr hbr;by_cases hlt:j < l2.length
      ·have ht1:=ht.out;rw[show l2.length - j=(l2.length - (j+1))+1 by omega] at ht1;obtain⟨b1,o1,rfl,hc⟩:=(I2.out wr hbr).at (by omega);obtain⟨u,cu,hu⟩:=hc j hlt;have HQ:=qH (fun(h0:0 < j)=>hc (j - 1) (by omega));have hfk:=calmE_eq (o:=l1) (l:=l2) (k:=j);obtain⟨q,hqq⟩:=exE (l2.getD j []);rw[hqq] at hu hfk;obtain⟨ua,uc,hus⟩:=hu.shape;subst hus;obtain⟨A,hA⟩:=exE (decide (q∈l1));obtain⟨D,hB⟩:=exE (unordB l2 j);rw[hA,hB] at hfk;unfold unordB at hB;rw[hqq] at hB;have HV:=qH (fun W (hb:Below wr.heap.size wr W)=>refHasC (I1.out W (btt hbr hb)) (hu.keep hb));simp only[hA] at HV;obtain⟨m,hm⟩:=exE (q.length);rw[hm] at cu;simp only[hm] at HV;have HU:=qH (fun W (hb:Below wr.heap.size wr W)=>hu.keep hb);have HKc:=qH (fun W (hb:Below wr.heap.size wr W)=>And.intro (HC.out W (btt hbr hb)) (cell_kept hb cu));have hji:(j:Int) < (l2.length:Int):=(by omega);clear hc hu hA ht f0 f1;go_wp2_with fail
       refine wp_region_bw hmx (by kernel_rfl) ?_
       repeat (refine WQ.step fun K hK=>?_;go_simp;first|(refine hK _ ?_;clear hK K)|(apply Exists.intro;refine⟨fun wq hC=>?_,hK _ ?_⟩;(·(first|with_reducible rfl|(obtain⟨⟨f0,f1,f2⟩,cu⟩:=HKc.out wq hC;go_simp;first|done|with_reducible rfl|with_reducible exact⟨rfl,rfl⟩)));clear hK K))
       (refine WQ.step fun K hK=>?_;go_simp;first|(refine hK _ ?_;clear hK K)|(apply Exists.intro;refine⟨fun wq hC=>?_,hK _ ?_⟩;(·(refine(HV.out wq hC).mono ?_;rintro e w' ⟨rfl,hb⟩;exact⟨rfl,btt hC hb⟩));clear hK K))
       repeat (refine WQ.step fun K hK=>?_;go_simp;first|(refine hK _ ?_;clear hK K)|(apply Exists.intro;refine⟨fun wq hC=>?_,hK _ ?_⟩;(·(first|with_reducible rfl|(go_simp;first|done|with_reducible rfl|with_reducible exact⟨rfl,rfl⟩)));clear hK K))
       refine WQ.nil ?_;intro w5 hb5;cases A
       ·rw[if_pos rfl] at hfk;have hn:=firstE_stop ht1 (by rw[hfk];decide);rw[hfk] at hn
        have hE6:Hid ((6:Int)=E):=by
         have:=hEE.out
         rw[<-hn] at this;exact this
        have hbf:=btt hb02 (btt hbr hb5);clear ht1 hfk hn;go_wp2_with fail
        go_ret;exact⟨ret_int hE6.out,hbf⟩
       ·go_wp2_with fail
        rcases Nat.eq_zero_or_pos j with h0|h0
        ·subst h0;obtain rfl:D=false:=(by rw[<-hB];exact decide_eq_false (fun h=>by omega));clear hB HQ;refine wp_region_bw hmx (by kernel_rfl) ?_
         repeat (refine WQ.step fun K hK=>?_;go_simp;first|(refine hK _ ?_;clear hK K)|(apply Exists.intro;refine⟨fun wq hC=>?_,hK _ ?_⟩;(·(first|with_reducible rfl|(go_simp;first|done|with_reducible rfl|with_reducible exact⟨rfl,rfl⟩)));clear hK K))
         refine WQ.nil ?_;intro w4 hb4;have hn:=qH (firstE_step ht1 hfk);have hbf:=btt (btt hbr hb5) hb4;clear ht1 hfk;go_wp2_with fail
         go_roundw
         case rel=>exact⟨_,by go_num,hlt,hn,hbf⟩
         case measure=>simp[intOf];omega
        ·obtain⟨p0,q0,j0⟩:=HQ.out h0;obtain⟨pa,pc,hs⟩:=j0.shape;subst hs;obtain⟨P,hP⟩:=exE (l2.getD (j - 1) []);rw[hP] at j0;rw[hP] at hB;obtain⟨t,ht⟩:=exE (cmpL P q);have hBz:D=decide (0<=t):=(by rw[<-hB,ht];simp[h0]);have HCm:=qH (fun W (hb:Below w5.heap.size w5 W)=>refOrderC (j0.keep (btt hb5 hb)) (HU.out W (btt hb5 hb)));simp only[ht] at HCm;obtain⟨m1,hm1⟩:=exE (P.length);obtain⟨k1,hk1⟩:=exE (j - 1);rw[hP,hm1,hk1] at q0;simp only[hm1,hm] at HCm;have HR2:=qH (fun W (hb:Below w5.heap.size w5 W)=>And.intro (HKc.out W (btt hb5 hb)) (cell_kept (btt hb5 hb) q0));have d1:decide ((0:Int) < (j:Int))=true:=decide_eq_true (by omega);have hwr:IntKind.i64.wrap ((j:Int) - 1)=(k1:Int):=(by rw[show(j:Int) - 1=(k1:Int) by omega];exact IntWalk.i64_in _ (by omega));have hi1:(k1:Int) < (l2.length:Int):=(by omega);replace hP:=qH hP;replace ht:=qH ht;replace hm1:=qH hm1;replace hk1:=qH hk1;replace hB:=qH hB;clear q0 j0;refine wp_region_bw hmx (by kernel_rfl) ?_
         repeat (refine WQ.step fun K hK=>?_;go_simp;first|(refine hK _ ?_;clear hK K)|(apply Exists.intro;refine⟨fun wq hC=>?_,hK _ ?_⟩;(·(first|with_reducible rfl|(obtain⟨⟨⟨f0,f1,f2⟩,cu⟩,cp⟩:=HR2.out wq hC;go_simp;first|done|with_reducible rfl|with_reducible exact⟨rfl,rfl⟩)));clear hK K))
         (refine WQ.step fun K hK=>?_;go_simp;first|(refine hK _ ?_;clear hK K)|(apply Exists.intro;refine⟨fun wq hC=>?_,hK _ ?_⟩;(·(refine(HCm.out wq hC).mono ?_;rintro e w' ⟨rfl,hq⟩;exact⟨rfl,btt hC hq.below⟩));clear hK K))
         repeat (refine WQ.step fun K hK=>?_;go_simp;first|(refine hK _ ?_;clear hK K)|(apply Exists.intro;refine⟨fun wq hC=>?_,hK _ ?_⟩;(·(first|with_reducible rfl|(go_simp;first|done|with_reducible rfl|with_reducible exact⟨rfl,rfl⟩)));clear hK K))
         refine WQ.nil ?_;intro w4 hb4;rw[<-hBz];clear hBz;cases D
         ·have hn:=qH (firstE_step ht1 hfk);have hbf:=btt (btt hbr hb5) hb4;clear ht1 hfk;go_wp2_with fail
          go_roundw
          case rel=>exact⟨_,by go_num,hlt,hn,hbf⟩
          case measure=>simp[intOf];omega
         ·have hn:=firstE_stop ht1 (by rw[hfk];decide);rw[hfk] at hn
          have hE14:Hid ((14:Int)=E):=by
           have:=hEE.out
           rw[<-hn] at this;exact this
          have hbf:=btt hb02 (btt (btt hbr hb5) hb4);clear ht1 hfk hn;go_wp2_with fail
          go_ret;exact⟨ret_int hE14.out,hbf⟩
      ·have hE0:Hid ((0:Int)=E):=by
        have:=ht.out
        rw[show l2.length - j=0 by omega] at this;rw[<-hEE.out,<-this];rfl
       have hb03:=btt hb02 hbr;clear ht;go_wp2_with fail
       go_ret;exact⟨ret_int hE0.out,hb03⟩
 ·rw[if_pos hz0] at hE;have hz1:(z != 0)=true:=by simpa using hz0
  replace hE:=qH hE;clear HP hB;go_enter Tryz.func143, Tryz.ntmps143
  go_wp2_with fail
  rw[<-hW1,<-hW2];replace hW1:=qH hW1;replace hW2:=qH hW2;refine HV.out.mono ?_;rintro e w3 ⟨rfl,rfl⟩;go_wp2_with fail
  go_ret;exact⟨ret_int hE.out,hb02⟩
theorem refCheckT {w:World}{v:Value}{n i o:Int}{cs:List Cs}(h:TaskV w v n i o cs) :
  Calls Tryz.prog 84 #[v] w fun e w'=>e = .returned (.int .i64 (chkT n i o cs))/\Below w.heap.size w w':=by
 have HT:=qH (fun W (hb:Below w.heap.size w W)=>h.keep hb);obtain⟨sv,rfl,hS⟩:=h;obtain⟨sa,sc,hs⟩:=hS.shape;subst hs;obtain⟨W1,hW1⟩:=exF (w.alloc (.cells #[.int .i64 n,.int .i64 i,.int .i64 o,.slice sa cs.length sc] 24));have hb1:Below w.heap.size w W1:=by rw[hW1];exact(Below.refl _ w).alloc (Nat.le_refl _) _
 have kT:W1.heap[w.heap.size]? = some (.cells #[.int .i64 n,.int .i64 i,.int .i64 o,.slice sa cs.length sc] 24):=by rw[hW1];exact heap_alloc_new _ _
 have HK:=qH (fun W (hb:Below W1.heap.size W1 W)=>keep4 hb (box4' kT));obtain⟨E,hE⟩:=exE (chkT n i o cs);rw[hE];unfold chkT at hE;have hNl:cs.length<=1954687338268:=by obtain⟨_,_,_,_,_,_,_,h⟩:=hS;exact h
 clear kT hS;obtain⟨g0,g1,g2,g3⟩:=HK.out W1 (Below.refl _ _);rw[hW1] at g0 g1 g2 g3;by_cases qn0:n < 1
 ·have dn0:decide ((n:Int) < 1)=true:=decide_eq_true qn0;rw[if_pos (by omega)] at hE;replace hE:=qH hE;clear qn0;go_enter Tryz.func84, Tryz.ntmps84
  go_wp2;go_ret;exact⟨ret_int hE.out,by rw[<-hW1];exact hb1⟩
 have dn0:decide ((n:Int) < 1)=false:=decide_eq_false qn0;by_cases qn1:5 < n
 ·have dn1:decide ((5:Int) < n)=true:=decide_eq_true qn1;rw[if_pos (by omega)] at hE;replace hE:=qH hE;clear qn1;clear qn0;go_enter Tryz.func84, Tryz.ntmps84
  go_wp2;go_ret;exact⟨ret_int hE.out,by rw[<-hW1];exact hb1⟩
 have dn1:decide ((5:Int) < n)=false:=decide_eq_false qn1;by_cases qi0:i < 1
 ·have di0:decide ((i:Int) < 1)=true:=decide_eq_true qi0;rw[if_pos (by omega)] at hE;replace hE:=qH hE;clear qi0;clear qn0 qn1;go_enter Tryz.func84, Tryz.ntmps84
  go_wp2;go_ret;exact⟨ret_int hE.out,by rw[<-hW1];exact hb1⟩
 have di0:decide ((i:Int) < 1)=false:=decide_eq_false qi0;by_cases qi1:8 < i
 ·have di1:decide ((8:Int) < i)=true:=decide_eq_true qi1;rw[if_pos (by omega)] at hE;replace hE:=qH hE;clear qi1;clear qn0 qn1 qi0;go_enter Tryz.func84, Tryz.ntmps84
  go_wp2;go_ret;exact⟨ret_int hE.out,by rw[<-hW1];exact hb1⟩
 have di1:decide ((8:Int) < i)=false:=decide_eq_false qi1;by_cases qo0:o < 1
 ·have do0:decide ((o:Int) < 1)=true:=decide_eq_true qo0;rw[if_pos (by omega)] at hE;replace hE:=qH hE;clear qo0;clear qn0 qn1 qi0 qi1;go_enter Tryz.func84, Tryz.ntmps84
  go_wp2;go_ret;exact⟨ret_int hE.out,by rw[<-hW1];exact hb1⟩
 have do0:decide ((o:Int) < 1)=false:=decide_eq_false qo0;by_cases qo1:8 < o
 ·have do1:decide ((8:Int) < o)=true:=decide_eq_true qo1;rw[if_pos (by omega)] at hE;replace hE:=qH hE;clear qo1;clear qn0 qn1 qi0 qi1 qo0;go_enter Tryz.func84, Tryz.ntmps84
  go_wp2;go_ret;exact⟨ret_int hE.out,by rw[<-hW1];exact hb1⟩
 have do1:decide ((8:Int) < o)=false:=decide_eq_false qo1;rw[if_neg (by omega)] at hE;clear qn0 qn1 qi0 qi1 qo0 qo1;by_cases qe0:cs.length < 1
 ·have de0:decide ((cs.length:Int) < 1)=true:=decide_eq_true (by omega);rw[if_pos (by omega)] at hE;replace hE:=qH hE;go_enter Tryz.func84, Tryz.ntmps84
  go_wp2;go_ret;exact⟨ret_int hE.out,by rw[<-hW1];exact hb1⟩
 have de0:decide ((cs.length:Int) < 1)=false:=decide_eq_false (by omega);by_cases qe1:1024 < cs.length
 ·have de1:decide ((1024:Int) < (cs.length:Int))=true:=decide_eq_true (by omega);rw[if_pos (by omega)] at hE;replace hE:=qH hE;go_enter Tryz.func84, Tryz.ntmps84
  go_wp2;go_ret;exact⟨ret_int hE.out,by rw[<-hW1];exact hb1⟩
 have de1:decide ((1024:Int) < (cs.length:Int))=false:=decide_eq_false (by omega);rw[if_neg (by omega)] at hE;have hlb:cs.length<=1024:=by omega
 have s1:Hid (firstE (caseE n i o cs) (cs.length - 0) 0=E):=hE;clear hE qe0 qe1;go_enter Tryz.func84, Tryz.ntmps84
 go_wp2_with fail
 rw[<-hW1];replace hW1:=qH hW1;clear g0 g1 g2 g3 dn0 dn1 di0 di1 do0 do1 de0 de1;go_loopw [3] (fun iv wr=>∃k:Nat,iv = .int .i64 k/\k<=cs.length/\Hid (firstE (caseE n i o cs) (cs.length - k) k=E)/\Below W1.heap.size W1 wr) (fun iv _=>cs.length - (intOf iv).toNat)
 case atStart=>exact⟨0,rfl,by omega,s1,Below.refl _ _⟩
 case round=>
  clear s1;obtain⟨k,rfl,hk,ht,hbr⟩:=hrel;obtain⟨g0,g1,g2,g3⟩:=HK.out wr hbr;by_cases hlt:k < cs.length
  ·have ht1:=ht.out;rw[show cs.length - k=(cs.length - (k+1))+1 by omega] at ht1;have HV:=refOneC (HT.out wr (btt hb1 hbr)) hlt;obtain⟨z,hz⟩:=exE (caseE n i o cs k);rw[hz] at HV;replace HV:=qH HV;clear ht;by_cases hz0:z=0
   ·have hn:=qH (firstE_step ht1 (by rw[hz,hz0]));subst hz0;clear ht1 hz;go_wp2_with fail
    refine HV.out.mono ?_;rintro e w2 ⟨rfl,hb2⟩;have hbf:=btt hbr hb2;go_wp2_with fail
    go_roundw
    case rel=>exact⟨k+1,by go_num,hlt,hn,hbf⟩
    case measure=>simp[intOf];omega
   ·have hn:=firstE_stop ht1 (by rw[hz];exact hz0);rw[hz] at hn;replace hn:=qH hn;have hz1:(z != 0)=true:=(by simpa using hz0);clear ht1 hz;go_wp2_with fail
    refine HV.out.mono ?_;rintro e w2 ⟨rfl,hb2⟩;have hbf:=btt hb1 (btt hbr hb2);go_wp2_with fail
    go_ret;exact⟨ret_int hn.out,hbf⟩
  ·have hE0:Hid ((0:Int)=E):=by
    have:=ht.out
    rw[show cs.length - k=0 by omega] at this;exact this
   have hbf:=btt hb1 hbr;clear ht;go_wp2_with fail
   go_ret;exact⟨ret_int hE0.out,hbf⟩
def fewV (l:Jb):Bool:=decide (l.length<=30) && l.all (fun x=>decide (x.length<=10))
def fewC (c:Cs):Bool:=decide (c.1.length<=10) && (fewV c.2.1 && fewV c.2.2)
def fewT (cs:List Cs):Bool:=decide (cs.length<=30) && cs.all fewC
theorem drop_consD {α:Type}{xs:List α}{i:Nat}{d x:α}(h:i < xs.length) (hx:xs.getD i d=x):xs.drop i=x::xs.drop (i+1):=by
 rw[List.drop_eq_getElem_cons h,<-hx,getD_eq h]
theorem refFewV {w:World}{u:Value}{l:Jb}(hx:Intss w u l) :
  Calls Tryz.prog 81 #[u,.int .i64 30] w fun e w'=>e = .returned (.bool (fewV l))/\w'=w:=by
 obtain⟨xa,xc,xb,xo,rfl,hxa,hxc,hxl⟩:=hx;unfold fewV;by_cases hn:l.length<=30
 ·rw[decide_eq_true hn,Bool.true_and];have dn:decide ((30:Int) < (l.length:Int))=false:=decide_eq_false (by omega);obtain⟨A,hA⟩:∃A,(l.all fun x=>decide (x.length<=10))=A:=⟨_,rfl⟩;rw[hA];have h0:Hid (((l.drop 0).all fun x=>decide (x.length<=10))=A):=hA;replace hxc:=qH hxc;clear hA;go_enter Tryz.func81, Tryz.ntmps81
  go_wp2_with fail
  clear dn;go_loopw [5] (fun iv wr=>∃k:Nat,iv = .int .i64 k/\k<=l.length/\Hid (((l.drop k).all fun x=>decide (x.length<=10))=A)/\wr=w) (fun iv _=>l.length - (intOf iv).toNat)
  case atStart=>exact⟨0,rfl,by omega,h0,rfl⟩
  case round=>
   clear h0;obtain⟨k,rfl,hk,ht,rfl⟩:=hrel;by_cases hlt:k < l.length
   ·obtain rfl:=hxa (by omega);obtain⟨u,cu,hu⟩:=hxc.out k hlt;obtain⟨x,hx⟩:=exE (l.getD k []);rw[hx] at hu;have ht2:=ht.out;rw[drop_consD hlt hx,List.all_cons] at ht2;obtain⟨ua,uc,hs⟩:=hu.shape;subst hs;clear hu hx ht;by_cases h10:x.length<=10
    ·rw[decide_eq_true h10,Bool.true_and] at ht2;replace ht2:=qH ht2;have d1:decide ((10:Int) < (x.length:Int))=false:=decide_eq_false (by omega);go_wp2_with fail
     go_roundw
     case rel=>exact⟨k+1,by go_num,hlt,ht2,by first|rfl|trivial⟩
     case measure=>simp[intOf];omega
    ·rw[decide_eq_false h10,Bool.false_and] at ht2;subst ht2;have d1:decide ((10:Int) < (x.length:Int))=true:=decide_eq_true (by omega);go_wp2_with fail
     go_ret;exact⟨rfl,rfl⟩
   ·have hE:true=A:=by
     have:=ht.out
     rw[List.drop_eq_nil_of_le (by omega)] at this;exact this
    clear ht;subst hE;go_wp2_with fail
    go_ret;exact⟨rfl,rfl⟩
 ·rw[decide_eq_false hn,Bool.false_and];have dn:decide ((30:Int) < (l.length:Int))=true:=decide_eq_true (by omega);clear hxc hn;go_enter Tryz.func81, Tryz.ntmps81
  go_wp2;go_ret;exact⟨rfl,rfl⟩
theorem refFewT {w:World}{v:Value}{n i o:Int}{cs:List Cs}(h:TaskV w v n i o cs) :
  Calls Tryz.prog 33 #[v] w fun e w'=>e = .returned (.bool (fewT cs))/\Below w.heap.size w w':=by
 obtain⟨sv,rfl,hS⟩:=h;obtain⟨sa,sc,hs⟩:=hS.shape;subst hs;obtain⟨W1,hW1⟩:=exF (w.alloc (.cells #[.int .i64 n,.int .i64 i,.int .i64 o,.slice sa cs.length sc] 24));have hb1:Below w.heap.size w W1:=by rw[hW1];exact(Below.refl _ w).alloc (Nat.le_refl _) _
 have kT:W1.heap[w.heap.size]? = some (.cells #[.int .i64 n,.int .i64 i,.int .i64 o,.slice sa cs.length sc] 24):=by rw[hW1];exact heap_alloc_new _ _
 have HK:=qH (fun W (hb:Below W1.heap.size W1 W)=>keep4 hb (box4' kT));have HS:=qH (fun W (hb:Below W1.heap.size W1 W)=>(hS.keep hb1).keep hb);clear kT hS;obtain⟨g0,g1,g2,g3⟩:=HK.out W1 (Below.refl _ _);rw[hW1] at g0 g1 g2 g3;unfold fewT;by_cases hn:cs.length<=30
 ·rw[decide_eq_true hn,Bool.true_and];have dn:decide ((30:Int) < (cs.length:Int))=false:=decide_eq_false (by omega);obtain⟨A,hA⟩:=exE (cs.all fewC);rw[hA];have h0:Hid ((cs.drop 0).all fewC=A):=hA;clear hA;go_enter Tryz.func33, Tryz.ntmps33
  go_wp2_with fail
  rw[<-hW1];replace hW1:=qH hW1;clear dn g0 g1 g2 g3;go_loopw [3] (fun iv wr=>∃k:Nat,iv = .int .i64 k/\k<=cs.length/\Hid ((cs.drop k).all fewC=A)/\Below W1.heap.size W1 wr) (fun iv _=>cs.length - (intOf iv).toNat)
  case atStart=>exact⟨0,rfl,by omega,h0,Below.refl _ _⟩
  case round=>
   clear h0;obtain⟨k,rfl,hk,ht,hbr⟩:=hrel;obtain⟨g0,g1,g2,g3⟩:=HK.out wr hbr;by_cases hlt:k < cs.length
   ·obtain⟨b,off,rfl,hc⟩:=(HS.out wr hbr).at (by omega);obtain⟨u0,u1,u2,c0,c1,c2,i0,i1,i2⟩:=hc k hlt;obtain⟨c,hcc⟩:=exE (cs.getD k csNil);rw[hcc] at i0 i1 i2;have ht2:=ht.out;rw[drop_consD hlt hcc,List.all_cons] at ht2;obtain⟨l0,l1,l2⟩:=c;simp only at i0 i1 i2
    obtain⟨x0,y0,hs⟩:=i0.shape;subst hs;obtain⟨x1,y1,hs⟩:=i1.shape;subst hs;obtain⟨x2,y2,hs⟩:=i2.shape;subst hs;obtain⟨W2,hW2⟩:=exF (wr.alloc (.cells #[.slice x0 l0.length y0,.slice x1 l1.length y1,.slice x2 l2.length y2] 95));have hb2:Below wr.heap.size wr W2:=(by rw[hW2];exact(Below.refl _ _).alloc (Nat.le_refl _) _);have kC:W2.heap[wr.heap.size]? = some (.cells #[.slice x0 l0.length y0,.slice x1 l1.length y1,.slice x2 l2.length y2] 95):=(by rw[hW2];exact heap_alloc_new _ _);obtain⟨r0,r1,r2⟩:=box3' kC;have s0:=r0;have s1:=r1;have s2:=r2;rw[hW2] at r0 r1 r2;have F1:=qH (refFewV (i1.keep hb2));have F2:=qH (refFewV (i2.keep hb2));have hbf:=btt hbr hb2;have hbg:=btt hb1 hbf;clear i0 i1 i2 hcc ht kC hc;unfold fewC at ht2;simp only at ht2
    obtain⟨P1,hP1⟩:=exE (fewV l1);obtain⟨P2,hP2⟩:=exE (fewV l2);rw[hP1] at F1 ht2;rw[hP2] at F2 ht2;clear hP1 hP2;by_cases h10:l0.length<=10
    ·have d1:decide ((10:Int) < (l0.length:Int))=false:=decide_eq_false (by omega);rw[decide_eq_true h10,Bool.true_and] at ht2;cases P1
     ·rw[Bool.false_and,Bool.false_and] at ht2;subst ht2;go_wp2_with fail
      rw[<-hW2];replace hW2:=qH hW2;refine F1.out.mono ?_;rintro e w3 ⟨rfl,rfl⟩;go_wp2_with fail
      go_ret;exact⟨rfl,hbg⟩
     ·rw[Bool.true_and] at ht2;cases P2
      ·rw[Bool.false_and] at ht2;subst ht2;go_wp2_with fail
       rw[<-hW2];replace hW2:=qH hW2;refine F1.out.mono ?_;rintro e w3 ⟨rfl,rfl⟩;go_wp2_with fail
       refine F2.out.mono ?_;rintro e w3 ⟨rfl,rfl⟩;go_wp2_with fail
       go_ret;exact⟨rfl,hbg⟩
      ·rw[Bool.true_and] at ht2;replace ht2:=qH ht2;go_wp2_with fail
       rw[<-hW2];replace hW2:=qH hW2;refine F1.out.mono ?_;rintro e w3 ⟨rfl,rfl⟩;go_wp2_with fail
       refine F2.out.mono ?_;rintro e w3 ⟨rfl,rfl⟩;go_wp2_with fail
       go_roundw
       case rel=>exact⟨k+1,by go_num,hlt,ht2,hbf⟩
       case measure=>simp[intOf];omega
    ·have d1:decide ((10:Int) < (l0.length:Int))=true:=decide_eq_true (by omega);rw[decide_eq_false h10,Bool.false_and,Bool.false_and] at ht2;subst ht2;go_wp2_with fail
     go_ret;exact⟨rfl,by rw[<-hW2];exact hbg⟩
   ·have hE:true=A:=by
     have:=ht.out
     rw[List.drop_eq_nil_of_le (by omega)] at this;exact this
    have hbg:=btt hb1 hbr;clear ht;subst hE;go_wp2_with fail
    go_ret;exact⟨rfl,hbg⟩
 ·rw[decide_eq_false hn,Bool.false_and];have dn:decide ((30:Int) < (cs.length:Int))=true:=decide_eq_true (by omega);clear hn;go_enter Tryz.func33, Tryz.ntmps33
  go_wp2;go_ret;exact⟨rfl,by rw[<-hW1];exact hb1⟩
end Go.Proofs.YtcnedkkcgdkioaaGreat

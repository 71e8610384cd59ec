/- Texts of this claim, put together: TY TZ NA MB0. -/
import Derived.Test.YtcnedkkcgdkioaaGreatKSt

set_option maxRecDepth 100000
set_option maxHeartbeats 12800000
namespace Go.Proofs.YtcnedkkcgdkioaaGreat
open Go.RowKit
theorem eqExs {w:World}{u v:Value}{xs ys:List Ex}(hx:ExS w u xs) (hy:ExS w v ys) :
  Calls Tryz.prog 108 #[u,v,.func (.func 109) #[] #[]] w fun e w'=>e = .returned (.bool (decide (xs=ys)))/\Below w.heap.size w w':=by
 obtain⟨xa,xc,xb,xo,rfl,hxa,hxc,_⟩:=hx;obtain⟨ya,yc,yb,yo,rfl,hya,hyc,_⟩:=hy;obtain⟨B,hB⟩:∃B,decide (xs=ys)=B:=⟨_,rfl⟩;rw[hB];replace hB:=qH hB;replace hxc:=qH hxc;replace hyc:=qH hyc;by_cases hlen:xs.length=ys.length
 ·rw[<-hlen];replace hlen:=qH hlen;have h0:Hid (xs.take 0=ys.take 0):=rfl;have hb0:=Below.refl w.heap.size w;go_enter Tryz.func108, Tryz.ntmps108
  go_wp2;go_loopw [17] (fun iv wr=>∃i:Nat,iv = .int .i64 i/\i<=xs.length/\Hid (xs.take i=ys.take i)/\Below w.heap.size w wr) (fun iv _=>xs.length - (intOf iv).toNat)
  case atStart=>exact⟨0,rfl,by omega,h0,hb0⟩
  case round=>
   clear h0 hb0;obtain⟨i,rfl,hi,ht,hbr⟩:=hrel;by_cases hlt:i < xs.length
   ·obtain rfl:=hxa (by omega);obtain rfl:=hya (by rw[<-hlen.out];omega);have hlt':i < ys.length:=(by rw[<-hlen.out];exact hlt);obtain⟨u1,u2,c0,c1,c2,i1,i2⟩:=hxc.out i hlt;obtain⟨v1,v2,d0,d1,d2,j1,j2⟩:=hyc.out i hlt';obtain⟨x,hx⟩:=exE (xs.getD i exNil);obtain⟨y,hy⟩:=exE (ys.getD i exNil);rw[hx] at c0 i1 i2;rw[hy] at d0 j1 j2;replace c0:=cell_kept hbr c0;replace c1:=cell_kept hbr c1;replace c2:=cell_kept hbr c2;replace d0:=cell_kept hbr d0;replace d1:=cell_kept hbr d1;replace d2:=cell_kept hbr d2;have HS:=qH (fun W (hb:Below wr.heap.size wr W)=>sameX (x:=x) (y:=y) (i1.keep (btt hbr hb)) (i2.keep (btt hbr hb)) (j1.keep (btt hbr hb)) (j2.keep (btt hbr hb)));obtain⟨ua,uc,hu1⟩:=i1.shape;obtain⟨ub,ud,hu2⟩:=i2.shape;obtain⟨va,vc,hv1⟩:=j1.shape;obtain⟨vb,vd,hv2⟩:=j2.shape;subst hu1 hu2 hv1 hv2;obtain⟨x0,xw,xv⟩:=x;obtain⟨y0,yw,yv⟩:=y;have hi1:(i:Int) < (xs.length:Int):=(by omega);have hi2:(i:Int) < (ys.length:Int):=(by omega);obtain⟨W5,hW5⟩:=exF (wr.alloc (.cells #[.int .i64 x0,.slice ua xw.length uc,.slice ub xv.length ud] 80));have hb5:Below wr.heap.size wr W5:=(by rw[hW5];exact(Below.refl _ _).alloc (Nat.le_refl _) _);have hs5:W5.heap.size=wr.heap.size+1:=(by rw[hW5];simp);have k5:W5.heap[wr.heap.size]? = some (.cells #[.int .i64 x0,.slice ua xw.length uc,.slice ub xv.length ud] 80):=(by rw[hW5];exact heap_alloc_new _ _);obtain⟨W6,hW6⟩:=exF (W5.alloc (.cells #[.int .i64 y0,.slice va yw.length vc,.slice vb yv.length vd] 80));have hb6:Below W5.heap.size W5 W6:=(by rw[hW6];exact(Below.refl _ _).alloc (Nat.le_refl _) _);have k6:W6.heap[wr.heap.size+1]? = some (.cells #[.int .i64 y0,.slice va yw.length vc,.slice vb yv.length vd] 80):=(by rw[<-hs5,hW6];exact heap_alloc_new _ _);obtain⟨p0,p1,p2⟩:=box3' (keptO hb6 k5);obtain⟨q0,q1,q2⟩:=box3' k6;replace d0:=cell_kept hb5 d0;replace d1:=cell_kept hb5 d1;replace d2:=cell_kept hb5 d2;have hb56:=btt hb5 hb6;clear i1 i2 j1 j2 k5 k6;rw[hW6] at p0 p1 p2 q0 q1 q2;rw[hW5] at p0 p1 p2 q0 q1 q2 d0 d1 d2 hs5;go_wp2_with fail
    rw[<-hW5,<-hW6];replace hW5:=qH hW5;replace hW6:=qH hW6;refine(HS.out W6 hb56).mono ?_;rintro e w7 ⟨rfl,hb7⟩;have hbe:=btt hbr (btt hb56 hb7);rw[sameB_iff];clear p0 p1 p2 q0 q1 q2 c0 c1 c2 d0 d1 d2 hs5 HS;by_cases he:((x0,xw,xv):Ex)=(y0,yw,yv)
    ·rw[decide_eq_true he];have ht2:Hid (xs.take (i+1)=ys.take (i+1)):=takes_next ht.out hlt hlt' (by rw[hx,hy,he]);clear hx hy he ht;go_wp2_with fail
     go_roundw
     case rel=>exact⟨i+1,by go_num,hlt,ht2,hbe⟩
     case measure=>simp[intOf];omega
    ·rw[decide_eq_false he]
     have hBf:Hid (B=false):=by
      show _=_;rw[<-hB.out];refine decide_eq_false fun h=>he ?_;rw[<-hx,<-hy,h]
     clear hx hy he ht;go_wp2_with fail
     go_ret;exact⟨by rw[hBf.out];rfl,hbe⟩
   ·have hBt:Hid (B=true):=by
     show _=_;rw[<-hB.out];exact decide_eq_true (takes_all ht.out (by omega) (by rw[<-hlen.out];omega))
    clear ht;go_wp2;go_ret;exact⟨by rw[hBt.out];rfl,hbr⟩
 ·have hBf:B=false:=by rw[<-hB.out];exact decide_eq_false fun h=>hlen (by rw[h])
  subst hBf;have h1:((xs.length:Int) == (ys.length:Int))=false:=by simp;omega
  go_enter Tryz.func108, Tryz.ntmps108
  go_wp2;go_ret;exact⟨rfl,Below.refl _ _⟩
def verE (n i o:Int) (cs:List Cs) (an:Int) (ss:Jc) (r tn:Int) (vs:Jb) (xs:List Ex):Int:=
 if bldE n i o cs an ss r ≠ 0 then bldE n i o cs an ss r else
  if tn=n/\vs=(sysP n.toNat cs (wL ss r.toNat 0)).1/\xs=(sysP n.toNat cs (wL ss r.toNat 0)).2 then 0 else 3
theorem verifyC {w:World}{v:Value}{n i o an r tn:Int}{cs:List Cs}{ss:Jc}{vs:Jb}{xs:List Ex}(h:SysV w v n i o cs an ss r tn vs xs) (hfew:fewP n i o cs an ss r=true) :
  Calls Tryz.prog 60 #[v] w fun e w'=>e = .returned (.int .i64 (verE n i o cs an ss r tn vs xs))/\Below w.heap.size w w':=by
 obtain⟨a,c,a',c',va,vc,xa,xc,rfl,hP,hV,hX⟩:=h;have HB0:=qH (fun W (hb:Below w.heap.size w W)=>buildAll (hP.keep hb) hfew);obtain⟨E,hE⟩:=exE (bldE n i o cs an ss r);obtain⟨P1,hP1⟩:=exE ((sysP n.toNat cs (wL ss r.toNat 0)).1);obtain⟨P2,hP2⟩:=exE ((sysP n.toNat cs (wL ss r.toNat 0)).2);unfold verE;rw[hE,hP1,hP2];replace hE:=qH hE;replace hP1:=qH hP1;replace hP2:=qH hP2;obtain⟨W1,hW1⟩:=exF (w.alloc (.cells #[.int .i64 n,.int .i64 i,.int .i64 o,.slice a cs.length c,.int .i64 an,.slice a' ss.length c',.int .i64 r,.int .i64 tn,.slice va vs.length vc,.slice xa xs.length xc] 35));have hb1:Below w.heap.size w W1:=by rw[hW1];exact(Below.refl _ w).alloc (Nat.le_refl _) _
 have k1:W1.heap[w.heap.size]? = some (.cells #[.int .i64 n,.int .i64 i,.int .i64 o,.slice a cs.length c,.int .i64 an,.slice a' ss.length c',.int .i64 r,.int .i64 tn,.slice va vs.length vc,.slice xa xs.length xc] 35):=by rw[hW1];exact heap_alloc_new _ _
 have HK:=qH (fun W (hb:Below W1.heap.size W1 W)=>And.intro (keep7 hb (box10' k1).1) (keep3' hb (box10' k1).2));obtain⟨⟨p0,p1,p2,p3,p4,p5,p6⟩,p7,p8,p9⟩:=HK.out W1 (Below.refl _ _);rw[hW1] at p0 p1 p2 p3 p4 p5 p6;clear k1 hP p7 p8 p9;by_cases hE0:E=0
 ·subst hE0;rw[if_neg (fun h=>h rfl)];have HB:Hid (∀W,Below w.heap.size w W->Calls Tryz.prog 28 #[.agg #[.int .i64 n,.int .i64 i,.int .i64 o,.slice a cs.length c,.int .i64 an,.slice a' ss.length c',.int .i64 r]] W fun e w'=>(∃v',e = .returned (.tuple #[v',.int .i64 0])/\SysV w' v' n i o cs an ss r n P1 P2)/\Below W.heap.size W w'):=fun W hb=>(HB0.out W hb).mono (fun e w' hO=>⟨hO.1.elim (fun h=>absurd hE.out h.1) (fun h=>by rw[<-hP1.out,<-hP2.out];exact h.2),hO.2⟩);obtain⟨R,hR⟩:∃R,(if tn=n/\vs=P1/\xs=P2 then (0:Int) else 3)=R:=⟨_,rfl⟩;rw[hR];replace hR:=qH hR;go_enter Tryz.func60, Tryz.ntmps60
  go_wp2_with fail
  rw[<-hW1];replace hW1:=qH hW1;refine(HB.out W1 hb1).mono ?_;rintro e w2 ⟨⟨v2,rfl,a2,c2,a2',c2',va2,vc2,xa2,xc2,rfl,-,hV2,hX2⟩,hb2⟩;by_cases en:tn=n
  ·have en2:=en.symm;subst en2;have hb02:=btt hb1 hb2;obtain⟨W3,hW3⟩:=exF (w2.alloc (.cells #[.int .i64 n,.int .i64 i,.int .i64 o,.slice a2 cs.length c2,.int .i64 an,.slice a2' ss.length c2',.int .i64 r,.int .i64 n,.slice va2 P1.length vc2,.slice xa2 P2.length xc2] 35));have hb3:Below w2.heap.size w2 W3:=(by rw[hW3];exact(Below.refl _ _).alloc (Nat.le_refl _) _);have hb13:=btt hb2 hb3;have hb03:=btt hb02 hb3;have k3:W3.heap[w2.heap.size]? = some (.cells #[.int .i64 n,.int .i64 i,.int .i64 o,.slice a2 cs.length c2,.int .i64 an,.slice a2' ss.length c2',.int .i64 r,.int .i64 n,.slice va2 P1.length vc2,.slice xa2 P2.length xc2] 35):=(by rw[hW3];exact heap_alloc_new _ _);have HT:=qH (fun W (hb:Below W3.heap.size W3 W)=>keep3' hb (box10' k3).2);have HV:=qH (fun W (hb:Below W3.heap.size W3 W)=>eqVws (hV.keep (btt hb03 hb)) (hV2.keep (btt hb3 hb)));have HX:=qH (fun W (hb:Below W3.heap.size W3 W)=>eqExs (hX.keep (btt hb03 hb)) (hX2.keep (btt hb3 hb)));obtain⟨-,p7,p8,p9⟩:=HK.out W3 hb13;obtain⟨q7,q8,q9⟩:=HT.out W3 (Below.refl _ _);rw[hW3] at p7 p8 p9 q7 q8 q9;clear p0 p1 p2 p3 p4 p5 p6 k3 hV hX hV2 hX2;by_cases ev:vs=P1
   ·simp only[decide_eq_true ev] at HV;by_cases ex:xs=P2
    ·simp only[decide_eq_true ex] at HX;have hR0:=qH (show R=0 by rw[<-hR.out,if_pos ⟨rfl,ev,ex⟩]);clear ev ex;go_wp2_with fail
     rw[<-hW3];replace hW3:=qH hW3;refine(HV.out W3 (Below.refl _ _)).mono ?_;rintro e w4 ⟨rfl,hq4⟩;have hb4:Below W3.heap.size W3 w4:=hq4.below;clear p7 p8 p9 q7 q8 q9;obtain⟨-,p7,p8,p9⟩:=HK.out w4 (btt hb13 hb4);obtain⟨q7,q8,q9⟩:=HT.out w4 hb4;go_wp2_with fail
     refine(HX.out w4 hb4).mono ?_;rintro e w5 ⟨rfl,hb5⟩;have hbe:=btt hb03 (btt hb4 hb5);clear p7 p8 p9 q7 q8 q9;go_wp2_with fail
     go_ret;exact⟨by rw[hR0.out]<;>rfl,hbe⟩
    ·simp only[decide_eq_false ex] at HX;have hR0:=qH (show R=3 by rw[<-hR.out,if_neg (fun h=>ex h.2.2)]);clear ev ex;go_wp2_with fail
     rw[<-hW3];replace hW3:=qH hW3;refine(HV.out W3 (Below.refl _ _)).mono ?_;rintro e w4 ⟨rfl,hq4⟩;have hb4:Below W3.heap.size W3 w4:=hq4.below;clear p7 p8 p9 q7 q8 q9;obtain⟨-,p7,p8,p9⟩:=HK.out w4 (btt hb13 hb4);obtain⟨q7,q8,q9⟩:=HT.out w4 hb4;go_wp2_with fail
     refine(HX.out w4 hb4).mono ?_;rintro e w5 ⟨rfl,hb5⟩;have hbe:=btt hb03 (btt hb4 hb5);clear p7 p8 p9 q7 q8 q9;go_wp2_with fail
     go_ret;exact⟨by rw[hR0.out]<;>rfl,hbe⟩
   ·simp only[decide_eq_false ev] at HV;have hR0:=qH (show R=3 by rw[<-hR.out,if_neg (fun h=>ev h.2.1)]);clear ev;go_wp2_with fail
    rw[<-hW3];replace hW3:=qH hW3;refine(HV.out W3 (Below.refl _ _)).mono ?_;rintro e w4 ⟨rfl,hq4⟩;have hb4:Below W3.heap.size W3 w4:=hq4.below;have hbe:=btt hb03 hb4;clear p7 p8 p9 q7 q8 q9;go_wp2_with fail
    go_ret;exact⟨by rw[hR0.out]<;>rfl,hbe⟩
  ·have hR0:=qH (show R=3 by rw[<-hR.out,if_neg (fun h=>en h.1)]);have en1:(tn != n)=true:=(by simpa using en);have hb02:=btt hb1 hb2;obtain⟨W3,hW3⟩:=exF (w2.alloc (.cells #[.int .i64 n,.int .i64 i,.int .i64 o,.slice a2 cs.length c2,.int .i64 an,.slice a2' ss.length c2',.int .i64 r,.int .i64 n,.slice va2 P1.length vc2,.slice xa2 P2.length xc2] 35));have hb3:Below w2.heap.size w2 W3:=(by rw[hW3];exact(Below.refl _ _).alloc (Nat.le_refl _) _);have hb13:=btt hb2 hb3;have hb03:=btt hb02 hb3;have k3:W3.heap[w2.heap.size]? = some (.cells #[.int .i64 n,.int .i64 i,.int .i64 o,.slice a2 cs.length c2,.int .i64 an,.slice a2' ss.length c2',.int .i64 r,.int .i64 n,.slice va2 P1.length vc2,.slice xa2 P2.length xc2] 35):=(by rw[hW3];exact heap_alloc_new _ _);have HT:=qH (fun W (hb:Below W3.heap.size W3 W)=>keep3' hb (box10' k3).2);have HV:=qH (fun W (hb:Below W3.heap.size W3 W)=>eqVws (hV.keep (btt hb03 hb)) (hV2.keep (btt hb3 hb)));have HX:=qH (fun W (hb:Below W3.heap.size W3 W)=>eqExs (hX.keep (btt hb03 hb)) (hX2.keep (btt hb3 hb)));obtain⟨-,p7,p8,p9⟩:=HK.out W3 hb13;obtain⟨q7,q8,q9⟩:=HT.out W3 (Below.refl _ _);rw[hW3] at p7 p8 p9 q7 q8 q9;clear p0 p1 p2 p3 p4 p5 p6 k3 hV hX hV2 hX2;clear en HV HX HT;go_wp2_with fail
   go_ret;exact⟨by rw[hR0.out]<;>rfl,by rw[<-hW3];exact hb03⟩
 ·rw[if_pos hE0];have hE1:(E != 0)=true:=by simpa using hE0
  have HB:Hid (∀W,Below w.heap.size w W->Calls Tryz.prog 28 #[.agg #[.int .i64 n,.int .i64 i,.int .i64 o,.slice a cs.length c,.int .i64 an,.slice a' ss.length c',.int .i64 r]] W fun e w'=>e = .returned (.tuple #[.agg #[.int .i64 0,.int .i64 0,.int .i64 0,.slice none 0 0,.int .i64 0,.slice none 0 0,.int .i64 0,.int .i64 0,.slice none 0 0,.slice none 0 0],.int .i64 E])/\Below W.heap.size W w'):=fun W hb=>(HB0.out W hb).mono (fun e w' hO=>⟨hO.1.elim (fun h=>by rw[<-hE.out];exact h.2) (fun h=>absurd (hE.out.symm.trans h.1) hE0),hO.2⟩);go_enter Tryz.func60, Tryz.ntmps60
  go_wp2_with fail
  rw[<-hW1];refine(HB.out W1 hb1).mono ?_;rintro e w2 ⟨rfl,hb2⟩;clear p0 p1 p2 p3 p4 p5 p6;have hb02:=btt hb1 hb2;replace hW1:=qH hW1;go_wp2_with fail
  go_ret;exact⟨rfl,by first|exact hb02|exact hb02.trans ((Below.refl _ _).alloc (by have:=hb02.size;omega) _)⟩
theorem box6n {W:World}{b:Nat}{v0 v1 v2 v3 v4 v5:Value}{T:TypeId}(h:W.heap[b]? = some (.cells #[v0,v1,v2,v3,v4,v5] T)):W.cell? ⟨b,0,none⟩=some v0/\∀j (hj:j < 5),W.cell? ⟨b,1+j,none⟩=some (#[v1,v2,v3,v4,v5][j]'hj):=
 ⟨by rw[cell_of_row _ _ 0 _ _ _ h];rfl,fun j hj=>by
  rcases(show j=0\/j=1\/j=2\/j=3\/j=4 by omega) with rfl|rfl|rfl|rfl|rfl
  ·rw[cell_of_row _ _ 1 _ _ _ h];rfl
  ·rw[cell_of_row _ _ 2 _ _ _ h];rfl
  ·rw[cell_of_row _ _ 3 _ _ _ h];rfl
  ·rw[cell_of_row _ _ 4 _ _ _ h];rfl
  ·rw[cell_of_row _ _ 5 _ _ _ h];rfl⟩
theorem seen3 {wr:World}{b0 b1 b2 k:Nat}{v:Value}{c0 c1 c2:Array Value}{t0 t1 t2:TypeId}{w:World}(h0:wr.heap[b0]? = some (.cells c0 t0)) (h1:wr.heap[b1]? = some (.cells c1 t1)) (h2:wr.heap[b2]? = some (.cells c2 t2)) (n0:b0 ≠ b2) (n1:b1 ≠ b2) (hB:w.heap.size<=b2) (hb:Below w.heap.size w wr) :
  (wr.setCell ⟨b2,k,none⟩ v).heap[b0]? = some (.cells c0 t0)/\(wr.setCell ⟨b2,k,none⟩ v).heap[b1]? = some (.cells c1 t1)/\(wr.setCell ⟨b2,k,none⟩ v).heap[b2]? = some (.cells (c2.setIfInBounds k v) t2)/\Below w.heap.size w (wr.setCell ⟨b2,k,none⟩ v):=
 ⟨(Below.heap_setCell wr ⟨b2,k,none⟩ v b0 n0).trans h0,(Below.heap_setCell wr ⟨b2,k,none⟩ v b1 n1).trans h1,heap_setCell_same wr b2 k _ _ v h2,hb.setCell (p:=⟨b2,k,none⟩) hB v⟩
theorem results_view {fn:Func}(h:fn.results = #[.cell 8 114]) (tmps:Array Value) (w:World) (g1:Nat) {u0 u1 u2 u3 u4 u5 u6 u7:Value}(hp1:tmps.getD 8 undef = .pointer (some ⟨g1,0,none⟩)) (hc1:w.heap[g1]? = some (.cells #[u0,u1,u2,u3,u4,u5,u6,u7] 114)) :
  (results fn tmps).run Tryz.prog w = .ok (.agg #[u0,u1,u2,u3,u4,u5,u6,u7]) w:=by
 have hp1':tmps[8]?.getD undef = .pointer (some ⟨g1,0,none⟩):=by simpa using hp1
 obtain⟨z0,z1,z2,z3,z4,z5,z6,z7⟩:=box8' hc1;have a1:=Tryz.isAgg114;have s1:=Tryz.sizeOf114;simp only[results,h];simp[Sem.run_bind,Result.andThen,hp1',asAddr,loadVar]
 go_simp
def seA (p r:Int) (S:Nat->Int) (k:Nat):Array Value:=#[.int .i64 p,.int .i64 r,.int .i64 0,.int .i64 (if 0 < k then S 0 else 0),.int .i64 (if 1 < k then S 1 else 0),.int .i64 (if 2 < k then S 2 else 0),.int .i64 (if 3 < k then S 3 else 0),.int .i64 (if 4 < k then S 4 else 0)]
theorem seA_set {p r:Int}{S:Nat->Int}{k:Nat}(h:k < 5):(seA p r S k).setIfInBounds (3+k) (.int .i64 (S k))=seA p r S (k+1):=by
 rcases(show k=0\/k=1\/k=2\/k=3\/k=4 by omega) with rfl|rfl|rfl|rfl|rfl<;>rfl
theorem seA_two {p r:Int}{S:Nat->Int}{k:Nat}{u v:Value}(h:k < 5):((seA p r S k).setIfInBounds (3+k) u).setIfInBounds (3+k) v=(seA p r S k).setIfInBounds (3+k) v:=by
 rcases(show k=0\/k=1\/k=2\/k=3\/k=4 by omega) with rfl|rfl|rfl|rfl|rfl<;>rfl
theorem seA_at {w:World}{b:Nat}{t:TypeId}{p r:Int}{S:Nat->Int}{k:Nat}(h:k < 5) (hb:w.heap[b]? = some (.cells (seA p r S k) t)):∃v,w.cell? ⟨b,3+k,none⟩=some v:=by
 rcases(show k=0\/k=1\/k=2\/k=3\/k=4 by omega) with rfl|rfl|rfl|rfl|rfl
 all_goals exact⟨_,by rw[cell_of_row _ _ _ _ _ _ hb];rfl⟩
theorem refSeen {w:World}{p N:Nat}{r h0 h1 h2 h3 h4 hs:Int}{u:Value}{bf:List Int}(hp:p < 5) (hN:N<=5) (hbl:bf.length=N) (hu:Ints w u bf) (hh : [h0,h1,h2,h3,h4].getD p 0=hs) (hh0:0<=hs) (hh1:hs<=31) :
  Calls Tryz.prog 187 #[.agg #[.int .i64 (N:Int),.int .i64 h0,.int .i64 h1,.int .i64 h2,.int .i64 h3,.int .i64 h4],.int .i64 r,.int .i64 (p:Int),u] w fun e w'=>e = .returned (vwV ([(p:Int),r,0]++herL hs bf))/\Below w.heap.size w w':=by
 obtain⟨W1,hW1⟩:=exF (((w.alloc (.cells #[.int .i64 (N:Int),.int .i64 h0,.int .i64 h1,.int .i64 h2,.int .i64 h3,.int .i64 h4] 146)).alloc (.cells #[.int .i64 0,.int .i64 0,.int .i64 0,.int .i64 0,.int .i64 0,.int .i64 0,.int .i64 0,.int .i64 0] 114)).alloc (.cells #[.int .i64 (p:Int),.int .i64 r,.int .i64 0,.int .i64 0,.int .i64 0,.int .i64 0,.int .i64 0,.int .i64 0] 114));have hb1:Below w.heap.size w W1:=by rw[hW1];exact(((Below.refl _ w).alloc (Nat.le_refl _) _).alloc (by simp) _).alloc (by simp;omega) _
 have kG:W1.heap[w.heap.size]? = some (.cells #[.int .i64 (N:Int),.int .i64 h0,.int .i64 h1,.int .i64 h2,.int .i64 h3,.int .i64 h4] 146):=by
  rw[hW1];exact(Below.heap_alloc _ _ _ (by simp;omega)).trans ((Below.heap_alloc _ _ _ (by simp)).trans (heap_alloc_new w _))
 have kR:W1.heap[w.heap.size+1]? = some (.cells #[.int .i64 0,.int .i64 0,.int .i64 0,.int .i64 0,.int .i64 0,.int .i64 0,.int .i64 0,.int .i64 0] 114):=by
  rw[hW1];have:=heap_alloc_new (w.alloc (.cells #[.int .i64 (N:Int),.int .i64 h0,.int .i64 h1,.int .i64 h2,.int .i64 h3,.int .i64 h4] 146)) (.cells #[.int .i64 0,.int .i64 0,.int .i64 0,.int .i64 0,.int .i64 0,.int .i64 0,.int .i64 0,.int .i64 0] 114)
  rw[World.size_alloc] at this;exact(Below.heap_alloc _ _ _ (by simp)).trans this
 have kV:W1.heap[w.heap.size+1+1]? = some (.cells #[.int .i64 (p:Int),.int .i64 r,.int .i64 0,.int .i64 0,.int .i64 0,.int .i64 0,.int .i64 0,.int .i64 0] 114):=by
  rw[hW1];have:=heap_alloc_new ((w.alloc (.cells #[.int .i64 (N:Int),.int .i64 h0,.int .i64 h1,.int .i64 h2,.int .i64 h3,.int .i64 h4] 146)).alloc (.cells #[.int .i64 0,.int .i64 0,.int .i64 0,.int .i64 0,.int .i64 0,.int .i64 0,.int .i64 0,.int .i64 0] 114)) (.cells #[.int .i64 (p:Int),.int .i64 r,.int .i64 0,.int .i64 0,.int .i64 0,.int .i64 0,.int .i64 0,.int .i64 0] 114)
  rwa [World.size_alloc,World.size_alloc] at this
 have hhs : #[Value.int .i64 h0,.int .i64 h1,.int .i64 h2,.int .i64 h3,.int .i64 h4][p]'hp = .int .i64 hs:=by
  rw[<-hh];rcases(show p=0\/p=1\/p=2\/p=3\/p=4 by omega) with rfl|rfl|rfl|rfl|rfl<;>rfl
 have hpi:(p:Int) < 5:=by omega
 have hp0:(0:Int)<=(p:Int):=by omega
 obtain⟨S,hS⟩:∃S:Nat->Int,S=fun k=>if k < N/\hasI hs (k:Int)=true then bf.getD k 0 else (-1:Int):=⟨_,rfl⟩
 have hres:vwV ([(p:Int),r,0]++herL hs bf) = .agg (seA (p:Int) r S 5):=by
  unfold vwV herL;rw[hbl,hS];rfl
 rw[hres];have HU:=qH (fun W (hb:Below w.heap.size w W)=>hu.keep hb);obtain⟨ua,uc,hus⟩:=hu.shape;subst hus;have hSk:Hid (∀k,S k=if k < N/\hasI hs (k:Int)=true then bf.getD k 0 else (-1:Int)):=fun k=>by rw[hS]
 have kV0:Hid (W1.heap[w.heap.size+1+1]? = some (.cells (seA (p:Int) r S 0) 114)):=kV;replace hhs:=qH hhs;replace hbl:=qH hbl;clear hres hu hh hS kV;go_enter Tryz.func187, Tryz.ntmps187
 go_wp2_with fail
 rw[<-hW1];replace hW1:=qH hW1;go_loopw [10] (fun iv wr=>∃k:Nat,iv = .int .i64 k/\k<=5/\wr.heap[w.heap.size]? = some (.cells #[.int .i64 (N:Int),.int .i64 h0,.int .i64 h1,.int .i64 h2,.int .i64 h3,.int .i64 h4] 146)/\wr.heap[w.heap.size+1]? = some (.cells #[.int .i64 0,.int .i64 0,.int .i64 0,.int .i64 0,.int .i64 0,.int .i64 0,.int .i64 0,.int .i64 0] 114)/\Hid (wr.heap[w.heap.size+1+1]? = some (.cells (seA (p:Int) r S k) 114))/\Below w.heap.size w wr) (fun iv _=>5 - (intOf iv).toNat)
 case atStart=>exact⟨0,rfl,by omega,kG,kR,kV0,hb1⟩
 case round=>
  clear kG kR kV0 hb1;obtain⟨k,rfl,hk,g0,g1,g2,hbr⟩:=hrel;obtain⟨q0,qh⟩:=box6n g0;have q1:=qh p hp;rw[hhs.out] at q1;clear qh;by_cases hlt:k < 5
  ·have hk5:(k:Int) < 5:=(by omega);have hk0:(0:Int)<=(k:Int):=Int.natCast_nonneg _;obtain⟨x9,cc⟩:=seA_at hlt g2.out;have fz:=row_free g2.out;obtain⟨s0,s1,s2,s3⟩:=seen3 (k:=3+k) (v:=.int .i64 (-1)) g0 g1 g2.out (by omega) (by omega) (by omega) hbr;have hz:=hSk.out k;have HA:=qH (fun W=>refHas hs (k:Int) W hh0 (by omega) (by omega) (by omega));obtain⟨s9,sq⟩:=box6n s0;replace sq:=sq p hp;rw[hhs.out] at sq;by_cases hq:k < N
   ·have dq:decide ((k:Int) < (N:Int))=true:=decide_eq_true (by omega);have dqn:(k:Int) < (N:Int):=(by omega);cases hb:hasI hs (k:Int) with
    | true=>
     rw[if_pos ⟨hq,hb⟩] at hz
     obtain⟨b9,o9,hua,hci⟩:∃b off,ua=some ⟨b,off,none⟩/\CI (wr.setCell ⟨w.heap.size+1+1,3+k,none⟩ (.int .i64 (-1))) b off bf:=by
      obtain⟨a,c,b,off,e,e1,e2,_⟩:=HU.out _ s3;injection e with e3 _ _;exact⟨b,off,e3.trans (e1 (by rw[hbl.out];omega)),e2⟩
     subst hua;have d:=hci k (by rw[hbl.out];omega);rw[<-hz] at d;have hlb:(k:Int) < (bf.length:Int):=by rw[hbl.out];omega
     have yy:∃v,(wr.setCell ⟨w.heap.size+1+1,3+k,none⟩ (.int .i64 (-1))).cell? ⟨w.heap.size+1+1,3+k,none⟩=some v:=by
      obtain⟨t0,t1,t2,t3⟩:=seen3 (k:=3+k) (v:=.int .i64 (S k)) s0 s1 s2 (by omega) (by omega) (by omega) s3;rcases(show k=0\/k=1\/k=2\/k=3\/k=4 by omega) with rfl|rfl|rfl|rfl|rfl
      all_goals exact⟨_,by rw[cell_of_row _ _ _ _ _ _ s2];rfl⟩
     obtain⟨y9,yc⟩:=yy;have fz2:=row_free s2;obtain⟨t0,t1,t2,t3⟩:=seen3 (k:=3+k) (v:=.int .i64 (S k)) s0 s1 s2 (by omega) (by omega) (by omega) s3;rw[seA_two hlt,seA_set hlt] at t2;simp only[hb] at HA;replace t0:=qH t0;replace t1:=qH t1;replace t2:=qH t2;replace t3:=qH t3;replace hz:=qH hz;clear g0 g1 g2 s0 s1 s2 s3 hbr hb hci;go_wp2_with fail
     refine(HA.out _).mono ?_;rintro e w' ⟨rfl,rfl⟩;go_wp2_with fail
     go_roundw
     case rel=>exact⟨k+1,by go_num,by omega,t0.out,t1.out,t2,t3.out⟩
     case measure=>simp[intOf];omega
    | false=>
     rw[if_neg (fun h=>by rw[hb] at h;cases h.2)] at hz;have hse:=seA_set (p:=(p:Int)) (r:=r) (S:=S) hlt;rw[hz] at hse;rw[hse] at s2;clear hse;simp only[hb] at HA;replace s0:=qH s0;replace s1:=qH s1;replace s3:=qH s3;replace s2:=qH s2;replace hz:=qH hz;clear g0 g1 g2 hbr hb;go_wp2_with fail
     refine(HA.out _).mono ?_;rintro e w' ⟨rfl,rfl⟩;go_wp2_with fail
     go_roundw
     case rel=>exact⟨k+1,by go_num,by omega,s0.out,s1.out,s2,s3.out⟩
     case measure=>simp[intOf];omega
   ·have dq:decide ((k:Int) < (N:Int))=false:=decide_eq_false (by omega);rw[if_neg (fun h=>hq h.1)] at hz;have hse:=seA_set (p:=(p:Int)) (r:=r) (S:=S) hlt;rw[hz] at hse;rw[hse] at s2;clear hse;replace s0:=qH s0;replace s1:=qH s1;replace s3:=qH s3;replace s2:=qH s2;replace hz:=qH hz;have dq2:decide (k < N)=false:=decide_eq_false hq;clear g0 g1 g2 hbr HA;go_wp2_with fail
    go_roundw
    case rel=>exact⟨k+1,by go_num,by omega,s0.out,s1.out,s2,s3.out⟩
    case measure=>simp[intOf];omega
  ·obtain rfl:k=5:=(by omega);obtain⟨S0,hS0⟩:=exE (S 0);obtain⟨S1,hS1⟩:=exE (S 1);obtain⟨S2,hS2⟩:=exE (S 2);obtain⟨S3,hS3⟩:=exE (S 3);obtain⟨S4,hS4⟩:=exE (S 4);have g2:wr.heap[w.heap.size+1+1]? = some (.cells #[.int .i64 (p:Int),.int .i64 r,.int .i64 0,.int .i64 (S 0),.int .i64 (S 1),.int .i64 (S 2),.int .i64 (S 3),.int .i64 (S 4)] 114):=g2.out;have hgo:Value.agg (seA (p:Int) r S 5) = .agg #[.int .i64 (p:Int),.int .i64 r,.int .i64 0,.int .i64 (S 0),.int .i64 (S 1),.int .i64 (S 2),.int .i64 (S 3),.int .i64 (S 4)]:=rfl;rw[hS0,hS1,hS2,hS3,hS4] at g2 hgo;clear hS0 hS1 hS2 hS3 hS4 hSk HU;replace hgo:=qH hgo;have g2':wr.heap[w.heap.size+1+1]? = some (.cells #[.int .i64 (p:Int),.int .i64 r,.int .i64 0,.int .i64 S0,.int .i64 S1,.int .i64 S2,.int .i64 S3,.int .i64 S4] 114):=g2;obtain⟨c0,c1,c2,c3,c4,c5,c6,c7⟩:=box8' g2';obtain⟨y0,y1,y2,y3,y4,y5,y6,y7⟩:=box8' g1;have fz:=row_free g1;obtain⟨WE,hWE⟩:=exF ((((((((wr.setCell ⟨w.heap.size+1,0,none⟩ (.int .i64 (p:Int))).setCell ⟨w.heap.size+1,1,none⟩ (.int .i64 r)).setCell ⟨w.heap.size+1,2,none⟩ (.int .i64 0)).setCell ⟨w.heap.size+1,3,none⟩ (.int .i64 S0)).setCell ⟨w.heap.size+1,4,none⟩ (.int .i64 S1)).setCell ⟨w.heap.size+1,5,none⟩ (.int .i64 S2)).setCell ⟨w.heap.size+1,6,none⟩ (.int .i64 S3)).setCell ⟨w.heap.size+1,7,none⟩ (.int .i64 S4));have k0:=heap_setCell_same wr (w.heap.size+1) 0 _ _ (.int .i64 (p:Int)) g1;have k1:=heap_setCell_same _ (w.heap.size+1) 1 _ _ (.int .i64 r) k0;have k2:=heap_setCell_same _ (w.heap.size+1) 2 _ _ (.int .i64 0) k1;have k3:=heap_setCell_same _ (w.heap.size+1) 3 _ _ (.int .i64 S0) k2;have k4:=heap_setCell_same _ (w.heap.size+1) 4 _ _ (.int .i64 S1) k3;have k5:=heap_setCell_same _ (w.heap.size+1) 5 _ _ (.int .i64 S2) k4;have k6:=heap_setCell_same _ (w.heap.size+1) 6 _ _ (.int .i64 S3) k5;have k7:=heap_setCell_same _ (w.heap.size+1) 7 _ _ (.int .i64 S4) k6;rw[<-hWE] at k7;have hB:w.heap.size<=w.heap.size+1:=by omega
   have hbe:Below w.heap.size w WE:=by
    rw[hWE];exact(((((((hbr.setCell (p:=⟨w.heap.size+1,0,none⟩) hB _).setCell (p:=⟨w.heap.size+1,1,none⟩) hB _).setCell (p:=⟨w.heap.size+1,2,none⟩) hB _).setCell (p:=⟨w.heap.size+1,3,none⟩) hB _).setCell (p:=⟨w.heap.size+1,4,none⟩) hB _).setCell (p:=⟨w.heap.size+1,5,none⟩) hB _).setCell (p:=⟨w.heap.size+1,6,none⟩) hB _).setCell (p:=⟨w.heap.size+1,7,none⟩) hB _
   replace k7:WE.heap[w.heap.size+1]? = some (.cells #[.int .i64 (p:Int),.int .i64 r,.int .i64 0,.int .i64 S0,.int .i64 S1,.int .i64 S2,.int .i64 S3,.int .i64 S4] 114):=k7;clear g0 g1 g2 g2' k0 k1 k2 k3 k4 k5 k6 hbr;replace k7:=qH k7;have hWE':=qH hWE;clear hWE;go_wp2_with fail
   rw[<-hWE'.out];exact⟨rfl,_,results_view rfl _ _ _ rfl k7.out,by rw[hgo.out],hbe⟩
def opsBtt19:List Oper:=[⟨some 72,.move (.tmp 4),133,"ref.go:80",#[],none⟩,⟨some 73,.move (.tmp 6),3,"ref.go:80",#[],none⟩,⟨some 74,.indexAddr 133 (.tmp 72) (.tmp 73),0,"ref.go:80",#[⟨0,.data⟩,⟨1,.data⟩],none⟩,⟨some 75,.load 77 (.tmp 74),77,"ref.go:80",#[⟨2,.data⟩],none⟩,⟨some 76,.move (.tmp 8),3,"ref.go:80",#[],none⟩,⟨some 77,.binOp .sub 3 (.tmp 76) (.const (.int .i64 1)) 3,3,"ref.go:80",#[⟨4,.data⟩],none⟩,⟨some 78,.indexAddr 77 (.tmp 75) (.tmp 77),0,"ref.go:80",#[⟨3,.data⟩,⟨5,.data⟩],none⟩,⟨some 79,.fieldAddr 148 (.tmp 78) 0,0,"ref.go:80",#[⟨6,.data⟩],none⟩,⟨some 80,.load 146 (.tmp 79),146,"ref.go:80",#[⟨7,.data⟩],none⟩,⟨some 81,.move (.tmp 8),3,"ref.go:80",#[],none⟩,⟨some 82,.move (.tmp 10),3,"ref.go:80",#[],none⟩,⟨some 83,.fieldAddr 80 (.tmp 7) 2,0,"ref.go:80",#[],none⟩,⟨some 84,.load 78 (.tmp 83),78,"ref.go:80",#[⟨11,.data⟩],none⟩,⟨some 85,.move (.tmp 8),3,"ref.go:80",#[],none⟩,⟨some 86,.binOp .sub 3 (.tmp 85) (.const (.int .i64 1)) 3,3,"ref.go:80",#[⟨13,.data⟩],none⟩,⟨some 87,.indexAddr 78 (.tmp 84) (.tmp 86),0,"ref.go:80",#[⟨12,.data⟩,⟨14,.data⟩],none⟩,⟨some 88,.load 48 (.tmp 87),48,"ref.go:80",#[⟨15,.data⟩],none⟩,⟨some 89,.call { callee:=.value (.func 187),args:=#[.tmp 80,.tmp 81,.tmp 82,.tmp 88],argTypes:=#[146,3,3,48] },114,"ref.go:80",#[⟨8,.data⟩,⟨9,.data⟩,⟨10,.data⟩,⟨16,.data⟩],none⟩,⟨none,.store 114 (.tmp 11) (.tmp 89),0,"ref.go:80",#[⟨17,.data⟩,⟨17,.chain⟩,⟨0,.phase⟩,⟨1,.phase⟩,⟨2,.phase⟩,⟨3,.phase⟩,⟨4,.phase⟩,⟨5,.phase⟩,⟨6,.phase⟩,⟨7,.phase⟩,⟨8,.phase⟩,⟨9,.phase⟩,⟨10,.phase⟩,⟨11,.phase⟩,⟨12,.phase⟩,⟨13,.phase⟩,⟨14,.phase⟩,⟨15,.phase⟩,⟨16,.phase⟩,⟨17,.phase⟩],none⟩]
theorem regBt19 {w:World}{x0 x1 x2 x3 x5 x9 x12 x13 x14 x15 x16 x17 x18 x19 x20 x21 x22 x23 x24 x25 x26 x27 x28 x29 x30 x31 x32 x33 x34 x35 x36 x37 x38 x39 x40 x41 x42 x43 x44 x45 x46 x47 x48 x49 x50 x51 x52 x53 x54 x55 x56 x57 x58 x59 x60 x61 x62 x63 x64 x65 x66 x67 x68 x69 x70 x71 x72 x73 x74 x75 x76 x77 x78 x79 x80 x81 x82 x83 x84 x85 x86 x87 x88 x89:Value}{xs:List Value}{Q:Exit->Act->World->Prop}{bv bx wg wn wc kb ko dn dc yg yn yc j k k' q:Nat}{r0 r1 r2 r3 r4 r5 z0 z1 z2 z3 z4 z5 z6 z7:Int}{v0 v1 v2 v3 v4 v5 v6 v7 ur:Value}
  (k5:w.heap[bv]? = some (.cells #[v0,v1,v2,v3,v4,v5,v6,v7] 114))
  (HX:∀W,Below w.heap.size w W->(W.cell? ⟨wg,j,none⟩=some (.slice (some ⟨kb,ko,none⟩) dn dc)/\W.cell? ⟨kb,ko+k' * 7,none⟩=some (.int .i64 r0)/\W.cell? ⟨kb,ko+k' * 7+1,none⟩=some (.int .i64 r1)/\W.cell? ⟨kb,ko+k' * 7+2,none⟩=some (.int .i64 r2)/\W.cell? ⟨kb,ko+k' * 7+3,none⟩=some (.int .i64 r3)/\W.cell? ⟨kb,ko+k' * 7+4,none⟩=some (.int .i64 r4))/\W.cell? ⟨kb,ko+k' * 7+5,none⟩=some (.int .i64 r5)/\W.cell? ⟨bx,2,none⟩=some (.slice (some ⟨yg,0,none⟩) yn yc)/\W.cell? ⟨yg,k',none⟩=some ur)
  (HSee:∀W,Below w.heap.size w W->Calls Tryz.prog 187 #[.agg #[.int .i64 r0,.int .i64 r1,.int .i64 r2,.int .i64 r3,.int .i64 r4,.int .i64 r5],.int .i64 (k:Int),.int .i64 (q:Int),ur] W fun e w'=>e = .returned (.agg #[.int .i64 z0,.int .i64 z1,.int .i64 z2,.int .i64 z3,.int .i64 z4,.int .i64 z5,.int .i64 z6,.int .i64 z7])/\Below W.heap.size W w')
  (hkw:IntKind.i64.wrap ((k:Int) - 1)=(k':Int)) (hjj:(j:Int) < (wn:Int)) (hkd:(k':Int) < (dn:Int)) (hky:(k':Int) < (yn:Int)) (hk0:(0:Int)<=(k':Int))
  (hfin:∀(_y18:Value) (W:World),(((fun i=>decide (i < 19)) 18=false->Below w.heap.size w W)/\((fun i=>decide (i < 19)) 18=true->∃W6,Below w.heap.size w W6/\W=((((((((W6.setCell ⟨bv,0,none⟩ (.int .i64 z0)).setCell ⟨bv,1,none⟩ (.int .i64 z1)).setCell ⟨bv,2,none⟩ (.int .i64 z2)).setCell ⟨bv,3,none⟩ (.int .i64 z3)).setCell ⟨bv,4,none⟩ (.int .i64 z4)).setCell ⟨bv,5,none⟩ (.int .i64 z5)).setCell ⟨bv,6,none⟩ (.int .i64 z6)).setCell ⟨bv,7,none⟩ (.int .i64 z7))))->(True)->Q .normal ⟨List.toArray (x0::x1::x2::x3::.slice (some ⟨wg,0,none⟩) wn wc::x5::.int .i64 (j:Int)::.pointer (some ⟨bx,0,none⟩)::.int .i64 (k:Int)::x9::.int .i64 (q:Int)::.pointer (some ⟨bv,0,none⟩)::x12::x13::x14::x15::x16::x17::x18::x19::x20::x21::x22::x23::x24::x25::x26::x27::x28::x29::x30::x31::x32::x33::x34::x35::x36::x37::x38::x39::x40::x41::x42::x43::x44::x45::x46::x47::x48::x49::x50::x51::x52::x53::x54::x55::x56::x57::x58::x59::x60::x61::x62::x63::x64::x65::x66::x67::x68::x69::x70::x71::.slice (some ⟨wg,0,none⟩) wn wc::.int .i64 (j:Int)::.pointer (some ⟨wg,j,none⟩)::.slice (some ⟨kb,ko,none⟩) dn dc::.int .i64 (k:Int)::.int .i64 (k':Int)::.pointer (some ⟨kb,ko+k' * 7,none⟩)::.pointer (some ⟨kb,ko+k' * 7,none⟩)::.agg #[.int .i64 r0,.int .i64 r1,.int .i64 r2,.int .i64 r3,.int .i64 r4,.int .i64 r5]::.int .i64 (k:Int)::.int .i64 (q:Int)::.pointer (some ⟨bx,2,none⟩)::.slice (some ⟨yg,0,none⟩) yn yc::.int .i64 (k:Int)::.int .i64 (k':Int)::.pointer (some ⟨yg,k',none⟩)::ur::.agg #[.int .i64 z0,.int .i64 z1,.int .i64 z2,.int .i64 z3,.int .i64 z4,.int .i64 z5,.int .i64 z6,.int .i64 z7]::xs),[]⟩ W) :
  (Code.region 19 opsBtt19.toArray true).wp Tryz.prog Q ⟨List.toArray (x0::x1::x2::x3::.slice (some ⟨wg,0,none⟩) wn wc::x5::.int .i64 (j:Int)::.pointer (some ⟨bx,0,none⟩)::.int .i64 (k:Int)::x9::.int .i64 (q:Int)::.pointer (some ⟨bv,0,none⟩)::x12::x13::x14::x15::x16::x17::x18::x19::x20::x21::x22::x23::x24::x25::x26::x27::x28::x29::x30::x31::x32::x33::x34::x35::x36::x37::x38::x39::x40::x41::x42::x43::x44::x45::x46::x47::x48::x49::x50::x51::x52::x53::x54::x55::x56::x57::x58::x59::x60::x61::x62::x63::x64::x65::x66::x67::x68::x69::x70::x71::x72::x73::x74::x75::x76::x77::x78::x79::x80::x81::x82::x83::x84::x85::x86::x87::x88::x89::xs),[]⟩ w:=by
 refine wp_region_sg (l:=opsBtt19) (F:=(fun ys=>⟨List.toArray (x0::x1::x2::x3::.slice (some ⟨wg,0,none⟩) wn wc::x5::.int .i64 (j:Int)::.pointer (some ⟨bx,0,none⟩)::.int .i64 (k:Int)::x9::.int .i64 (q:Int)::.pointer (some ⟨bv,0,none⟩)::x12::x13::x14::x15::x16::x17::x18::x19::x20::x21::x22::x23::x24::x25::x26::x27::x28::x29::x30::x31::x32::x33::x34::x35::x36::x37::x38::x39::x40::x41::x42::x43::x44::x45::x46::x47::x48::x49::x50::x51::x52::x53::x54::x55::x56::x57::x58::x59::x60::x61::x62::x63::x64::x65::x66::x67::x68::x69::x70::x71::ys 0::ys 1::ys 2::ys 3::ys 4::ys 5::ys 6::ys 7::ys 8::ys 9::ys 10::ys 11::ys 12::ys 13::ys 14::ys 15::ys 16::ys 17::xs),[]⟩)) (Φ:=[eqV (.slice (some ⟨wg,0,none⟩) wn wc),eqV (.int .i64 (j:Int)),eqV (.pointer (some ⟨wg,j,none⟩)),eqV (.slice (some ⟨kb,ko,none⟩) dn dc),eqV (.int .i64 (k:Int)),eqV (.int .i64 (k':Int)),eqV (.pointer (some ⟨kb,ko+k' * 7,none⟩)),eqV (.pointer (some ⟨kb,ko+k' * 7,none⟩)),eqV (.agg #[.int .i64 r0,.int .i64 r1,.int .i64 r2,.int .i64 r3,.int .i64 r4,.int .i64 r5]),eqV (.int .i64 (k:Int)),eqV (.int .i64 (q:Int)),eqV (.pointer (some ⟨bx,2,none⟩)),eqV (.slice (some ⟨yg,0,none⟩) yn yc),eqV (.int .i64 (k:Int)),eqV (.int .i64 (k':Int)),eqV (.pointer (some ⟨yg,k',none⟩)),eqV ur,eqV (.agg #[.int .i64 z0,.int .i64 z1,.int .i64 z2,.int .i64 z3,.int .i64 z4,.int .i64 z5,.int .i64 z6,.int .i64 z7]),anyV]) (R:=(fun _ _=>True)) (G:=(fun D _ W=>(D 18=false->Below w.heap.size w W)/\(D 18=true->∃W6,Below w.heap.size w W6/\W=((((((((W6.setCell ⟨bv,0,none⟩ (.int .i64 z0)).setCell ⟨bv,1,none⟩ (.int .i64 z1)).setCell ⟨bv,2,none⟩ (.int .i64 z2)).setCell ⟨bv,3,none⟩ (.int .i64 z3)).setCell ⟨bv,4,none⟩ (.int .i64 z4)).setCell ⟨bv,5,none⟩ (.int .i64 z5)).setCell ⟨bv,6,none⟩ (.int .i64 z6)).setCell ⟨bv,7,none⟩ (.int .i64 z7))))) ⟨?s0,?s1,?s2,?s3,?s4,?s5,?s6,?s7,?s8,?s9,?s10,?s11,?s12,?s13,?s14,?s15,?s16,?s17,?s18,trivial⟩ (fun i=>([x72,x73,x74,x75,x76,x77,x78,x79,x80,x81,x82,x83,x84,x85,x86,x87,x88,x89,undef]:List Value).getD i undef) (by kernel_rfl) (by kernel_rfl) ⟨sE,sE,sE,sE,sE,sE,sE,sE,sE,sE,sE,sE,sE,sE,sE,sE,sE,sE,fun _ _ _ h _=>h,trivial⟩ ?g0 ?gx ?fin
 case s0|s1|s4|s9|s10|s11|s13=>
  refine .q0 (wantU rfl) (fun _=>trivial) (fun _ _ _ h=>h) (fun _=>rfl) fun ys W K hK=>?_;go_simp;exact hK
 case s2|s6|s15=>
  refine .q2 (wantU rfl) (fun _=>trivial) (fun _ _ _ h=>h) (fun _=>rfl) rfl (fun _ _ h=>h) (fun _ _ h=>h) fun ys W K hK=>?_;dsimp [updG]
  go_simp;exact hK
 case s3=>
  refine StepG.mk rfl (openY 2 fun y2=>fun ys D W K hD hcl hd hG hK=>?_);obtain rfl:=(hd.get 2 rfl).2;dsimp [updG]
  have d18:=hcl.no (j:=18) (i:=3) rfl (by kernel_rfl) hD;obtain⟨g1,g2⟩:=hG;obtain⟨⟨cw5,c0,c1,c2,c3,c4⟩,c5,cX,cr⟩:=HX W (g1 d18);go_simp;exact hK _ _ trivial ⟨g1,g2⟩ rfl
 case s5|s7|s14=>
  refine .q1 (wantU rfl) (fun _=>trivial) (fun _ _ _ h=>h) (fun _=>rfl) rfl (fun _ _ h=>h) fun ys W K hK=>?_;dsimp [updG]
  go_simp;exact hK
 case s8=>
  refine StepG.mk rfl (openY 7 fun y7=>fun ys D W K hD hcl hd hG hK=>?_);obtain rfl:=(hd.get 7 rfl).2;dsimp [updG]
  have d18:=hcl.no (j:=18) (i:=8) rfl (by kernel_rfl) hD;obtain⟨g1,g2⟩:=hG;obtain⟨⟨cw5,c0,c1,c2,c3,c4⟩,c5,cX,cr⟩:=HX W (g1 d18);go_simp;exact hK _ _ trivial ⟨g1,g2⟩ rfl
 case s12=>
  refine StepG.mk rfl (openY 11 fun y11=>fun ys D W K hD hcl hd hG hK=>?_);obtain rfl:=(hd.get 11 rfl).2;dsimp [updG]
  have d18:=hcl.no (j:=18) (i:=12) rfl (by kernel_rfl) hD;obtain⟨g1,g2⟩:=hG;obtain⟨⟨cw5,c0,c1,c2,c3,c4⟩,c5,cX,cr⟩:=HX W (g1 d18);go_simp;exact hK _ _ trivial ⟨g1,g2⟩ rfl
 case s16=>
  refine StepG.mk rfl (openY 15 fun y15=>fun ys D W K hD hcl hd hG hK=>?_);obtain rfl:=(hd.get 15 rfl).2;dsimp [updG]
  have d18:=hcl.no (j:=18) (i:=16) rfl (by kernel_rfl) hD;obtain⟨g1,g2⟩:=hG;obtain⟨⟨cw5,c0,c1,c2,c3,c4⟩,c5,cX,cr⟩:=HX W (g1 d18);go_simp;exact hK _ _ trivial ⟨g1,g2⟩ rfl
 case s17=>
  refine StepG.mk rfl (openY 8 fun y8=>openY 9 fun y9=>openY 10 fun y10=>openY 16 fun y16=>fun ys D W K hD hcl hd hG hK=>?_);obtain rfl:=(hd.get 8 rfl).2;obtain rfl:=(hd.get 9 rfl).2;obtain rfl:=(hd.get 10 rfl).2;obtain rfl:=(hd.get 16 rfl).2;dsimp [updG]
  have d18:=hcl.no (j:=18) (i:=17) rfl (by kernel_rfl) hD;obtain⟨g1,g2⟩:=hG;go_simp;refine(HSee W (g1 d18)).mono ?_;rintro e W9 ⟨rfl,hb9⟩;exact hK _ _ trivial ⟨fun _=>btt (g1 d18) hb9,fun h=>(by rw[show addG D 17 18=D 18 from rfl,d18] at h;cases h)⟩ rfl
 case s18=>
  refine StepG.mk rfl (openY 17 fun y17=>fun ys D W K hD _ hd hG hK=>?_);obtain rfl:=(hd.get 17 rfl).2;dsimp [updG]
  obtain⟨g1,g2⟩:=hG;have kv:=keptO (g1 hD) k5;obtain⟨x0,x1,x2,x3,x4,x5,x6,x7⟩:=box8' kv;have fz:=row_free kv;go_simp;exact hK undef _ trivial ⟨fun h=>(by cases h),fun _=>⟨W,g1 hD,rfl⟩⟩ trivial
 case g0=>exact⟨fun _=>below_drewN (Below.refl _ w) 1,fun h=>(by cases h)⟩
 case gx=>exact fun D D' ys W h ⟨g1,g2⟩=>⟨fun q=>g1 ((h 18 (by decide)).trans q),fun q=>g2 ((h 18 (by decide)).trans q)⟩
 case fin=>
  intro ys W hG hp;try dsimp only
  rw[(hpE hp 0:ys 0=_),(hpE hp 1:ys 1=_),(hpE hp 2:ys 2=_),(hpE hp 3:ys 3=_),(hpE hp 4:ys 4=_),(hpE hp 5:ys 5=_),(hpE hp 6:ys 6=_),(hpE hp 7:ys 7=_),(hpE hp 8:ys 8=_),(hpE hp 9:ys 9=_),(hpE hp 10:ys 10=_),(hpE hp 11:ys 11=_),(hpE hp 12:ys 12=_),(hpE hp 13:ys 13=_),(hpE hp 14:ys 14=_),(hpE hp 15:ys 15=_),(hpE hp 16:ys 16=_),(hpE hp 17:ys 17=_)];exact hfin (ys 18) W hG (hpE hp 18)
end Go.Proofs.YtcnedkkcgdkioaaGreat

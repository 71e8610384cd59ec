/- Texts of this claim, put together: TV TW TX TY TZ PA. -/
import Derived.Test.YtcnedkkcgdkioaaGreatKAr

set_option maxRecDepth 100000
set_option maxHeartbeats 12800000
namespace Go.Proofs.YtcnedkkcgdkioaaGreat
open Go.RowKit
def zSysV:Value:=.agg #[.int .i64 0,.int .i64 0,.int .i64 0,.slice none 0 0,.int .i64 0,.slice none 0 0,.int .i64 0,.int .i64 0,.slice none 0 0,.slice none 0 0]
theorem buildBad {w:World}{v:Value}{n i o an r M E:Int}{cs:List Cs}{ss:List (List (List Int))}(h:PrV w v n i o cs an ss r)
  (hC:∀W,Below w.heap.size w W→Calls Tryz.prog 72 #[v] W fun e w'=>e = .returned (.tuple #[.int .i64 M,.int .i64 E])∧Below W.heap.size W w') (hbad:E ≠ 0∨4096 < M) :
  Calls Tryz.prog 28 #[v] w fun e w'=>e = .returned (.tuple #[zSysV,.int .i64 (if E ≠ 0 then E else 17)])∧Below w.heap.size w w':=by
 replace hC:=qH hC;obtain⟨a,c,a',c',rfl,-,-⟩:=h;obtain⟨W1,hW1⟩:=exF (((w.alloc (.cells #[.int .i64 n,.int .i64 i,.int .i64 o,.slice a cs.length c,.int .i64 an,.slice a' ss.length c',.int .i64 r] 29)).alloc (.cells #[.int .i64 0,.int .i64 0,.int .i64 0,.slice none 0 0,.int .i64 0,.slice none 0 0,.int .i64 0,.int .i64 0,.slice none 0 0,.slice none 0 0] 35)).alloc (.cells #[.int .i64 0] 41));have hs1:W1.heap.size=w.heap.size+3:=by rw[hW1];simp
 have hb1:Below w.heap.size w W1:=by rw[hW1];exact(((Below.refl _ w).alloc (Nat.le_refl _) _).alloc (by simp) _).alloc (by simp;omega) _
 have kP:W1.heap[w.heap.size]? = some (.cells #[.int .i64 n,.int .i64 i,.int .i64 o,.slice a cs.length c,.int .i64 an,.slice a' ss.length c',.int .i64 r] 29):=by
  rw[hW1];exact(Below.heap_alloc _ _ _ (by simp;omega)).trans ((Below.heap_alloc _ _ _ (by simp)).trans (heap_alloc_new w _))
 have kS:W1.heap[w.heap.size+1]? = some (.cells #[.int .i64 0,.int .i64 0,.int .i64 0,.slice none 0 0,.int .i64 0,.slice none 0 0,.int .i64 0,.int .i64 0,.slice none 0 0,.slice none 0 0] 35):=by
  rw[hW1];have:=heap_alloc_new (w.alloc (.cells #[.int .i64 n,.int .i64 i,.int .i64 o,.slice a cs.length c,.int .i64 an,.slice a' ss.length c',.int .i64 r] 29)) (.cells #[.int .i64 0,.int .i64 0,.int .i64 0,.slice none 0 0,.int .i64 0,.slice none 0 0,.int .i64 0,.int .i64 0,.slice none 0 0,.slice none 0 0] 35)
  rw[World.size_alloc] at this;exact(Below.heap_alloc _ _ _ (by simp)).trans this
 have kE:W1.heap[w.heap.size+1+1]? = some (.cells #[.int .i64 0] 41):=by
  rw[hW1];have:=heap_alloc_new ((w.alloc (.cells #[.int .i64 n,.int .i64 i,.int .i64 o,.slice a cs.length c,.int .i64 an,.slice a' ss.length c',.int .i64 r] 29)).alloc (.cells #[.int .i64 0,.int .i64 0,.int .i64 0,.slice none 0 0,.int .i64 0,.slice none 0 0,.int .i64 0,.int .i64 0,.slice none 0 0,.slice none 0 0] 35)) (.cells #[.int .i64 0] 41)
  rwa [World.size_alloc,World.size_alloc] at this
 obtain⟨g0,g1,g2,g3,g4,g5,g6⟩:=box7' kP;rw[hW1] at g0 g1 g2 g3 g4 g5 g6;replace kS:=qH kS;replace kE:=qH kE;clear kP;by_cases hE:E=0
 ·subst hE;have hM:decide ((4096:Int) < M)=true:=decide_eq_true (by rcases hbad with h|h;exact absurd rfl h;exact h);rw[if_neg (fun h=>h rfl)];clear hbad;go_enter Tryz.func28, Tryz.ntmps28
  go_wp2_with fail
  rw[←hW1];replace hW1:=qH hW1;refine(hC.out W1 hb1).mono ?_;rintro e w3 ⟨rfl,hb3⟩;clear g0 g1 g2 g3 g4 g5 g6;have hS:=keptO hb3 kS.out;have hEe:=keptO hb3 kE.out;obtain⟨⟨y0,y1,y2,y3,y4,y5,y6⟩,y7,y8,y9⟩:=box10' hS;have y10:=cell_of_one hEe;have fz3:=row_free hS;have fz4:=row_free hEe;go_wp2_with fail
  refine storeEnd10 (u0:=.int .i64 0) (u1:=.int .i64 0) (u2:=.int .i64 0) (u3:=.slice none 0 0) (u4:=.int .i64 0) (u5:=.slice none 0 0) (u6:=.int .i64 0) (u7:=.int .i64 0) (u8:=.slice none 0 0) (u9:=.slice none 0 0) hS ?_;intro W21 hW21 hbl21 hX21 h21 ho21;rw[←hW21];have hE22:W21.heap[w.heap.size+1+1]? = some (.cells #[.int .i64 0] 41):=(ho21 _ (by omega)).trans hEe;have hcF:(W21.setCell ⟨w.heap.size+1+1,0,none⟩ (.int .i64 17)).heap[w.heap.size+1]? = _:=(Below.heap_setCell W21 ⟨w.heap.size+1+1,0,none⟩ _ (w.heap.size+1) (by show w.heap.size+1 ≠ w.heap.size+1+1;omega)).trans h21;have hbF:Below w.heap.size w (W21.setCell ⟨w.heap.size+1+1,0,none⟩ (.int .i64 17)):=(hbl21 _ _ (by omega) (btt hb1 hb3)).setCell (p:=⟨w.heap.size+1+1,0,none⟩) (by show w.heap.size≤w.heap.size+1+1;omega) _;exact⟨rfl,_,results_sys rfl _ _ _ _ 17 rfl rfl hcF (cell_of_one (one_setCell hE22)),rfl,hbF⟩
 ·have hE1:(E != 0)=true:=by simpa using hE
  rw[if_pos hE];clear hbad;go_enter Tryz.func28, Tryz.ntmps28
  go_wp2_with fail
  rw[←hW1];replace hW1:=qH hW1;refine(hC.out W1 hb1).mono ?_;rintro e w3 ⟨rfl,hb3⟩;clear g0 g1 g2 g3 g4 g5 g6;have hS:=keptO hb3 kS.out;have hEe:=keptO hb3 kE.out;obtain⟨⟨y0,y1,y2,y3,y4,y5,y6⟩,y7,y8,y9⟩:=box10' hS;have y10:=cell_of_one hEe;have fz3:=row_free hS;have fz4:=row_free hEe;go_wp2_with fail
  refine storeEnd10 (u0:=.int .i64 0) (u1:=.int .i64 0) (u2:=.int .i64 0) (u3:=.slice none 0 0) (u4:=.int .i64 0) (u5:=.slice none 0 0) (u6:=.int .i64 0) (u7:=.int .i64 0) (u8:=.slice none 0 0) (u9:=.slice none 0 0) hS ?_;intro W21 hW21 hbl21 hX21 h21 ho21;rw[←hW21];have hE22:W21.heap[w.heap.size+1+1]? = some (.cells #[.int .i64 0] 41):=(ho21 _ (by omega)).trans hEe;have hcF:(W21.setCell ⟨w.heap.size+1+1,0,none⟩ (.int .i64 E)).heap[w.heap.size+1]? = _:=(Below.heap_setCell W21 ⟨w.heap.size+1+1,0,none⟩ _ (w.heap.size+1) (by show w.heap.size+1 ≠ w.heap.size+1+1;omega)).trans h21;have hbF:Below w.heap.size w (W21.setCell ⟨w.heap.size+1+1,0,none⟩ (.int .i64 E)):=(hbl21 _ _ (by omega) (btt hb1 hb3)).setCell (p:=⟨w.heap.size+1+1,0,none⟩) (by show w.heap.size≤w.heap.size+1+1;omega) _;exact⟨rfl,_,results_sys rfl _ _ _ _ E rfl rfl hcF (cell_of_one (one_setCell hE22)),rfl,hbF⟩
def bldE (n i o:Int) (cs:List Cs) (an:Int) (ss:List (List (List Int))) (r:Int):Int:=
 if chkP n i o cs an ss r ≠ 0 then chkP n i o cs an ss r else if 4096 < numP cs ss r.toNat then 17 else 0
def BldOut (w:World) (n i o:Int) (cs:List Cs) (an:Int) (ss:List (List (List Int))) (r:Int) (e:Ending) (w':World):Prop:=
 ((bldE n i o cs an ss r ≠ 0∧e = .returned (.tuple #[zSysV,.int .i64 (bldE n i o cs an ss r)]))∨
  (bldE n i o cs an ss r=0∧∃v',e = .returned (.tuple #[v',.int .i64 0])∧SysV w' v' n i o cs an ss r n (sysP n.toNat cs (wL ss r.toNat 0)).1 (sysP n.toNat cs (wL ss r.toNat 0)).2))∧Below w.heap.size w w'
theorem buildAll {w:World}{v:Value}{n i o an r:Int}{cs:List Cs}{ss:List (List (List Int))}(h:PrV w v n i o cs an ss r) (hfew:fewP n i o cs an ss r=true) :
  Calls Tryz.prog 28 #[v] w (BldOut w n i o cs an ss r):=by
 unfold fewP at hfew;simp only[Bool.and_eq_true,Bool.or_eq_true,decide_eq_true_eq] at hfew;obtain⟨hft,hf,_,hsz⟩:=hfew;have hC:=fun W (hb:Below w.heap.size w W)=>execCount (h.keep hb) hf;by_cases hc:chkP n i o cs an ss r=0
 ·have hb:bldE n i o cs an ss r=if 4096 < numP cs ss r.toNat then 17 else 0:=by unfold bldE;rw[if_neg (fun k=>k hc)]
  obtain⟨c1,c2,c3,c4,c5⟩:=chkP_zero hc;obtain⟨l1,l2⟩:=chkT_len c1;obtain⟨⟨n1,n5⟩,hin⟩:=task_in c1;by_cases hn:4096 < numP cs ss r.toNat
  ·rw[if_pos hn] at hb;rw[if_neg (fun k=>k hc)] at hC;obtain⟨_,_,_,_,_,_,hA⟩:=id h;have hO:=(chk_cls hA hf c2).wd;have h1:num ss 4097 r.toNat=min (cnt ss r.toNat 0) 4097:=(by unfold num;rw[numL_cnt (LeadOK.ofWd hO) (by omega) _ 0 hO.2.2.1]);have h2:num ss 1048577 r.toNat=min (cnt ss r.toNat 0) 1048577:=by unfold num;rw[numL_cnt (LeadOK.ofWd hO) (by omega) _ 0 hO.2.2.1]
   have h3:(cntP cs ss r.toNat).2=17∨(cntP cs ss r.toNat).2=0∧4096 < (cntP cs ss r.toNat).1:=by
    unfold cntP;split
    ·exact .inl rfl
    ·split
     ·exact .inl rfl
     ·refine .inr ⟨rfl,?_⟩;have h4:cs.length * num ss 4097 r.toNat≤cs.length * num ss 1048577 r.toNat:=Nat.mul_le_mul_left _ (by omega);unfold numP at hn;have h5:4096 < num ss 1048577 r.toNat * cs.length:=(by rw[Nat.mul_comm];omega);show(4096:Int) < ((num ss 1048577 r.toNat * cs.length:Nat):Int)
      omega
   refine(buildBad h hC (by rcases h3 with h|h;exact .inl (by rw[h];decide);exact .inr h.2)).mono ?_;rintro e w' ⟨rfl,hb'⟩;refine⟨.inl ⟨by rw[hb];decide,?_⟩,hb'⟩;rw[hb];rcases h3 with h|h
   ·rw[h];rfl
   ·rw[h.1];rfl
  ·rw[if_neg hn] at hb
   have hn60:numP cs ss r.toNat≤60:=by
    rcases hsz with h|h|h
    ·exact absurd hc h
    ·exact h
    ·exact absurd h hn
   refine(buildGood h (N:=n.toNat) (k:=r.toNat) (by omega) (by omega) hf hft hc hn60).mono ?_;rintro e w' ⟨v',rfl,hS,hb'⟩;exact⟨.inr ⟨hb,v',rfl,hS⟩,hb'⟩
 ·have hb:bldE n i o cs an ss r=chkP n i o cs an ss r:=by unfold bldE;rw[if_pos hc]
  rw[if_pos hc] at hC;refine(buildBad h hC (.inl hc)).mono ?_;rintro e w' ⟨rfl,hb'⟩;refine⟨.inl ⟨by rw[hb];exact hc,?_⟩,hb'⟩;rw[hb,if_pos hc]
theorem eqVws {w:World}{u v:Value}{xs ys:List (List Int)}(hx:KS 8 w u xs) (hy:KS 8 w v ys) :
  Calls Tryz.prog 107 #[u,v] w fun e w'=>e = .returned (.bool (decide (xs=ys)))∧Qt w w':=by
 obtain⟨xa,xc,xb,xo,rfl,hxa,hxc,_⟩:=hx;obtain⟨ya,yc,yb,yo,rfl,hya,hyc,_⟩:=hy;obtain⟨B,hB⟩:∃B,decide (xs=ys)=B:=⟨_,rfl⟩;rw[hB];replace hB:=qH hB;replace hxc:=qH hxc;replace hyc:=qH hyc;by_cases hlen:xs.length=ys.length
 ·rw[←hlen];replace hlen:=qH hlen;have h0:Hid (xs.take 0=ys.take 0):=rfl;go_enter Tryz.func107, Tryz.ntmps107
  go_wp2;go_loopw [13] (fun iv wr=>∃i:Nat,iv = .int .i64 i∧i≤xs.length∧Hid (xs.take i=ys.take i)∧Qt w wr) (fun iv _=>xs.length - (intOf iv).toNat)
  case atStart=>exact⟨0,rfl,by omega,h0,Qt.refl w⟩
  case round=>
   clear h0;obtain⟨i,rfl,hi,ht,n,rfl⟩:=hrel;by_cases hlt:i < xs.length
   ·obtain rfl:=hxa (by omega);obtain rfl:=hya (by rw[←hlen.out];omega);have hlt':i < ys.length:=(by rw[←hlen.out];exact hlt);obtain⟨hx8,hxi⟩:=hxc.out i hlt;obtain⟨hy8,hyi⟩:=hyc.out i hlt';obtain⟨x,hx⟩:=exE (xs.getD i []);obtain⟨y,hy⟩:=exE (ys.getD i []);rw[hx] at hx8 hxi;rw[hy] at hy8 hyi;obtain⟨x0,x1,x2,x3,x4,x5,x6,x7,rfl⟩:=eight hx8;obtain⟨y0,y1,y2,y3,y4,y5,y6,y7,rfl⟩:=eight hy8;obtain⟨c0,c1,c2,c3,c4,c5,c6,c7⟩:=hxi.all8;obtain⟨d0,d1,d2,d3,d4,d5,d6,d7⟩:=hyi.all8;clear hxi hyi hx8 hy8;by_cases he : [x0,x1,x2,x3,x4,x5,x6,x7] = [y0,y1,y2,y3,y4,y5,y6,y7]
    ·have hE:eqL [x0,x1,x2,x3,x4,x5,x6,x7] [y0,y1,y2,y3,y4,y5,y6,y7]=true:=eqL_true.2 he;have ht2:Hid (xs.take (i+1)=ys.take (i+1)):=takes_next ht.out hlt hlt' (by rw[hx,hy,he]);clear hx hy he ht;go_wp2;go_quiet (fail)
     go_wp2;go_roundw
     case rel=>exact⟨i+1,by go_num,hlt,ht2,by first|exact(Qt.mk' w n).step nq|exact Qt.mk' w _⟩
     case measure=>simp[intOf];omega
    ·have hE:eqL [x0,x1,x2,x3,x4,x5,x6,x7] [y0,y1,y2,y3,y4,y5,y6,y7]=false:=eqL_false.2 he
     have hBf:Hid (B=false):=by
      show _=_;rw[←hB.out];refine decide_eq_false fun h=>he ?_;rw[←hx,←hy,h]
     clear hx hy he ht;go_wp2;go_quiet (fail)
     go_wp2;go_ret;exact⟨by rw[hBf.out];rfl,by first|exact(Qt.mk' w n).step nq|exact Qt.mk' w _⟩
   ·have hBt:Hid (B=true):=by
     show _=_;rw[←hB.out];exact decide_eq_true (takes_all ht.out (by omega) (by rw[←hlen.out];omega))
    clear ht;go_wp2;go_ret;exact⟨by rw[hBt.out];rfl,Qt.mk' w n⟩
 ·have hBf:B=false:=by rw[←hB.out];exact decide_eq_false fun h=>hlen (by rw[h])
  subst hBf;have h1:((xs.length:Int) == (ys.length:Int))=false:=by simp;omega
  go_enter Tryz.func107, Tryz.ntmps107
  go_wp2;go_ret;exact⟨rfl,Qt.refl w⟩
theorem eqVecs {w:World}{u v:Value}{xs ys:List (List Int)}(hx:Intss w u xs) (hy:Intss w v ys) :
  Calls Tryz.prog 175 #[u,v,.func (.func 18) #[] #[]] w fun e w'=>e = .returned (.bool (decide (xs=ys)))∧Qt w w':=by
 obtain⟨xa,xc,xb,xo,rfl,hxa,hxc,_⟩:=hx;obtain⟨ya,yc,yb,yo,rfl,hya,hyc,_⟩:=hy;obtain⟨B,hB⟩:∃B,decide (xs=ys)=B:=⟨_,rfl⟩;rw[hB];replace hB:=qH hB;replace hxc:=qH hxc;replace hyc:=qH hyc;by_cases hlen:xs.length=ys.length
 ·rw[←hlen];replace hlen:=qH hlen;have h0:Hid (xs.take 0=ys.take 0):=rfl;go_enter Tryz.func175, Tryz.ntmps175
  go_wp2;go_loopw [17] (fun iv wr=>∃i:Nat,iv = .int .i64 i∧i≤xs.length∧Hid (xs.take i=ys.take i)∧Qt w wr) (fun iv _=>xs.length - (intOf iv).toNat)
  case atStart=>exact⟨0,rfl,by omega,h0,Qt.refl w⟩
  case round=>
   clear h0;obtain⟨i,rfl,hi,ht,n,rfl⟩:=hrel;by_cases hlt:i < xs.length
   ·obtain rfl:=hxa (by omega);obtain rfl:=hya (by rw[←hlen.out];omega);have hlt':i < ys.length:=(by rw[←hlen.out];exact hlt);obtain⟨cu,hcu,hu⟩:=hxc.out i hlt;obtain⟨cv,hcv,hv⟩:=hyc.out i hlt';have H:=qH (eqInts (hu.keep (below_drewN (Below.refl _ w) n)) (hv.keep (below_drewN (Below.refl _ w) n)));obtain⟨x,hx⟩:=exE (xs.getD i []);obtain⟨y,hy⟩:=exE (ys.getD i []);rw[hx] at hu;rw[hy] at hv;rw[hx,hy] at H;obtain⟨xa',xc',rfl⟩:=hu.shape;obtain⟨ya',yc',rfl⟩:=hv.shape;clear hu hv;by_cases he:x=y
    ·rw[decide_eq_true he] at H;have ht2:Hid (xs.take (i+1)=ys.take (i+1)):=takes_next ht.out hlt hlt' (by rw[hx,hy,he]);clear hx hy he ht;go_wp2_with fail
     refine H.out.mono ?_;rintro e w' ⟨rfl,m,rfl⟩;go_wp2_with fail
     go_roundw
     case rel=>exact⟨i+1,by go_num,hlt,ht2,by first|exact(Qt.mk' w n).step m|exact Qt.mk' w _⟩
     case measure=>simp[intOf];omega
    ·rw[decide_eq_false he] at H
     have hBf:Hid (B=false):=by
      show _=_;rw[←hB.out];refine decide_eq_false fun h=>he ?_;rw[←hx,←hy,h]
     clear hx hy he ht;go_wp2_with fail
     refine H.out.mono ?_;rintro e w' ⟨rfl,m,rfl⟩;go_wp2_with fail
     go_ret;exact⟨by rw[hBf.out];rfl,by first|exact(Qt.mk' w n).step m|exact Qt.mk' w _⟩
   ·have hBt:Hid (B=true):=by
     show _=_;rw[←hB.out];exact decide_eq_true (takes_all ht.out (by omega) (by rw[←hlen.out];omega))
    clear ht;go_wp2;go_ret;exact⟨by rw[hBt.out];rfl,Qt.mk' w n⟩
 ·have hBf:B=false:=by rw[←hB.out];exact decide_eq_false fun h=>hlen (by rw[h])
  subst hBf;have h1:((xs.length:Int) == (ys.length:Int))=false:=by simp;omega
  go_enter Tryz.func175, Tryz.ntmps175
  go_wp2;go_ret;exact⟨rfl,Qt.refl w⟩
def sameB (x y:Ex):Bool:=decide (x.1=y.1) && (decide (x.2.1=y.2.1) && decide (x.2.2=y.2.2))
theorem sameB_iff {x y:Ex}:sameB x y=decide (x=y):=by
 obtain⟨a,b,c⟩:=x;obtain⟨a',b',c'⟩:=y;unfold sameB;by_cases h1:a=a'<;>by_cases h2:b=b'<;>by_cases h3:c=c'<;>simp[h1,h2,h3]
theorem sameX {w:World}{x y:Ex}{u1 u2 v1 v2:Value}(h1:KS 7 w u1 x.2.1) (h2:Intss w u2 x.2.2) (k1:KS 7 w v1 y.2.1) (k2:Intss w v2 y.2.2) :
  Calls Tryz.prog 109 #[.agg #[.int .i64 x.1,u1,u2],.agg #[.int .i64 y.1,v1,v2]] w fun e w'=>e = .returned (.bool (sameB x y))∧Below w.heap.size w w':=by
 obtain⟨x0,xw,xv⟩:=x;obtain⟨y0,yw,yv⟩:=y;obtain⟨W1,hW1⟩:=exF ((w.alloc (.cells #[.int .i64 x0,u1,u2] 80)).alloc (.cells #[.int .i64 y0,v1,v2] 80));have hb1:Below w.heap.size w W1:=by rw[hW1];exact((Below.refl _ w).alloc (Nat.le_refl _) _).alloc (by simp) _
 have kA:W1.heap[w.heap.size]? = some (.cells #[.int .i64 x0,u1,u2] 80):=by
  rw[hW1];exact(Below.heap_alloc _ _ _ (by simp)).trans (heap_alloc_new w _)
 have kB:W1.heap[w.heap.size+1]? = some (.cells #[.int .i64 y0,v1,v2] 80):=by
  rw[hW1];have:=heap_alloc_new (w.alloc (.cells #[.int .i64 x0,u1,u2] 80)) (.cells #[.int .i64 y0,v1,v2] 80)
  rwa [World.size_alloc] at this
 have HR:=qH (fun W (hb:Below W1.heap.size W1 W)=>eqRds ((h1.keep hb1).keep hb) ((k1.keep hb1).keep hb));have HV:=qH (fun W (hb:Below W1.heap.size W1 W)=>eqVecs ((h2.keep hb1).keep hb) ((k2.keep hb1).keep hb));obtain⟨ua,uc,rfl⟩:=h1.shape;obtain⟨ub,ud,rfl⟩:=h2.shape;obtain⟨va,vc,rfl⟩:=k1.shape;obtain⟨vb,vd,rfl⟩:=k2.shape;have HK:=qH (fun W (hb:Below W1.heap.size W1 W)=>And.intro (keep3 hb (box3' kA)) (keep3 hb (box3' kB)));obtain⟨⟨p0,p1,p2⟩,q0,q1,q2⟩:=HK.out W1 (Below.refl _ _);rw[hW1] at p0 p1 p2 q0 q1 q2;unfold sameB;clear h1 h2 k1 k2 kA kB;by_cases e0:x0=y0
 ·subst e0;rw[decide_eq_true (rfl:x0=x0),Bool.true_and];by_cases e1:xw=yw
  ·rw[decide_eq_true e1,Bool.true_and];simp only[decide_eq_true e1] at HR;clear e1;go_enter Tryz.func109, Tryz.ntmps109
   go_wp2_with fail
   rw[←hW1];replace hW1:=qH hW1;refine(HR.out W1 (Below.refl _ _)).mono ?_;rintro e w2 ⟨rfl,hq2⟩;have hb2:Below W1.heap.size W1 w2:=hq2.below;clear p0 p1 p2 q0 q1 q2;obtain⟨⟨p0,p1,p2⟩,q0,q1,q2⟩:=HK.out w2 hb2;have hb02:=btt hb1 hb2;go_wp2_with fail
   refine(HV.out w2 hb2).mono ?_;rintro e w3 ⟨rfl,hq3⟩;have hb3:=btt hb02 hq3.below;clear p0 p1 p2 q0 q1 q2;go_wp2;go_ret;exact⟨rfl,hb3⟩
  ·rw[decide_eq_false e1,Bool.false_and];simp only[decide_eq_false e1] at HR;clear e1;go_enter Tryz.func109, Tryz.ntmps109
   go_wp2_with fail
   rw[←hW1];replace hW1:=qH hW1;refine(HR.out W1 (Below.refl _ _)).mono ?_;rintro e w2 ⟨rfl,hq2⟩;have hb2:Below W1.heap.size W1 w2:=hq2.below;clear p0 p1 p2 q0 q1 q2;obtain⟨⟨p0,p1,p2⟩,q0,q1,q2⟩:=HK.out w2 hb2;have hb02:=btt hb1 hb2;go_wp2;go_ret;exact⟨rfl,hb02⟩
 ·have e2:(x0 == y0)=false:=by simpa using e0
  rw[decide_eq_false e0,Bool.false_and];go_enter Tryz.func109, Tryz.ntmps109
  go_wp2;go_ret;exact⟨rfl,by rw[←hW1];exact hb1⟩
theorem eqExs {w:World}{u v:Value}{xs ys:List Ex}(hx:ExS w u xs) (hy:ExS w v ys) :
  Calls Tryz.prog 108 #[u,v,.func (.func 109) #[] #[]] w fun e w'=>e = .returned (.bool (decide (xs=ys)))∧Below w.heap.size w w':=by
 obtain⟨xa,xc,xb,xo,rfl,hxa,hxc,_⟩:=hx;obtain⟨ya,yc,yb,yo,rfl,hya,hyc,_⟩:=hy;obtain⟨B,hB⟩:∃B,decide (xs=ys)=B:=⟨_,rfl⟩;rw[hB];replace hB:=qH hB;replace hxc:=qH hxc;replace hyc:=qH hyc;by_cases hlen:xs.length=ys.length
 ·rw[←hlen];replace hlen:=qH hlen;have h0:Hid (xs.take 0=ys.take 0):=rfl;have hb0:=Below.refl w.heap.size w;go_enter Tryz.func108, Tryz.ntmps108
  go_wp2;go_loopw [17] (fun iv wr=>∃i:Nat,iv = .int .i64 i∧i≤xs.length∧Hid (xs.take i=ys.take i)∧Below w.heap.size w wr) (fun iv _=>xs.length - (intOf iv).toNat)
  case atStart=>exact⟨0,rfl,by omega,h0,hb0⟩
  case round=>
   clear h0 hb0;obtain⟨i,rfl,hi,ht,hbr⟩:=hrel;by_cases hlt:i < xs.length
   ·obtain rfl:=hxa (by omega);obtain rfl:=hya (by rw[←hlen.out];omega);have hlt':i < ys.length:=(by rw[←hlen.out];exact hlt);obtain⟨u1,u2,c0,c1,c2,i1,i2⟩:=hxc.out i hlt;obtain⟨v1,v2,d0,d1,d2,j1,j2⟩:=hyc.out i hlt';obtain⟨x,hx⟩:=exE (xs.getD i exNil);obtain⟨y,hy⟩:=exE (ys.getD i exNil);rw[hx] at c0 i1 i2;rw[hy] at d0 j1 j2;replace c0:=cell_kept hbr c0;replace c1:=cell_kept hbr c1;replace c2:=cell_kept hbr c2;replace d0:=cell_kept hbr d0;replace d1:=cell_kept hbr d1;replace d2:=cell_kept hbr d2;have HS:=qH (fun W (hb:Below wr.heap.size wr W)=>sameX (x:=x) (y:=y) (i1.keep (btt hbr hb)) (i2.keep (btt hbr hb)) (j1.keep (btt hbr hb)) (j2.keep (btt hbr hb)));obtain⟨ua,uc,hu1⟩:=i1.shape;obtain⟨ub,ud,hu2⟩:=i2.shape;obtain⟨va,vc,hv1⟩:=j1.shape;obtain⟨vb,vd,hv2⟩:=j2.shape;subst hu1 hu2 hv1 hv2;obtain⟨x0,xw,xv⟩:=x;obtain⟨y0,yw,yv⟩:=y;have hi1:(i:Int) < (xs.length:Int):=(by omega);have hi2:(i:Int) < (ys.length:Int):=(by omega);obtain⟨W5,hW5⟩:=exF (wr.alloc (.cells #[.int .i64 x0,.slice ua xw.length uc,.slice ub xv.length ud] 80));have hb5:Below wr.heap.size wr W5:=(by rw[hW5];exact(Below.refl _ _).alloc (Nat.le_refl _) _);have hs5:W5.heap.size=wr.heap.size+1:=(by rw[hW5];simp);have k5:W5.heap[wr.heap.size]? = some (.cells #[.int .i64 x0,.slice ua xw.length uc,.slice ub xv.length ud] 80):=(by rw[hW5];exact heap_alloc_new _ _);obtain⟨W6,hW6⟩:=exF (W5.alloc (.cells #[.int .i64 y0,.slice va yw.length vc,.slice vb yv.length vd] 80));have hb6:Below W5.heap.size W5 W6:=(by rw[hW6];exact(Below.refl _ _).alloc (Nat.le_refl _) _);have k6:W6.heap[wr.heap.size+1]? = some (.cells #[.int .i64 y0,.slice va yw.length vc,.slice vb yv.length vd] 80):=(by rw[←hs5,hW6];exact heap_alloc_new _ _);obtain⟨p0,p1,p2⟩:=box3' (keptO hb6 k5);obtain⟨q0,q1,q2⟩:=box3' k6;replace d0:=cell_kept hb5 d0;replace d1:=cell_kept hb5 d1;replace d2:=cell_kept hb5 d2;have hb56:=btt hb5 hb6;clear i1 i2 j1 j2 k5 k6;rw[hW6] at p0 p1 p2 q0 q1 q2;rw[hW5] at p0 p1 p2 q0 q1 q2 d0 d1 d2 hs5;go_wp2_with fail
    rw[←hW5,←hW6];replace hW5:=qH hW5;replace hW6:=qH hW6;refine(HS.out W6 hb56).mono ?_;rintro e w7 ⟨rfl,hb7⟩;have hbe:=btt hbr (btt hb56 hb7);rw[sameB_iff];clear p0 p1 p2 q0 q1 q2 c0 c1 c2 d0 d1 d2 hs5 HS;by_cases he:((x0,xw,xv):Ex)=(y0,yw,yv)
    ·rw[decide_eq_true he];have ht2:Hid (xs.take (i+1)=ys.take (i+1)):=takes_next ht.out hlt hlt' (by rw[hx,hy,he]);clear hx hy he ht;go_wp2_with fail
     go_roundw
     case rel=>exact⟨i+1,by go_num,hlt,ht2,hbe⟩
     case measure=>simp[intOf];omega
    ·rw[decide_eq_false he]
     have hBf:Hid (B=false):=by
      show _=_;rw[←hB.out];refine decide_eq_false fun h=>he ?_;rw[←hx,←hy,h]
     clear hx hy he ht;go_wp2_with fail
     go_ret;exact⟨by rw[hBf.out];rfl,hbe⟩
   ·have hBt:Hid (B=true):=by
     show _=_;rw[←hB.out];exact decide_eq_true (takes_all ht.out (by omega) (by rw[←hlen.out];omega))
    clear ht;go_wp2;go_ret;exact⟨by rw[hBt.out];rfl,hbr⟩
 ·have hBf:B=false:=by rw[←hB.out];exact decide_eq_false fun h=>hlen (by rw[h])
  subst hBf;have h1:((xs.length:Int) == (ys.length:Int))=false:=by simp;omega
  go_enter Tryz.func108, Tryz.ntmps108
  go_wp2;go_ret;exact⟨rfl,Below.refl _ _⟩
def verE (n i o:Int) (cs:List Cs) (an:Int) (ss:List (List (List Int))) (r tn:Int) (vs:List (List Int)) (xs:List Ex):Int:=
 if bldE n i o cs an ss r ≠ 0 then bldE n i o cs an ss r else
  if tn=n∧vs=(sysP n.toNat cs (wL ss r.toNat 0)).1∧xs=(sysP n.toNat cs (wL ss r.toNat 0)).2 then 0 else 3
theorem verifyC {w:World}{v:Value}{n i o an r tn:Int}{cs:List Cs}{ss:List (List (List Int))}{vs:List (List Int)}{xs:List Ex}(h:SysV w v n i o cs an ss r tn vs xs) (hfew:fewP n i o cs an ss r=true) :
  Calls Tryz.prog 60 #[v] w fun e w'=>e = .returned (.int .i64 (verE n i o cs an ss r tn vs xs))∧Below w.heap.size w w':=by
 obtain⟨a,c,a',c',va,vc,xa,xc,rfl,hP,hV,hX⟩:=h;have HB0:=qH (fun W (hb:Below w.heap.size w W)=>buildAll (hP.keep hb) hfew);obtain⟨E,hE⟩:=exE (bldE n i o cs an ss r);obtain⟨P1,hP1⟩:=exE ((sysP n.toNat cs (wL ss r.toNat 0)).1);obtain⟨P2,hP2⟩:=exE ((sysP n.toNat cs (wL ss r.toNat 0)).2);unfold verE;rw[hE,hP1,hP2];replace hE:=qH hE;replace hP1:=qH hP1;replace hP2:=qH hP2;obtain⟨W1,hW1⟩:=exF (w.alloc (.cells #[.int .i64 n,.int .i64 i,.int .i64 o,.slice a cs.length c,.int .i64 an,.slice a' ss.length c',.int .i64 r,.int .i64 tn,.slice va vs.length vc,.slice xa xs.length xc] 35));have hb1:Below w.heap.size w W1:=by rw[hW1];exact(Below.refl _ w).alloc (Nat.le_refl _) _
 have k1:W1.heap[w.heap.size]? = some (.cells #[.int .i64 n,.int .i64 i,.int .i64 o,.slice a cs.length c,.int .i64 an,.slice a' ss.length c',.int .i64 r,.int .i64 tn,.slice va vs.length vc,.slice xa xs.length xc] 35):=by rw[hW1];exact heap_alloc_new _ _
 have HK:=qH (fun W (hb:Below W1.heap.size W1 W)=>And.intro (keep7 hb (box10' k1).1) (keep3' hb (box10' k1).2));obtain⟨⟨p0,p1,p2,p3,p4,p5,p6⟩,p7,p8,p9⟩:=HK.out W1 (Below.refl _ _);rw[hW1] at p0 p1 p2 p3 p4 p5 p6;clear k1 hP p7 p8 p9;by_cases hE0:E=0
 ·subst hE0;rw[if_neg (fun h=>h rfl)];have HB:Hid (∀W,Below w.heap.size w W→Calls Tryz.prog 28 #[.agg #[.int .i64 n,.int .i64 i,.int .i64 o,.slice a cs.length c,.int .i64 an,.slice a' ss.length c',.int .i64 r]] W fun e w'=>(∃v',e = .returned (.tuple #[v',.int .i64 0])∧SysV w' v' n i o cs an ss r n P1 P2)∧Below W.heap.size W w'):=fun W hb=>(HB0.out W hb).mono (fun e w' hO=>⟨hO.1.elim (fun h=>absurd hE.out h.1) (fun h=>by rw[←hP1.out,←hP2.out];exact h.2),hO.2⟩);obtain⟨R,hR⟩:∃R,(if tn=n∧vs=P1∧xs=P2 then (0:Int) else 3)=R:=⟨_,rfl⟩;rw[hR];replace hR:=qH hR;go_enter Tryz.func60, Tryz.ntmps60
  go_wp2_with fail
  rw[←hW1];replace hW1:=qH hW1;refine(HB.out W1 hb1).mono ?_;rintro e w2 ⟨⟨v2,rfl,a2,c2,a2',c2',va2,vc2,xa2,xc2,rfl,-,hV2,hX2⟩,hb2⟩;by_cases en:tn=n
  ·have en2:=en.symm;subst en2;have hb02:=btt hb1 hb2;obtain⟨W3,hW3⟩:=exF (w2.alloc (.cells #[.int .i64 n,.int .i64 i,.int .i64 o,.slice a2 cs.length c2,.int .i64 an,.slice a2' ss.length c2',.int .i64 r,.int .i64 n,.slice va2 P1.length vc2,.slice xa2 P2.length xc2] 35));have hb3:Below w2.heap.size w2 W3:=(by rw[hW3];exact(Below.refl _ _).alloc (Nat.le_refl _) _);have hb13:=btt hb2 hb3;have hb03:=btt hb02 hb3;have k3:W3.heap[w2.heap.size]? = some (.cells #[.int .i64 n,.int .i64 i,.int .i64 o,.slice a2 cs.length c2,.int .i64 an,.slice a2' ss.length c2',.int .i64 r,.int .i64 n,.slice va2 P1.length vc2,.slice xa2 P2.length xc2] 35):=(by rw[hW3];exact heap_alloc_new _ _);have HT:=qH (fun W (hb:Below W3.heap.size W3 W)=>keep3' hb (box10' k3).2);have HV:=qH (fun W (hb:Below W3.heap.size W3 W)=>eqVws (hV.keep (btt hb03 hb)) (hV2.keep (btt hb3 hb)));have HX:=qH (fun W (hb:Below W3.heap.size W3 W)=>eqExs (hX.keep (btt hb03 hb)) (hX2.keep (btt hb3 hb)));obtain⟨-,p7,p8,p9⟩:=HK.out W3 hb13;obtain⟨q7,q8,q9⟩:=HT.out W3 (Below.refl _ _);rw[hW3] at p7 p8 p9 q7 q8 q9;clear p0 p1 p2 p3 p4 p5 p6 k3 hV hX hV2 hX2;by_cases ev:vs=P1
   ·simp only[decide_eq_true ev] at HV;by_cases ex:xs=P2
    ·simp only[decide_eq_true ex] at HX;have hR0:=qH (show R=0 by rw[←hR.out,if_pos ⟨rfl,ev,ex⟩]);clear ev ex;go_wp2_with fail
     rw[←hW3];replace hW3:=qH hW3;refine(HV.out W3 (Below.refl _ _)).mono ?_;rintro e w4 ⟨rfl,hq4⟩;have hb4:Below W3.heap.size W3 w4:=hq4.below;clear p7 p8 p9 q7 q8 q9;obtain⟨-,p7,p8,p9⟩:=HK.out w4 (btt hb13 hb4);obtain⟨q7,q8,q9⟩:=HT.out w4 hb4;go_wp2_with fail
     refine(HX.out w4 hb4).mono ?_;rintro e w5 ⟨rfl,hb5⟩;have hbe:=btt hb03 (btt hb4 hb5);clear p7 p8 p9 q7 q8 q9;go_wp2_with fail
     go_ret;exact⟨by rw[hR0.out]<;>rfl,hbe⟩
    ·simp only[decide_eq_false ex] at HX;have hR0:=qH (show R=3 by rw[←hR.out,if_neg (fun h=>ex h.2.2)]);clear ev ex;go_wp2_with fail
     rw[←hW3];replace hW3:=qH hW3;refine(HV.out W3 (Below.refl _ _)).mono ?_;rintro e w4 ⟨rfl,hq4⟩;have hb4:Below W3.heap.size W3 w4:=hq4.below;clear p7 p8 p9 q7 q8 q9;obtain⟨-,p7,p8,p9⟩:=HK.out w4 (btt hb13 hb4);obtain⟨q7,q8,q9⟩:=HT.out w4 hb4;go_wp2_with fail
     refine(HX.out w4 hb4).mono ?_;rintro e w5 ⟨rfl,hb5⟩;have hbe:=btt hb03 (btt hb4 hb5);clear p7 p8 p9 q7 q8 q9;go_wp2_with fail
     go_ret;exact⟨by rw[hR0.out]<;>rfl,hbe⟩
   ·simp only[decide_eq_false ev] at HV;have hR0:=qH (show R=3 by rw[←hR.out,if_neg (fun h=>ev h.2.1)]);clear ev;go_wp2_with fail
    rw[←hW3];replace hW3:=qH hW3;refine(HV.out W3 (Below.refl _ _)).mono ?_;rintro e w4 ⟨rfl,hq4⟩;have hb4:Below W3.heap.size W3 w4:=hq4.below;have hbe:=btt hb03 hb4;clear p7 p8 p9 q7 q8 q9;go_wp2_with fail
    go_ret;exact⟨by rw[hR0.out]<;>rfl,hbe⟩
  ·have hR0:=qH (show R=3 by rw[←hR.out,if_neg (fun h=>en h.1)]);have en1:(tn != n)=true:=(by simpa using en);have hb02:=btt hb1 hb2;obtain⟨W3,hW3⟩:=exF (w2.alloc (.cells #[.int .i64 n,.int .i64 i,.int .i64 o,.slice a2 cs.length c2,.int .i64 an,.slice a2' ss.length c2',.int .i64 r,.int .i64 n,.slice va2 P1.length vc2,.slice xa2 P2.length xc2] 35));have hb3:Below w2.heap.size w2 W3:=(by rw[hW3];exact(Below.refl _ _).alloc (Nat.le_refl _) _);have hb13:=btt hb2 hb3;have hb03:=btt hb02 hb3;have k3:W3.heap[w2.heap.size]? = some (.cells #[.int .i64 n,.int .i64 i,.int .i64 o,.slice a2 cs.length c2,.int .i64 an,.slice a2' ss.length c2',.int .i64 r,.int .i64 n,.slice va2 P1.length vc2,.slice xa2 P2.length xc2] 35):=(by rw[hW3];exact heap_alloc_new _ _);have HT:=qH (fun W (hb:Below W3.heap.size W3 W)=>keep3' hb (box10' k3).2);have HV:=qH (fun W (hb:Below W3.heap.size W3 W)=>eqVws (hV.keep (btt hb03 hb)) (hV2.keep (btt hb3 hb)));have HX:=qH (fun W (hb:Below W3.heap.size W3 W)=>eqExs (hX.keep (btt hb03 hb)) (hX2.keep (btt hb3 hb)));obtain⟨-,p7,p8,p9⟩:=HK.out W3 hb13;obtain⟨q7,q8,q9⟩:=HT.out W3 (Below.refl _ _);rw[hW3] at p7 p8 p9 q7 q8 q9;clear p0 p1 p2 p3 p4 p5 p6 k3 hV hX hV2 hX2;clear en HV HX HT;go_wp2_with fail
   go_ret;exact⟨by rw[hR0.out]<;>rfl,by rw[←hW3];exact hb03⟩
 ·rw[if_pos hE0];have hE1:(E != 0)=true:=by simpa using hE0
  have HB:Hid (∀W,Below w.heap.size w W→Calls Tryz.prog 28 #[.agg #[.int .i64 n,.int .i64 i,.int .i64 o,.slice a cs.length c,.int .i64 an,.slice a' ss.length c',.int .i64 r]] W fun e w'=>e = .returned (.tuple #[.agg #[.int .i64 0,.int .i64 0,.int .i64 0,.slice none 0 0,.int .i64 0,.slice none 0 0,.int .i64 0,.int .i64 0,.slice none 0 0,.slice none 0 0],.int .i64 E])∧Below W.heap.size W w'):=fun W hb=>(HB0.out W hb).mono (fun e w' hO=>⟨hO.1.elim (fun h=>by rw[←hE.out];exact h.2) (fun h=>absurd (hE.out.symm.trans h.1) hE0),hO.2⟩);go_enter Tryz.func60, Tryz.ntmps60
  go_wp2_with fail
  rw[←hW1];refine(HB.out W1 hb1).mono ?_;rintro e w2 ⟨rfl,hb2⟩;clear p0 p1 p2 p3 p4 p5 p6;have hb02:=btt hb1 hb2;replace hW1:=qH hW1;go_wp2_with fail
  go_ret;exact⟨rfl,by first|exact hb02|exact hb02.trans ((Below.refl _ _).alloc (by have:=hb02.size;omega) _)⟩
def SeqA {α:Type}(P:Program) (g:Nat) (lb:Array Value) (enc:α→Array Value) (R:List α→α→World→Prop) (S:List α→Prop) (Rd:World→Prop):Prop:=
 ∀(l:Nat) (J Jx:List α→World→Prop) (W:World),(∀pre W,J pre W→Rd W)→(∀pre W W',J pre W→Below W.heap.size W W'→J pre W')→
  (∀pre x W1,J pre W1→R pre x W1→YieldAt Fence.wide 0 P l (enc x) W1 fun e W'=>(e = .returned (.bool true)∧J (pre ++ [x]) W')∨(e = .returned (.bool false)∧Jx (pre ++ [x]) W'))→
  J [] W→
  CallsIn Fence.wide 0 P g (#[.func (.yield l) #[] #[]]++lb) W fun e W'=>(∃v,e = .returned v)∧((∃xs,S xs∧J xs W')∨∃pre,Jx pre W')
theorem wpIn_rfA {P:Program}{α:Type}{g:Operand}{ps:Array Tmp}{assign body:Code}{Q:Exit→Act→World→Prop}{a:Act}{w:World}
  {gf:Nat} {lb:Array Value} (hg:a.eval g = .func (.func gf) #[] lb) (eg:∀args w,(callFunc gf args).run P w = .ok (.enter gf args) w)
  {enc:α→Array Value} {R:List α→α→World→Prop} {S:List α→Prop} {Rd:World→Prop} (hseq:SeqA P gf lb enc R S Rd)
  (hps:∀x,(enc x).size=ps.size)
  (I:List α→World→Prop) (Ix:Code→List α→World→Prop) (hI:∀(pre:List α) (W:World) (k:Nat) (o o':Obj),w.heap.size≤k→Lo o'→I pre W→W.heap[k]? = some o→Lo o→I pre (W.putObj k o')) (hIx:∀(c:Code) (pre:List α) (W:World) (k:Nat) (o o':Obj),w.heap.size≤k→Lo o'→Ix c pre W→W.heap[k]? = some o→Lo o→Ix c pre (W.putObj k o')) (hIb:∀(pre:List α) (W W':World),I pre W→Below W.heap.size W W'→I pre W') (hR:∀(pre:List α) (x:α) (W:World) (k:Nat) (o o':Obj),w.heap.size≤k→Lo o'→R pre x W→W.heap[k]? = some o→Lo o→R pre x (W.putObj k o'))
  (hrd:∀pre W,I pre W→Rd W) (h0:I [] w) (t:α→Array Value→Array Value)
  (hassign:∀(l:Nat) (x:α) (W:World) (K:Act→World→Prop),K { tmps:=t x a.tmps,defers:=[] } W→
   assign.wpIn (Fence.wide.inRound l) 0 P (Exit.then K (fun _ _ _=>False)) { tmps:=(ps.zip (enc x)).foldl (fun t (p,v)=>t.setIfInBounds p v) a.tmps,defers:=[] } W)
  (hbody:∀(l:Nat) (pre:List α) (x:α) (W:World),I pre W→R pre x W→body.wpIn (Fence.wide.inRound l) 0 P (bodyN I Ix (pre ++ [x]) W) { tmps:=t x a.tmps,defers:=[] } W)
  (hdone:∀(d:Nat) (xs:List α) (W:World),S xs→I xs W→w.heap.size≤d→W.heap[d]? = some (.deferred (some []))→Q .normal { a with defers:={ target:=.collected d,args:=#[] }::a.defers } W)
  (hstop:∀(d:Nat) (c:Code) (pre:List α) (W:World),Ix c pre W→w.heap.size≤d→W.heap[d]? = some (.deferred (some []))→c.wpIn Fence.wide 0 P Q { a with defers:={ target:=.collected d,args:=#[] }::a.defers } W) :
  (Code.rangeFunc g ps assign body).wpIn Fence.wide 0 P Q a w:=by
 refine wpIn_rangeFunc fun fn _=>?_;obtain⟨d,hd⟩:=exF (w.heap.size);obtain⟨l,hl⟩:=exF (w.heap.size+1);obtain⟨rec,hrec⟩:∃rec:LoopState→Option Code→Loop,rec=fun st pe=>{ state:=st,pending:=pe,fn:=fn,tmps:=a.tmps,params:=ps,assign:=assign,body:=body,defers:=d }:=⟨_,rfl⟩;obtain⟨W1,hW1⟩:=exE ((w.alloc (.deferred (some []))).alloc (.loop (rec .ready none)))
 have hl1:W1.heap[l]? = some (.loop (rec .ready none)):=by
  rw[←hW1,hl];have:=World.alloc_heap_new (w.alloc (.deferred (some []))) (.loop (rec .ready none));rwa [World.size_alloc] at this
 have hd1:W1.heap[d]? = some (.deferred (some [])):=by
  rw[←hW1,hd];exact(Below.heap_alloc _ _ _ (by simp)).trans (World.alloc_heap_new w _)
 have hdl:d ≠ l:=by omega
 let J:List α→World→Prop:=fun pre W=>I pre W∧W.heap[l]? = some (.loop (rec .ready none))∧W.heap[d]? = some (.deferred (some []))
 let Jx:List α→World→Prop:=fun pre W=>∃c,Ix c pre W∧W.heap[l]? = some (.loop (rec .done (some c)))∧W.heap[d]? = some (.deferred (some []))
 refine⟨l,[{ target:=.collected d,args:=#[] }],W1,{ target:=.fn (.func gf) lb,args:=#[.func (.yield l) #[] #[]] },W1,gf,#[.func (.yield l) #[] #[]]++lb,W1,?_,?_,?_,?_,?_,?_⟩
 ·rw[←hW1,hrec,hl,hd];exact run_enterLoop_outer _ _ _ _ _
 ·simp only[resolve,hg];simp[go_sem]
 ·intro f' hf';trivial
 ·simp[invoke,go_sem,eg]
 ·intro h;simp[Fence.wide] at h
 refine(hseq l J Jx W1 (fun pre W h=>hrd pre W h.1) (fun pre W W' h hb=>⟨hIb pre W W' h.1 hb,(hb.block _ (Array.getElem?_eq_some_iff.1 h.2.1).1).trans h.2.1,(hb.block _ (Array.getElem?_eq_some_iff.1 h.2.2).1).trans h.2.2⟩) ?_ ?_).mono ?_
 ·-- a round
  rintro pre x W ⟨h1,h7,h8⟩ hRx;have hlW:l < W.heap.size:=(Array.getElem?_eq_some_iff.1 h7).1;have hy:=run_yield (P:=P) (args:=enc x) h7 (by rw[hrec];exact hps x);rw[hrec] at hy;refine⟨fn,_,assign,body,hy,roundIn_of_wpIn trivial (hassign l x W _ ⟨_,run_beginRound h7 (by rw[hrec]),?_⟩)⟩;obtain⟨W2,hW2⟩:∃W2,W2=W.putObj l (.loop { rec .ready none with state:=.busy }):=⟨_,rfl⟩;have g7:W2.heap[l]? = some (.loop { rec .ready none with state:=.busy }):=by rw[hW2];exact World.putObj_heap_same hlW
  have g8:W2.heap[d]? = some (.deferred (some [])):=by rw[hW2];exact(World.putObj_heap_other hdl).trans h8
  have gR:R pre x W2:=by rw[hW2];exact hR pre x W l _ _ (by omega) trivial hRx h7 trivial
  have gI:I pre W2:=by rw[hW2];exact hI pre W l _ _ (by omega) trivial h1 h7 trivial
  rw[←hW2];refine wpIn_mono (hbody l pre x W2 gI gR) ?_
  have fin:∀(jump:Option Code) (W3:World),KeepL W2 W3→
    (Instr.endRound l jump).run P W3 = .ok (.bool jump.isNone) (W3.putObj l (.loop (rec (if jump.isNone then .ready else .done) jump)))∧
    (W3.putObj l (.loop (rec (if jump.isNone then .ready else .done) jump))).heap[l]? = some (.loop (rec (if jump.isNone then .ready else .done) jump))∧
    (W3.putObj l (.loop (rec (if jump.isNone then .ready else .done) jump))).heap[d]? = some (.deferred (some []))∧W3.heap[l]? = some (.loop { rec .ready none with state:=.busy }):=by
   intro jump W3 k1;have hl3:=k1.objs l _ g7 trivial;have hl3':l < W3.heap.size:=(Array.getElem?_eq_some_iff.1 hl3).1;have hend:=run_endRound (P:=P) jump hl3;exact⟨by rw[hrec] at hend⊢;exact hend,World.putObj_heap_same hl3',(World.putObj_heap_other hdl).trans (k1.objs d _ g8 trivial),hl3⟩
  rintro e a3 W3 hp;cases e with
  | normal=>
   obtain⟨f1,f2,f3,f4⟩:=fin none W3 hp.1;exact⟨_,_,f1,.inl ⟨rfl,hI _ W3 l _ _ (by omega) trivial hp.2 f4 trivial,f2,f3⟩⟩
  | ret=>
   obtain⟨f1,f2,f3,f4⟩:=fin (some .ret) W3 hp.1;exact⟨_,_,f1,.inr ⟨rfl,_,hIx _ _ W3 l _ _ (by omega) trivial hp.2 f4 trivial,f2,f3⟩⟩
  | exit id=>
   obtain⟨f1,f2,f3,f4⟩:=fin (some (.exit id)) W3 hp.1;exact⟨_,_,f1,.inr ⟨rfl,_,hIx _ _ W3 l _ _ (by omega) trivial hp.2 f4 trivial,f2,f3⟩⟩
  | goto t=>
   obtain⟨f1,f2,f3,f4⟩:=fin (some (.goto t)) W3 hp.1;exact⟨_,_,f1,.inr ⟨rfl,_,hIx _ _ W3 l _ _ (by omega) trivial hp.2 f4 trivial,f2,f3⟩⟩
  | panic ch=>exact hp.elim
  | outgrown=>exact hp.elim
 ·refine⟨?_,hl1,hd1⟩;rw[←hW1];exact hIb _ _ _ (hIb _ _ _ h0 ((Below.refl _ w).alloc (Nat.le_refl _) _)) ((Below.refl _ _).alloc (Nat.le_refl _) _)
 ·-- behind the iterator
  rintro e W2 ⟨⟨v,rfl⟩,(⟨xs,hS,h1,h7,h8⟩|⟨pre,c,h1,h7,h8⟩)⟩
  ·have hend:=run_endLoop (P:=P) h7 (by rw[hrec];simp);rw[hrec] at hend;exact⟨none,_,hend,hdone d xs _ hS (hI _ W2 l _ _ (by omega) trivial h1 h7 trivial) (by omega) ((World.putObj_heap_other hdl).trans h8)⟩
  ·have hend:=run_endLoop (P:=P) h7 (by rw[hrec];simp);rw[hrec] at hend;exact⟨some c,_,hend,hstop d c pre _ (hIx c _ W2 l _ _ (by omega) trivial h1 h7 trivial) (by omega) ((World.putObj_heap_other hdl).trans h8)⟩
end Go.Proofs.YtcnedkkcgdkioaaGreat

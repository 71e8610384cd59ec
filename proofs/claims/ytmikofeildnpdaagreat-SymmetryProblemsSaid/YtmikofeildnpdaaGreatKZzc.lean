/- Texts of this claim, put together: ZO YL0. -/
import Derived.Test.YtmikofeildnpdaaGreatKZy

set_option maxRecDepth 100000
set_option maxHeartbeats 12800000
namespace Go.Proofs.YtmikofeildnpdaaGreat
open Go.RowKit
theorem eqVecs {w:World}{u v:Value}{xs ys:List (List Int)}(hx:Intss w u xs) (hy:Intss w v ys) :
  Calls Tryz.prog 170 #[u,v,.func (.func 171) #[] #[]] w fun e w'=>e = .returned (.bool (decide (xs=ys)))∧Qt w w':=by
 obtain⟨xa,xc,xb,xo,rfl,hxa,hxc,_⟩:=hx;obtain⟨ya,yc,yb,yo,rfl,hya,hyc,_⟩:=hy;obtain⟨B,hB⟩:∃B,decide (xs=ys)=B:=⟨_,rfl⟩;rw[hB];replace hB:=qH hB;replace hxc:=qH hxc;replace hyc:=qH hyc;by_cases hlen:xs.length=ys.length
 ·rw[←hlen];replace hlen:=qH hlen;have h0:Hid (xs.take 0=ys.take 0):=rfl;go_enter Tryz.func170, Tryz.ntmps170
  go_wp2;go_loopw [17] (fun iv wr=>∃i:Nat,iv = .int .i64 i∧i≤xs.length∧Hid (xs.take i=ys.take i)∧Qt w wr) (fun iv _=>xs.length - (intOf iv).toNat)
  case atStart=>exact⟨0,rfl,by omega,h0,Qt.refl w⟩
  case round=>
   clear h0;obtain⟨i,rfl,hi,ht,n,rfl⟩:=hrel;by_cases hlt:i < xs.length
   ·obtain rfl:=hxa (by omega);obtain rfl:=hya (by rw[←hlen.out];omega);have hlt':i < ys.length:=(by rw[←hlen.out];exact hlt);obtain⟨cu,hcu,hu⟩:=hxc.out i hlt;obtain⟨cv,hcv,hv⟩:=hyc.out i hlt';have H:=qH (eqInts (hu.keep (below_drewN (Below.refl _ w) n)) (hv.keep (below_drewN (Below.refl _ w) n)));obtain⟨x,hx⟩:=exE (xs.getD i []);obtain⟨y,hy⟩:=exE (ys.getD i []);rw[hx] at hu;rw[hy] at hv;rw[hx,hy] at H;obtain⟨xa',xc',rfl⟩:=hu.shape;obtain⟨ya',yc',rfl⟩:=hv.shape;clear hu hv;by_cases he:x=y
    ·rw[decide_eq_true he] at H;have ht2:Hid (xs.take (i+1)=ys.take (i+1)):=takes_next ht.out hlt hlt' (by rw[hx,hy,he]);clear hx hy he ht;go_wp2_with fail
     refine H.out.mono ?_;rintro e w' ⟨rfl,m,rfl⟩;go_wp2_with fail
     go_roundw
     case rel=>exact⟨i+1,by go_num,hlt,ht2,by first|exact(Qt.mk' w n).step m|exact Qt.mk' w _⟩
     case measure=>simp[intOf];omega
    ·rw[decide_eq_false he] at H
     have hBf:Hid (B=false):=by
      show _=_;rw[←hB.out];refine decide_eq_false fun h=>he ?_;rw[←hx,←hy,h]
     clear hx hy he ht;go_wp2_with fail
     refine H.out.mono ?_;rintro e w' ⟨rfl,m,rfl⟩;go_wp2_with fail
     go_ret;exact⟨by rw[hBf.out];rfl,by first|exact(Qt.mk' w n).step m|exact Qt.mk' w _⟩
   ·have hBt:Hid (B=true):=by
     show _=_;rw[←hB.out];exact decide_eq_true (takes_all ht.out (by omega) (by rw[←hlen.out];omega))
    clear ht;go_wp2;go_ret;exact⟨by rw[hBt.out];rfl,Qt.mk' w n⟩
 ·have hBf:B=false:=by rw[←hB.out];exact decide_eq_false fun h=>hlen (by rw[h])
  subst hBf;have h1:((xs.length:Int) == (ys.length:Int))=false:=by simp;omega
  go_enter Tryz.func170, Tryz.ntmps170
  go_wp2;go_ret;exact⟨rfl,Qt.refl w⟩
theorem same1T {w:World}{u v:Value}{xs ys:List (List Int)}(hx:Intss w u xs) (hy:Intss w v ys) :
  Calls Tryz.prog 169 #[u,v] w fun e w'=>e = .returned (.bool (decide (xs=ys)))∧Qt w w':=by
 have H:=qH (eqVecs hx hy);obtain⟨xa,xc,rfl⟩:=hx.shape;obtain⟨ya,yc,rfl⟩:=hy.shape;obtain⟨B,hB⟩:∃B,decide (xs=ys)=B:=⟨_,rfl⟩;rw[hB] at H⊢;clear hx hy hB;go_enter Tryz.func169, Tryz.ntmps169
 go_wp2_with fail
 refine H.out.mono ?_;rintro e w' ⟨rfl,hq⟩;go_wp2;go_ret;exact⟨rfl,hq⟩
def SameBox (w:World) (b:Nat):Prop:=w.cell? ⟨b,0,none⟩=some (.func (.func 169) #[] #[])
theorem cs_eq {x y:Cs}:decide (x=y)=(decide (x.1=y.1) && decide (x.2.1=y.2.1) && decide (x.2.2=y.2.2)):=by
 obtain⟨x0,x1,x2⟩:=x;obtain⟨y0,y1,y2⟩:=y;rw[Bool.eq_iff_iff];simp[Prod.mk.injEq,and_assoc]
theorem same2T {w:World}{u0 u1 u2 v0 v1 v2:Value}{x y:Cs}{bf:Nat}(hf:SameBox w bf) (hx0:Ints w u0 x.1) (hx1:Intss w u1 x.2.1) (hx2:Intss w u2 x.2.2) (hy0:Ints w v0 y.1) (hy1:Intss w v1 y.2.1) (hy2:Intss w v2 y.2.2) :
  Calls Tryz.prog 173 #[.agg #[u0,u1,u2],.agg #[v0,v1,v2],.pointer (some ⟨bf,0,none⟩)] w fun e w'=>e = .returned (.bool (decide (x=y)))∧Below w.heap.size w w':=by
 obtain⟨W1,hW1⟩:=exF ((w.alloc (.cells #[u0,u1,u2] 128)).alloc (.cells #[v0,v1,v2] 128));have hb1:Below w.heap.size w W1:=by rw[hW1];exact((Below.refl _ w).alloc (Nat.le_refl _) _).alloc (by simp) _
 have H0:=qH (eqInts (hx0.keep hb1) (hy0.keep hb1));have H1:=qH (fun n=>same1T (hx1.keep (below_drewN hb1 n)) (hy1.keep (below_drewN hb1 n)));have H2:=qH (fun n=>same1T (hx2.keep (below_drewN hb1 n)) (hy2.keep (below_drewN hb1 n)));have m0:W1.heap[w.heap.size]? = some (.cells #[u0,u1,u2] 128):=by rw[hW1];exact(Below.heap_alloc _ _ _ (by simp)).trans (heap_alloc_new _ _)
 have m1:W1.heap[w.heap.size+1]? = some (.cells #[v0,v1,v2] 128):=by
  have h:=heap_alloc_new (w.alloc (.cells #[u0,u1,u2] 128)) (.cells #[v0,v1,v2] 128);rw[World.size_alloc] at h;rw[hW1];exact h
 have kf:W1.cell? ⟨bf,0,none⟩=some (.func (.func 169) #[] #[]):=cell_kept hb1 hf;obtain⟨p0,p1,p2⟩:=boxL3 m0;obtain⟨q0,q1,q2⟩:=boxL3 m1;have hK:=qH (fun n:Nat=>(⟨p0,p1,p2,q0,q1,q2,kf⟩:(W1.drewN n).cell? ⟨w.heap.size,0,none⟩=some u0∧(W1.drewN n).cell? ⟨w.heap.size,1,none⟩=some u1∧(W1.drewN n).cell? ⟨w.heap.size,2,none⟩=some u2∧(W1.drewN n).cell? ⟨w.heap.size+1,0,none⟩=some v0∧(W1.drewN n).cell? ⟨w.heap.size+1,1,none⟩=some v1∧(W1.drewN n).cell? ⟨w.heap.size+1,2,none⟩=some v2∧(W1.drewN n).cell? ⟨bf,0,none⟩=some (.func (.func 169) #[] #[])));obtain⟨a0,c0,rfl⟩:=hx0.shape;obtain⟨a1,c1,rfl⟩:=hx1.shape;obtain⟨a2,c2,rfl⟩:=hx2.shape;obtain⟨d0,e0,rfl⟩:=hy0.shape;obtain⟨d1,e1,rfl⟩:=hy1.shape;obtain⟨d2,e2,rfl⟩:=hy2.shape;rw[cs_eq];obtain⟨B0,hB0⟩:∃B,decide (x.1=y.1)=B:=⟨_,rfl⟩;obtain⟨B1,hB1⟩:∃B,decide (x.2.1=y.2.1)=B:=⟨_,rfl⟩;obtain⟨B2,hB2⟩:∃B,decide (x.2.2=y.2.2)=B:=⟨_,rfl⟩;rw[hB0] at H0⊢;rw[hB1] at H1⊢;rw[hB2] at H2⊢;clear hB0 hB1 hB2 hx0 hx1 hx2 hy0 hy1 hy2 m0 m1 hf;have hW:=qH hW1;rw[hW1] at p0 q0;clear hW1;go_enter Tryz.func173, Tryz.ntmps173
 go_wp2_with fail
 rw[←hW.out];refine H0.out.mono ?_;rintro e w2 ⟨rfl,n,rfl⟩;clear p0 q0 H0;obtain⟨-,p1,-,-,q1,-,r1⟩:=hK.out n;cases B0
 ·clear H1 H2;go_wp2;go_ret;exact⟨rfl,below_drewN hb1 n⟩
 ·go_wp2_with fail
  refine(H1.out n).mono ?_;rintro e w3 ⟨rfl,m,hm0⟩;have hm:w3=W1.drewN (n+m):=by rw[hm0];simp
  clear hm0;obtain⟨k,hk⟩:=exE (n+m);rw[hk] at hm;subst hm;clear p1 q1 r1 H1 hk;obtain⟨-,-,p2,-,-,q2,r2⟩:=hK.out k;cases B1
  ·clear H2;go_wp2;go_ret;exact⟨rfl,below_drewN hb1 k⟩
  ·go_wp2_with fail
   refine(H2.out k).mono ?_;rintro e w4 ⟨rfl,m,rfl⟩;clear p2 q2 r2 H2;go_wp2;go_ret;exact⟨rfl,below_drewN hb1 _⟩
theorem eqCases {w:World}{u v:Value}{xs ys:List Cs}{bf:Nat}(hf:SameBox w bf) (hx:CsS w u xs) (hy:CsS w v ys) :
  Calls Tryz.prog 172 #[u,v,.func (.func 173) #[] #[.pointer (some ⟨bf,0,none⟩)]] w fun e w'=>e = .returned (.bool (decide (xs=ys)))∧Below w.heap.size w w':=by
 obtain⟨xa,xc,xb,xo,rfl,hxa,hxc,hxn⟩:=hx;obtain⟨ya,yc,yb,yo,rfl,hya,hyc,_⟩:=hy;obtain⟨B,hB⟩:∃B,decide (xs=ys)=B:=⟨_,rfl⟩;rw[hB];replace hB:=qH hB;replace hxc:=qH hxc;replace hyc:=qH hyc;have hfh:=qH (fun W (hb:Below w.heap.size w W)=>(cell_kept hb hf:SameBox W bf));by_cases hlen:xs.length=ys.length
 ·rw[←hlen];replace hlen:=qH hlen;have h0:Hid (xs.take 0=ys.take 0):=rfl;clear hf;go_enter Tryz.func172, Tryz.ntmps172
  go_wp2;go_loopw [17] (fun iv wr=>∃i:Nat,iv = .int .i64 i∧i≤xs.length∧Hid (xs.take i=ys.take i)∧Hid (Below w.heap.size w wr)) (fun iv _=>xs.length - (intOf iv).toNat)
  case atStart=>exact⟨0,rfl,by omega,h0,Below.refl _ w⟩
  case round=>
   clear h0;obtain⟨i,rfl,hi,ht,hb⟩:=hrel;by_cases hlt:i < xs.length
   ·obtain rfl:=hxa (by omega);obtain rfl:=hya (by rw[←hlen.out];omega);have hlt':i < ys.length:=(by rw[←hlen.out];exact hlt);obtain⟨u0,u1,u2,k0,k1,k2,i0,i1,i2⟩:=(hxc.out.keep hb.out) i hlt;obtain⟨v0,v1,v2,l0,l1,l2,j0,j1,j2⟩:=(hyc.out.keep hb.out) i hlt';obtain⟨x,hx⟩:=exE (xs.getD i csNil);obtain⟨y,hy⟩:=exE (ys.getD i csNil);rw[hx] at i0 i1 i2;rw[hy] at j0 j1 j2;obtain⟨W5,hW5⟩:=exF (wr.alloc (.cells #[u0,u1,u2] 128));have hb5:Below wr.heap.size wr W5:=(by rw[hW5];exact(Below.refl _ _).alloc (Nat.le_refl _) _);obtain⟨W6,hW6⟩:=exF (W5.alloc (.cells #[v0,v1,v2] 128));have hb6:Below wr.heap.size wr W6:=(by rw[hW6];exact hb5.alloc hb5.size _);have m5:W6.heap[wr.heap.size]? = some (.cells #[u0,u1,u2] 128):=by rw[hW6,hW5];exact(Below.heap_alloc _ _ _ (by simp)).trans (heap_alloc_new _ _)
    have m6:W6.heap[wr.heap.size+1]? = some (.cells #[v0,v1,v2] 128):=by
     have h:=heap_alloc_new W5 (.cells #[v0,v1,v2] 128);rw[hW5,World.size_alloc] at h;rw[hW6,hW5];exact h
    have hbw6:=hb.out.trans (hb6.mono hb.out.size);have H:=qH (same2T (hfh.out W6 hbw6) (i0.keep hb6) (i1.keep hb6) (i2.keep hb6) (j0.keep hb6) (j1.keep hb6) (j2.keep hb6));obtain⟨p0,p1,p2⟩:=boxL3 m5;obtain⟨q0,q1,q2⟩:=boxL3 m6;obtain⟨a0,c0,rfl⟩:=i0.shape;obtain⟨a1,c1,rfl⟩:=i1.shape;obtain⟨a2,c2,rfl⟩:=i2.shape;obtain⟨d0,e0,rfl⟩:=j0.shape;obtain⟨d1,e1,rfl⟩:=j1.shape;obtain⟨d2,e2,rfl⟩:=j2.shape;replace l0:=cell_kept hb5 l0;replace l1:=cell_kept hb5 l1;replace l2:=cell_kept hb5 l2;rw[hW5] at l0 l1 l2;rw[hW6,hW5] at p0 p1 p2 q0 q1 q2;have hW:=qH (hW6.trans (by rw[hW5]));clear m5 m6 hb5 i0 i1 i2 j0 j1 j2;clear hW6;clear hW5;replace hb6:=qH hb6;replace hbw6:=qH hbw6;by_cases he:x=y
    ·rw[decide_eq_true he] at H
     have ht2:Hid (xs.take (i+1)=ys.take (i+1)):=by
      show _=_;rw[take_snoc hlt csNil,take_snoc hlt' csNil,ht.out,hx,hy,he]
     clear hx hy he ht;go_wp2_with fail
     rw[←hW.out];refine H.out.mono ?_;rintro e w' ⟨rfl,hb9⟩;have hbf:=qH (bt hbw6.out hb9 hbw6.out.size);clear p0 p1 p2 q0 q1 q2 k0 k1 k2 l0 l1 l2 hW H;go_wp2_with fail
     go_roundw
     case rel=>exact⟨i+1,by go_num,hlt,ht2,hbf.out⟩
     case measure=>simp[intOf];omega
    ·rw[decide_eq_false he] at H
     have hBf:Hid (B=false):=by
      show _=_;rw[←hB.out];refine decide_eq_false fun h=>he ?_;rw[←hx,←hy,h]
     clear hx hy he ht;go_wp2_with fail
     rw[←hW.out];refine H.out.mono ?_;rintro e w' ⟨rfl,hb9⟩;have hbf:=qH (bt hbw6.out hb9 hbw6.out.size);clear p0 p1 p2 q0 q1 q2 k0 k1 k2 l0 l1 l2 hW H;go_wp2_with fail
     go_ret;exact⟨by rw[hBf.out];rfl,hbf.out⟩
   ·have hBt:Hid (B=true):=by
     show _=_;rw[←hB.out];refine decide_eq_true ?_;have:=ht.out
     rwa [List.take_of_length_le (by omega),List.take_of_length_le (by rw[←hlen.out];omega)] at this
    clear ht;go_wp2;go_ret;exact⟨by rw[hBt.out];rfl,hb.out⟩
 ·have hBf:B=false:=by rw[←hB.out];exact decide_eq_false fun h=>hlen (by rw[h])
  subst hBf;have h1:((xs.length:Int) == (ys.length:Int))=false:=by simp;omega
  go_enter Tryz.func172, Tryz.ntmps172
  go_wp2;go_ret;exact⟨rfl,Below.refl _ w⟩
theorem sameTask {w:World}{u v:Value}{n i o:Int}{xs ys:List Cs}(hx:TaskV w u n i o xs) (hy:TaskV w v n i o ys) :
  Calls Tryz.prog 121 #[u,v] w fun e w'=>e = .returned (.bool (decide (xs=ys)))∧Below w.heap.size w w':=by
 obtain⟨su,rfl,hu⟩:=hx;obtain⟨sv,rfl,hv⟩:=hy;obtain⟨ua,uc,hsu⟩:=hu.shape;obtain⟨va,vc,hsv⟩:=hv.shape;subst hsu hsv;obtain⟨W1,hW1⟩:=exF (((w.alloc (.cells #[.int .i64 n,.int .i64 i,.int .i64 o,.slice ua xs.length uc] 64)).alloc (.cells #[.int .i64 n,.int .i64 i,.int .i64 o,.slice va ys.length vc] 64)).alloc (.cells #[.func (.func 169) #[] #[]] 44));have hb1:Below w.heap.size w W1:=by rw[hW1];exact(((Below.refl _ w).alloc (Nat.le_refl _) _).alloc (by simp) _).alloc (by simp;omega) _
 have mf:SameBox W1 (w.heap.size+1+1):=by
  have h:=heap_alloc_new ((w.alloc (.cells #[.int .i64 n,.int .i64 i,.int .i64 o,.slice ua xs.length uc] 64)).alloc (.cells #[.int .i64 n,.int .i64 i,.int .i64 o,.slice va ys.length vc] 64)) (.cells #[.func (.func 169) #[] #[]] 44);rw[World.size_alloc,World.size_alloc] at h;rw[←hW1] at h;exact cell_of_one h
 have H:=qH (eqCases mf (hu.keep hb1) (hv.keep hb1));obtain⟨B,hB⟩:∃B,decide (xs=ys)=B:=⟨_,rfl⟩;rw[hB] at H⊢;clear hu hv hB mf;replace hW1:=qH hW1;go_enter Tryz.func121, Tryz.ntmps121
 go_wp2_with fail
 rw[←hW1.out];refine H.out.mono ?_;rintro e w' ⟨rfl,hb2⟩;have hbf:=bt hb1 hb2 hb1.size;go_wp2;go_ret;exact⟨rfl,hbf⟩
def oSa6_0:Oper:=⟨some 43,.fieldAddr 64 (.tmp 2) 3,0,"ref.go:356",#[],none⟩
def oSa6_1:Oper:=⟨some 44,.load 62 (.tmp 43),62,"ref.go:356",#[⟨0,.data⟩],none⟩
def oSa6_2:Oper:=⟨some 45,.move (.tmp 5),3,"ref.go:356",#[],none⟩
def oSa6_3:Oper:=⟨some 46,.indexAddr 62 (.tmp 44) (.tmp 45),0,"ref.go:356",#[⟨1,.data⟩,⟨2,.data⟩],none⟩
def oSa6_4:Oper:=⟨some 47,.load 128 (.tmp 46),128,"ref.go:356",#[⟨3,.data⟩],none⟩
def oSa6_5:Oper:=⟨some 48,.fieldAddr 64 (.tmp 3) 3,0,"ref.go:356",#[{ on:=12,ground:=Ground.gcOnly Departure.lateStores }],none⟩
def oSa6_6:Oper:=⟨some 49,.load 62 (.tmp 48),62,"ref.go:356",#[⟨5,.data⟩,{ on:=12,ground:=Ground.gcOnly Departure.lateStores }],none⟩
def oSa6_7:Oper:=⟨some 50,.move (.tmp 5),3,"ref.go:356",#[{ on:=12,ground:=Ground.gcOnly Departure.lateStores }],none⟩
def oSa6_8:Oper:=⟨some 51,.indexAddr 62 (.tmp 49) (.tmp 50),0,"ref.go:356",#[⟨6,.data⟩,⟨7,.data⟩,{ on:=12,ground:=Ground.gcOnly Departure.lateStores }],none⟩
def oSa6_9:Oper:=⟨some 52,.load 128 (.tmp 51),128,"ref.go:356",#[⟨8,.data⟩,{ on:=12,ground:=Ground.gcOnly Departure.lateStores }],none⟩
def oSa6_10:Oper:=⟨some 6,.alloc 128,0,"ref.go:356",#[],none⟩
def oSa6_11:Oper:=⟨some 7,.alloc 128,0,"ref.go:356",#[],none⟩
def oSa6_12:Oper:=⟨none,.store 128 (.tmp 6) (.tmp 47),0,"ref.go:356",#[⟨10,.data⟩,⟨4,.data⟩,⟨0,.phase⟩,⟨1,.phase⟩,⟨2,.phase⟩,⟨3,.phase⟩,⟨4,.phase⟩,⟨5,.textOnly .lateStores⟩,⟨6,.textOnly .lateStores⟩,⟨7,.textOnly .lateStores⟩,⟨8,.textOnly .lateStores⟩,⟨9,.textOnly .lateStores⟩,⟨10,.phase⟩,⟨11,.phase⟩],none⟩
def oSa6_13:Oper:=⟨none,.store 128 (.tmp 7) (.tmp 52),0,"ref.go:356",#[⟨11,.data⟩,⟨9,.data⟩,⟨12,.chain⟩,⟨0,.phase⟩,⟨1,.phase⟩,⟨2,.phase⟩,⟨3,.phase⟩,⟨4,.phase⟩,⟨5,.phase⟩,⟨6,.phase⟩,⟨7,.phase⟩,⟨8,.phase⟩,⟨9,.phase⟩,⟨10,.phase⟩,⟨11,.phase⟩,⟨12,.phase⟩],none⟩
def opsSame6:List Oper:=[oSa6_0,oSa6_1,oSa6_2,oSa6_3,oSa6_4,oSa6_5,oSa6_6,oSa6_7,oSa6_8,oSa6_9,oSa6_10,oSa6_11,oSa6_12,oSa6_13]
theorem regSame6 {w:World}{x0 x1 x4 x6 x7 x8 x9 x10 x11 x12 x13 x14 x15 x16 x17 x18 x19 x20 x21 x22 x23 x24 x25 x26 x27 x28 x29 x30 x31 x32 x33 x34 x35 x36 x37 x38 x39 x40 x41 x42 x43 x44 x45 x46 x47 x48 x49 x50 x51 x52 x53 x54 x55 x56 x57 x58 x59 x60 x61 x62 x63 x64 x65 x66 x67 x68 x69 x70 x71 x72 x73 x74:Value}{Q:Exit→Act→World→Prop}{b2 b3 xb xo yb yo lx ly xc yc i:Nat}{ul0 ul1 ul2 uc0 uc1 uc2 vl0 vl1 vl2 vc0 vc1 vc2:Nat}{ua0 ua1 ua2 va0 va1 va2:Option Addr}
  (p2:w.cell? ⟨b2,3,none⟩=some (.slice (some ⟨xb,xo,none⟩) lx xc)) (p3:w.cell? ⟨b3,3,none⟩=some (.slice (some ⟨yb,yo,none⟩) ly yc)) (hi:(i:Int) < (lx:Int)) (hj:(i:Int) < (ly:Int))
  (q0:w.cell? ⟨xb,xo+i * 3,none⟩=some (.slice ua0 ul0 uc0)) (q1:w.cell? ⟨xb,xo+i * 3+1,none⟩=some (.slice ua1 ul1 uc1)) (q2:w.cell? ⟨xb,xo+i * 3+2,none⟩=some (.slice ua2 ul2 uc2))
  (r0:w.cell? ⟨yb,yo+i * 3,none⟩=some (.slice va0 vl0 vc0)) (r1:w.cell? ⟨yb,yo+i * 3+1,none⟩=some (.slice va1 vl1 vc1)) (r2:w.cell? ⟨yb,yo+i * 3+2,none⟩=some (.slice va2 vl2 vc2))
  (hfin:∀(y10 y11 _y12 _y13:Value) (W:World),(Below w.heap.size w W∧((fun i=>decide (i < 14)) 10=true→(fun i=>decide (i < 14)) 12=false→∃b,y10 = .pointer (some ⟨b,0,none⟩)∧w.heap.size≤b∧W.heap[b]? = some (.cells #[.slice none 0 0,.slice none 0 0,.slice none 0 0] 128))∧((fun i=>decide (i < 14)) 12=true→∃b,y10 = .pointer (some ⟨b,0,none⟩)∧w.heap.size≤b∧W.heap[b]? = some (.cells #[.slice ua0 ul0 uc0,.slice ua1 ul1 uc1,.slice ua2 ul2 uc2] 128))∧((fun i=>decide (i < 14)) 11=true→(fun i=>decide (i < 14)) 13=false→∃b,y11 = .pointer (some ⟨b,0,none⟩)∧w.heap.size≤b∧W.heap[b]? = some (.cells #[.slice none 0 0,.slice none 0 0,.slice none 0 0] 128))∧((fun i=>decide (i < 14)) 13=true→∃b,y11 = .pointer (some ⟨b,0,none⟩)∧w.heap.size≤b∧W.heap[b]? = some (.cells #[.slice va0 vl0 vc0,.slice va1 vl1 vc1,.slice va2 vl2 vc2] 128))∧((fun i=>decide (i < 14)) 10=true→(fun i=>decide (i < 14)) 11=true→y10 ≠ y11))→(∃b,y10 = .pointer (some ⟨b,0,none⟩)∧w.heap.size≤b)→(∃b,y11 = .pointer (some ⟨b,0,none⟩)∧w.heap.size≤b)→(True)→(True)→Q .normal ⟨List.toArray (x0::x1::.pointer (some ⟨b2,0,none⟩)::.pointer (some ⟨b3,0,none⟩)::x4::.int .i64 (i:Int)::y10::y11::x8::x9::x10::x11::x12::x13::x14::x15::x16::x17::x18::x19::x20::x21::x22::x23::x24::x25::x26::x27::x28::x29::x30::x31::x32::x33::x34::x35::x36::x37::x38::x39::x40::x41::x42::.pointer (some ⟨b2,3,none⟩)::.slice (some ⟨xb,xo,none⟩) lx xc::.int .i64 (i:Int)::.pointer (some ⟨xb,xo+i * 3,none⟩)::.agg #[.slice ua0 ul0 uc0,.slice ua1 ul1 uc1,.slice ua2 ul2 uc2]::.pointer (some ⟨b3,3,none⟩)::.slice (some ⟨yb,yo,none⟩) ly yc::.int .i64 (i:Int)::.pointer (some ⟨yb,yo+i * 3,none⟩)::.agg #[.slice va0 vl0 vc0,.slice va1 vl1 vc1,.slice va2 vl2 vc2]::x53::x54::x55::x56::x57::x58::x59::x60::x61::x62::x63::x64::x65::x66::x67::x68::x69::x70::x71::x72::x73::x74::[]),[]⟩ W) :
  (Code.region 6 opsSame6.toArray true).wp Tryz.prog Q ⟨List.toArray (x0::x1::.pointer (some ⟨b2,0,none⟩)::.pointer (some ⟨b3,0,none⟩)::x4::.int .i64 (i:Int)::x6::x7::x8::x9::x10::x11::x12::x13::x14::x15::x16::x17::x18::x19::x20::x21::x22::x23::x24::x25::x26::x27::x28::x29::x30::x31::x32::x33::x34::x35::x36::x37::x38::x39::x40::x41::x42::x43::x44::x45::x46::x47::x48::x49::x50::x51::x52::x53::x54::x55::x56::x57::x58::x59::x60::x61::x62::x63::x64::x65::x66::x67::x68::x69::x70::x71::x72::x73::x74::[]),[]⟩ w:=by
 obtain⟨SG,hSG⟩:=exS (StepG Tryz.prog opsSame6.toArray (fun ys=>⟨List.toArray (x0::x1::.pointer (some ⟨b2,0,none⟩)::.pointer (some ⟨b3,0,none⟩)::x4::.int .i64 (i:Int)::ys 10::ys 11::x8::x9::x10::x11::x12::x13::x14::x15::x16::x17::x18::x19::x20::x21::x22::x23::x24::x25::x26::x27::x28::x29::x30::x31::x32::x33::x34::x35::x36::x37::x38::x39::x40::x41::x42::ys 0::ys 1::ys 2::ys 3::ys 4::ys 5::ys 6::ys 7::ys 8::ys 9::x53::x54::x55::x56::x57::x58::x59::x60::x61::x62::x63::x64::x65::x66::x67::x68::x69::x70::x71::x72::x73::x74::[]),[]⟩) [eqV (.pointer (some ⟨b2,3,none⟩)),eqV (.slice (some ⟨xb,xo,none⟩) lx xc),eqV (.int .i64 (i:Int)),eqV (.pointer (some ⟨xb,xo+i * 3,none⟩)),eqV (.agg #[.slice ua0 ul0 uc0,.slice ua1 ul1 uc1,.slice ua2 ul2 uc2]),eqV (.pointer (some ⟨b3,3,none⟩)),eqV (.slice (some ⟨yb,yo,none⟩) ly yc),eqV (.int .i64 (i:Int)),eqV (.pointer (some ⟨yb,yo+i * 3,none⟩)),eqV (.agg #[.slice va0 vl0 vc0,.slice va1 vl1 vc1,.slice va2 vl2 vc2]),fun _ v=>∃b,v = .pointer (some ⟨b,0,none⟩)∧w.heap.size≤b,fun _ v=>∃b,v = .pointer (some ⟨b,0,none⟩)∧w.heap.size≤b,anyV,anyV] (fun _ _=>True) (fun D ys W=>Below w.heap.size w W∧(D 10=true→D 12=false→∃b,(ys 10) = .pointer (some ⟨b,0,none⟩)∧w.heap.size≤b∧W.heap[b]? = some (.cells #[.slice none 0 0,.slice none 0 0,.slice none 0 0] 128))∧(D 12=true→∃b,(ys 10) = .pointer (some ⟨b,0,none⟩)∧w.heap.size≤b∧W.heap[b]? = some (.cells #[.slice ua0 ul0 uc0,.slice ua1 ul1 uc1,.slice ua2 ul2 uc2] 128))∧(D 11=true→D 13=false→∃b,(ys 11) = .pointer (some ⟨b,0,none⟩)∧w.heap.size≤b∧W.heap[b]? = some (.cells #[.slice none 0 0,.slice none 0 0,.slice none 0 0] 128))∧(D 13=true→∃b,(ys 11) = .pointer (some ⟨b,0,none⟩)∧w.heap.size≤b∧W.heap[b]? = some (.cells #[.slice va0 vl0 vc0,.slice va1 vl1 vc1,.slice va2 vl2 vc2] 128))∧(D 10=true→D 11=true→(ys 10) ≠ (ys 11))) Q)
 have st0:SG 0 oSa6_0:=by
  subst hSG;refine StepG.mk rfl (openY 10 fun y10=>openY 11 fun y11=>fun ys D W K _ _ _ hG hK=>?_);simp only[updG,Nat.reduceEqDiff,reduceIte] at hG⊢;unfold oSa6_0;obtain⟨g1,g2,g3,g4,g5,g6⟩:=hG;go_simp;exact hK _ _ trivial ⟨g1,g2,g3,g4,g5,g6⟩ rfl
 have st1:SG 1 oSa6_1:=by
  subst hSG;refine StepG.mk rfl (openY 0 fun y0=>openY 10 fun y10=>openY 11 fun y11=>fun ys D W K _ _ hd hG hK=>?_);have e0:y0=_:=(hd.get 0 rfl).2;subst e0;simp only[updG,Nat.reduceEqDiff,reduceIte] at hG⊢;unfold oSa6_1;obtain⟨g1,g2,g3,g4,g5,g6⟩:=hG;have c:=cell_kept g1 p2;go_simp;exact hK _ _ trivial ⟨g1,g2,g3,g4,g5,g6⟩ rfl
 have st2:SG 2 oSa6_2:=by
  subst hSG;refine StepG.mk rfl (openY 10 fun y10=>openY 11 fun y11=>fun ys D W K _ _ _ hG hK=>?_);simp only[updG,Nat.reduceEqDiff,reduceIte] at hG⊢;unfold oSa6_2;obtain⟨g1,g2,g3,g4,g5,g6⟩:=hG;go_simp;exact hK _ _ trivial ⟨g1,g2,g3,g4,g5,g6⟩ rfl
 have st3:SG 3 oSa6_3:=by
  subst hSG;refine StepG.mk rfl (openY 1 fun y1=>openY 2 fun y2=>openY 10 fun y10=>openY 11 fun y11=>fun ys D W K _ _ hd hG hK=>?_);have e1:y1=_:=(hd.get 1 rfl).2;have e2:y2=_:=(hd.get 2 rfl).2;subst e1 e2;simp only[updG,Nat.reduceEqDiff,reduceIte] at hG⊢;unfold oSa6_3;obtain⟨g1,g2,g3,g4,g5,g6⟩:=hG;go_simp;exact hK _ _ trivial ⟨g1,g2,g3,g4,g5,g6⟩ rfl
 have st4:SG 4 oSa6_4:=by
  subst hSG;refine StepG.mk rfl (openY 3 fun y3=>openY 10 fun y10=>openY 11 fun y11=>fun ys D W K _ _ hd hG hK=>?_);have e3:y3=_:=(hd.get 3 rfl).2;subst e3;simp only[updG,Nat.reduceEqDiff,reduceIte] at hG⊢;unfold oSa6_4;obtain⟨g1,g2,g3,g4,g5,g6⟩:=hG;have c0:=cell_kept g1 q0;have c1:=cell_kept g1 q1;have c2:=cell_kept g1 q2;go_simp;exact hK _ _ trivial ⟨g1,g2,g3,g4,g5,g6⟩ rfl
 have st5:SG 5 oSa6_5:=by
  subst hSG;refine StepG.mk rfl (openY 10 fun y10=>openY 11 fun y11=>fun ys D W K _ _ _ hG hK=>?_);simp only[updG,Nat.reduceEqDiff,reduceIte] at hG⊢;unfold oSa6_5;obtain⟨g1,g2,g3,g4,g5,g6⟩:=hG;go_simp;exact hK _ _ trivial ⟨g1,g2,g3,g4,g5,g6⟩ rfl
 have st6:SG 6 oSa6_6:=by
  subst hSG;refine StepG.mk rfl (openY 5 fun y5=>openY 10 fun y10=>openY 11 fun y11=>fun ys D W K _ _ hd hG hK=>?_);have e5:y5=_:=(hd.get 5 rfl).2;subst e5;simp only[updG,Nat.reduceEqDiff,reduceIte] at hG⊢;unfold oSa6_6;obtain⟨g1,g2,g3,g4,g5,g6⟩:=hG;have c:=cell_kept g1 p3;go_simp;exact hK _ _ trivial ⟨g1,g2,g3,g4,g5,g6⟩ rfl
 have st7:SG 7 oSa6_7:=by
  subst hSG;refine StepG.mk rfl (openY 10 fun y10=>openY 11 fun y11=>fun ys D W K _ _ _ hG hK=>?_);simp only[updG,Nat.reduceEqDiff,reduceIte] at hG⊢;unfold oSa6_7;obtain⟨g1,g2,g3,g4,g5,g6⟩:=hG;go_simp;exact hK _ _ trivial ⟨g1,g2,g3,g4,g5,g6⟩ rfl
 have st8:SG 8 oSa6_8:=by
  subst hSG;refine StepG.mk rfl (openY 6 fun y6=>openY 7 fun y7=>openY 10 fun y10=>openY 11 fun y11=>fun ys D W K _ _ hd hG hK=>?_);have e6:y6=_:=(hd.get 6 rfl).2;have e7:y7=_:=(hd.get 7 rfl).2;subst e6 e7;simp only[updG,Nat.reduceEqDiff,reduceIte] at hG⊢;unfold oSa6_8;obtain⟨g1,g2,g3,g4,g5,g6⟩:=hG;go_simp;exact hK _ _ trivial ⟨g1,g2,g3,g4,g5,g6⟩ rfl
 have st9:SG 9 oSa6_9:=by
  subst hSG;refine StepG.mk rfl (openY 8 fun y8=>openY 10 fun y10=>openY 11 fun y11=>fun ys D W K _ _ hd hG hK=>?_);have e8:y8=_:=(hd.get 8 rfl).2;subst e8;simp only[updG,Nat.reduceEqDiff,reduceIte] at hG⊢;unfold oSa6_9;obtain⟨g1,g2,g3,g4,g5,g6⟩:=hG;have c0:=cell_kept g1 r0;have c1:=cell_kept g1 r1;have c2:=cell_kept g1 r2;go_simp;exact hK _ _ trivial ⟨g1,g2,g3,g4,g5,g6⟩ rfl
 have st10:SG 10 oSa6_10:=by
  subst hSG;refine StepG.mk rfl (openY 10 fun y10=>openY 11 fun y11=>fun ys D W K hD hcl _ hG hK=>?_);simp only[updG,Nat.reduceEqDiff,reduceIte] at hG⊢;unfold oSa6_10;obtain⟨g1,g2,g3,g4,g5,g6⟩:=hG;have hba:=(Below.refl W.heap.size W).alloc (Nat.le_refl _) (.cells #[.slice none 0 0,.slice none 0 0,.slice none 0 0] 128);have hb9:=g1.alloc g1.size (.cells #[.slice none 0 0,.slice none 0 0,.slice none 0 0] 128);go_simp;refine hK _ _ trivial ⟨hb9,fun _ _=>⟨_,rfl,g1.size,heap_alloc_new _ _⟩,(fun h=>by have:=hcl 12 _ h rfl 10 (by decide);rw[hD] at this;cases this),(fun h1 h2=>by obtain⟨b,z1,z2,z3⟩:=g4 h1 h2;exact⟨b,z1,z2,(hba.block b (Array.getElem?_eq_some_iff.1 z3).1).trans z3⟩),(fun h=>by obtain⟨b,z1,z2,z3⟩:=g5 h;exact⟨b,z1,z2,(hba.block b (Array.getElem?_eq_some_iff.1 z3).1).trans z3⟩),?_⟩ ⟨_,rfl,g1.size⟩
  exact(fun h1 h2=>by
   have hx:∃b,y11 = .pointer (some ⟨b,0,none⟩)∧b < W.heap.size:=by
    cases hd9:D 13 with
    | false=>obtain⟨b,z1,_,z3⟩:=g4 h2 hd9;exact⟨b,z1,(Array.getElem?_eq_some_iff.1 z3).1⟩
    | true=>obtain⟨b,z1,_,z3⟩:=g5 hd9;exact⟨b,z1,(Array.getElem?_eq_some_iff.1 z3).1⟩
   obtain⟨b,rfl,hlt⟩:=hx;intro e;injection e with e;injection e with e;injection e with e;omega)
 have st11:SG 11 oSa6_11:=by
  subst hSG;refine StepG.mk rfl (openY 10 fun y10=>openY 11 fun y11=>fun ys D W K hD hcl _ hG hK=>?_);simp only[updG,Nat.reduceEqDiff,reduceIte] at hG⊢;unfold oSa6_11;obtain⟨g1,g2,g3,g4,g5,g6⟩:=hG;have hba:=(Below.refl W.heap.size W).alloc (Nat.le_refl _) (.cells #[.slice none 0 0,.slice none 0 0,.slice none 0 0] 128);have hb9:=g1.alloc g1.size (.cells #[.slice none 0 0,.slice none 0 0,.slice none 0 0] 128);go_simp;refine hK _ _ trivial ⟨hb9,(fun h1 h2=>by obtain⟨b,z1,z2,z3⟩:=g2 h1 h2;exact⟨b,z1,z2,(hba.block b (Array.getElem?_eq_some_iff.1 z3).1).trans z3⟩),(fun h=>by obtain⟨b,z1,z2,z3⟩:=g3 h;exact⟨b,z1,z2,(hba.block b (Array.getElem?_eq_some_iff.1 z3).1).trans z3⟩),fun _ _=>⟨_,rfl,g1.size,heap_alloc_new _ _⟩,(fun h=>by have:=hcl 13 _ h rfl 11 (by decide);rw[hD] at this;cases this),?_⟩ ⟨_,rfl,g1.size⟩
  exact(fun h1 h2=>by
   have hx:∃b,y10 = .pointer (some ⟨b,0,none⟩)∧b < W.heap.size:=by
    cases hd9:D 12 with
    | false=>obtain⟨b,z1,_,z3⟩:=g2 h1 hd9;exact⟨b,z1,(Array.getElem?_eq_some_iff.1 z3).1⟩
    | true=>obtain⟨b,z1,_,z3⟩:=g3 hd9;exact⟨b,z1,(Array.getElem?_eq_some_iff.1 z3).1⟩
   obtain⟨b,rfl,hlt⟩:=hx;intro e;injection e with e;injection e with e;injection e with e;omega)
 have st12:SG 12 oSa6_12:=by
  subst hSG;refine StepG.mk rfl (openY 10 fun y10=>openY 4 fun y4=>openY 11 fun y11=>fun ys D W K hD hcl hd hG hK=>?_);obtain⟨d10,e10⟩:D 10=true∧(∃b,y10 = .pointer (some ⟨b,0,none⟩)∧w.heap.size≤b):=hd.get 10 rfl;have e4:y4=_:=(hd.get 4 rfl).2;subst e4;simp only[updG,Nat.reduceEqDiff,reduceIte] at hG⊢;unfold oSa6_12;obtain⟨g1,g2,g3,g4,g5,g6⟩:=hG;obtain⟨b,rfl,hbs,hbk⟩:=g2 d10 hD;obtain⟨n0,n1,n2⟩:=boxL3 hbk;obtain⟨f0,f1,f2⟩:=freeL3 hbk;go_simp;refine storeEnd3 (u0:=.slice ua0 ul0 uc0) (u1:=.slice ua1 ul1 uc1) (u2:=.slice ua2 ul2 uc2) hbk ?_;intro W9 hW9 hb9 _ hk9 _ _ _;have hoth:∀b9,b9 ≠ b→W9.heap[b9]? = W.heap[b9]?:=fun b9 hne=>by rw[hW9,Below.heap_setCell _ ⟨b,2,none⟩ _ b9 hne,Below.heap_setCell _ ⟨b,1,none⟩ _ b9 hne,Below.heap_setCell _ ⟨b,0,none⟩ _ b9 hne]
  rw[←hW9];exact hK undef W9 trivial ⟨hb9 _ _ hbs g1,(fun _ h=>absurd (show(true:Bool)=false from h) (by decide)),(fun _=>⟨b,rfl,hbs,hk9⟩),(fun h1 h2=>by obtain⟨b9,z1,z2,z3⟩:=g4 h1 h2;refine⟨b9,z1,z2,(hoth b9 ?_).trans z3⟩;rintro rfl;exact g6 d10 h1 z1.symm),(fun h=>by obtain⟨b9,z1,z2,z3⟩:=g5 h;refine⟨b9,z1,z2,(hoth b9 ?_).trans z3⟩;rintro rfl;exact g6 d10 (hcl 13 _ h rfl 11 (by decide)) z1.symm),g6⟩ trivial
 have st13:SG 13 oSa6_13:=by
  subst hSG;refine StepG.mk rfl (openY 11 fun y11=>openY 9 fun y9=>openY 10 fun y10=>fun ys D W K hD hcl hd hG hK=>?_);obtain⟨d11,e11⟩:D 11=true∧(∃b,y11 = .pointer (some ⟨b,0,none⟩)∧w.heap.size≤b):=hd.get 11 rfl;have e9:y9=_:=(hd.get 9 rfl).2;subst e9;simp only[updG,Nat.reduceEqDiff,reduceIte] at hG⊢;unfold oSa6_13;obtain⟨g1,g2,g3,g4,g5,g6⟩:=hG;obtain⟨b,rfl,hbs,hbk⟩:=g4 d11 hD;obtain⟨n0,n1,n2⟩:=boxL3 hbk;obtain⟨f0,f1,f2⟩:=freeL3 hbk;go_simp;refine storeEnd3 (u0:=.slice va0 vl0 vc0) (u1:=.slice va1 vl1 vc1) (u2:=.slice va2 vl2 vc2) hbk ?_;intro W9 hW9 hb9 _ hk9 _ _ _;have hoth:∀b9,b9 ≠ b→W9.heap[b9]? = W.heap[b9]?:=fun b9 hne=>by rw[hW9,Below.heap_setCell _ ⟨b,2,none⟩ _ b9 hne,Below.heap_setCell _ ⟨b,1,none⟩ _ b9 hne,Below.heap_setCell _ ⟨b,0,none⟩ _ b9 hne]
  rw[←hW9];exact hK undef W9 trivial ⟨hb9 _ _ hbs g1,(fun h1 h2=>by obtain⟨b9,z1,z2,z3⟩:=g2 h1 h2;refine⟨b9,z1,z2,(hoth b9 ?_).trans z3⟩;rintro rfl;exact g6 h1 d11 z1),(fun h=>by obtain⟨b9,z1,z2,z3⟩:=g3 h;refine⟨b9,z1,z2,(hoth b9 ?_).trans z3⟩;rintro rfl;exact g6 (hcl 12 _ h rfl 10 (by decide)) d11 z1),(fun _ h=>absurd (show(true:Bool)=false from h) (by decide)),(fun _=>⟨b,rfl,hbs,hk9⟩),g6⟩ trivial
 subst hSG;refine wp_region_sg (l:=opsSame6) ⟨st0,st1,st2,st3,st4,st5,st6,st7,st8,st9,st10,st11,st12,st13,trivial⟩ (fun i=>([x43,x44,x45,x46,x47,x48,x49,x50,x51,x52,x6,x7,undef,undef]:List Value).getD i undef) (by kernel_rfl) (by kernel_rfl) ⟨sE,sE,sE,sE,sE,sE,sE,sE,sE,sE,fun _ _ _ h _=>h,fun _ _ _ h _=>h,fun _ _ _ h _=>h,fun _ _ _ h _=>h,trivial⟩ ?g0 ?gx ?fin
 case g0=>exact⟨below_drewN (Below.refl w.heap.size w) 1,(fun h=>by cases h),(fun h=>by cases h),(fun h=>by cases h),(fun h=>by cases h),(fun h=>by cases h)⟩
 case gx=>exact fun D D' ys W h ⟨h1,h2,h3,h4,h5,h6⟩=>⟨h1,fun q q'=>h2 ((h 10 (by decide)).trans q) ((h 12 (by decide)).trans q'),fun q=>h3 ((h 12 (by decide)).trans q),fun q q'=>h4 ((h 11 (by decide)).trans q) ((h 13 (by decide)).trans q'),fun q=>h5 ((h 13 (by decide)).trans q),fun q q'=>h6 ((h 10 (by decide)).trans q) ((h 11 (by decide)).trans q')⟩
 case fin=>
  intro ys W hG hp;try dsimp only
  rw[(hp 0 (by decide):ys 0=_),(hp 1 (by decide):ys 1=_),(hp 2 (by decide):ys 2=_),(hp 3 (by decide):ys 3=_),(hp 4 (by decide):ys 4=_),(hp 5 (by decide):ys 5=_),(hp 6 (by decide):ys 6=_),(hp 7 (by decide):ys 7=_),(hp 8 (by decide):ys 8=_),(hp 9 (by decide):ys 9=_)];exact hfin (ys 10) (ys 11) (ys 12) (ys 13) W hG (hp 10 (by decide)) (hp 11 (by decide)) (hp 12 (by decide)) (hp 13 (by decide))
end Go.Proofs.YtmikofeildnpdaaGreat

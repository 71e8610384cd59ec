/- Texts of this claim, put together: ZT ZO ZP ZQ. -/
import Derived.Test.YtmikofeildnpdaaGreatKYzg
import Derived.Test.YtmikofeildnpdaaGreatKYj
import Derived.Test.YtmikofeildnpdaaGreatKYzc
import Derived.Test.YtmikofeildnpdaaGreatKYzd

set_option maxRecDepth 100000
set_option maxHeartbeats 12800000
/- law21.consensus. -/
namespace Go.Proofs.YtmikofeildnpdaaGreat
open Go.RowKit
def csC:List Cs:=[([0,0],[[0,0]],[]),([0,1],[[0,0],[1,1]],[]),([1,0],[[0,0],[1,1]],[]),([1,1],[[1,1]],[])]
theorem cells12 {w:World} {b:Nat} {t:TypeId} {u0 u1 u2 u3 u4 u5 u6 u7 u8 u9 u10 u11:Value} (h:w.heap[b]? = some (.cells #[u0,u1,u2,u3,u4,u5,u6,u7,u8,u9,u10,u11] t)) :
  (w.cell? ⟨b,0,none⟩=some u0∧w.cell? ⟨b,1,none⟩=some u1∧w.cell? ⟨b,2,none⟩=some u2)∧(w.cell? ⟨b,3,none⟩=some u3∧w.cell? ⟨b,4,none⟩=some u4∧w.cell? ⟨b,5,none⟩=some u5)∧
  (w.cell? ⟨b,6,none⟩=some u6∧w.cell? ⟨b,7,none⟩=some u7∧w.cell? ⟨b,8,none⟩=some u8)∧(w.cell? ⟨b,9,none⟩=some u9∧w.cell? ⟨b,10,none⟩=some u10∧w.cell? ⟨b,11,none⟩=some u11):=
 ⟨⟨box_cell h rfl,box_cell h rfl,box_cell h rfl⟩,⟨box_cell h rfl,box_cell h rfl,box_cell h rfl⟩,⟨box_cell h rfl,box_cell h rfl,box_cell h rfl⟩,⟨box_cell h rfl,box_cell h rfl,box_cell h rfl⟩⟩
theorem consensusC {w:World}:Calls Tryz.prog 50 #[] w fun e w'=>∃ r,e = .returned r∧TaskV w' r 2 2 2 csC∧Below w.heap.size w w':=by
 obtain ⟨W1,hW1⟩:=exF (w.alloc (.cells #[.int .i64 0,.int .i64 0,.int .i64 0,.slice none 0 0] 64))
 obtain ⟨W2,hW2⟩:=exF (W1.alloc (.cells #[.int .i64 0,.int .i64 0] 3))
 obtain ⟨W3,hW3⟩:=exF (W2.alloc (.cells #[.int .i64 1,.int .i64 1] 3))
 obtain ⟨W4,hW4⟩:=exF (W3.alloc (.cells #[.slice (some ⟨W1.heap.size,0,none⟩) 2 2,.slice (some ⟨W2.heap.size,0,none⟩) 2 2] 25))
 have hb2:Below W1.heap.size W1 W2:=by rw [hW2]; exact (Below.refl _ _).alloc (Nat.le_refl _) _
 have hb3:Below W2.heap.size W2 W3:=by rw [hW3]; exact (Below.refl _ _).alloc (Nat.le_refl _) _
 have hb4:Below W3.heap.size W3 W4:=by rw [hW4]; exact (Below.refl _ _).alloc (Nat.le_refl _) _
 have hb1:Below w.heap.size w W1:=by rw [hW1]; exact (Below.refl _ _).alloc (Nat.le_refl _) _
 have m1:W1.heap[w.heap.size]? = some (.cells #[.int .i64 0,.int .i64 0,.int .i64 0,.slice none 0 0] 64):=by rw [hW1]; exact heap_alloc_new _ _
 have m2:W2.heap[W1.heap.size]? = some (.cells #[.int .i64 0,.int .i64 0] 3):=by rw [hW2]; exact heap_alloc_new _ _
 have m3:W3.heap[W2.heap.size]? = some (.cells #[.int .i64 1,.int .i64 1] 3):=by rw [hW3]; exact heap_alloc_new _ _
 have m4:W4.heap[W3.heap.size]? = some (.cells #[.slice (some ⟨W1.heap.size,0,none⟩) 2 2,.slice (some ⟨W2.heap.size,0,none⟩) 2 2] 25):=by rw [hW4]; exact heap_alloc_new _ _
 have hb24:=btt hb3 hb4
 have hb14:=btt hb2 hb24
 have n1:=(hb14.block _ (Array.getElem?_eq_some_iff.1 m1).1).trans m1
 have n2:=(hb24.block _ (Array.getElem?_eq_some_iff.1 m2).1).trans m2
 have n3:=(hb4.block _ (Array.getElem?_eq_some_iff.1 m3).1).trans m3
 have hbw:=bt hb1 hb14 hb1.size
 have hsz:Hid (W3.heap.size=w.heap.size+3∧W2.heap.size=w.heap.size+1+1∧W1.heap.size=w.heap.size+1):=by
  have h1:W1.heap.size=w.heap.size+1:=by rw [hW1,World.size_alloc]
  have h2:W2.heap.size=W1.heap.size+1:=by rw [hW2,World.size_alloc]
  have h3:W3.heap.size=W2.heap.size+1:=by rw [hW3,World.size_alloc]
  exact ⟨by omega,by omega,h1⟩
 have hW:Hid (W4=(((w.alloc (.cells #[.int .i64 0,.int .i64 0,.int .i64 0,.slice none 0 0] 64)).alloc (.cells #[.int .i64 0,.int .i64 0] 3)).alloc (.cells #[.int .i64 1,.int .i64 1] 3)).alloc (.cells #[.slice (some ⟨w.heap.size+1,0,none⟩) 2 2,.slice (some ⟨w.heap.size+1+1,0,none⟩) 2 2] 25)):=by
  show _=_
  rw [hW4,hsz.out.2.1,hsz.out.2.2,hW3,hW2,hW1]
 clear hW4 hW3 hW2 hW1 m1 m2 m3 hb2 hb3 hb4 hb24 hb14 hb1
 go_enter Tryz.func50, Tryz.ntmps50
 go_upto_region 2 with fail
 rw [← hW.out]
 rw [hsz.out.2.1,hsz.out.2.2] at m4
 have hs3:=hsz.out.1
 rw [hs3] at m4
 rw [hsz.out.2.1] at n3
 rw [hsz.out.2.2] at n2
 refine regCons2 (b0:=w.heap.size) (b1:=w.heap.size+3) n1 ?_
 intro y0 y3 y4 y6 y7 y9 y10 y13 y14 y15 y16 W hG _ _ _ _ _ _ _ _ _ _ _
 obtain ⟨hb,hkx,g,h0,h1,h2,h3,hT,hR,i0,i1,i2,i3⟩:=hG.2 rfl
 have hsw:w.heap.size≤W4.heap.size:=hbw.size
 have hbf:=hbw.trans hb
 have k2:=(hkx _ _ _ n2 (by decide)).trans n2
 have k3:=(hkx _ _ _ n3 (by decide)).trans n3
 have k4:=(hkx _ _ _ m4 (by decide)).trans m4
 obtain ⟨c0,c1⟩:=boxL2 k4
 have iz:IntB W (.slice (some ⟨w.heap.size+1,0,none⟩) 2 2) 0 0:=⟨_,rfl,k2⟩
 have io:IntB W (.slice (some ⟨w.heap.size+1+1,0,none⟩) 2 2) 1 1:=⟨_,rfl,k3⟩
 have s1:Intss W (.slice (some ⟨w.heap.size+3,0,none⟩) 1 2) [[0,0]]:=⟨_,_,w.heap.size+3,0,rfl,fun _=>rfl,fun j hj=>by
  match j,hj with
  | 0,_=>exact ⟨_,c0,iz.ints⟩,show 1≤5864062014805 by decide⟩
 have s2:Intss W (.slice (some ⟨w.heap.size+3,0,none⟩) 2 2) [[0,0],[1,1]]:=⟨_,_,w.heap.size+3,0,rfl,fun _=>rfl,fun j hj=>by
  match j,hj with
  | 0,_=>exact ⟨_,c0,iz.ints⟩
  | 1,_=>exact ⟨_,c1,io.ints⟩,show 2≤5864062014805 by decide⟩
 have s3:Intss W (.slice (some ⟨w.heap.size+3,1,none⟩) 1 1) [[1,1]]:=⟨_,_,w.heap.size+3,1,rfl,fun _=>rfl,fun j hj=>by
  match j,hj with
  | 0,_=>exact ⟨_,c1,io.ints⟩,show 1≤5864062014805 by decide⟩
 have s0:Intss W (.slice none 0 0) []:=⟨_,_,0,0,rfl,fun h=>absurd h (Nat.lt_irrefl 0),fun j hj=>absurd hj (Nat.not_lt_zero j),Nat.zero_le _⟩
 obtain ⟨⟨a0,a1,a2⟩,⟨a3,a4,a5⟩,⟨a6,a7,a8⟩,a9,a10,a11⟩:=cells12 hR
 have hCs:CsS W (.slice (some ⟨g,0,none⟩) 4 4) csC:=⟨_,_,g,0,rfl,fun _=>rfl,fun j hj=>by
  match j,hj with
  | 0,_=>exact ⟨_,_,_,a0,a1,a2,i0.ints,s1,s0⟩
  | 1,_=>exact ⟨_,_,_,a3,a4,a5,i1.ints,s2,s0⟩
  | 2,_=>exact ⟨_,_,_,a6,a7,a8,i2.ints,s2,s0⟩
  | 3,_=>exact ⟨_,_,_,a9,a10,a11,i3.ints,s3,s0⟩,show 4≤1954687338268 by decide⟩
 obtain ⟨e0,e1,e2,e3⟩:=boxL4 hT
 clear hW hsz m4 n1 n2 n3 hR a0 a1 a2 a3 a4 a5 a6 a7 a8 a9 a10 a11
 go_wp2
 refine bodyPost_ret (v:=.agg #[.int .i64 2,.int .i64 2,.int .i64 2,.slice (some ⟨g,0,none⟩) 4 4]) (by simp [results,Tryz.results50,go_sem,e0,e1,e2,e3]) rfl ?_
 exact ⟨_,rfl,⟨_,rfl,hCs⟩,hbf⟩
end Go.Proofs.YtmikofeildnpdaaGreat

/- relate.same. -/
namespace Go.Proofs.YtmikofeildnpdaaGreat
open Go.RowKit
theorem eqVecs {w:World} {u v:Value} {xs ys:List (List Int)} (hx:Intss w u xs) (hy:Intss w v ys) :
  Calls Tryz.prog 170 #[u,v,.func (.func 171) #[] #[]] w fun e w'=>e = .returned (.bool (decide (xs=ys)))∧Qt w w':=by
 obtain ⟨xa,xc,xb,xo,rfl,hxa,hxc,_⟩:=hx
 obtain ⟨ya,yc,yb,yo,rfl,hya,hyc,_⟩:=hy
 obtain ⟨B,hB⟩:∃ B,decide (xs=ys)=B:=⟨_,rfl⟩
 rw [hB]
 replace hB:=Lib.hid hB
 replace hxc:=Lib.hid hxc
 replace hyc:=Lib.hid hyc
 by_cases hlen:xs.length=ys.length
 ·rw [← hlen]
  replace hlen:=Lib.hid hlen
  have h0:Hid (xs.take 0=ys.take 0):=rfl
  go_enter Tryz.func170, Tryz.ntmps170
  go_wp2
  go_loopw [17] (fun iv wr=>∃ i:Nat,iv = .int .i64 i∧i≤xs.length∧Hid (xs.take i=ys.take i)∧Qt w wr) (fun iv _=>xs.length - (intOf iv).toNat)
  case atStart=>exact ⟨0,rfl,by omega,h0,Qt.refl w⟩
  case round=>
   clear h0
   obtain ⟨i,rfl,hi,ht,n,rfl⟩:=hrel
   by_cases hlt:i < xs.length
   ·obtain rfl:=hxa (by omega)
    obtain rfl:=hya (by rw [← hlen.out]; omega)
    have hlt':i < ys.length:=by rw [← hlen.out]; exact hlt
    obtain ⟨cu,hcu,hu⟩:=hxc.out i hlt
    obtain ⟨cv,hcv,hv⟩:=hyc.out i hlt'
    have H:=Lib.hid (eqInts (hu.keep (below_drewN (Below.refl _ w) n)) (hv.keep (below_drewN (Below.refl _ w) n)))
    obtain ⟨x,hx⟩:=exE (xs.getD i [])
    obtain ⟨y,hy⟩:=exE (ys.getD i [])
    rw [hx] at hu
    rw [hy] at hv
    rw [hx,hy] at H
    obtain ⟨xa',xc',rfl⟩:=hu.shape
    obtain ⟨ya',yc',rfl⟩:=hv.shape
    clear hu hv
    by_cases he:x=y
    ·rw [decide_eq_true he] at H
     have ht2:Hid (xs.take (i+1)=ys.take (i+1)):=takes_next ht.out hlt hlt' (by rw [hx,hy,he])
     clear hx hy he ht
     go_wp2_with fail
     refine H.out.mono ?_
     rintro e w' ⟨rfl,m,rfl⟩
     go_wp2_with fail
     go_roundw
     case rel=>exact ⟨i+1,by go_num,hlt,ht2,by first | exact (Qt.mk' w n).step m | exact Qt.mk' w _⟩
     case measure=>simp [intOf]; omega
    ·rw [decide_eq_false he] at H
     have hBf:Hid (B=false):=by
      show _=_
      rw [← hB.out]
      refine decide_eq_false fun h=>he ?_
      rw [← hx,← hy,h]
     clear hx hy he ht
     go_wp2_with fail
     refine H.out.mono ?_
     rintro e w' ⟨rfl,m,rfl⟩
     go_wp2_with fail
     go_ret
     exact ⟨by rw [hBf.out]; rfl,by first | exact (Qt.mk' w n).step m | exact Qt.mk' w _⟩
   ·have hBt:Hid (B=true):=by
     show _=_
     rw [← hB.out]
     exact decide_eq_true (takes_all ht.out (by omega) (by rw [← hlen.out]; omega))
    clear ht
    go_wp2
    go_ret
    exact ⟨by rw [hBt.out]; rfl,Qt.mk' w n⟩
 ·have hBf:B=false:=by rw [← hB.out]; exact decide_eq_false fun h=>hlen (by rw [h])
  subst hBf
  have h1:((xs.length:Int) == (ys.length:Int))=false:=by simp; omega
  go_enter Tryz.func170, Tryz.ntmps170
  go_wp2
  go_ret
  exact ⟨rfl,Qt.refl w⟩
theorem same1T {w:World} {u v:Value} {xs ys:List (List Int)} (hx:Intss w u xs) (hy:Intss w v ys) :
  Calls Tryz.prog 169 #[u,v] w fun e w'=>e = .returned (.bool (decide (xs=ys)))∧Qt w w':=by
 have H:=Lib.hid (eqVecs hx hy)
 obtain ⟨xa,xc,rfl⟩:=hx.shape
 obtain ⟨ya,yc,rfl⟩:=hy.shape
 obtain ⟨B,hB⟩:∃ B,decide (xs=ys)=B:=⟨_,rfl⟩
 rw [hB] at H ⊢
 clear hx hy hB
 go_enter Tryz.func169, Tryz.ntmps169
 go_wp2_with fail
 refine H.out.mono ?_
 rintro e w' ⟨rfl,hq⟩
 go_wp2
 go_ret
 exact ⟨rfl,hq⟩
def SameBox (w:World) (b:Nat):Prop:=w.cell? ⟨b,0,none⟩=some (.func (.func 169) #[] #[])
theorem cs_eq {x y:Cs}:decide (x=y)=(decide (x.1=y.1) && decide (x.2.1=y.2.1) && decide (x.2.2=y.2.2)):=by
 obtain ⟨x0,x1,x2⟩:=x
 obtain ⟨y0,y1,y2⟩:=y
 rw [Bool.eq_iff_iff]
 simp [Prod.mk.injEq,and_assoc]
theorem same2T {w:World} {u0 u1 u2 v0 v1 v2:Value} {x y:Cs} {bf:Nat} (hf:SameBox w bf) (hx0:Ints w u0 x.1) (hx1:Intss w u1 x.2.1) (hx2:Intss w u2 x.2.2) (hy0:Ints w v0 y.1) (hy1:Intss w v1 y.2.1) (hy2:Intss w v2 y.2.2) :
  Calls Tryz.prog 173 #[.agg #[u0,u1,u2],.agg #[v0,v1,v2],.pointer (some ⟨bf,0,none⟩)] w fun e w'=>e = .returned (.bool (decide (x=y)))∧Below w.heap.size w w':=by
 obtain ⟨W1,hW1⟩:=exF ((w.alloc (.cells #[u0,u1,u2] 128)).alloc (.cells #[v0,v1,v2] 128))
 have hb1:Below w.heap.size w W1:=by rw [hW1]; exact ((Below.refl _ w).alloc (Nat.le_refl _) _).alloc (by simp) _
 have H0:=Lib.hid (eqInts (hx0.keep hb1) (hy0.keep hb1))
 have H1:=Lib.hid (fun n=>same1T (hx1.keep (below_drewN hb1 n)) (hy1.keep (below_drewN hb1 n)))
 have H2:=Lib.hid (fun n=>same1T (hx2.keep (below_drewN hb1 n)) (hy2.keep (below_drewN hb1 n)))
 have m0:W1.heap[w.heap.size]? = some (.cells #[u0,u1,u2] 128):=by rw [hW1]; exact (Below.heap_alloc _ _ _ (by simp)).trans (heap_alloc_new _ _)
 have m1:W1.heap[w.heap.size+1]? = some (.cells #[v0,v1,v2] 128):=by
  have h:=heap_alloc_new (w.alloc (.cells #[u0,u1,u2] 128)) (.cells #[v0,v1,v2] 128)
  rw [World.size_alloc] at h
  rw [hW1]; exact h
 have kf:W1.cell? ⟨bf,0,none⟩=some (.func (.func 169) #[] #[]):=cell_kept hb1 hf
 obtain ⟨p0,p1,p2⟩:=boxL3 m0
 obtain ⟨q0,q1,q2⟩:=boxL3 m1
 have hK:=Lib.hid (fun n:Nat=>(⟨p0,p1,p2,q0,q1,q2,kf⟩:(W1.drewN n).cell? ⟨w.heap.size,0,none⟩=some u0∧(W1.drewN n).cell? ⟨w.heap.size,1,none⟩=some u1∧(W1.drewN n).cell? ⟨w.heap.size,2,none⟩=some u2∧(W1.drewN n).cell? ⟨w.heap.size+1,0,none⟩=some v0∧(W1.drewN n).cell? ⟨w.heap.size+1,1,none⟩=some v1∧(W1.drewN n).cell? ⟨w.heap.size+1,2,none⟩=some v2∧(W1.drewN n).cell? ⟨bf,0,none⟩=some (.func (.func 169) #[] #[])))
 obtain ⟨a0,c0,rfl⟩:=hx0.shape
 obtain ⟨a1,c1,rfl⟩:=hx1.shape
 obtain ⟨a2,c2,rfl⟩:=hx2.shape
 obtain ⟨d0,e0,rfl⟩:=hy0.shape
 obtain ⟨d1,e1,rfl⟩:=hy1.shape
 obtain ⟨d2,e2,rfl⟩:=hy2.shape
 rw [cs_eq]
 obtain ⟨B0,hB0⟩:∃ B,decide (x.1=y.1)=B:=⟨_,rfl⟩
 obtain ⟨B1,hB1⟩:∃ B,decide (x.2.1=y.2.1)=B:=⟨_,rfl⟩
 obtain ⟨B2,hB2⟩:∃ B,decide (x.2.2=y.2.2)=B:=⟨_,rfl⟩
 rw [hB0] at H0 ⊢
 rw [hB1] at H1 ⊢
 rw [hB2] at H2 ⊢
 clear hB0 hB1 hB2 hx0 hx1 hx2 hy0 hy1 hy2 m0 m1 hf
 have hW:=Lib.hid hW1
 rw [hW1] at p0 q0
 clear hW1
 go_enter Tryz.func173, Tryz.ntmps173
 go_wp2_with fail
 rw [← hW.out]
 refine H0.out.mono ?_
 rintro e w2 ⟨rfl,n,rfl⟩
 clear p0 q0 H0
 obtain ⟨-,p1,-,-,q1,-,r1⟩:=hK.out n
 cases B0
 ·clear H1 H2
  go_wp2
  go_ret
  exact ⟨rfl,below_drewN hb1 n⟩
 ·go_wp2_with fail
  refine (H1.out n).mono ?_
  rintro e w3 ⟨rfl,m,hm0⟩
  have hm:w3=W1.drewN (n+m):=by rw [hm0]; simp
  clear hm0
  obtain ⟨k,hk⟩:=exE (n+m)
  rw [hk] at hm
  subst hm
  clear p1 q1 r1 H1 hk
  obtain ⟨-,-,p2,-,-,q2,r2⟩:=hK.out k
  cases B1
  ·clear H2
   go_wp2
   go_ret
   exact ⟨rfl,below_drewN hb1 k⟩
  ·go_wp2_with fail
   refine (H2.out k).mono ?_
   rintro e w4 ⟨rfl,m,rfl⟩
   clear p2 q2 r2 H2
   go_wp2
   go_ret
   exact ⟨rfl,below_drewN hb1 _⟩
theorem eqCases {w:World} {u v:Value} {xs ys:List Cs} {bf:Nat} (hf:SameBox w bf) (hx:CsS w u xs) (hy:CsS w v ys) :
  Calls Tryz.prog 172 #[u,v,.func (.func 173) #[] #[.pointer (some ⟨bf,0,none⟩)]] w fun e w'=>e = .returned (.bool (decide (xs=ys)))∧Below w.heap.size w w':=by
 obtain ⟨xa,xc,xb,xo,rfl,hxa,hxc,hxn⟩:=hx
 obtain ⟨ya,yc,yb,yo,rfl,hya,hyc,_⟩:=hy
 obtain ⟨B,hB⟩:∃ B,decide (xs=ys)=B:=⟨_,rfl⟩
 rw [hB]
 replace hB:=Lib.hid hB
 replace hxc:=Lib.hid hxc
 replace hyc:=Lib.hid hyc
 have hfh:=Lib.hid (fun W (hb:Below w.heap.size w W)=>(cell_kept hb hf:SameBox W bf))
 by_cases hlen:xs.length=ys.length
 ·rw [← hlen]
  replace hlen:=Lib.hid hlen
  have h0:Hid (xs.take 0=ys.take 0):=rfl
  clear hf
  go_enter Tryz.func172, Tryz.ntmps172
  go_wp2
  go_loopw [17] (fun iv wr=>∃ i:Nat,iv = .int .i64 i∧i≤xs.length∧Hid (xs.take i=ys.take i)∧Hid (Below w.heap.size w wr)) (fun iv _=>xs.length - (intOf iv).toNat)
  case atStart=>exact ⟨0,rfl,by omega,h0,Below.refl _ w⟩
  case round=>
   clear h0
   obtain ⟨i,rfl,hi,ht,hb⟩:=hrel
   by_cases hlt:i < xs.length
   ·obtain rfl:=hxa (by omega)
    obtain rfl:=hya (by rw [← hlen.out]; omega)
    have hlt':i < ys.length:=by rw [← hlen.out]; exact hlt
    obtain ⟨u0,u1,u2,k0,k1,k2,i0,i1,i2⟩:=(hxc.out.keep hb.out) i hlt
    obtain ⟨v0,v1,v2,l0,l1,l2,j0,j1,j2⟩:=(hyc.out.keep hb.out) i hlt'
    obtain ⟨x,hx⟩:=exE (xs.getD i csNil)
    obtain ⟨y,hy⟩:=exE (ys.getD i csNil)
    rw [hx] at i0 i1 i2
    rw [hy] at j0 j1 j2
    obtain ⟨W5,hW5⟩:=exF (wr.alloc (.cells #[u0,u1,u2] 128))
    have hb5:Below wr.heap.size wr W5:=by rw [hW5]; exact (Below.refl _ _).alloc (Nat.le_refl _) _
    obtain ⟨W6,hW6⟩:=exF (W5.alloc (.cells #[v0,v1,v2] 128))
    have hb6:Below wr.heap.size wr W6:=by rw [hW6]; exact hb5.alloc hb5.size _
    have m5:W6.heap[wr.heap.size]? = some (.cells #[u0,u1,u2] 128):=by rw [hW6,hW5]; exact (Below.heap_alloc _ _ _ (by simp)).trans (heap_alloc_new _ _)
    have m6:W6.heap[wr.heap.size+1]? = some (.cells #[v0,v1,v2] 128):=by
     have h:=heap_alloc_new W5 (.cells #[v0,v1,v2] 128)
     rw [hW5,World.size_alloc] at h
     rw [hW6,hW5]; exact h
    have hbw6:=hb.out.trans (hb6.mono hb.out.size)
    have H:=Lib.hid (same2T (hfh.out W6 hbw6) (i0.keep hb6) (i1.keep hb6) (i2.keep hb6) (j0.keep hb6) (j1.keep hb6) (j2.keep hb6))
    obtain ⟨p0,p1,p2⟩:=boxL3 m5
    obtain ⟨q0,q1,q2⟩:=boxL3 m6
    obtain ⟨a0,c0,rfl⟩:=i0.shape
    obtain ⟨a1,c1,rfl⟩:=i1.shape
    obtain ⟨a2,c2,rfl⟩:=i2.shape
    obtain ⟨d0,e0,rfl⟩:=j0.shape
    obtain ⟨d1,e1,rfl⟩:=j1.shape
    obtain ⟨d2,e2,rfl⟩:=j2.shape
    replace l0:=cell_kept hb5 l0
    replace l1:=cell_kept hb5 l1
    replace l2:=cell_kept hb5 l2
    rw [hW5] at l0 l1 l2
    rw [hW6,hW5] at p0 p1 p2 q0 q1 q2
    have hW:=Lib.hid (hW6.trans (by rw [hW5]))
    clear m5 m6 hb5 i0 i1 i2 j0 j1 j2
    clear hW6
    clear hW5
    replace hb6:=Lib.hid hb6
    replace hbw6:=Lib.hid hbw6
    by_cases he:x=y
    ·rw [decide_eq_true he] at H
     have ht2:Hid (xs.take (i+1)=ys.take (i+1)):=by
      show _=_
      rw [take_snoc hlt csNil,take_snoc hlt' csNil,ht.out,hx,hy,he]
     clear hx hy he ht
     go_wp2_with fail
     rw [← hW.out]
     refine H.out.mono ?_
     rintro e w' ⟨rfl,hb9⟩
     have hbf:=Lib.hid (bt hbw6.out hb9 hbw6.out.size)
     clear p0 p1 p2 q0 q1 q2 k0 k1 k2 l0 l1 l2 hW H
     go_wp2_with fail
     go_roundw
     case rel=>exact ⟨i+1,by go_num,hlt,ht2,hbf.out⟩
     case measure=>simp [intOf]; omega
    ·rw [decide_eq_false he] at H
     have hBf:Hid (B=false):=by
      show _=_
      rw [← hB.out]
      refine decide_eq_false fun h=>he ?_
      rw [← hx,← hy,h]
     clear hx hy he ht
     go_wp2_with fail
     rw [← hW.out]
     refine H.out.mono ?_
     rintro e w' ⟨rfl,hb9⟩
     have hbf:=Lib.hid (bt hbw6.out hb9 hbw6.out.size)
     clear p0 p1 p2 q0 q1 q2 k0 k1 k2 l0 l1 l2 hW H
     go_wp2_with fail
     go_ret
     exact ⟨by rw [hBf.out]; rfl,hbf.out⟩
   ·have hBt:Hid (B=true):=by
     show _=_
     rw [← hB.out]
     refine decide_eq_true ?_
     have:=ht.out
     rwa [List.take_of_length_le (by omega),List.take_of_length_le (by rw [← hlen.out]; omega)] at this
    clear ht
    go_wp2
    go_ret
    exact ⟨by rw [hBt.out]; rfl,hb.out⟩
 ·have hBf:B=false:=by rw [← hB.out]; exact decide_eq_false fun h=>hlen (by rw [h])
  subst hBf
  have h1:((xs.length:Int) == (ys.length:Int))=false:=by simp; omega
  go_enter Tryz.func172, Tryz.ntmps172
  go_wp2
  go_ret
  exact ⟨rfl,Below.refl _ w⟩
theorem sameTask {w:World} {u v:Value} {n i o:Int} {xs ys:List Cs} (hx:TaskV w u n i o xs) (hy:TaskV w v n i o ys) :
  Calls Tryz.prog 121 #[u,v] w fun e w'=>e = .returned (.bool (decide (xs=ys)))∧Below w.heap.size w w':=by
 obtain ⟨su,rfl,hu⟩:=hx
 obtain ⟨sv,rfl,hv⟩:=hy
 obtain ⟨ua,uc,hsu⟩:=hu.shape
 obtain ⟨va,vc,hsv⟩:=hv.shape
 subst hsu hsv
 obtain ⟨W1,hW1⟩:=exF (((w.alloc (.cells #[.int .i64 n,.int .i64 i,.int .i64 o,.slice ua xs.length uc] 64)).alloc (.cells #[.int .i64 n,.int .i64 i,.int .i64 o,.slice va ys.length vc] 64)).alloc (.cells #[.func (.func 169) #[] #[]] 44))
 have hb1:Below w.heap.size w W1:=by rw [hW1]; exact (((Below.refl _ w).alloc (Nat.le_refl _) _).alloc (by simp) _).alloc (by simp; omega) _
 have mf:SameBox W1 (w.heap.size+1+1):=by
  have h:=heap_alloc_new ((w.alloc (.cells #[.int .i64 n,.int .i64 i,.int .i64 o,.slice ua xs.length uc] 64)).alloc (.cells #[.int .i64 n,.int .i64 i,.int .i64 o,.slice va ys.length vc] 64)) (.cells #[.func (.func 169) #[] #[]] 44)
  rw [World.size_alloc,World.size_alloc] at h
  rw [← hW1] at h
  exact cell_of_one h
 have H:=Lib.hid (eqCases mf (hu.keep hb1) (hv.keep hb1))
 obtain ⟨B,hB⟩:∃ B,decide (xs=ys)=B:=⟨_,rfl⟩
 rw [hB] at H ⊢
 clear hu hv hB mf
 replace hW1:=Lib.hid hW1
 go_enter Tryz.func121, Tryz.ntmps121
 go_wp2_with fail
 rw [← hW1.out]
 refine H.out.mono ?_
 rintro e w' ⟨rfl,hb2⟩
 have hbf:=bt hb1 hb2 hb1.size
 go_wp2
 go_ret
 exact ⟨rfl,hbf⟩
end Go.Proofs.YtmikofeildnpdaaGreat

/- relate.Symmetries. -/
namespace Go.Proofs.YtmikofeildnpdaaGreat
open Go.RowKit
theorem nodupLen21 {α:Type} [DecidableEq α]:∀ {l m:List α},l.Nodup→(∀ x∈l,x∈m)→l.length≤m.length
 | [],_,_,_=>Nat.zero_le _
 | x::l,m,hn,hs=>by
  have hx:x∈m:=hs x (by simp)
  have:=nodupLen21 (l:=l) (m:=m.erase x) (List.nodup_cons.1 hn).2 fun y hy=>by
   have hne:y ≠ x:=by intro e; subst e; exact (List.nodup_cons.1 hn).1 hy
   exact (List.mem_erase_of_ne hne).2 (hs y (by simp [hy]))
  rw [List.length_erase_of_mem hx] at this
  have:=List.length_pos_of_mem hx
  simp only [List.length_cons]
  omega
theorem calmLen {n i o:Int} {cs:List Cs} (h:chkT n i o cs=0):∀ c∈cs,c.2.2.length≤1024:=fun c hc=>by
 unfold chkT at h
 split at h
 ·cases h
 split at h
 ·cases h
 obtain ⟨k,hk,rfl⟩:=List.mem_iff_getElem.1 hc
 have e:=(firstE_zero _ _).1 h k (Nat.zero_le _) (by omega)
 unfold caseE at e
 split at e
 ·rename_i e1; exact absurd e e1
 split at e
 ·cases e
 rw [getD_eq hk] at e
 unfold outsE at e
 split at e
 ·cases e
 next e1=>
 split at e
 ·rename_i e2; exact absurd e e2
 have hz:=(firstE_zero _ _).1 e
 have hcal:∀ j,j < cs[k].2.2.length→cs[k].2.2.getD j []∈cs[k].2.1∧(0 < j→cmpL (cs[k].2.2.getD (j - 1) []) (cs[k].2.2.getD j []) < 0):=fun j hj=>by
  have:=hz j (Nat.zero_le _) (by omega)
  unfold calmE at this
  split at this
  ·cases this
  next e3=>
  split at this
  ·cases this
  next e4=>
  exact ⟨Decidable.not_not.1 e3,fun h0=>by by_cases h:cmpL (cs[k].2.2.getD (j - 1) []) (cs[k].2.2.getD j []) < 0; exact h; exact absurd ⟨h0,by omega⟩ e4⟩
 have hA:AscL cs[k].2.2:=asc_adj fun j hj=>by have:=(hcal (j+1) hj).2 (by omega); rwa [Nat.add_sub_cancel] at this
 have hN:cs[k].2.2.Nodup:=List.Pairwise.imp (fun {a b} h e=>by rw [e,cmpL_self] at h; omega) hA
 refine Nat.le_trans (nodupLen21 hN fun x hx=>?_) (show cs[k].2.1.length≤1024 by omega)
 obtain ⟨j,hj,rfl⟩:=List.mem_iff_getElem.1 hx
 have:=(hcal j hj).1
 rwa [getD_eq hj] at this
theorem permuteT {w:World} {v u:Value} {n:Nat} {ins outs:Int} {cs:List Cs} {a:List Int} (hT:TaskV w v (n:Int) ins outs cs) (hz:chkT (n:Int) ins outs cs=0) (ha:IsP n a) (hu:Ints w u a) :
  Calls Tryz.prog 77 #[v,u] w fun e w'=>∃ r,e = .returned (.tuple #[r,.int .i64 0])∧TaskV w' r (n:Int) ins outs (renT a cs)∧Below w.heap.size w w':=
 permuteTask hT hz (fun c hc=>Nat.le_trans (calmLen hz c hc) (by decide)) ha hu
def symT (n:Nat) (cs:List Cs):List (List Int):=(everyL n).filter fun x=>decide (cs=renT x cs)
theorem relSym1 {w:World} {v u:Value} {b n:Nat} {ins outs:Int} {cs:List Cs} {x:List Int} (hT:TaskV w v (n:Int) ins outs cs) (hbx:w.heap[b]? = some (.cells v.cells 64)) (hz:chkT (n:Int) ins outs cs=0) (hx:IsP n x) (hu:Ints w u x) :
  Calls Tryz.prog 120 #[u,.pointer (some ⟨b,0,none⟩)] w fun e w'=>e = .returned (.bool (decide (cs=renT x cs)))∧Below w.heap.size w w':=by
 have HP:=Lib.hid (permuteT hT hz hx hu)
 obtain ⟨B,hB⟩:∃ B,decide (cs=renT x cs)=B:=⟨_,rfl⟩
 have HS:Hid (∀ W r,Below w.heap.size w W→TaskV W r (n:Int) ins outs (renT x cs)→Calls Tryz.prog 121 #[v,r] W fun e w'=>e = .returned (.bool B)∧Below W.heap.size W w'):=fun W r hb hr=>by
  rw [← hB]; exact sameTask (hT.keep hb) hr
 rw [hB]
 obtain ⟨sv,rfl,hS⟩:=hT
 obtain ⟨sa,sc,rfl⟩:=hS.shape
 obtain ⟨ua,uc,rfl⟩:=hu.shape
 have hbx':w.heap[b]? = some (.cells #[.int .i64 (n:Int),.int .i64 ins,.int .i64 outs,.slice sa cs.length sc] 64):=hbx
 obtain ⟨p0,p1,p2,p3⟩:=boxL4 hbx'
 have hK:=Lib.hid (fun W (hb:Below w.heap.size w W)=>boxL4 ((hb.block _ (Array.getElem?_eq_some_iff.1 hbx').1).trans hbx'))
 clear hS hu hx hz hB hbx hbx'
 go_enter Tryz.func120, Tryz.ntmps120
 go_wp2_with fail
 refine HP.out.mono ?_
 rintro e w1 ⟨r,rfl,hr,hb1⟩
 have hrk:=Lib.hid hr
 obtain ⟨rv,rfl,hR⟩:=hr
 obtain ⟨ra,rc,rfl⟩:=hR.shape
 obtain ⟨W2,hW2⟩:=exF (w1.alloc (.cells #[.int .i64 (n:Int),.int .i64 ins,.int .i64 outs,.slice ra (renT x cs).length rc] 64))
 have hb2:Below w1.heap.size w1 W2:=by rw [hW2]; exact (Below.refl _ _).alloc (Nat.le_refl _) _
 have m2:W2.heap[w1.heap.size]? = some (.cells #[.int .i64 (n:Int),.int .i64 ins,.int .i64 outs,.slice ra (renT x cs).length rc] 64):=by rw [hW2]; exact heap_alloc_new _ _
 have hb12:=bt hb1 hb2 hb1.size
 have HS2:=Lib.hid (HS.out W2 _ hb12 (hrk.out.keep hb2))
 clear p0 p1 p2 p3 HP HS hR
 obtain ⟨p0,p1,p2,p3⟩:=hK.out W2 hb12
 obtain ⟨q0,q1,q2,q3⟩:=boxL4 m2
 obtain ⟨N,hN⟩:=exE ((renT x cs).length)
 rw [hN] at hW2 q3 HS2
 simp only [hN]
 rw [hW2] at p0 p1 p2 p3 q0 q1 q2 q3
 replace hW2:=Lib.hid hW2
 replace hN:=Lib.hid hN
 clear hrk m2
 go_wp2_with fail
 rw [← hW2.out]
 refine HS2.out.mono ?_
 rintro e w3 ⟨rfl,hb3⟩
 have hf:=bt hb12 hb3 hb12.size
 clear p0 p1 p2 p3 q0 q1 q2 q3 HS2 hK
 go_wp2
 go_ret
 exact ⟨rfl,hf⟩
theorem relSymC {w:World} {v:Value} {n:Nat} {ins outs:Int} {cs:List Cs} (hT:TaskV w v (n:Int) ins outs cs) (hz:chkT (n:Int) ins outs cs=0):Calls Tryz.prog 79 #[v] w (RII w (symT n cs) 0):=by
 have hOK:=TskOK.of hz
 have h5:=hOK.n5
 have hTk:=Lib.hid hT
 obtain ⟨sv,rfl,hS⟩:=hT
 obtain ⟨sa,sc,rfl⟩:=hS.shape
 obtain ⟨W1,hW1⟩:=exF (w.alloc (.cells #[.int .i64 (n:Int),.int .i64 ins,.int .i64 outs,.slice sa cs.length sc] 64))
 have hb1:Below w.heap.size w W1:=by rw [hW1]; exact (Below.refl _ _).alloc (Nat.le_refl _) _
 have m1:W1.heap[w.heap.size]? = some (.cells #[.int .i64 (n:Int),.int .i64 ins,.int .i64 outs,.slice sa cs.length sc] 64):=by rw [hW1]; exact heap_alloc_new _ _
 have hK:=Lib.hid (fun W (hb:Below W1.heap.size W1 W)=>boxL4 ((hb.block _ (Array.getElem?_eq_some_iff.1 m1).1).trans m1))
 obtain ⟨p0,p1,p2,p3⟩:=boxL4 m1
 have HX:=checkT (hTk.out.keep hb1)
 rw [hz] at HX
 replace HX:=Lib.hid HX
 have hne:numE (n:Int)=0:=by unfold numE; rw [if_neg]; have:=hOK.n1; omega
 have hal:allL (n:Int)=everyL n:=by unfold allL; rw [if_pos hne,Int.toNat_natCast]
 have HAll:=fun W=>allCall (n:Int) W
 simp only [hne,hal] at HAll
 replace HAll:=Lib.hid HAll
 have HCh:=Lib.hid (fun W (hbW:Below W1.heap.size W1 W) (r:Value) B0 (hO:OII W B0 r (everyL n).length (everyL n))=>keptS (caps:=#[.pointer (some ⟨w.heap.size,0,none⟩)]) (p:=fun x=>decide (cs=renT x cs)) hO (every_len h5) fun W' hbW' x hx u hu=>by
  have hx':=mem_everyL.1 hx
  have hbb:=btt hbW hbW'
  exact relSym1 ((hTk.out.keep hb1).keep hbb) ((hbb.block _ (Array.getElem?_eq_some_iff.1 m1).1).trans m1) hz hx' (hu.ints (by have:=hx'.1; omega)))
 replace h5:=Lib.hid h5
 have hsy:=Lib.hid (show (everyL n).filter (fun x=>decide (cs=renT x cs))=symT n cs from rfl)
 clear hz hOK hne hal hS
 go_enter Tryz.func79, Tryz.ntmps79
 go_wp2_with fail
 rw [← hW1]
 replace hW1:=Lib.hid hW1
 refine HX.out.mono ?_
 rintro e W2 ⟨rfl,hb2⟩
 clear p0 p1 p2 p3
 obtain ⟨p0,p1,p2,p3⟩:=hK.out W2 hb2
 go_wp2_with fail
 refine (HAll.out W2).mono ?_
 rintro e W3 ⟨r,rfl,hO,hb3⟩
 have hOk:=Lib.hid hO
 obtain ⟨ra,rc,rfl⟩:=hO.shape
 have hb13:=btt hb2 hb3
 have HC3:=Lib.hid (HCh.out W3 hb13 _ _ hOk.out)
 clear p0 p1 p2 p3 hK HX HAll HCh hO
 go_wp2_with fail
 refine HC3.out.mono ?_
 rintro e W4 ⟨r2,rfl,hO2,hb4⟩
 rw [hsy.out] at hO2
 obtain ⟨ra2,rc2,rfl⟩:=hO2.shape
 have hfin:=bt hb1 (btt hb13 hb4) hb1.size
 have hO3:=Lib.hid (hO2.base (B':=w.heap.size) (bt hb1 hb13 hb1.size).size)
 clear hO2 HC3
 go_wp2
 go_ret2
 exact ⟨_,rfl,hO3.out,hfin⟩
end Go.Proofs.YtmikofeildnpdaaGreat

/- symmetry.problem, symmetry.Symmetries. -/
namespace Go.Proofs.YtmikofeildnpdaaGreat
open Go.RowKit
def PrV (w:World) (v:Value) (n:Nat) (ins outs:Int) (cs:List Cs) (ss:List (List (List Int))) (r:Int):Prop:=
 ∃ sv av,v = .agg #[.int .i64 (n:Int),.int .i64 ins,.int .i64 outs,sv,.int .i64 (n:Int),av,.int .i64 r]∧TaskV w (.agg #[.int .i64 (n:Int),.int .i64 ins,.int .i64 outs,sv]) (n:Int) ins outs cs∧AdvC w (.agg #[.int .i64 (n:Int),av]) (n:Int) ss
theorem PrV.keep {w w':World} {v:Value} {n:Nat} {ins outs:Int} {cs:List Cs} {ss:List (List (List Int))} {r:Int} (h:PrV w v n ins outs cs ss r) (hb:Below w.heap.size w w'):PrV w' v n ins outs cs ss r:=by
 obtain ⟨sv,av,h1,h2,h3⟩:=h
 exact ⟨sv,av,h1,h2.keep hb,h3.keep hb⟩
structure PrOK (n:Nat) (ins outs:Int) (cs:List Cs) (ss:List (List (List Int))) (r:Int):Prop where
 tz:chkT (n:Int) ins outs cs=0
 az:chkA (n:Int) ss=0
 r0:0≤r
 r6:r≤6
 few:FewS ss
def prBox (n:Nat) (ins outs:Int) (sv av:Value) (r:Int):Obj:=.cells #[.int .i64 (n:Int),.int .i64 ins,.int .i64 outs,sv,.int .i64 (n:Int),av,.int .i64 r] 66
theorem PrV.shape {w:World} {v:Value} {n:Nat} {ins outs:Int} {cs:List Cs} {ss:List (List (List Int))} {r:Int} (h:PrV w v n ins outs cs ss r):∃ sa sc aa ac,v = .agg #[.int .i64 (n:Int),.int .i64 ins,.int .i64 outs,.slice sa cs.length sc,.int .i64 (n:Int),.slice aa ss.length ac,.int .i64 r]∧
  TaskV w (.agg #[.int .i64 (n:Int),.int .i64 ins,.int .i64 outs,.slice sa cs.length sc]) (n:Int) ins outs cs∧AdvC w (.agg #[.int .i64 (n:Int),.slice aa ss.length ac]) (n:Int) ss:=by
 obtain ⟨sv,av,rfl,hT,hA⟩:=h
 have hT':=hT
 obtain ⟨_,he,hS⟩:=hT'
 injection he with he
 simp only [Array.mk.injEq,List.cons.injEq,and_true,true_and] at he
 subst he
 obtain ⟨sa,sc,rfl⟩:=hS.shape
 obtain ⟨aa,ac,he⟩:=advShape' hA.adv
 injection he with he
 simp only [Array.mk.injEq,List.cons.injEq,and_true,true_and] at he
 subst he
 exact ⟨_,_,_,_,rfl,hT,hA⟩
theorem problemC {w:World} {v:Value} {n:Nat} {ins outs:Int} {cs:List Cs} {ss:List (List (List Int))} {r:Int} (h:PrV w v n ins outs cs ss r) (hO:PrOK n ins outs cs ss r) :
  Calls Tryz.prog 76 #[v] w fun e w'=>e = .returned (.int .i64 0)∧Below w.heap.size w w':=by
 obtain ⟨sa,sc,aa,ac,rfl,hT,hA⟩:=h.shape
 obtain ⟨W1,hW1⟩:=exF (w.alloc (.cells #[.int .i64 (n:Int),.int .i64 ins,.int .i64 outs,.slice sa cs.length sc,.int .i64 (n:Int),.slice aa ss.length ac,.int .i64 r] 66))
 have hb1:Below w.heap.size w W1:=by rw [hW1]; exact (Below.refl _ _).alloc (Nat.le_refl _) _
 have m1:W1.heap[w.heap.size]? = some (.cells #[.int .i64 (n:Int),.int .i64 ins,.int .i64 outs,.slice sa cs.length sc,.int .i64 (n:Int),.slice aa ss.length ac,.int .i64 r] 66):=by rw [hW1]; exact heap_alloc_new _ _
 have hK:=Lib.hid (fun W (hb:Below W1.heap.size W1 W)=>boxL7 ((hb.block _ (Array.getElem?_eq_some_iff.1 m1).1).trans m1))
 obtain ⟨p0,p1,p2,p3,p4,p5,p6⟩:=boxL7 m1
 have HT:=checkT (hT.keep hb1)
 rw [hO.tz] at HT
 replace HT:=Lib.hid HT
 have HA:=fun W (hb:Below W1.heap.size W1 W)=>checkA ((hA.keep hb1).keep hb).adv (by have:=hO.few.m; omega)
 rw [hO.az] at HA
 replace HA:=Lib.hid HA
 have hr0:decide (r < 0)=false:=decide_eq_false (by have:=hO.r0; omega)
 have hr6:decide (6 < r)=false:=decide_eq_false (by have:=hO.r6; omega)
 clear h hT hA hO m1
 go_enter Tryz.func76, Tryz.ntmps76
 go_wp2_with fail
 rw [← hW1]
 replace hW1:=Lib.hid hW1
 refine HT.out.mono ?_
 rintro e W2 ⟨rfl,hb2⟩
 clear p0 p1 p2 p3 p4 p5 p6
 obtain ⟨p0,p1,p2,p3,p4,p5,p6⟩:=hK.out W2 hb2
 go_wp2_with fail
 refine (HA.out W2 hb2).mono ?_
 rintro e W3 ⟨rfl,hb3⟩
 have hb13:=btt hb2 hb3
 have hf:=bt hb1 hb13 hb1.size
 clear p0 p1 p2 p3 p4 p5 p6
 obtain ⟨p0,p1,p2,p3,p4,p5,p6⟩:=hK.out W3 hb13
 clear hK HT HA
 go_wp2
 go_ret
 exact ⟨rfl,hf⟩
theorem kpB_box {w:World} {b n:Nat} {ins outs:Int} {sv av:Value} {r:Int} (h:w.heap[b]? = some (prBox n ins outs sv av r)):w.cell? ⟨b,4,none⟩=some (.int .i64 (n:Int))∧w.cell? ⟨b,5,none⟩=some av:=⟨box_cell h rfl,box_cell h rfl⟩
theorem sym1 {w:World} {b n:Nat} {ins outs:Int} {sv:Value} {aa:Option Addr} {ac:Nat} {r:Int} {ss:List (List (List Int))} (hA:AdvC w (.agg #[.int .i64 (n:Int),.slice aa ss.length ac]) (n:Int) ss) (hbx:w.heap[b]? = some (prBox n ins outs sv (.slice aa ss.length ac) r)) (hF:FewS ss) (hW:WfN n ss) {x:List Int} (hx:IsP n x) {u:Value} (hu:Ints w u x) :
  Calls Tryz.prog 80 #[u,.pointer (some ⟨b,0,none⟩)] w fun e w'=>e = .returned (.tuple #[.bool (kpG ss x),.int .i64 0])∧Below w.heap.size w w':=by
 have HI:=invariantC hA hu hF
 rw [invR,if_pos (perE_zero hW hx),perE_zero hW hx] at HI
 replace HI:=Lib.hid HI
 obtain ⟨ua,uc,hus⟩:∃ ua uc,u = .slice ua x.length uc:=by obtain ⟨ua,uc,_,_,h,_⟩:=hu; exact ⟨ua,uc,h⟩
 subst hus
 obtain ⟨p0,p1⟩:=kpB_box hbx
 obtain ⟨B,hB⟩:=exE (kpG ss x)
 rw [hB] at HI ⊢
 clear hA hF hW hx hu hbx hB
 go_enter Tryz.func80, Tryz.ntmps80
 go_wp2_with fail
 refine HI.out.mono ?_
 rintro e w1 ⟨rfl,hb1⟩
 go_wp2
 go_ret2
 exact ⟨rfl,hb1⟩
noncomputable def symP (n:Nat) (cs:List Cs) (ss:List (List (List Int))):List (List Int):=(symT n cs).filter (kpG ss)
theorem symmetriesC {w:World} {v:Value} {n:Nat} {ins outs:Int} {cs:List Cs} {ss:List (List (List Int))} {r:Int} (h:PrV w v n ins outs cs ss r) (hO:PrOK n ins outs cs ss r) :
  Calls Tryz.prog 38 #[v] w (RII w (symP n cs ss) 0):=by
 have hOK:=TskOK.of hO.tz
 have hk:=Lib.hid h
 obtain ⟨sa,sc,aa,ac,rfl,hT,hA⟩:=h.shape
 obtain ⟨n',hn',hW⟩:=wfN_of hA.adv hO.az
 obtain rfl:n'=n:=by omega
 obtain ⟨W1,hW1⟩:=exF (w.alloc (.cells #[.int .i64 (n':Int),.int .i64 ins,.int .i64 outs,.slice sa cs.length sc,.int .i64 (n':Int),.slice aa ss.length ac,.int .i64 r] 66))
 have hb1:Below w.heap.size w W1:=by rw [hW1]; exact (Below.refl _ _).alloc (Nat.le_refl _) _
 have m1:W1.heap[w.heap.size]? = some (.cells #[.int .i64 (n':Int),.int .i64 ins,.int .i64 outs,.slice sa cs.length sc,.int .i64 (n':Int),.slice aa ss.length ac,.int .i64 r] 66):=by rw [hW1]; exact heap_alloc_new _ _
 have hK:=Lib.hid (fun W (hb:Below W1.heap.size W1 W)=>boxL7 ((hb.block _ (Array.getElem?_eq_some_iff.1 m1).1).trans m1))
 obtain ⟨p0,p1,p2,p3,p4,p5,p6⟩:=boxL7 m1
 have HP:=Lib.hid (problemC (hk.out.keep hb1) hO)
 have HT:=Lib.hid (fun W (hb:Below W1.heap.size W1 W)=>relSymC ((hT.keep hb1).keep hb) hO.tz)
 have hsl:(symT n' cs).length≤1000:=Nat.le_trans (List.length_filter_le _ _) (every_len hOK.n5)
 have hsm:∀ x∈symT n' cs,IsP n' x:=fun x hx=>mem_everyL.1 (List.mem_filter.1 hx).1
 have HCh:=Lib.hid (fun W (hbW:Below W1.heap.size W1 W) (q:Value) B0 (hQ:OII W B0 q (symT n' cs).length (symT n' cs))=>chosenS (caps:=#[.pointer (some ⟨w.heap.size,0,none⟩)]) (p:=kpG ss) hQ hsl fun W' hbW' x hx u hu=>by
  have hx':=hsm x hx
  have hbb:=btt hbW hbW'
  exact sym1 ((hA.keep hb1).keep hbb) ((hbb.block _ (Array.getElem?_eq_some_iff.1 m1).1).trans m1) hO.few hW hx' (hu.ints (by have:=hx'.1; have:=hOK.n5; omega)))
 obtain ⟨L,hL⟩:=exE (symT n' cs)
 have hsy:=Lib.hid (show L.filter (kpG ss)=symP n' cs ss by rw [← hL]; rfl)
 rw [hL] at HT HCh
 clear h hT hA hO hOK hn' hW hsl hsm hL m1
 go_enter Tryz.func38, Tryz.ntmps38
 go_wp2_with fail
 rw [← hW1]
 replace hW1:=Lib.hid hW1
 refine HP.out.mono ?_
 rintro e W2 ⟨rfl,hb2⟩
 clear p0 p1 p2 p3 p4 p5 p6
 obtain ⟨p0,p1,p2,p3,p4,p5,p6⟩:=hK.out W2 hb2
 go_wp2_with fail
 refine (HT.out W2 hb2).mono ?_
 rintro e W3 ⟨q,rfl,hQ,hb3⟩
 have hQk:=Lib.hid hQ
 obtain ⟨ra,rc,rfl⟩:=hQ.shape
 have hb13:=btt hb2 hb3
 have HC3:=Lib.hid (HCh.out W3 hb13 _ _ hQk.out)
 clear p0 p1 p2 p3 p4 p5 p6 hK HP HT HCh hQ
 go_wp2_with fail
 refine HC3.out.mono ?_
 rintro e W4 ⟨r2,rfl,hO2,hb4⟩
 rw [hsy.out] at hO2
 obtain ⟨ra2,rc2,rfl⟩:=hO2.shape
 have hfin:=bt hb1 (btt hb13 hb4) hb1.size
 have hO3:=Lib.hid (hO2.base (B':=w.heap.size) (bt hb1 hb13 hb1.size).size)
 clear hO2 HC3
 go_wp2
 go_ret2
 exact ⟨_,rfl,hO3.out,hfin⟩
end Go.Proofs.YtmikofeildnpdaaGreat

/- Texts of this claim, put together: ZT ZO IS. -/
import Derived.Test.YtmikofeildnpdaaGreatKUw
import Derived.Test.YtmikofeildnpdaaGreatKUi
import Derived.Test.YtmikofeildnpdaaGreatKUf

set_option maxRecDepth 100000
set_option maxHeartbeats 12800000
/- law21.consensus. -/
namespace Go.Proofs.YtmikofeildnpdaaGreat
open Go.RowKit
def csC:List Cs:=[([0,0],[[0,0]],[]),([0,1],[[0,0],[1,1]],[]),([1,0],[[0,0],[1,1]],[]),([1,1],[[1,1]],[])]
theorem cells12 {w:World} {b:Nat} {t:TypeId} {u0 u1 u2 u3 u4 u5 u6 u7 u8 u9 u10 u11:Value} (h:w.heap[b]? = some (.cells #[u0,u1,u2,u3,u4,u5,u6,u7,u8,u9,u10,u11] t)) :
  (w.cell? ⟨b,0,none⟩=some u0∧w.cell? ⟨b,1,none⟩=some u1∧w.cell? ⟨b,2,none⟩=some u2)∧(w.cell? ⟨b,3,none⟩=some u3∧w.cell? ⟨b,4,none⟩=some u4∧w.cell? ⟨b,5,none⟩=some u5)∧
  (w.cell? ⟨b,6,none⟩=some u6∧w.cell? ⟨b,7,none⟩=some u7∧w.cell? ⟨b,8,none⟩=some u8)∧(w.cell? ⟨b,9,none⟩=some u9∧w.cell? ⟨b,10,none⟩=some u10∧w.cell? ⟨b,11,none⟩=some u11):=
 ⟨⟨box_cell h rfl,box_cell h rfl,box_cell h rfl⟩,⟨box_cell h rfl,box_cell h rfl,box_cell h rfl⟩,⟨box_cell h rfl,box_cell h rfl,box_cell h rfl⟩,⟨box_cell h rfl,box_cell h rfl,box_cell h rfl⟩⟩
theorem consensusC {w:World}:Calls Tryz.prog 50 #[] w fun e w'=>∃ r,e = .returned r∧TaskV w' r 2 2 2 csC∧Below w.heap.size w w':=by
 obtain ⟨W1,hW1⟩:=exF (w.alloc (.cells #[.int .i64 0,.int .i64 0,.int .i64 0,.slice none 0 0] 64))
 obtain ⟨W2,hW2⟩:=exF (W1.alloc (.cells #[.int .i64 0,.int .i64 0] 3))
 obtain ⟨W3,hW3⟩:=exF (W2.alloc (.cells #[.int .i64 1,.int .i64 1] 3))
 obtain ⟨W4,hW4⟩:=exF (W3.alloc (.cells #[.slice (some ⟨W1.heap.size,0,none⟩) 2 2,.slice (some ⟨W2.heap.size,0,none⟩) 2 2] 25))
 have hb2:Below W1.heap.size W1 W2:=by rw [hW2]; exact (Below.refl _ _).alloc (Nat.le_refl _) _
 have hb3:Below W2.heap.size W2 W3:=by rw [hW3]; exact (Below.refl _ _).alloc (Nat.le_refl _) _
 have hb4:Below W3.heap.size W3 W4:=by rw [hW4]; exact (Below.refl _ _).alloc (Nat.le_refl _) _
 have hb1:Below w.heap.size w W1:=by rw [hW1]; exact (Below.refl _ _).alloc (Nat.le_refl _) _
 have m1:W1.heap[w.heap.size]? = some (.cells #[.int .i64 0,.int .i64 0,.int .i64 0,.slice none 0 0] 64):=by rw [hW1]; exact heap_alloc_new _ _
 have m2:W2.heap[W1.heap.size]? = some (.cells #[.int .i64 0,.int .i64 0] 3):=by rw [hW2]; exact heap_alloc_new _ _
 have m3:W3.heap[W2.heap.size]? = some (.cells #[.int .i64 1,.int .i64 1] 3):=by rw [hW3]; exact heap_alloc_new _ _
 have m4:W4.heap[W3.heap.size]? = some (.cells #[.slice (some ⟨W1.heap.size,0,none⟩) 2 2,.slice (some ⟨W2.heap.size,0,none⟩) 2 2] 25):=by rw [hW4]; exact heap_alloc_new _ _
 have hb24:=btt hb3 hb4
 have hb14:=btt hb2 hb24
 have n1:=(hb14.block _ (Array.getElem?_eq_some_iff.1 m1).1).trans m1
 have n2:=(hb24.block _ (Array.getElem?_eq_some_iff.1 m2).1).trans m2
 have n3:=(hb4.block _ (Array.getElem?_eq_some_iff.1 m3).1).trans m3
 have hbw:=bt hb1 hb14 hb1.size
 have hsz:Hid (W3.heap.size=w.heap.size+3∧W2.heap.size=w.heap.size+1+1∧W1.heap.size=w.heap.size+1):=by
  have h1:W1.heap.size=w.heap.size+1:=by rw [hW1,World.size_alloc]
  have h2:W2.heap.size=W1.heap.size+1:=by rw [hW2,World.size_alloc]
  have h3:W3.heap.size=W2.heap.size+1:=by rw [hW3,World.size_alloc]
  exact ⟨by omega,by omega,h1⟩
 have hW:Hid (W4=(((w.alloc (.cells #[.int .i64 0,.int .i64 0,.int .i64 0,.slice none 0 0] 64)).alloc (.cells #[.int .i64 0,.int .i64 0] 3)).alloc (.cells #[.int .i64 1,.int .i64 1] 3)).alloc (.cells #[.slice (some ⟨w.heap.size+1,0,none⟩) 2 2,.slice (some ⟨w.heap.size+1+1,0,none⟩) 2 2] 25)):=by
  show _=_
  rw [hW4,hsz.out.2.1,hsz.out.2.2,hW3,hW2,hW1]
 clear hW4 hW3 hW2 hW1 m1 m2 m3 hb2 hb3 hb4 hb24 hb14 hb1
 go_enter Tryz.func50, Tryz.ntmps50
 go_upto_region 2 with fail
 rw [← hW.out]
 rw [hsz.out.2.1,hsz.out.2.2] at m4
 have hs3:=hsz.out.1
 rw [hs3] at m4
 rw [hsz.out.2.1] at n3
 rw [hsz.out.2.2] at n2
 refine regCons2 (b0:=w.heap.size) (b1:=w.heap.size+3) n1 ?_
 intro y0 y3 y4 y6 y7 y9 y10 y13 y14 y15 y16 W hG _ _ _ _ _ _ _ _ _ _ _
 obtain ⟨hb,hkx,g,h0,h1,h2,h3,hT,hR,i0,i1,i2,i3⟩:=hG.2 rfl
 have hsw:w.heap.size≤W4.heap.size:=hbw.size
 have hbf:=hbw.trans hb
 have k2:=(hkx _ _ _ n2 (by decide)).trans n2
 have k3:=(hkx _ _ _ n3 (by decide)).trans n3
 have k4:=(hkx _ _ _ m4 (by decide)).trans m4
 obtain ⟨c0,c1⟩:=boxL2 k4
 have iz:IntB W (.slice (some ⟨w.heap.size+1,0,none⟩) 2 2) 0 0:=⟨_,rfl,k2⟩
 have io:IntB W (.slice (some ⟨w.heap.size+1+1,0,none⟩) 2 2) 1 1:=⟨_,rfl,k3⟩
 have s1:Intss W (.slice (some ⟨w.heap.size+3,0,none⟩) 1 2) [[0,0]]:=⟨_,_,w.heap.size+3,0,rfl,fun _=>rfl,fun j hj=>by
  match j,hj with
  | 0,_=>exact ⟨_,c0,iz.ints⟩,show 1≤5864062014805 by decide⟩
 have s2:Intss W (.slice (some ⟨w.heap.size+3,0,none⟩) 2 2) [[0,0],[1,1]]:=⟨_,_,w.heap.size+3,0,rfl,fun _=>rfl,fun j hj=>by
  match j,hj with
  | 0,_=>exact ⟨_,c0,iz.ints⟩
  | 1,_=>exact ⟨_,c1,io.ints⟩,show 2≤5864062014805 by decide⟩
 have s3:Intss W (.slice (some ⟨w.heap.size+3,1,none⟩) 1 1) [[1,1]]:=⟨_,_,w.heap.size+3,1,rfl,fun _=>rfl,fun j hj=>by
  match j,hj with
  | 0,_=>exact ⟨_,c1,io.ints⟩,show 1≤5864062014805 by decide⟩
 have s0:Intss W (.slice none 0 0) []:=⟨_,_,0,0,rfl,fun h=>absurd h (Nat.lt_irrefl 0),fun j hj=>absurd hj (Nat.not_lt_zero j),Nat.zero_le _⟩
 obtain ⟨⟨a0,a1,a2⟩,⟨a3,a4,a5⟩,⟨a6,a7,a8⟩,a9,a10,a11⟩:=cells12 hR
 have hCs:CsS W (.slice (some ⟨g,0,none⟩) 4 4) csC:=⟨_,_,g,0,rfl,fun _=>rfl,fun j hj=>by
  match j,hj with
  | 0,_=>exact ⟨_,_,_,a0,a1,a2,i0.ints,s1,s0⟩
  | 1,_=>exact ⟨_,_,_,a3,a4,a5,i1.ints,s2,s0⟩
  | 2,_=>exact ⟨_,_,_,a6,a7,a8,i2.ints,s2,s0⟩
  | 3,_=>exact ⟨_,_,_,a9,a10,a11,i3.ints,s3,s0⟩,show 4≤1954687338268 by decide⟩
 obtain ⟨e0,e1,e2,e3⟩:=boxL4 hT
 clear hW hsz m4 n1 n2 n3 hR a0 a1 a2 a3 a4 a5 a6 a7 a8 a9 a10 a11
 go_wp2
 refine bodyPost_ret (v:=.agg #[.int .i64 2,.int .i64 2,.int .i64 2,.slice (some ⟨g,0,none⟩) 4 4]) (by simp [results,Tryz.results50,go_sem,e0,e1,e2,e3]) rfl ?_
 exact ⟨_,rfl,⟨_,rfl,hCs⟩,hbf⟩
end Go.Proofs.YtmikofeildnpdaaGreat

/- relate.same. -/
namespace Go.Proofs.YtmikofeildnpdaaGreat
open Go.RowKit
theorem eqVecs {w:World} {u v:Value} {xs ys:List (List Int)} (hx:Intss w u xs) (hy:Intss w v ys) :
  Calls Tryz.prog 170 #[u,v,.func (.func 171) #[] #[]] w fun e w'=>e = .returned (.bool (decide (xs=ys)))∧Qt w w':=by
 obtain ⟨xa,xc,xb,xo,rfl,hxa,hxc,_⟩:=hx
 obtain ⟨ya,yc,yb,yo,rfl,hya,hyc,_⟩:=hy
 obtain ⟨B,hB⟩:∃ B,decide (xs=ys)=B:=⟨_,rfl⟩
 rw [hB]
 replace hB:=Lib.hid hB
 replace hxc:=Lib.hid hxc
 replace hyc:=Lib.hid hyc
 by_cases hlen:xs.length=ys.length
 ·rw [← hlen]
  replace hlen:=Lib.hid hlen
  have h0:Hid (xs.take 0=ys.take 0):=rfl
  go_enter Tryz.func170, Tryz.ntmps170
  go_wp2
  go_loopw [17] (fun iv wr=>∃ i:Nat,iv = .int .i64 i∧i≤xs.length∧Hid (xs.take i=ys.take i)∧Qt w wr) (fun iv _=>xs.length - (intOf iv).toNat)
  case atStart=>exact ⟨0,rfl,by omega,h0,Qt.refl w⟩
  case round=>
   clear h0
   obtain ⟨i,rfl,hi,ht,n,rfl⟩:=hrel
   by_cases hlt:i < xs.length
   ·obtain rfl:=hxa (by omega)
    obtain rfl:=hya (by rw [← hlen.out]; omega)
    have hlt':i < ys.length:=by rw [← hlen.out]; exact hlt
    obtain ⟨cu,hcu,hu⟩:=hxc.out i hlt
    obtain ⟨cv,hcv,hv⟩:=hyc.out i hlt'
    have H:=Lib.hid (eqInts (hu.keep (below_drewN (Below.refl _ w) n)) (hv.keep (below_drewN (Below.refl _ w) n)))
    obtain ⟨x,hx⟩:=exE (xs.getD i [])
    obtain ⟨y,hy⟩:=exE (ys.getD i [])
    rw [hx] at hu
    rw [hy] at hv
    rw [hx,hy] at H
    obtain ⟨xa',xc',rfl⟩:=hu.shape
    obtain ⟨ya',yc',rfl⟩:=hv.shape
    clear hu hv
    by_cases he:x=y
    ·rw [decide_eq_true he] at H
     have ht2:Hid (xs.take (i+1)=ys.take (i+1)):=takes_next ht.out hlt hlt' (by rw [hx,hy,he])
     clear hx hy he ht
     go_wp2_with fail
     refine H.out.mono ?_
     rintro e w' ⟨rfl,m,rfl⟩
     go_wp2_with fail
     go_roundw
     case rel=>exact ⟨i+1,by go_num,hlt,ht2,by first | exact (Qt.mk' w n).step m | exact Qt.mk' w _⟩
     case measure=>simp [intOf]; omega
    ·rw [decide_eq_false he] at H
     have hBf:Hid (B=false):=by
      show _=_
      rw [← hB.out]
      refine decide_eq_false fun h=>he ?_
      rw [← hx,← hy,h]
     clear hx hy he ht
     go_wp2_with fail
     refine H.out.mono ?_
     rintro e w' ⟨rfl,m,rfl⟩
     go_wp2_with fail
     go_ret
     exact ⟨by rw [hBf.out]; rfl,by first | exact (Qt.mk' w n).step m | exact Qt.mk' w _⟩
   ·have hBt:Hid (B=true):=by
     show _=_
     rw [← hB.out]
     exact decide_eq_true (takes_all ht.out (by omega) (by rw [← hlen.out]; omega))
    clear ht
    go_wp2
    go_ret
    exact ⟨by rw [hBt.out]; rfl,Qt.mk' w n⟩
 ·have hBf:B=false:=by rw [← hB.out]; exact decide_eq_false fun h=>hlen (by rw [h])
  subst hBf
  have h1:((xs.length:Int) == (ys.length:Int))=false:=by simp; omega
  go_enter Tryz.func170, Tryz.ntmps170
  go_wp2
  go_ret
  exact ⟨rfl,Qt.refl w⟩
theorem same1T {w:World} {u v:Value} {xs ys:List (List Int)} (hx:Intss w u xs) (hy:Intss w v ys) :
  Calls Tryz.prog 169 #[u,v] w fun e w'=>e = .returned (.bool (decide (xs=ys)))∧Qt w w':=by
 have H:=Lib.hid (eqVecs hx hy)
 obtain ⟨xa,xc,rfl⟩:=hx.shape
 obtain ⟨ya,yc,rfl⟩:=hy.shape
 obtain ⟨B,hB⟩:∃ B,decide (xs=ys)=B:=⟨_,rfl⟩
 rw [hB] at H ⊢
 clear hx hy hB
 go_enter Tryz.func169, Tryz.ntmps169
 go_wp2_with fail
 refine H.out.mono ?_
 rintro e w' ⟨rfl,hq⟩
 go_wp2
 go_ret
 exact ⟨rfl,hq⟩
def SameBox (w:World) (b:Nat):Prop:=w.cell? ⟨b,0,none⟩=some (.func (.func 169) #[] #[])
theorem cs_eq {x y:Cs}:decide (x=y)=(decide (x.1=y.1) && decide (x.2.1=y.2.1) && decide (x.2.2=y.2.2)):=by
 obtain ⟨x0,x1,x2⟩:=x
 obtain ⟨y0,y1,y2⟩:=y
 rw [Bool.eq_iff_iff]
 simp [Prod.mk.injEq,and_assoc]
theorem same2T {w:World} {u0 u1 u2 v0 v1 v2:Value} {x y:Cs} {bf:Nat} (hf:SameBox w bf) (hx0:Ints w u0 x.1) (hx1:Intss w u1 x.2.1) (hx2:Intss w u2 x.2.2) (hy0:Ints w v0 y.1) (hy1:Intss w v1 y.2.1) (hy2:Intss w v2 y.2.2) :
  Calls Tryz.prog 173 #[.agg #[u0,u1,u2],.agg #[v0,v1,v2],.pointer (some ⟨bf,0,none⟩)] w fun e w'=>e = .returned (.bool (decide (x=y)))∧Below w.heap.size w w':=by
 obtain ⟨W1,hW1⟩:=exF ((w.alloc (.cells #[u0,u1,u2] 128)).alloc (.cells #[v0,v1,v2] 128))
 have hb1:Below w.heap.size w W1:=by rw [hW1]; exact ((Below.refl _ w).alloc (Nat.le_refl _) _).alloc (by simp) _
 have H0:=Lib.hid (eqInts (hx0.keep hb1) (hy0.keep hb1))
 have H1:=Lib.hid (fun n=>same1T (hx1.keep (below_drewN hb1 n)) (hy1.keep (below_drewN hb1 n)))
 have H2:=Lib.hid (fun n=>same1T (hx2.keep (below_drewN hb1 n)) (hy2.keep (below_drewN hb1 n)))
 have m0:W1.heap[w.heap.size]? = some (.cells #[u0,u1,u2] 128):=by rw [hW1]; exact (Below.heap_alloc _ _ _ (by simp)).trans (heap_alloc_new _ _)
 have m1:W1.heap[w.heap.size+1]? = some (.cells #[v0,v1,v2] 128):=by
  have h:=heap_alloc_new (w.alloc (.cells #[u0,u1,u2] 128)) (.cells #[v0,v1,v2] 128)
  rw [World.size_alloc] at h
  rw [hW1]; exact h
 have kf:W1.cell? ⟨bf,0,none⟩=some (.func (.func 169) #[] #[]):=cell_kept hb1 hf
 obtain ⟨p0,p1,p2⟩:=boxL3 m0
 obtain ⟨q0,q1,q2⟩:=boxL3 m1
 have hK:=Lib.hid (fun n:Nat=>(⟨p0,p1,p2,q0,q1,q2,kf⟩:(W1.drewN n).cell? ⟨w.heap.size,0,none⟩=some u0∧(W1.drewN n).cell? ⟨w.heap.size,1,none⟩=some u1∧(W1.drewN n).cell? ⟨w.heap.size,2,none⟩=some u2∧(W1.drewN n).cell? ⟨w.heap.size+1,0,none⟩=some v0∧(W1.drewN n).cell? ⟨w.heap.size+1,1,none⟩=some v1∧(W1.drewN n).cell? ⟨w.heap.size+1,2,none⟩=some v2∧(W1.drewN n).cell? ⟨bf,0,none⟩=some (.func (.func 169) #[] #[])))
 obtain ⟨a0,c0,rfl⟩:=hx0.shape
 obtain ⟨a1,c1,rfl⟩:=hx1.shape
 obtain ⟨a2,c2,rfl⟩:=hx2.shape
 obtain ⟨d0,e0,rfl⟩:=hy0.shape
 obtain ⟨d1,e1,rfl⟩:=hy1.shape
 obtain ⟨d2,e2,rfl⟩:=hy2.shape
 rw [cs_eq]
 obtain ⟨B0,hB0⟩:∃ B,decide (x.1=y.1)=B:=⟨_,rfl⟩
 obtain ⟨B1,hB1⟩:∃ B,decide (x.2.1=y.2.1)=B:=⟨_,rfl⟩
 obtain ⟨B2,hB2⟩:∃ B,decide (x.2.2=y.2.2)=B:=⟨_,rfl⟩
 rw [hB0] at H0 ⊢
 rw [hB1] at H1 ⊢
 rw [hB2] at H2 ⊢
 clear hB0 hB1 hB2 hx0 hx1 hx2 hy0 hy1 hy2 m0 m1 hf
 have hW:=Lib.hid hW1
 rw [hW1] at p0 q0
 clear hW1
 go_enter Tryz.func173, Tryz.ntmps173
 go_wp2_with fail
 rw [← hW.out]
 refine H0.out.mono ?_
 rintro e w2 ⟨rfl,n,rfl⟩
 clear p0 q0 H0
 obtain ⟨-,p1,-,-,q1,-,r1⟩:=hK.out n
 cases B0
 ·clear H1 H2
  go_wp2
  go_ret
  exact ⟨rfl,below_drewN hb1 n⟩
 ·go_wp2_with fail
  refine (H1.out n).mono ?_
  rintro e w3 ⟨rfl,m,hm0⟩
  have hm:w3=W1.drewN (n+m):=by rw [hm0]; simp
  clear hm0
  obtain ⟨k,hk⟩:=exE (n+m)
  rw [hk] at hm
  subst hm
  clear p1 q1 r1 H1 hk
  obtain ⟨-,-,p2,-,-,q2,r2⟩:=hK.out k
  cases B1
  ·clear H2
   go_wp2
   go_ret
   exact ⟨rfl,below_drewN hb1 k⟩
  ·go_wp2_with fail
   refine (H2.out k).mono ?_
   rintro e w4 ⟨rfl,m,rfl⟩
   clear p2 q2 r2 H2
   go_wp2
   go_ret
   exact ⟨rfl,below_drewN hb1 _⟩
theorem eqCases {w:World} {u v:Value} {xs ys:List Cs} {bf:Nat} (hf:SameBox w bf) (hx:CsS w u xs) (hy:CsS w v ys) :
  Calls Tryz.prog 172 #[u,v,.func (.func 173) #[] #[.pointer (some ⟨bf,0,none⟩)]] w fun e w'=>e = .returned (.bool (decide (xs=ys)))∧Below w.heap.size w w':=by
 obtain ⟨xa,xc,xb,xo,rfl,hxa,hxc,hxn⟩:=hx
 obtain ⟨ya,yc,yb,yo,rfl,hya,hyc,_⟩:=hy
 obtain ⟨B,hB⟩:∃ B,decide (xs=ys)=B:=⟨_,rfl⟩
 rw [hB]
 replace hB:=Lib.hid hB
 replace hxc:=Lib.hid hxc
 replace hyc:=Lib.hid hyc
 have hfh:=Lib.hid (fun W (hb:Below w.heap.size w W)=>(cell_kept hb hf:SameBox W bf))
 by_cases hlen:xs.length=ys.length
 ·rw [← hlen]
  replace hlen:=Lib.hid hlen
  have h0:Hid (xs.take 0=ys.take 0):=rfl
  clear hf
  go_enter Tryz.func172, Tryz.ntmps172
  go_wp2
  go_loopw [17] (fun iv wr=>∃ i:Nat,iv = .int .i64 i∧i≤xs.length∧Hid (xs.take i=ys.take i)∧Hid (Below w.heap.size w wr)) (fun iv _=>xs.length - (intOf iv).toNat)
  case atStart=>exact ⟨0,rfl,by omega,h0,Below.refl _ w⟩
  case round=>
   clear h0
   obtain ⟨i,rfl,hi,ht,hb⟩:=hrel
   by_cases hlt:i < xs.length
   ·obtain rfl:=hxa (by omega)
    obtain rfl:=hya (by rw [← hlen.out]; omega)
    have hlt':i < ys.length:=by rw [← hlen.out]; exact hlt
    obtain ⟨u0,u1,u2,k0,k1,k2,i0,i1,i2⟩:=(hxc.out.keep hb.out) i hlt
    obtain ⟨v0,v1,v2,l0,l1,l2,j0,j1,j2⟩:=(hyc.out.keep hb.out) i hlt'
    obtain ⟨x,hx⟩:=exE (xs.getD i csNil)
    obtain ⟨y,hy⟩:=exE (ys.getD i csNil)
    rw [hx] at i0 i1 i2
    rw [hy] at j0 j1 j2
    obtain ⟨W5,hW5⟩:=exF (wr.alloc (.cells #[u0,u1,u2] 128))
    have hb5:Below wr.heap.size wr W5:=by rw [hW5]; exact (Below.refl _ _).alloc (Nat.le_refl _) _
    obtain ⟨W6,hW6⟩:=exF (W5.alloc (.cells #[v0,v1,v2] 128))
    have hb6:Below wr.heap.size wr W6:=by rw [hW6]; exact hb5.alloc hb5.size _
    have m5:W6.heap[wr.heap.size]? = some (.cells #[u0,u1,u2] 128):=by rw [hW6,hW5]; exact (Below.heap_alloc _ _ _ (by simp)).trans (heap_alloc_new _ _)
    have m6:W6.heap[wr.heap.size+1]? = some (.cells #[v0,v1,v2] 128):=by
     have h:=heap_alloc_new W5 (.cells #[v0,v1,v2] 128)
     rw [hW5,World.size_alloc] at h
     rw [hW6,hW5]; exact h
    have hbw6:=hb.out.trans (hb6.mono hb.out.size)
    have H:=Lib.hid (same2T (hfh.out W6 hbw6) (i0.keep hb6) (i1.keep hb6) (i2.keep hb6) (j0.keep hb6) (j1.keep hb6) (j2.keep hb6))
    obtain ⟨p0,p1,p2⟩:=boxL3 m5
    obtain ⟨q0,q1,q2⟩:=boxL3 m6
    obtain ⟨a0,c0,rfl⟩:=i0.shape
    obtain ⟨a1,c1,rfl⟩:=i1.shape
    obtain ⟨a2,c2,rfl⟩:=i2.shape
    obtain ⟨d0,e0,rfl⟩:=j0.shape
    obtain ⟨d1,e1,rfl⟩:=j1.shape
    obtain ⟨d2,e2,rfl⟩:=j2.shape
    replace l0:=cell_kept hb5 l0
    replace l1:=cell_kept hb5 l1
    replace l2:=cell_kept hb5 l2
    rw [hW5] at l0 l1 l2
    rw [hW6,hW5] at p0 p1 p2 q0 q1 q2
    have hW:=Lib.hid (hW6.trans (by rw [hW5]))
    clear m5 m6 hb5 i0 i1 i2 j0 j1 j2
    clear hW6
    clear hW5
    replace hb6:=Lib.hid hb6
    replace hbw6:=Lib.hid hbw6
    by_cases he:x=y
    ·rw [decide_eq_true he] at H
     have ht2:Hid (xs.take (i+1)=ys.take (i+1)):=by
      show _=_
      rw [take_snoc hlt csNil,take_snoc hlt' csNil,ht.out,hx,hy,he]
     clear hx hy he ht
     go_wp2_with fail
     rw [← hW.out]
     refine H.out.mono ?_
     rintro e w' ⟨rfl,hb9⟩
     have hbf:=Lib.hid (bt hbw6.out hb9 hbw6.out.size)
     clear p0 p1 p2 q0 q1 q2 k0 k1 k2 l0 l1 l2 hW H
     go_wp2_with fail
     go_roundw
     case rel=>exact ⟨i+1,by go_num,hlt,ht2,hbf.out⟩
     case measure=>simp [intOf]; omega
    ·rw [decide_eq_false he] at H
     have hBf:Hid (B=false):=by
      show _=_
      rw [← hB.out]
      refine decide_eq_false fun h=>he ?_
      rw [← hx,← hy,h]
     clear hx hy he ht
     go_wp2_with fail
     rw [← hW.out]
     refine H.out.mono ?_
     rintro e w' ⟨rfl,hb9⟩
     have hbf:=Lib.hid (bt hbw6.out hb9 hbw6.out.size)
     clear p0 p1 p2 q0 q1 q2 k0 k1 k2 l0 l1 l2 hW H
     go_wp2_with fail
     go_ret
     exact ⟨by rw [hBf.out]; rfl,hbf.out⟩
   ·have hBt:Hid (B=true):=by
     show _=_
     rw [← hB.out]
     refine decide_eq_true ?_
     have:=ht.out
     rwa [List.take_of_length_le (by omega),List.take_of_length_le (by rw [← hlen.out]; omega)] at this
    clear ht
    go_wp2
    go_ret
    exact ⟨by rw [hBt.out]; rfl,hb.out⟩
 ·have hBf:B=false:=by rw [← hB.out]; exact decide_eq_false fun h=>hlen (by rw [h])
  subst hBf
  have h1:((xs.length:Int) == (ys.length:Int))=false:=by simp; omega
  go_enter Tryz.func172, Tryz.ntmps172
  go_wp2
  go_ret
  exact ⟨rfl,Below.refl _ w⟩
theorem sameTask {w:World} {u v:Value} {n i o:Int} {xs ys:List Cs} (hx:TaskV w u n i o xs) (hy:TaskV w v n i o ys) :
  Calls Tryz.prog 121 #[u,v] w fun e w'=>e = .returned (.bool (decide (xs=ys)))∧Below w.heap.size w w':=by
 obtain ⟨su,rfl,hu⟩:=hx
 obtain ⟨sv,rfl,hv⟩:=hy
 obtain ⟨ua,uc,hsu⟩:=hu.shape
 obtain ⟨va,vc,hsv⟩:=hv.shape
 subst hsu hsv
 obtain ⟨W1,hW1⟩:=exF (((w.alloc (.cells #[.int .i64 n,.int .i64 i,.int .i64 o,.slice ua xs.length uc] 64)).alloc (.cells #[.int .i64 n,.int .i64 i,.int .i64 o,.slice va ys.length vc] 64)).alloc (.cells #[.func (.func 169) #[] #[]] 44))
 have hb1:Below w.heap.size w W1:=by rw [hW1]; exact (((Below.refl _ w).alloc (Nat.le_refl _) _).alloc (by simp) _).alloc (by simp; omega) _
 have mf:SameBox W1 (w.heap.size+1+1):=by
  have h:=heap_alloc_new ((w.alloc (.cells #[.int .i64 n,.int .i64 i,.int .i64 o,.slice ua xs.length uc] 64)).alloc (.cells #[.int .i64 n,.int .i64 i,.int .i64 o,.slice va ys.length vc] 64)) (.cells #[.func (.func 169) #[] #[]] 44)
  rw [World.size_alloc,World.size_alloc] at h
  rw [← hW1] at h
  exact cell_of_one h
 have H:=Lib.hid (eqCases mf (hu.keep hb1) (hv.keep hb1))
 obtain ⟨B,hB⟩:∃ B,decide (xs=ys)=B:=⟨_,rfl⟩
 rw [hB] at H ⊢
 clear hu hv hB mf
 replace hW1:=Lib.hid hW1
 go_enter Tryz.func121, Tryz.ntmps121
 go_wp2_with fail
 rw [← hW1.out]
 refine H.out.mono ?_
 rintro e w' ⟨rfl,hb2⟩
 have hbf:=bt hb1 hb2 hb1.size
 go_wp2
 go_ret
 exact ⟨rfl,hbf⟩
end Go.Proofs.YtmikofeildnpdaaGreat

/- Ranging over a function that keeps a state of its own, with the loop variable in a box of each round. -/
namespace Go.Proofs.YtmikofeildnpdaaGreat
open Go.RowKit
def SeqOS {α:Type} (P:Program) (g:Nat) (lb:Array Value) (enc:α→Array Value) (R:List α→α→World→Prop) (S Sp:List α→Prop) (N:Nat) (C Wr:Nat→Prop) (w0:World):Prop:=
 ∀ (l:Nat) (J Jx:List α→(Nat→Prop)→World→Prop) (D:Nat→Prop) (W:World),Below w0.heap.size w0 W→Bd D W→(∀ k,D k→¬ C k∧¬ Wr k)→Stable J→Stable Jx→
  (∀ pre x D1 W1,J pre D1 W1→Bd D1 W1→Only (fun k=>D k∨Wr k) W W1→Gr D W D1→R pre x W1→pre.length < N→YieldAt Fence.wide 0 P l (enc x) W1 fun e W'=>
   ∃ D',Only D1 W1 W'∧Gr D1 W1 D'∧Bd D' W'∧((e = .returned (.bool true)∧J (pre ++ [x]) D' W')∨(e = .returned (.bool false)∧Jx (pre ++ [x]) D' W')))→
  J [] D W→
  CallsIn Fence.wide 0 P g (#[.func (.yield l) #[] #[]]++lb) W fun e W'=>(∃ v,e = .returned v)∧
   ∃ D',Only (fun k=>D k∨Wr k) W W'∧Gr D W D'∧Bd D' W'∧((∃ xs,S xs∧J xs D' W')∨(∃ pre,Sp pre∧Jx pre D' W'))
theorem Gr.or {D D' Wr:Nat→Prop} {W:World} (h:Gr D W D'):Gr (fun k=>D k∨Wr k) W (fun k=>D' k∨Wr k):=fun k hk=>by
 rcases hk with hk | hk
 ·rcases h k hk with h' | h'
  ·exact .inl (.inl h')
  ·exact .inr h'
 ·exact .inl (.inr hk)
theorem Only.or {D Wr:Nat→Prop} {A B:World} (h:Only D A B):Only (fun k=>D k∨Wr k) A B:=h.mono fun _ hk=>.inl hk
theorem wpIn_rfS {P:Program} {α:Type} {g:Operand} {ps:Array Tmp} {assign body:Code} {Q:Exit→Act→World→Prop} {a:Act} {w:World}
  {gf:Nat} {lb:Array Value} (hg:a.eval g = .func (.func gf) #[] lb) (eg:∀ args w,(callFunc gf args).run P w = .ok (.enter gf args) w)
  {enc:α→Array Value} {R:List α→α→World→Prop} {S Sp:List α→Prop} {N:Nat} {C Wr:Nat→Prop} {w0:World} (hseq:SeqOS P gf lb enc R S Sp N C Wr w0)
  (hb0:Below w0.heap.size w0 w) (hps:∀ x,(enc x).size=ps.size) (hR:∀ pre x W k r o,R pre x W→W.heap[k]? = some (.loop r)→R pre x (W.putObj k o)) (hRa:∀ pre x W o,R pre x W→R pre x (W.alloc o))
  (I:List α→(Nat→Prop)→World→Prop) (Ix:Code→List α→(Nat→Prop)→World→Prop) (hI:Stable I) (hIx:∀ c,Stable (Ix c))
  (D0:Nat→Prop) (hD0:Bd D0 w) (hC:∀ k,D0 k→¬ C k∧¬ Wr k) (hC':Bd C w) (hWr:Bd Wr w) (h0:I [] D0 w) (cs:α→Array Value) (tB:TypeId) (fx:α→Nat→Array Value→Array Value)
  (hassign:∀ (l:Nat) (pre:List α) (x:α) (W:World) (K:Act→World→Prop),R pre x W→K { tmps:=fx x W.heap.size a.tmps,defers:=[] } (W.alloc (.cells (cs x) tB))→
   assign.wpIn (Fence.wide.inRound l) 0 P (Exit.then K (fun _ _ _=>False)) { tmps:=(ps.zip (enc x)).foldl (fun t (p,v)=>t.setIfInBounds p v) a.tmps,defers:=[] } W)
  (hbody:∀ (l:Nat) (pre:List α) (x:α) (D:Nat→Prop) (W:World) (b:Nat),I pre D W→Bd D W→Only (fun k=>D0 k∨Wr k) w W→Gr D0 w D→R pre x W→pre.length < N→W.heap[b]? = some (.cells (cs x) tB)→¬ D b→w.heap.size≤b→body.wpIn (Fence.wide.inRound l) 0 P (bodyQ I Ix (pre ++ [x]) D W) { tmps:=fx x b a.tmps,defers:=[] } W)
  (hdone:∀ (d:Nat) (xs:List α) (D:Nat→Prop) (W:World),S xs→I xs D W→Only (fun k=>D0 k∨Wr k) w W→Gr D0 w D→w.heap.size≤d→¬ D d→W.heap[d]? = some (.deferred (some []))→Q .normal { a with defers:={ target:=.collected d,args:=#[] }::a.defers } W)
  (hstop:∀ (d:Nat) (c:Code) (pre:List α) (D:Nat→Prop) (W:World),Sp pre→Ix c pre D W→Only (fun k=>D0 k∨Wr k) w W→Gr D0 w D→w.heap.size≤d→¬ D d→W.heap[d]? = some (.deferred (some []))→c.wpIn Fence.wide 0 P Q { a with defers:={ target:=.collected d,args:=#[] }::a.defers } W) :
  (Code.rangeFunc g ps assign body).wpIn Fence.wide 0 P Q a w:=by
 refine wpIn_rangeFunc fun fn _=>?_
 obtain ⟨d,hd⟩:=exF (w.heap.size)
 obtain ⟨l,hl⟩:=exF (w.heap.size+1)
 obtain ⟨rec,hrec⟩:∃ rec:LoopState→Option Code→Loop,rec=fun st pe=>{ state:=st,pending:=pe,fn:=fn,tmps:=a.tmps,params:=ps,assign:=assign,body:=body,defers:=d }:=⟨_,rfl⟩
 obtain ⟨W1,hW1⟩:=exE ((w.alloc (.deferred (some []))).alloc (.loop (rec .ready none)))
 have hs1:W1.heap.size=w.heap.size+2:=by rw [← hW1]; simp
 have hold:∀ k,k < w.heap.size→W1.heap[k]? = w.heap[k]?:=fun k hk=>by
  rw [← hW1]; exact (Below.heap_alloc _ _ _ (by simp; omega)).trans (Below.heap_alloc _ _ _ hk)
 have hl1:W1.heap[l]? = some (.loop (rec .ready none)):=by
  rw [← hW1,hl]; have:=World.alloc_heap_new (w.alloc (.deferred (some []))) (.loop (rec .ready none)); rwa [World.size_alloc] at this
 have hd1:W1.heap[d]? = some (.deferred (some [])):=by
  rw [← hW1,hd]; exact (Below.heap_alloc _ _ _ (by simp)).trans (World.alloc_heap_new w _)
 have hbW:Below w.heap.size w W1:=by rw [← hW1]; exact ((Below.refl _ _).alloc (Nat.le_refl _) _).alloc (by simp) _
 have hDl : ¬ D0 l:=fun h=>by have:=hD0 l h; omega
 have hDd : ¬ D0 d:=fun h=>by have:=hD0 d h; omega
 -- what the caller's data and the two blocks of the statement's own are
 let J:List α→(Nat→Prop)→World→Prop:=fun pre D W=>∃ E,I pre E W∧Bd E W∧Gr D0 w E∧¬ E l∧¬ E d∧(∀ k,D k↔E k∨k=l∨k=d)∧
  W.heap[l]? = some (.loop (rec .ready none))∧W.heap[d]? = some (.deferred (some []))
 let Jx:List α→(Nat→Prop)→World→Prop:=fun pre D W=>∃ c E,Ix c pre E W∧Bd E W∧Gr D0 w E∧¬ E l∧¬ E d∧(∀ k,D k↔E k∨k=l∨k=d)∧
  W.heap[l]? = some (.loop (rec .done (some c)))∧W.heap[d]? = some (.deferred (some []))
 have hJ:Stable J:=by
  rintro pre D W W' ⟨E,h1,h2,h3,h4,h5,h6,h7,h8⟩ hs hk
  refine ⟨E,hI pre E W W' h1 hs (fun k hkE=>hk k ((h6 k).2 (.inl hkE))),fun k hkE=>Nat.lt_of_lt_of_le (h2 k hkE) hs,h3,h4,h5,h6,(hk l ((h6 l).2 (.inr (.inl rfl)))).trans h7,(hk d ((h6 d).2 (.inr (.inr rfl)))).trans h8⟩
 have hJx:Stable Jx:=by
  rintro pre D W W' ⟨c,E,h1,h2,h3,h4,h5,h6,h7,h8⟩ hs hk
  refine ⟨c,E,hIx c pre E W W' h1 hs (fun k hkE=>hk k ((h6 k).2 (.inl hkE))),fun k hkE=>Nat.lt_of_lt_of_le (h2 k hkE) hs,h3,h4,h5,h6,(hk l ((h6 l).2 (.inr (.inl rfl)))).trans h7,(hk d ((h6 d).2 (.inr (.inr rfl)))).trans h8⟩
 let D1:Nat→Prop:=fun k=>D0 k∨k=l∨k=d
 have hD1:Bd D1 W1:=fun k hk=>by
  rcases hk with h | rfl | rfl
  ·have:=hD0 k h; omega
  ·omega
  ·omega
 have hwW:∀ {W:World},Only (fun k=>D1 k∨Wr k) W1 W→Only (fun k=>D0 k∨Wr k) w W:=fun {W} h=>
  ⟨h.os.trans hbW.os,h.tape.trans hbW.tape,h.output.trans hbW.output,Nat.le_trans hbW.size h.size,fun k hk hn=>
   (h.same k (by omega) (fun hh=>by rcases hh with (hh | rfl | rfl) | hh; exact hn (.inl hh); omega; omega; exact hn (.inr hh))).trans (hold k hk)⟩
 refine ⟨l,[{ target:=.collected d,args:=#[] }],W1,{ target:=.fn (.func gf) lb,args:=#[.func (.yield l) #[] #[]] },W1,gf,#[.func (.yield l) #[] #[]]++lb,W1,?_,?_,?_,?_,?_,?_⟩
 ·rw [← hW1,hrec,hl,hd]; exact run_enterLoop_outer _ _ _ _ _
 ·simp only [resolve,hg]
  simp [go_sem]
 ·intro f' hf'; trivial
 ·simp [invoke,go_sem,eg]
 ·intro h; simp [Fence.wide] at h
 refine (hseq l J Jx D1 W1 (hb0.trans (hbW.mono hb0.size)) hD1 ?_ hJ hJx ?_ ?_).mono ?_
 ·intro k hk
  rcases hk with h | rfl | rfl
  ·exact hC k h
  ·exact ⟨fun hkC=>by have:=hC' _ hkC; omega,fun hkC=>by have:=hWr _ hkC; omega⟩
  ·exact ⟨fun hkC=>by have:=hC' _ hkC; omega,fun hkC=>by have:=hWr _ hkC; omega⟩
 ·-- a round
  rintro pre x D W ⟨E,h1,h2,h3,h4,h5,h6,h7,h8⟩ hBd hOn hGr hRx hlen
  have hlW:l < W.heap.size:=(Array.getElem?_eq_some_iff.1 h7).1
  have hy:=run_yield (P:=P) (args:=enc x) h7 (by rw [hrec]; exact hps x)
  rw [hrec] at hy
  refine ⟨fn,_,assign,body,hy,roundIn_of_wpIn trivial (hassign l pre x W _ hRx ⟨_,run_beginRound ((Below.heap_alloc _ _ _ hlW).trans h7) (by rw [hrec]),?_⟩)⟩
  have h7a:(W.alloc (.cells (cs x) tB)).heap[l]? = some (.loop (rec .ready none)):=(Below.heap_alloc _ _ _ hlW).trans h7
  obtain ⟨W2,hW2⟩:∃ W2,W2=(W.alloc (.cells (cs x) tB)).putObj l (.loop { rec .ready none with state:=.busy }):=⟨_,rfl⟩
  have g7:W2.heap[l]? = some (.loop { rec .ready none with state:=.busy }):=by rw [hW2]; exact World.putObj_heap_same (by simp; omega)
  have gO:∀ k,k < W.heap.size→k ≠ l→W2.heap[k]? = W.heap[k]?:=fun k hks hk=>by rw [hW2]; exact (World.putObj_heap_other hk).trans (Below.heap_alloc _ _ _ hks)
  have gS:W2.heap.size=W.heap.size+1:=by rw [hW2]; simp
  have gB:W2.heap[W.heap.size]? = some (.cells (cs x) tB):=by rw [hW2]; exact (World.putObj_heap_other (by omega)).trans (heap_alloc_new _ _)
  have e0:Only D W W2:=by rw [hW2]; exact ((Only.refl D W).thenBelow ((Below.refl _ _).alloc (Nat.le_refl _) _)).trans (Only.putObj (D:=D) ((h6 l).2 (.inr (.inl rfl))) _) (Gr.refl _ _)
  have g8:W2.heap[d]? = some (.deferred (some [])):=(gO d (by omega) (by omega)).trans h8
  have gI:I pre E W2:=hI pre E W W2 h1 (by omega) (fun k hk=>gO k (h2 k hk) (fun e=>h4 (e ▸ hk)))
  have gOn:Only (fun k=>D1 k∨Wr k) W1 W2:=hOn.trans e0.or hGr.or
  have gR:R pre x W2:=by rw [hW2]; exact hR pre x _ l _ _ (hRa _ _ _ _ hRx) h7a
  rw [← hW2]
  refine wpIn_mono (hbody l pre x E W2 W.heap.size gI (fun k hk=>by rw [gS]; have:=h2 k hk; omega) (hwW gOn) h3 gR hlen gB (fun h=>by have:=h2 _ h; omega) (by have:=hOn.size; omega)) ?_
  -- what stands when the body has ended
  have fin:∀ (jump:Option Code) (W3:World) (E':Nat→Prop),Only E W2 W3→Gr E W2 E'→Bd E' W3→
    (Instr.endRound l jump).run P W3 = .ok (.bool jump.isNone) (W3.putObj l (.loop (rec (if jump.isNone then .ready else .done) jump)))∧
    Only D W (W3.putObj l (.loop (rec (if jump.isNone then .ready else .done) jump)))∧Gr D W (fun k=>E' k∨k=l∨k=d)∧
    Bd (fun k=>E' k∨k=l∨k=d) (W3.putObj l (.loop (rec (if jump.isNone then .ready else .done) jump)))∧¬ E' l∧¬ E' d∧Gr D0 w E'∧
    (W3.putObj l (.loop (rec (if jump.isNone then .ready else .done) jump))).heap[l]? = some (.loop (rec (if jump.isNone then .ready else .done) jump))∧
    (W3.putObj l (.loop (rec (if jump.isNone then .ready else .done) jump))).heap[d]? = some (.deferred (some []))∧
    (∀ k,E' k→(W3.putObj l (.loop (rec (if jump.isNone then .ready else .done) jump))).heap[k]? = W3.heap[k]?):=by
   intro jump W3 E' k1 k2 k3
   have hdW:d < W2.heap.size:=by omega
   have hl3:=(k1.same l (by omega) h4).trans g7
   have hl3':l < W3.heap.size:=(Array.getElem?_eq_some_iff.1 hl3).1
   have nl : ¬ E' l:=fun h=>by rcases k2 l h with h' | h'; exact h4 h'; omega
   have nd : ¬ E' d:=fun h=>by rcases k2 d h with h' | h'; exact h5 h'; omega
   have hend:=run_endRound (P:=P) jump hl3
   refine ⟨by rw [hrec] at hend ⊢; exact hend,?_,?_,?_,nl,nd,?_,World.putObj_heap_same hl3',(World.putObj_heap_other (by omega)).trans ((k1.same d hdW h5).trans g8),fun k hk=>World.putObj_heap_other (fun e=>nl (e ▸ hk))⟩
   ·have e1:Only D W W2:=e0
    have e2:Only D W2 W3:=k1.mono fun k hk=>(h6 k).2 (.inl hk)
    exact (e1.trans e2 (Gr.refl _ _)).trans (Only.putObj (D:=D) ((h6 l).2 (.inr (.inl rfl))) _) (Gr.refl _ _)
   ·intro k hk
    rcases hk with h | rfl | rfl
    ·rcases k2 k h with h' | h'
     ·exact .inl ((h6 k).2 (.inl h'))
     ·exact .inr (by omega)
    ·exact .inl ((h6 k).2 (.inr (.inl rfl)))
    ·exact .inl ((h6 k).2 (.inr (.inr rfl)))
   ·intro k hk
    rw [World.putObj_size]
    rcases hk with h | rfl | rfl
    ·exact k3 k h
    ·omega
    ·have:=k1.size; omega
   ·intro k hk
    rcases k2 k hk with h' | h'
    ·exact h3 k h'
    ·right; have:=hOn.size; omega
  rintro e a3 W3 hp
  cases e with
  | normal=>
   obtain ⟨E',k1,k2,k3,k4⟩:=hp
   obtain ⟨f1,f2,f3,f4,f5,f6,f7,f8,f9,f10⟩:=fin none W3 E' k1 k2 k3
   exact ⟨_,_,f1,_,f2,f3,f4,.inl ⟨rfl,E',hI _ E' W3 _ k4 (by rw [World.putObj_size]; exact Nat.le_refl _) f10,fun k hk=>f4 k (.inl hk),f7,f5,f6,fun _=>Iff.rfl,f8,f9⟩⟩
  | ret=>
   obtain ⟨E',k1,k2,k3,k4⟩:=hp
   obtain ⟨f1,f2,f3,f4,f5,f6,f7,f8,f9,f10⟩:=fin (some .ret) W3 E' k1 k2 k3
   exact ⟨_,_,f1,_,f2,f3,f4,.inr ⟨rfl,_,E',hIx _ _ E' W3 _ k4 (by rw [World.putObj_size]; exact Nat.le_refl _) f10,fun k hk=>f4 k (.inl hk),f7,f5,f6,fun _=>Iff.rfl,f8,f9⟩⟩
  | exit id=>
   obtain ⟨E',k1,k2,k3,k4⟩:=hp
   obtain ⟨f1,f2,f3,f4,f5,f6,f7,f8,f9,f10⟩:=fin (some (.exit id)) W3 E' k1 k2 k3
   exact ⟨_,_,f1,_,f2,f3,f4,.inr ⟨rfl,_,E',hIx _ _ E' W3 _ k4 (by rw [World.putObj_size]; exact Nat.le_refl _) f10,fun k hk=>f4 k (.inl hk),f7,f5,f6,fun _=>Iff.rfl,f8,f9⟩⟩
  | goto t=>
   obtain ⟨E',k1,k2,k3,k4⟩:=hp
   obtain ⟨f1,f2,f3,f4,f5,f6,f7,f8,f9,f10⟩:=fin (some (.goto t)) W3 E' k1 k2 k3
   exact ⟨_,_,f1,_,f2,f3,f4,.inr ⟨rfl,_,E',hIx _ _ E' W3 _ k4 (by rw [World.putObj_size]; exact Nat.le_refl _) f10,fun k hk=>f4 k (.inl hk),f7,f5,f6,fun _=>Iff.rfl,f8,f9⟩⟩
  | panic ch=>exact hp.elim
  | outgrown=>exact hp.elim
 ·refine ⟨D0,hI [] D0 w W1 h0 hbW.size (fun k hk=>hold k (hD0 k hk)),fun k hk=>by have:=hD0 k hk; omega,Gr.refl _ _,hDl,hDd,fun _=>Iff.rfl,hl1,hd1⟩
 ·-- behind the iterator
  rintro e W2 ⟨⟨v,rfl⟩,D,hOn,hGr,hBd,(⟨xs,hS,E,h1,h2,h3,h4,h5,h6,h7,h8⟩ | ⟨pre,hSp,c,E,h1,h2,h3,h4,h5,h6,h7,h8⟩)⟩
  ·have hend:=run_endLoop (P:=P) h7 (by rw [hrec]; simp)
   rw [hrec] at hend
   refine ⟨none,_,hend,hdone d xs E _ hS (hI _ E W2 _ h1 (by simp) fun k hk=>World.putObj_heap_other (fun e=>h4 (e ▸ hk))) ?_ h3 (by omega) h5 ((World.putObj_heap_other (by omega)).trans h8)⟩
   exact hwW (hOn.trans (Only.putObj (D:=D) ((h6 l).2 (.inr (.inl rfl))) _).or hGr.or)
  ·have hend:=run_endLoop (P:=P) h7 (by rw [hrec]; simp)
   rw [hrec] at hend
   refine ⟨some c,_,hend,hstop d c pre E _ hSp (hIx c _ E W2 _ h1 (by simp) fun k hk=>World.putObj_heap_other (fun e=>h4 (e ▸ hk))) ?_ h3 (by omega) h5 ((World.putObj_heap_other (by omega)).trans h8)⟩
   exact hwW (hOn.trans (Only.putObj (D:=D) ((h6 l).2 (.inr (.inl rfl))) _).or hGr.or)
end Go.Proofs.YtmikofeildnpdaaGreat

/- Texts of this claim, put together: TG YL YM0. -/
import Derived.Test.YtmikofeildnpdaaGreatKYzp
import Derived.Test.YtmikofeildnpdaaGreatKYzo
import Derived.Test.YtmikofeildnpdaaGreatKYzh
import Derived.Test.YtmikofeildnpdaaGreatKYo
import Derived.Test.YtmikofeildnpdaaGreatKYh
import Derived.Test.YtmikofeildnpdaaGreatKYg
import Derived.Test.YtmikofeildnpdaaGreatKYzj

set_option maxRecDepth 100000
set_option maxHeartbeats 12800000
/- ref11.Check, ref11.Few. -/
namespace Go.Proofs.YtmikofeildnpdaaGreat
open Go.RowKit
theorem refCheckT {w:World} {v:Value} {n i o:Int} {cs:List Cs} (h:TaskV w v n i o cs) :
  Calls Tryz.prog 82 #[v] w fun e w'=>e = .returned (.int .i64 (chkT n i o cs))∧Below w.heap.size w w':=by
 have HT:=Lib.hid (fun W (hb:Below w.heap.size w W)=>h.keep hb)
 obtain ⟨sv,rfl,hS⟩:=h
 obtain ⟨sa,sc,hs⟩:=hS.shape
 subst hs
 obtain ⟨W1,hW1⟩:=exF (w.alloc (.cells #[.int .i64 n,.int .i64 i,.int .i64 o,.slice sa cs.length sc] 64))
 have hb1:Below w.heap.size w W1:=by rw [hW1]; exact (Below.refl _ w).alloc (Nat.le_refl _) _
 have kT:W1.heap[w.heap.size]? = some (.cells #[.int .i64 n,.int .i64 i,.int .i64 o,.slice sa cs.length sc] 64):=by rw [hW1]; exact heap_alloc_new _ _
 have HK:=Lib.hid (fun W (hb:Below W1.heap.size W1 W)=>keep4 hb (box4' kT))
 obtain ⟨E,hE⟩:=exE (chkT n i o cs)
 rw [hE]
 unfold chkT at hE
 have hNl:cs.length≤1954687338268:=by obtain ⟨_,_,_,_,_,_,_,h⟩:=hS; exact h
 clear kT hS
 obtain ⟨g0,g1,g2,g3⟩:=HK.out W1 (Below.refl _ _)
 rw [hW1] at g0 g1 g2 g3
 by_cases qn0:n < 1
 ·have dn0:decide ((n:Int) < 1)=true:=decide_eq_true qn0
  rw [if_pos (by omega)] at hE
  replace hE:=Lib.hid hE
  clear qn0
  go_enter Tryz.func82, Tryz.ntmps82
  go_wp2
  go_ret
  exact ⟨ret_int hE.out,by rw [← hW1]; exact hb1⟩
 have dn0:decide ((n:Int) < 1)=false:=decide_eq_false qn0
 by_cases qn1:5 < n
 ·have dn1:decide ((5:Int) < n)=true:=decide_eq_true qn1
  rw [if_pos (by omega)] at hE
  replace hE:=Lib.hid hE
  clear qn1
  clear qn0
  go_enter Tryz.func82, Tryz.ntmps82
  go_wp2
  go_ret
  exact ⟨ret_int hE.out,by rw [← hW1]; exact hb1⟩
 have dn1:decide ((5:Int) < n)=false:=decide_eq_false qn1
 by_cases qi0:i < 1
 ·have di0:decide ((i:Int) < 1)=true:=decide_eq_true qi0
  rw [if_pos (by omega)] at hE
  replace hE:=Lib.hid hE
  clear qi0
  clear qn0 qn1
  go_enter Tryz.func82, Tryz.ntmps82
  go_wp2
  go_ret
  exact ⟨ret_int hE.out,by rw [← hW1]; exact hb1⟩
 have di0:decide ((i:Int) < 1)=false:=decide_eq_false qi0
 by_cases qi1:8 < i
 ·have di1:decide ((8:Int) < i)=true:=decide_eq_true qi1
  rw [if_pos (by omega)] at hE
  replace hE:=Lib.hid hE
  clear qi1
  clear qn0 qn1 qi0
  go_enter Tryz.func82, Tryz.ntmps82
  go_wp2
  go_ret
  exact ⟨ret_int hE.out,by rw [← hW1]; exact hb1⟩
 have di1:decide ((8:Int) < i)=false:=decide_eq_false qi1
 by_cases qo0:o < 1
 ·have do0:decide ((o:Int) < 1)=true:=decide_eq_true qo0
  rw [if_pos (by omega)] at hE
  replace hE:=Lib.hid hE
  clear qo0
  clear qn0 qn1 qi0 qi1
  go_enter Tryz.func82, Tryz.ntmps82
  go_wp2
  go_ret
  exact ⟨ret_int hE.out,by rw [← hW1]; exact hb1⟩
 have do0:decide ((o:Int) < 1)=false:=decide_eq_false qo0
 by_cases qo1:8 < o
 ·have do1:decide ((8:Int) < o)=true:=decide_eq_true qo1
  rw [if_pos (by omega)] at hE
  replace hE:=Lib.hid hE
  clear qo1
  clear qn0 qn1 qi0 qi1 qo0
  go_enter Tryz.func82, Tryz.ntmps82
  go_wp2
  go_ret
  exact ⟨ret_int hE.out,by rw [← hW1]; exact hb1⟩
 have do1:decide ((8:Int) < o)=false:=decide_eq_false qo1
 rw [if_neg (by omega)] at hE
 clear qn0 qn1 qi0 qi1 qo0 qo1
 by_cases qe0:cs.length < 1
 ·have de0:decide ((cs.length:Int) < 1)=true:=decide_eq_true (by omega)
  rw [if_pos (by omega)] at hE
  replace hE:=Lib.hid hE
  go_enter Tryz.func82, Tryz.ntmps82
  go_wp2
  go_ret
  exact ⟨ret_int hE.out,by rw [← hW1]; exact hb1⟩
 have de0:decide ((cs.length:Int) < 1)=false:=decide_eq_false (by omega)
 by_cases qe1:1024 < cs.length
 ·have de1:decide ((1024:Int) < (cs.length:Int))=true:=decide_eq_true (by omega)
  rw [if_pos (by omega)] at hE
  replace hE:=Lib.hid hE
  go_enter Tryz.func82, Tryz.ntmps82
  go_wp2
  go_ret
  exact ⟨ret_int hE.out,by rw [← hW1]; exact hb1⟩
 have de1:decide ((1024:Int) < (cs.length:Int))=false:=decide_eq_false (by omega)
 rw [if_neg (by omega)] at hE
 have hlb:cs.length≤1024:=by omega
 have s1:Hid (firstE (caseE n i o cs) (cs.length - 0) 0=E):=hE
 clear hE qe0 qe1
 go_enter Tryz.func82, Tryz.ntmps82
 go_wp2_with fail
 rw [← hW1]
 replace hW1:=Lib.hid hW1
 clear g0 g1 g2 g3 dn0 dn1 di0 di1 do0 do1 de0 de1
 go_loopw [3] (fun iv wr=>∃ k:Nat,iv = .int .i64 k∧k≤cs.length∧Hid (firstE (caseE n i o cs) (cs.length - k) k=E)∧Below W1.heap.size W1 wr) (fun iv _=>cs.length - (intOf iv).toNat)
 case atStart=>exact ⟨0,rfl,by omega,s1,Below.refl _ _⟩
 case round=>
  clear s1
  obtain ⟨k,rfl,hk,ht,hbr⟩:=hrel
  obtain ⟨g0,g1,g2,g3⟩:=HK.out wr hbr
  by_cases hlt:k < cs.length
  ·have ht1:=ht.out
   rw [show cs.length - k=(cs.length - (k+1))+1 by omega] at ht1
   have HV:=refOneC (HT.out wr (btt hb1 hbr)) hlt
   obtain ⟨z,hz⟩:=exE (caseE n i o cs k)
   rw [hz] at HV
   replace HV:=Lib.hid HV
   clear ht
   by_cases hz0:z=0
   ·have hn:=Lib.hid (firstE_step ht1 (by rw [hz,hz0]))
    subst hz0
    clear ht1 hz
    go_wp2_with fail
    refine HV.out.mono ?_
    rintro e w2 ⟨rfl,hb2⟩
    have hbf:=btt hbr hb2
    go_wp2_with fail
    go_roundw
    case rel=>exact ⟨k+1,by go_num,hlt,hn,hbf⟩
    case measure=>simp [intOf]; omega
   ·have hn:=firstE_stop ht1 (by rw [hz]; exact hz0)
    rw [hz] at hn
    replace hn:=Lib.hid hn
    have hz1:(z != 0)=true:=by simpa using hz0
    clear ht1 hz
    go_wp2_with fail
    refine HV.out.mono ?_
    rintro e w2 ⟨rfl,hb2⟩
    have hbf:=btt hb1 (btt hbr hb2)
    go_wp2_with fail
    go_ret
    exact ⟨ret_int hn.out,hbf⟩
  ·have hE0:Hid ((0:Int)=E):=by
    have:=ht.out
    rw [show cs.length - k=0 by omega] at this
    exact this
   have hbf:=btt hb1 hbr
   clear ht
   go_wp2_with fail
   go_ret
   exact ⟨ret_int hE0.out,hbf⟩
def fewV (l:List (List Int)):Bool:=decide (l.length≤30) && l.all (fun x=>decide (x.length≤10))
def fewC (c:Cs):Bool:=decide (c.1.length≤10) && (fewV c.2.1 && fewV c.2.2)
def fewT (cs:List Cs):Bool:=decide (cs.length≤30) && cs.all fewC
theorem drop_consD {α:Type} {xs:List α} {i:Nat} {d x:α} (h:i < xs.length) (hx:xs.getD i d=x):xs.drop i=x::xs.drop (i+1):=by
 rw [List.drop_eq_getElem_cons h,← hx,getD_eq h]
theorem refFewV {w:World} {u:Value} {l:List (List Int)} (hx:Intss w u l) :
  Calls Tryz.prog 112 #[u,.int .i64 30] w fun e w'=>e = .returned (.bool (fewV l))∧w'=w:=by
 obtain ⟨xa,xc,xb,xo,rfl,hxa,hxc,hxl⟩:=hx
 unfold fewV
 by_cases hn:l.length≤30
 ·rw [decide_eq_true hn,Bool.true_and]
  have dn:decide ((30:Int) < (l.length:Int))=false:=decide_eq_false (by omega)
  obtain ⟨A,hA⟩:∃ A,(l.all fun x=>decide (x.length≤10))=A:=⟨_,rfl⟩
  rw [hA]
  have h0:Hid (((l.drop 0).all fun x=>decide (x.length≤10))=A):=hA
  replace hxc:=Lib.hid hxc
  clear hA
  go_enter Tryz.func112, Tryz.ntmps112
  go_wp2_with fail
  clear dn
  go_loopw [5] (fun iv wr=>∃ k:Nat,iv = .int .i64 k∧k≤l.length∧Hid (((l.drop k).all fun x=>decide (x.length≤10))=A)∧wr=w) (fun iv _=>l.length - (intOf iv).toNat)
  case atStart=>exact ⟨0,rfl,by omega,h0,rfl⟩
  case round=>
   clear h0
   obtain ⟨k,rfl,hk,ht,rfl⟩:=hrel
   by_cases hlt:k < l.length
   ·obtain rfl:=hxa (by omega)
    obtain ⟨u,cu,hu⟩:=hxc.out k hlt
    obtain ⟨x,hx⟩:=exE (l.getD k [])
    rw [hx] at hu
    have ht2:=ht.out
    rw [drop_consD hlt hx,List.all_cons] at ht2
    obtain ⟨ua,uc,hs⟩:=hu.shape
    subst hs
    clear hu hx ht
    by_cases h10:x.length≤10
    ·rw [decide_eq_true h10,Bool.true_and] at ht2
     replace ht2:=Lib.hid ht2
     have d1:decide ((10:Int) < (x.length:Int))=false:=decide_eq_false (by omega)
     go_wp2_with fail
     go_roundw
     case rel=>exact ⟨k+1,by go_num,hlt,ht2,by first | rfl | trivial⟩
     case measure=>simp [intOf]; omega
    ·rw [decide_eq_false h10,Bool.false_and] at ht2
     subst ht2
     have d1:decide ((10:Int) < (x.length:Int))=true:=decide_eq_true (by omega)
     go_wp2_with fail
     go_ret
     exact ⟨rfl,rfl⟩
   ·have hE:true=A:=by
     have:=ht.out
     rw [List.drop_eq_nil_of_le (by omega)] at this
     exact this
    clear ht
    subst hE
    go_wp2_with fail
    go_ret
    exact ⟨rfl,rfl⟩
 ·rw [decide_eq_false hn,Bool.false_and]
  have dn:decide ((30:Int) < (l.length:Int))=true:=decide_eq_true (by omega)
  clear hxc hn
  go_enter Tryz.func112, Tryz.ntmps112
  go_wp2
  go_ret
  exact ⟨rfl,rfl⟩
theorem refFewT {w:World} {v:Value} {n i o:Int} {cs:List Cs} (h:TaskV w v n i o cs) :
  Calls Tryz.prog 75 #[v] w fun e w'=>e = .returned (.bool (fewT cs))∧Below w.heap.size w w':=by
 obtain ⟨sv,rfl,hS⟩:=h
 obtain ⟨sa,sc,hs⟩:=hS.shape
 subst hs
 obtain ⟨W1,hW1⟩:=exF (w.alloc (.cells #[.int .i64 n,.int .i64 i,.int .i64 o,.slice sa cs.length sc] 64))
 have hb1:Below w.heap.size w W1:=by rw [hW1]; exact (Below.refl _ w).alloc (Nat.le_refl _) _
 have kT:W1.heap[w.heap.size]? = some (.cells #[.int .i64 n,.int .i64 i,.int .i64 o,.slice sa cs.length sc] 64):=by rw [hW1]; exact heap_alloc_new _ _
 have HK:=Lib.hid (fun W (hb:Below W1.heap.size W1 W)=>keep4 hb (box4' kT))
 have HS:=Lib.hid (fun W (hb:Below W1.heap.size W1 W)=>(hS.keep hb1).keep hb)
 clear kT hS
 obtain ⟨g0,g1,g2,g3⟩:=HK.out W1 (Below.refl _ _)
 rw [hW1] at g0 g1 g2 g3
 unfold fewT
 by_cases hn:cs.length≤30
 ·rw [decide_eq_true hn,Bool.true_and]
  have dn:decide ((30:Int) < (cs.length:Int))=false:=decide_eq_false (by omega)
  obtain ⟨A,hA⟩:=exE (cs.all fewC)
  rw [hA]
  have h0:Hid ((cs.drop 0).all fewC=A):=hA
  clear hA
  go_enter Tryz.func75, Tryz.ntmps75
  go_wp2_with fail
  rw [← hW1]
  replace hW1:=Lib.hid hW1
  clear dn g0 g1 g2 g3
  go_loopw [3] (fun iv wr=>∃ k:Nat,iv = .int .i64 k∧k≤cs.length∧Hid ((cs.drop k).all fewC=A)∧Below W1.heap.size W1 wr) (fun iv _=>cs.length - (intOf iv).toNat)
  case atStart=>exact ⟨0,rfl,by omega,h0,Below.refl _ _⟩
  case round=>
   clear h0
   obtain ⟨k,rfl,hk,ht,hbr⟩:=hrel
   obtain ⟨g0,g1,g2,g3⟩:=HK.out wr hbr
   by_cases hlt:k < cs.length
   ·obtain ⟨b,off,rfl,hc⟩:=(HS.out wr hbr).at (by omega)
    obtain ⟨u0,u1,u2,c0,c1,c2,i0,i1,i2⟩:=hc k hlt
    obtain ⟨c,hcc⟩:=exE (cs.getD k csNil)
    rw [hcc] at i0 i1 i2
    have ht2:=ht.out
    rw [drop_consD hlt hcc,List.all_cons] at ht2
    obtain ⟨l0,l1,l2⟩:=c
    simp only at i0 i1 i2
    obtain ⟨x0,y0,hs⟩:=i0.shape
    subst hs
    obtain ⟨x1,y1,hs⟩:=i1.shape
    subst hs
    obtain ⟨x2,y2,hs⟩:=i2.shape
    subst hs
    obtain ⟨W2,hW2⟩:=exF (wr.alloc (.cells #[.slice x0 l0.length y0,.slice x1 l1.length y1,.slice x2 l2.length y2] 128))
    have hb2:Below wr.heap.size wr W2:=by rw [hW2]; exact (Below.refl _ _).alloc (Nat.le_refl _) _
    have kC:W2.heap[wr.heap.size]? = some (.cells #[.slice x0 l0.length y0,.slice x1 l1.length y1,.slice x2 l2.length y2] 128):=by rw [hW2]; exact heap_alloc_new _ _
    obtain ⟨r0,r1,r2⟩:=box3' kC
    have s0:=r0
    have s1:=r1
    have s2:=r2
    rw [hW2] at r0 r1 r2
    have F1:=Lib.hid (refFewV (i1.keep hb2))
    have F2:=Lib.hid (refFewV (i2.keep hb2))
    have hbf:=btt hbr hb2
    have hbg:=btt hb1 hbf
    clear i0 i1 i2 hcc ht kC hc
    unfold fewC at ht2
    simp only at ht2
    obtain ⟨P1,hP1⟩:=exE (fewV l1)
    obtain ⟨P2,hP2⟩:=exE (fewV l2)
    rw [hP1] at F1 ht2
    rw [hP2] at F2 ht2
    clear hP1 hP2
    by_cases h10:l0.length≤10
    ·have d1:decide ((10:Int) < (l0.length:Int))=false:=decide_eq_false (by omega)
     rw [decide_eq_true h10,Bool.true_and] at ht2
     cases P1
     ·rw [Bool.false_and,Bool.false_and] at ht2
      subst ht2
      go_wp2_with fail
      rw [← hW2]
      replace hW2:=Lib.hid hW2
      refine F1.out.mono ?_
      rintro e w3 ⟨rfl,rfl⟩
      go_wp2_with fail
      go_ret
      exact ⟨rfl,hbg⟩
     ·rw [Bool.true_and] at ht2
      cases P2
      ·rw [Bool.false_and] at ht2
       subst ht2
       go_wp2_with fail
       rw [← hW2]
       replace hW2:=Lib.hid hW2
       refine F1.out.mono ?_
       rintro e w3 ⟨rfl,rfl⟩
       go_wp2_with fail
       refine F2.out.mono ?_
       rintro e w3 ⟨rfl,rfl⟩
       go_wp2_with fail
       go_ret
       exact ⟨rfl,hbg⟩
      ·rw [Bool.true_and] at ht2
       replace ht2:=Lib.hid ht2
       go_wp2_with fail
       rw [← hW2]
       replace hW2:=Lib.hid hW2
       refine F1.out.mono ?_
       rintro e w3 ⟨rfl,rfl⟩
       go_wp2_with fail
       refine F2.out.mono ?_
       rintro e w3 ⟨rfl,rfl⟩
       go_wp2_with fail
       go_roundw
       case rel=>exact ⟨k+1,by go_num,hlt,ht2,hbf⟩
       case measure=>simp [intOf]; omega
    ·have d1:decide ((10:Int) < (l0.length:Int))=true:=decide_eq_true (by omega)
     rw [decide_eq_false h10,Bool.false_and,Bool.false_and] at ht2
     subst ht2
     go_wp2_with fail
     go_ret
     exact ⟨rfl,by rw [← hW2]; exact hbg⟩
   ·have hE:true=A:=by
     have:=ht.out
     rw [List.drop_eq_nil_of_le (by omega)] at this
     exact this
    have hbg:=btt hb1 hbr
    clear ht
    subst hE
    go_wp2_with fail
    go_ret
    exact ⟨rfl,hbg⟩
 ·rw [decide_eq_false hn,Bool.false_and]
  have dn:decide ((30:Int) < (cs.length:Int))=true:=decide_eq_true (by omega)
  clear hn
  go_enter Tryz.func75, Tryz.ntmps75
  go_wp2
  go_ret
  exact ⟨rfl,by rw [← hW1]; exact hb1⟩
end Go.Proofs.YtmikofeildnpdaaGreat

/- roundtableref11.SameVectors, Same; roundtableref21.Few, Check. -/
namespace Go.Proofs.YtmikofeildnpdaaGreat
open Go.RowKit
theorem refSameV {w:World} {u v:Value} {xs ys:List (List Int)} (hx:Intss w u xs) (hy:Intss w v ys) :
  Calls Tryz.prog 84 #[u,v] w fun e w'=>e = .returned (.bool (decide (xs=ys)))∧Below w.heap.size w w':=by
 have hmx : Tryz.prog.follows .mixedOrders=true:=by kernel_rfl
 obtain ⟨xa,xc,xb,xo,rfl,hxa,hxc,hxn⟩:=hx
 obtain ⟨ya,yc,yb,yo,rfl,hya,hyc,_⟩:=hy
 obtain ⟨B,hB⟩:∃ B,decide (xs=ys)=B:=⟨_,rfl⟩
 rw [hB]
 replace hxc:=Lib.hid hxc
 replace hyc:=Lib.hid hyc
 by_cases hlen:xs.length=ys.length
 ·rw [← hlen]
  replace hB:=Lib.hid hB
  replace hlen:=Lib.hid hlen
  have h0:Hid (xs.take 0=ys.take 0):=rfl
  go_enter Tryz.func84, Tryz.ntmps84
  go_wp2_with fail
  go_loopw [5] (fun iv wr=>∃ i:Nat,iv = .int .i64 (i:Int)∧i≤xs.length∧Hid (xs.take i=ys.take i)∧Hid (Below w.heap.size w wr)) (fun iv _=>xs.length - (intOf iv).toNat)
  case atStart=>exact ⟨0,rfl,by omega,h0,Below.refl _ w⟩
  case round=>
   clear h0
   obtain ⟨i,rfl,hi,ht,hb⟩:=hrel
   by_cases hlt:i < xs.length
   ·have hltI:(i:Int) < (xs.length:Int):=by omega
    obtain rfl:=hxa (by omega)
    obtain rfl:=hya (by rw [← hlen.out]; omega)
    have hlt':i < ys.length:=by rw [← hlen.out]; exact hlt
    obtain ⟨u0,k0,i0⟩:=hxc.out i hlt
    obtain ⟨v0,l0,j0⟩:=hyc.out i hlt'
    obtain ⟨x,hx⟩:=exE (xs.getD i [])
    obtain ⟨y,hy⟩:=exE (ys.getD i [])
    rw [hx] at i0
    rw [hy] at j0
    have hS:=Lib.hid (fun W (h:Below wr.heap.size wr W)=>And.intro (cell_kept (btt hb.out h) k0) (cell_kept (btt hb.out h) l0))
    have HO:=fun W (h:Below wr.heap.size wr W)=>refOrderC (i0.keep (btt hb.out h)) (j0.keep (btt hb.out h))
    obtain ⟨Z,hZ⟩:=exE (cmpL x y)
    simp only [hZ] at HO
    replace HO:=Lib.hid HO
    obtain ⟨xu,xv,rfl⟩:=i0.shape
    obtain ⟨yu,yv,rfl⟩:=j0.shape
    clear k0 l0 i0 j0
    go_upto_region 6 with fail
    refine wp_region_bw hmx (by kernel_rfl) ?_
    (refine WQ.step (fun K hK => ?_)
     go_simp
     first
       | (refine hK _ ?_; clear hK K)
       | (apply Exists.intro
          refine ⟨fun wq hC => ?_, hK _ ?_⟩
          · (with_reducible rfl)
          clear hK K))
    (refine WQ.step (fun K hK => ?_)
     go_simp
     first
       | (refine hK _ ?_; clear hK K)
       | (apply Exists.intro
          refine ⟨fun wq hC => ?_, hK _ ?_⟩
          · (with_reducible rfl)
          clear hK K))
    (refine WQ.step (fun K hK => ?_)
     go_simp
     first
       | (refine hK _ ?_; clear hK K)
       | (apply Exists.intro
          refine ⟨fun wq hC => ?_, hK _ ?_⟩
          · (go_simp; first | done | with_reducible rfl | with_reducible exact ⟨rfl,rfl⟩)
          clear hK K))
    (refine WQ.step (fun K hK => ?_)
     go_simp
     first
       | (refine hK _ ?_; clear hK K)
       | (apply Exists.intro
          refine ⟨fun wq hC => ?_, hK _ ?_⟩
          · (obtain ⟨z0,z1⟩:=hS.out wq hC; go_simp; first | done | with_reducible rfl | with_reducible exact ⟨rfl,rfl⟩)
          clear hK K))
    (refine WQ.step (fun K hK => ?_)
     go_simp
     first
       | (refine hK _ ?_; clear hK K)
       | (apply Exists.intro
          refine ⟨fun wq hC => ?_, hK _ ?_⟩
          · (with_reducible rfl)
          clear hK K))
    (refine WQ.step (fun K hK => ?_)
     go_simp
     first
       | (refine hK _ ?_; clear hK K)
       | (apply Exists.intro
          refine ⟨fun wq hC => ?_, hK _ ?_⟩
          · (with_reducible rfl)
          clear hK K))
    (refine WQ.step (fun K hK => ?_)
     go_simp
     first
       | (refine hK _ ?_; clear hK K)
       | (apply Exists.intro
          refine ⟨fun wq hC => ?_, hK _ ?_⟩
          · (go_simp; first | done | with_reducible rfl | with_reducible exact ⟨rfl,rfl⟩)
          clear hK K))
    (refine WQ.step (fun K hK => ?_)
     go_simp
     first
       | (refine hK _ ?_; clear hK K)
       | (apply Exists.intro
          refine ⟨fun wq hC => ?_, hK _ ?_⟩
          · (obtain ⟨z0,z1⟩:=hS.out wq hC; go_simp; first | done | with_reducible rfl | with_reducible exact ⟨rfl,rfl⟩)
          clear hK K))
    (refine WQ.step (fun K hK => ?_)
     go_simp
     first
       | (refine hK _ ?_; clear hK K)
       | (apply Exists.intro
          refine ⟨fun wq hC => ?_, hK _ ?_⟩
          · (refine (HO.out wq hC).mono ?_; rintro e w' ⟨rfl,hb⟩; exact ⟨rfl,bt hC hb.below hC.size⟩)
          clear hK K))
    (refine WQ.step (fun K hK => ?_)
     go_simp
     first
       | (refine hK _ ?_; clear hK K)
       | (apply Exists.intro
          refine ⟨fun wq hC => ?_, hK _ ?_⟩
          · (go_simp; first | done | with_reducible rfl | with_reducible exact ⟨rfl,rfl⟩)
          clear hK K))
    refine WQ.nil ?_
    intro w4 hb4
    have hbf:Hid (Below w.heap.size w w4):=btt hb.out hb4
    clear hS HO
    by_cases hz:Z=0
    ·subst hz
     have hxy:=cmpL_zero.1 hZ
     have ht2:Hid (xs.take (i+1)=ys.take (i+1)):=by
      show _=_
      rw [take_snoc hlt [],take_snoc hlt' [],ht.out,hx,hy,hxy]
     replace hx:=Lib.hid hx
     replace hy:=Lib.hid hy
     replace hxy:=Lib.hid hxy
     clear hZ ht
     go_wp2_with fail
     go_roundw
     case rel=>exact ⟨i+1,by go_num,by omega,ht2,hbf⟩
     case measure=>simp [intOf]; omega
    ·have hzb:(Z != 0)=true:=by simp [hz]
     have hBf:B=false:=by
      rw [← hB.out]
      refine decide_eq_false fun e=>hz ?_
      rw [← hZ,← hx,← hy,e,cmpL_self]
     subst hBf
     clear hx hy hZ ht
     go_wp2
     go_ret
     exact ⟨rfl,hbf.out⟩
   ·obtain rfl:i=xs.length:=by omega
    have hBt:B=true:=by
     rw [← hB.out]
     refine decide_eq_true ?_
     have:=ht.out
     rwa [List.take_length,hlen.out,List.take_length] at this
    subst hBt
    clear ht
    go_wp2
    go_ret
    exact ⟨rfl,hb.out⟩
 ·have hBf:B=false:=by
   rw [← hB]
   exact decide_eq_false fun e=>hlen (by rw [e])
  subst hBf
  have hnb:((xs.length:Int) != (ys.length:Int))=true:=by simp; omega
  clear hB hxa hya
  go_enter Tryz.func84, Tryz.ntmps84
  go_wp2
  go_ret
  exact ⟨rfl,Below.refl _ w⟩
theorem refSameT {w:World} {u v:Value} {n i o:Int} {xs ys:List Cs} (hx:TaskV w u n i o xs) (hy:TaskV w v n i o ys) :
  Calls Tryz.prog 42 #[u,v] w fun e w'=>e = .returned (.bool (decide (xs=ys)))∧Below w.heap.size w w':=by
 obtain ⟨su,rfl,hu⟩:=hx
 obtain ⟨sv,rfl,hv⟩:=hy
 have hxn:xs.length≤1954687338268:=by obtain ⟨_,_,_,_,_,_,_,h⟩:=hu; exact h
 obtain ⟨ua,uc,hsu⟩:=hu.shape
 obtain ⟨va,vc,hsv⟩:=hv.shape
 subst hsu hsv
 obtain ⟨W1,hW1⟩:=exF ((w.alloc (.cells #[.int .i64 n,.int .i64 i,.int .i64 o,.slice ua xs.length uc] 64)).alloc (.cells #[.int .i64 n,.int .i64 i,.int .i64 o,.slice va ys.length vc] 64))
 have hb1:Below w.heap.size w W1:=by rw [hW1]; exact ((Below.refl _ w).alloc (Nat.le_refl _) _).alloc (by simp) _
 have m2:W1.heap[w.heap.size]? = some (.cells #[.int .i64 n,.int .i64 i,.int .i64 o,.slice ua xs.length uc] 64):=by rw [hW1]; exact (Below.heap_alloc _ _ _ (by simp)).trans (heap_alloc_new _ _)
 have m3:W1.heap[w.heap.size+1]? = some (.cells #[.int .i64 n,.int .i64 i,.int .i64 o,.slice va ys.length vc] 64):=by
  have h:=heap_alloc_new (w.alloc (.cells #[.int .i64 n,.int .i64 i,.int .i64 o,.slice ua xs.length uc] 64)) (.cells #[.int .i64 n,.int .i64 i,.int .i64 o,.slice va ys.length vc] 64)
  rw [World.size_alloc] at h
  rw [hW1]; exact h
 have hK:=Lib.hid (fun W (hb:Below W1.heap.size W1 W)=>And.intro (keep4 hb (box4' m2)) (keep4 hb (box4' m3)))
 have hu1:=Lib.hid (fun W (hb:Below W1.heap.size W1 W)=>(hu.keep hb1).keep hb)
 have hv1:=Lib.hid (fun W (hb:Below W1.heap.size W1 W)=>(hv.keep hb1).keep hb)
 obtain ⟨⟨p0,p1,p2,p3⟩,q0,q1,q2,q3⟩:=hK.out W1 (Below.refl _ _)
 have en:(n != n)=false:=by simp
 have ei:(i != i)=false:=by simp
 have eo:(o != o)=false:=by simp
 obtain ⟨B,hB⟩:∃ B,decide (xs=ys)=B:=⟨_,rfl⟩
 rw [hB]
 clear hu hv m2 m3
 by_cases hlen:xs.length=ys.length
 ·rw [← hlen] at q3
  have hl0:((xs.length:Int) != (xs.length:Int))=false:=by simp
  replace hB:=Lib.hid hB
  rw [← hlen] at hW1 hK ⊢
  replace hlen:=Lib.hid hlen
  have h0:Hid (xs.take 0=ys.take 0):=rfl
  go_enter Tryz.func42, Tryz.ntmps42
  go_wp2_with fail
  rw [← hW1]
  replace hW1:=Lib.hid hW1
  go_loopw [5] (fun iv wr=>∃ k:Nat,iv = .int .i64 (k:Int)∧k≤xs.length∧Hid (xs.take k=ys.take k)∧Hid (Below W1.heap.size W1 wr)) (fun iv _=>xs.length - (intOf iv).toNat)
  case atStart=>exact ⟨0,rfl,Nat.zero_le _,h0,Below.refl _ _⟩
  case round=>
   clear h0 p0 p1 p2 p3 q0 q1 q2 q3
   obtain ⟨k,rfl,hk,ht,hbr⟩:=hrel
   obtain ⟨⟨p0,p1,p2,p3⟩,q0,q1,q2,q3⟩:=hK.out wr hbr.out
   clear p0 p1 p2 q0 q1 q2
   by_cases hlt:k < xs.length
   ·have hltI:(k:Int) < (xs.length:Int):=by omega
    have hlt':k < ys.length:=by rw [← hlen.out]; exact hlt
    obtain ⟨xb,xo,rfl,hxc⟩:=(hu1.out wr hbr.out).at (by omega)
    obtain ⟨yb,yo,rfl,hyc⟩:=(hv1.out wr hbr.out).at (by omega)
    obtain ⟨u0,u1,u2,c0,c1,c2,i0,i1,i2⟩:=hxc k hlt
    obtain ⟨v0,v1,v2,d0,d1,d2,j0,j1,j2⟩:=hyc k hlt'
    obtain ⟨x,hx⟩:=exE (xs.getD k csNil)
    obtain ⟨y,hy⟩:=exE (ys.getD k csNil)
    rw [hx] at i0 i1 i2
    rw [hy] at j0 j1 j2
    have ht2:Hid (x=y→xs.take (k+1)=ys.take (k+1)):=fun e=>by rw [take_snoc hlt csNil,take_snoc hlt' csNil,ht.out,hx,hy,e]
    have hBn:Hid (x ≠ y→B=false):=fun e=>by
     rw [← hB.out]
     refine decide_eq_false fun h=>e ?_
     rw [← hx,← hy,h]
    have H0:=fun W (h:Below wr.heap.size wr W)=>refOrderC (i0.keep h) (j0.keep h)
    have H1:=fun W (h:Below wr.heap.size wr W)=>refSameV (i1.keep h) (j1.keep h)
    have H2:=fun W (h:Below wr.heap.size wr W)=>refSameV (i2.keep h) (j2.keep h)
    obtain ⟨Z,hZ⟩:=exE (cmpL x.1 y.1)
    obtain ⟨P,hP⟩:∃ P,decide (x.2.1=y.2.1)=P:=⟨_,rfl⟩
    obtain ⟨Q,hQ⟩:∃ Q,decide (x.2.2=y.2.2)=Q:=⟨_,rfl⟩
    simp only [hZ] at H0
    simp only [hP] at H1
    simp only [hQ] at H2
    have hcs:x=y↔Z=0∧P=true∧Q=true:=by
     rw [← hP,← hQ,← hZ,decide_eq_true_eq,decide_eq_true_eq]
     constructor
     ·rintro rfl; exact ⟨cmpL_self _,rfl,rfl⟩
     ·rintro ⟨e1,e2,e3⟩; exact Prod.ext (cmpL_zero.1 e1) (Prod.ext e2 e3)
    replace H0:=Lib.hid H0
    replace H1:=Lib.hid H1
    replace H2:=Lib.hid H2
    obtain ⟨xa0,xl0,rfl⟩:=i0.shape
    obtain ⟨xa1,xl1,rfl⟩:=i1.shape
    obtain ⟨xa2,xl2,rfl⟩:=i2.shape
    obtain ⟨ya0,yl0,rfl⟩:=j0.shape
    obtain ⟨ya1,yl1,rfl⟩:=j1.shape
    obtain ⟨ya2,yl2,rfl⟩:=j2.shape
    replace hcs:=Lib.hid hcs
    clear hx hy hZ hP hQ i0 i1 i2 j0 j1 j2 hxc hyc ht
    go_upto_region 6 with fail
    refine regSame6 p3 q3 hltI hltI c0 c1 c2 d0 d1 d2 ?_
    intro y10 y11 _ _ W5 hG5 _ _ _ _
    obtain ⟨hb5,-,h65,-,h75,-⟩:=hG5
    obtain ⟨b6,rfl,hb6,k6⟩:=h65 rfl
    obtain ⟨b7,rfl,hb7,k7⟩:=h75 rfl
    have hS:=Lib.hid (fun W (h:Below W5.heap.size W5 W)=>And.intro (boxL3 ((h.block _ (Array.getElem?_eq_some_iff.1 k6).1).trans k6)) (boxL3 ((h.block _ (Array.getElem?_eq_some_iff.1 k7).1).trans k7)))
    obtain ⟨⟨r0,r1,r2⟩,s0,s1,s2⟩:=hS.out W5 (Below.refl _ _)
    have hbW5:=btt hbr.out hb5
    clear p3 q3 c0 c1 c2 d0 d1 d2 h65 h75 k6 k7
    go_wp2_with fail
    refine (H0.out W5 hb5).mono ?_
    rintro e W6 ⟨rfl,hq6⟩
    have hb6':=hq6.below
    have hbr6:=btt hb5 hb6'
    have hbW6:=btt hbW5 hb6'
    clear r0 r1 r2 s0 s1 s2 hq6
    obtain ⟨⟨r0,r1,r2⟩,s0,s1,s2⟩:=hS.out W6 hb6'
    by_cases hz:Z=0
    ·subst hz
     go_wp2_with fail
     refine (H1.out W6 hbr6).mono ?_
     rintro e W7 ⟨rfl,hq7⟩
     have hbr7:=btt hbr6 hq7
     have hbW7:=btt hbW6 hq7
     have hb57:=btt hb6' hq7
     clear r0 r1 r2 s0 s1 s2
     obtain ⟨⟨r0,r1,r2⟩,s0,s1,s2⟩:=hS.out W7 hb57
     cases P with
     | true=>
      go_wp2_with fail
      refine (H2.out W7 hbr7).mono ?_
      rintro e W8 ⟨rfl,hq8⟩
      have hbW8:Hid (Below W1.heap.size W1 W8):=btt hbW7 hq8
      clear r0 r1 r2 s0 s1 s2
      cases Q with
      | true=>
       have ht3:Hid (xs.take (k+1)=ys.take (k+1)):=ht2.out (hcs.out.2 (by simp))
       clear hBn
       go_wp2_with fail
       go_roundw
       case rel=>exact ⟨k+1,by go_num,by omega,ht3,hbW8⟩
       case measure=>simp [intOf]; omega
      | false=>
       have hBf:=hBn.out (fun e=>by have:=(hcs.out.1 e).2.2; cases this)
       subst hBf
       have hfin:=bt hb1 hbW8.out hb1.size
       go_wp2
       go_ret
       exact ⟨rfl,hfin⟩
     | false=>
      have hBf:=hBn.out (fun e=>by have:=(hcs.out.1 e).2.1; cases this)
      subst hBf
      have hfin:=bt hb1 hbW7 hb1.size
      go_wp2
      go_ret
      exact ⟨rfl,hfin⟩
    ·have hzb:(Z != 0)=true:=by simp [hz]
     have hBf:=hBn.out (fun e=>hz (hcs.out.1 e).1)
     subst hBf
     have hfin:=bt hb1 hbW6 hb1.size
     go_wp2
     go_ret
     exact ⟨rfl,hfin⟩
   ·obtain rfl:k=xs.length:=by omega
    have hBt:B=true:=by
     rw [← hB.out]
     refine decide_eq_true ?_
     have:=ht.out
     rwa [List.take_length,hlen.out,List.take_length] at this
    subst hBt
    have hfin:=bt hb1 hbr.out hb1.size
    clear ht
    go_wp2
    go_ret
    exact ⟨rfl,hfin⟩
 ·have hBf:B=false:=by
   rw [← hB]
   exact decide_eq_false fun e=>hlen (by rw [e])
  subst hBf
  have hnb:((xs.length:Int) != (ys.length:Int))=true:=by simp; omega
  clear hB hK hu1 hv1
  rw [hW1] at p0 p1 p2 p3 q0 q1 q2 q3
  go_enter Tryz.func42, Tryz.ntmps42
  go_wp2_with fail
  rw [← hW1]
  go_ret
  exact ⟨rfl,hb1⟩
end Go.Proofs.YtmikofeildnpdaaGreat

/- Problems: roundtableref21.Few, Check; symmetry.Problem. -/
namespace Go.Proofs.YtmikofeildnpdaaGreat
open Go.RowKit
theorem ECs.stabP:Stab 66 ECs:=fun _ _ _ _ ⟨u0,u1,u2,h,h0,h1,h2,hl⟩ hx=>⟨u0,u1,u2,h,ownsRow_X h0 (by decide) hx,h1.otherX (by decide) (by decide) hx,h2.otherX (by decide) (by decide) hx,hl⟩
def PrX (w:World) (v:Value) (n1 ins outs:Int) (cs:List Cs) (n2:Int) (ss:List (List (List Int))) (r:Int):Prop:=
 ∃ sa sc aa ac,v = .agg #[.int .i64 n1,.int .i64 ins,.int .i64 outs,.slice sa cs.length sc,.int .i64 n2,.slice aa ss.length ac,.int .i64 r]∧TaskV w (.agg #[.int .i64 n1,.int .i64 ins,.int .i64 outs,.slice sa cs.length sc]) n1 ins outs cs∧AdvC w (.agg #[.int .i64 n2,.slice aa ss.length ac]) n2 ss
theorem PrX.keep {w w':World} {v:Value} {n1 ins outs:Int} {cs:List Cs} {n2:Int} {ss:List (List (List Int))} {r:Int} (h:PrX w v n1 ins outs cs n2 ss r) (hb:Below w.heap.size w w'):PrX w' v n1 ins outs cs n2 ss r:=by
 obtain ⟨sa,sc,aa,ac,h1,h2,h3⟩:=h
 exact ⟨sa,sc,aa,ac,h1,h2.keep hb,h3.keep hb⟩
theorem PrX.prV {w:World} {v:Value} {n:Nat} {ins outs:Int} {cs:List Cs} {ss:List (List (List Int))} {r:Int} (h:PrX w v n ins outs cs n ss r):PrV w v n ins outs cs ss r:=by
 obtain ⟨sa,sc,aa,ac,h1,h2,h3⟩:=h
 exact ⟨_,_,h1,h2,h3⟩
def prE (n1 ins outs:Int) (cs:List Cs) (n2:Int) (ss:List (List (List Int))) (r:Int):Int:=
 if chkT n1 ins outs cs ≠ 0 then chkT n1 ins outs cs else if chkA n2 ss ≠ 0 then chkA n2 ss else if n1 ≠ n2 then 22 else if r < 0∨6 < r then 2 else 0
theorem prE_ok {n1 ins outs:Int} {cs:List Cs} {n2:Int} {ss:List (List (List Int))} {r:Int} (h:prE n1 ins outs cs n2 ss r=0):chkT n1 ins outs cs=0∧chkA n2 ss=0∧n1=n2∧0≤r∧r≤6:=by
 unfold prE at h
 split at h
 ·rename_i k; exact absurd h k
 ·rename_i k1
  split at h
  ·rename_i k; exact absurd h k
  ·rename_i k2
   split at h
   ·cases h
   ·rename_i k3
    split at h
    ·cases h
    ·rename_i k4
     exact ⟨Decidable.not_not.1 k1,Decidable.not_not.1 k2,Decidable.not_not.1 k3,by omega,by omega⟩
theorem boxPr {w:World} {n1 ins outs:Int} {cs:List Cs} {n2:Int} {ss:List (List (List Int))} {r:Int} {W1:World} {sa aa:Option Addr} {sc ac:Nat} (hW:W1=w.alloc (.cells #[.int .i64 n1,.int .i64 ins,.int .i64 outs,.slice sa cs.length sc,.int .i64 n2,.slice aa ss.length ac,.int .i64 r] 66)) :
  Below w.heap.size w W1∧W1.heap[w.heap.size]? = some (.cells #[.int .i64 n1,.int .i64 ins,.int .i64 outs,.slice sa cs.length sc,.int .i64 n2,.slice aa ss.length ac,.int .i64 r] 66):=by
 rw [hW]
 exact ⟨(Below.refl _ _).alloc (Nat.le_refl _) _,heap_alloc_new _ _⟩
theorem refFewP {w:World} {v:Value} {n1 ins outs:Int} {cs:List Cs} {n2:Int} {ss:List (List (List Int))} {r:Int} (h:PrX w v n1 ins outs cs n2 ss r) :
  Calls Tryz.prog 35 #[v] w fun e w'=>e = .returned (.bool (fewT cs && fewA ss))∧Below w.heap.size w w':=by
 obtain ⟨sa,sc,aa,ac,rfl,hT,hA⟩:=h
 obtain ⟨W1,hW1⟩:=exF (w.alloc (.cells #[.int .i64 n1,.int .i64 ins,.int .i64 outs,.slice sa cs.length sc,.int .i64 n2,.slice aa ss.length ac,.int .i64 r] 66))
 obtain ⟨hb1,m1⟩:=boxPr hW1
 have hK:=Lib.hid (fun W (hb:Below W1.heap.size W1 W)=>boxL7 ((hb.block _ (Array.getElem?_eq_some_iff.1 m1).1).trans m1))
 obtain ⟨p0,p1,p2,p3,p4,p5,p6⟩:=boxL7 m1
 have HT:=refFewT (hT.keep hb1)
 have HA:=fun W (hb:Below W1.heap.size W1 W)=>refFew ((hA.keep hb1).keep hb).adv
 obtain ⟨A,hAA⟩:=exE (fewT cs)
 obtain ⟨B,hBB⟩:=exE (fewA ss)
 rw [hAA] at HT
 simp only [hBB] at HA
 rw [hAA,hBB]
 replace HT:=Lib.hid HT
 replace HA:=Lib.hid HA
 clear hT hA m1 hAA hBB
 cases A
 ·go_enter Tryz.func35, Tryz.ntmps35
  go_wp2_with fail
  rw [← hW1]
  replace hW1:=Lib.hid hW1
  refine HT.out.mono ?_
  rintro e W2 ⟨rfl,hb2⟩
  have hf:=bt hb1 hb2 hb1.size
  clear p0 p1 p2 p3 p4 p5 p6 hK
  go_wp2
  go_ret
  exact ⟨rfl,hf⟩
 ·go_enter Tryz.func35, Tryz.ntmps35
  go_wp2_with fail
  rw [← hW1]
  replace hW1:=Lib.hid hW1
  refine HT.out.mono ?_
  rintro e W2 ⟨rfl,hb2⟩
  clear p0 p1 p2 p3 p4 p5 p6
  obtain ⟨p0,p1,p2,p3,p4,p5,p6⟩:=hK.out W2 hb2
  go_wp2_with fail
  refine (HA.out W2 hb2).mono ?_
  rintro e W3 ⟨rfl,hb3⟩
  have hf:=bt hb1 (btt hb2 hb3) hb1.size
  clear p0 p1 p2 p3 p4 p5 p6 hK
  go_wp2
  go_ret
  exact ⟨by rw [Bool.true_and]; rfl,hf⟩
theorem refCheckP {w:World} {v:Value} {n1 ins outs:Int} {cs:List Cs} {n2:Int} {ss:List (List (List Int))} {r:Int} (h:PrX w v n1 ins outs cs n2 ss r) :
  Calls Tryz.prog 41 #[v] w fun e w'=>e = .returned (.int .i64 (prE n1 ins outs cs n2 ss r))∧Below w.heap.size w w':=by
 obtain ⟨sa,sc,aa,ac,rfl,hT,hA⟩:=h
 obtain ⟨W1,hW1⟩:=exF (w.alloc (.cells #[.int .i64 n1,.int .i64 ins,.int .i64 outs,.slice sa cs.length sc,.int .i64 n2,.slice aa ss.length ac,.int .i64 r] 66))
 obtain ⟨hb1,m1⟩:=boxPr hW1
 have hK:=Lib.hid (fun W (hb:Below W1.heap.size W1 W)=>boxL7 ((hb.block _ (Array.getElem?_eq_some_iff.1 m1).1).trans m1))
 obtain ⟨p0,p1,p2,p3,p4,p5,p6⟩:=boxL7 m1
 have HT:=refCheckT (hT.keep hb1)
 have HA:=fun W (hb:Below W1.heap.size W1 W)=>refCheckA ((hA.keep hb1).keep hb).adv
 obtain ⟨A,hAA⟩:=exE (chkT n1 ins outs cs)
 obtain ⟨B,hBB⟩:=exE (chkA n2 ss)
 have hpe:prE n1 ins outs cs n2 ss r=if A ≠ 0 then A else if B ≠ 0 then B else if n1 ≠ n2 then 22 else if r < 0∨6 < r then 2 else 0:=by rw [prE,hAA,hBB]
 rw [hAA] at HT
 simp only [hBB] at HA
 rw [hpe]
 replace HT:=Lib.hid HT
 replace HA:=Lib.hid HA
 clear hT hA m1 hAA hBB hpe
 by_cases h1:A=0
 rotate_left
 ·have hAb:(A != 0)=true:=by simp [h1]
  rw [if_pos h1]
  go_enter Tryz.func41, Tryz.ntmps41
  go_wp2_with fail
  rw [← hW1]
  replace hW1:=Lib.hid hW1
  refine HT.out.mono ?_
  rintro e W2 ⟨rfl,hb2⟩
  have hf:=bt hb1 hb2 hb1.size
  clear p0 p1 p2 p3 p4 p5 p6 hK
  go_wp2
  go_ret
  exact ⟨rfl,hf⟩
 subst h1
 rw [if_neg (fun h=>h rfl)]
 by_cases h2:B=0
 rotate_left
 ·have hBb:(B != 0)=true:=by simp [h2]
  rw [if_pos h2]
  go_enter Tryz.func41, Tryz.ntmps41
  go_wp2_with fail
  rw [← hW1]
  replace hW1:=Lib.hid hW1
  refine HT.out.mono ?_
  rintro e W2 ⟨rfl,hb2⟩
  clear p0 p1 p2 p3 p4 p5 p6
  obtain ⟨p0,p1,p2,p3,p4,p5,p6⟩:=hK.out W2 hb2
  go_wp2_with fail
  refine (HA.out W2 hb2).mono ?_
  rintro e W3 ⟨rfl,hq3⟩
  have hb13:=btt hb2 hq3
  have hf:=bt hb1 hb13 hb1.size
  clear p0 p1 p2 p3 p4 p5 p6 hK
  go_wp2
  go_ret
  exact ⟨rfl,hf⟩
 subst h2
 rw [if_neg (fun h=>h rfl)]
 by_cases h3:n1=n2
 rotate_left
 ·have hNb:(n1 != n2)=true:=by simp [h3]
  rw [if_pos h3]
  go_enter Tryz.func41, Tryz.ntmps41
  go_wp2_with fail
  rw [← hW1]
  replace hW1:=Lib.hid hW1
  refine HT.out.mono ?_
  rintro e W2 ⟨rfl,hb2⟩
  clear p0 p1 p2 p3 p4 p5 p6
  obtain ⟨p0,p1,p2,p3,p4,p5,p6⟩:=hK.out W2 hb2
  go_wp2_with fail
  refine (HA.out W2 hb2).mono ?_
  rintro e W3 ⟨rfl,hq3⟩
  have hb13:=btt hb2 hq3
  have hf:=bt hb1 hb13 hb1.size
  clear p0 p1 p2 p3 p4 p5 p6
  obtain ⟨p0,p1,p2,p3,p4,p5,p6⟩:=hK.out W3 hb13
  clear hK
  go_wp2
  go_ret
  exact ⟨rfl,hf⟩
 subst h3
 have hNf:(n1 != n1)=false:=by simp
 rw [if_neg (fun h=>h rfl)]
 by_cases h4:r < 0
 ·have hd:decide (r < 0)=true:=decide_eq_true h4
  rw [if_pos (.inl h4)]
  go_enter Tryz.func41, Tryz.ntmps41
  go_wp2_with fail
  rw [← hW1]
  replace hW1:=Lib.hid hW1
  refine HT.out.mono ?_
  rintro e W2 ⟨rfl,hb2⟩
  clear p0 p1 p2 p3 p4 p5 p6
  obtain ⟨p0,p1,p2,p3,p4,p5,p6⟩:=hK.out W2 hb2
  go_wp2_with fail
  refine (HA.out W2 hb2).mono ?_
  rintro e W3 ⟨rfl,hq3⟩
  have hb13:=btt hb2 hq3
  have hf:=bt hb1 hb13 hb1.size
  clear p0 p1 p2 p3 p4 p5 p6
  obtain ⟨p0,p1,p2,p3,p4,p5,p6⟩:=hK.out W3 hb13
  clear hK
  go_wp2
  go_ret
  exact ⟨rfl,hf⟩
 have hd:decide (r < 0)=false:=decide_eq_false h4
 by_cases h5:6 < r
 ·have hd5:decide (6 < r)=true:=decide_eq_true h5
  rw [if_pos (.inr h5)]
  go_enter Tryz.func41, Tryz.ntmps41
  go_wp2_with fail
  rw [← hW1]
  replace hW1:=Lib.hid hW1
  refine HT.out.mono ?_
  rintro e W2 ⟨rfl,hb2⟩
  clear p0 p1 p2 p3 p4 p5 p6
  obtain ⟨p0,p1,p2,p3,p4,p5,p6⟩:=hK.out W2 hb2
  go_wp2_with fail
  refine (HA.out W2 hb2).mono ?_
  rintro e W3 ⟨rfl,hq3⟩
  have hb13:=btt hb2 hq3
  have hf:=bt hb1 hb13 hb1.size
  clear p0 p1 p2 p3 p4 p5 p6
  obtain ⟨p0,p1,p2,p3,p4,p5,p6⟩:=hK.out W3 hb13
  clear hK
  go_wp2
  go_ret
  exact ⟨rfl,hf⟩
 ·have hd5:decide (6 < r)=false:=decide_eq_false h5
  rw [if_neg (by omega)]
  go_enter Tryz.func41, Tryz.ntmps41
  go_wp2_with fail
  rw [← hW1]
  replace hW1:=Lib.hid hW1
  refine HT.out.mono ?_
  rintro e W2 ⟨rfl,hb2⟩
  clear p0 p1 p2 p3 p4 p5 p6
  obtain ⟨p0,p1,p2,p3,p4,p5,p6⟩:=hK.out W2 hb2
  go_wp2_with fail
  refine (HA.out W2 hb2).mono ?_
  rintro e W3 ⟨rfl,hq3⟩
  have hb13:=btt hb2 hq3
  have hf:=bt hb1 hb13 hb1.size
  clear p0 p1 p2 p3 p4 p5 p6
  obtain ⟨p0,p1,p2,p3,p4,p5,p6⟩:=hK.out W3 hb13
  clear hK
  go_wp2
  go_ret
  exact ⟨rfl,hf⟩
theorem symProblemGood {w:World} {v u:Value} {n:Nat} {ins outs:Int} {cs:List Cs} {ss:List (List (List Int))} {r:Int} {a:List Int} (h:PrV w v n ins outs cs ss r) (hO:PrOK n ins outs cs ss r) (hu:Ints w u a) (ha:IsP n a) :
  Calls Tryz.prog 36 #[v,u] w fun e w'=>∃ x,e = .returned (.tuple #[x,.int .i64 0])∧PrV w' x n ins outs (renT a cs) (renA a ss) r∧Below w.heap.size w w':=by
 have hOK:=TskOK.of hO.tz
 have h1:=hOK.n1
 have h5:=hOK.n5
 have hk:=Lib.hid h
 obtain ⟨sa,sc,aa,ac,rfl,hT,hA⟩:=h.shape
 obtain ⟨n',hn',hW⟩:=wfN_of hA.adv hO.az
 obtain rfl:n'=n:=by omega
 obtain ⟨ua,uc,hus⟩:∃ ua uc,u = .slice ua a.length uc:=by obtain ⟨ua,uc,_,_,h,_⟩:=hu; exact ⟨ua,uc,h⟩
 subst hus
 obtain ⟨W1,hW1⟩:=exF ((w.alloc (.cells #[.int .i64 (n':Int),.int .i64 ins,.int .i64 outs,.slice sa cs.length sc,.int .i64 (n':Int),.slice aa ss.length ac,.int .i64 r] 66)).alloc (.cells #[.int .i64 0,.int .i64 0,.int .i64 0,.slice none 0 0,.int .i64 0,.slice none 0 0,.int .i64 0] 66))
 have hb1:Below w.heap.size w W1:=by rw [hW1]; exact ((Below.refl _ _).alloc (Nat.le_refl _) _).alloc (by simp) _
 have m0:W1.heap[w.heap.size]? = some (.cells #[.int .i64 (n':Int),.int .i64 ins,.int .i64 outs,.slice sa cs.length sc,.int .i64 (n':Int),.slice aa ss.length ac,.int .i64 r] 66):=by rw [hW1]; exact (Below.heap_alloc _ _ _ (by simp)).trans (heap_alloc_new _ _)
 have m1:W1.heap[w.heap.size+1]? = some (.cells #[.int .i64 0,.int .i64 0,.int .i64 0,.slice none 0 0,.int .i64 0,.slice none 0 0,.int .i64 0] 66):=by
  have h:=heap_alloc_new (w.alloc (.cells #[.int .i64 (n':Int),.int .i64 ins,.int .i64 outs,.slice sa cs.length sc,.int .i64 (n':Int),.slice aa ss.length ac,.int .i64 r] 66)) (.cells #[.int .i64 0,.int .i64 0,.int .i64 0,.slice none 0 0,.int .i64 0,.slice none 0 0,.int .i64 0] 66)
  rw [World.size_alloc] at h
  rw [hW1]; exact h
 have hK:=Lib.hid (fun W (hb:Below W1.heap.size W1 W)=>boxL7 ((hb.block _ (Array.getElem?_eq_some_iff.1 m0).1).trans m0))
 have hK1:=Lib.hid (fun W (hb:Below W1.heap.size W1 W)=>(hb.block _ (Array.getElem?_eq_some_iff.1 m1).1).trans m1)
 obtain ⟨p0,p1,p2,p3,p4,p5,p6⟩:=boxL7 m0
 have HP:=Lib.hid (problemC (hk.out.keep hb1) hO)
 have HF:=fun W (hb:Below W1.heap.size W1 W)=>fitsC ((hu.keep hb1).keep hb) (n':Int)
 simp only [(fit_isP h1 h5).2 ha] at HF
 replace HF:=Lib.hid HF
 have HT:=Lib.hid (fun W (hb:Below W1.heap.size W1 W)=>permuteTaskO ((hT.keep hb1).keep hb) hO.tz (fun c hc=>Nat.le_trans (calmLen hO.tz c hc) (by decide)) ha ((hu.keep hb1).keep hb))
 have HA:=Lib.hid (fun W (hb:Below W1.heap.size W1 W)=>renamedC ((hA.keep hb1).keep hb).adv hW ha ((hu.keep hb1).keep hb))
 obtain ⟨CT,hCT⟩:=exE (renT a cs)
 obtain ⟨RS,hRS⟩:=exE (renA a ss)
 simp only [hCT] at HT
 simp only [hRS] at HA
 rw [hCT,hRS]
 clear h hT hA hO hOK hu ha hn' hW m0 m1 hCT hRS
 go_enter Tryz.func36, Tryz.ntmps36
 go_wp2_with fail
 rw [← hW1]
 replace hW1:=Lib.hid hW1
 refine HP.out.mono ?_
 rintro e W2 ⟨rfl,hb2⟩
 clear p0 p1 p2 p3 p4 p5 p6
 obtain ⟨p0,p1,p2,p3,p4,p5,p6⟩:=hK.out W2 hb2
 go_wp2_with fail
 refine (HF.out W2 hb2).mono ?_
 rintro e W3 ⟨rfl,hq3⟩
 have hb3:=btt hb2 hq3
 clear p0 p1 p2 p3 p4 p5 p6 hq3
 obtain ⟨p0,p1,p2,p3,p4,p5,p6⟩:=hK.out W3 hb3
 go_wp2_with fail
 refine (HT.out W3 hb3).mono ?_
 rintro e W4 ⟨rt,rfl,_,hT4,hq4⟩
 have hb4:=btt hb3 hq4
 have hT4h:=Lib.hid hT4
 obtain ⟨tv,rfl,hS4,_⟩:=hT4
 obtain ⟨ta,tc,hts⟩:=hS4.shape
 subst hts
 obtain ⟨W5,hW5⟩:=exF (W4.alloc (.cells #[.int .i64 (n':Int),.int .i64 ins,.int .i64 outs,.slice ta CT.length tc] 64))
 have hb5a:Below W4.heap.size W4 W5:=by rw [hW5]; exact (Below.refl _ _).alloc (Nat.le_refl _) _
 have m5:W5.heap[W4.heap.size]? = some (.cells #[.int .i64 (n':Int),.int .i64 ins,.int .i64 outs,.slice ta CT.length tc] 64):=by rw [hW5]; exact heap_alloc_new _ _
 have hb5:=btt hb4 hb5a
 have hT5:=Lib.hid (hT4h.out.keep hb5a)
 clear p0 p1 p2 p3 p4 p5 p6 hq4 hS4 HP HF HT
 obtain ⟨p0,p1,p2,p3,p4,p5,p6⟩:=hK.out W5 hb5
 obtain ⟨k0,k1,k2,k3⟩:=box4' m5
 go_upto_region 8 with fail
 rw [← hW5]
 replace hW5:=Lib.hid hW5
 go_wp2_with fail
 refine (HA.out W5 hb5).mono ?_
 rintro e W6 ⟨ra,rfl,hA6,hq6⟩
 have hb6:=btt hb5 hq6
 have hA6h:=Lib.hid hA6
 obtain ⟨av,rfl,hA6a,_⟩:=hA6
 obtain ⟨xa,xc,rfl⟩:=hA6a.shape
 obtain ⟨W7,hW7⟩:=exF (W6.alloc (.cells #[.int .i64 (n':Int),.slice xa RS.length xc] 24))
 obtain ⟨hb7a,j0,j1,_⟩:=boxAdv hW7
 have hb7:=btt hb6 hb7a
 have hr7:=btt hq6 hb7a
 have hT7:=Lib.hid (hT5.out.keep hr7)
 have hA7:=Lib.hid (hA6h.out.keep hb7a)
 have m57:=(hr7.block _ (Array.getElem?_eq_some_iff.1 m5).1).trans m5
 have m7:=hK1.out W7 hb7
 clear p0 p1 p2 p3 p4 p5 p6 k0 k1 k2 k3 hq6 hA6a HA m5
 obtain ⟨p0,p1,p2,p3,p4,p5,p6⟩:=hK.out W7 hb7
 obtain ⟨k0,k1,k2,k3⟩:=box4' m57
 obtain ⟨z0,z1,z2,z3,z4,z5,z6⟩:=boxL7 m7
 obtain ⟨f0,f1,f2,f3,f4,f5,f6⟩:=freeL7 m7
 have hfin:=bt hb1 hb7 hb1.size
 clear hK hK1 m57
 go_upto_region 11 with fail
 rw [← hW7]
 replace hW7:=Lib.hid hW7
 go_wp2
 refine storeEnd7 (u0:=.int .i64 (n':Int)) (u1:=.int .i64 ins) (u2:=.int .i64 outs) (u3:=.slice ta CT.length tc) (u4:=.int .i64 (n':Int)) (u5:=.slice xa RS.length xc) (u6:=.int .i64 r) m7 ?_
 intro W9 hW9 hb9 hk9 _ e0 e1 e2 e3 e4 e5 e6
 rw [← hW9]
 have hT9:TaskV W9 (.agg #[.int .i64 (n':Int),.int .i64 ins,.int .i64 outs,.slice ta CT.length tc]) (n':Int) ins outs CT:=by
  obtain ⟨tv,he,h2,h3⟩:=hT7.out
  injection he with he
  simp only [Array.mk.injEq,List.cons.injEq,and_true,true_and] at he
  subst he
  exact ⟨_,rfl,h3 _ _ (h2.other (E':=66) ECs.stabP (by decide) hk9)⟩
 have hA9:OwAdv W9 (.agg #[.int .i64 (n':Int),.slice xa RS.length xc]) (n':Int) RS:=by
  obtain ⟨av,he,h2,h3⟩:=hA7.out
  injection he with he
  simp only [Array.mk.injEq,List.cons.injEq,and_true,true_and] at he
  subst he
  exact ⟨_,rfl,h2.other (E':=66) (ESt.stab (by decide)) (by decide) hk9,h3⟩
 refine bodyPost_ret (v:=.tuple #[.agg #[.int .i64 (n':Int),.int .i64 ins,.int .i64 outs,.slice ta CT.length tc,.int .i64 (n':Int),.slice xa RS.length xc,.int .i64 r],.int .i64 0]) (by simp [results,Tryz.results36,go_sem,e0,e1,e2,e3,e4,e5,e6]) rfl ?_
 exact ⟨_,rfl,⟨_,_,rfl,hT9,hA9.advC⟩,hb9 _ _ (by omega) hfin⟩
end Go.Proofs.YtmikofeildnpdaaGreat

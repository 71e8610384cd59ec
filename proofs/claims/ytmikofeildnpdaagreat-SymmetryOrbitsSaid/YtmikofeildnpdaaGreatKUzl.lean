/- Texts of this claim, put together: YH. -/
import Derived.Test.YtmikofeildnpdaaGreatKUzj
import Derived.Test.YtmikofeildnpdaaGreatKUt

set_option maxRecDepth 100000
set_option maxHeartbeats 12800000
/- roundtableref21.maps, Orbits; the law SymmetryOrbits. -/
namespace Go.Proofs.YtmikofeildnpdaaGreat
open Go.RowKit
theorem any_snoc21 {p:List Int→Bool} {xs:List (List Int)} {i:Nat} (h:i < xs.length):(xs.take (i+1)).any p=((xs.take i).any p || p (xs.getD i [])):=by rw [take_snoc h [],List.any_append]; simp
theorem refMaps {w:World} {u:Value} {n p q:Nat} {G:List (List Int)} (hx:Intss w u G) (hG:∀ x∈G,x.length=n) (hp:p < n) :
  Calls Tryz.prog 63 #[u,.int .i64 (p:Int),.int .i64 (q:Int)] w fun e w'=>e = .returned (.bool (mpsB G p (q:Int)))∧Below w.heap.size w w':=by
 obtain ⟨xa,xc,xb,xo,rfl,hxa,hxc,hxl⟩:=hx
 replace hxc:=Lib.hid hxc
 obtain ⟨f,hf⟩:∃ f:List Int→Bool,f=fun g=>decide (g.getD p 0=(q:Int)):=⟨_,rfl⟩
 have hfm:mpsB G p (q:Int)=G.any f:=by rw [mpsB,hf]
 have hfx:Hid (∀ x:List Int,f x=((x.getD p 0:Int) == (q:Int))):=fun x=>by rw [hf]; show decide _=_; rw [Bool.eq_iff_iff]; simp
 rw [hfm]
 have h0:Hid ((G.take 0).any f=false):=by show _=_; simp
 replace hG:=Lib.hid hG
 clear hf hfm
 go_enter Tryz.func63, Tryz.ntmps63
 go_wp2_with fail
 go_loopw [7] (fun iv wr=>∃ i:Nat,iv = .int .i64 (i:Int)∧i≤G.length∧Hid ((G.take i).any f=false)∧Below w.heap.size w wr) (fun iv _=>G.length - (intOf iv).toNat)
 case atStart=>exact ⟨0,rfl,by omega,h0,Below.refl _ _⟩
 case round=>
  clear h0
  obtain ⟨i,rfl,hi,hno,hbr⟩:=hrel
  by_cases hlt:i < G.length
  ·have hltI:(i:Int) < (G.length:Int):=by omega
   obtain rfl:=hxa (by omega)
   obtain ⟨xu,hxi,hxk⟩:=hxc.out i hlt
   have hsn:=any_snoc21 (p:=f) hlt
   obtain ⟨y,hy⟩:=exE (G.getD i [])
   rw [hy] at hxk hsn
   have hym:y∈G:=by rw [← hy]; exact getD_mem hlt
   have hyl:=hG.out y hym
   have c0:=cell_kept hbr hxi
   obtain ⟨aa,ac,ab,ao,rfl,haa,hac,-⟩:=hxk.keep hbr
   obtain rfl:=haa (by omega)
   have c1:=hac p (by omega)
   have hpI:(p:Int) < (y.length:Int):=by omega
   obtain ⟨z,hz⟩:=exE (y.getD p 0)
   have hfy:=hfx.out y
   rw [hz] at c1 hfy
   rw [hno.out,Bool.false_or] at hsn
   clear hac hz
   cases hb:(z == (q:Int)) with
   | true=>
    have hres:Hid (G.any f=true):=List.any_eq_true.2 ⟨y,hym,by rw [hfy]; exact hb⟩
    clear hsn hym hno hfy
    go_wp2
    go_ret
    exact ⟨by rw [hres.out]; rfl,hbr⟩
   | false=>
    rw [hfy,hb] at hsn
    replace hsn:=Lib.hid hsn
    clear hym hno hfy
    go_wp2_with fail
    go_roundw
    case rel=>exact ⟨i+1,by go_num,hlt,hsn,hbr⟩
    case measure=>simp [intOf]; omega
  ·have hres:Hid (G.any f=false):=by
    have:=hno.out
    rwa [List.take_of_length_le (by omega)] at this
   clear hno
   go_wp2
   go_ret
   exact ⟨by rw [hres.out]; rfl,hbr⟩
def obQ (G:List (List Int)) (p q:Nat):List Int:=((List.range q).map Int.ofNat).filter (mpsB G p)
theorem obQ_succ (G:List (List Int)) (p q:Nat):obQ G p (q+1)=obQ G p q++if mpsB G p (q:Int) then [(q:Int)] else []:=by
 unfold obQ
 rw [List.range_succ,List.map_append,List.filter_append]
 cases h:mpsB G p (q:Int) <;> simp [h]
theorem obQ_len (G:List (List Int)) (p q:Nat):(obQ G p q).length≤q:=by
 unfold obQ
 refine Nat.le_trans (List.length_filter_le _ _) ?_
 simp
def lsQ (G:List (List Int)) (p q:Nat):Bool:=(obQ G p q).all fun z=>decide ((p:Int)≤z)
theorem lsQ_succ (G:List (List Int)) (p q:Nat):lsQ G p (q+1)=(lsQ G p q && (!mpsB G p (q:Int) || decide (p≤q))):=by
 unfold lsQ
 rw [obQ_succ,List.all_append]
 cases h:mpsB G p (q:Int) <;> simp
theorem orbK_snoc21 (G:List (List Int)) (n k:Nat):orbK G n (k+1)=orbK G n k++if lstB G n k then [obR G n k] else []:=by
 unfold orbK
 rw [List.range_succ,List.filter_append,List.map_append]
 cases h:lstB G n k <;> simp [h]
theorem orbK_len (G:List (List Int)) (n k:Nat):(orbK G n k).length≤k:=by
 unfold orbK
 rw [List.length_map]
 refine Nat.le_trans (List.length_filter_le _ _) ?_
 simp
theorem refOrbitsC {w:World} {v:Value} {l:List (List Int)} (n:Int) (h:Intss w v l):Calls Tryz.prog 23 #[.int .i64 n,v] w (RII w (obsR n l) (chkList n l)):=by
 have HL:=refList n h
 obtain ⟨va,vc,hv⟩:∃ a c,v = .slice a l.length c:=by obtain ⟨a,c,_,_,h,_⟩:=h; exact ⟨a,c,h⟩
 subst hv
 obtain ⟨E,hE⟩:=exE (chkList n l)
 rw [hE] at HL
 replace HL:=Lib.hid HL
 by_cases h0:E=0
 ·subst h0
  obtain ⟨k,rfl⟩:∃ k:Nat,n=(k:Int):=⟨n.toNat,by have:=(chkList_ok hE).1; omega⟩
  obtain ⟨hGr,⟨h1,h5⟩,hlP,G0,hG0,hGi,hGm⟩:=genR_grp hE
  have hGl:=genR_len hE h5
  have hR:obsR k l=orbR (genR k l) k:=by rw [obsR,if_pos hE,Int.toNat_natCast,orb_eq h1 h5 hGr]
  have hGf:(everyL k).filter (fun x=>decide (x∈G0))=genR k l:=by rw [genR,if_pos hE,closL,Int.toNat_natCast,hG0]; rfl
  have HC:=fun W (hb:Below w.heap.size w W)=>refClosure k h5 (h.keep hb) hlP hG0 hGi
  simp only [hGf] at HC
  rw [hR,hE]
  have hlen:Hid (∀ x∈genR k l,x.length=k):=fun x hx=>(hGr.isP x hx).1
  obtain ⟨G,hGG⟩:=exE (genR k l)
  rw [hGG] at hlen hGl ⊢
  simp only [hGG] at HC
  replace HC:=Lib.hid HC
  have hlen5:Hid (∀ x∈G,x.length≤17592186044416):=fun x hx=>by have:=hlen.out x hx; omega
  clear hR hE hGG hGr hG0 hGi hGm hGf hlP h
  go_enter Tryz.func23, Tryz.ntmps23
  go_wp2_with fail
  refine HL.out.mono ?_
  rintro e W2 ⟨rfl,hq2⟩
  have hb2:=hq2.below
  go_wp2_with fail
  refine (HC.out W2 hb2).mono ?_
  rintro e W3 ⟨r,rfl,hO,hb3⟩
  obtain ⟨ra,rc,rfl⟩:=hO.shape
  have hb13:=btt hb2 hb3
  have hOk:=Lib.hid (hO.intss (by omega) hlen5.out)
  have hrow0:OII W3 W3.heap.size (.slice none 0 0) (orbK G k 0).length (orbK G k 0):=OII.nil _ _
  clear hO HL HC hq2
  go_wp2_with fail
  go_loopw [8,9] (fun ov pv wr=>∃ p:Nat,pv = .int .i64 (p:Int)∧p≤k∧OII wr W3.heap.size ov (orbK G k p).length (orbK G k p)∧Hid (Below W3.heap.size W3 wr)) (fun _ pv _=>k - (intOf pv).toNat)
  case atStart=>exact ⟨0,rfl,Nat.zero_le _,hrow0,Below.refl _ _⟩
  case round=>
   clear hrow0
   obtain ⟨p,rfl,hp,ho,hbr⟩:=hrel
   obtain ⟨oa,oc,hov⟩:=ho.shape
   subst hov
   by_cases hlt:p < k
   ·have hltI:(p:Int) < (k:Int):=by omega
    obtain ⟨wo,hwo⟩:=exF (wr)
    subst hwo
    have hq0:OI wo wo.heap.size (.slice none 0 0) (obQ G p 0).length (obQ G p 0):=OI.nil _ _
    go_wp2_with fail
    go_loopw [10,11,12] (fun rv lv qv wr=>∃ q:Nat,qv = .int .i64 (q:Int)∧q≤k∧lv = .bool (lsQ G p q)∧OI wr wo.heap.size rv (obQ G p q).length (obQ G p q)∧Hid (Below wo.heap.size wo wr)) (fun _ _ qv _=>k - (intOf qv).toNat)
    case atStart=>exact ⟨0,rfl,Nat.zero_le _,rfl,hq0,Below.refl _ _⟩
    case round=>
     clear hq0
     obtain ⟨q,rfl,hq,rfl,hoq,hbo⟩:=hrel
     obtain ⟨b,hls⟩:=exE (lsQ G p q)
     rw [hls]
     replace hls:=Lib.hid hls
     obtain ⟨qa,qc,hqv⟩:=hoq.shape
     subst hqv
     by_cases hltq:q < k
     ·have hltQ:(q:Int) < (k:Int):=by omega
      have HM:=refMaps (n:=k) (q:=q) ((hOk.out.keep hbr.out).keep hbo.out) hlen.out hlt
      have e1:=obQ_succ G p q
      have e2:=lsQ_succ G p q
      have hle:=obQ_len G p q
      rw [hls.out] at e2
      obtain ⟨N,hN⟩:=exE ((obQ G p q).length)
      rw [hN] at hoq hle ⊢
      cases hm:mpsB G p (q:Int) with
      | true=>
       rw [hm] at HM e1 e2
       rw [if_pos rfl] at e1
       rw [Bool.not_true,Bool.false_or] at e2
       have hfl:(obQ G p (q+1)).length=N+1:=by rw [e1,List.length_append,hN]; rfl
       replace HM:=Lib.hid HM
       replace e1:=Lib.hid e1
       replace hfl:=Lib.hid hfl
       replace hN:=Lib.hid hN
       clear hm
       cases b
       all_goals
        simp only [Bool.true_and,Bool.false_and] at e2
        replace e2:=Lib.hid e2
        go_wp2_with fail
        refine HM.out.mono ?_
        rintro e w1 ⟨rfl,hb1⟩
        have hoq1:=hoq.keep hb1
        have hbw:Below wo.heap.size wo w1:=btt hbo.out hb1
        have hsz1:=hbw.size
        clear hoq
        go_wp2_with (at_builtin; refine wpAppI rfl _ _ rfl rfl hoq1 rfl (by omega) hsz1 ?_; intro v6 w6 hq6 hg6 hb6)
        have hfin:OI w6 wo.heap.size v6 (obQ G p (q+1)).length (obQ G p (q+1)):=by rw [hfl.out,e1.out]; exact hq6
        have hbf:Hid (Below wo.heap.size wo w6):=hbw.trans hb6
        clear hq6 hoq1
        go_wp2_with fail
        go_roundw
        case rel=>exact ⟨q+1,by go_num,by omega,by rw [e2.out],hfin,hbf⟩
        case measure=>simp [intOf]; omega
      | false=>
       rw [hm] at HM e1 e2
       rw [if_neg (by decide),List.append_nil] at e1
       rw [Bool.not_false,Bool.true_or,Bool.and_true] at e2
       have hfl:(obQ G p (q+1)).length=N:=by rw [e1,hN]
       replace HM:=Lib.hid HM
       replace e1:=Lib.hid e1
       replace e2:=Lib.hid e2
       replace hfl:=Lib.hid hfl
       replace hN:=Lib.hid hN
       clear hm
       go_wp2_with fail
       refine HM.out.mono ?_
       rintro e w1 ⟨rfl,hb1⟩
       have hfin:OI w1 wo.heap.size (.slice qa N qc) (obQ G p (q+1)).length (obQ G p (q+1)):=by rw [hfl.out,e1.out]; exact hoq.keep hb1
       have hbf:Hid (Below wo.heap.size wo w1):=btt hbo.out hb1
       clear hoq
       go_wp2_with fail
       go_roundw
       case rel=>exact ⟨q+1,by go_num,by omega,by rw [e2.out],hfin,hbf⟩
       case measure=>simp [intOf]; omega
     ·obtain rfl:q=k:=by omega
      have e1:=orbK_snoc21 G q p
      have hlst:lstB G q p=b:=hls.out
      have hob:obR G q p=obQ G p q:=rfl
      have hkl:=orbK_len G q p
      have hql:=obQ_len G p q
      rw [hlst,hob] at e1
      have ho1:=ho.keep hbo.out
      have hb1:=btt hbr.out hbo.out
      have hs1:=hb1.size
      obtain ⟨N,hN⟩:=exE ((orbK G q p).length)
      rw [hN] at ho1 hkl ⊢
      have hu:=hoq.base (Nat.zero_le _)
      obtain ⟨Z,hZ⟩:=exE (obQ G p q)
      rw [hZ] at hu e1 hql ⊢
      replace hZ:=Lib.hid hZ
      clear ho hoq hlst hob
      cases b with
      | true=>
       rw [if_pos rfl] at e1
       have hfl:(orbK G q (p+1)).length=N+1:=by rw [e1,List.length_append,hN]; rfl
       replace e1:=Lib.hid e1
       replace hfl:=Lib.hid hfl
       replace hN:=Lib.hid hN
       go_wp2_with (at_builtin; refine wpApp1S rfl _ _ rfl rfl ho1 rfl hu rfl (by omega) hs1 ?_; intro v7 w7 ho7 hb7 _)
       have hfin:OII w7 W3.heap.size v7 (orbK G q (p+1)).length (orbK G q (p+1)):=by rw [hfl.out,e1.out]; exact ho7
       have hbf:Hid (Below W3.heap.size W3 w7):=hb1.trans hb7
       clear ho7 ho1
       go_wp2_with fail
       go_roundw
       case rel=>exact ⟨p+1,by go_num,by omega,hfin,hbf⟩
       case measure=>simp [intOf]; omega
      | false=>
       rw [if_neg (by decide),List.append_nil] at e1
       have hfl:(orbK G q (p+1)).length=N:=by rw [e1,hN]
       replace e1:=Lib.hid e1
       replace hfl:=Lib.hid hfl
       replace hN:=Lib.hid hN
       have hfin:OII wr W3.heap.size (.slice oa N oc) (orbK G q (p+1)).length (orbK G q (p+1)):=by rw [hfl.out,e1.out]; exact ho1
       clear ho1
       go_wp2_with fail
       go_roundw
       case rel=>exact ⟨p+1,by go_num,by omega,hfin,hb1⟩
       case measure=>simp [intOf]; omega
   ·obtain rfl:p=k:=by omega
    have hfin:=btt hb13 hbr.out
    have hs:=hb13.size
    go_wp2
    go_ret2
    exact ⟨_,rfl,ho.base (by omega),hfin⟩
 ·have hgl:obsR n l = []:=by rw [obsR,if_neg (by rw [hE]; exact h0)]
  have hEb:(E != 0)=true:=by simp [h0]
  rw [hgl,hE]
  clear hgl hE h
  go_enter Tryz.func23, Tryz.ntmps23
  go_wp2_with fail
  refine HL.out.mono ?_
  rintro e W3 ⟨rfl,hq3⟩
  have hb3:=hq3.below
  clear HL
  go_wp2
  go_ret2
  exact ⟨_,rfl,OII.nil _ _,hb3⟩
theorem obsR_le (n:Int) (l:List (List Int)):(obsR n l).length≤1000∧∀ x∈obsR n l,x.length≤1000:=by
 rw [obsR]
 split
 ·rename_i hz
  obtain ⟨k,rfl⟩:∃ k:Nat,n=(k:Int):=⟨n.toNat,by have:=(chkList_ok hz).1; omega⟩
  obtain ⟨hGr,⟨h1,h5⟩,_⟩:=genR_grp hz
  rw [Int.toNat_natCast,orb_eq h1 h5 hGr]
  refine ⟨by have:=orbK_len (genR k l) k k; show (orbK _ _ _).length≤_; omega,fun x hx=>?_⟩
  obtain ⟨p,_,rfl⟩:=List.mem_map.1 hx
  have:=obQ_len (genR k l) p k
  show (obQ _ _ _).length≤_
  omega
 ·exact ⟨by simp,by simp⟩
theorem lawOrbits {w:World} {v:Value} {l:List (List Int)} (n:Int) (h:Intss w v l):Calls Tryz.prog 5 #[.int .i64 n,v] w (Yes w):=by
 have HF:=refFew02 h
 have HG:=fun W (hb:Below w.heap.size w W)=>orbitsC n (h.keep hb)
 have HH:=fun W (hb:Below w.heap.size w W)=>refOrbitsC n (h.keep hb)
 obtain ⟨va,vc,hv⟩:∃ a c,v = .slice a l.length c:=by obtain ⟨a,c,_,_,h,_⟩:=h; exact ⟨a,c,h⟩
 subst hv
 obtain ⟨fx,hfx⟩:=exE (fewB l)
 rw [hfx] at HF
 replace HF:=Lib.hid HF
 obtain ⟨hl1,hl2⟩:=obsR_le n l
 obtain ⟨E,hE⟩:=exE (chkList n l)
 obtain ⟨g,hg⟩:=exE (obsR n l)
 simp only [hE,hg] at HG HH
 rw [hg] at hl1 hl2
 have hl3:Hid (∀ x∈g,x.length≤17592186044416):=fun x hx=>by have:=hl2 x hx; omega
 have e1:(E == E)=true:=by simp
 replace HG:=Lib.hid HG
 replace HH:=Lib.hid HH
 clear hfx hE hg hl2 h
 cases fx
 ·go_enter Tryz.func5, Tryz.ntmps5
  go_wp2_with fail
  refine HF.out.mono ?_
  rintro e W2 ⟨rfl,hq2⟩
  go_wp2_with fail
  refine (awakeC (w:=W2)).mono ?_
  rintro e W9 ⟨rfl,hq⟩
  have hb9:=btt hq2.below hq
  go_wp2
  go_ret
  exact ⟨rfl,hb9⟩
 ·go_enter Tryz.func5, Tryz.ntmps5
  go_wp2_with fail
  refine HF.out.mono ?_
  rintro e W2 ⟨rfl,hq2⟩
  have hb2:=hq2.below
  go_wp2_with fail
  refine (HG.out W2 hb2).mono ?_
  rintro e W3 ⟨r3,rfl,ho3,hq⟩
  have hb3:=btt hb2 hq
  obtain ⟨sa,sc,rfl⟩:=ho3.shape
  replace ho3:=Lib.hid ho3
  clear hq
  go_wp2_with fail
  refine (HH.out W3 hb3).mono ?_
  rintro e W4 ⟨r4,rfl,ho4,hq4⟩
  have hb4:=btt hb3 hq4
  obtain ⟨ta,tc,rfl⟩:=ho4.shape
  replace ho3:=Lib.hid (ho3.out.keep hq4)
  replace ho4:=Lib.hid ho4
  clear hq4
  go_wp2_with fail
  refine (awakeC (w:=W4)).mono ?_
  rintro e W5 ⟨rfl,hq5⟩
  have hb5:=btt hb4 hq5
  have HS:=Lib.hid (sAll ((ho3.out.keep hq5).intss (by omega) hl3.out) ((ho4.out.keep hq5).intss (by omega) hl3.out))
  clear hq5 ho3 ho4 HG HH
  go_wp2_with fail
  refine HS.out.mono ?_
  rintro e W6 ⟨rfl,hq⟩
  have hfin:=btt hb5 hq.below
  go_wp2
  go_ret
  exact ⟨rfl,hfin⟩
end Go.Proofs.YtmikofeildnpdaaGreat

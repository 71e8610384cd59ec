/- Texts of this claim, put together: YF. -/
import Derived.Test.YtmikofeildnpdaaGreatKYzn
import Derived.Test.YtmikofeildnpdaaGreatKYzj

set_option maxRecDepth 100000
set_option maxHeartbeats 12800000
/- The law SymmetryPermutes. -/
namespace Go.Proofs.YtmikofeildnpdaaGreat
open Go.RowKit
noncomputable def permN (n:Int) (ss:List (List (List Int))) (a:List Int):Int:=if perE n ss a=0 then n else 0
noncomputable def permR (n:Int) (ss:List (List (List Int))) (a:List Int):List (List (List Int)):=if perE n ss a=0 then renA a ss else []
theorem perE_facts {w:World} {v:Value} {n:Int} {ss:List (List (List Int))} {a:List Int} (hA:AdvV w v n ss) (hz:perE n ss a=0):∃ k:Nat,n=(k:Int)∧WfN k ss∧IsP k a:=by
 have hcz:chkA n ss=0:=by
  unfold perE at hz
  split at hz
  ·rename_i k; exact absurd hz k
  ·rename_i k; exact Decidable.not_not.1 k
 obtain ⟨k,rfl,hW⟩:=wfN_of hA hcz
 refine ⟨k,rfl,hW,?_⟩
 unfold perE at hz
 rw [if_neg (fun h=>h hcz)] at hz
 exact (fit_isP hW.h1 hW.h5).1 hz
def PmAll (w:World) (N:Int) (R:List (List (List Int))) (E:Int) (e:Ending) (w':World):Prop:=∃ r,e = .returned (.tuple #[r,.int .i64 E])∧AdvV w' r N R∧Below w.heap.size w w'
theorem permAll {w:World} {v u:Value} {n:Int} {a:List Int} {ss:List (List (List Int))} (hA:AdvV w v n ss) (hu:Ints w u a) (hm:movesN ss≤1000000000) :
  Calls Tryz.prog 13 #[v,u] w (PmAll w (permN n ss a) (permR n ss a) (perE n ss a)):=by
 by_cases hz:perE n ss a=0
 ·obtain ⟨k,rfl,hW,ha⟩:=perE_facts hA hz
  refine (permuteGood hA hu hm hW ha).mono ?_
  rintro e w' ⟨r,rfl,hO,hb⟩
  exact ⟨r,by rw [hz],by rw [permN,permR,if_pos hz,if_pos hz]; exact hO.advC.adv,hb⟩
 ·refine (permuteBad hA hu hm hz).mono ?_
  rintro e w' ⟨rfl,hb⟩
  exact ⟨_,rfl,by rw [permN,permR,if_neg hz,if_neg hz]; exact (OwAdv.zero w').advC.adv,hb⟩
theorem refPermAll {w:World} {v u:Value} {n:Int} {a:List Int} {ss:List (List (List Int))} (hA:AdvV w v n ss) (hu:Ints w u a) :
  Calls Tryz.prog 14 #[v,u] w (PmAll w (permN n ss a) (permR n ss a) (perE n ss a)):=by
 by_cases hz:perE n ss a=0
 ·obtain ⟨k,rfl,hW,ha⟩:=perE_facts hA hz
  refine (refPermGood hA hu hW ha).mono ?_
  rintro e w' ⟨r,rfl,hO,hb⟩
  exact ⟨r,by rw [hz],by rw [permN,permR,if_pos hz,if_pos hz]; exact hO.advC.adv,hb⟩
 ·refine (refPermBad hA hu hz).mono ?_
  rintro e w' ⟨rfl,hb⟩
  exact ⟨_,rfl,by rw [permN,permR,if_neg hz,if_neg hz]; exact (OwAdv.zero w').advC.adv,hb⟩
theorem lawPermutes {w:World} {v u:Value} {n:Int} {ss:List (List (List Int))} {a:List Int} (hA:AdvC w v n ss) (hu:Ints w u a) :
  Calls Tryz.prog 3 #[v,u] w (Yes w):=by
 obtain ⟨xa,xc,hv⟩:=advShape' hA.adv
 subst hv
 obtain ⟨ua,uc,hus⟩:∃ ua uc,u = .slice ua a.length uc:=by obtain ⟨ua,uc,_,_,h,_⟩:=hu; exact ⟨ua,uc,h⟩
 subst hus
 obtain ⟨W1,hW1⟩:=exF (w.alloc (.cells #[.int .i64 n,.slice xa ss.length xc] 24))
 obtain ⟨hb1,p0,p1,_⟩:=boxAdv hW1
 have hK:=Lib.hid (fun W (hb:Below W1.heap.size W1 W)=>And.intro (cell_kept hb p0) (cell_kept hb p1))
 have hA1:=Lib.hid (fun W (hb:Below W1.heap.size W1 W)=>((hA.keep hb1).keep hb))
 have hu1:=Lib.hid (fun W (hb:Below W1.heap.size W1 W)=>((hu.keep hb1).keep hb))
 have HF:=refFew (hA1.out W1 (Below.refl _ _)).adv
 obtain ⟨fx,hfx⟩:=exE (fewA ss)
 rw [hfx] at HF
 replace HF:=Lib.hid HF
 clear hA hu
 cases fx
 ·clear hfx hA1 hu1
  go_enter Tryz.func3, Tryz.ntmps3
  go_wp2_with fail
  rw [← hW1]
  replace hW1:=Lib.hid hW1
  refine HF.out.mono ?_
  rintro e W2 ⟨rfl,hb2⟩
  clear p0 p1
  go_wp2_with fail
  refine (awakeC (w:=W2)).mono ?_
  rintro e W9 ⟨rfl,hq⟩
  have hb9:=bt hb1 (btt hb2 hq) hb1.size
  go_wp2
  go_ret
  exact ⟨rfl,hb9⟩
 by_cases h60:60 < a.length
 ·have hd:decide ((60:Int) < (a.length:Int))=true:=decide_eq_true (by omega)
  clear hfx hA1 hu1
  go_enter Tryz.func3, Tryz.ntmps3
  go_wp2_with fail
  rw [← hW1]
  replace hW1:=Lib.hid hW1
  refine HF.out.mono ?_
  rintro e W2 ⟨rfl,hb2⟩
  clear p0 p1
  go_wp2_with fail
  refine (awakeC (w:=W2)).mono ?_
  rintro e W9 ⟨rfl,hq⟩
  have hb9:=bt hb1 (btt hb2 hq) hb1.size
  go_wp2
  go_ret
  exact ⟨rfl,hb9⟩
 ·have hd:decide ((60:Int) < (a.length:Int))=false:=decide_eq_false (by omega)
  have hF:=fewS_of hfx
  have hm:movesN ss≤1000000000:=by have:=hF.m; omega
  have HP:=fun W (hb:Below W1.heap.size W1 W)=>permAll (hA1.out W hb).adv (hu1.out W hb) hm
  have HR:=fun W (hb:Below W1.heap.size W1 W)=>refPermAll (hA1.out W hb).adv (hu1.out W hb)
  have HI:=fun W (hb:Below W1.heap.size W1 W)=>invariantC (hA1.out W hb) (hu1.out W hb) hF
  have HJ:=fun W (hb:Below W1.heap.size W1 W)=>refInvariantC (hA1.out W hb) (hu1.out W hb) hF
  obtain ⟨E,hE⟩:=exE (perE n ss a)
  obtain ⟨N,hN⟩:=exE (permN n ss a)
  obtain ⟨R,hR⟩:=exE (permR n ss a)
  obtain ⟨I,hI⟩:=exE (invR n ss a)
  simp only [hE,hN,hR] at HP HR
  simp only [hE,hI] at HI HJ
  have e1:(E == E)=true:=by simp
  have e2:(I == I)=true:=by simp
  replace HP:=Lib.hid HP
  replace HR:=Lib.hid HR
  replace HI:=Lib.hid HI
  replace HJ:=Lib.hid HJ
  clear hfx hA1 hu1 hF hm hE hN hR hI
  go_enter Tryz.func3, Tryz.ntmps3
  go_wp2_with fail
  rw [← hW1]
  replace hW1:=Lib.hid hW1
  refine HF.out.mono ?_
  rintro e W2 ⟨rfl,hb2⟩
  clear p0 p1
  obtain ⟨p0,p1⟩:=hK.out W2 hb2
  go_wp2_with fail
  refine (HP.out W2 hb2).mono ?_
  rintro e W3 ⟨r3,rfl,hX3,hq⟩
  have hb3:=btt hb2 hq
  obtain ⟨sa,sc,hs3⟩:=advShape' hX3
  subst hs3
  obtain ⟨W4,hW4⟩:=exF (W3.alloc (.cells #[.int .i64 N,.slice sa R.length sc] 24))
  obtain ⟨hb4a,_,_,m4⟩:=boxAdv hW4
  have hX4:=Lib.hid (hX3.keep hb4a)
  have hb4:=btt hb3 hb4a
  clear hq p0 p1 HF hX3 hd
  obtain ⟨p0,p1⟩:=hK.out W4 hb4
  go_upto_region 4 with fail
  rw [← hW4]
  replace hW4:=Lib.hid hW4
  go_wp2_with fail
  refine (HR.out W4 hb4).mono ?_
  rintro e W5 ⟨r5,rfl,hX5,hq⟩
  have hb5:=btt hb4 hq
  have m5:=(hq.block _ (Array.getElem?_eq_some_iff.1 m4).1).trans m4
  have hX45:=Lib.hid (hX4.out.keep hq)
  obtain ⟨ta,tc,hs5⟩:=advShape' hX5
  subst hs5
  obtain ⟨W6,hW6⟩:=exF (W5.alloc (.cells #[.int .i64 N,.slice ta R.length tc] 24))
  obtain ⟨hb6a,_,_,m6⟩:=boxAdv hW6
  have hX6:=Lib.hid (hX5.keep hb6a)
  have hX46:=Lib.hid (hX45.out.keep hb6a)
  have m56:=(hb6a.block _ (Array.getElem?_eq_some_iff.1 m5).1).trans m5
  have hb6:=btt hb5 hb6a
  clear hq p0 p1 hX5 hX4 hX45 m4 m5 HR HP
  obtain ⟨p0,p1⟩:=hK.out W6 hb6
  go_upto_region 5 with fail
  rw [← hW6]
  replace hW6:=Lib.hid hW6
  go_wp2_with fail
  refine (HI.out W6 hb6).mono ?_
  rintro e W7 ⟨rfl,hq7⟩
  have hb7:=btt hb6 hq7
  clear p0 p1
  obtain ⟨p0,p1⟩:=hK.out W7 hb7
  go_wp2_with fail
  refine (HJ.out W7 hb7).mono ?_
  rintro e W8 ⟨rfl,hq8⟩
  have hb8:=btt hb7 hq8
  clear p0 p1
  go_wp2_with fail
  refine (awakeC (w:=W8)).mono ?_
  rintro e W9 ⟨rfl,hq9⟩
  have hb9:=btt hb8 hq9
  have hq:=btt hq7 (btt hq8 hq9)
  have mX:=(hq.block _ (Array.getElem?_eq_some_iff.1 m56).1).trans m56
  have mY:=(hq.block _ (Array.getElem?_eq_some_iff.1 m6).1).trans m6
  obtain ⟨y0,y1⟩:=boxL2 mX
  obtain ⟨z0,z1⟩:=boxL2 mY
  have HS:=sameRef (hX46.out.keep hq) (hX6.out.keep hq)
  rw [show (decide (N=N) && decide (R=R))=true by simp] at HS
  replace HS:=Lib.hid HS
  clear hq hq7 hq8 hq9 mX mY m56 m6 HI HJ hX46 hX6
  go_wp2_with fail
  refine HS.out.mono ?_
  rintro e W10 ⟨rfl,hq⟩
  have hfin:=bt hb1 (btt hb9 hq) hb1.size
  go_wp2
  go_ret
  exact ⟨rfl,hfin⟩
end Go.Proofs.YtmikofeildnpdaaGreat

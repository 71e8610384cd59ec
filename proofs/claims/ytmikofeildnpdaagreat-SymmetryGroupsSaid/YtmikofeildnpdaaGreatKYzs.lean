/- Texts of this claim, put together: YG. -/
import Derived.Test.YtmikofeildnpdaaGreatKYzn
import Derived.Test.YtmikofeildnpdaaGreatKYzj

set_option maxRecDepth 100000
set_option maxHeartbeats 12800000
/- The law SymmetryGroups. -/
namespace Go.Proofs.YtmikofeildnpdaaGreat
open Go.RowKit
theorem grpL_le (n:Int) (ss:List (List (List Int))):(grpL n ss).length≤1000∧∀ x∈grpL n ss,x.length≤1000:=by
 rw [grpL]
 split
 ·rename_i h
  have h5:=(chkA_facts h).1
  have h5':n.toNat≤5:=by omega
  refine ⟨Nat.le_trans (List.length_filter_le _ _) (every_len h5'),fun x hx=>?_⟩
  have:=(mem_everyL.1 (List.mem_filter.1 hx).1).1
  omega
 ·exact ⟨by simp,by simp⟩
theorem lawGroups {w:World} {v:Value} {n:Int} {ss:List (List (List Int))} (hA:AdvC w v n ss):Calls Tryz.prog 4 #[v] w (Yes w):=by
 obtain ⟨xa,xc,hv⟩:=advShape' hA.adv
 subst hv
 obtain ⟨W1,hW1⟩:=exF (w.alloc (.cells #[.int .i64 n,.slice xa ss.length xc] 24))
 obtain ⟨hb1,p0,p1,_⟩:=boxAdv hW1
 have hK:=Lib.hid (fun W (hb:Below W1.heap.size W1 W)=>And.intro (cell_kept hb p0) (cell_kept hb p1))
 have hA1:=Lib.hid (fun W (hb:Below W1.heap.size W1 W)=>((hA.keep hb1).keep hb))
 have HF:=refFew (hA1.out W1 (Below.refl _ _)).adv
 obtain ⟨fx,hfx⟩:=exE (fewA ss)
 rw [hfx] at HF
 replace HF:=Lib.hid HF
 clear hA
 cases fx
 ·clear hfx hA1
  go_enter Tryz.func4, Tryz.ntmps4
  go_wp2_with fail
  rw [← hW1]
  replace hW1:=Lib.hid hW1
  refine HF.out.mono ?_
  rintro e W2 ⟨rfl,hb2⟩
  clear p0 p1
  go_wp2_with fail
  refine (awakeC (w:=W2)).mono ?_
  rintro e W9 ⟨rfl,hq⟩
  have hb9:=bt hb1 (btt hb2 hq) hb1.size
  go_wp2
  go_ret
  exact ⟨rfl,hb9⟩
 ·have hF:=fewS_of hfx
  have HG:=fun W (hb:Below W1.heap.size W1 W)=>groupC (hA1.out W hb) hF
  have HH:=fun W (hb:Below W1.heap.size W1 W)=>refGroupC (hA1.out W hb) hF
  obtain ⟨hl1,hl2⟩:=grpL_le n ss
  obtain ⟨E,hE⟩:=exE (chkA n ss)
  obtain ⟨g,hg⟩:=exE (grpL n ss)
  simp only [hE,hg] at HG HH
  rw [hg] at hl1 hl2
  have hl3:Hid (∀ x∈g,x.length≤17592186044416):=fun x hx=>by have:=hl2 x hx; omega
  have e1:(E == E)=true:=by simp
  replace HG:=Lib.hid HG
  replace HH:=Lib.hid HH
  clear hfx hA1 hF hE hg hl2
  go_enter Tryz.func4, Tryz.ntmps4
  go_wp2_with fail
  rw [← hW1]
  replace hW1:=Lib.hid hW1
  refine HF.out.mono ?_
  rintro e W2 ⟨rfl,hb2⟩
  clear p0 p1
  obtain ⟨p0,p1⟩:=hK.out W2 hb2
  go_wp2_with fail
  refine (HG.out W2 hb2).mono ?_
  rintro e W3 ⟨r3,rfl,ho3,hq⟩
  have hb3:=btt hb2 hq
  obtain ⟨sa,sc,rfl⟩:=ho3.shape
  clear hq p0 p1
  obtain ⟨p0,p1⟩:=hK.out W3 hb3
  replace ho3:=Lib.hid ho3
  go_wp2_with fail
  refine (HH.out W3 hb3).mono ?_
  rintro e W4 ⟨r4,rfl,ho4,hq4⟩
  have hb4:=btt hb3 hq4
  obtain ⟨ta,tc,rfl⟩:=ho4.shape
  replace ho3:=Lib.hid (ho3.out.keep hq4)
  replace ho4:=Lib.hid ho4
  clear p0 p1 hq4
  go_wp2_with fail
  refine (awakeC (w:=W4)).mono ?_
  rintro e W5 ⟨rfl,hq5⟩
  have hb5:=btt hb4 hq5
  have HS:=Lib.hid (sAll ((ho3.out.keep hq5).intss (by omega) hl3.out) ((ho4.out.keep hq5).intss (by omega) hl3.out))
  clear hq5 ho3 ho4 HG HH
  go_wp2_with fail
  refine HS.out.mono ?_
  rintro e W6 ⟨rfl,hq⟩
  have hfin:=bt hb1 (btt hb5 hq.below) hb1.size
  go_wp2
  go_ret
  exact ⟨rfl,hfin⟩
end Go.Proofs.YtmikofeildnpdaaGreat

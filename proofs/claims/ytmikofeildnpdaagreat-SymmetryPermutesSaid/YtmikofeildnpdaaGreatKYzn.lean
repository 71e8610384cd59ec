/- Texts of this claim, put together: ZG YE. -/
import Derived.Test.YtmikofeildnpdaaGreatKYzm
import Derived.Test.YtmikofeildnpdaaGreatKYv
import Derived.Test.YtmikofeildnpdaaGreatKYzl
import Derived.Test.YtmikofeildnpdaaGreatKYzc
import Derived.Deep.RegionHeld3

set_option maxRecDepth 100000
set_option maxHeartbeats 12800000
/- roundtableref20.First, Equivalent. -/
namespace Go.Proofs.YtmikofeildnpdaaGreat
open Go.RowKit
def FiOut (w:World) (aa bb:List (List (List Int))) (e:Ending) (w':World):Prop:=∃ r R wd,e = .returned (.tuple #[r,.bool R])∧(R=false↔inW aa bb)∧OwX 87 7 EI w' w.heap.size r wd.length wd∧wd.length≤10001∧Below w.heap.size w w'
theorem firstC {w:World} {u v:Value} {m n:Int} {aa bb:List (List (List Int))} (ha:AdvC w u m aa) (hb:AdvC w v n bb) (wa:WfS aa) (wb:WfS bb) (la:aa.length≤100) (lb:bb.length≤100) (mb:∀ s∈bb,s.length≤50000) :
  Calls Tryz.prog 140 #[u,v] w (FiOut w aa bb):=by
 have HA:=Lib.hid ha
 have HB:=Lib.hid hb
 obtain ⟨xa,xc,hu⟩:=advShape' ha.adv
 obtain ⟨ya,yc,hv⟩:=advShape' hb.adv
 subst hu hv
 obtain ⟨W1,hW1⟩:=exF ((w.alloc (.cells #[.int .i64 m,.slice xa aa.length xc] 24)).alloc (.cells #[.int .i64 n,.slice ya bb.length yc] 24))
 obtain ⟨hb1,⟨p0,p1⟩,⟨q0,q1⟩,_,_⟩:=boxAdv2 hW1
 have HS:=Lib.hid (fsearchC (HA.out.keep hb1) (HB.out.keep hb1) wa wb la lb mb)
 clear ha hb wa wb la lb mb
 go_enter Tryz.func140, Tryz.ntmps140
 go_wp2_with fail
 rw [← hW1]
 replace hW1:=Lib.hid hW1
 refine HS.out.mono ?_
 rintro e W2 ⟨r,R,l,wd,rfl,hR,hO,hl,hb2⟩
 obtain ⟨ra,rc,rfl⟩:=hO.shape
 have hfin:=Lib.hid (hO.base (B':=w.heap.size) hb1.size)
 replace hR:=Lib.hid hR
 clear hO HS
 go_wp2
 go_ret2
 exact ⟨_,R,wd,rfl,hR.out,hfin.out,hl,bt hb1 hb2 hb1.size⟩
def EqOut (w:World) (aa bb:List (List (List Int))) (e:Ending) (w':World):Prop:=∃ l r,e = .returned (.tuple #[l,.bool r,.int .i64 0])∧(r=true↔eqW aa bb)∧Below w.heap.size w w'
theorem refEquivC {w:World} {u v:Value} {m n:Int} {aa bb:List (List (List Int))} (ha:AdvC w u m aa) (hb:AdvC w v n bb) (he:eqErr m n aa bb=0) (wa:WfS aa) (wb:WfS bb) (la:aa.length≤100) (lb:bb.length≤100) (ma:∀ s∈aa,s.length≤50000) (mb:∀ s∈bb,s.length≤50000) :
  Calls Tryz.prog 104 #[u,v] w (EqOut w aa bb):=by
 have HA:=Lib.hid ha
 have HB:=Lib.hid hb
 obtain ⟨xa,xc,hu⟩:=advShape' ha.adv
 obtain ⟨ya,yc,hv⟩:=advShape' hb.adv
 subst hu hv
 obtain ⟨W1,hW1⟩:=exF ((w.alloc (.cells #[.int .i64 m,.slice xa aa.length xc] 24)).alloc (.cells #[.int .i64 n,.slice ya bb.length yc] 24))
 obtain ⟨hb1,⟨p0,p1⟩,⟨q0,q1⟩,_,_⟩:=boxAdv2 hW1
 have HX:=refBoth20 (ha.adv.keep hb1) (hb.adv.keep hb1)
 rw [he] at HX
 replace HX:=Lib.hid HX
 have H1:=Lib.hid (fun W (h:Below W1.heap.size W1 W)=>firstC ((HA.out.keep hb1).keep h) ((HB.out.keep hb1).keep h) wa wb la lb mb)
 have H2:=Lib.hid (fun W (h:Below W1.heap.size W1 W)=>firstC ((HB.out.keep hb1).keep h) ((HA.out.keep hb1).keep h) wb wa lb la ma)
 have hK:=Lib.hid (fun W (hb:Below W1.heap.size W1 W)=>And.intro (cell_kept hb p0) (And.intro (cell_kept hb p1) (And.intro (cell_kept hb q0) (cell_kept hb q1))))
 clear ha hb he wa wb la lb ma mb
 go_enter Tryz.func104, Tryz.ntmps104
 go_wp2_with fail
 rw [← hW1]
 replace hW1:=Lib.hid hW1
 refine HX.out.mono ?_
 rintro e W2 ⟨rfl,hb2⟩
 clear p0 p1 q0 q1
 obtain ⟨k0,k1,k2,k3⟩:=hK.out W2 hb2
 go_wp2_with fail
 refine (H1.out W2 hb2).mono ?_
 rintro e W3 ⟨x,R1,wx,rfl,hR1,hOx,hlx,hb3⟩
 clear k0 k1 k2 k3
 have hb13:=btt hb2 hb3
 obtain ⟨k0,k1,k2,k3⟩:=hK.out W3 hb13
 obtain ⟨xa',xc',rfl⟩:=hOx.shape
 go_wp2_with fail
 refine (H2.out W3 hb13).mono ?_
 rintro e W4 ⟨y,R2,wy,rfl,hR2,hOy,hly,hb4⟩
 clear k0 k1 k2 k3 hK H1 H2 HX HA HB
 obtain ⟨ya',yc',rfl⟩:=hOy.shape
 have hb14:=btt hb13 hb4
 have hfin:=bt hb1 hb14 hb1.size
 have HO:=Lib.hid (orderC ((hOx.keep (EI.stab _) hb4).ks (by omega)) (hOy.ks (by omega)))
 obtain ⟨z,hz⟩:=exE (cmpL wx.flatten wy.flatten)
 rw [hz] at HO
 have hT:Hid (R1=false→R2=false→eqW aa bb):=fun h1 h2 u=>⟨hR2.1 h2 u,hR1.1 h1 u⟩
 have hF1:Hid (R1=true→¬ eqW aa bb):=fun h1 h=>by
  have:=hR1.2 fun u=>(h u).2
  rw [h1] at this; cases this
 have hF2:Hid (R2=true→¬ eqW aa bb):=fun h1 h=>by
  have:=hR2.2 fun u=>(h u).1
  rw [h1] at this; cases this
 clear hR1 hR2 hOx hOy hz
 cases R1 with
 | false=>
  cases R2 with
  | false=>
   have hh:=Lib.hid (hT.out rfl rfl)
   clear hT hF1 hF2
   go_wp2
   go_ret3
   exact ⟨_,true,rfl,⟨fun _=>hh.out,fun _=>rfl⟩,hfin⟩
  | true=>
   have hh:=Lib.hid (hF2.out rfl)
   clear hT hF1 hF2
   go_wp2
   go_ret3
   exact ⟨_,false,rfl,⟨fun h=>(by cases h),fun h=>absurd h hh.out⟩,hfin⟩
 | true=>
  have hh:=Lib.hid (hF1.out rfl)
  cases R2 with
  | false=>
   clear hT hF1 hF2
   go_wp2
   go_ret3
   exact ⟨_,false,rfl,⟨fun h=>(by cases h),fun h=>absurd h hh.out⟩,hfin⟩
  | true=>
   clear hT hF1 hF2
   rcases Nat.lt_trichotomy wx.length wy.length with hlt | hlt | hlt
   ·have h1:((wx.length:Int) < (wy.length:Int)):=by omega
    go_wp2_with fail
    go_ret3
    exact ⟨_,false,rfl,⟨fun h=>(by cases h),fun h=>absurd h hh.out⟩,hfin⟩
   ·have h1 : ¬ ((wx.length:Int) < (wy.length:Int)):=by omega
    have h2:((wx.length:Int) == (wy.length:Int))=true:=by simp; omega
    replace hlt:=Lib.hid hlt
    by_cases hz:z < 0
    ·have hd:decide (z < 0)=true:=decide_eq_true hz
     go_wp2_with fail
     refine HO.out.mono ?_
     rintro e W5 ⟨rfl,hb5,_⟩
     go_wp2_with fail
     go_ret3
     exact ⟨_,false,rfl,⟨fun h=>(by cases h),fun h=>absurd h hh.out⟩,bt hfin hb5 hfin.size⟩
    ·have hd:decide (z < 0)=false:=decide_eq_false hz
     go_wp2_with fail
     refine HO.out.mono ?_
     rintro e W5 ⟨rfl,hb5,_⟩
     go_wp2_with fail
     go_ret3
     exact ⟨_,false,rfl,⟨fun h=>(by cases h),fun h=>absurd h hh.out⟩,bt hfin hb5 hfin.size⟩
   ·have h1 : ¬ ((wx.length:Int) < (wy.length:Int)):=by omega
    have h2:((wx.length:Int) == (wy.length:Int))=false:=by simp; omega
    go_wp2_with fail
    go_ret3
    exact ⟨_,false,rfl,⟨fun h=>(by cases h),fun h=>absurd h hh.out⟩,hfin⟩
end Go.Proofs.YtmikofeildnpdaaGreat

/- roundtableref21.Permute, Keeps, Invariant, Group. -/
namespace Go.Proofs.YtmikofeildnpdaaGreat
open Go.RowKit
theorem refPermBad {w:World} {v u:Value} {n:Int} {a:List Int} {ss:List (List (List Int))} (hA:AdvV w v n ss) (hu:Ints w u a) (hE:perE n ss a ≠ 0) :
  Calls Tryz.prog 14 #[v,u] w fun e w'=>e = .returned (.tuple #[.agg #[.int .i64 0,.slice none 0 0],.int .i64 (perE n ss a)])∧Below w.heap.size w w':=by
 obtain ⟨xa,xc,hv⟩:=advShape' hA
 subst hv
 obtain ⟨W1,hW1⟩:=exF ((w.alloc (.cells #[.int .i64 n,.slice xa ss.length xc] 24)).alloc (.cells #[.int .i64 0,.slice none 0 0] 24))
 obtain ⟨hb1,⟨p0,p1⟩,⟨q0,q1⟩,hm1,_⟩:=boxAdv2 hW1
 have HX:=refCheckA (hA.keep hb1)
 have HF:=Lib.hid (fun W (h:Below w.heap.size w W)=>refFits (hu.keep h) n)
 have hK:=Lib.hid (fun W (hb:Below W1.heap.size W1 W)=>And.intro (cell_kept hb p0) (cell_kept hb p1))
 obtain ⟨E,hE1⟩:=exE (chkA n ss)
 obtain ⟨F,hF1⟩:=exE (fitE a n)
 have hr:perE n ss a=if E ≠ 0 then E else F:=by rw [perE,hE1,hF1]
 rw [hE1] at HX
 rw [hr] at hE ⊢
 simp only [hF1] at HF
 replace HX:=Lib.hid HX
 obtain ⟨ua,uc,hus⟩:∃ ua uc,u = .slice ua a.length uc:=by obtain ⟨ua,uc,_,_,h,_⟩:=hu; exact ⟨ua,uc,h⟩
 subst hus
 clear hr hE1 hF1 hA hu
 by_cases h1:E=0
 ·subst h1
  rw [if_neg (fun h=>h rfl)] at hE ⊢
  have hFb:(F != 0)=true:=by simp [hE]
  go_enter Tryz.func14, Tryz.ntmps14
  go_wp2_with fail
  rw [← hW1]
  replace hW1:=Lib.hid hW1
  refine HX.out.mono ?_
  rintro e W2 ⟨rfl,hb2⟩
  clear p0 p1 q0 q1
  obtain ⟨k0,k1⟩:=hK.out W2 hb2
  go_wp2_with fail
  refine (HF.out W2 (bt hb1 hb2 hb1.size)).mono ?_
  rintro e W3 ⟨rfl,hq3⟩
  have hb3:=hq3.below
  have hb13:=btt hb2 hb3
  have m3:=(hb13.block _ (Array.getElem?_eq_some_iff.1 hm1).1).trans hm1
  obtain ⟨z0,z1⟩:=boxL2 m3
  obtain ⟨f0,f1⟩:=freeL2 m3
  have hfin:=bt hb1 hb13 hb1.size
  clear k0 k1 HX HF hK hm1
  go_wp2
  refine storeEnd2 (u0:=.int .i64 0) (u1:=.slice none 0 0) m3 ?_
  intro W9 hW9 hb9 _ _ e0 e1
  rw [← hW9]
  refine bodyPost_ret (v:=.tuple #[.agg #[.int .i64 0,.slice none 0 0],.int .i64 F]) (by simp [results,Tryz.results14,go_sem,e0,e1]) rfl ?_
  exact ⟨rfl,hb9 _ _ (by omega) hfin⟩
 ·rw [if_pos h1]
  have hEb:(E != 0)=true:=by simp [h1]
  go_enter Tryz.func14, Tryz.ntmps14
  go_wp2_with fail
  rw [← hW1]
  replace hW1:=Lib.hid hW1
  refine HX.out.mono ?_
  rintro e W3 ⟨rfl,hb13⟩
  clear p0 p1 q0 q1
  have m3:=(hb13.block _ (Array.getElem?_eq_some_iff.1 hm1).1).trans hm1
  obtain ⟨z0,z1⟩:=boxL2 m3
  obtain ⟨f0,f1⟩:=freeL2 m3
  have hfin:=bt hb1 hb13 hb1.size
  clear HX HF hK hm1
  go_wp2
  refine storeEnd2 (u0:=.int .i64 0) (u1:=.slice none 0 0) m3 ?_
  intro W9 hW9 hb9 _ _ e0 e1
  rw [← hW9]
  refine bodyPost_ret (v:=.tuple #[.agg #[.int .i64 0,.slice none 0 0],.int .i64 E]) (by simp [results,Tryz.results14,go_sem,e0,e1]) rfl ?_
  exact ⟨rfl,hb9 _ _ (by omega) hfin⟩
theorem refPermGood {w:World} {v u:Value} {n:Nat} {a:List Int} {ss:List (List (List Int))} (hA:AdvV w v n ss) (hu:Ints w u a) (hW:WfN n ss) (ha:IsP n a) :
  Calls Tryz.prog 14 #[v,u] w fun e w'=>∃ r,e = .returned (.tuple #[r,.int .i64 0])∧OwAdv w' r n (renA a ss)∧Below w.heap.size w w':=by
 have hAk:=Lib.hid hA
 obtain ⟨xa,xc,hv⟩:=advShape' hA
 subst hv
 obtain ⟨W1,hW1⟩:=exF ((w.alloc (.cells #[.int .i64 (n:Int),.slice xa ss.length xc] 24)).alloc (.cells #[.int .i64 0,.slice none 0 0] 24))
 obtain ⟨hb1,⟨p0,p1⟩,⟨q0,q1⟩,hm1,_⟩:=boxAdv2 hW1
 have HX:=refCheckA (hA.keep hb1)
 have HF:=fun W (h:Below w.heap.size w W)=>refFits (hu.keep h) (n:Int)
 have HR:=Lib.hid (fun W (h:Below w.heap.size w W)=>refRenamedC (hAk.out.keep h) hW ha (hu.keep h))
 have hK:=Lib.hid (fun W (hb:Below W1.heap.size W1 W)=>And.intro (cell_kept hb p0) (cell_kept hb p1))
 rw [hW.chk] at HX
 simp only [(fit_isP hW.h1 hW.h5).2 ha] at HF
 replace HF:=Lib.hid HF
 replace HX:=Lib.hid HX
 obtain ⟨ua,uc,hus⟩:∃ ua uc,u = .slice ua a.length uc:=by obtain ⟨ua,uc,_,_,h,_⟩:=hu; exact ⟨ua,uc,h⟩
 subst hus
 clear hA hu hW ha
 go_enter Tryz.func14, Tryz.ntmps14
 go_wp2_with fail
 rw [← hW1]
 replace hW1:=Lib.hid hW1
 refine HX.out.mono ?_
 rintro e W2 ⟨rfl,hb2⟩
 clear p0 p1 q0 q1
 obtain ⟨k0,k1⟩:=hK.out W2 hb2
 go_wp2_with fail
 refine (HF.out W2 (bt hb1 hb2 hb1.size)).mono ?_
 rintro e W3 ⟨rfl,hq3⟩
 have hb3:=hq3.below
 clear k0 k1
 have hb13:=btt hb2 hb3
 obtain ⟨k0,k1⟩:=hK.out W3 hb13
 go_wp2_with fail
 refine (HR.out W3 (bt hb1 hb13 hb1.size)).mono ?_
 rintro e W4 ⟨r,rfl,hO,hb4⟩
 have hb14:=btt hb13 hb4
 have m3:=(hb14.block _ (Array.getElem?_eq_some_iff.1 hm1).1).trans hm1
 obtain ⟨z0,z1⟩:=boxL2 m3
 obtain ⟨f0,f1⟩:=freeL2 m3
 have hfin:=bt hb1 hb14 hb1.size
 obtain ⟨sv,rfl,hO1,hO2⟩:=hO
 obtain ⟨ra,rc,rfl⟩:=hO1.shape
 obtain ⟨RS,hRS⟩:=exE (renA a ss)
 rw [hRS] at hO1 hO2 ⊢
 replace hRS:=Lib.hid hRS
 clear k0 k1 HX HF HR hK hm1 hAk
 go_wp2
 refine storeEnd2 (u0:=.int .i64 (n:Int)) (u1:=.slice ra RS.length rc) m3 ?_
 intro W9 hW9 hb9 hk9 _ e0 e1
 rw [← hW9]
 refine bodyPost_ret (v:=.tuple #[.agg #[.int .i64 (n:Int),.slice ra RS.length rc],.int .i64 0]) (by simp [results,Tryz.results14,go_sem,e0,e1]) rfl ?_
 exact ⟨_,rfl,by rw [hRS.out]; exact ⟨_,rfl,hO1.other (ESt.stab (by decide)) (by decide) hk9,hO2⟩,hb9 _ _ (by omega) hfin⟩
theorem refKeeps {w:World} {v u:Value} {n:Nat} {a:List Int} {ss:List (List (List Int))} (hA:AdvC w v n ss) (hu:Ints w u a) (hF:FewS ss) (hW:WfN n ss) (ha:IsP n a) :
  Calls Tryz.prog 55 #[v,u] w fun e w'=>e = .returned (.bool (kpG ss a))∧Below w.heap.size w w':=by
 obtain ⟨xa,xc,hv⟩:=advShape' hA.adv
 subst hv
 obtain ⟨ua,uc,hus⟩:∃ ua uc,u = .slice ua a.length uc:=by obtain ⟨ua,uc,_,_,h,_⟩:=hu; exact ⟨ua,uc,h⟩
 subst hus
 obtain ⟨W1,hW1⟩:=exF (w.alloc (.cells #[.int .i64 (n:Int),.slice xa ss.length xc] 24))
 obtain ⟨hb1,p0,p1,_⟩:=boxAdv hW1
 have hl1:w.heap.size < W1.heap.size:=World.block_lt_of_cell? W1 _ p0
 have hWr:=hW.ren ha
 have HR:=Lib.hid (refRenamedC ((hA.adv.keep hb1).keep ((Below.refl _ W1).drew)) hW ha ((hu.keep hb1).keep ((Below.refl _ W1).drew)))
 have HE:=Lib.hid (fun W (h:Below W1.heap.size W1 W) (r:Value) (hr:OwAdv W r n (renA a ss))=>refEquivC ((hA.keep hb1).keep h) hr.advC (eqErr_z21 hW hWr) hW.s hWr.s hF.l (hF.ren a).l hF.st (hF.ren a).st)
 obtain ⟨R,hR⟩:=exE (kpG ss a)
 have hRk:Hid (∀ r:Bool,(r=true↔eqW ss (renA a ss))→r=R):=fun r hr=>by
  rw [← hR,Bool.eq_iff_iff,hr,kpG_iff]; exact Iff.rfl
 rw [hR]
 obtain ⟨RS,hRS⟩:=exE (renA a ss)
 rw [hRS] at HR HE hRk
 clear hA hu hF hW ha hWr hR hRS
 go_enter Tryz.func55, Tryz.ntmps55
 go_wp2_with fail
 rw [← hW1]
 replace hW1:=Lib.hid hW1
 go_region_held3 (fun w'=>w'.cell? ⟨w.heap.size,0,none⟩=some (.int .i64 (n:Int))∧w'.cell? ⟨w.heap.size,1,none⟩=some (.slice xa ss.length xc))
  (first
   | go_keep
   | (exact ⟨(hb9.cell (p:=⟨w.heap.size,0,none⟩) hl1).trans p0,(hb9.cell (p:=⟨w.heap.size,1,none⟩) hl1).trans p1⟩)
   | (exact ⟨((btt hb9 hb10).cell (p:=⟨w.heap.size,0,none⟩) hl1).trans p0,((btt hb9 hb10).cell (p:=⟨w.heap.size,1,none⟩) hl1).trans p1⟩))
  (first
   | (go_at_call 54; refine HR.out.mono ?_; rintro e w9 ⟨r9,rfl,hO9,hb9⟩; replace hb9:Below W1.heap.size W1 w9:=(Below.refl _ W1).drew.trans hb9)
   | (go_at_call 104; refine (HE.out _ hb9 _ hO9).mono ?_; rintro e w10 ⟨l,rr,rfl,hrr,hb10⟩))
 have hrR:=hRk.out rr hrr
 subst hrR
 have hfin:=bt hb1 (btt hb9 hb10) hb1.size
 go_wp2
 go_ret
 exact ⟨rfl,hfin⟩
theorem refInvariantC {w:World} {v u:Value} {n:Int} {a:List Int} {ss:List (List (List Int))} (hA:AdvC w v n ss) (hu:Ints w u a) (hF:FewS ss) :
  Calls Tryz.prog 16 #[v,u] w fun e w'=>e = .returned (.tuple #[.bool (invR n ss a),.int .i64 (perE n ss a)])∧Below w.heap.size w w':=by
 have hAk:=Lib.hid hA
 obtain ⟨xa,xc,hv⟩:=advShape' hA.adv
 subst hv
 obtain ⟨ua,uc,hus⟩:∃ ua uc,u = .slice ua a.length uc:=by obtain ⟨ua,uc,_,_,h,_⟩:=hu; exact ⟨ua,uc,h⟩
 subst hus
 obtain ⟨W1,hW1⟩:=exF (w.alloc (.cells #[.int .i64 n,.slice xa ss.length xc] 24))
 obtain ⟨hb1,p0,p1,_⟩:=boxAdv hW1
 have hK:=Lib.hid (fun W (hb:Below W1.heap.size W1 W)=>And.intro (cell_kept hb p0) (cell_kept hb p1))
 have HX:=refCheckA (hA.adv.keep hb1)
 have HF:=fun W (h:Below w.heap.size w W)=>refFits (hu.keep h) n
 have HKp:Hid (∀ W,Below W1.heap.size W1 W→perE n ss a=0→Calls Tryz.prog 55 #[.agg #[.int .i64 n,.slice xa ss.length xc],.slice ua a.length uc] W fun e w'=>e = .returned (.bool (invR n ss a))∧Below W.heap.size W w'):=fun W hb hz=>by
  have hcz:chkA n ss=0:=by
   unfold perE at hz
   split at hz
   ·rename_i k; exact absurd hz k
   ·rename_i k; exact Decidable.not_not.1 k
  obtain ⟨k,rfl,hW⟩:=wfN_of hAk.out.adv hcz
  have ha:IsP k a:=by
   unfold perE at hz
   rw [if_neg (fun h=>h hcz)] at hz
   exact (fit_isP hW.h1 hW.h5).1 hz
  rw [invR,if_pos hz]
  exact refKeeps ((hAk.out.keep hb1).keep hb) ((hu.keep hb1).keep hb) hF hW ha
 obtain ⟨E,hE⟩:=exE (chkA n ss)
 obtain ⟨F,hF1⟩:=exE (fitE a n)
 have hr:perE n ss a=if E ≠ 0 then E else F:=by rw [perE,hE,hF1]
 have hi:perE n ss a ≠ 0→invR n ss a=false:=fun h=>by rw [invR,if_neg h]
 rw [hE] at HX
 rw [hr] at hi ⊢
 simp only [hF1] at HF
 simp only [hr] at HKp
 obtain ⟨R,hR⟩:=exE (invR n ss a)
 rw [hR] at hi ⊢
 simp only [hR] at HKp
 replace HX:=Lib.hid HX
 replace HF:=Lib.hid HF
 clear hr hE hF1 hA hu hF hR
 by_cases h1:E=0
 ·subst h1
  rw [if_neg (fun h=>h rfl)] at hi ⊢
  rw [if_neg (fun h=>h rfl)] at HKp
  by_cases h2:F=0
  ·subst h2
   go_enter Tryz.func16, Tryz.ntmps16
   go_wp2_with fail
   rw [← hW1]
   replace hW1:=Lib.hid hW1
   refine HX.out.mono ?_
   rintro e W2 ⟨rfl,hb2⟩
   clear p0 p1
   obtain ⟨p0,p1⟩:=hK.out W2 hb2
   go_wp2_with fail
   refine (HF.out W2 (bt hb1 hb2 hb1.size)).mono ?_
   rintro e W3 ⟨rfl,hq3⟩
   have hb13:=btt hb2 hq3.below
   clear p0 p1
   obtain ⟨p0,p1⟩:=hK.out W3 hb13
   go_wp2_with fail
   refine (HKp.out W3 hb13 trivial).mono ?_
   rintro e W4 ⟨rfl,hb4⟩
   have hfin:=bt hb1 (btt hb13 hb4) hb1.size
   go_wp2
   go_ret2
   exact ⟨rfl,hfin⟩
  ·have hFb:(F != 0)=true:=by simp [h2]
   obtain rfl:=hi h2
   go_enter Tryz.func16, Tryz.ntmps16
   go_wp2_with fail
   rw [← hW1]
   replace hW1:=Lib.hid hW1
   refine HX.out.mono ?_
   rintro e W2 ⟨rfl,hb2⟩
   clear p0 p1
   obtain ⟨p0,p1⟩:=hK.out W2 hb2
   go_wp2_with fail
   refine (HF.out W2 (bt hb1 hb2 hb1.size)).mono ?_
   rintro e W3 ⟨rfl,hq3⟩
   have hfin:=bt hb1 (btt hb2 hq3.below) hb1.size
   clear HKp
   go_wp2
   go_ret2
   exact ⟨rfl,hfin⟩
 ·rw [if_pos h1] at hi ⊢
  have hEb:(E != 0)=true:=by simp [h1]
  obtain rfl:=hi h1
  clear HKp
  go_enter Tryz.func16, Tryz.ntmps16
  go_wp2_with fail
  rw [← hW1]
  replace hW1:=Lib.hid hW1
  refine HX.out.mono ?_
  rintro e W2 ⟨rfl,hb2⟩
  have hfin:=bt hb1 hb2 hb1.size
  go_wp2
  go_ret2
  exact ⟨rfl,hfin⟩
theorem refGroupC {w:World} {v:Value} {n:Int} {ss:List (List (List Int))} (hA:AdvC w v n ss) (hF:FewS ss):Calls Tryz.prog 19 #[v] w (RII w (grpL n ss) (chkA n ss)):=by
 have hmx : Tryz.prog.follows .mixedOrders=true:=by kernel_rfl
 have hAk:=Lib.hid hA
 obtain ⟨xa,xc,hv⟩:=advShape' hA.adv
 subst hv
 obtain ⟨W1,hW1⟩:=exF (w.alloc (.cells #[.int .i64 n,.slice xa ss.length xc] 24))
 obtain ⟨hb1,p0,p1,m1⟩:=boxAdv hW1
 have hK:=Lib.hid (fun W (hb:Below W1.heap.size W1 W)=>And.intro (cell_kept hb p0) (cell_kept hb p1))
 have HX:=refCheckA (hA.adv.keep hb1)
 obtain ⟨E,hE⟩:=exE (chkA n ss)
 rw [hE] at HX
 replace HX:=Lib.hid HX
 by_cases h0:E=0
 ·subst h0
  obtain ⟨k,rfl,hW⟩:=wfN_of hA.adv hE
  have hgl:grpL k ss=(everyL k).filter (kpG ss):=by rw [grpL,if_pos hE,Int.toNat_natCast]
  have h5:=hW.h5
  have hKp:=Lib.hid (fun W (hb:Below W1.heap.size W1 W) x (hx:x∈everyL k) u (hu:OI W 0 u x.length x)=>refKeeps ((hAk.out.keep hb1).keep hb) (hu.ints (by have:=(mem_everyL.1 hx).1; omega)) hF hW (mem_everyL.1 hx))
  have HEv:=Lib.hid (fun W=>every k h5 W)
  have hel:=every_len h5
  rw [hgl,hE]
  obtain ⟨p,hp⟩:=exE (kpG ss)
  rw [hp]
  simp only [hp] at hKp
  obtain ⟨L,hL⟩:=exE (everyL k)
  rw [hL] at hel ⊢
  simp only [hL] at hKp HEv
  clear hA hF hW hE hgl hp hL
  go_enter Tryz.func19, Tryz.ntmps19
  go_wp2_with fail
  rw [← hW1]
  replace hW1:=Lib.hid hW1
  refine HX.out.mono ?_
  rintro e W2 ⟨rfl,hb2⟩
  clear p0 p1
  obtain ⟨p0,p1⟩:=hK.out W2 hb2
  go_wp2_with fail
  refine (HEv.out W2).mono ?_
  rintro e W3 ⟨r3,rfl,ho3,hb3⟩
  have hb13:=btt hb2 hb3
  obtain ⟨va,vc,hv3⟩:=ho3.shape
  subst hv3
  have ho3:=Lib.hid (ho3.base (Nat.zero_le _))
  have hs3:=hb3.size
  have hr0:OII W3 W3.heap.size (.slice none 0 0) ((L.take 0).filter p).length ((L.take 0).filter p):=OII.nil _ _
  have hbr0:=Below.refl W3.heap.size W3
  have hs13:=hb13.size
  clear p0 p1 HX HEv
  go_wp2_with fail
  go_loopw [5,7] (fun ov iv wr=>∃ i:Nat,iv = .int .i64 (i:Int)∧i≤L.length∧OII wr W3.heap.size ov ((L.take i).filter p).length ((L.take i).filter p)∧Hid (Below W3.heap.size W3 wr)) (fun _ iv _=>L.length - (intOf iv).toNat)
  case atStart=>exact ⟨0,rfl,Nat.zero_le _,hr0,hbr0⟩
  case round=>
   clear hr0 hbr0
   obtain ⟨i,rfl,hi,ho,hb⟩:=hrel
   have hoL:=ho3.out.keep hb.out
   have hb1r:=btt hb13 hb.out
   obtain ⟨oa,oc,hov⟩:=ho.shape
   subst hov
   by_cases hlt:i < L.length
   ·have hltI:(i:Int) < (L.length:Int):=by omega
    obtain ⟨g,cap,he⟩:=hoL.form2 (by omega)
    obtain ⟨rfl,rfl⟩:va=some ⟨g,0,none⟩∧vc=cap:=by injection he with h1 h2 h3; exact ⟨h1,h3⟩
    obtain ⟨u,hcu,hu⟩:=hoL.get hlt
    obtain ⟨x,hx⟩:=exE (L.getD i [])
    have hxm:x∈L:=by rw [← hx]; exact getD_mem hlt
    rw [hx] at hu
    obtain ⟨ua,uc,huv⟩:=hu.shape
    subst huv
    have hfs:(L.take (i+1)).filter p=(L.take i).filter p++if p x then [x] else []:=by
     rw [take_snoc hlt [],hx,List.filter_append]
     cases hp:p x <;> simp [hp]
    have HC:=Lib.hid (fun W (h:Below wr.heap.size wr W)=>hKp.out W (btt hb1r h) x hxm _ (hu.keep h))
    obtain ⟨N,hN⟩:=exE (((L.take i).filter p).length)
    have hNl:N≤L.length:=by rw [← hN]; exact Nat.le_trans (List.length_filter_le _ _) (by rw [List.length_take]; omega)
    rw [hN] at ho ⊢
    have hS:=Lib.hid (fun W (h:Below wr.heap.size wr W)=>And.intro (hK.out W (btt hb1r h)) (cell_kept h hcu))
    obtain ⟨B,hB⟩:=exE (p x)
    rw [hB] at hfs
    simp only [hB] at HC
    replace hB:=Lib.hid hB
    clear hx he
    go_upto_region 9 with fail
    refine wp_region_bw hmx (by kernel_rfl) ?_
    (refine WQ.step (fun K hK => ?_)
     go_simp
     first
       | (refine hK _ ?_; clear hK K)
       | (apply Exists.intro
          refine ⟨fun wq hC => ?_, hK _ ?_⟩
          · (obtain ⟨⟨z0,z1⟩,z2⟩:=hS.out wq hC; go_simp; first | done | with_reducible rfl | with_reducible exact ⟨rfl,rfl⟩)
          clear hK K))
    (refine WQ.step (fun K hK => ?_)
     go_simp
     first
       | (refine hK _ ?_; clear hK K)
       | (apply Exists.intro
          refine ⟨fun wq hC => ?_, hK _ ?_⟩
          · (with_reducible rfl)
          clear hK K))
    (refine WQ.step (fun K hK => ?_)
     go_simp
     first
       | (refine hK _ ?_; clear hK K)
       | (apply Exists.intro
          refine ⟨fun wq hC => ?_, hK _ ?_⟩
          · (with_reducible rfl)
          clear hK K))
    (refine WQ.step (fun K hK => ?_)
     go_simp
     first
       | (refine hK _ ?_; clear hK K)
       | (apply Exists.intro
          refine ⟨fun wq hC => ?_, hK _ ?_⟩
          · (go_simp; first | done | with_reducible rfl | with_reducible exact ⟨rfl,rfl⟩)
          clear hK K))
    (refine WQ.step (fun K hK => ?_)
     go_simp
     first
       | (refine hK _ ?_; clear hK K)
       | (apply Exists.intro
          refine ⟨fun wq hC => ?_, hK _ ?_⟩
          · (obtain ⟨⟨z0,z1⟩,z2⟩:=hS.out wq hC; go_simp; first | done | with_reducible rfl | with_reducible exact ⟨rfl,rfl⟩)
          clear hK K))
    (refine WQ.step (fun K hK => ?_)
     go_simp
     first
       | (refine hK _ ?_; clear hK K)
       | (apply Exists.intro
          refine ⟨fun wq hC => ?_, hK _ ?_⟩
          · (refine (HC.out wq hC).mono ?_; rintro e w' ⟨rfl,hb⟩; exact ⟨rfl,bt hC hb hC.size⟩)
          clear hK K))
    refine WQ.nil ?_
    intro w4 hb4
    have ho4:=ho.keep hb4
    have hu4:=hu.keep hb4
    have hc4:=cell_kept hb4 hcu
    have hbw:Below W3.heap.size W3 w4:=btt hb.out hb4
    clear ho hu hcu hoL hS HC
    cases B with
    | true=>
     rw [if_pos rfl] at hfs
     have hfl:((L.take (i+1)).filter p).length=N+1:=by rw [hfs,List.length_append,hN]; rfl
     replace hfs:=Lib.hid hfs
     replace hfl:=Lib.hid hfl
     replace hN:=Lib.hid hN
     go_wp2_with (at_builtin; refine wpApp1S rfl _ _ rfl rfl ho4 rfl hu4 rfl (by omega) hbw.size ?_; intro v2 w2 ho2 hb2 hm2)
     have hfin:OII w2 W3.heap.size v2 ((L.take (i+1)).filter p).length ((L.take (i+1)).filter p):=by rw [hfl.out,hfs.out]; exact ho2
     have hbf:Below W3.heap.size W3 w2:=hbw.trans hb2
     clear ho2 ho4
     go_wp2_with fail
     go_roundw
     case rel=>exact ⟨i+1,by go_num,by omega,hfin,hbf⟩
     case measure=>simp [intOf]; omega
    | false=>
     rw [if_neg (by decide),List.append_nil] at hfs
     have hfl:((L.take (i+1)).filter p).length=N:=by rw [hfs,hN]
     replace hfs:=Lib.hid hfs
     replace hfl:=Lib.hid hfl
     replace hN:=Lib.hid hN
     have hfin:OII w4 W3.heap.size (.slice oa N oc) ((L.take (i+1)).filter p).length ((L.take (i+1)).filter p):=by rw [hfl.out,hfs.out]; exact ho4
     clear ho4
     go_wp2_with fail
     go_roundw
     case rel=>exact ⟨i+1,by go_num,by omega,hfin,hbw⟩
     case measure=>simp [intOf]; omega
   ·obtain rfl:i=L.length:=by omega
    rw [List.take_length] at ho ⊢
    have hfin:=bt hb1 hb1r hb1.size
    have hbs:=hb1.size
    have hof:OII wr w.heap.size (.slice oa (L.filter p).length oc) (L.filter p).length (L.filter p):=ho.base (by omega)
    clear ho
    go_wp2
    go_ret2
    exact ⟨_,rfl,hof,hfin⟩
 ·have hgl:grpL n ss = []:=by rw [grpL,if_neg (by rw [hE]; exact h0)]
  have hEb:(E != 0)=true:=by simp [h0]
  rw [hgl,hE]
  clear hA hF hE hgl
  go_enter Tryz.func19, Tryz.ntmps19
  go_wp2_with fail
  rw [← hW1]
  replace hW1:=Lib.hid hW1
  refine HX.out.mono ?_
  rintro e W2 ⟨rfl,hb2⟩
  have hfin:=bt hb1 hb2 hb1.size
  go_wp2
  go_ret2
  exact RII.none rfl rfl hfin
end Go.Proofs.YtmikofeildnpdaaGreat

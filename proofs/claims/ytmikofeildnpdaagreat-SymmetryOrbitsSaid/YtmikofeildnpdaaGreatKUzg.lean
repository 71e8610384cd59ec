/- Texts of this claim, put together: ZD RB ZF ZH. -/
import Derived.Test.YtmikofeildnpdaaGreatKUzf
import Derived.Test.YtmikofeildnpdaaGreatKUi
import Derived.Test.YtmikofeildnpdaaGreatKUq
import Derived.Test.YtmikofeildnpdaaGreatKUt
import Derived.Deep.Cut
import Derived.Test.YtmikofeildnpdaaGreatKUm
import Derived.Test.YtmikofeildnpdaaGreatKUl
import Derived.Test.YtmikofeildnpdaaGreatKUze
import Derived.Test.YtmikofeildnpdaaGreatKUs

set_option maxRecDepth 100000
set_option maxHeartbeats 12800000
/- symmetry.renamed. -/
namespace Go.Proofs.YtmikofeildnpdaaGreat
open Go.RowKit
theorem OwX.capD {α:Type} {E:TypeId} {k:Nat} {El:World→List Value→α→Prop} {w:World} {B n m c:Nat} {a:Option Addr} {xs:List α} (h:OwX E k El w B (.slice a m c) n xs):n≤c:=by
 obtain ⟨vs,h1,_⟩:=h
 rcases h1.2 with ⟨he,h0⟩ | ⟨g,cap,cur,he,_,_,hc,_⟩
 ·omega
 ·injection he with _ _ e3
  subst e3; exact hc
theorem OwX.ksc {w:World} {B n:Nat} {v:Value} {xs:List (List Int)} (h:OwX 100 8 EI w B v n xs) (hn:n≤2199023255552):KSC 8 w v xs:=by
 have hl:=h.length
 subst hl
 obtain ⟨a,c,rfl⟩:=h.shape
 have hcap:=h.capD
 obtain ⟨a',c',b,off,he,h1,h2,h3⟩:=h.ks hn
 injection he with e1 e2 e3
 subst e1 e3
 exact ⟨_,_,b,off,rfl,h1,h2,h3,hcap⟩
theorem OwAdv.advC {w:World} {v:Value} {n:Int} {ss:List (List (List Int))} (h:OwAdv w v n ss):AdvC w v n ss:=by
 obtain ⟨sv,rfl,hO,hl,hx⟩:=h
 rcases Nat.eq_zero_or_pos ss.length with h0 | h0
 ·obtain ⟨a,c,rfl⟩:=hO.shape
  obtain rfl:=List.length_eq_zero_iff.1 h0
  exact ⟨a,c,0,0,rfl,by simp,fun j hj=>by simp at hj,hl⟩
 ·obtain ⟨g,cap,rfl,_⟩:=hO.form h0
  refine ⟨_,cap,g,0,rfl,fun _=>rfl,fun j hj=>?_,hl⟩
  have hx':ss[j]? = some (ss.getD j []):=by rw [getD_eq hj]; exact List.getElem?_eq_some_iff.2 ⟨hj,rfl⟩
  obtain ⟨cs,h1,⟨u,h2,h3⟩,h4⟩:=hO.cells hx'
  refine ⟨u,?_,h3.ksc (hx _ (List.mem_of_getElem? hx'))⟩
  have:=h4 0 u (by rw [h2]; rfl)
  rw [Nat.mul_one,Nat.add_zero] at this
  rw [Nat.zero_add]; exact this
theorem moveM {w:World} {u:Value} {n:Nat} {a mv:List Int} (h1:1≤n) (h5:n≤5) (hM:MvN n mv) (ha:IsP n a) (hu:Ints w u a) :
  Calls Tryz.prog 98 #[u,mVal mv] w fun e w'=>e = .returned (.tuple #[mVal (renM a mv),.int .i64 0])∧Below w.heap.size w w':=by
 obtain ⟨hl,hs,f,hR,hrd⟩:=hM
 obtain ⟨y0,y1,y2,y3,y4,y5,y6,y7,rfl⟩:=eight hl
 have e1 : [y0,y1,y2,y3,y4,y5,y6,y7]=mkR n hs f ++ [y7]:=by rw [← hrd]; rfl
 have e2:renM a [y0,y1,y2,y3,y4,y5,y6,y7]=renR a (mkR n hs f) ++ [y7]:=by rw [renM,hrd]; rfl
 rw [e2,e1]
 exact moveC h1 h5 hR ha hu
theorem renamedC {w:World} {v u:Value} {n:Nat} {a:List Int} {ss:List (List (List Int))} (hA:AdvV w v n ss) (hW:WfN n ss) (ha:IsP n a) (hu:Ints w u a) :
  Calls Tryz.prog 52 #[v,u] w fun e w'=>∃ r,e = .returned (.tuple #[r,.int .i64 0])∧OwAdv w' r n (renA a ss)∧Below w.heap.size w w':=by
 obtain ⟨sv,rfl,hK⟩:=hA
 obtain ⟨sa,sc,hsv⟩:=hK.shape
 subst hsv
 obtain ⟨W1,hW1⟩:=exF (((w.alloc (.cells #[.int .i64 (n:Int),.slice sa ss.length sc] 24)).alloc (.cells #[.int .i64 0,.slice none 0 0] 24)).alloc (.cells #[.int .i64 (n:Int),.slice none 0 0] 24))
 have hb1:Below w.heap.size w W1:=by rw [hW1]; exact (((Below.refl _ w).alloc (Nat.le_refl _) _).alloc (by simp) _).alloc (by simp; omega) _
 have hs1:W1.heap.size=w.heap.size+3:=by rw [hW1]; simp
 have m0:W1.heap[w.heap.size]? = some (.cells #[.int .i64 (n:Int),.slice sa ss.length sc] 24):=by rw [hW1]; exact (Below.heap_alloc _ _ _ (by simp; omega)).trans ((Below.heap_alloc _ _ _ (by simp)).trans (heap_alloc_new _ _))
 have m1:W1.heap[w.heap.size+1]? = some (.cells #[.int .i64 0,.slice none 0 0] 24):=by
  have h:=heap_alloc_new (w.alloc (.cells #[.int .i64 (n:Int),.slice sa ss.length sc] 24)) (.cells #[.int .i64 0,.slice none 0 0] 24)
  rw [World.size_alloc] at h
  rw [hW1]; exact (Below.heap_alloc _ _ _ (by simp)).trans h
 have m2:W1.heap[w.heap.size+2]? = some (.cells #[.int .i64 (n:Int),.slice none 0 0] 24):=by
  have h:=heap_alloc_new ((w.alloc (.cells #[.int .i64 (n:Int),.slice sa ss.length sc] 24)).alloc (.cells #[.int .i64 0,.slice none 0 0] 24)) (.cells #[.int .i64 (n:Int),.slice none 0 0] 24)
  rw [World.size_alloc,World.size_alloc] at h
  rw [hW1]; exact h
 obtain ⟨p0,p1⟩:=boxL2 m0
 have HM:=Lib.hid (fun W (h:Below w.heap.size w W) mv (hm:MvN n mv)=>moveM hW.h1 hW.h5 hm ha (hu.keep h))
 have hUS:∃ ua uc,u = .slice ua a.length uc:=by obtain ⟨ua,uc,_,_,h,_⟩:=hu; exact ⟨ua,uc,h⟩
 obtain ⟨ua,uc,rfl⟩:=hUS
 have hKh:=Lib.hid hK
 have hmv:=Lib.hid hW.mv
 have hne:=Lib.hid hW.ne
 have h1:=hW.h1
 have h5:=hW.h5
 have hl2:=hW.l2
 have hml:Hid (∀ s∈ss,s.length≤4096):=fun s hs=>Nat.le_trans (mem_movesN hs) hW.l3
 have hasc:=Lib.hid hW.asc
 have hah:=Lib.hid ha
 replace hs1:=Lib.hid hs1
 have hMl:Hid (∀ mv,MvN n mv→(renM a mv).length=8):=fun mv hm=>(renM_facts h1 h5 hah.out hm).2.2.1.1
 obtain ⟨RS,hRS⟩:=exE (renA a ss)
 have hRSl:Hid (RS.length=ss.length):=by rw [← hRS,renA,List.length_map]; exact rfl
 have hRSi:Hid (∀ i,i < ss.length→RS.getD i []=renS a (ss.getD i [])):=fun i hi=>by rw [← hRS,renA_getD]
 rw [hRS]
 replace hRS:=Lib.hid hRS
 have ho1:OwX 98 1 ESt W1 (w.heap.size+3) (.slice none 0 0) 0 (RS.take 0):=OwX.nil _ _
 clear hK hu hW ha
 go_enter Tryz.func52, Tryz.ntmps52
 go_wp2_with fail
 rw [← hW1]
 replace hW1:=Lib.hid hW1
 go_loopw [23] (fun iv wr=>∃ (i:Nat) (sv:Value),iv = .int .i64 (i:Int)∧i≤ss.length∧Hid (Below w.heap.size w wr)∧wr.heap[w.heap.size+1]? = some (.cells #[.int .i64 0,.slice none 0 0] 24)∧wr.heap[w.heap.size+2]? = some (.cells #[.int .i64 (n:Int),sv] 24)∧
  OwX 98 1 ESt wr (w.heap.size+3) sv i (RS.take i)∧w.heap.size+3≤wr.heap.size) (fun iv _=>ss.length - (intOf iv).toNat)
 case atStart=>exact ⟨0,_,rfl,Nat.zero_le _,hb1,m1,m2,ho1,by rw [hs1.out]; exact Nat.le_refl _⟩
 case round=>
  clear m0 m1 m2 ho1 p0 p1 hW1 hb1
  obtain ⟨i,sv,rfl,hi,hb,c1,c2,ho,hsz⟩:=hrel
  obtain ⟨va,vc,hsv⟩:=ho.shape
  subst hsv
  by_cases hlt:i < ss.length
  ·have hltI:(i:Int) < (ss.length:Int):=by omega
   obtain ⟨aa,ac,ab,ao,hav,hab,hacc,_⟩:=hKh.out.keep hb.out
   injection hav with hav1 hav2 hav3
   have hab:=hab (by omega)
   rw [← hav1] at hab
   subst hab
   obtain ⟨um,hcu,hum⟩:=hacc i hlt
   obtain ⟨ms,hms⟩:=exE (ss.getD i [])
   have hmem:ms∈ss:=by rw [← hms]; exact getD_mem hlt
   rw [hms] at hum
   have hmm:=Lib.hid (hmv.out ms hmem)
   have hm0:=hne.out ms hmem
   have hm9:=hml.out ms hmem
   obtain ⟨ma,mc,mb,mo,rfl,hma,hmc,_⟩:=hum
   obtain rfl:=hma (by omega)
   replace hmc:Hid (∀ j,j < ms.length→(ms.getD j []).length=8∧CI wr mb (mo+j * 8) (ms.getD j [])):=hmc
   obtain ⟨wo,hwo⟩:=exF (wr)
   subst hwo
   obtain ⟨M,hMM⟩:=exE (ms.map (renM a))
   have hMMl:Hid (M.length=ms.length):=by rw [← hMM,List.length_map]; exact rfl
   have hMi:Hid (∀ j,j < ms.length→M.getD j []=renM a (ms.getD j [])):=fun j hj=>by rw [← hMM,getD_eq (by rw [List.length_map]; exact hj),List.getElem_map,getD_eq hj]
   replace hMM:=Lib.hid hMM
   have hown0:OwX 100 8 EI wo wo.heap.size (.slice none 0 0) 0 (M.take 0):=OwX.nil _ _
   have hbo:=Below.refl wo.heap.size wo
   clear hav2 hav3 hacc hav1
   go_wp2_with fail
   go_loopw [10,29] (fun ov jv wr=>∃ j:Nat,jv = .int .i64 (j:Int)∧j≤ms.length∧OwX 100 8 EI wr wo.heap.size ov j (M.take j)∧Hid (Below wo.heap.size wo wr)) (fun _ jv _=>ms.length - (intOf jv).toNat)
   case atStart=>exact ⟨0,rfl,Nat.zero_le _,hown0,hbo⟩
   case round=>
    clear hown0 hbo
    obtain ⟨j,rfl,hj,how,hbo⟩:=hrel
    obtain ⟨oa,oc,hov⟩:=how.shape
    subst hov
    by_cases hltj:j < ms.length
    ·have hltJ:(j:Int) < (ms.length:Int):=by omega
     obtain ⟨hx8,hxc⟩:=hmc.out j hltj
     obtain ⟨x,hx⟩:=exE (ms.getD j [])
     have hxM:MvN n x:=hmm.out x (by rw [← hx]; exact getD_mem hltj)
     have hstep:M.take (j+1)=M.take j ++ [renM a x]:=by rw [take_snoc (by rw [hMMl.out]; exact hltj) [],hMi.out j hltj,hx]
     rw [hx] at hx8 hxc
     have hr8:=hMl.out x hxM
     obtain ⟨rm,hrm⟩:=exE (renM a x)
     have HC:=Lib.hid (fun W (h:Below w.heap.size w W)=>HM.out W h x hxM)
     rw [hrm] at HC hr8 hstep
     obtain ⟨k0,k1,k2,k3,k4,k5,k6,k7,rfl⟩:=eight hr8
     obtain ⟨y0,y1,y2,y3,y4,y5,y6,y7,rfl⟩:=eight hx8
     simp only [mVal,List.map_cons,List.map_nil] at HC
     obtain ⟨q0,q1,q2,q3,q4,q5,q6,q7⟩:=(hxc.keep hbo.out).all8
     have hbw:Below w.heap.size w wr:=bt hb.out hbo.out hb.out.size
     obtain ⟨W5,hW5⟩:=exF (wr.alloc (.cells #[.int .i64 y0,.int .i64 y1,.int .i64 y2,.int .i64 y3,.int .i64 y4,.int .i64 y5,.int .i64 y6,.int .i64 y7] 100))
     have hb5:Below wr.heap.size wr W5:=by rw [hW5]; exact (Below.refl _ _).alloc (Nat.le_refl _) _
     replace hstep:=Lib.hid hstep
     clear hx hxM hx8 hxc hr8 hrm
     go_wp2_with fail
     rw [← hW5]
     replace hW5:=Lib.hid hW5
     refine (HC.out W5 (bt hbw hb5 hbw.size)).mono ?_
     rintro e w6 ⟨rfl,hb6⟩
     clear q0 q1 q2 q3 q4 q5 q6 q7
     obtain ⟨W7,hW7⟩:=exF (w6.alloc (.cells #[.int .i64 k0,.int .i64 k1,.int .i64 k2,.int .i64 k3,.int .i64 k4,.int .i64 k5,.int .i64 k6,.int .i64 k7] 100))
     have hb7:Below w6.heap.size w6 W7:=by rw [hW7]; exact (Below.refl _ _).alloc (Nat.le_refl _) _
     have m7:W7.heap[w6.heap.size]? = some (.cells #[.int .i64 k0,.int .i64 k1,.int .i64 k2,.int .i64 k3,.int .i64 k4,.int .i64 k5,.int .i64 k6,.int .i64 k7] 100):=by rw [hW7]; exact heap_alloc_new _ _
     have hb17:Below wr.heap.size wr W7:=btt hb5 (btt hb6 hb7)
     have how7:=how.keep (EI.stab _) hb17
     have hbo7:Below wo.heap.size wo W7:=bt hbo.out hb17 hbo.out.size
     obtain ⟨j0,j1,j2,j3,j4,j5,j6,j7⟩:=boxL8 m7
     have hEI:EI W7 [.int .i64 k0,.int .i64 k1,.int .i64 k2,.int .i64 k3,.int .i64 k4,.int .i64 k5,.int .i64 k6,.int .i64 k7] [k0,k1,k2,k3,k4,k5,k6,k7]:=rfl
     have hc8:∀ u∈(#[.int .i64 k0,.int .i64 k1,.int .i64 k2,.int .i64 k3,.int .i64 k4,.int .i64 k5,.int .i64 k6,.int .i64 k7]:Array Value).toList,u.oneCell'=true:=fun u hu=>by
      simp only [List.mem_cons,List.not_mem_nil,or_false] at hu
      rcases hu with rfl | rfl | rfl | rfl | rfl | rfl | rfl | rfl <;> rfl
     clear how m7
     go_upto_region 11 with fail
     rw [← hW7]
     replace hW7:=Lib.hid hW7
     go_wp2_with (at_builtin; refine wpAppX elemMv (by decide) (by decide) (EI.stab _) rfl _ _ rfl rfl how7 rfl rfl rfl hc8 hEI (by omega) hbo7.size ?_)
     intro v' w9 how9 _ hb9 _
     rw [← hstep.out] at how9
     clear how7 j0 j1 j2 j3 j4 j5 j6 j7
     go_wp2_with fail
     go_roundw
     case rel=>exact ⟨j+1,by go_num,by omega,how9,hbo7.trans hb9⟩
     case measure=>simp [intOf]; omega
    ·obtain rfl:j=ms.length:=by omega
     rw [List.take_of_length_le (by rw [hMMl.out]; exact Nat.le_refl _)] at how
     obtain ⟨g1,cap1,hge,hg1⟩:=how.form hm0
     injection hge with e1 e2 e3
     subst e1 e3
     have HS:=Lib.hid (sortMvs how (by omega))
     go_wp2_with fail
     refine HS.out.mono ?_
     rintro e w2 ⟨rfl,ys,hperm,hpw,hoy,hbs,hkx⟩
     obtain ⟨rs,hrs⟩:=exE (RS.getD i [])
     have hys:ys=rs:=by
      rw [← hrs,hRSi.out i hlt,hms,renS,hMM.out]
      exact srtB_uniq weakM hperm hpw (by rw [← hMM.out]; exact renS_anti h1 h5 hah.out (hasc.out ms hmem) hmm.out)
     have hbo2:Below wo.heap.size wo w2:=hbo.out.trans hbs
     have d2:=(hbo2.block _ (Array.getElem?_eq_some_iff.1 c2).1).trans c2
     have d1:=(hbo2.block _ (Array.getElem?_eq_some_iff.1 c1).1).trans c1
     have ho2:=ho.keep (ESt.stab (by decide)) hbo2
     have hES:ESt w2 [.slice (some ⟨g1,0,none⟩) ms.length oc] rs:=⟨_,rfl,by rw [← hys,hoy.length]; exact hoy.base (Nat.zero_le _)⟩
     have hc1:∀ u∈(#[.slice (some ⟨g1,0,none⟩) ms.length oc]:Array Value).toList,u.oneCell'=true:=fun u hu=>by rw [List.mem_singleton.1 hu]; rfl
     have hSt:Stab 98 ESt:=ESt.stab (by decide)
     have hstep:=take_snoc (xs:=RS) (k:=i) (by rw [hRSl.out]; exact hlt) []
     rw [hrs] at hstep
     replace hrs:=Lib.hid hrs
     obtain ⟨z0,z1⟩:=boxL2 d2
     have hsz2:w.heap.size+3≤w2.heap.size:=Nat.le_trans hsz hbo2.size
     have hb2:Below w.heap.size w w2:=bt hb.out hbo2 hb.out.size
     replace hstep:=Lib.hid hstep
     clear how hoy HS c1 c2 ho hys hperm hpw
     go_wp2_with (at_builtin; refine wpAppX elemSt (by decide) (by decide) hSt rfl _ _ rfl rfl ho2 rfl rfl rfl hc1 hES (by omega) hsz2 ?_)
     intro v' w3 ho3 hgr3 hb3 hx3
     rw [← hstep.out] at ho3
     have c2':=(hb3.block _ (by omega)).trans d2
     have c1':=(hb3.block _ (by omega)).trans d1
     obtain ⟨va',vc',hv'⟩:=ho3.shape
     subst hv'
     obtain ⟨y0,y1⟩:=boxL2 c2'
     obtain ⟨f0,f1⟩:=freeL2 c2'
     have hset:=heap_setCell_same w3 (w.heap.size+2) 1 _ 24 (.slice va' (i+1) vc') c2'
     have ho4:=ho3.other (E':=24) (ESt.stab (by decide)) (by decide) (KeepX.setCell (p:=⟨w.heap.size+2,1,none⟩) c2' (.slice va' (i+1) vc'))
     have hb4:Below w.heap.size w (w3.setCell ⟨w.heap.size+2,1,none⟩ (.slice va' (i+1) vc')):=(hb2.trans (hb3.mono (by omega))).setCell (p:=⟨w.heap.size+2,1,none⟩) (by simp) _
     have hc14:=(Below.heap_setCell w3 ⟨w.heap.size+2,1,none⟩ (.slice va' (i+1) vc') (w.heap.size+1) (by simp)).trans c1'
     have hsz4:w.heap.size+3≤(w3.setCell ⟨w.heap.size+2,1,none⟩ (.slice va' (i+1) vc')).heap.size:=by have:=hb3.size; simp [World.setCell]; omega
     clear ho2 ho3 hES hgr3 hx3 z0 z1 d1 d2
     go_wp2_with fail
     go_roundw
     case rel=>exact ⟨i+1,_,by go_num,by omega,hb4,hc14,hset,ho4,hsz4⟩
     case measure=>simp [intOf]; omega
  ·obtain rfl:i=ss.length:=by omega
   rw [List.take_of_length_le (by rw [hRSl.out]; exact Nat.le_refl _)] at ho
   obtain ⟨z0,z1⟩:=boxL2 c1
   obtain ⟨y0,y1⟩:=boxL2 c2
   obtain ⟨f0,f1⟩:=freeL2 c1
   have hRl:RS.length=ss.length:=hRSl.out
   have hRx:∀ x∈RS,x.length≤2199023255552:=fun x hx=>by
    obtain ⟨j,hj,rfl⟩:=List.mem_iff_getElem.1 hx
    rw [← getD_eq hj [],hRSi.out j (by omega),renS_len]
    have:=hml.out (ss.getD j []) (getD_mem (by omega))
    omega
   replace hRl:=Lib.hid hRl
   replace hRx:=Lib.hid hRx
   go_wp2
   refine storeEnd2 (u0:=.int .i64 (n:Int)) (u1:=.slice va ss.length vc) c1 ?_
   intro W9 hW9 hb9 hk9 _ e0 e1
   rw [← hW9]
   have hfin:OwAdv W9 (.agg #[.int .i64 (n:Int),.slice va ss.length vc]) n RS:=⟨_,rfl,by rw [hRl.out]; exact (ho.other (ESt.stab (by decide)) (by decide) hk9).base (Nat.zero_le _),by rw [hRl.out]; omega,hRx.out⟩
   refine bodyPost_ret (v:=.tuple #[.agg #[.int .i64 (n:Int),.slice va ss.length vc],.int .i64 0]) (by simp [results,Tryz.results52,go_sem,e0,e1]) rfl ?_
   exact ⟨_,rfl,hfin,hb9 _ _ (by omega) hb.out⟩
end Go.Proofs.YtmikofeildnpdaaGreat

/- symmetry.fits, and the reference's renaming; symmetry.renamed$1. -/
namespace Go.Proofs.YtmikofeildnpdaaGreat
open Go.RowKit
def fitE (a:List Int) (n:Int):Int:=if chk a ≠ 0 then chk a else if (a.length:Int) ≠ n then 22 else 0
theorem fitsC {w:World} {v:Value} {a:List Int} (h:Ints w v a) (n:Int):Calls Tryz.prog 51 #[v,.int .i64 n] w fun e w'=>e = .returned (.int .i64 (fitE a n))∧Below w.heap.size w w':=by
 have H:=Lib.hid (check h)
 obtain ⟨aa,ac,ab,ao,rfl,ha,hc,hl⟩:=h
 clear ha hc
 obtain ⟨E,hE⟩:=exE (chk a)
 rw [hE] at H
 by_cases hz:E=0
 ·subst hz
  by_cases hn:(a.length:Int)=n
  ·have hv:=Lib.hid (show fitE a n=0 by rw [fitE,if_neg (fun h=>h hE),if_neg (fun h=>h hn)])
   have hb:((a.length:Int) != n)=false:=by simp [hn]
   clear hE hn
   go_enter Tryz.func51, Tryz.ntmps51
   go_wp2_with (go_at_call 65; refine H.out.mono ?_; rintro e w1 ⟨rfl,hq⟩)
   go_ret
   exact ⟨ret_int hv.out.symm,hq⟩
  ·have hv:=Lib.hid (show fitE a n=22 by rw [fitE,if_neg (fun h=>h hE),if_pos hn])
   have hb:((a.length:Int) != n)=true:=by simp [hn]
   clear hE hn
   go_enter Tryz.func51, Tryz.ntmps51
   go_wp2_with (go_at_call 65; refine H.out.mono ?_; rintro e w1 ⟨rfl,hq⟩)
   go_ret
   exact ⟨ret_int hv.out.symm,hq⟩
 ·have hv:=Lib.hid (show fitE a n=E by rw [fitE,hE,if_pos hz])
  have hb:(E != 0)=true:=by simp [hz]
  clear hE
  go_enter Tryz.func51, Tryz.ntmps51
  go_wp2_with (go_at_call 65; refine H.out.mono ?_; rintro e w1 ⟨rfl,hq⟩)
  go_ret
  exact ⟨ret_int hv.out.symm,hq⟩
end Go.Proofs.YtmikofeildnpdaaGreat

/- symmetry.Permute, Invariant, Group. -/
namespace Go.Proofs.YtmikofeildnpdaaGreat
open Go.RowKit
def perE (n:Int) (ss:List (List (List Int))) (a:List Int):Int:=if chkA n ss ≠ 0 then chkA n ss else fitE a n
theorem fit_isP {n:Nat} {a:List Int} (h1:1≤n) (h5:n≤5):fitE a (n:Int)=0↔IsP n a:=by
 unfold fitE
 constructor
 ·intro h
  split at h
  ·rename_i k; exact absurd h k
  ·rename_i k
   split at h
   ·cases h
   ·rename_i k2
    have hz:=Decidable.not_not.1 k
    have hl:a.length=n:=by have:=Decidable.not_not.1 k2; omega
    have:=(chk_iff.1 hz).2
    rwa [hl] at this
 ·intro h
  rw [if_neg (fun k=>k (chk_of h1 h5 h)),if_neg (fun k=>k (by rw [h.1]))]
theorem mem8 {w:World} {v:Value} {n:Int} {ss:List (List (List Int))} (h:AdvV w v n ss):∀ s∈ss,∀ m∈s,m.length=8:=fun s hs m hm=>by
 obtain ⟨sv,_,a,c,b,off,_,_,hc,_⟩:=h
 obtain ⟨j,hj,rfl⟩:=List.mem_iff_getElem.1 hs
 obtain ⟨u,_,_,_,_,_,_,_,hk,_⟩:=hc j hj
 rw [getD_eq hj] at hk
 obtain ⟨i,hi,rfl⟩:=List.mem_iff_getElem.1 hm
 have:=(hk i hi).1
 rwa [getD_eq hi] at this
theorem wfN_of {w:World} {v:Value} {n:Int} {ss:List (List (List Int))} (h:AdvV w v n ss) (hz:chkA n ss=0):∃ k:Nat,n=(k:Int)∧WfN k ss:=by
 have h1:=(chkA_facts hz).1
 obtain ⟨k,rfl⟩:∃ k:Nat,n=(k:Int):=⟨n.toNat,by omega⟩
 exact ⟨k,rfl,WfN.of (mem8 h) hz⟩
theorem permuteBad {w:World} {v u:Value} {n:Int} {a:List Int} {ss:List (List (List Int))} (hA:AdvV w v n ss) (hu:Ints w u a) (hm:movesN ss≤1000000000) (hE:perE n ss a ≠ 0) :
  Calls Tryz.prog 13 #[v,u] w fun e w'=>e = .returned (.tuple #[.agg #[.int .i64 0,.slice none 0 0],.int .i64 (perE n ss a)])∧Below w.heap.size w w':=by
 obtain ⟨xa,xc,hv⟩:=advShape' hA
 subst hv
 obtain ⟨W1,hW1⟩:=exF ((w.alloc (.cells #[.int .i64 n,.slice xa ss.length xc] 24)).alloc (.cells #[.int .i64 0,.slice none 0 0] 24))
 obtain ⟨hb1,⟨p0,p1⟩,⟨q0,q1⟩,hm1,_⟩:=boxAdv2 hW1
 have HX:=checkA (hA.keep hb1) hm
 have HF:=Lib.hid (fun W (h:Below w.heap.size w W)=>fitsC (hu.keep h) n)
 have hK:=Lib.hid (fun W (hb:Below W1.heap.size W1 W)=>And.intro (cell_kept hb p0) (cell_kept hb p1))
 obtain ⟨E,hE1⟩:=exE (chkA n ss)
 obtain ⟨F,hF1⟩:=exE (fitE a n)
 have hr:perE n ss a=if E ≠ 0 then E else F:=by rw [perE,hE1,hF1]
 rw [hE1] at HX
 rw [hr] at hE ⊢
 simp only [hF1] at HF
 replace HX:=Lib.hid HX
 obtain ⟨ua,uc,hus⟩:∃ ua uc,u = .slice ua a.length uc:=by obtain ⟨ua,uc,_,_,h,_⟩:=hu; exact ⟨ua,uc,h⟩
 subst hus
 clear hr hE1 hF1 hA hu
 by_cases h1:E=0
 ·subst h1
  rw [if_neg (fun h=>h rfl)] at hE ⊢
  have hFb:(F != 0)=true:=by simp [hE]
  go_enter Tryz.func13, Tryz.ntmps13
  go_wp2_with fail
  rw [← hW1]
  replace hW1:=Lib.hid hW1
  refine HX.out.mono ?_
  rintro e W2 ⟨rfl,hb2⟩
  clear p0 p1 q0 q1
  obtain ⟨k0,k1⟩:=hK.out W2 hb2
  go_wp2_with fail
  refine (HF.out W2 (bt hb1 hb2 hb1.size)).mono ?_
  rintro e W3 ⟨rfl,hb3⟩
  have hb13:=btt hb2 hb3
  have m3:=(hb13.block _ (Array.getElem?_eq_some_iff.1 hm1).1).trans hm1
  obtain ⟨z0,z1⟩:=boxL2 m3
  obtain ⟨f0,f1⟩:=freeL2 m3
  have hfin:=bt hb1 hb13 hb1.size
  clear k0 k1 HX HF hK hm1
  go_wp2
  refine storeEnd2 (u0:=.int .i64 0) (u1:=.slice none 0 0) m3 ?_
  intro W9 hW9 hb9 _ _ e0 e1
  rw [← hW9]
  refine bodyPost_ret (v:=.tuple #[.agg #[.int .i64 0,.slice none 0 0],.int .i64 F]) (by simp [results,Tryz.results13,go_sem,e0,e1]) rfl ?_
  exact ⟨rfl,hb9 _ _ (by omega) hfin⟩
 ·rw [if_pos h1]
  have hEb:(E != 0)=true:=by simp [h1]
  go_enter Tryz.func13, Tryz.ntmps13
  go_wp2_with fail
  rw [← hW1]
  replace hW1:=Lib.hid hW1
  refine HX.out.mono ?_
  rintro e W3 ⟨rfl,hb13⟩
  clear p0 p1 q0 q1
  have m3:=(hb13.block _ (Array.getElem?_eq_some_iff.1 hm1).1).trans hm1
  obtain ⟨z0,z1⟩:=boxL2 m3
  obtain ⟨f0,f1⟩:=freeL2 m3
  have hfin:=bt hb1 hb13 hb1.size
  clear HX HF hK hm1
  go_wp2
  refine storeEnd2 (u0:=.int .i64 0) (u1:=.slice none 0 0) m3 ?_
  intro W9 hW9 hb9 _ _ e0 e1
  rw [← hW9]
  refine bodyPost_ret (v:=.tuple #[.agg #[.int .i64 0,.slice none 0 0],.int .i64 E]) (by simp [results,Tryz.results13,go_sem,e0,e1]) rfl ?_
  exact ⟨rfl,hb9 _ _ (by omega) hfin⟩
theorem permuteGood {w:World} {v u:Value} {n:Nat} {a:List Int} {ss:List (List (List Int))} (hA:AdvV w v n ss) (hu:Ints w u a) (hm:movesN ss≤1000000000) (hW:WfN n ss) (ha:IsP n a) :
  Calls Tryz.prog 13 #[v,u] w fun e w'=>∃ r,e = .returned (.tuple #[r,.int .i64 0])∧OwAdv w' r n (renA a ss)∧Below w.heap.size w w':=by
 have hAk:=Lib.hid hA
 obtain ⟨xa,xc,hv⟩:=advShape' hA
 subst hv
 obtain ⟨W1,hW1⟩:=exF ((w.alloc (.cells #[.int .i64 (n:Int),.slice xa ss.length xc] 24)).alloc (.cells #[.int .i64 0,.slice none 0 0] 24))
 obtain ⟨hb1,⟨p0,p1⟩,⟨q0,q1⟩,hm1,_⟩:=boxAdv2 hW1
 have HX:=checkA (hA.keep hb1) hm
 have HF:=fun W (h:Below w.heap.size w W)=>fitsC (hu.keep h) (n:Int)
 have HR:=Lib.hid (fun W (h:Below w.heap.size w W)=>renamedC (hAk.out.keep h) hW ha (hu.keep h))
 have hK:=Lib.hid (fun W (hb:Below W1.heap.size W1 W)=>And.intro (cell_kept hb p0) (cell_kept hb p1))
 rw [hW.chk] at HX
 simp only [(fit_isP hW.h1 hW.h5).2 ha] at HF
 replace HF:=Lib.hid HF
 replace HX:=Lib.hid HX
 obtain ⟨ua,uc,hus⟩:∃ ua uc,u = .slice ua a.length uc:=by obtain ⟨ua,uc,_,_,h,_⟩:=hu; exact ⟨ua,uc,h⟩
 subst hus
 clear hA hu hW ha
 go_enter Tryz.func13, Tryz.ntmps13
 go_wp2_with fail
 rw [← hW1]
 replace hW1:=Lib.hid hW1
 refine HX.out.mono ?_
 rintro e W2 ⟨rfl,hb2⟩
 clear p0 p1 q0 q1
 obtain ⟨k0,k1⟩:=hK.out W2 hb2
 go_wp2_with fail
 refine (HF.out W2 (bt hb1 hb2 hb1.size)).mono ?_
 rintro e W3 ⟨rfl,hb3⟩
 clear k0 k1
 have hb13:=btt hb2 hb3
 obtain ⟨k0,k1⟩:=hK.out W3 hb13
 go_wp2_with fail
 refine (HR.out W3 (bt hb1 hb13 hb1.size)).mono ?_
 rintro e W4 ⟨r,rfl,hO,hb4⟩
 have hb14:=btt hb13 hb4
 have m3:=(hb14.block _ (Array.getElem?_eq_some_iff.1 hm1).1).trans hm1
 obtain ⟨z0,z1⟩:=boxL2 m3
 obtain ⟨f0,f1⟩:=freeL2 m3
 have hfin:=bt hb1 hb14 hb1.size
 obtain ⟨sv,rfl,hO1,hO2⟩:=hO
 obtain ⟨ra,rc,rfl⟩:=hO1.shape
 obtain ⟨RS,hRS⟩:=exE (renA a ss)
 rw [hRS] at hO1 hO2 ⊢
 replace hRS:=Lib.hid hRS
 clear k0 k1 HX HF HR hK hm1 hAk
 go_wp2
 refine storeEnd2 (u0:=.int .i64 (n:Int)) (u1:=.slice ra RS.length rc) m3 ?_
 intro W9 hW9 hb9 hk9 _ e0 e1
 rw [← hW9]
 refine bodyPost_ret (v:=.tuple #[.agg #[.int .i64 (n:Int),.slice ra RS.length rc],.int .i64 0]) (by simp [results,Tryz.results13,go_sem,e0,e1]) rfl ?_
 exact ⟨_,rfl,by rw [hRS.out]; exact ⟨_,rfl,hO1.other (ESt.stab (by decide)) (by decide) hk9,hO2⟩,hb9 _ _ (by omega) hfin⟩
noncomputable def kpG (ss:List (List (List Int))) (a:List Int):Bool:=@decide (kpA ss a) (Classical.propDecidable _)
theorem kpG_iff {ss:List (List (List Int))} {a:List Int}:kpG ss a=true↔kpA ss a:=@decide_eq_true_iff _ (Classical.propDecidable _)
noncomputable def invR (n:Int) (ss:List (List (List Int))) (a:List Int):Bool:=if perE n ss a=0 then kpG ss a else false
structure FewS (ss:List (List (List Int))):Prop where
 l:ss.length≤100
 m:movesN ss≤50000
theorem FewS.st {ss:List (List (List Int))} (h:FewS ss):∀ s∈ss,s.length≤50000:=fun _ hs=>Nat.le_trans (mem_movesN hs) h.m
theorem FewS.ren {ss:List (List (List Int))} (h:FewS ss) (a:List Int):FewS (renA a ss):=⟨by rw [renA,List.length_map]; exact h.l,by rw [movesN_ren]; exact h.m⟩
theorem eqErr_z21 {n:Nat} {xs ys:List (List (List Int))} (hx:WfN n xs) (hy:WfN n ys):eqErr n n xs ys=0:=by
 rw [eqErr,hx.chk,hy.chk]; simp
theorem invariantC {w:World} {v u:Value} {n:Int} {a:List Int} {ss:List (List (List Int))} (hA:AdvC w v n ss) (hu:Ints w u a) (hF:FewS ss) :
  Calls Tryz.prog 15 #[v,u] w fun e w'=>e = .returned (.tuple #[.bool (invR n ss a),.int .i64 (perE n ss a)])∧Below w.heap.size w w':=by
 have hAk:=Lib.hid hA
 have hm:movesN ss≤1000000000:=by have:=hF.m; omega
 obtain ⟨xa,xc,hv⟩:=advShape' hA.adv
 subst hv
 obtain ⟨ua,uc,hus⟩:∃ ua uc,u = .slice ua a.length uc:=by obtain ⟨ua,uc,_,_,h,_⟩:=hu; exact ⟨ua,uc,h⟩
 subst hus
 obtain ⟨W1,hW1⟩:=exF (w.alloc (.cells #[.int .i64 n,.slice xa ss.length xc] 24))
 obtain ⟨hb1,p0,p1,_⟩:=boxAdv hW1
 have hK:=Lib.hid (fun W (hb:Below W1.heap.size W1 W)=>And.intro (cell_kept hb p0) (cell_kept hb p1))
 obtain ⟨E,hE⟩:=exE (perE n ss a)
 obtain ⟨R,hR⟩:=exE (invR n ss a)
 by_cases h0:E=0
 ·subst h0
  have hcz:chkA n ss=0:=by
   unfold perE at hE
   split at hE
   ·rename_i k; exact absurd hE k
   ·rename_i k; exact Decidable.not_not.1 k
  obtain ⟨k,rfl,hW⟩:=wfN_of hA.adv hcz
  have ha:IsP k a:=by
   unfold perE at hE
   rw [if_neg (fun h=>h hcz)] at hE
   exact (fit_isP hW.h1 hW.h5).1 hE
  have hWr:=hW.ren ha
  have HP:=Lib.hid (permuteGood (hA.adv.keep hb1) (hu.keep hb1) hm hW ha)
  have HE:=Lib.hid (fun W (h:Below W1.heap.size W1 W) (r:Value) (hr:OwAdv W r k (renA a ss))=>equivC ((hA.keep hb1).keep h) hr.advC (eqErr_z21 hW hWr) hW.s hWr.s hF.l (hF.ren a).l hF.st (hF.ren a).st hm (by rw [movesN_ren]; exact hm))
  have hRk:Hid (∀ r:Bool,(r=true↔eqW ss (renA a ss))→r=R):=fun r hr=>by
   rw [← hR,invR,if_pos hE,Bool.eq_iff_iff,hr,kpG_iff]; exact Iff.rfl
  rw [hE,hR]
  obtain ⟨RS,hRS⟩:=exE (renA a ss)
  rw [hRS] at HP HE hRk
  clear hA hu hW ha hWr hF hE hR hRS
  go_enter Tryz.func15, Tryz.ntmps15
  go_wp2_with fail
  rw [← hW1]
  replace hW1:=Lib.hid hW1
  refine HP.out.mono ?_
  rintro e W2 ⟨r,rfl,hO,hb2⟩
  have hOk:=Lib.hid hO
  obtain ⟨sv,rfl,hO1,_⟩:=hO
  obtain ⟨ra,rc,rfl⟩:=hO1.shape
  obtain ⟨W3,hW3⟩:=exF (W2.alloc (.cells #[.int .i64 (k:Int),.slice ra RS.length rc] 24))
  obtain ⟨hb3,r0,r1,_⟩:=boxAdv hW3
  have hb13:=btt hb2 hb3
  clear p0 p1
  obtain ⟨p0,p1⟩:=hK.out W3 hb13
  have HE3:=Lib.hid (HE.out W3 hb13 _ (hOk.out.keep hb3))
  clear HE hK hO1 hOk HP
  go_upto_region 2 with fail
  rw [← hW3]
  replace hW3:=Lib.hid hW3
  go_wp2_with fail
  refine HE3.out.mono ?_
  rintro e W4 ⟨l,rr,rfl,hrr,hb4⟩
  have hrR:=hRk.out rr hrr
  subst hrR
  have hfin:=bt hb1 (btt hb13 hb4) hb1.size
  clear hrr hRk HE3 p0 p1 r0 r1
  go_wp2
  go_ret2
  exact ⟨rfl,hfin⟩
 ·have HP:=permuteBad (hA.adv.keep hb1) (hu.keep hb1) hm (by rw [hE]; exact h0)
  rw [hE] at HP
  have hRf:R=false:=by rw [← hR,invR,hE,if_neg h0]
  subst hRf
  rw [hE,hR]
  replace HP:=Lib.hid HP
  have hEb:(E != 0)=true:=by simp [h0]
  clear hA hu hE hR
  go_enter Tryz.func15, Tryz.ntmps15
  go_wp2_with fail
  rw [← hW1]
  replace hW1:=Lib.hid hW1
  refine HP.out.mono ?_
  rintro e W2 ⟨rfl,hb2⟩
  clear p0 p1 hK HP
  go_wp2
  go_ret2
  exact ⟨rfl,by first | exact bt hb1 (hb2.alloc (Nat.le_refl _) _) hb1.size | exact bt hb1 (hb2.alloc hb2.size _) hb1.size⟩
end Go.Proofs.YtmikofeildnpdaaGreat

/- symmetry.Group. -/
namespace Go.Proofs.YtmikofeildnpdaaGreat
open Go.RowKit
noncomputable def grpL (n:Int) (ss:List (List (List Int))):List (List Int):=if chkA n ss=0 then (everyL n.toNat).filter (kpG ss) else []
theorem perE_zero {n:Nat} {ss:List (List (List Int))} {a:List Int} (hW:WfN n ss) (ha:IsP n a):perE n ss a=0:=by
 rw [perE,if_neg (fun h=>h hW.chk)]; exact (fit_isP hW.h1 hW.h5).2 ha
theorem every_len {n:Nat} (h5:n≤5):(everyL n).length≤1000:=by
 have:n=0∨n=1∨n=2∨n=3∨n=4∨n=5:=by omega
 rcases this with rfl | rfl | rfl | rfl | rfl | rfl <;> decide +kernel
theorem group1 {w:World} {v:Value} {b n:Nat} {ss:List (List (List Int))} (hA:AdvC w v n ss) (hbx:w.heap[b]? = some (.cells v.cells 24)) (hF:FewS ss) (hW:WfN n ss) {x:List Int} (hx:IsP n x) {u:Value} (hu:Ints w u x) :
  Calls Tryz.prog 58 #[u,.pointer (some ⟨b,0,none⟩)] w fun e w'=>e = .returned (.tuple #[.bool (kpG ss x),.int .i64 0])∧Below w.heap.size w w':=by
 have HI:=invariantC hA hu hF
 rw [invR,if_pos (perE_zero hW hx),perE_zero hW hx] at HI
 replace HI:=Lib.hid HI
 obtain ⟨xa,xc,hv⟩:=advShape' hA.adv
 subst hv
 obtain ⟨ua,uc,hus⟩:∃ ua uc,u = .slice ua x.length uc:=by obtain ⟨ua,uc,_,_,h,_⟩:=hu; exact ⟨ua,uc,h⟩
 subst hus
 obtain ⟨p0,p1⟩:=boxL2 (show w.heap[b]? = some (.cells #[.int .i64 (n:Int),.slice xa ss.length xc] 24) from hbx)
 obtain ⟨B,hB⟩:=exE (kpG ss x)
 rw [hB] at HI ⊢
 clear hA hF hW hx hu hbx hB
 go_enter Tryz.func58, Tryz.ntmps58
 go_wp2_with fail
 refine HI.out.mono ?_
 rintro e w1 ⟨rfl,hb1⟩
 go_wp2
 go_ret2
 exact ⟨rfl,hb1⟩
theorem groupC {w:World} {v:Value} {n:Int} {ss:List (List (List Int))} (hA:AdvC w v n ss) (hF:FewS ss):Calls Tryz.prog 18 #[v] w (RII w (grpL n ss) (chkA n ss)):=by
 have hAk:=Lib.hid hA
 have hm:movesN ss≤1000000000:=by have:=hF.m; omega
 obtain ⟨xa,xc,hv⟩:=advShape' hA.adv
 subst hv
 obtain ⟨W1,hW1⟩:=exF (w.alloc (.cells #[.int .i64 n,.slice xa ss.length xc] 24))
 obtain ⟨hb1,p0,p1,m1⟩:=boxAdv hW1
 have hK:=Lib.hid (fun W (hb:Below W1.heap.size W1 W)=>And.intro (cell_kept hb p0) (cell_kept hb p1))
 have HX:=checkA (hA.adv.keep hb1) hm
 obtain ⟨E,hE⟩:=exE (chkA n ss)
 rw [hE] at HX
 replace HX:=Lib.hid HX
 by_cases h0:E=0
 ·subst h0
  obtain ⟨k,rfl,hW⟩:=wfN_of hA.adv hE
  have hgl:grpL k ss=(everyL k).filter (kpG ss):=by rw [grpL,if_pos hE,Int.toNat_natCast]
  have hne:numE (k:Int)=0:=by unfold numE; rw [if_neg]; have:=hW.h1; have:=hW.h5; omega
  have hal:allL (k:Int)=everyL k:=by unfold allL; rw [if_pos hne,Int.toNat_natCast]
  have HAll:=fun W=>allCall (k:Int) W
  simp only [hne,hal] at HAll
  replace HAll:=Lib.hid HAll
  have HCh:=Lib.hid (fun W (hbW:Below W1.heap.size W1 W) (r:Value) B0 (hO:OII W B0 r (everyL k).length (everyL k))=>chosenG (caps:=#[.pointer (some ⟨w.heap.size,0,none⟩)]) (p:=kpG ss) hO (every_len hW.h5) fun W' hbW' x hx u hu=>by
   have hx':=mem_everyL.1 hx
   have hbb:=btt hbW hbW'
   exact group1 ((hAk.out.keep hb1).keep hbb) ((hbb.block _ (Array.getElem?_eq_some_iff.1 m1).1).trans m1) hF hW hx' (hu.ints (by have:=hx'.1; have:=hW.h5; omega)))
  rw [hgl,hE]
  clear hA hF hW hE hgl hne hal
  go_enter Tryz.func18, Tryz.ntmps18
  go_wp2_with fail
  rw [← hW1]
  replace hW1:=Lib.hid hW1
  refine HX.out.mono ?_
  rintro e W2 ⟨rfl,hb2⟩
  clear p0 p1
  obtain ⟨p0,p1⟩:=hK.out W2 hb2
  go_wp2_with fail
  refine (HAll.out W2).mono ?_
  rintro e W3 ⟨r,rfl,hO,hb3⟩
  have hOk:=Lib.hid hO
  obtain ⟨ra,rc,rfl⟩:=hO.shape
  have hb13:=btt hb2 hb3
  have HC3:=Lib.hid (HCh.out W3 hb13 _ _ hOk.out)
  clear p0 p1 hK HX HAll HCh hO
  go_wp2_with fail
  refine HC3.out.mono ?_
  rintro e W4 ⟨r2,rfl,hO2,hb4⟩
  obtain ⟨ra2,rc2,rfl⟩:=hO2.shape
  have hfin:=bt hb1 (btt hb13 hb4) hb1.size
  have hO3:=Lib.hid (hO2.base (B':=w.heap.size) (bt hb1 hb13 hb1.size).size)
  clear hO2 HC3
  go_wp2
  go_ret2
  exact ⟨_,rfl,hO3.out,hfin⟩
 ·have hgl:grpL n ss = []:=by rw [grpL,if_neg (by rw [hE]; exact h0)]
  rw [hgl,hE]
  have hEb:(E != 0)=true:=by simp [h0]
  clear hA hF hE hgl
  go_enter Tryz.func18, Tryz.ntmps18
  go_wp2_with fail
  rw [← hW1]
  replace hW1:=Lib.hid hW1
  refine HX.out.mono ?_
  rintro e W2 ⟨rfl,hb2⟩
  clear p0 p1 hK HX
  go_wp2
  go_ret2
  exact ⟨_,rfl,OII.nil _ _,bt hb1 hb2 hb1.size⟩
end Go.Proofs.YtmikofeildnpdaaGreat

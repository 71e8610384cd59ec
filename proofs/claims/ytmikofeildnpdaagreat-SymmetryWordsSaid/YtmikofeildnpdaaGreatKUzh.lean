/- Texts of this claim, put together: ZP ZQ ZR ZU ZV. -/
import Derived.Test.YtmikofeildnpdaaGreatKUx
import Derived.Test.YtmikofeildnpdaaGreatKUzg
import Derived.Test.YtmikofeildnpdaaGreatKUs
import Derived.Test.YtmikofeildnpdaaGreatKUt
import Derived.Test.YtmikofeildnpdaaGreatKUr
import Derived.Test.YtmikofeildnpdaaGreatKUl
import Derived.Deep.RegionHeld3

set_option maxRecDepth 100000
set_option maxHeartbeats 12800000
/- relate.Symmetries. -/
namespace Go.Proofs.YtmikofeildnpdaaGreat
open Go.RowKit
theorem nodupLen21 {α:Type} [DecidableEq α]:∀ {l m:List α},l.Nodup→(∀ x∈l,x∈m)→l.length≤m.length
 | [],_,_,_=>Nat.zero_le _
 | x::l,m,hn,hs=>by
  have hx:x∈m:=hs x (by simp)
  have:=nodupLen21 (l:=l) (m:=m.erase x) (List.nodup_cons.1 hn).2 fun y hy=>by
   have hne:y ≠ x:=by intro e; subst e; exact (List.nodup_cons.1 hn).1 hy
   exact (List.mem_erase_of_ne hne).2 (hs y (by simp [hy]))
  rw [List.length_erase_of_mem hx] at this
  have:=List.length_pos_of_mem hx
  simp only [List.length_cons]
  omega
theorem calmLen {n i o:Int} {cs:List Cs} (h:chkT n i o cs=0):∀ c∈cs,c.2.2.length≤1024:=fun c hc=>by
 unfold chkT at h
 split at h
 ·cases h
 split at h
 ·cases h
 obtain ⟨k,hk,rfl⟩:=List.mem_iff_getElem.1 hc
 have e:=(firstE_zero _ _).1 h k (Nat.zero_le _) (by omega)
 unfold caseE at e
 split at e
 ·rename_i e1; exact absurd e e1
 split at e
 ·cases e
 rw [getD_eq hk] at e
 unfold outsE at e
 split at e
 ·cases e
 next e1=>
 split at e
 ·rename_i e2; exact absurd e e2
 have hz:=(firstE_zero _ _).1 e
 have hcal:∀ j,j < cs[k].2.2.length→cs[k].2.2.getD j []∈cs[k].2.1∧(0 < j→cmpL (cs[k].2.2.getD (j - 1) []) (cs[k].2.2.getD j []) < 0):=fun j hj=>by
  have:=hz j (Nat.zero_le _) (by omega)
  unfold calmE at this
  split at this
  ·cases this
  next e3=>
  split at this
  ·cases this
  next e4=>
  exact ⟨Decidable.not_not.1 e3,fun h0=>by by_cases h:cmpL (cs[k].2.2.getD (j - 1) []) (cs[k].2.2.getD j []) < 0; exact h; exact absurd ⟨h0,by omega⟩ e4⟩
 have hA:AscL cs[k].2.2:=asc_adj fun j hj=>by have:=(hcal (j+1) hj).2 (by omega); rwa [Nat.add_sub_cancel] at this
 have hN:cs[k].2.2.Nodup:=List.Pairwise.imp (fun {a b} h e=>by rw [e,cmpL_self] at h; omega) hA
 refine Nat.le_trans (nodupLen21 hN fun x hx=>?_) (show cs[k].2.1.length≤1024 by omega)
 obtain ⟨j,hj,rfl⟩:=List.mem_iff_getElem.1 hx
 have:=(hcal j hj).1
 rwa [getD_eq hj] at this
theorem permuteT {w:World} {v u:Value} {n:Nat} {ins outs:Int} {cs:List Cs} {a:List Int} (hT:TaskV w v (n:Int) ins outs cs) (hz:chkT (n:Int) ins outs cs=0) (ha:IsP n a) (hu:Ints w u a) :
  Calls Tryz.prog 77 #[v,u] w fun e w'=>∃ r,e = .returned (.tuple #[r,.int .i64 0])∧TaskV w' r (n:Int) ins outs (renT a cs)∧Below w.heap.size w w':=
 permuteTask hT hz (fun c hc=>Nat.le_trans (calmLen hz c hc) (by decide)) ha hu
def symT (n:Nat) (cs:List Cs):List (List Int):=(everyL n).filter fun x=>decide (cs=renT x cs)
theorem relSym1 {w:World} {v u:Value} {b n:Nat} {ins outs:Int} {cs:List Cs} {x:List Int} (hT:TaskV w v (n:Int) ins outs cs) (hbx:w.heap[b]? = some (.cells v.cells 64)) (hz:chkT (n:Int) ins outs cs=0) (hx:IsP n x) (hu:Ints w u x) :
  Calls Tryz.prog 120 #[u,.pointer (some ⟨b,0,none⟩)] w fun e w'=>e = .returned (.bool (decide (cs=renT x cs)))∧Below w.heap.size w w':=by
 have HP:=Lib.hid (permuteT hT hz hx hu)
 obtain ⟨B,hB⟩:∃ B,decide (cs=renT x cs)=B:=⟨_,rfl⟩
 have HS:Hid (∀ W r,Below w.heap.size w W→TaskV W r (n:Int) ins outs (renT x cs)→Calls Tryz.prog 121 #[v,r] W fun e w'=>e = .returned (.bool B)∧Below W.heap.size W w'):=fun W r hb hr=>by
  rw [← hB]; exact sameTask (hT.keep hb) hr
 rw [hB]
 obtain ⟨sv,rfl,hS⟩:=hT
 obtain ⟨sa,sc,rfl⟩:=hS.shape
 obtain ⟨ua,uc,rfl⟩:=hu.shape
 have hbx':w.heap[b]? = some (.cells #[.int .i64 (n:Int),.int .i64 ins,.int .i64 outs,.slice sa cs.length sc] 64):=hbx
 obtain ⟨p0,p1,p2,p3⟩:=boxL4 hbx'
 have hK:=Lib.hid (fun W (hb:Below w.heap.size w W)=>boxL4 ((hb.block _ (Array.getElem?_eq_some_iff.1 hbx').1).trans hbx'))
 clear hS hu hx hz hB hbx hbx'
 go_enter Tryz.func120, Tryz.ntmps120
 go_wp2_with fail
 refine HP.out.mono ?_
 rintro e w1 ⟨r,rfl,hr,hb1⟩
 have hrk:=Lib.hid hr
 obtain ⟨rv,rfl,hR⟩:=hr
 obtain ⟨ra,rc,rfl⟩:=hR.shape
 obtain ⟨W2,hW2⟩:=exF (w1.alloc (.cells #[.int .i64 (n:Int),.int .i64 ins,.int .i64 outs,.slice ra (renT x cs).length rc] 64))
 have hb2:Below w1.heap.size w1 W2:=by rw [hW2]; exact (Below.refl _ _).alloc (Nat.le_refl _) _
 have m2:W2.heap[w1.heap.size]? = some (.cells #[.int .i64 (n:Int),.int .i64 ins,.int .i64 outs,.slice ra (renT x cs).length rc] 64):=by rw [hW2]; exact heap_alloc_new _ _
 have hb12:=bt hb1 hb2 hb1.size
 have HS2:=Lib.hid (HS.out W2 _ hb12 (hrk.out.keep hb2))
 clear p0 p1 p2 p3 HP HS hR
 obtain ⟨p0,p1,p2,p3⟩:=hK.out W2 hb12
 obtain ⟨q0,q1,q2,q3⟩:=boxL4 m2
 obtain ⟨N,hN⟩:=exE ((renT x cs).length)
 rw [hN] at hW2 q3 HS2
 simp only [hN]
 rw [hW2] at p0 p1 p2 p3 q0 q1 q2 q3
 replace hW2:=Lib.hid hW2
 replace hN:=Lib.hid hN
 clear hrk m2
 go_wp2_with fail
 rw [← hW2.out]
 refine HS2.out.mono ?_
 rintro e w3 ⟨rfl,hb3⟩
 have hf:=bt hb12 hb3 hb12.size
 clear p0 p1 p2 p3 q0 q1 q2 q3 HS2 hK
 go_wp2
 go_ret
 exact ⟨rfl,hf⟩
theorem relSymC {w:World} {v:Value} {n:Nat} {ins outs:Int} {cs:List Cs} (hT:TaskV w v (n:Int) ins outs cs) (hz:chkT (n:Int) ins outs cs=0):Calls Tryz.prog 79 #[v] w (RII w (symT n cs) 0):=by
 have hOK:=TskOK.of hz
 have h5:=hOK.n5
 have hTk:=Lib.hid hT
 obtain ⟨sv,rfl,hS⟩:=hT
 obtain ⟨sa,sc,rfl⟩:=hS.shape
 obtain ⟨W1,hW1⟩:=exF (w.alloc (.cells #[.int .i64 (n:Int),.int .i64 ins,.int .i64 outs,.slice sa cs.length sc] 64))
 have hb1:Below w.heap.size w W1:=by rw [hW1]; exact (Below.refl _ _).alloc (Nat.le_refl _) _
 have m1:W1.heap[w.heap.size]? = some (.cells #[.int .i64 (n:Int),.int .i64 ins,.int .i64 outs,.slice sa cs.length sc] 64):=by rw [hW1]; exact heap_alloc_new _ _
 have hK:=Lib.hid (fun W (hb:Below W1.heap.size W1 W)=>boxL4 ((hb.block _ (Array.getElem?_eq_some_iff.1 m1).1).trans m1))
 obtain ⟨p0,p1,p2,p3⟩:=boxL4 m1
 have HX:=checkT (hTk.out.keep hb1)
 rw [hz] at HX
 replace HX:=Lib.hid HX
 have hne:numE (n:Int)=0:=by unfold numE; rw [if_neg]; have:=hOK.n1; omega
 have hal:allL (n:Int)=everyL n:=by unfold allL; rw [if_pos hne,Int.toNat_natCast]
 have HAll:=fun W=>allCall (n:Int) W
 simp only [hne,hal] at HAll
 replace HAll:=Lib.hid HAll
 have HCh:=Lib.hid (fun W (hbW:Below W1.heap.size W1 W) (r:Value) B0 (hO:OII W B0 r (everyL n).length (everyL n))=>keptS (caps:=#[.pointer (some ⟨w.heap.size,0,none⟩)]) (p:=fun x=>decide (cs=renT x cs)) hO (every_len h5) fun W' hbW' x hx u hu=>by
  have hx':=mem_everyL.1 hx
  have hbb:=btt hbW hbW'
  exact relSym1 ((hTk.out.keep hb1).keep hbb) ((hbb.block _ (Array.getElem?_eq_some_iff.1 m1).1).trans m1) hz hx' (hu.ints (by have:=hx'.1; omega)))
 replace h5:=Lib.hid h5
 have hsy:=Lib.hid (show (everyL n).filter (fun x=>decide (cs=renT x cs))=symT n cs from rfl)
 clear hz hOK hne hal hS
 go_enter Tryz.func79, Tryz.ntmps79
 go_wp2_with fail
 rw [← hW1]
 replace hW1:=Lib.hid hW1
 refine HX.out.mono ?_
 rintro e W2 ⟨rfl,hb2⟩
 clear p0 p1 p2 p3
 obtain ⟨p0,p1,p2,p3⟩:=hK.out W2 hb2
 go_wp2_with fail
 refine (HAll.out W2).mono ?_
 rintro e W3 ⟨r,rfl,hO,hb3⟩
 have hOk:=Lib.hid hO
 obtain ⟨ra,rc,rfl⟩:=hO.shape
 have hb13:=btt hb2 hb3
 have HC3:=Lib.hid (HCh.out W3 hb13 _ _ hOk.out)
 clear p0 p1 p2 p3 hK HX HAll HCh hO
 go_wp2_with fail
 refine HC3.out.mono ?_
 rintro e W4 ⟨r2,rfl,hO2,hb4⟩
 rw [hsy.out] at hO2
 obtain ⟨ra2,rc2,rfl⟩:=hO2.shape
 have hfin:=bt hb1 (btt hb13 hb4) hb1.size
 have hO3:=Lib.hid (hO2.base (B':=w.heap.size) (bt hb1 hb13 hb1.size).size)
 clear hO2 HC3
 go_wp2
 go_ret2
 exact ⟨_,rfl,hO3.out,hfin⟩
end Go.Proofs.YtmikofeildnpdaaGreat

/- symmetry.problem, symmetry.Symmetries. -/
namespace Go.Proofs.YtmikofeildnpdaaGreat
open Go.RowKit
def PrV (w:World) (v:Value) (n:Nat) (ins outs:Int) (cs:List Cs) (ss:List (List (List Int))) (r:Int):Prop:=
 ∃ sv av,v = .agg #[.int .i64 (n:Int),.int .i64 ins,.int .i64 outs,sv,.int .i64 (n:Int),av,.int .i64 r]∧TaskV w (.agg #[.int .i64 (n:Int),.int .i64 ins,.int .i64 outs,sv]) (n:Int) ins outs cs∧AdvC w (.agg #[.int .i64 (n:Int),av]) (n:Int) ss
theorem PrV.keep {w w':World} {v:Value} {n:Nat} {ins outs:Int} {cs:List Cs} {ss:List (List (List Int))} {r:Int} (h:PrV w v n ins outs cs ss r) (hb:Below w.heap.size w w'):PrV w' v n ins outs cs ss r:=by
 obtain ⟨sv,av,h1,h2,h3⟩:=h
 exact ⟨sv,av,h1,h2.keep hb,h3.keep hb⟩
structure PrOK (n:Nat) (ins outs:Int) (cs:List Cs) (ss:List (List (List Int))) (r:Int):Prop where
 tz:chkT (n:Int) ins outs cs=0
 az:chkA (n:Int) ss=0
 r0:0≤r
 r6:r≤6
 few:FewS ss
def prBox (n:Nat) (ins outs:Int) (sv av:Value) (r:Int):Obj:=.cells #[.int .i64 (n:Int),.int .i64 ins,.int .i64 outs,sv,.int .i64 (n:Int),av,.int .i64 r] 66
theorem PrV.shape {w:World} {v:Value} {n:Nat} {ins outs:Int} {cs:List Cs} {ss:List (List (List Int))} {r:Int} (h:PrV w v n ins outs cs ss r):∃ sa sc aa ac,v = .agg #[.int .i64 (n:Int),.int .i64 ins,.int .i64 outs,.slice sa cs.length sc,.int .i64 (n:Int),.slice aa ss.length ac,.int .i64 r]∧
  TaskV w (.agg #[.int .i64 (n:Int),.int .i64 ins,.int .i64 outs,.slice sa cs.length sc]) (n:Int) ins outs cs∧AdvC w (.agg #[.int .i64 (n:Int),.slice aa ss.length ac]) (n:Int) ss:=by
 obtain ⟨sv,av,rfl,hT,hA⟩:=h
 have hT':=hT
 obtain ⟨_,he,hS⟩:=hT'
 injection he with he
 simp only [Array.mk.injEq,List.cons.injEq,and_true,true_and] at he
 subst he
 obtain ⟨sa,sc,rfl⟩:=hS.shape
 obtain ⟨aa,ac,he⟩:=advShape' hA.adv
 injection he with he
 simp only [Array.mk.injEq,List.cons.injEq,and_true,true_and] at he
 subst he
 exact ⟨_,_,_,_,rfl,hT,hA⟩
theorem problemC {w:World} {v:Value} {n:Nat} {ins outs:Int} {cs:List Cs} {ss:List (List (List Int))} {r:Int} (h:PrV w v n ins outs cs ss r) (hO:PrOK n ins outs cs ss r) :
  Calls Tryz.prog 76 #[v] w fun e w'=>e = .returned (.int .i64 0)∧Below w.heap.size w w':=by
 obtain ⟨sa,sc,aa,ac,rfl,hT,hA⟩:=h.shape
 obtain ⟨W1,hW1⟩:=exF (w.alloc (.cells #[.int .i64 (n:Int),.int .i64 ins,.int .i64 outs,.slice sa cs.length sc,.int .i64 (n:Int),.slice aa ss.length ac,.int .i64 r] 66))
 have hb1:Below w.heap.size w W1:=by rw [hW1]; exact (Below.refl _ _).alloc (Nat.le_refl _) _
 have m1:W1.heap[w.heap.size]? = some (.cells #[.int .i64 (n:Int),.int .i64 ins,.int .i64 outs,.slice sa cs.length sc,.int .i64 (n:Int),.slice aa ss.length ac,.int .i64 r] 66):=by rw [hW1]; exact heap_alloc_new _ _
 have hK:=Lib.hid (fun W (hb:Below W1.heap.size W1 W)=>boxL7 ((hb.block _ (Array.getElem?_eq_some_iff.1 m1).1).trans m1))
 obtain ⟨p0,p1,p2,p3,p4,p5,p6⟩:=boxL7 m1
 have HT:=checkT (hT.keep hb1)
 rw [hO.tz] at HT
 replace HT:=Lib.hid HT
 have HA:=fun W (hb:Below W1.heap.size W1 W)=>checkA ((hA.keep hb1).keep hb).adv (by have:=hO.few.m; omega)
 rw [hO.az] at HA
 replace HA:=Lib.hid HA
 have hr0:decide (r < 0)=false:=decide_eq_false (by have:=hO.r0; omega)
 have hr6:decide (6 < r)=false:=decide_eq_false (by have:=hO.r6; omega)
 clear h hT hA hO m1
 go_enter Tryz.func76, Tryz.ntmps76
 go_wp2_with fail
 rw [← hW1]
 replace hW1:=Lib.hid hW1
 refine HT.out.mono ?_
 rintro e W2 ⟨rfl,hb2⟩
 clear p0 p1 p2 p3 p4 p5 p6
 obtain ⟨p0,p1,p2,p3,p4,p5,p6⟩:=hK.out W2 hb2
 go_wp2_with fail
 refine (HA.out W2 hb2).mono ?_
 rintro e W3 ⟨rfl,hb3⟩
 have hb13:=btt hb2 hb3
 have hf:=bt hb1 hb13 hb1.size
 clear p0 p1 p2 p3 p4 p5 p6
 obtain ⟨p0,p1,p2,p3,p4,p5,p6⟩:=hK.out W3 hb13
 clear hK HT HA
 go_wp2
 go_ret
 exact ⟨rfl,hf⟩
theorem kpB_box {w:World} {b n:Nat} {ins outs:Int} {sv av:Value} {r:Int} (h:w.heap[b]? = some (prBox n ins outs sv av r)):w.cell? ⟨b,4,none⟩=some (.int .i64 (n:Int))∧w.cell? ⟨b,5,none⟩=some av:=⟨box_cell h rfl,box_cell h rfl⟩
theorem sym1 {w:World} {b n:Nat} {ins outs:Int} {sv:Value} {aa:Option Addr} {ac:Nat} {r:Int} {ss:List (List (List Int))} (hA:AdvC w (.agg #[.int .i64 (n:Int),.slice aa ss.length ac]) (n:Int) ss) (hbx:w.heap[b]? = some (prBox n ins outs sv (.slice aa ss.length ac) r)) (hF:FewS ss) (hW:WfN n ss) {x:List Int} (hx:IsP n x) {u:Value} (hu:Ints w u x) :
  Calls Tryz.prog 80 #[u,.pointer (some ⟨b,0,none⟩)] w fun e w'=>e = .returned (.tuple #[.bool (kpG ss x),.int .i64 0])∧Below w.heap.size w w':=by
 have HI:=invariantC hA hu hF
 rw [invR,if_pos (perE_zero hW hx),perE_zero hW hx] at HI
 replace HI:=Lib.hid HI
 obtain ⟨ua,uc,hus⟩:∃ ua uc,u = .slice ua x.length uc:=by obtain ⟨ua,uc,_,_,h,_⟩:=hu; exact ⟨ua,uc,h⟩
 subst hus
 obtain ⟨p0,p1⟩:=kpB_box hbx
 obtain ⟨B,hB⟩:=exE (kpG ss x)
 rw [hB] at HI ⊢
 clear hA hF hW hx hu hbx hB
 go_enter Tryz.func80, Tryz.ntmps80
 go_wp2_with fail
 refine HI.out.mono ?_
 rintro e w1 ⟨rfl,hb1⟩
 go_wp2
 go_ret2
 exact ⟨rfl,hb1⟩
noncomputable def symP (n:Nat) (cs:List Cs) (ss:List (List (List Int))):List (List Int):=(symT n cs).filter (kpG ss)
theorem symmetriesC {w:World} {v:Value} {n:Nat} {ins outs:Int} {cs:List Cs} {ss:List (List (List Int))} {r:Int} (h:PrV w v n ins outs cs ss r) (hO:PrOK n ins outs cs ss r) :
  Calls Tryz.prog 38 #[v] w (RII w (symP n cs ss) 0):=by
 have hOK:=TskOK.of hO.tz
 have hk:=Lib.hid h
 obtain ⟨sa,sc,aa,ac,rfl,hT,hA⟩:=h.shape
 obtain ⟨n',hn',hW⟩:=wfN_of hA.adv hO.az
 obtain rfl:n'=n:=by omega
 obtain ⟨W1,hW1⟩:=exF (w.alloc (.cells #[.int .i64 (n':Int),.int .i64 ins,.int .i64 outs,.slice sa cs.length sc,.int .i64 (n':Int),.slice aa ss.length ac,.int .i64 r] 66))
 have hb1:Below w.heap.size w W1:=by rw [hW1]; exact (Below.refl _ _).alloc (Nat.le_refl _) _
 have m1:W1.heap[w.heap.size]? = some (.cells #[.int .i64 (n':Int),.int .i64 ins,.int .i64 outs,.slice sa cs.length sc,.int .i64 (n':Int),.slice aa ss.length ac,.int .i64 r] 66):=by rw [hW1]; exact heap_alloc_new _ _
 have hK:=Lib.hid (fun W (hb:Below W1.heap.size W1 W)=>boxL7 ((hb.block _ (Array.getElem?_eq_some_iff.1 m1).1).trans m1))
 obtain ⟨p0,p1,p2,p3,p4,p5,p6⟩:=boxL7 m1
 have HP:=Lib.hid (problemC (hk.out.keep hb1) hO)
 have HT:=Lib.hid (fun W (hb:Below W1.heap.size W1 W)=>relSymC ((hT.keep hb1).keep hb) hO.tz)
 have hsl:(symT n' cs).length≤1000:=Nat.le_trans (List.length_filter_le _ _) (every_len hOK.n5)
 have hsm:∀ x∈symT n' cs,IsP n' x:=fun x hx=>mem_everyL.1 (List.mem_filter.1 hx).1
 have HCh:=Lib.hid (fun W (hbW:Below W1.heap.size W1 W) (q:Value) B0 (hQ:OII W B0 q (symT n' cs).length (symT n' cs))=>chosenS (caps:=#[.pointer (some ⟨w.heap.size,0,none⟩)]) (p:=kpG ss) hQ hsl fun W' hbW' x hx u hu=>by
  have hx':=hsm x hx
  have hbb:=btt hbW hbW'
  exact sym1 ((hA.keep hb1).keep hbb) ((hbb.block _ (Array.getElem?_eq_some_iff.1 m1).1).trans m1) hO.few hW hx' (hu.ints (by have:=hx'.1; have:=hOK.n5; omega)))
 obtain ⟨L,hL⟩:=exE (symT n' cs)
 have hsy:=Lib.hid (show L.filter (kpG ss)=symP n' cs ss by rw [← hL]; rfl)
 rw [hL] at HT HCh
 clear h hT hA hO hOK hn' hW hsl hsm hL m1
 go_enter Tryz.func38, Tryz.ntmps38
 go_wp2_with fail
 rw [← hW1]
 replace hW1:=Lib.hid hW1
 refine HP.out.mono ?_
 rintro e W2 ⟨rfl,hb2⟩
 clear p0 p1 p2 p3 p4 p5 p6
 obtain ⟨p0,p1,p2,p3,p4,p5,p6⟩:=hK.out W2 hb2
 go_wp2_with fail
 refine (HT.out W2 hb2).mono ?_
 rintro e W3 ⟨q,rfl,hQ,hb3⟩
 have hQk:=Lib.hid hQ
 obtain ⟨ra,rc,rfl⟩:=hQ.shape
 have hb13:=btt hb2 hb3
 have HC3:=Lib.hid (HCh.out W3 hb13 _ _ hQk.out)
 clear p0 p1 p2 p3 p4 p5 p6 hK HP HT HCh hQ
 go_wp2_with fail
 refine HC3.out.mono ?_
 rintro e W4 ⟨r2,rfl,hO2,hb4⟩
 rw [hsy.out] at hO2
 obtain ⟨ra2,rc2,rfl⟩:=hO2.shape
 have hfin:=bt hb1 (btt hb13 hb4) hb1.size
 have hO3:=Lib.hid (hO2.base (B':=w.heap.size) (bt hb1 hb13 hb1.size).size)
 clear hO2 HC3
 go_wp2
 go_ret2
 exact ⟨_,rfl,hO3.out,hfin⟩
end Go.Proofs.YtmikofeildnpdaaGreat

/- law21.graphs. -/
namespace Go.Proofs.YtmikofeildnpdaaGreat
open Go.RowKit
def mk2 (p:List Int):List Int:=[2,p.getD 0 0,p.getD 1 0,0,0,0,0,0]
theorem CI.all2 {w:World} {b o:Nat} {x0 x1:Int} (h:CI w b o [x0,x1]):w.cell? ⟨b,o,none⟩=some (.int .i64 x0)∧w.cell? ⟨b,o+1,none⟩=some (.int .i64 x1):=⟨h 0 (show 0 < 2 by decide),h 1 (show 1 < 2 by decide)⟩
theorem OwX.one1 {α:Type} {E:TypeId} {El:World→List Value→α→Prop} {w:World} {g:Nat} {u:Value} {x:α} (h:w.heap[g]? = some (.cells #[u] E)) (h1:u.oneCell'=true) (hE:El w [u] x):OwX E 1 El w 0 (.slice (some ⟨g,0,none⟩) 1 1) 1 [x]:=by
 refine ⟨[u],⟨rfl,.inr ⟨g,1,#[u],rfl,Nat.zero_le _,h,Nat.le_refl _,by decide,rfl,rfl⟩⟩,rfl,fun y hy=>by rw [List.mem_singleton.1 hy]; exact h1,fun j y hj=>?_⟩
 match j,hj with
 | 0,hj=>injection hj with hj; subst hj; exact hE
theorem two {x:List Int} (h:x.length=2):∃ a b,x = [a,b]:=by
 match x,h with
 | [a,b],_=>exact ⟨a,b,rfl⟩
theorem graphsC {w:World} {v:Value} {ps:List (List Int)} (h:KS 2 w v ps) (hl:ps.length≤1000) :
  Calls Tryz.prog 49 #[v] w fun e w'=>∃ r,e = .returned r∧OwAdv w' r 2 [ps.map mk2]∧Below w.heap.size w w':=by
 obtain ⟨va,vc,vb,vo,rfl,hva,hvc,_⟩:=h
 replace hvc:Hid (∀ j,j < ps.length→(ps.getD j []).length=2∧CI w vb (vo+j * 2) (ps.getD j [])):=hvc
 obtain ⟨M,hM⟩:=exE (ps.map mk2)
 have hMl:Hid (M.length=ps.length):=by rw [← hM,List.length_map]; exact rfl
 have hMi:Hid (∀ j,j < ps.length→M.getD j []=mk2 (ps.getD j [])):=fun j hj=>by rw [← hM,getD_eq (by rw [List.length_map]; exact hj),List.getElem_map,getD_eq hj]
 rw [hM]
 replace hM:=Lib.hid hM
 replace hva:=Lib.hid hva
 obtain ⟨W1,hW1⟩:=exF (w.alloc (.cells #[.int .i64 0,.slice none 0 0] 24))
 have hb1:Below w.heap.size w W1:=by rw [hW1]; exact (Below.refl _ w).alloc (Nat.le_refl _) _
 have m1:W1.heap[w.heap.size]? = some (.cells #[.int .i64 0,.slice none 0 0] 24):=by rw [hW1]; exact heap_alloc_new _ _
 have hs1:Hid (W1.heap.size=w.heap.size+1):=by rw [hW1,World.size_alloc]; exact rfl
 have ho1:OwX 100 8 EI W1 W1.heap.size (.slice none 0 0) 0 (M.take 0):=OwX.nil _ _
 have hbr:=Below.refl W1.heap.size W1
 go_enter Tryz.func49, Tryz.ntmps49
 go_wp2_with fail
 rw [← hW1]
 replace hW1:=Lib.hid hW1
 go_loopw [3,8] (fun ov jv wr=>∃ j:Nat,jv = .int .i64 (j:Int)∧j≤ps.length∧OwX 100 8 EI wr W1.heap.size ov j (M.take j)∧Hid (Below W1.heap.size W1 wr)) (fun _ jv _=>ps.length - (intOf jv).toNat)
 case atStart=>exact ⟨0,rfl,Nat.zero_le _,ho1,hbr⟩
 case round=>
  clear ho1 hbr
  obtain ⟨j,rfl,hj,ho,hb⟩:=hrel
  obtain ⟨oa,oc,hov⟩:=ho.shape
  subst hov
  by_cases hlt:j < ps.length
  ·have hltI:(j:Int) < (ps.length:Int):=by omega
   obtain rfl:=hva.out (by omega)
   obtain ⟨hx2,hxc⟩:=hvc.out j hlt
   obtain ⟨x,hx⟩:=exE (ps.getD j [])
   have hstep:M.take (j+1)=M.take j ++ [mk2 x]:=by rw [take_snoc (by rw [hMl.out]; exact hlt) [],hMi.out j hlt,hx]
   rw [hx] at hx2 hxc
   obtain ⟨x0,x1,rfl⟩:=two hx2
   have hbw:=bt hb1 hb.out hb1.size
   obtain ⟨q0,q1⟩:=(hxc.keep hbw).all2
   obtain ⟨W5,hW5⟩:=exF (wr.alloc (.cells #[.int .i64 x0,.int .i64 x1] 93))
   have hb5:Below wr.heap.size wr W5:=by rw [hW5]; exact (Below.refl _ _).alloc (Nat.le_refl _) _
   have m5:W5.heap[wr.heap.size]? = some (.cells #[.int .i64 x0,.int .i64 x1] 93):=by rw [hW5]; exact heap_alloc_new _ _
   obtain ⟨p0,p1⟩:=boxL2 m5
   have ho5:=ho.keep (EI.stab _) hb5
   have hbo5:Below W1.heap.size W1 W5:=hb.out.trans (hb5.mono hb.out.size)
   have hEI:EI W5 [.int .i64 2,.int .i64 x0,.int .i64 x1,.int .i64 0,.int .i64 0,.int .i64 0,.int .i64 0,.int .i64 0] [2,x0,x1,0,0,0,0,0]:=rfl
   have hc8:∀ u∈(#[.int .i64 2,.int .i64 x0,.int .i64 x1,.int .i64 0,.int .i64 0,.int .i64 0,.int .i64 0,.int .i64 0]:Array Value).toList,u.oneCell'=true:=fun u hu=>by
    simp only [List.mem_cons,List.not_mem_nil,or_false] at hu
    rcases hu with rfl | rfl | rfl | rfl | rfl | rfl | rfl | rfl <;> rfl
   have hstep2:Hid (M.take (j+1)=M.take j ++ [[2,x0,x1,0,0,0,0,0]]):=hstep
   clear hx hxc hx2 ho m5 hstep hb5
   go_upto_region 5 with fail
   rw [← hW5]
   replace hW5:=Lib.hid hW5
   go_wp2_with (at_builtin; refine wpAppX elemMv (by decide) (by decide) (EI.stab _) rfl _ _ rfl rfl ho5 rfl rfl rfl hc8 hEI (by omega) hbo5.size ?_)
   intro v' w9 ho9 _ hb9 _
   rw [← hstep2.out] at ho9
   clear ho5 p0 p1
   go_wp2_with fail
   go_roundw
   case rel=>exact ⟨j+1,by go_num,by omega,ho9,hbo5.trans hb9⟩
   case measure=>simp [intOf]; omega
  ·obtain rfl:j=ps.length:=by omega
   rw [List.take_of_length_le (by rw [hMl.out]; exact Nat.le_refl _)] at ho
   have hbw:=bt hb1 hb.out hb1.size
   obtain ⟨W5,hW5⟩:=exF (wr.alloc (.cells #[.slice oa ps.length oc] 98))
   have hb5:Below wr.heap.size wr W5:=by rw [hW5]; exact (Below.refl _ _).alloc (Nat.le_refl _) _
   have m5:W5.heap[wr.heap.size]? = some (.cells #[.slice oa ps.length oc] 98):=by rw [hW5]; exact heap_alloc_new _ _
   have hm1:=(hb.out.trans (hb5.mono hb.out.size)).block w.heap.size (by rw [hs1.out]; omega)
   have c1:=hm1.trans m1
   obtain ⟨z0,z1⟩:=boxL2 c1
   obtain ⟨f0,f1⟩:=freeL2 c1
   rw [hW5] at z0 z1 f0 f1
   have ho5:=ho.keep (EI.stab _) hb5
   have hbw5:=hbw.trans (hb5.mono hbw.size)
   clear ho m1 hm1
   go_wp2
   rw [← hW5]
   refine storeEnd2 (u0:=.int .i64 2) (u1:=.slice (some ⟨wr.heap.size,0,none⟩) 1 1) c1 ?_
   intro W9 hW9 hb9 hk9 _ e0 e1
   rw [← hW9]
   have hE9:ESt W9 [.slice oa ps.length oc] M:=⟨_,rfl,by rw [hMl.out]; exact (ho5.other (E':=24) (EI.stab _) (by decide) hk9).base (Nat.zero_le _)⟩
   have hfin:OwAdv W9 (.agg #[.int .i64 2,.slice (some ⟨wr.heap.size,0,none⟩) 1 1]) 2 [M]:=⟨_,rfl,OwX.one1 ((hk9 _ _ _ m5 (by decide)).trans m5) rfl hE9,show 1≤5864062014805 by decide,fun x hx=>by rw [List.mem_singleton.1 hx,hMl.out]; omega⟩
   refine bodyPost_ret (v:=.agg #[.int .i64 2,.slice (some ⟨wr.heap.size,0,none⟩) 1 1]) (by simp [results,Tryz.results49,go_sem,e0,e1]) rfl ?_
   exact ⟨_,rfl,hfin,hb9 _ _ (by omega) hbw5⟩
end Go.Proofs.YtmikofeildnpdaaGreat

/- The examples of law21.awake. -/
namespace Go.Proofs.YtmikofeildnpdaaGreat
open Go.RowKit
def awS1:List (List (List Int)):=[[[3,2],[3,3]].map mk2]
def awS2:List (List (List Int)):=[[[1,3],[3,2],[3,3]].map mk2]
def awS3:List (List (List Int)):=[[[1,3],[3,3]].map mk2]
theorem awn1:chkA 2 awS1=0:=by decide +kernel
theorem awn2:chkA 2 awS2=0:=by decide +kernel
theorem awn3:renA [1,0] awS1=awS3:=by decide +kernel
theorem aw4:renA [1,0] awS2=awS2:=by decide +kernel
theorem aw5:renA [0,1] awS2=awS2:=by decide +kernel
theorem aw6:renA [0,1] awS1=awS1:=by decide +kernel
theorem aw7:chkT 2 2 2 csC=0:=by decide +kernel
theorem awn8:everyL 2 = [[0,1],[1,0]]:=by decide +kernel
theorem awn9:symT 2 csC = [[0,1],[1,0]]:=by decide +kernel
theorem awF1:FewS awS1:=⟨by decide,by decide +kernel⟩
theorem awF2:FewS awS2:=⟨by decide,by decide +kernel⟩
theorem awW1:WfN 2 awS1:=WfN.of (by decide) awn1
theorem awP:IsP 2 [1,0]:=⟨rfl,by decide,by decide⟩
theorem awK1:kpG awS1 [0,1]=true:=kpG_iff.2 (fun w=>by rw [aw6])
theorem awK2:kpG awS1 [1,0]=false:=by
 rw [Bool.eq_false_iff]
 intro h
 have h:=(kpG_iff.1 h [[2,3,2,0,0,0,0]]).1 ⟨by decide +kernel,trivial⟩
 rw [awn3] at h
 exact absurd h.1 (by decide +kernel)
theorem awK3:kpG awS2 [0,1]=true:=kpG_iff.2 (fun w=>by rw [aw5])
theorem awK4:kpG awS2 [1,0]=true:=kpG_iff.2 (fun w=>by rw [aw4])
theorem awG1:grpL 2 awS1 = [[0,1]]:=by
 rw [grpL,if_pos awn1,show (2:Int).toNat=2 from rfl,awn8]
 simp [awK1,awK2]
theorem awG2:grpL 2 awS2 = [[0,1],[1,0]]:=by
 rw [grpL,if_pos awn2,show (2:Int).toNat=2 from rfl,awn8]
 simp [awK3,awK4]
theorem awY2:symP 2 csC awS2 = [[0,1],[1,0]]:=by
 rw [symP,awn9]
 simp [awK3,awK4]
theorem awY1:symP 2 csC awS1 = [[0,1]]:=by
 rw [symP,awn9]
 simp [awK1,awK2]
theorem awO0:chkList 4 [[1,0,2,3]]=0:=by decide +kernel
theorem awO1:obsR 4 [[1,0,2,3]] = [[0,1],[2],[3]]:=by
 have hz:chkList ((4:Nat):Int) [[1,0,2,3]]=0:=awO0
 have hG:=(genR_grp hz).1
 rw [obsR,if_pos awO0,show (4:Int).toNat=4 from rfl]
 exact (orb_eq (by decide) (by decide) hG).trans (by decide +kernel)
end Go.Proofs.YtmikofeildnpdaaGreat

/- For law21.awake. -/
namespace Go.Proofs.YtmikofeildnpdaaGreat
open Go.RowKit
theorem ks4 {W:World} {b:Nat} {x0 x1 x2 x3:Int} (h:W.heap[b]? = some (.cells #[.int .i64 x0,.int .i64 x1,.int .i64 x2,.int .i64 x3] 93)):KS 2 W (.slice (some ⟨b,0,none⟩) 2 2) [[x0,x1],[x2,x3]]:=by
 obtain ⟨p0,p1,p2,p3⟩:=boxL4 h
 refine ⟨_,_,b,0,rfl,fun _=>rfl,fun j hj=>?_,show 2≤2199023255552 by decide⟩
 match j,hj with
 | 0,_=>exact ⟨rfl,fun i hi=>by match i,hi with | 0,_=>exact p0 | 1,_=>exact p1⟩
 | 1,_=>exact ⟨rfl,fun i hi=>by match i,hi with | 0,_=>exact p2 | 1,_=>exact p3⟩
theorem ks6 {W:World} {b:Nat} {x0 x1 x2 x3 x4 x5:Int} (h:W.heap[b]? = some (.cells #[.int .i64 x0,.int .i64 x1,.int .i64 x2,.int .i64 x3,.int .i64 x4,.int .i64 x5] 93)):KS 2 W (.slice (some ⟨b,0,none⟩) 3 3) [[x0,x1],[x2,x3],[x4,x5]]:=by
 obtain ⟨p0,p1,p2,p3,p4,p5⟩:=boxL6 h
 refine ⟨_,_,b,0,rfl,fun _=>rfl,fun j hj=>?_,show 3≤2199023255552 by decide⟩
 match j,hj with
 | 0,_=>exact ⟨rfl,fun i hi=>by match i,hi with | 0,_=>exact p0 | 1,_=>exact p1⟩
 | 1,_=>exact ⟨rfl,fun i hi=>by match i,hi with | 0,_=>exact p2 | 1,_=>exact p3⟩
 | 2,_=>exact ⟨rfl,fun i hi=>by match i,hi with | 0,_=>exact p4 | 1,_=>exact p5⟩
def GrOut (S:List (List (List Int))) (W:World) (e:Ending) (w':World):Prop:=∃ a c,e = .returned (.agg #[.int .i64 2,.slice a 1 c])∧OwAdv w' (.agg #[.int .i64 2,.slice a 1 c]) 2 S∧Below W.heap.size W w'
theorem gr4 {S:List (List (List Int))} {x0 x1 x2 x3:Int} (hS : [[[x0,x1],[x2,x3]].map mk2]=S) (W:World) (b:Nat) (h:W.heap[b]? = some (.cells #[.int .i64 x0,.int .i64 x1,.int .i64 x2,.int .i64 x3] 93)) :
  Calls Tryz.prog 49 #[.slice (some ⟨b,0,none⟩) 2 2] W (GrOut S W):=by
 refine (graphsC (ks4 h) (show 2≤1000 by decide)).mono ?_
 rintro e w' ⟨r,rfl,hr,hb⟩
 rw [hS] at hr
 obtain ⟨a,c,rfl⟩:=advShape' hr.adv
 rw [← hS] at hr
 exact ⟨a,c,by rw [← hS]; rfl,by rw [← hS]; exact hr,hb⟩
theorem gr6 {S:List (List (List Int))} {x0 x1 x2 x3 x4 x5:Int} (hS : [[[x0,x1],[x2,x3],[x4,x5]].map mk2]=S) (W:World) (b:Nat) (h:W.heap[b]? = some (.cells #[.int .i64 x0,.int .i64 x1,.int .i64 x2,.int .i64 x3,.int .i64 x4,.int .i64 x5] 93)) :
  Calls Tryz.prog 49 #[.slice (some ⟨b,0,none⟩) 3 3] W (GrOut S W):=by
 refine (graphsC (ks6 h) (show 3≤1000 by decide)).mono ?_
 rintro e w' ⟨r,rfl,hr,hb⟩
 rw [hS] at hr
 obtain ⟨a,c,rfl⟩:=advShape' hr.adv
 rw [← hS] at hr
 exact ⟨a,c,by rw [← hS]; rfl,by rw [← hS]; exact hr,hb⟩
theorem FewS.m' {ss:List (List (List Int))} (h:FewS ss):movesN ss≤1000000000:=by have:=h.m; omega
def PmOut (W:World) (e:Ending) (w':World):Prop:=∃ a c,e = .returned (.tuple #[.agg #[.int .i64 2,.slice a 1 c],.int .i64 0])∧OwAdv w' (.agg #[.int .i64 2,.slice a 1 c]) 2 awS3∧Below W.heap.size W w'
theorem permOut {W:World} {v u:Value} (hv:AdvV W v 2 awS1) (hu:Ints W u [1,0]):Calls Tryz.prog 13 #[v,u] W (PmOut W):=by
 refine (permuteGood (n:=2) hv hu awF1.m' awW1 awP).mono ?_
 rintro e w' ⟨r,rfl,hr,hb⟩
 rw [awn3] at hr
 obtain ⟨a,c,rfl⟩:=advShape' hr.adv
 exact ⟨a,c,rfl,hr,hb⟩
theorem ints2 {W:World} {b:Nat} {x y:Int} (h:W.heap[b]? = some (.cells #[.int .i64 x,.int .i64 y] 3)):Ints W (.slice (some ⟨b,0,none⟩) 2 2) [x,y]:=IntB.ints ⟨_,rfl,h⟩
def CnOut (W:World) (e:Ending) (w':World):Prop:=∃ a c,e = .returned (.agg #[.int .i64 2,.int .i64 2,.int .i64 2,.slice a 4 c])∧TaskV w' (.agg #[.int .i64 2,.int .i64 2,.int .i64 2,.slice a 4 c]) 2 2 2 csC∧Below W.heap.size W w'
theorem consOut {W:World}:Calls Tryz.prog 50 #[] W (CnOut W):=by
 refine consensusC.mono ?_
 rintro e w' ⟨r,rfl,⟨sv,rfl,hS⟩,hb⟩
 obtain ⟨sa,sc,rfl⟩:=hS.shape
 exact ⟨sa,sc,rfl,⟨_,rfl,hS⟩,hb⟩
theorem symOut1 {W:World} {sa:Option Addr} {sc:Nat} {a:Option Addr} {c:Nat} (hT:TaskV W (.agg #[.int .i64 2,.int .i64 2,.int .i64 2,.slice sa 4 sc]) 2 2 2 csC) (hA:AdvC W (.agg #[.int .i64 2,.slice a 1 c]) 2 awS1) :
  Calls Tryz.prog 38 #[.agg #[.int .i64 2,.int .i64 2,.int .i64 2,.slice sa 4 sc,.int .i64 2,.slice a 1 c,.int .i64 1]] W (RII W [[0,1]] 0):=by
 have:=symmetriesC (n:=2) (ins:=2) (outs:=2) (cs:=csC) (ss:=awS1) (r:=1) ⟨_,_,rfl,hT,hA⟩ ⟨aw7,awn1,by decide,by decide,awF1⟩
 rwa [awY1] at this
theorem symOut2 {W:World} {sa:Option Addr} {sc:Nat} {a:Option Addr} {c:Nat} (hT:TaskV W (.agg #[.int .i64 2,.int .i64 2,.int .i64 2,.slice sa 4 sc]) 2 2 2 csC) (hA:AdvC W (.agg #[.int .i64 2,.slice a 1 c]) 2 awS2) :
  Calls Tryz.prog 38 #[.agg #[.int .i64 2,.int .i64 2,.int .i64 2,.slice sa 4 sc,.int .i64 2,.slice a 1 c,.int .i64 1]] W (RII W [[0,1],[1,0]] 0):=by
 have:=symmetriesC (n:=2) (ins:=2) (outs:=2) (cs:=csC) (ss:=awS2) (r:=1) ⟨_,_,rfl,hT,hA⟩ ⟨aw7,awn2,by decide,by decide,awF2⟩
 rwa [awY2] at this
theorem intss2 {w:World} {g:Nat} {u v:Value} {x y:List Int} (h:w.heap[g]? = some (.cells #[u,v] 25)) (hx:Ints w u x) (hy:Ints w v y):Intss w (.slice (some ⟨g,0,none⟩) 2 2) [x,y]:=by
 obtain ⟨p0,p1⟩:=boxL2 h
 refine ⟨_,_,g,0,rfl,fun _=>rfl,fun j hj=>?_,show 2≤5864062014805 by decide⟩
 match j,hj with
 | 0,_=>exact ⟨_,p0,hx⟩
 | 1,_=>exact ⟨_,p1,hy⟩
theorem orbIn (w:World):Below w.heap.size w ((w.alloc (.cells #[.int .i64 1,.int .i64 0,.int .i64 2,.int .i64 3] 3)).alloc (.cells #[.slice (some ⟨w.heap.size,0,none⟩) 4 4] 25))∧
  Intss ((w.alloc (.cells #[.int .i64 1,.int .i64 0,.int .i64 2,.int .i64 3] 3)).alloc (.cells #[.slice (some ⟨w.heap.size,0,none⟩) 4 4] 25)) (.slice (some ⟨w.heap.size+1,0,none⟩) 1 1) [[1,0,2,3]]:=by
 obtain ⟨W1,hW1⟩:=exF (w.alloc (.cells #[.int .i64 1,.int .i64 0,.int .i64 2,.int .i64 3] 3))
 have h1:W1.heap[w.heap.size]? = some (.cells #[.int .i64 1,.int .i64 0,.int .i64 2,.int .i64 3] 3):=by rw [hW1]; exact heap_alloc_new _ _
 have hs:W1.heap.size=w.heap.size+1:=by rw [hW1,World.size_alloc]
 have hb1:Below w.heap.size w W1:=by rw [hW1]; exact (Below.refl _ _).alloc (Nat.le_refl _) _
 rw [← hW1]
 have hb2:=(Below.refl W1.heap.size W1).alloc (Nat.le_refl _) (.cells #[.slice (some ⟨w.heap.size,0,none⟩) 4 4] 25)
 refine ⟨bt hb1 hb2 hb1.size,?_⟩
 rw [← hs]
 refine intss1 (heap_alloc_new _ _) (Ints.keep ?_ hb2)
 obtain ⟨p0,p1,p2,p3⟩:=boxL4 h1
 refine ⟨_,_,w.heap.size,0,rfl,fun _=>rfl,fun j hj=>?_,show 4≤17592186044416 by decide⟩
 match j,hj with
 | 0,_=>exact p0
 | 1,_=>exact p1
 | 2,_=>exact p2
 | 3,_=>exact p3
theorem orbOut {W:World} {v:Value} (h:Intss W v [[1,0,2,3]]):Calls Tryz.prog 22 #[.int .i64 4,v] W (RII W [[0,1],[2],[3]] 0):=by
 have:=orbitsC 4 h
 rwa [awO1,awO0] at this
theorem awRows {w W:World} (hW:W=((((w.alloc (.cells #[.int .i64 0,.int .i64 1] 3)).alloc (.cells #[.slice (some ⟨w.heap.size,0,none⟩) 2 2] 25)).alloc (.cells #[.int .i64 0,.int .i64 1] 3)).alloc (.cells #[.int .i64 1,.int .i64 0] 3)).alloc
   (.cells #[.slice (some ⟨w.heap.size+1+1,0,none⟩) 2 2,.slice (some ⟨w.heap.size+1+1+1,0,none⟩) 2 2] 25)) :
  Below w.heap.size w W∧Intss W (.slice (some ⟨w.heap.size+1,0,none⟩) 1 1) [[0,1]]∧Intss W (.slice (some ⟨w.heap.size+1+1+1+1,0,none⟩) 2 2) [[0,1],[1,0]]:=by
 obtain ⟨W1,h1⟩:=exF (w.alloc (.cells #[.int .i64 0,.int .i64 1] 3))
 obtain ⟨W2,h2⟩:=exF (W1.alloc (.cells #[.slice (some ⟨w.heap.size,0,none⟩) 2 2] 25))
 obtain ⟨W3,h3⟩:=exF (W2.alloc (.cells #[.int .i64 0,.int .i64 1] 3))
 obtain ⟨W4,h4⟩:=exF (W3.alloc (.cells #[.int .i64 1,.int .i64 0] 3))
 rw [← h1,← h2,← h3,← h4] at hW
 have s1:W1.heap.size=w.heap.size+1:=by rw [h1,World.size_alloc]
 have s2:W2.heap.size=w.heap.size+1+1:=by rw [h2,World.size_alloc,s1]
 have s3:W3.heap.size=w.heap.size+1+1+1:=by rw [h3,World.size_alloc,s2]
 have s4:W4.heap.size=w.heap.size+1+1+1+1:=by rw [h4,World.size_alloc,s3]
 have b1:Below w.heap.size w W1:=by rw [h1]; exact (Below.refl _ _).alloc (Nat.le_refl _) _
 have b2:Below W1.heap.size W1 W2:=by rw [h2]; exact (Below.refl _ _).alloc (Nat.le_refl _) _
 have b3:Below W2.heap.size W2 W3:=by rw [h3]; exact (Below.refl _ _).alloc (Nat.le_refl _) _
 have b4:Below W3.heap.size W3 W4:=by rw [h4]; exact (Below.refl _ _).alloc (Nat.le_refl _) _
 have b5:Below W4.heap.size W4 W:=by rw [hW]; exact (Below.refl _ _).alloc (Nat.le_refl _) _
 have m1:W1.heap[w.heap.size]? = some (.cells #[.int .i64 0,.int .i64 1] 3):=by rw [h1]; exact heap_alloc_new _ _
 have m2:W2.heap[W1.heap.size]? = some (.cells #[.slice (some ⟨w.heap.size,0,none⟩) 2 2] 25):=by rw [h2]; exact heap_alloc_new _ _
 have m3:W3.heap[W2.heap.size]? = some (.cells #[.int .i64 0,.int .i64 1] 3):=by rw [h3]; exact heap_alloc_new _ _
 have m4:W4.heap[W3.heap.size]? = some (.cells #[.int .i64 1,.int .i64 0] 3):=by rw [h4]; exact heap_alloc_new _ _
 have m5:W.heap[W4.heap.size]? = some (.cells #[.slice (some ⟨W2.heap.size,0,none⟩) 2 2,.slice (some ⟨W3.heap.size,0,none⟩) 2 2] 25):=by rw [hW,s2,s3]; exact heap_alloc_new _ _
 have b45:=btt b4 b5
 have b35:=btt b3 b45
 have b25:=btt b2 b35
 rw [← s4,← s1]
 exact ⟨bt b1 b25 b1.size,(intss1 m2 ((ints2 m1).keep b2)).keep b35,intss2 m5 ((ints2 m3).keep b45) ((ints2 m4).keep b5)⟩
theorem sAll {w:World} {u v:Value} {xs:List (List Int)} (h:Intss w u xs) (h':Intss w v xs):Calls Tryz.prog 20 #[u,v] w fun e w'=>e = .returned (.bool true)∧Qt w w':=by
 have:=refSameAll h h'
 rwa [show sameAllB xs xs=true by simp [sameAllB]] at this
theorem ints1 {W:World} {b:Nat} {x:Int} (h:W.heap[b]? = some (.cells #[.int .i64 x] 3)):Ints W (.slice (some ⟨b,0,none⟩) 1 1) [x]:=by
 refine ⟨_,_,b,0,rfl,fun _=>rfl,fun j hj=>?_,show 1≤17592186044416 by decide⟩
 match j,hj with
 | 0,_=>exact cell_of_one h
theorem intss3 {w:World} {g:Nat} {u v t:Value} {x y z:List Int} (h:w.heap[g]? = some (.cells #[u,v,t] 25)) (hx:Ints w u x) (hy:Ints w v y) (hz:Ints w t z):Intss w (.slice (some ⟨g,0,none⟩) 3 3) [x,y,z]:=by
 obtain ⟨p0,p1,p2⟩:=boxL3 h
 refine ⟨_,_,g,0,rfl,fun _=>rfl,fun j hj=>?_,show 3≤5864062014805 by decide⟩
 match j,hj with
 | 0,_=>exact ⟨_,p0,hx⟩
 | 1,_=>exact ⟨_,p1,hy⟩
 | 2,_=>exact ⟨_,p2,hz⟩
end Go.Proofs.YtmikofeildnpdaaGreat

/- Texts of this claim, put together: YM YN0. -/
import Derived.Test.YtmikofeildnpdaaGreatKYzq
import Derived.Test.YtmikofeildnpdaaGreatKYy
import Derived.Lib.SmallJoins

set_option maxRecDepth 100000
set_option maxHeartbeats 12800000
/- The law SymmetryAgrees. -/
namespace Go.Proofs.YtmikofeildnpdaaGreat
open Go.RowKit
theorem symP_le {k:Nat} {ins outs:Int} {cs:List Cs} {ss:List (List (List Int))} (h:chkT (k:Int) ins outs cs=0):(symP k cs ss).length≤1000∧∀ x∈symP k cs ss,IsP k x:=by
 have hOK:=TskOK.of h
 refine ⟨Nat.le_trans (List.length_filter_le _ _) (Nat.le_trans (List.length_filter_le _ _) (every_len hOK.n5)),fun x hx=>?_⟩
 exact mem_everyL.1 (List.mem_filter.1 (List.mem_filter.1 hx).1).1
theorem symP_mem {k:Nat} {cs:List Cs} {ss:List (List (List Int))} {x:List Int}:x∈symP k cs ss↔IsP k x∧cs=renT x cs∧kpG ss x=true:=by
 rw [symP,List.mem_filter,symT,List.mem_filter,mem_everyL,decide_eq_true_eq,and_assoc]
theorem agree_eq {k:Nat} {cs:List Cs} {ss:List (List (List Int))} {x:List Int} (hW:WfN k ss) (hx:x∈grpL k ss):decide (renT x cs=cs)=amongB (symP k cs ss) x:=by
 obtain ⟨h1,h2⟩:=(grpL_mem hW).1 hx
 rw [amongB,Bool.eq_iff_iff,decide_eq_true_eq,decide_eq_true_eq,symP_mem]
 exact ⟨fun h=>⟨h1,h.symm,kpG_iff.2 h2⟩,fun h=>h.2.1.symm⟩
theorem lawAgrees {w:World} {v:Value} {n1 ins outs:Int} {cs:List Cs} {n2:Int} {ss:List (List (List Int))} {r:Int} (h:PrX w v n1 ins outs cs n2 ss r) :
  Calls Tryz.prog 9 #[v] w (Yes w):=by
 have hh:=Lib.hid h
 obtain ⟨sa,sc,aa,ac,rfl,hT,hA⟩:=h
 obtain ⟨W1,hW1⟩:=exF (w.alloc (.cells #[.int .i64 n1,.int .i64 ins,.int .i64 outs,.slice sa cs.length sc,.int .i64 n2,.slice aa ss.length ac,.int .i64 r] 66))
 obtain ⟨hb1,m1⟩:=boxPr hW1
 have hK:=Lib.hid (fun W (hb:Below W1.heap.size W1 W)=>boxL7 ((hb.block _ (Array.getElem?_eq_some_iff.1 m1).1).trans m1))
 obtain ⟨p0,p1,p2,p3,p4,p5,p6⟩:=boxL7 m1
 have hX:=Lib.hid (fun W (hb:Below W1.heap.size W1 W)=>(hh.out.keep hb1).keep hb)
 have HF:=refFewP (hX.out W1 (Below.refl _ _))
 have HC:=fun W (hb:Below W1.heap.size W1 W)=>refCheckP (hX.out W hb)
 obtain ⟨fx,hfx⟩:=exE ((fewT cs && fewA ss))
 obtain ⟨E,hE⟩:=exE (prE n1 ins outs cs n2 ss r)
 rw [hfx] at HF
 simp only [hE] at HC
 replace HF:=Lib.hid HF
 replace HC:=Lib.hid HC
 clear m1
 cases fx
 ·clear hfx hE hT hA
  go_enter Tryz.func9, Tryz.ntmps9
  go_wp2_with fail
  rw [← hW1]
  replace hW1:=Lib.hid hW1
  refine HF.out.mono ?_
  rintro e W2 ⟨rfl,hb2⟩
  clear p0 p1 p2 p3 p4 p5 p6
  go_wp2_with fail
  refine (awakeC (w:=W2)).mono ?_
  rintro e W9 ⟨rfl,hq⟩
  have hb9:=bt hb1 (btt hb2 hq) hb1.size
  go_wp2
  go_ret
  exact ⟨rfl,hb9⟩
 by_cases h1:E=0
 rotate_left
 ·have hEb:(E != 0)=true:=by simp [h1]
  clear hfx hE hT hA
  go_enter Tryz.func9, Tryz.ntmps9
  go_wp2_with fail
  rw [← hW1]
  replace hW1:=Lib.hid hW1
  refine HF.out.mono ?_
  rintro e W2 ⟨rfl,hb2⟩
  clear p0 p1 p2 p3 p4 p5 p6
  obtain ⟨p0,p1,p2,p3,p4,p5,p6⟩:=hK.out W2 hb2
  go_wp2_with fail
  refine (HC.out W2 hb2).mono ?_
  rintro e W3 ⟨rfl,hq⟩
  have hb3:=btt hb2 hq
  clear p0 p1 p2 p3 p4 p5 p6 hq
  go_wp2_with fail
  refine (awakeC (w:=W3)).mono ?_
  rintro e W9 ⟨rfl,hq⟩
  have hb9:=bt hb1 (btt hb3 hq) hb1.size
  go_wp2
  go_ret
  exact ⟨rfl,hb9⟩
 subst h1
 obtain ⟨hz1,hz2,rfl,hr0,hr6⟩:=prE_ok hE
 obtain ⟨k,hk,hW⟩:=wfN_of hA.adv hz2
 subst hk
 have hfa:fewA ss=true:=(Bool.and_eq_true _ _ ▸ hfx).2
 have hF:=fewS_of hfa
 have hO:PrOK k ins outs cs ss r:=⟨hz1,hz2,hr0,hr6,hF⟩
 have h1:=hW.h1
 have h5:=hW.h5
 have hC:=grpC_of hW
 obtain ⟨hsl,hsP⟩:=symP_le (ss:=ss) hz1
 have hsg:Hid (∀ x∈symP k cs ss,amongB (grpL k ss) x=true):=fun x hx=>by
  rw [amongB,decide_eq_true_eq]
  obtain ⟨i1,_,i3⟩:=symP_mem.1 hx
  exact (grpL_mem hW).2 ⟨i1,kpG_iff.1 i3⟩
 have HS:=fun W (hb:Below W1.heap.size W1 W)=>symmetriesC (hX.out W hb).prV hO
 have HG:=fun W (hb:Below W1.heap.size W1 W)=>groupC ((hA.keep hb1).keep hb) hF
 simp only [hz2] at HG
 have HPr:=Lib.hid (fun W (hb:Below W1.heap.size W1 W) (u:Value) (x:List Int) (hu:Ints W u x) (hx:IsP k x)=>symProblemGood (hX.out W hb).prV hO hu hx)
 have HSm:=Lib.hid (fun W (hb:Below W1.heap.size W1 W) (t:Value) (x:List Int) (ht:TaskV W t (k:Int) ins outs (renT x cs))=>refSameT ht ((hT.keep hb1).keep hb))
 have hm:movesN ss≤1000000000:=by have:=hF.m; omega
 have HEq:=Lib.hid (fun W (hb:Below W1.heap.size W1 W) (t:Value) (x:List Int) (hx:IsP k x) (ht:AdvC W t (k:Int) (renA x ss))=>equivC ht ((hA.keep hb1).keep hb) (eqErr_z21 (hW.ren hx) hW) (hW.ren hx).s hW.s (hF.ren x).l hF.l (hF.ren x).st hF.st (by rw [movesN_ren]; exact hm) hm)
 have hag:=Lib.hid (fun x (hx:x∈grpL k ss)=>agree_eq (cs:=cs) hW hx)
 have heq:Hid (∀ x∈grpL k ss,eqW (renA x ss) ss):=fun x hx=>((grpL_mem hW).1 hx).2.symm
 obtain ⟨g,hg⟩:=exE (grpL k ss)
 obtain ⟨L,hL⟩:=exE (symP k cs ss)
 simp only [hg] at HG hsg hag heq
 simp only [hL] at HS hsg hag
 rw [hg] at hC
 rw [hL] at hsl hsP
 replace HS:=Lib.hid HS
 replace HG:=Lib.hid HG
 obtain ⟨_,gle,_,gisP,_,_⟩:=hC
 replace gisP:=Lib.hid gisP
 replace hsP:=Lib.hid hsP
 have g5:Hid (∀ x∈g,x.length≤17592186044416):=fun x hx=>by have:=(gisP.out x hx).1; omega
 have l5:Hid (∀ x∈L,x.length≤17592186044416):=fun x hx=>by have:=(hsP.out x hx).1; omega
 have err:(r != r)=false:=by simp
 clear hfx hE hz1 hz2 hr0 hr6 hW hfa hF hO hm hg hL hT hA
 go_enter Tryz.func9, Tryz.ntmps9
 go_wp2_with fail
 rw [← hW1]
 replace hW1:=Lib.hid hW1
 refine HF.out.mono ?_
 rintro e W2 ⟨rfl,hb2⟩
 clear p0 p1 p2 p3 p4 p5 p6
 obtain ⟨p0,p1,p2,p3,p4,p5,p6⟩:=hK.out W2 hb2
 go_wp2_with fail
 refine (HC.out W2 hb2).mono ?_
 rintro e W3 ⟨rfl,hq⟩
 have hb3:=btt hb2 hq
 clear p0 p1 p2 p3 p4 p5 p6 hq HF HC
 obtain ⟨p0,p1,p2,p3,p4,p5,p6⟩:=hK.out W3 hb3
 go_wp2_with fail
 refine (HS.out W3 hb3).mono ?_
 rintro e W4 ⟨r4,rfl,hl4,hq⟩
 have hb4:=btt hb3 hq
 obtain ⟨la,lc,rfl⟩:=hl4.shape
 replace hl4:=Lib.hid (hl4.base (Nat.zero_le _))
 clear p0 p1 p2 p3 p4 p5 p6 hq HS
 obtain ⟨p0,p1,p2,p3,p4,p5,p6⟩:=hK.out W4 hb4
 go_wp2_with fail
 refine (HG.out W4 hb4).mono ?_
 rintro e W5 ⟨r5,rfl,hg5,hq⟩
 have hb5:=btt hb4 hq
 obtain ⟨ga,gc,rfl⟩:=hg5.shape
 replace hg5:=Lib.hid (hg5.base (Nat.zero_le _))
 replace hl4:=Lib.hid (hl4.out.keep hq)
 clear p0 p1 p2 p3 p4 p5 p6 hq HG
 have hbr0:=Below.refl W5.heap.size W5
 go_wp2_with fail
 go_loopw [44] (fun iv wr=>∃ i:Nat,iv = .int .i64 (i:Int)∧i≤g.length∧Hid (Below W5.heap.size W5 wr)) (fun iv _=>g.length - (intOf iv).toNat)
 case atStart=>exact ⟨0,rfl,Nat.zero_le _,hbr0⟩
 case round=>
  clear hbr0
  obtain ⟨i,rfl,hi,hbr⟩:=hrel
  have hbW:=btt hb5 hbr.out
  by_cases hlt:i < g.length
  ·have hltI:(i:Int) < (g.length:Int):=by omega
   obtain ⟨gg,cap,he⟩:=hg5.out.form2 (by omega)
   obtain ⟨rfl,rfl⟩:ga=some ⟨gg,0,none⟩∧gc=cap:=by injection he with h1 h2 h3; exact ⟨h1,h3⟩
   obtain ⟨u,hcu,hu⟩:=(hg5.out.keep hbr.out).get hlt
   obtain ⟨x,hx⟩:=exE (g.getD i [])
   have hmem:x∈g:=by rw [← hx]; exact getD_mem hlt
   have hxP:=gisP.out x hmem
   rw [hx] at hu
   have hui:=hxP.ints h5 hu
   have hagx:=hag.out x hmem
   have heqx:=Lib.hid (heq.out x hmem)
   obtain ⟨ua,uc,rfl⟩:=hu.shape
   obtain ⟨p0,p1,p2,p3,p4,p5,p6⟩:=hK.out wr hbW
   clear hx hmem he hu
   go_wp2_with fail
   refine (HPr.out wr hbW _ x hui hxP).mono ?_
   rintro e W6 ⟨rx,rfl,hV,hq6⟩
   obtain ⟨ta,tc,xa,xc,rfl,hVT,hVA⟩:=hV.shape
   obtain ⟨CT,hCT⟩:=exE (renT x cs)
   obtain ⟨RS,hRS⟩:=exE (renA x ss)
   have hb6:=btt hbW hq6
   have hr6:=btt hbr.out hq6
   obtain ⟨W7,hW7⟩:=exF (W6.alloc (.cells #[.int .i64 (k:Int),.int .i64 ins,.int .i64 outs,.slice ta CT.length tc,.int .i64 (k:Int),.slice xa RS.length xc,.int .i64 r] 66))
   have hb7a:Below W6.heap.size W6 W7:=by rw [hW7]; exact (Below.refl _ _).alloc (Nat.le_refl _) _
   have m7:W7.heap[W6.heap.size]? = some (.cells #[.int .i64 (k:Int),.int .i64 ins,.int .i64 outs,.slice ta CT.length tc,.int .i64 (k:Int),.slice xa RS.length xc,.int .i64 r] 66):=by rw [hW7]; exact heap_alloc_new _ _
   have hb7:=btt hb6 hb7a
   have hr7:=btt hr6 hb7a
   have HS7:=HSm.out W7 hb7 _ x (hVT.keep hb7a)
   have HE7:=Lib.hid (fun W (h:Below W7.heap.size W7 W)=>HEq.out W (btt hb7 h) _ x hxP ((hVA.keep hb7a).keep h))
   rw [hCT] at HS7 hagx
   rw [hCT,hRS]
   simp only [hRS] at HE7 heqx
   obtain ⟨A,hA9⟩:=exE (amongB L x)
   rw [hagx,hA9] at HS7
   replace HS7:=Lib.hid HS7
   have HAm:=fun W (h:Below W7.heap.size W7 W)=>refAmong ((hl4.out.keep (btt hr7 h)).intss (by omega) l5.out) (hui.keep (btt (btt hq6 hb7a) h))
   simp only [hA9] at HAm
   replace HAm:=Lib.hid HAm
   have eA:(A != A)=false:=by simp
   have hB7:=Lib.hid (fun W (h:Below W7.heap.size W7 W)=>boxL7 ((h.block _ (Array.getElem?_eq_some_iff.1 m7).1).trans m7))
   clear p0 p1 p2 p3 p4 p5 p6 hcu hV hVT hVA m7 hagx hA9
   obtain ⟨p0,p1,p2,p3,p4,p5,p6⟩:=hK.out W7 hb7
   obtain ⟨q0,q1,q2,q3,q4,q5,q6⟩:=hB7.out W7 (Below.refl _ _)
   go_upto_region 11 with fail
   rw [← hW7]
   replace hW7:=Lib.hid hW7
   go_wp2_with fail
   refine HS7.out.mono ?_
   rintro e W8 ⟨rfl,hq8⟩
   have hb8:=btt hb7 hq8
   clear p0 p1 p2 p3 p4 p5 p6 q0 q1 q2 q3 q4 q5 q6 HS7
   go_wp2_with fail
   refine (HAm.out W8 hq8).mono ?_
   rintro e W9 ⟨rfl,hq9⟩
   have hb9:=btt hb8 hq9.below
   have hr79:=btt hq8 hq9.below
   obtain ⟨p0,p1,p2,p3,p4,p5,p6⟩:=hK.out W9 hb9
   obtain ⟨q0,q1,q2,q3,q4,q5,q6⟩:=hB7.out W9 hr79
   have HE9:=Lib.hid (HE7.out W9 hr79)
   clear HAm HE7
   go_wp2_with fail
   refine HE9.out.mono ?_
   rintro e W10 ⟨l10,rr,rfl,hrr,hq10⟩
   have hrt:rr=true:=hrr.2 heqx.out
   subst hrt
   have hbf:Hid (Below W5.heap.size W5 W10):=btt hr7 (btt hr79 hq10)
   clear p0 p1 p2 p3 p4 p5 p6 q0 q1 q2 q3 q4 q5 q6 HE9 hrr
   go_wp2_with fail
   go_roundw
   case rel=>exact ⟨i+1,by go_num,by omega,hbf⟩
   case measure=>simp [intOf]; omega
  ·obtain rfl:i=g.length:=by omega
   obtain ⟨wn,hwn⟩:=exF (wr)
   subst hwn
   have hbn0:=Below.refl wn.heap.size wn
   go_wp2_with fail
   go_loopw [92] (fun iv wr=>∃ j:Nat,iv = .int .i64 (j:Int)∧j≤L.length∧Hid (Below wn.heap.size wn wr)) (fun iv _=>L.length - (intOf iv).toNat)
   case atStart=>exact ⟨0,rfl,Nat.zero_le _,hbn0⟩
   case round=>
    clear hbn0
    obtain ⟨j,rfl,hj,hbn⟩:=hrel
    have hr:=btt hbr.out hbn.out
    by_cases hltj:j < L.length
    ·have hltJ:(j:Int) < (L.length:Int):=by omega
     obtain ⟨gg,cap,he⟩:=hl4.out.form2 (by omega)
     obtain ⟨rfl,rfl⟩:la=some ⟨gg,0,none⟩∧lc=cap:=by injection he with h1 h2 h3; exact ⟨h1,h3⟩
     obtain ⟨u,hcu,hu⟩:=(hl4.out.keep hr).get hltj
     obtain ⟨x,hx⟩:=exE (L.getD j [])
     have hmem:x∈L:=by rw [← hx]; exact getD_mem hltj
     rw [hx] at hu
     have HA:=refAmong ((hg5.out.keep hr).intss (by omega) g5.out) ((hsP.out x hmem).ints h5 hu)
     rw [hsg.out x hmem] at HA
     replace HA:=Lib.hid HA
     clear hx hmem he hu
     go_wp2_with fail
     refine HA.out.mono ?_
     rintro e W6 ⟨rfl,hq6⟩
     have hbf:Hid (Below wn.heap.size wn W6):=btt hbn.out hq6.below
     clear HA hcu
     go_wp2_with fail
     go_roundw
     case rel=>exact ⟨j+1,by go_num,by omega,hbf⟩
     case measure=>simp [intOf]; omega
    ·obtain rfl:j=L.length:=by omega
     have hbf:=btt hbW hbn.out
     go_wp2_with fail
     refine (awakeC (w:=wr)).mono ?_
     rintro e W9 ⟨rfl,hq⟩
     have hfin:=bt hb1 (btt hbf hq) hb1.size
     go_wp2
     go_ret
     exact ⟨rfl,hfin⟩
end Go.Proofs.YtmikofeildnpdaaGreat

/- A problem among the arguments. -/
namespace Go.Proofs.YtmikofeildnpdaaGreat
open Go.RowKit Go.ChangeShapes Go.WideShapes Go.ChangeAt Go.Deep Go.WideElems
section
variable {H:Type} {enc:TypeId × Value→H} {w:World}
theorem adv_of_cells {v0 v1:Value} {d:DataW H} {p:List MemPlace} {fuel:Nat} (h:DataW.trod enc Tryz.prog w 0 (fun _=>true) true fuel 24 [v0,v1]=some (d,p)) (hw:∀ n∈d.weights Tryz.prog 24,n≤reachBytes) :
  ∃ (n:Int) (ss:List (List (List Int))),v0 = .int .i64 n∧AdvC w (.agg #[v0,v1]) n ss:=by
 have k82 : Tryz.prog.cellsOf 98=1:=by kernel_rfl
 have b82 : Tryz.prog.bytesOf 98=24:=by kernel_rfl
 have k3 : Tryz.prog.cellsOf 3=1:=by kernel_rfl
 have k22 : Tryz.prog.cellsOf 22=1:=by kernel_rfl
 obtain ⟨y0,y1,n,hx,_,h0,h1⟩:=trod_struct2 Tryz.underlying24 h
 simp only [k3,k22,List.drop_zero,List.take_succ_cons,List.take_zero,List.drop_succ_cons] at h0 h1
 simp only [Prod.mk.injEq] at hx
 obtain ⟨rfl,rfl⟩:=hx
 obtain ⟨i0,e0,_⟩:=DataW.trod_int Tryz.underlying3 h0
 obtain rfl:v0 = .int .i64 i0:=by simpa using e0
 refine ⟨i0,?_⟩
 have hw1:∀ n∈y1.1.weights Tryz.prog 22,n≤reachBytes:=fun n hn=>hw n (by
  simp only [DataW.weights,Tryz.underlying24,DataW.weightsEach,List.map_cons,List.map_nil,List.mem_append]
  exact .inr (.inl hn))
 obtain ⟨d1,p1⟩:=y1
 rcases open_slice1 Tryz.underlying22 k82 h1 with ⟨h2,_⟩ | ⟨a,len,cap,m,n,V,D,Pl,h2,_,hl,hm,hmm,h3,hx⟩
 ·obtain rfl:v1 = .slice none 0 0:=by simpa using h2
  exact ⟨[],rfl,none,0,0,0,rfl,by simp,by intro j hj; simp at hj,by simp⟩
 ·obtain rfl:v1 = .slice (some a) len cap:=by simpa using h2
  simp only [if_true] at hmm
  subst hmm
  obtain ⟨rfl,_⟩:=Prod.mk.injEq .. ▸ h3
  have hsz:=hw1 ((len+(m - len)) * 24) (by simp [DataW.weights,Tryz.underlying22,b82])
  unfold reachBytes at hsz
  have hxs:∀ i,i < len→∃ xs,KSC 8 w (V i) xs:=fun i hi=>by
   obtain ⟨g1,g2⟩:=hx i (by omega)
   refine ksc_of_trod g2 fun n hn=>hw1 n ?_
   simp only [DataW.weights,Tryz.underlying22,List.mem_cons,List.mem_append]
   right; left
   exact weightsAll_mem (List.mem_map_of_mem (List.mem_range.2 hi)) n hn
  have hlen:len≤5864062014805:=by omega
  obtain ⟨X,hX⟩:∃ X:Nat→List (List Int),∀ i,i < len→KSC 8 w (V i) (X i):=⟨fun i=>if h:i < len then (hxs i h).choose else [],fun i hi=>by simp only [hi,dif_pos]; exact (hxs i hi).choose_spec⟩
  refine ⟨(List.range len).map X,rfl,some a,m,a.block,a.off,by simp,fun h0=>?_,fun j hj=>?_,by simpa using hlen⟩
  ·have hk:=(hx 0 (by have:0 < len:=(by simpa using h0); omega)).1
   rw [show a.add 0=a by simp [Addr.add]] at hk
   rw [← addr_spot hk]
  ·have hj':j < len:=by simpa using hj
   have hk0:=(hx 0 (by omega)).1
   rw [show a.add 0=a by simp [Addr.add]] at hk0
   have e1:a.add j=⟨a.block,a.off+j,none⟩:=by
    rw [addr_spot hk0]
    exact add_plain _ _ _
   refine ⟨V j,by rw [← e1]; exact (hx j (by omega)).1,?_⟩
   have:((List.range len).map X).getD j []=X j:=by simp [hj']
   rw [this]
   exact hX j hj'
theorem caseRows {cs:List Value} {x:DataW H × List MemPlace} {fuel:Nat} (h:DataW.trod enc Tryz.prog w 0 (fun _=>true) true fuel 128 cs=some x) (hw:∀ n∈x.1.weights Tryz.prog 128,n≤reachBytes) :
  ∃ (u0 u1 u2:Value) (c:Cs),cs = [u0,u1,u2]∧Ints w u0 c.1∧Intss w u1 c.2.1∧Intss w u2 c.2.2:=by
 have k128 : Tryz.prog.cellsOf 128=3:=by kernel_rfl
 have k25 : Tryz.prog.cellsOf 25=1:=by kernel_rfl
 have k39 : Tryz.prog.cellsOf 39=1:=by kernel_rfl
 have k3 : Tryz.prog.cellsOf 3=1:=by kernel_rfl
 have b3 : Tryz.prog.bytesOf 3=8:=by kernel_rfl
 have b25 : Tryz.prog.bytesOf 25=24:=by kernel_rfl
 obtain ⟨y0,y1,y2,n,hx,hl,h0,h1,h2⟩:=trod_struct3 Tryz.underlying128 h
 rw [k128] at hl
 obtain ⟨u0,u1,u2,rfl⟩:∃ a b c,cs = [a,b,c]:=by
  match cs,hl with
  | [a,b,c],_=>exact ⟨a,b,c,rfl⟩
 simp only [k25,k39,List.drop_zero,List.take_succ_cons,List.take_zero,List.drop_succ_cons] at h0 h1 h2
 subst hx
 have hwx:∀ n,(n∈y0.1.weights Tryz.prog 25∨n∈y1.1.weights Tryz.prog 39∨n∈y2.1.weights Tryz.prog 39)→n≤reachBytes:=fun n hn=>hw n (by
  simp only [DataW.weights,Tryz.underlying128,DataW.weightsEach,List.map_cons,List.map_nil,List.mem_append]
  rcases hn with hn | hn | hn
  ·exact .inl hn
  ·exact .inr (.inl hn)
  ·exact .inr (.inr (.inl hn)))
 obtain ⟨x0,i0⟩:=ints_of_trod Tryz.underlying25 Tryz.underlying3 k3 b3 h0 (fun n hn=>hwx n (.inl hn))
 obtain ⟨x1,i1⟩:=intss_of_trod Tryz.underlying39 Tryz.underlying25 Tryz.underlying3 k25 b25 k3 b3 h1 (fun n hn=>hwx n (.inr (.inl hn)))
 obtain ⟨x2,i2⟩:=intss_of_trod Tryz.underlying39 Tryz.underlying25 Tryz.underlying3 k25 b25 k3 b3 h2 (fun n hn=>hwx n (.inr (.inr hn)))
 exact ⟨u0,u1,u2,(x0,x1,x2),rfl,i0,i1,i2⟩
theorem choose_lt21 {α:Type} [Inhabited α] {n:Nat} {p:Nat→α→Prop} (h:∀ i,i < n→∃ x,p i x):∃ X:Nat→α,∀ i,i < n→p i (X i):=
 ⟨fun i=>if h':i < n then (h i h').choose else default,fun i hi=>by simp only [hi,dif_pos]; exact (h i hi).choose_spec⟩
theorem cases_of_trod {v:Value} {d:DataW H} {ps:List MemPlace} {fuel:Nat} (h:DataW.trod enc Tryz.prog w 0 (fun _=>true) true fuel 62 [v]=some (d,ps)) (hw:∀ n∈d.weights Tryz.prog 62,n≤reachBytes):∃ cs,CsS w v cs:=by
 have k128 : Tryz.prog.cellsOf 128=3:=by kernel_rfl
 have b128 : Tryz.prog.bytesOf 128=72:=by kernel_rfl
 rcases open_slice Tryz.underlying62 h with ⟨h1,_⟩ | ⟨a,len,cap,m,n,D,Pl,h1,_,hl,hm,hmm,h2,hx⟩
 ·obtain rfl:v = .slice none 0 0:=by simpa using h1
  exact ⟨[],none,0,0,0,rfl,by simp,by intro j hj; simp at hj,by simp⟩
 ·obtain rfl:v = .slice (some a) len cap:=by simpa using h1
  simp only [if_true] at hmm
  subst hmm
  obtain ⟨rfl,_⟩:=Prod.mk.injEq .. ▸ h2
  have hsz:=hw ((len+(m - len)) * 72) (by simp [DataW.weights,Tryz.underlying62,b128])
  unfold reachBytes at hsz
  rw [k128] at hx
  obtain ⟨X,hX⟩:=choose_lt21 (α:=Cs) (n:=len) (p:=fun i c=>∃ u0 u1 u2,w.cell? (a.add (i * 3))=some u0∧w.cell? (a.add (i * 3+1))=some u1∧w.cell? (a.add (i * 3+2))=some u2∧Ints w u0 c.1∧Intss w u1 c.2.1∧Intss w u2 c.2.2) (fun i hi=>by
   obtain ⟨cs',g1,g2⟩:=hx i (by omega)
   obtain ⟨u0,u1,u2,c,rfl,j0,j1,j2⟩:=caseRows g2 (fun n hn=>hw n (by
    simp only [DataW.weights,Tryz.underlying62,List.mem_cons,List.mem_append]
    right; left
    exact weightsAll_mem (List.mem_map_of_mem (List.mem_range.2 hi)) n hn))
   obtain ⟨_,_,hcell⟩:=World.cells?_some g1
   have h0:=hcell 0 (by simp)
   have h1:=hcell 1 (by simp)
   have h2:=hcell 2 (by simp)
   rw [add_add] at h0 h1 h2
   exact ⟨c,u0,u1,u2,h0,h1,h2,j0,j1,j2⟩)
  have hlen:len≤1954687338268:=by omega
  have hall:∀ j,j < len→((List.range len).map X).getD j csNil=X j:=fun j hj=>by simp [hj]
  refine ⟨(List.range len).map X,some a,m,a.block,a.off,by simp,fun h0=>?_,fun j hj=>?_,by simpa using hlen⟩
  ·obtain ⟨u0,_,_,hk,_⟩:=hX 0 (by simpa using h0)
   rw [show a.add (0 * 3)=a by simp [Addr.add]] at hk
   rw [← addr_spot hk]
  ·have hj':j < len:=by simpa using hj
   rw [hall j hj']
   obtain ⟨_,_,_,hk0,_⟩:=hX 0 (by omega)
   rw [show a.add (0 * 3)=a by simp [Addr.add]] at hk0
   have hsp:=addr_spot hk0
   obtain ⟨u0,u1,u2,g0,g1,g2,j0,j1,j2⟩:=hX j hj'
   have e:∀ i,a.add (j * 3+i)=⟨a.block,a.off+j * 3+i,none⟩:=fun i=>by
    rw [hsp,Nat.add_assoc]
    exact add_plain _ _ _
   have e0:=e 0
   rw [Nat.add_zero,Nat.add_zero] at e0
   exact ⟨u0,u1,u2,by rw [← e0]; exact g0,by rw [← e 1]; exact g1,by rw [← e 2]; exact g2,j0,j1,j2⟩
theorem prob_of_trod {r:Reach} {b0:Nat} {v:Value} {d:DataW H} {p:List MemPlace} (hv:Value.okWide Tryz.prog w r b0 66 v) (h:DataW.Trod enc Tryz.prog w 0 (fun _=>true) true 66 v d p) (hw:∀ n∈d.weights Tryz.prog 66,n≤reachBytes) :
  ∃ (x:Int × Int × Int × List Cs × Int × List (List (List Int)) × Int),PrX w v x.1 x.2.1 x.2.2.1 x.2.2.2.1 x.2.2.2.2.1 x.2.2.2.2.2.1 x.2.2.2.2.2.2:=by
 have k66 : Tryz.prog.cellsOf 66=7:=by kernel_rfl
 have k64 : Tryz.prog.cellsOf 64=4:=by kernel_rfl
 have k24 : Tryz.prog.cellsOf 24=2:=by kernel_rfl
 have k3 : Tryz.prog.cellsOf 3=1:=by kernel_rfl
 have k62 : Tryz.prog.cellsOf 62=1:=by kernel_rfl
 obtain ⟨cs,rfl,hsz⟩:=okWide_struct Tryz.underlying66 hv
 rw [k66] at hsz
 obtain ⟨c0,c1,c2,c3,c4,c5,c6,rfl⟩:∃ c0 c1 c2 c3 c4 c5 c6,cs = #[c0,c1,c2,c3,c4,c5,c6]:=by
  obtain ⟨l⟩:=cs
  match l,hsz with
  | [a,b,c,d,e,f,g],_=>exact ⟨a,b,c,d,e,f,g,rfl⟩
 obtain ⟨fuel,hf⟩:=h
 obtain ⟨y0,y1,y2,n,hx,_,h0,h1,h2⟩:=trod_struct3 Tryz.underlying66 hf
 simp only [Value.cells,k64,k24,k3,List.drop_zero,List.take_succ_cons,List.take_zero,List.drop_succ_cons] at h0 h1 h2
 simp only [Prod.mk.injEq] at hx
 obtain ⟨rfl,rfl⟩:=hx
 have hwx:∀ n,(n∈y0.1.weights Tryz.prog 64∨n∈y1.1.weights Tryz.prog 24)→n≤reachBytes:=fun n hn=>hw n (by
  simp only [DataW.weights,Tryz.underlying66,DataW.weightsEach,List.map_cons,List.map_nil,List.mem_append]
  rcases hn with hn | hn
  ·exact .inl hn
  ·exact .inr (.inl hn))
 obtain ⟨i6,e6,_⟩:=DataW.trod_int Tryz.underlying3 h2
 obtain rfl:c6 = .int .i64 i6:=by simpa using e6
 obtain ⟨dA,pA⟩:=y1
 obtain ⟨i4,ss,rfl,hA⟩:=adv_of_cells h1 (fun n hn=>hwx n (.inr hn))
 obtain ⟨z0,z1,z2,z3,n2,hz,_,g0,g1,g2,g3⟩:=Go.Joins.trod_struct4 Tryz.underlying64 h0
 simp only [k62,k3,List.drop_zero,List.take_succ_cons,List.take_zero,List.drop_succ_cons] at g0 g1 g2 g3
 obtain ⟨i0,e0,_⟩:=DataW.trod_int Tryz.underlying3 g0
 obtain ⟨i1,e1,_⟩:=DataW.trod_int Tryz.underlying3 g1
 obtain ⟨i2,e2,_⟩:=DataW.trod_int Tryz.underlying3 g2
 obtain rfl:c0 = .int .i64 i0:=by simpa using e0
 obtain rfl:c1 = .int .i64 i1:=by simpa using e1
 obtain rfl:c2 = .int .i64 i2:=by simpa using e2
 subst hz
 obtain ⟨d3,p3⟩:=z3
 obtain ⟨cl,hC⟩:=cases_of_trod g3 (fun n hn=>hwx n (.inl (by
  simp only [DataW.weights,Tryz.underlying64,DataW.weightsEach,List.map_cons,List.map_nil,List.mem_append]
  exact .inr (.inr (.inr (.inl hn))))))
 obtain ⟨sa,sc,rfl⟩:=hC.shape
 obtain ⟨aa,ac,he⟩:=advShape' hA.adv
 injection he with he
 simp only [Array.mk.injEq,List.cons.injEq,and_true,true_and] at he
 subst he
 exact ⟨(i0,i1,i2,cl,i4,ss,i6),sa,sc,aa,ac,rfl,⟨_,rfl,hC⟩,hA⟩
end
end Go.Proofs.YtmikofeildnpdaaGreat

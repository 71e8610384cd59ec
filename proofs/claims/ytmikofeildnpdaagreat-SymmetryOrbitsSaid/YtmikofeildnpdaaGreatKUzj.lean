/- Texts of this claim, put together: ZX YB YC. -/
import Derived.Test.YtmikofeildnpdaaGreatKUzi
import Derived.Deep.RegionHeld3
import Derived.Test.YtmikofeildnpdaaGreatKUzh
import Derived.Test.YtmikofeildnpdaaGreatKUq

set_option maxRecDepth 100000
set_option maxHeartbeats 12800000
/- law21.awake. -/
namespace Go.Proofs.YtmikofeildnpdaaGreat
open Go.RowKit
theorem awakeC {w:World}:Calls Tryz.prog 12 #[] w fun e w'=>e = .returned (.bool true)∧Below w.heap.size w w':=by
 have HG1:Hid (∀ W b,W.heap[b]? = some (.cells #[.int .i64 3,.int .i64 2,.int .i64 3,.int .i64 3] 93)→Calls Tryz.prog 49 #[.slice (some ⟨b,0,none⟩) 2 2] W (GrOut awS1 W)):=gr4 rfl
 have HG2:Hid (∀ W b,W.heap[b]? = some (.cells #[.int .i64 1,.int .i64 3,.int .i64 3,.int .i64 2,.int .i64 3,.int .i64 3] 93)→Calls Tryz.prog 49 #[.slice (some ⟨b,0,none⟩) 3 3] W (GrOut awS2 W)):=gr6 rfl
 have HG3:Hid (∀ W b,W.heap[b]? = some (.cells #[.int .i64 1,.int .i64 3,.int .i64 3,.int .i64 3] 93)→Calls Tryz.prog 49 #[.slice (some ⟨b,0,none⟩) 2 2] W (GrOut awS3 W)):=gr4 rfl
 have HPm:Hid (∀ W v u,AdvV W v 2 awS1→Ints W u [1,0]→Calls Tryz.prog 13 #[v,u] W (PmOut W)):=fun W v u hv hu=>permOut hv hu
 have HGr1:Hid (∀ W v,AdvC W v 2 awS1→Calls Tryz.prog 18 #[v] W (RII W [[0,1]] 0)):=fun W v hv=>by
  have:=groupC hv awF1
  rwa [awG1,awn1] at this
 have HGr2:Hid (∀ W v,AdvC W v 2 awS2→Calls Tryz.prog 18 #[v] W (RII W [[0,1],[1,0]] 0)):=fun W v hv=>by
  have:=groupC hv awF2
  rwa [awG2,awn2] at this
 go_enter Tryz.func12, Tryz.ntmps12
 go_wp2_with fail
 refine (HG1.out _ _ (heap_alloc_new _ _)).mono ?_
 rintro e w1 ⟨a1,c1,rfl,hr1,hb1⟩
 go_wp2_with fail
 refine (HG2.out _ _ (heap_alloc_new _ _)).mono ?_
 rintro e w2 ⟨a2,c2,rfl,hr2,hb2⟩
 have hal:=(Below.refl w1.heap.size w1).alloc (Nat.le_refl _) (.cells #[.int .i64 1,.int .i64 3,.int .i64 3,.int .i64 2,.int .i64 3,.int .i64 3] 93)
 have h0w:=(Below.refl w.heap.size w).alloc (Nat.le_refl _) (.cells #[.int .i64 3,.int .i64 2,.int .i64 3,.int .i64 3] 93)
 have hw1:=bt h0w hb1 h0w.size
 have hw1':=bt hw1 hal hw1.size
 have hw2:=bt hw1' hb2 hw1'.size
 replace hr1:=Lib.hid (hr1.keep (btt hal hb2))
 replace hr2:=Lib.hid hr2
 obtain ⟨W3,hW3⟩:=exF ((w2.alloc (.cells #[.int .i64 2,.slice a1 1 c1] 24)).alloc (.cells #[.int .i64 2,.slice a2 1 c2] 24))
 have hb3:Below w2.heap.size w2 W3:=by rw [hW3]; exact ((Below.refl _ _).alloc (Nat.le_refl _) _).alloc (by simp) _
 have kA:W3.heap[w2.heap.size]? = some (.cells #[.int .i64 2,.slice a1 1 c1] 24):=by rw [hW3]; exact (Below.heap_alloc _ _ _ (by simp)).trans (heap_alloc_new _ _)
 have kB:W3.heap[w2.heap.size+1]? = some (.cells #[.int .i64 2,.slice a2 1 c2] 24):=by
  have h:=heap_alloc_new (w2.alloc (.cells #[.int .i64 2,.slice a1 1 c1] 24)) (.cells #[.int .i64 2,.slice a2 1 c2] 24)
  rw [World.size_alloc] at h
  rw [hW3]; exact h
 obtain ⟨p0,p1⟩:=boxL2 kA
 obtain ⟨q0,q1⟩:=boxL2 kB
 have hK:=Lib.hid (fun W (hb:Below W3.heap.size W3 W)=>And.intro (boxL2 ((hb.block _ (Array.getElem?_eq_some_iff.1 kA).1).trans kA)) (boxL2 ((hb.block _ (Array.getElem?_eq_some_iff.1 kB).1).trans kB)))
 have hA1:=Lib.hid (fun W (hb:Below W3.heap.size W3 W)=>((hr1.out.advC.keep hb3).keep hb:AdvC W _ 2 awS1))
 have hA2:=Lib.hid (fun W (hb:Below W3.heap.size W3 W)=>((hr2.out.advC.keep hb3).keep hb:AdvC W _ 2 awS2))
 have hw3:=hw2.trans (hb3.mono hw2.size)
 clear kA kB hb1 hb2 h0w hw1 hw1' hal hw2
 go_upto_region 2 with fail
 rw [← hW3]
 replace hW3:=Lib.hid hW3
 have hb4:=(Below.refl W3.heap.size W3).alloc (Nat.le_refl _) (.cells #[.int .i64 1,.int .i64 0] 3)
 have HP4:=Lib.hid (HPm.out _ _ _ (hA1.out _ hb4).adv (ints2 (heap_alloc_new W3 (.cells #[.int .i64 1,.int .i64 0] 3))))
 go_wp2_with fail
 refine HP4.out.mono ?_
 rintro e w5 ⟨a3,c3,rfl,hr3,hb5⟩
 have hb35:=btt hb4 hb5
 have hb6:=(Below.refl w5.heap.size w5).alloc (Nat.le_refl _) (.cells #[.int .i64 2,.slice a3 1 c3] 24)
 obtain ⟨W6,hW6⟩:=exF (w5.alloc (.cells #[.int .i64 2,.slice a3 1 c3] 24))
 rw [← hW6] at hb6
 have k6:W6.heap[w5.heap.size]? = some (.cells #[.int .i64 2,.slice a3 1 c3] 24):=by rw [hW6]; exact heap_alloc_new _ _
 have hb36:=btt hb35 hb6
 replace hr3:=Lib.hid (hr3.keep hb6)
 have HG6:=Lib.hid (HGr1.out W6 _ (hA1.out _ hb36))
 clear HP4 HPm hb4 hb5 hb35 hb6 p0 p1 q0 q1
 obtain ⟨⟨p0,p1⟩,-⟩:=hK.out W6 hb36
 go_upto_region 3 with fail
 rw [← hW6]
 replace hW6:=Lib.hid hW6
 go_wp2_with fail
 refine HG6.out.mono ?_
 rintro e w7 ⟨r7,rfl,hr7,hb7⟩
 have hb37:=btt hb36 hb7
 replace k6:=(hb7.block _ (Array.getElem?_eq_some_iff.1 k6).1).trans k6
 replace hr3:=Lib.hid (hr3.out.keep hb7)
 have HG7:=Lib.hid (HGr2.out w7 _ (hA2.out _ hb37))
 obtain ⟨ra7,rc7,rfl⟩:=hr7.shape
 replace hr7:=Lib.hid hr7
 clear p0 p1 HG6 HGr1 hb36
 obtain ⟨-,q0,q1⟩:=hK.out w7 hb37
 go_wp2_with fail
 refine HG7.out.mono ?_
 rintro e w8 ⟨r8,rfl,hr8,hb8⟩
 have hb38:=btt hb37 hb8
 replace k6:=(hb8.block _ (Array.getElem?_eq_some_iff.1 k6).1).trans k6
 replace hr3:=Lib.hid (hr3.out.keep hb8)
 replace hr7:=Lib.hid (hr7.out.keep hb8)
 obtain ⟨ra8,rc8,rfl⟩:=hr8.shape
 replace hr8:=Lib.hid hr8
 clear q0 q1 HG7 HGr2 hb37 hb7
 obtain ⟨⟨p0,p1⟩,q0,q1⟩:=hK.out w8 hb38
 have hl8:w2.heap.size+1 < w8.heap.size:=World.block_lt_of_cell? w8 _ q0
 go_upto_region 5 with fail
 go_region_held3 (fun w'=>w'.cell? ⟨w2.heap.size+1,0,none⟩=some (.int .i64 2)∧w'.cell? ⟨w2.heap.size+1,1,none⟩=some (.slice a2 1 c2))
  (first
   | go_keep
   | (exact ⟨(hb9.cell (p:=⟨w2.heap.size+1,0,none⟩) hl8).trans q0,(hb9.cell (p:=⟨w2.heap.size+1,1,none⟩) hl8).trans q1⟩)
   | (exact ⟨((btt hb9 hb10).cell (p:=⟨w2.heap.size+1,0,none⟩) hl8).trans q0,((btt hb9 hb10).cell (p:=⟨w2.heap.size+1,1,none⟩) hl8).trans q1⟩))
  (first
   | (go_at_call 50; refine consOut.mono ?_; rintro e w9 ⟨sa9,sc9,rfl,hT9,hb9⟩; replace hb9:Below w8.heap.size w8 w9:=(Below.refl _ w8).drew.trans hb9)
   | (go_at_call 38; refine (symOut2 hT9 (hA2.out _ (btt hb38 hb9))).mono ?_; rintro e w10 ⟨r10,rfl,hr10,hb10⟩))
 have hb910:=btt hb9 hb10
 have hb310:=btt hb38 hb910
 replace k6:=(hb910.block _ (Array.getElem?_eq_some_iff.1 k6).1).trans k6
 replace hr3:=Lib.hid (hr3.out.keep hb910)
 replace hr7:=Lib.hid (hr7.out.keep hb910)
 replace hr8:=Lib.hid (hr8.out.keep hb910)
 obtain ⟨ra10,rc10,rfl⟩:=hr10.shape
 replace hr10:=Lib.hid hr10
 clear p0 p1 q0 q1 hb9 hb10 hb910 hb38 hT9 hl8 hb8
 obtain ⟨⟨p0,p1⟩,-⟩:=hK.out w10 hb310
 have hl10:w2.heap.size < w10.heap.size:=World.block_lt_of_cell? w10 _ p0
 go_upto_region 6 with fail
 go_region_held3 (fun w'=>w'.cell? ⟨w2.heap.size,0,none⟩=some (.int .i64 2)∧w'.cell? ⟨w2.heap.size,1,none⟩=some (.slice a1 1 c1))
  (first
   | go_keep
   | (exact ⟨(hb11.cell (p:=⟨w2.heap.size,0,none⟩) hl10).trans p0,(hb11.cell (p:=⟨w2.heap.size,1,none⟩) hl10).trans p1⟩)
   | (exact ⟨((btt hb11 hb12).cell (p:=⟨w2.heap.size,0,none⟩) hl10).trans p0,((btt hb11 hb12).cell (p:=⟨w2.heap.size,1,none⟩) hl10).trans p1⟩))
  (first
   | (go_at_call 50; refine consOut.mono ?_; rintro e w11 ⟨sa11,sc11,rfl,hT11,hb11⟩; replace hb11:Below w10.heap.size w10 w11:=(Below.refl _ w10).drew.trans hb11)
   | (go_at_call 38; refine (symOut1 hT11 (hA1.out _ (btt hb310 hb11))).mono ?_; rintro e w12 ⟨r12,rfl,hr12,hb12⟩))
 have hb1012:=btt hb11 hb12
 have hb312:=btt hb310 hb1012
 replace k6:=(hb1012.block _ (Array.getElem?_eq_some_iff.1 k6).1).trans k6
 replace hr3:=Lib.hid (hr3.out.keep hb1012)
 replace hr7:=Lib.hid (hr7.out.keep hb1012)
 replace hr8:=Lib.hid (hr8.out.keep hb1012)
 replace hr10:=Lib.hid (hr10.out.keep hb1012)
 obtain ⟨ra12,rc12,rfl⟩:=hr12.shape
 replace hr12:=Lib.hid hr12
 clear p0 p1 hb11 hb12 hb1012 hb310 hT11 hl10
 have hwf:=bt hw3 hb312 hw3.size
 clear hb312 hA1 hA2 hK hr1 hr2
 have ⟨hb13,hI13⟩:=orbIn w12
 have HO:=Lib.hid (orbOut hI13)
 go_upto_region 7 with fail
 go_wp2_with fail
 refine HO.out.mono ?_
 rintro e w14 ⟨r14,rfl,hr14,hb14⟩
 have hb1214:=btt hb13 hb14
 replace k6:=(hb1214.block _ (Array.getElem?_eq_some_iff.1 k6).1).trans k6
 replace hr3:=Lib.hid (hr3.out.keep hb1214)
 replace hr7:=Lib.hid (hr7.out.keep hb1214)
 replace hr8:=Lib.hid (hr8.out.keep hb1214)
 replace hr10:=Lib.hid (hr10.out.keep hb1214)
 replace hr12:=Lib.hid (hr12.out.keep hb1214)
 obtain ⟨ra14,rc14,rfl⟩:=hr14.shape
 replace hr14:=Lib.hid hr14
 replace hwf:=bt hwf hb1214 hwf.size
 clear hb13 hI13 hb14 hb1214 HO
 go_upto_region 9 with fail
 obtain ⟨W16,hW16⟩:∃ W16,W16=((((w14.alloc (.cells #[.int .i64 0,.int .i64 1] 3)).alloc (.cells #[.slice (some ⟨w14.heap.size,0,none⟩) 2 2] 25)).alloc (.cells #[.int .i64 0,.int .i64 1] 3)).alloc (.cells #[.int .i64 1,.int .i64 0] 3)).alloc
   (.cells #[.slice (some ⟨w14.heap.size+1+1,0,none⟩) 2 2,.slice (some ⟨w14.heap.size+1+1+1,0,none⟩) 2 2] 25):=⟨_,rfl⟩
 obtain ⟨hb16,hI1,hI2⟩:=awRows hW16
 replace hW16:=Lib.hid hW16
 replace k6:=(hb16.block _ (Array.getElem?_eq_some_iff.1 k6).1).trans k6
 replace hr3:=Lib.hid (hr3.out.keep hb16)
 replace hr7:=Lib.hid ((hr7.out.keep hb16).intss (by decide) (by decide))
 replace hr8:=Lib.hid ((hr8.out.keep hb16).intss (by decide) (by decide))
 replace hr10:=Lib.hid ((hr10.out.keep hb16).intss (by decide) (by decide))
 replace hr12:=Lib.hid ((hr12.out.keep hb16).intss (by decide) (by decide))
 replace hr14:=Lib.hid ((hr14.out.keep hb16).intss (by decide) (by decide))
 replace hwf:=bt hwf hb16 hwf.size
 clear hb16
 rw [← hW16.out]
 refine regAwake9 k6 hr3.out hr7.out hr8.out hr10.out hr12.out hr14.out hI1 hI2 ?_
 intro y16 y17 y42 y43 y44 y45 W hG _ _ _ _ _ _
 have hbf:=bt hwf hG hwf.size
 clear hr3 hr7 hr8 hr10 hr12 hr14 hI1 hI2 hwf
 go_wp2
 go_ret
 exact ⟨rfl,hbf⟩
end Go.Proofs.YtmikofeildnpdaaGreat

/- A renamed adversary has as many symmetries: plain. -/
namespace Go.Proofs.YtmikofeildnpdaaGreat
theorem conj_inj {n:Nat} (h1:1≤n) (h5:n≤5) {d c e x y:List Int} (hd:IsP n d) (hc:IsP n c) (he:IsP n e) (hce:timesL c e=oneL n) (hx:IsP n x) (hy:IsP n y) (h:timesL d (timesL x c)=timesL d (timesL y c)):x=y:=by
 have h2:=times_inj h1 h5 hd (hx.times hc) (hy.times hc) h
 have h3:timesL (timesL x c) e=timesL (timesL y c) e:=by rw [h2]
 rwa [times_assoc hc.1 he,times_assoc hc.1 he,hce,one_times hx,one_times hy] at h3
theorem map_len {l m:List (List Int)} {f:List Int→List Int} (hl:l.Nodup) (hm:∀ x∈l,f x∈m) (hi:∀ x∈l,∀ y∈l,f x=f y→x=y):l.length≤m.length:=by
 have:=nodupLen21 (l:=l.map f) (m:=m) (List.pairwise_map.2 (List.Pairwise.imp_of_mem (fun {a b} ha hb h e=>h (hi a ha b hb e)) hl)) fun y hy=>by
  obtain ⟨x,hx,rfl⟩:=List.mem_map.1 hy
  exact hm x hx
 rwa [List.length_map] at this
theorem grp_ren_len {n:Nat} {ss:List (List (List Int))} {c:List Int} (h:WfN n ss) (hc:IsP n c):(grpL n (renA c ss)).length=(grpL n ss).length:=by
 have h1:=h.h1
 have h5:=h.h5
 have hb:=back_isP h1 h5 hc
 have hk:=back_left (chk_of h1 h5 hc)
 rw [hc.1] at hk
 have hR:=h.ren hc
 rw [grpL,if_pos hR.chk,grpL,if_pos h.chk,Int.toNat_natCast]
 have hn:∀ t,((everyL n).filter (kpG t)).Nodup:=fun t=>(every_nodup n h5).filter _
 have hm:∀ t x,x∈(everyL n).filter (kpG t)↔IsP n x∧kpA t x:=fun t x=>by rw [List.mem_filter,mem_everyL,kpG_iff]
 apply Nat.le_antisymm
 ·refine map_len (f:=fun x=>timesL (backL c) (timesL x c)) (hn _) (fun x hx=>?_) (fun x hx y hy e=>conj_inj h1 h5 hb hc hb hk.2.1 ((hm _ _).1 hx).1 ((hm _ _).1 hy).1 e)
  obtain ⟨hx,k⟩:=(hm _ _).1 hx
  exact (hm _ _).2 ⟨hb.times (hx.times hc),kpA.conj h hc hx k⟩
 ·refine map_len (f:=fun x=>timesL c (timesL x (backL c))) (hn _) (fun x hx=>?_) (fun x hx y hy e=>conj_inj h1 h5 hc hb hc hk.1 ((hm _ _).1 hx).1 ((hm _ _).1 hy).1 e)
  obtain ⟨hx,k⟩:=(hm _ _).1 hx
  exact (hm _ _).2 ⟨hc.times (hx.times hb),kpA.conj' h hc hx k⟩
theorem grpL_mem {n:Nat} {ss:List (List (List Int))} (h:WfN n ss) {x:List Int}:x∈grpL n ss↔IsP n x∧kpA ss x:=by
 rw [grpL,if_pos h.chk,Int.toNat_natCast,List.mem_filter,mem_everyL,kpG_iff]
theorem grpL_one {n:Nat} {ss:List (List (List Int))} (h:WfN n ss):oneL n∈grpL n ss:=(grpL_mem h).2 ⟨IsP.one n,kpA.one h⟩
theorem grpL_back {n:Nat} {ss:List (List (List Int))} (h:WfN n ss) {x:List Int} (hx:x∈grpL n ss):backL x∈grpL n ss:=
 have hx:=(grpL_mem h).1 hx
 (grpL_mem h).2 ⟨back_isP h.h1 h.h5 hx.1,kpA.back h hx.1 hx.2⟩
theorem grpL_times {n:Nat} {ss:List (List (List Int))} (h:WfN n ss) {x y:List Int} (hx:x∈grpL n ss) (hy:y∈grpL n ss):timesL x y∈grpL n ss:=
 have hx:=(grpL_mem h).1 hx
 have hy:=(grpL_mem h).1 hy
 (grpL_mem h).2 ⟨hx.1.times hy.1,kpA.times h hx.1 hy.1 hx.2 hy.2⟩
end Go.Proofs.YtmikofeildnpdaaGreat

/- The law SymmetryCloses. -/
namespace Go.Proofs.YtmikofeildnpdaaGreat
open Go.RowKit
structure GrpC (k:Nat) (g:List (List Int)):Prop where
 pos:0 < g.length
 le:g.length≤1000
 one:amongB g (oneL k)=true
 isP:∀ a∈g,IsP k a
 inv:∀ a∈g,amongB g (backL a)=true
 mul:∀ a∈g,∀ b∈g,amongB g (timesL a b)=true
theorem grpC_of {k:Nat} {ss:List (List (List Int))} (h:WfN k ss):GrpC k (grpL k ss):=by
 have ham:∀ x,x∈grpL k ss→amongB (grpL k ss) x=true:=fun x hx=>by rw [amongB,decide_eq_true_eq]; exact hx
 refine ⟨?_,?_,ham _ (grpL_one h),fun a ha=>((grpL_mem h).1 ha).1,fun a ha=>ham _ (grpL_back h ha),fun a ha b hb=>ham _ (grpL_times h ha hb)⟩
 ·have:=grpL_one h
  cases hgg:grpL k ss with
  | nil=>rw [hgg] at this; cases this
  | cons=>simp
 ·rw [grpL,if_pos h.chk,Int.toNat_natCast]
  exact Nat.le_trans (List.length_filter_le _ _) (every_len h.h5)
theorem fewS_of {ss:List (List (List Int))} (h:fewA ss=true):FewS ss:=⟨by have:=few_le h; omega,by have:=few_le h; omega⟩
theorem lawClosesS {w:World} {v u x:Value} {n:Int} {ss:List (List (List Int))} {a b:List Int} (hA:AdvC w v n ss) (hu:Ints w u a) (hx:Ints w x b) :
  Calls Tryz.prog 7 #[v,u,x] w (Yes w):=by
 obtain ⟨xa,xc,hv⟩:=advShape' hA.adv
 subst hv
 obtain ⟨ua,uc,hus⟩:∃ ua uc,u = .slice ua a.length uc:=by obtain ⟨ua,uc,_,_,h,_⟩:=hu; exact ⟨ua,uc,h⟩
 obtain ⟨ya,yc,hxs⟩:∃ ya yc,x = .slice ya b.length yc:=by obtain ⟨ua,uc,_,_,h,_⟩:=hx; exact ⟨ua,uc,h⟩
 subst hus hxs
 obtain ⟨W1,hW1⟩:=exF (w.alloc (.cells #[.int .i64 n,.slice xa ss.length xc] 24))
 obtain ⟨hb1,p0,p1,_⟩:=boxAdv hW1
 have hK:=Lib.hid (fun W (hb:Below W1.heap.size W1 W)=>And.intro (cell_kept hb p0) (cell_kept hb p1))
 have hA1:=Lib.hid (fun W (hb:Below W1.heap.size W1 W)=>((hA.keep hb1).keep hb))
 have hu1:=Lib.hid (fun W (hb:Below W1.heap.size W1 W)=>((hu.keep hb1).keep hb))
 have hx1:=Lib.hid (fun W (hb:Below W1.heap.size W1 W)=>((hx.keep hb1).keep hb))
 have HF:=refFew (hA1.out W1 (Below.refl _ _)).adv
 have HC:=fun W (hb:Below W1.heap.size W1 W)=>refCheckA (hA1.out W hb).adv
 have HP:=fun W (hb:Below W1.heap.size W1 W)=>refCheck (hu1.out W hb)
 have HQ:=fun W (hb:Below W1.heap.size W1 W)=>refCheck (hx1.out W hb)
 obtain ⟨fx,hfx⟩:=exE (fewA ss)
 obtain ⟨E,hE⟩:=exE (chkA n ss)
 obtain ⟨P,hP⟩:=exE (chk a)
 obtain ⟨Q,hQ⟩:=exE (chk b)
 rw [hfx] at HF
 simp only [hE] at HC
 simp only [hP] at HP
 simp only [hQ] at HQ
 replace HF:=Lib.hid HF
 replace HC:=Lib.hid HC
 replace HP:=Lib.hid HP
 replace HQ:=Lib.hid HQ
 clear hA hu hx
 cases fx
 ·clear hfx hE hP hQ HC HP HQ hA1 hu1 hx1
  go_enter Tryz.func7, Tryz.ntmps7
  go_wp2_with fail
  rw [← hW1]
  replace hW1:=Lib.hid hW1
  refine HF.out.mono ?_
  rintro e W2 ⟨rfl,hb2⟩
  clear p0 p1
  obtain ⟨p0,p1⟩:=hK.out W2 hb2
  go_wp2_with fail
  clear p0 p1
  refine (awakeC (w:=W2)).mono ?_
  rintro e W9 ⟨rfl,hq⟩
  have hb9:=bt hb1 (btt hb2 hq) hb1.size
  go_wp2
  go_ret
  exact ⟨rfl,hb9⟩
 by_cases h1:E=0
 rotate_left
 ·have hEb:(E != 0)=true:=by simp [h1]
  clear hfx hE hP hQ hA1 hu1 hx1 HP HQ
  go_enter Tryz.func7, Tryz.ntmps7
  go_wp2_with fail
  rw [← hW1]
  replace hW1:=Lib.hid hW1
  refine HF.out.mono ?_
  rintro e W2 ⟨rfl,hb2⟩
  clear p0 p1
  obtain ⟨p0,p1⟩:=hK.out W2 hb2
  go_wp2_with fail
  refine (HC.out W2 hb2).mono ?_
  rintro e W3 ⟨rfl,hq⟩
  have hb3:=btt hb2 hq
  clear hq p0 p1
  obtain ⟨p0,p1⟩:=hK.out W3 hb3
  go_wp2_with fail
  clear p0 p1
  refine (awakeC (w:=W3)).mono ?_
  rintro e W9 ⟨rfl,hq⟩
  have hb9:=bt hb1 (btt hb3 hq) hb1.size
  go_wp2
  go_ret
  exact ⟨rfl,hb9⟩
 subst h1
 by_cases h2:P=0
 rotate_left
 ·have hPb:(P != 0)=true:=by simp [h2]
  clear hfx hE hP hQ hA1 hu1 hx1 HQ
  go_enter Tryz.func7, Tryz.ntmps7
  go_wp2_with fail
  rw [← hW1]
  replace hW1:=Lib.hid hW1
  refine HF.out.mono ?_
  rintro e W2 ⟨rfl,hb2⟩
  clear p0 p1
  obtain ⟨p0,p1⟩:=hK.out W2 hb2
  go_wp2_with fail
  refine (HC.out W2 hb2).mono ?_
  rintro e W3 ⟨rfl,hq⟩
  have hb3:=btt hb2 hq
  clear hq p0 p1
  obtain ⟨p0,p1⟩:=hK.out W3 hb3
  go_wp2_with fail
  refine (HP.out W3 hb3).mono ?_
  rintro e W4 ⟨rfl,hq⟩
  have hb4:=btt hb3 hq.below
  clear hq p0 p1
  obtain ⟨p0,p1⟩:=hK.out W4 hb4
  go_wp2_with fail
  clear p0 p1
  refine (awakeC (w:=W4)).mono ?_
  rintro e W9 ⟨rfl,hq⟩
  have hb9:=bt hb1 (btt hb4 hq) hb1.size
  go_wp2
  go_ret
  exact ⟨rfl,hb9⟩
 subst h2
 by_cases h3:Q=0
 rotate_left
 ·have hQb:(Q != 0)=true:=by simp [h3]
  clear hfx hE hP hQ hA1 hu1 hx1
  go_enter Tryz.func7, Tryz.ntmps7
  go_wp2_with fail
  rw [← hW1]
  replace hW1:=Lib.hid hW1
  refine HF.out.mono ?_
  rintro e W2 ⟨rfl,hb2⟩
  clear p0 p1
  obtain ⟨p0,p1⟩:=hK.out W2 hb2
  go_wp2_with fail
  refine (HC.out W2 hb2).mono ?_
  rintro e W3 ⟨rfl,hq⟩
  have hb3:=btt hb2 hq
  clear hq p0 p1
  obtain ⟨p0,p1⟩:=hK.out W3 hb3
  go_wp2_with fail
  refine (HP.out W3 hb3).mono ?_
  rintro e W4 ⟨rfl,hq⟩
  have hb4:=btt hb3 hq.below
  clear hq p0 p1
  obtain ⟨p0,p1⟩:=hK.out W4 hb4
  go_wp2_with fail
  refine (HQ.out W4 hb4).mono ?_
  rintro e W5 ⟨rfl,hq⟩
  have hb5:=btt hb4 hq.below
  clear hq p0 p1
  obtain ⟨p0,p1⟩:=hK.out W5 hb5
  go_wp2_with fail
  clear p0 p1
  refine (awakeC (w:=W5)).mono ?_
  rintro e W9 ⟨rfl,hq⟩
  have hb9:=bt hb1 (btt hb5 hq) hb1.size
  go_wp2
  go_ret
  exact ⟨rfl,hb9⟩
 subst h3
 by_cases g0:(a.length:Int)=n
 rotate_left
 ·have hLb:((a.length:Int) != n)=true:=by simp [g0]
  clear hfx hE hP hQ hA1 hu1 hx1 g0
  go_enter Tryz.func7, Tryz.ntmps7
  go_wp2_with fail
  rw [← hW1]
  replace hW1:=Lib.hid hW1
  refine HF.out.mono ?_
  rintro e W2 ⟨rfl,hb2⟩
  clear p0 p1
  obtain ⟨p0,p1⟩:=hK.out W2 hb2
  go_wp2_with fail
  refine (HC.out W2 hb2).mono ?_
  rintro e W3 ⟨rfl,hq⟩
  have hb3:=btt hb2 hq
  clear hq p0 p1
  obtain ⟨p0,p1⟩:=hK.out W3 hb3
  go_wp2_with fail
  refine (HP.out W3 hb3).mono ?_
  rintro e W4 ⟨rfl,hq⟩
  have hb4:=btt hb3 hq.below
  clear hq p0 p1
  obtain ⟨p0,p1⟩:=hK.out W4 hb4
  go_wp2_with fail
  refine (HQ.out W4 hb4).mono ?_
  rintro e W5 ⟨rfl,hq⟩
  have hb5:=btt hb4 hq.below
  clear hq p0 p1
  obtain ⟨p0,p1⟩:=hK.out W5 hb5
  go_wp2_with fail
  clear p0 p1
  refine (awakeC (w:=W5)).mono ?_
  rintro e W9 ⟨rfl,hq⟩
  have hb9:=bt hb1 (btt hb5 hq) hb1.size
  go_wp2
  go_ret
  exact ⟨rfl,hb9⟩
 by_cases g1:(b.length:Int)=n
 rotate_left
 ·have hMb:((b.length:Int) != n)=true:=by simp [g1]
  have hLf:((a.length:Int) != n)=false:=by simp [g0]
  clear hfx hE hP hQ hA1 hu1 hx1 g0 g1
  go_enter Tryz.func7, Tryz.ntmps7
  go_wp2_with fail
  rw [← hW1]
  replace hW1:=Lib.hid hW1
  refine HF.out.mono ?_
  rintro e W2 ⟨rfl,hb2⟩
  clear p0 p1
  obtain ⟨p0,p1⟩:=hK.out W2 hb2
  go_wp2_with fail
  refine (HC.out W2 hb2).mono ?_
  rintro e W3 ⟨rfl,hq⟩
  have hb3:=btt hb2 hq
  clear hq p0 p1
  obtain ⟨p0,p1⟩:=hK.out W3 hb3
  go_wp2_with fail
  refine (HP.out W3 hb3).mono ?_
  rintro e W4 ⟨rfl,hq⟩
  have hb4:=btt hb3 hq.below
  clear hq p0 p1
  obtain ⟨p0,p1⟩:=hK.out W4 hb4
  go_wp2_with fail
  refine (HQ.out W4 hb4).mono ?_
  rintro e W5 ⟨rfl,hq⟩
  have hb5:=btt hb4 hq.below
  clear hq p0 p1
  obtain ⟨p0,p1⟩:=hK.out W5 hb5
  go_wp2_with fail
  clear p0 p1
  refine (awakeC (w:=W5)).mono ?_
  rintro e W9 ⟨rfl,hq⟩
  have hb9:=bt hb1 (btt hb5 hq) hb1.size
  go_wp2
  go_ret
  exact ⟨rfl,hb9⟩
 have hLf:((a.length:Int) != n)=false:=by simp [g0]
 have hMf:((b.length:Int) != n)=false:=by simp [g1]
 obtain ⟨k,hk,hW⟩:=wfN_of (hA1.out W1 (Below.refl _ _)).adv hE
 have hal:a.length=k:=by omega
 have hbl:b.length=k:=by omega
 have ha:IsP k a:=by have:=chk_isP hP; rwa [hal] at this
 have hb:IsP k b:=by have:=chk_isP hQ; rwa [hbl] at this
 have hF:=fewS_of hfx
 have hm:movesN ss≤1000000000:=by have:=hF.m; omega
 have h1:=hW.h1
 have h5:=hW.h5
 have hC:=grpC_of hW
 have hWb:=hW.ren hb
 have hWab:=hWb.ren ha
 have hWt:=hW.ren (ha.times hb)
 have hlen:=grp_ren_len hW (ha.times hb)
 have hRt:=renA_times hW ha hb
 subst hk
 have HG:=fun W (hb:Below W1.heap.size W1 W)=>groupC (hA1.out W hb) hF
 simp only [hE] at HG
 have HPm:=Lib.hid (fun W (h:Below W1.heap.size W1 W)=>permuteGood (hA1.out W h).adv (hx1.out W h) hm hW hb)
 have HPm2:=Lib.hid (fun W (h:Below W1.heap.size W1 W) (r:Value) (hr:OwAdv W r k (renA b ss))=>permuteGood hr.advC.adv (hu1.out W h) (by rw [movesN_ren]; exact hm) hWb ha)
 have HPm3:=Lib.hid (fun W (h:Below W1.heap.size W1 W) (z:Value) (hz:Ints W z (timesL a b))=>permuteGood (hA1.out W h).adv hz hm hW (ha.times hb))
 have HG2:=fun W (r:Value) (hr:OwAdv W r k (renA (timesL a b) ss))=>groupC hr.advC (hF.ren (timesL a b))
 simp only [hWt.chk] at HG2
 have HCm:=Lib.hid (fun W (h:Below W1.heap.size W1 W)=>composeP h1 h5 ha hb (hu1.out W h) (hx1.out W h))
 simp only [hRt] at HPm2
 have htl:=ha.times hb
 obtain ⟨T,hT⟩:=exE (timesL a b)
 rw [hT] at hlen htl
 simp only [hT] at HPm2 HPm3 HG2 HCm
 obtain ⟨RB,hRB⟩:=exE (renA b ss)
 obtain ⟨RT,hRT⟩:=exE (renA T ss)
 rw [hRT] at hlen
 simp only [hRT] at HPm3 HG2
 obtain ⟨g,hg⟩:=exE (grpL k ss)
 obtain ⟨g2,hg2⟩:=exE (grpL k RT)
 rw [hg] at hC hlen
 rw [hg2] at hlen
 simp only [hg] at HG
 simp only [hg2] at HG2
 replace HG:=Lib.hid HG
 replace HG2:=Lib.hid HG2
 obtain ⟨gpos,gle,gone,gisP,ginv,gmul⟩:=hC
 replace gone:=Lib.hid gone; replace gisP:=Lib.hid gisP; replace ginv:=Lib.hid ginv; replace gmul:=Lib.hid gmul
 have g5:Hid (∀ x∈g,x.length≤17592186044416):=fun x hx=>by have:=(gisP.out x hx).1; omega
 have hlq:Hid (((g2.length:Int) == (g.length:Int))=true):=by show _=_; rw [hlen]; simp
 replace HPm2:=Lib.hid HPm2.out
 clear hfx hE hP hQ hal hbl ha hb hF hm hW hWb hWab hWt hlen hRt hT hg hg2 g0 g1
 replace hRB:=Lib.hid hRB
 replace hRT:=Lib.hid hRT
 go_enter Tryz.func7, Tryz.ntmps7
 go_wp2_with fail
 rw [← hW1]
 replace hW1:=Lib.hid hW1
 refine HF.out.mono ?_
 rintro e W2 ⟨rfl,hb2⟩
 clear p0 p1
 obtain ⟨p0,p1⟩:=hK.out W2 hb2
 go_wp2_with fail
 refine (HC.out W2 hb2).mono ?_
 rintro e W3 ⟨rfl,hq⟩
 have hb3:=btt hb2 hq
 clear hq p0 p1
 obtain ⟨p0,p1⟩:=hK.out W3 hb3
 go_wp2_with fail
 refine (HP.out W3 hb3).mono ?_
 rintro e W4 ⟨rfl,hq⟩
 have hb4:=btt hb3 hq.below
 clear hq p0 p1
 obtain ⟨p0,p1⟩:=hK.out W4 hb4
 go_wp2_with fail
 refine (HQ.out W4 hb4).mono ?_
 rintro e W5 ⟨rfl,hq⟩
 have hb5:=btt hb4 hq.below
 clear hq p0 p1
 obtain ⟨p0,p1⟩:=hK.out W5 hb5
 go_wp2_with fail
 refine (HG.out W5 hb5).mono ?_
 rintro e W6 ⟨r6,rfl,ho6,hq⟩
 have hb6:=btt hb5 hq
 clear hq p0 p1 HF HC HP HQ hLf hMf
 obtain ⟨p0,p1⟩:=hK.out W6 hb6
 obtain ⟨ga,gc,gb,rfl,hga,hgc⟩:=ho6.open'
 obtain rfl:=hga gpos
 clear hga hgc
 replace ho6:=ho6.base (Nat.zero_le _)
 go_wp2_with fail
 refine (refOne k _ (by omega)).mono ?_
 rintro e W7 ⟨r7,rfl,ho7,hq⟩
 have hb7:=btt hb6 hq
 replace ho6:=ho6.keep hq
 clear hq p0 p1
 go_wp2_with fail
 refine (amongT gone.out (ho6.intss (by omega) g5.out) (ho7.ints (by omega))).mono ?_
 rintro e W8 ⟨rfl,hq⟩
 have hb8:=btt hb7 hq.below
 replace ho6:=ho6.keep hq.below
 clear hq ho7
 go_wp2
 go_loopw [76] (fun iv wr=>∃ i:Nat,i≤g.length∧iv = .int .i64 (i:Int)∧OII wr 0 (.slice (some ⟨gb,0,none⟩) g.length gc) g.length g∧Hid (Below W1.heap.size W1 wr)) (fun iv _=>g.length - (intOf iv).toNat)
 case atStart=>exact ⟨0,by omega,rfl,ho6,hb8⟩
 case round=>
  clear ho6 hb2 hb3 hb4 hb5 hb6 hb7 hb8
  obtain ⟨i,hi,rfl,ho,hbr⟩:=hrel
  by_cases hlt:i < g.length
  ·have hltI:(i:Int) < (g.length:Int):=by omega
   obtain ⟨y,hcu,hy⟩:=ho.get hlt
   obtain ⟨c,hc⟩:=exE (g.getD i [])
   have hmem:c∈g:=by rw [← hc]; exact getD_mem hlt
   have hcP:=gisP.out c hmem
   rw [hc] at hy
   have hyi:=hcP.ints (by omega) hy
   have hinv:=Lib.hid (ginv.out c hmem)
   have hmul:=Lib.hid (gmul.out c hmem)
   have hBP:IsP k (backL c):=back_isP h1 h5 hcP
   obtain ⟨wo,hwo⟩:=exF (wr)
   subst hwo
   clear hc hmem hy
   go_wp2_with fail
   refine (inverseP h1 h5 hcP hyi).mono ?_
   rintro e W9 ⟨r9,rfl,ho9,hq⟩
   have hb9:=hbr.out.trans (hq.mono hbr.out.size)
   replace ho:=ho.keep hq
   replace hyi:=hyi.keep hq
   clear hq hcu
   go_wp2_with fail
   refine (amongT hinv.out (ho.intss (by omega) g5.out) (hBP.ints h5 ho9)).mono ?_
   rintro e W10 ⟨rfl,hq⟩
   have hb10:=hb9.trans (hq.below.mono hb9.size)
   replace ho:=ho.keep hq.below
   replace hyi:=hyi.keep hq.below
   clear hq ho9 hb9
   go_wp2
   go_loopw [95] (fun jv wr=>∃ j:Nat,j≤g.length∧jv = .int .i64 (j:Int)∧OII wr 0 (.slice (some ⟨gb,0,none⟩) g.length gc) g.length g∧Ints wr y c∧Hid (Below W1.heap.size W1 wr)) (fun jv _=>g.length - (intOf jv).toNat)
   case atStart=>exact ⟨0,by omega,rfl,ho,hyi,hb10⟩
   case round=>
    clear ho hyi hb10 hbr
    obtain ⟨j,hj,rfl,ho,hyi,hbr⟩:=hrel
    by_cases hltj:j < g.length
    ·have hltJ:(j:Int) < (g.length:Int):=by omega
     obtain ⟨z,hcz,hz⟩:=ho.get hltj
     obtain ⟨d,hd⟩:=exE (g.getD j [])
     have hdm:d∈g:=by rw [← hd]; exact getD_mem hltj
     have hdP:=gisP.out d hdm
     rw [hd] at hz
     have hzi:=hdP.ints h5 hz
     have hmd:=Lib.hid (hmul.out d hdm)
     have hcd:=hcP.times hdP
     clear hd hdm hz
     go_wp2_with fail
     refine (composeP h1 h5 hcP hdP hyi hzi).mono ?_
     rintro e W11 ⟨r11,rfl,ho11,hq⟩
     have hb11:=hbr.out.trans (hq.mono hbr.out.size)
     replace ho:=ho.keep hq
     replace hyi:=hyi.keep hq
     clear hq hcz
     go_wp2_with fail
     refine (amongT hmd.out (ho.intss (by omega) g5.out) (hcd.ints h5 ho11)).mono ?_
     rintro e W12 ⟨rfl,hq⟩
     have hb12:=hb11.trans (hq.below.mono hb11.size)
     replace ho:=ho.keep hq.below
     replace hyi:=hyi.keep hq.below
     clear hq ho11 hb11 hzi
     go_wp2
     go_roundw
     case rel=>exact ⟨j+1,by omega,by go_num,ho,hyi,hb12⟩
     case measure=>simp [intOf]; omega
    ·obtain rfl:j=g.length:=by omega
     go_wp2
     go_roundw
     case rel=>exact ⟨i+1,by omega,by go_num,ho,hbr⟩
     case measure=>simp [intOf]; omega
  ·obtain rfl:i=g.length:=by omega
   replace hbr:=hbr.out
   have hoh:=Lib.hid ho
   clear ho gpos gone gisP ginv gmul
   go_wp2_with fail
   refine (HCm.out wr hbr).mono ?_
   rintro e W9 ⟨r9,rfl,ho9,hq⟩
   have hb9:=btt hbr hq
   have hz9:=htl.ints h5 ho9
   obtain ⟨za,zc,rfl⟩:=ho9.shape
   clear hq ho9
   obtain ⟨p0,p1⟩:=hK.out W9 hb9
   go_wp2_with fail
   refine (HPm.out W9 hb9).mono ?_
   rintro e W10 ⟨r10,rfl,hO10,hq⟩
   have hb10:=btt hb9 hq
   have hz10:=hz9.keep hq
   rw [hRB.out] at hO10
   have hO10h:=Lib.hid hO10
   obtain ⟨sv10,rfl,hO10a,_⟩:=hO10
   obtain ⟨ra10,rc10,rfl⟩:=hO10a.shape
   obtain ⟨W11,hW11⟩:=exF (W10.alloc (.cells #[.int .i64 (k:Int),.slice ra10 RB.length rc10] 24))
   obtain ⟨hb11a,q0,q1,m11⟩:=boxAdv hW11
   have hb11:=btt hb10 hb11a
   have hz11:=hz10.keep hb11a
   have hP11:=Lib.hid (HPm2.out W11 hb11 _ (by rw [hRB.out]; exact hO10h.out.keep hb11a))
   clear hq p0 p1 hz9 hz10 hO10a hO10h
   go_upto_region 22 with fail
   rw [← hW11]
   replace hW11:=Lib.hid hW11
   go_wp2_with fail
   refine hP11.out.mono ?_
   rintro e W12 ⟨r12,rfl,hO12,hq⟩
   have hb12:=btt hb11 hq
   have hz12:=hz11.keep hq
   rw [hRT.out] at hO12
   have hO12h:=Lib.hid hO12
   obtain ⟨sv12,rfl,hO12a,_⟩:=hO12
   obtain ⟨ra12,rc12,rfl⟩:=hO12a.shape
   obtain ⟨W13,hW13⟩:=exF (W12.alloc (.cells #[.int .i64 (k:Int),.slice ra12 RT.length rc12] 24))
   obtain ⟨hb13a,_,_,m13⟩:=boxAdv hW13
   have hb13:=btt hb12 hb13a
   have hz13:=hz12.keep hb13a
   have hO13:=Lib.hid (hO12h.out.keep hb13a)
   have hP13:=Lib.hid (HPm3.out W13 hb13 _ hz13)
   obtain ⟨p0,p1⟩:=hK.out W13 hb13
   clear hq q0 q1 hz11 hz12 hO12a hO12h hP11 m11
   go_upto_region 23 with fail
   rw [← hW13]
   replace hW13:=Lib.hid hW13
   go_wp2_with fail
   refine hP13.out.mono ?_
   rintro e W14 ⟨r14,rfl,hO14,hq⟩
   have hb14:=btt hb13 hq
   have m14:=(hq.block _ (Array.getElem?_eq_some_iff.1 m13).1).trans m13
   have hO13':=Lib.hid (hO13.out.keep hq)
   have hO14h:=Lib.hid hO14
   obtain ⟨sv14,rfl,hO14a,_⟩:=hO14
   obtain ⟨ra14,rc14,rfl⟩:=hO14a.shape
   obtain ⟨W15,hW15⟩:=exF (W14.alloc (.cells #[.int .i64 (k:Int),.slice ra14 RT.length rc14] 24))
   obtain ⟨hb15a,q0,q1,m15⟩:=boxAdv hW15
   have hb15:=btt hb14 hb15a
   have m15a:=(hb15a.block _ (Array.getElem?_eq_some_iff.1 m14).1).trans m14
   have hO15:=Lib.hid (hO13'.out.keep hb15a)
   have hO15z:=Lib.hid (hO14h.out.keep hb15a)
   have hG15:=Lib.hid (HG2.out W15 _ hO15z.out)
   clear hq p0 p1 hO14a hO14h hO13 hO13' m13 hP13 hz13
   go_upto_region 24 with fail
   rw [← hW15]
   replace hW15:=Lib.hid hW15
   go_wp2_with fail
   refine hG15.out.mono ?_
   rintro e W16 ⟨r16,rfl,ho16,hq⟩
   have hb16:=btt hb15 hq
   have mY:=(hq.block _ (Array.getElem?_eq_some_iff.1 m15a).1).trans m15a
   have mZ:=(hq.block _ (Array.getElem?_eq_some_iff.1 m15).1).trans m15
   have HS:=sameRef (hO15.out.keep hq).advC.adv (hO15z.out.keep hq).advC.adv
   rw [show (decide ((k:Int)=(k:Int)) && decide (RT=RT))=true by simp] at HS
   replace HS:=Lib.hid HS
   obtain ⟨ga2,gc2,rfl⟩:=ho16.shape
   obtain ⟨y0,y1⟩:=boxL2 mY
   obtain ⟨z0,z1⟩:=boxL2 mZ
   have hlq2:=hlq.out
   clear hq q0 q1 m15a m15 hO15 hO15z hG15 ho16 mY mZ
   go_wp2_with fail
   refine HS.out.mono ?_
   rintro e W17 ⟨rfl,hq⟩
   have hb17:=btt hb16 hq
   clear hq y0 y1 z0 z1
   go_wp2_with fail
   refine (awakeC (w:=W17)).mono ?_
   rintro e W18 ⟨rfl,hq⟩
   have hfin:=bt hb1 (btt hb17 hq) hb1.size
   go_wp2
   go_ret
   exact ⟨rfl,hfin⟩
end Go.Proofs.YtmikofeildnpdaaGreat

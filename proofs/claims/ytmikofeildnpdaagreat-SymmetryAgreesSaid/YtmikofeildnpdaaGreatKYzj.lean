/- Texts of this claim, put together: ZX YB YC. -/
import Derived.Test.YtmikofeildnpdaaGreatKYzi
import Derived.Deep.RegionHeld3
import Derived.Test.YtmikofeildnpdaaGreatKYzh
import Derived.Test.YtmikofeildnpdaaGreatKYp

set_option maxRecDepth 100000
set_option maxHeartbeats 12800000
/- law21.awake. -/
namespace Go.Proofs.YtmikofeildnpdaaGreat
open Go.RowKit
theorem awakeC {w:World}:Calls Tryz.prog 12 #[] w fun e w'=>e = .returned (.bool true)∧Below w.heap.size w w':=by
 have HG1:Hid (∀ W b,W.heap[b]? = some (.cells #[.int .i64 3,.int .i64 2,.int .i64 3,.int .i64 3] 93)→Calls Tryz.prog 49 #[.slice (some ⟨b,0,none⟩) 2 2] W (GrOut awS1 W)):=gr4 rfl
 have HG2:Hid (∀ W b,W.heap[b]? = some (.cells #[.int .i64 1,.int .i64 3,.int .i64 3,.int .i64 2,.int .i64 3,.int .i64 3] 93)→Calls Tryz.prog 49 #[.slice (some ⟨b,0,none⟩) 3 3] W (GrOut awS2 W)):=gr6 rfl
 have HG3:Hid (∀ W b,W.heap[b]? = some (.cells #[.int .i64 1,.int .i64 3,.int .i64 3,.int .i64 3] 93)→Calls Tryz.prog 49 #[.slice (some ⟨b,0,none⟩) 2 2] W (GrOut awS3 W)):=gr4 rfl
 have HPm:Hid (∀ W v u,AdvV W v 2 awS1→Ints W u [1,0]→Calls Tryz.prog 13 #[v,u] W (PmOut W)):=fun W v u hv hu=>permOut hv hu
 have HGr1:Hid (∀ W v,AdvC W v 2 awS1→Calls Tryz.prog 18 #[v] W (RII W [[0,1]] 0)):=fun W v hv=>by
  have:=groupC hv awF1
  rwa [awG1,awn1] at this
 have HGr2:Hid (∀ W v,AdvC W v 2 awS2→Calls Tryz.prog 18 #[v] W (RII W [[0,1],[1,0]] 0)):=fun W v hv=>by
  have:=groupC hv awF2
  rwa [awG2,awn2] at this
 go_enter Tryz.func12, Tryz.ntmps12
 go_wp2_with fail
 refine (HG1.out _ _ (heap_alloc_new _ _)).mono ?_
 rintro e w1 ⟨a1,c1,rfl,hr1,hb1⟩
 go_wp2_with fail
 refine (HG2.out _ _ (heap_alloc_new _ _)).mono ?_
 rintro e w2 ⟨a2,c2,rfl,hr2,hb2⟩
 have hal:=(Below.refl w1.heap.size w1).alloc (Nat.le_refl _) (.cells #[.int .i64 1,.int .i64 3,.int .i64 3,.int .i64 2,.int .i64 3,.int .i64 3] 93)
 have h0w:=(Below.refl w.heap.size w).alloc (Nat.le_refl _) (.cells #[.int .i64 3,.int .i64 2,.int .i64 3,.int .i64 3] 93)
 have hw1:=bt h0w hb1 h0w.size
 have hw1':=bt hw1 hal hw1.size
 have hw2:=bt hw1' hb2 hw1'.size
 replace hr1:=Lib.hid (hr1.keep (btt hal hb2))
 replace hr2:=Lib.hid hr2
 obtain ⟨W3,hW3⟩:=exF ((w2.alloc (.cells #[.int .i64 2,.slice a1 1 c1] 24)).alloc (.cells #[.int .i64 2,.slice a2 1 c2] 24))
 have hb3:Below w2.heap.size w2 W3:=by rw [hW3]; exact ((Below.refl _ _).alloc (Nat.le_refl _) _).alloc (by simp) _
 have kA:W3.heap[w2.heap.size]? = some (.cells #[.int .i64 2,.slice a1 1 c1] 24):=by rw [hW3]; exact (Below.heap_alloc _ _ _ (by simp)).trans (heap_alloc_new _ _)
 have kB:W3.heap[w2.heap.size+1]? = some (.cells #[.int .i64 2,.slice a2 1 c2] 24):=by
  have h:=heap_alloc_new (w2.alloc (.cells #[.int .i64 2,.slice a1 1 c1] 24)) (.cells #[.int .i64 2,.slice a2 1 c2] 24)
  rw [World.size_alloc] at h
  rw [hW3]; exact h
 obtain ⟨p0,p1⟩:=boxL2 kA
 obtain ⟨q0,q1⟩:=boxL2 kB
 have hK:=Lib.hid (fun W (hb:Below W3.heap.size W3 W)=>And.intro (boxL2 ((hb.block _ (Array.getElem?_eq_some_iff.1 kA).1).trans kA)) (boxL2 ((hb.block _ (Array.getElem?_eq_some_iff.1 kB).1).trans kB)))
 have hA1:=Lib.hid (fun W (hb:Below W3.heap.size W3 W)=>((hr1.out.advC.keep hb3).keep hb:AdvC W _ 2 awS1))
 have hA2:=Lib.hid (fun W (hb:Below W3.heap.size W3 W)=>((hr2.out.advC.keep hb3).keep hb:AdvC W _ 2 awS2))
 have hw3:=hw2.trans (hb3.mono hw2.size)
 clear kA kB hb1 hb2 h0w hw1 hw1' hal hw2
 go_upto_region 2 with fail
 rw [← hW3]
 replace hW3:=Lib.hid hW3
 have hb4:=(Below.refl W3.heap.size W3).alloc (Nat.le_refl _) (.cells #[.int .i64 1,.int .i64 0] 3)
 have HP4:=Lib.hid (HPm.out _ _ _ (hA1.out _ hb4).adv (ints2 (heap_alloc_new W3 (.cells #[.int .i64 1,.int .i64 0] 3))))
 go_wp2_with fail
 refine HP4.out.mono ?_
 rintro e w5 ⟨a3,c3,rfl,hr3,hb5⟩
 have hb35:=btt hb4 hb5
 have hb6:=(Below.refl w5.heap.size w5).alloc (Nat.le_refl _) (.cells #[.int .i64 2,.slice a3 1 c3] 24)
 obtain ⟨W6,hW6⟩:=exF (w5.alloc (.cells #[.int .i64 2,.slice a3 1 c3] 24))
 rw [← hW6] at hb6
 have k6:W6.heap[w5.heap.size]? = some (.cells #[.int .i64 2,.slice a3 1 c3] 24):=by rw [hW6]; exact heap_alloc_new _ _
 have hb36:=btt hb35 hb6
 replace hr3:=Lib.hid (hr3.keep hb6)
 have HG6:=Lib.hid (HGr1.out W6 _ (hA1.out _ hb36))
 clear HP4 HPm hb4 hb5 hb35 hb6 p0 p1 q0 q1
 obtain ⟨⟨p0,p1⟩,-⟩:=hK.out W6 hb36
 go_upto_region 3 with fail
 rw [← hW6]
 replace hW6:=Lib.hid hW6
 go_wp2_with fail
 refine HG6.out.mono ?_
 rintro e w7 ⟨r7,rfl,hr7,hb7⟩
 have hb37:=btt hb36 hb7
 replace k6:=(hb7.block _ (Array.getElem?_eq_some_iff.1 k6).1).trans k6
 replace hr3:=Lib.hid (hr3.out.keep hb7)
 have HG7:=Lib.hid (HGr2.out w7 _ (hA2.out _ hb37))
 obtain ⟨ra7,rc7,rfl⟩:=hr7.shape
 replace hr7:=Lib.hid hr7
 clear p0 p1 HG6 HGr1 hb36
 obtain ⟨-,q0,q1⟩:=hK.out w7 hb37
 go_wp2_with fail
 refine HG7.out.mono ?_
 rintro e w8 ⟨r8,rfl,hr8,hb8⟩
 have hb38:=btt hb37 hb8
 replace k6:=(hb8.block _ (Array.getElem?_eq_some_iff.1 k6).1).trans k6
 replace hr3:=Lib.hid (hr3.out.keep hb8)
 replace hr7:=Lib.hid (hr7.out.keep hb8)
 obtain ⟨ra8,rc8,rfl⟩:=hr8.shape
 replace hr8:=Lib.hid hr8
 clear q0 q1 HG7 HGr2 hb37 hb7
 obtain ⟨⟨p0,p1⟩,q0,q1⟩:=hK.out w8 hb38
 have hl8:w2.heap.size+1 < w8.heap.size:=World.block_lt_of_cell? w8 _ q0
 go_upto_region 5 with fail
 go_region_held3 (fun w'=>w'.cell? ⟨w2.heap.size+1,0,none⟩=some (.int .i64 2)∧w'.cell? ⟨w2.heap.size+1,1,none⟩=some (.slice a2 1 c2))
  (first
   | go_keep
   | (exact ⟨(hb9.cell (p:=⟨w2.heap.size+1,0,none⟩) hl8).trans q0,(hb9.cell (p:=⟨w2.heap.size+1,1,none⟩) hl8).trans q1⟩)
   | (exact ⟨((btt hb9 hb10).cell (p:=⟨w2.heap.size+1,0,none⟩) hl8).trans q0,((btt hb9 hb10).cell (p:=⟨w2.heap.size+1,1,none⟩) hl8).trans q1⟩))
  (first
   | (go_at_call 50; refine consOut.mono ?_; rintro e w9 ⟨sa9,sc9,rfl,hT9,hb9⟩; replace hb9:Below w8.heap.size w8 w9:=(Below.refl _ w8).drew.trans hb9)
   | (go_at_call 38; refine (symOut2 hT9 (hA2.out _ (btt hb38 hb9))).mono ?_; rintro e w10 ⟨r10,rfl,hr10,hb10⟩))
 have hb910:=btt hb9 hb10
 have hb310:=btt hb38 hb910
 replace k6:=(hb910.block _ (Array.getElem?_eq_some_iff.1 k6).1).trans k6
 replace hr3:=Lib.hid (hr3.out.keep hb910)
 replace hr7:=Lib.hid (hr7.out.keep hb910)
 replace hr8:=Lib.hid (hr8.out.keep hb910)
 obtain ⟨ra10,rc10,rfl⟩:=hr10.shape
 replace hr10:=Lib.hid hr10
 clear p0 p1 q0 q1 hb9 hb10 hb910 hb38 hT9 hl8 hb8
 obtain ⟨⟨p0,p1⟩,-⟩:=hK.out w10 hb310
 have hl10:w2.heap.size < w10.heap.size:=World.block_lt_of_cell? w10 _ p0
 go_upto_region 6 with fail
 go_region_held3 (fun w'=>w'.cell? ⟨w2.heap.size,0,none⟩=some (.int .i64 2)∧w'.cell? ⟨w2.heap.size,1,none⟩=some (.slice a1 1 c1))
  (first
   | go_keep
   | (exact ⟨(hb11.cell (p:=⟨w2.heap.size,0,none⟩) hl10).trans p0,(hb11.cell (p:=⟨w2.heap.size,1,none⟩) hl10).trans p1⟩)
   | (exact ⟨((btt hb11 hb12).cell (p:=⟨w2.heap.size,0,none⟩) hl10).trans p0,((btt hb11 hb12).cell (p:=⟨w2.heap.size,1,none⟩) hl10).trans p1⟩))
  (first
   | (go_at_call 50; refine consOut.mono ?_; rintro e w11 ⟨sa11,sc11,rfl,hT11,hb11⟩; replace hb11:Below w10.heap.size w10 w11:=(Below.refl _ w10).drew.trans hb11)
   | (go_at_call 38; refine (symOut1 hT11 (hA1.out _ (btt hb310 hb11))).mono ?_; rintro e w12 ⟨r12,rfl,hr12,hb12⟩))
 have hb1012:=btt hb11 hb12
 have hb312:=btt hb310 hb1012
 replace k6:=(hb1012.block _ (Array.getElem?_eq_some_iff.1 k6).1).trans k6
 replace hr3:=Lib.hid (hr3.out.keep hb1012)
 replace hr7:=Lib.hid (hr7.out.keep hb1012)
 replace hr8:=Lib.hid (hr8.out.keep hb1012)
 replace hr10:=Lib.hid (hr10.out.keep hb1012)
 obtain ⟨ra12,rc12,rfl⟩:=hr12.shape
 replace hr12:=Lib.hid hr12
 clear p0 p1 hb11 hb12 hb1012 hb310 hT11 hl10
 have hwf:=bt hw3 hb312 hw3.size
 clear hb312 hA1 hA2 hK hr1 hr2
 have ⟨hb13,hI13⟩:=orbIn w12
 have HO:=Lib.hid (orbOut hI13)
 go_upto_region 7 with fail
 go_wp2_with fail
 refine HO.out.mono ?_
 rintro e w14 ⟨r14,rfl,hr14,hb14⟩
 have hb1214:=btt hb13 hb14
 replace k6:=(hb1214.block _ (Array.getElem?_eq_some_iff.1 k6).1).trans k6
 replace hr3:=Lib.hid (hr3.out.keep hb1214)
 replace hr7:=Lib.hid (hr7.out.keep hb1214)
 replace hr8:=Lib.hid (hr8.out.keep hb1214)
 replace hr10:=Lib.hid (hr10.out.keep hb1214)
 replace hr12:=Lib.hid (hr12.out.keep hb1214)
 obtain ⟨ra14,rc14,rfl⟩:=hr14.shape
 replace hr14:=Lib.hid hr14
 replace hwf:=bt hwf hb1214 hwf.size
 clear hb13 hI13 hb14 hb1214 HO
 go_upto_region 9 with fail
 obtain ⟨W16,hW16⟩:∃ W16,W16=((((w14.alloc (.cells #[.int .i64 0,.int .i64 1] 3)).alloc (.cells #[.slice (some ⟨w14.heap.size,0,none⟩) 2 2] 25)).alloc (.cells #[.int .i64 0,.int .i64 1] 3)).alloc (.cells #[.int .i64 1,.int .i64 0] 3)).alloc
   (.cells #[.slice (some ⟨w14.heap.size+1+1,0,none⟩) 2 2,.slice (some ⟨w14.heap.size+1+1+1,0,none⟩) 2 2] 25):=⟨_,rfl⟩
 obtain ⟨hb16,hI1,hI2⟩:=awRows hW16
 replace hW16:=Lib.hid hW16
 replace k6:=(hb16.block _ (Array.getElem?_eq_some_iff.1 k6).1).trans k6
 replace hr3:=Lib.hid (hr3.out.keep hb16)
 replace hr7:=Lib.hid ((hr7.out.keep hb16).intss (by decide) (by decide))
 replace hr8:=Lib.hid ((hr8.out.keep hb16).intss (by decide) (by decide))
 replace hr10:=Lib.hid ((hr10.out.keep hb16).intss (by decide) (by decide))
 replace hr12:=Lib.hid ((hr12.out.keep hb16).intss (by decide) (by decide))
 replace hr14:=Lib.hid ((hr14.out.keep hb16).intss (by decide) (by decide))
 replace hwf:=bt hwf hb16 hwf.size
 clear hb16
 rw [← hW16.out]
 refine regAwake9 k6 hr3.out hr7.out hr8.out hr10.out hr12.out hr14.out hI1 hI2 ?_
 intro y16 y17 y42 y43 y44 y45 W hG _ _ _ _ _ _
 have hbf:=bt hwf hG hwf.size
 clear hr3 hr7 hr8 hr10 hr12 hr14 hI1 hI2 hwf
 go_wp2
 go_ret
 exact ⟨rfl,hbf⟩
end Go.Proofs.YtmikofeildnpdaaGreat

/- A renamed adversary has as many symmetries: plain. -/
namespace Go.Proofs.YtmikofeildnpdaaGreat
theorem grpL_mem {n:Nat} {ss:List (List (List Int))} (h:WfN n ss) {x:List Int}:x∈grpL n ss↔IsP n x∧kpA ss x:=by
 rw [grpL,if_pos h.chk,Int.toNat_natCast,List.mem_filter,mem_everyL,kpG_iff]
theorem grpL_one {n:Nat} {ss:List (List (List Int))} (h:WfN n ss):oneL n∈grpL n ss:=(grpL_mem h).2 ⟨IsP.one n,kpA.one h⟩
theorem grpL_back {n:Nat} {ss:List (List (List Int))} (h:WfN n ss) {x:List Int} (hx:x∈grpL n ss):backL x∈grpL n ss:=
 have hx:=(grpL_mem h).1 hx
 (grpL_mem h).2 ⟨back_isP h.h1 h.h5 hx.1,kpA.back h hx.1 hx.2⟩
theorem grpL_times {n:Nat} {ss:List (List (List Int))} (h:WfN n ss) {x y:List Int} (hx:x∈grpL n ss) (hy:y∈grpL n ss):timesL x y∈grpL n ss:=
 have hx:=(grpL_mem h).1 hx
 have hy:=(grpL_mem h).1 hy
 (grpL_mem h).2 ⟨hx.1.times hy.1,kpA.times h hx.1 hy.1 hx.2 hy.2⟩
end Go.Proofs.YtmikofeildnpdaaGreat

/- The law SymmetryCloses. -/
namespace Go.Proofs.YtmikofeildnpdaaGreat
open Go.RowKit
structure GrpC (k:Nat) (g:List (List Int)):Prop where
 pos:0 < g.length
 le:g.length≤1000
 one:amongB g (oneL k)=true
 isP:∀ a∈g,IsP k a
 inv:∀ a∈g,amongB g (backL a)=true
 mul:∀ a∈g,∀ b∈g,amongB g (timesL a b)=true
theorem grpC_of {k:Nat} {ss:List (List (List Int))} (h:WfN k ss):GrpC k (grpL k ss):=by
 have ham:∀ x,x∈grpL k ss→amongB (grpL k ss) x=true:=fun x hx=>by rw [amongB,decide_eq_true_eq]; exact hx
 refine ⟨?_,?_,ham _ (grpL_one h),fun a ha=>((grpL_mem h).1 ha).1,fun a ha=>ham _ (grpL_back h ha),fun a ha b hb=>ham _ (grpL_times h ha hb)⟩
 ·have:=grpL_one h
  cases hgg:grpL k ss with
  | nil=>rw [hgg] at this; cases this
  | cons=>simp
 ·rw [grpL,if_pos h.chk,Int.toNat_natCast]
  exact Nat.le_trans (List.length_filter_le _ _) (every_len h.h5)
theorem fewS_of {ss:List (List (List Int))} (h:fewA ss=true):FewS ss:=⟨by have:=few_le h; omega,by have:=few_le h; omega⟩
end Go.Proofs.YtmikofeildnpdaaGreat

/- Texts of this claim, put together: A7 A8. -/
import Derived.Test.YtmikofeildnpdaaGreatKYf
import Derived.IntWalk

set_option maxRecDepth 100000
set_option maxHeartbeats 12800000
/- Adversaries: Few and move of the reference. -/
namespace Go.Proofs.YtmikofeildnpdaaGreat
open Go.RowKit
def mvErr (n:Int) (len:Nat) (ms:List (List Int)) (i:Nat):Int:=
 if chkRd ((ms.getD i []).take 7) ≠ 0 then chkRd ((ms.getD i []).take 7) else if (ms.getD i []).getD 0 0 ≠ n then 22
 else if 0 < i∧0≤cmpL ((ms.getD (i - 1) []).take 7) ((ms.getD i []).take 7) then 14 else if (ms.getD i []).getD 7 0 < 0∨(len:Int)≤(ms.getD i []).getD 7 0 then 2 else 0
theorem mvErr_1 {n:Int} {len:Nat} {ms:List (List Int)} {i:Nat} {x:List Int} (hx:ms.getD i []=x) (h:chkRd (x.take 7) ≠ 0):mvErr n len ms i=chkRd (x.take 7):=by rw [mvErr,hx,if_pos h]
theorem mvErr_2 {n:Int} {len:Nat} {ms:List (List Int)} {i:Nat} {x:List Int} (hx:ms.getD i []=x) (h:chkRd (x.take 7)=0) (h2:x.getD 0 0 ≠ n):mvErr n len ms i=22:=by rw [mvErr,hx,if_neg (fun k=>k h),if_pos h2]
theorem mvErr_3 {n:Int} {len:Nat} {ms:List (List Int)} {i:Nat} {x y:List Int} (hx:ms.getD i []=x) (hy:ms.getD (i - 1) []=y) (h:chkRd (x.take 7)=0) (h2:x.getD 0 0=n) (hi:0 < i) (h3:0≤cmpL (y.take 7) (x.take 7)):mvErr n len ms i=14:=by
 rw [mvErr,hx,hy,if_neg (fun k=>k h),if_neg (fun k=>k h2),if_pos ⟨hi,h3⟩]
theorem mvErr_4 {n:Int} {len:Nat} {ms:List (List Int)} {i:Nat} {x:List Int} (hx:ms.getD i []=x) (h:chkRd (x.take 7)=0) (h2:x.getD 0 0=n) (h3 : ¬ (0 < i∧0≤cmpL ((ms.getD (i - 1) []).take 7) (x.take 7))) (h4:x.getD 7 0 < 0∨(len:Int)≤x.getD 7 0):mvErr n len ms i=2:=by
 rw [mvErr,hx,if_neg (fun k=>k h),if_neg (fun k=>k h2),if_neg h3,if_pos h4]
theorem mvErr_5 {n:Int} {len:Nat} {ms:List (List Int)} {i:Nat} {x:List Int} (hx:ms.getD i []=x) (h:chkRd (x.take 7)=0) (h2:x.getD 0 0=n) (h3 : ¬ (0 < i∧0≤cmpL ((ms.getD (i - 1) []).take 7) (x.take 7))) (h4 : ¬ (x.getD 7 0 < 0∨(len:Int)≤x.getD 7 0)):mvErr n len ms i=0:=by
 rw [mvErr,hx,if_neg (fun k=>k h),if_neg (fun k=>k h2),if_neg h3,if_neg h4]
def fewA (ss:List (List (List Int))):Bool:=decide (ss.length≤8) && decide (movesN ss≤40)
theorem refFew {w:World} {v:Value} {n:Int} {ss:List (List (List Int))} (h:AdvV w v n ss):Calls Tryz.prog 11 #[v] w fun e w'=>e = .returned (.bool (fewA ss))∧Below w.heap.size w w':=by
 have h0:=h
 obtain ⟨sv,rfl,a,c,b,off,rfl,ha,hc,_⟩:=h
 have hb:=(Below.refl w.heap.size w).alloc (Nat.le_refl _) (.cells #[.int .i64 n,.slice a ss.length c] 24)
 by_cases h8:ss.length≤8
 ·have HM:=Lib.hid (refMoves (h0.keep hb) (by omega))
  have e:=Lib.hid (show fewA ss=decide (movesN ss≤40) by simp [fewA,h8])
  obtain ⟨m,hm⟩:=exE (movesN ss)
  rw [hm] at HM e
  have h8':decide ((ss.length:Int)≤8)=true:=decide_eq_true (by omega)
  clear ha hc hm h0
  go_enter Tryz.func11, Tryz.ntmps11
  go_wp2_with fail
  refine HM.out.mono ?_; rintro e1 w1 ⟨rfl,hb1⟩
  go_wp2
  go_ret
  exact ⟨ret_bool (by rw [e.out]; norm_cast),bt hb hb1 hb.size⟩
 ·have e:=Lib.hid (show fewA ss=false by simp [fewA,h8])
  have h8':decide ((ss.length:Int)≤8)=false:=decide_eq_false (by omega)
  clear ha hc h0
  go_enter Tryz.func11, Tryz.ntmps11
  go_wp2
  go_ret
  exact ⟨ret_bool e.out.symm,hb⟩
theorem below_of_drew {w w':World} (h:Below w.drew.heap.size w.drew w'):Below w.heap.size w w':=((Below.refl _ w).drew).trans h
theorem refMove {w:World} {v mv:Value} {n:Int} {ss:List (List (List Int))} {ms:List (List Int)} {i:Nat} (hA:AdvV w v n ss) (hM:KS 8 w mv ms) (hi:i < ms.length) (_hl:ss.length≤256) :
  Calls Tryz.prog 73 #[v,mv,.int .i64 i] w fun e w'=>e = .returned (.int .i64 (mvErr n ss.length ms i))∧Below w.heap.size w w':=by
 obtain ⟨sv,rfl,sa,sc,sb,so,rfl,hsa,hsc,_⟩:=hA
 obtain ⟨ma,mc,mb,mo,rfl,hma,hmc,hml⟩:=hM
 obtain rfl:=hma (by omega)
 clear hma hsa hsc
 obtain ⟨hx8,hxc⟩:=hmc i hi
 obtain ⟨x,hx⟩:=exE (ms.getD i [])
 rw [hx] at hx8 hxc
 obtain ⟨y0,y1,y2,y3,y4,y5,y6,y7,rfl⟩:=eight hx8
 clear hx8
 have hb:=(Below.refl w.heap.size w).alloc (Nat.le_refl _) (.cells #[.int .i64 n,.slice sa ss.length sc] 24)
 have hb2:=hb.alloc hb.size (.cells #[.int .i64 y0,.int .i64 y1,.int .i64 y2,.int .i64 y3,.int .i64 y4,.int .i64 y5,.int .i64 y6] 87)
 have hs0:((w.alloc (.cells #[.int .i64 n,.slice sa ss.length sc] 24)).alloc (.cells #[.int .i64 y0,.int .i64 y1,.int .i64 y2,.int .i64 y3,.int .i64 y4,.int .i64 y5,.int .i64 y6] 87)).heap[w.heap.size]? = some (.cells #[.int .i64 n,.slice sa ss.length sc] 24):=(Below.heap_alloc _ _ _ (by simp)).trans (heap_alloc_new w _)
 have hs1:((w.alloc (.cells #[.int .i64 n,.slice sa ss.length sc] 24)).alloc (.cells #[.int .i64 y0,.int .i64 y1,.int .i64 y2,.int .i64 y3,.int .i64 y4,.int .i64 y5,.int .i64 y6] 87)).heap[w.heap.size+1]? = some (.cells #[.int .i64 y0,.int .i64 y1,.int .i64 y2,.int .i64 y3,.int .i64 y4,.int .i64 y5,.int .i64 y6] 87):=by
  have:=heap_alloc_new (w.alloc (.cells #[.int .i64 n,.slice sa ss.length sc] 24)) (.cells #[.int .i64 y0,.int .i64 y1,.int .i64 y2,.int .i64 y3,.int .i64 y4,.int .i64 y5,.int .i64 y6] 87); rwa [World.size_alloc] at this
 replace hs0:=Lib.hid hs0; replace hs1:=Lib.hid hs1
 obtain ⟨c0,c1,c2,c3,c4,c5,c6,_⟩:=(hxc.keep hb).all8
 replace hxc:=Lib.hid hxc
 obtain ⟨E,hE⟩:=exE (chkRd [y0,y1,y2,y3,y4,y5,y6])
 have HC:=fun W=>refRoundCheck y0 y1 y2 y3 y4 y5 y6 W
 rw [hE] at HC
 replace HC:=Lib.hid HC
 replace hE:=Lib.hid hE
 replace hx:=Lib.hid hx
 by_cases hz:E=0
 ·subst hz
  by_cases hn:y0=n
  ·have hn':(y0 != n)=false:=by simp [hn]
   replace hn:=Lib.hid hn
   by_cases hi0:0 < i
   ·have hi1:decide (0 < i)=true:=decide_eq_true hi0
    obtain ⟨hy8,hyc⟩:=hmc (i - 1) (by omega)
    obtain ⟨y,hy⟩:=exE (ms.getD (i - 1) [])
    rw [hy] at hy8 hyc
    obtain ⟨z0,z1,z2,z3,z4,z5,z6,z7,rfl⟩:=eight hy8
    clear hy8 hmc
    obtain ⟨j,rfl⟩:∃ j,i=j+1:=⟨i - 1,by omega⟩
    rw [Nat.add_sub_cancel] at hyc hy
    replace hyc:=Lib.hid hyc
    have HM:=fun W=>refRoundCompare z0 z1 z2 z3 z4 z5 z6 y0 y1 y2 y3 y4 y5 y6 W
    obtain ⟨C,hC⟩:=exE (cmpL [z0,z1,z2,z3,z4,z5,z6] [y0,y1,y2,y3,y4,y5,y6])
    rw [hC] at HM
    replace HM:=Lib.hid HM
    replace hC:=Lib.hid hC
    replace hy:=Lib.hid hy
    by_cases hCz:0≤C
    ·have hC1:decide (0≤C)=true:=decide_eq_true hCz
     replace hCz:=Lib.hid hCz
     go_enter Tryz.func73, Tryz.ntmps73
     go_wp2_with fail
     refine (HC.out _).mono ?_; rintro e w1 ⟨rfl,hb1⟩
     have k0:=(hb1.block _ (by simp; omega)).trans hs0.out
     have k1:=(hb1.block _ (by simp)).trans hs1.out
     have bw:=bt hb2 hb1 hb2.size
     clear c0 c1 c2 c3 c4 c5 c6 hs0 hs1
     have d0:w1.cell? ⟨w.heap.size,0,none⟩=some (.int .i64 n):=by rw [cell_of_row _ _ 0 _ _ _ k0]; rfl
     have d1:w1.cell? ⟨w.heap.size,1,none⟩=some (.slice sa ss.length sc):=by rw [cell_of_row _ _ 1 _ _ _ k0]; rfl
     have r0:w1.cell? ⟨w.heap.size+1,0,none⟩=some (.int .i64 y0):=by rw [cell_of_row _ _ 0 _ _ _ k1]; rfl
     have r1:w1.cell? ⟨w.heap.size+1,1,none⟩=some (.int .i64 y1):=by rw [cell_of_row _ _ 1 _ _ _ k1]; rfl
     have r2:w1.cell? ⟨w.heap.size+1,2,none⟩=some (.int .i64 y2):=by rw [cell_of_row _ _ 2 _ _ _ k1]; rfl
     have r3:w1.cell? ⟨w.heap.size+1,3,none⟩=some (.int .i64 y3):=by rw [cell_of_row _ _ 3 _ _ _ k1]; rfl
     have r4:w1.cell? ⟨w.heap.size+1,4,none⟩=some (.int .i64 y4):=by rw [cell_of_row _ _ 4 _ _ _ k1]; rfl
     have r5:w1.cell? ⟨w.heap.size+1,5,none⟩=some (.int .i64 y5):=by rw [cell_of_row _ _ 5 _ _ _ k1]; rfl
     have r6:w1.cell? ⟨w.heap.size+1,6,none⟩=some (.int .i64 y6):=by rw [cell_of_row _ _ 6 _ _ _ k1]; rfl
     obtain ⟨e0,e1,e2,e3,e4,e5,e6,_⟩:=((hyc.out.keep (bt hb2 hb1 hb2.size))).all8
     have hwr:IntKind.i64.wrap (j:Int)=(j:Int):=IntWalk.i64_in _ (by omega)
     have hj0:(0:Int)≤(j:Int):=Int.natCast_nonneg _
     have hj1:(j:Int) < (ms.length:Int):=by omega
     go_wp2
     go_still_tail 10,(by kernel_rfl)
     change wpList _ _ _ _ _ w1.drew
     clear hwr
     go_wp2_with fail
     refine (HM.out _).mono ?_; rintro e w2 ⟨rfl,hb3⟩
     replace hb3:=below_of_drew hb3
     have b2:=bt bw hb3 bw.size
     clear e0 e1 e2 e3 e4 e5 e6
     go_wp2
     go_ret
     exact ⟨ret_int (mvErr_3 (y:=[z0,z1,z2,z3,z4,z5,z6,z7]) hx.out (by rw [Nat.add_sub_cancel]; exact hy.out) hE.out hn.out (by omega) (by show 0≤cmpL [z0,z1,z2,z3,z4,z5,z6] [y0,y1,y2,y3,y4,y5,y6]; rw [hC.out]; exact hCz.out)).symm,b2⟩
    ·have hC1:decide (0≤C)=false:=decide_eq_false hCz
     have h3:Hid (¬ (0 < j+1∧0≤cmpL ((ms.getD (j+1 - 1) []).take 7) ([y0,y1,y2,y3,y4,y5,y6,y7].take 7))):=fun k=>by
      have k2:=k.2
      rw [Nat.add_sub_cancel,hy.out] at k2
      have k3:0≤cmpL [z0,z1,z2,z3,z4,z5,z6] [y0,y1,y2,y3,y4,y5,y6]:=k2
      rw [hC.out] at k3
      exact hCz k3
     clear hCz
     by_cases q1:y7 < 0
     ·have q1':decide (y7 < 0)=true:=decide_eq_true q1
      have q:=Lib.hid (show y7 < 0∨(ss.length:Int)≤y7 from .inl q1)
      clear q1
      go_enter Tryz.func73, Tryz.ntmps73
      go_wp2_with fail
      refine (HC.out _).mono ?_; rintro e w1 ⟨rfl,hb1⟩
      have k0:=(hb1.block _ (by simp; omega)).trans hs0.out
      have k1:=(hb1.block _ (by simp)).trans hs1.out
      have bw:=bt hb2 hb1 hb2.size
      clear c0 c1 c2 c3 c4 c5 c6 hs0 hs1
      have d0:w1.cell? ⟨w.heap.size,0,none⟩=some (.int .i64 n):=by rw [cell_of_row _ _ 0 _ _ _ k0]; rfl
      have d1:w1.cell? ⟨w.heap.size,1,none⟩=some (.slice sa ss.length sc):=by rw [cell_of_row _ _ 1 _ _ _ k0]; rfl
      have r0:w1.cell? ⟨w.heap.size+1,0,none⟩=some (.int .i64 y0):=by rw [cell_of_row _ _ 0 _ _ _ k1]; rfl
      have r1:w1.cell? ⟨w.heap.size+1,1,none⟩=some (.int .i64 y1):=by rw [cell_of_row _ _ 1 _ _ _ k1]; rfl
      have r2:w1.cell? ⟨w.heap.size+1,2,none⟩=some (.int .i64 y2):=by rw [cell_of_row _ _ 2 _ _ _ k1]; rfl
      have r3:w1.cell? ⟨w.heap.size+1,3,none⟩=some (.int .i64 y3):=by rw [cell_of_row _ _ 3 _ _ _ k1]; rfl
      have r4:w1.cell? ⟨w.heap.size+1,4,none⟩=some (.int .i64 y4):=by rw [cell_of_row _ _ 4 _ _ _ k1]; rfl
      have r5:w1.cell? ⟨w.heap.size+1,5,none⟩=some (.int .i64 y5):=by rw [cell_of_row _ _ 5 _ _ _ k1]; rfl
      have r6:w1.cell? ⟨w.heap.size+1,6,none⟩=some (.int .i64 y6):=by rw [cell_of_row _ _ 6 _ _ _ k1]; rfl
      obtain ⟨e0,e1,e2,e3,e4,e5,e6,_⟩:=((hyc.out.keep (bt hb2 hb1 hb2.size))).all8
      have hwr:IntKind.i64.wrap (j:Int)=(j:Int):=IntWalk.i64_in _ (by omega)
      have hj0:(0:Int)≤(j:Int):=Int.natCast_nonneg _
      have hj1:(j:Int) < (ms.length:Int):=by omega
      go_wp2
      go_still_tail 10,(by kernel_rfl)
      change wpList _ _ _ _ _ w1.drew
      clear hwr
      go_wp2_with fail
      refine (HM.out _).mono ?_; rintro e w2 ⟨rfl,hb3⟩
      replace hb3:=below_of_drew hb3
      have b2:=bt bw hb3 bw.size
      clear e0 e1 e2 e3 e4 e5 e6
      have k2:=(hb3.block _ (Array.getElem?_eq_some_iff.1 k0).1).trans k0
      have d2:w2.cell? ⟨w.heap.size,1,none⟩=some (.slice sa ss.length sc):=by rw [cell_of_row _ _ 1 _ _ _ k2]; rfl
      obtain ⟨_,_,_,_,_,_,_,e7⟩:=(hxc.out.keep b2).all8
      go_wp2
      go_quiet (fail)
      go_wp2
      go_ret
      exact ⟨ret_int (mvErr_4 hx.out hE.out hn.out h3.out q.out).symm,below_drewN b2 _⟩
     ·have q1':decide (y7 < 0)=false:=decide_eq_false q1
      by_cases q2:(ss.length:Int)≤y7
      ·have q2':decide ((ss.length:Int)≤y7)=true:=decide_eq_true q2
       have q:=Lib.hid (show y7 < 0∨(ss.length:Int)≤y7 from .inr q2)
       clear q1 q2
       go_enter Tryz.func73, Tryz.ntmps73
       go_wp2_with fail
       refine (HC.out _).mono ?_; rintro e w1 ⟨rfl,hb1⟩
       have k0:=(hb1.block _ (by simp; omega)).trans hs0.out
       have k1:=(hb1.block _ (by simp)).trans hs1.out
       have bw:=bt hb2 hb1 hb2.size
       clear c0 c1 c2 c3 c4 c5 c6 hs0 hs1
       have d0:w1.cell? ⟨w.heap.size,0,none⟩=some (.int .i64 n):=by rw [cell_of_row _ _ 0 _ _ _ k0]; rfl
       have d1:w1.cell? ⟨w.heap.size,1,none⟩=some (.slice sa ss.length sc):=by rw [cell_of_row _ _ 1 _ _ _ k0]; rfl
       have r0:w1.cell? ⟨w.heap.size+1,0,none⟩=some (.int .i64 y0):=by rw [cell_of_row _ _ 0 _ _ _ k1]; rfl
       have r1:w1.cell? ⟨w.heap.size+1,1,none⟩=some (.int .i64 y1):=by rw [cell_of_row _ _ 1 _ _ _ k1]; rfl
       have r2:w1.cell? ⟨w.heap.size+1,2,none⟩=some (.int .i64 y2):=by rw [cell_of_row _ _ 2 _ _ _ k1]; rfl
       have r3:w1.cell? ⟨w.heap.size+1,3,none⟩=some (.int .i64 y3):=by rw [cell_of_row _ _ 3 _ _ _ k1]; rfl
       have r4:w1.cell? ⟨w.heap.size+1,4,none⟩=some (.int .i64 y4):=by rw [cell_of_row _ _ 4 _ _ _ k1]; rfl
       have r5:w1.cell? ⟨w.heap.size+1,5,none⟩=some (.int .i64 y5):=by rw [cell_of_row _ _ 5 _ _ _ k1]; rfl
       have r6:w1.cell? ⟨w.heap.size+1,6,none⟩=some (.int .i64 y6):=by rw [cell_of_row _ _ 6 _ _ _ k1]; rfl
       obtain ⟨e0,e1,e2,e3,e4,e5,e6,_⟩:=((hyc.out.keep (bt hb2 hb1 hb2.size))).all8
       have hwr:IntKind.i64.wrap (j:Int)=(j:Int):=IntWalk.i64_in _ (by omega)
       have hj0:(0:Int)≤(j:Int):=Int.natCast_nonneg _
       have hj1:(j:Int) < (ms.length:Int):=by omega
       go_wp2
       go_still_tail 10,(by kernel_rfl)
       change wpList _ _ _ _ _ w1.drew
       clear hwr
       go_wp2_with fail
       refine (HM.out _).mono ?_; rintro e w2 ⟨rfl,hb3⟩
       replace hb3:=below_of_drew hb3
       have b2:=bt bw hb3 bw.size
       clear e0 e1 e2 e3 e4 e5 e6
       have k2:=(hb3.block _ (Array.getElem?_eq_some_iff.1 k0).1).trans k0
       have d2:w2.cell? ⟨w.heap.size,1,none⟩=some (.slice sa ss.length sc):=by rw [cell_of_row _ _ 1 _ _ _ k2]; rfl
       obtain ⟨_,_,_,_,_,_,_,e7⟩:=(hxc.out.keep b2).all8
       go_wp2
       go_quiet (fail)
       go_wp2
       go_ret
       exact ⟨ret_int (mvErr_4 hx.out hE.out hn.out h3.out q.out).symm,below_drewN b2 _⟩
      ·have q2':decide ((ss.length:Int)≤y7)=false:=decide_eq_false q2
       have q:=Lib.hid (show ¬ (y7 < 0∨(ss.length:Int)≤y7) by omega)
       clear q1 q2
       go_enter Tryz.func73, Tryz.ntmps73
       go_wp2_with fail
       refine (HC.out _).mono ?_; rintro e w1 ⟨rfl,hb1⟩
       have k0:=(hb1.block _ (by simp; omega)).trans hs0.out
       have k1:=(hb1.block _ (by simp)).trans hs1.out
       have bw:=bt hb2 hb1 hb2.size
       clear c0 c1 c2 c3 c4 c5 c6 hs0 hs1
       have d0:w1.cell? ⟨w.heap.size,0,none⟩=some (.int .i64 n):=by rw [cell_of_row _ _ 0 _ _ _ k0]; rfl
       have d1:w1.cell? ⟨w.heap.size,1,none⟩=some (.slice sa ss.length sc):=by rw [cell_of_row _ _ 1 _ _ _ k0]; rfl
       have r0:w1.cell? ⟨w.heap.size+1,0,none⟩=some (.int .i64 y0):=by rw [cell_of_row _ _ 0 _ _ _ k1]; rfl
       have r1:w1.cell? ⟨w.heap.size+1,1,none⟩=some (.int .i64 y1):=by rw [cell_of_row _ _ 1 _ _ _ k1]; rfl
       have r2:w1.cell? ⟨w.heap.size+1,2,none⟩=some (.int .i64 y2):=by rw [cell_of_row _ _ 2 _ _ _ k1]; rfl
       have r3:w1.cell? ⟨w.heap.size+1,3,none⟩=some (.int .i64 y3):=by rw [cell_of_row _ _ 3 _ _ _ k1]; rfl
       have r4:w1.cell? ⟨w.heap.size+1,4,none⟩=some (.int .i64 y4):=by rw [cell_of_row _ _ 4 _ _ _ k1]; rfl
       have r5:w1.cell? ⟨w.heap.size+1,5,none⟩=some (.int .i64 y5):=by rw [cell_of_row _ _ 5 _ _ _ k1]; rfl
       have r6:w1.cell? ⟨w.heap.size+1,6,none⟩=some (.int .i64 y6):=by rw [cell_of_row _ _ 6 _ _ _ k1]; rfl
       obtain ⟨e0,e1,e2,e3,e4,e5,e6,_⟩:=((hyc.out.keep (bt hb2 hb1 hb2.size))).all8
       have hwr:IntKind.i64.wrap (j:Int)=(j:Int):=IntWalk.i64_in _ (by omega)
       have hj0:(0:Int)≤(j:Int):=Int.natCast_nonneg _
       have hj1:(j:Int) < (ms.length:Int):=by omega
       go_wp2
       go_still_tail 10,(by kernel_rfl)
       change wpList _ _ _ _ _ w1.drew
       clear hwr
       go_wp2_with fail
       refine (HM.out _).mono ?_; rintro e w2 ⟨rfl,hb3⟩
       replace hb3:=below_of_drew hb3
       have b2:=bt bw hb3 bw.size
       clear e0 e1 e2 e3 e4 e5 e6
       have k2:=(hb3.block _ (Array.getElem?_eq_some_iff.1 k0).1).trans k0
       have d2:w2.cell? ⟨w.heap.size,1,none⟩=some (.slice sa ss.length sc):=by rw [cell_of_row _ _ 1 _ _ _ k2]; rfl
       obtain ⟨_,_,_,_,_,_,_,e7⟩:=(hxc.out.keep b2).all8
       go_wp2
       go_quiet (fail)
       go_wp2
       go_ret
       exact ⟨ret_int (mvErr_5 hx.out hE.out hn.out h3.out (by have:=q.out; show ¬ (y7 < 0∨(ss.length:Int)≤y7); omega)).symm,below_drewN b2 _⟩
   ·have h3:Hid (¬ (0 < i∧0≤cmpL ((ms.getD (i - 1) []).take 7) ([y0,y1,y2,y3,y4,y5,y6,y7].take 7))):=fun k=>hi0 k.1
    have hi1:decide (0 < i)=false:=decide_eq_false hi0
    clear hi0 hmc
    by_cases q1:y7 < 0
    ·have q1':decide (y7 < 0)=true:=decide_eq_true q1
     have q:=Lib.hid (show y7 < 0∨(ss.length:Int)≤y7 from .inl q1)
     clear q1
     go_enter Tryz.func73, Tryz.ntmps73
     go_wp2_with fail
     refine (HC.out _).mono ?_; rintro e w1 ⟨rfl,hb1⟩
     have k0:=(hb1.block _ (by simp; omega)).trans hs0.out
     have k1:=(hb1.block _ (by simp)).trans hs1.out
     have bw:=bt hb2 hb1 hb2.size
     clear c0 c1 c2 c3 c4 c5 c6 hs0 hs1
     have d0:w1.cell? ⟨w.heap.size,0,none⟩=some (.int .i64 n):=by rw [cell_of_row _ _ 0 _ _ _ k0]; rfl
     have d1:w1.cell? ⟨w.heap.size,1,none⟩=some (.slice sa ss.length sc):=by rw [cell_of_row _ _ 1 _ _ _ k0]; rfl
     have r0:w1.cell? ⟨w.heap.size+1,0,none⟩=some (.int .i64 y0):=by rw [cell_of_row _ _ 0 _ _ _ k1]; rfl
     have r1:w1.cell? ⟨w.heap.size+1,1,none⟩=some (.int .i64 y1):=by rw [cell_of_row _ _ 1 _ _ _ k1]; rfl
     have r2:w1.cell? ⟨w.heap.size+1,2,none⟩=some (.int .i64 y2):=by rw [cell_of_row _ _ 2 _ _ _ k1]; rfl
     have r3:w1.cell? ⟨w.heap.size+1,3,none⟩=some (.int .i64 y3):=by rw [cell_of_row _ _ 3 _ _ _ k1]; rfl
     have r4:w1.cell? ⟨w.heap.size+1,4,none⟩=some (.int .i64 y4):=by rw [cell_of_row _ _ 4 _ _ _ k1]; rfl
     have r5:w1.cell? ⟨w.heap.size+1,5,none⟩=some (.int .i64 y5):=by rw [cell_of_row _ _ 5 _ _ _ k1]; rfl
     have r6:w1.cell? ⟨w.heap.size+1,6,none⟩=some (.int .i64 y6):=by rw [cell_of_row _ _ 6 _ _ _ k1]; rfl
     have bz:Below w.heap.size w w1:=bw
     obtain ⟨_,_,_,_,_,_,_,e7⟩:=(hxc.out.keep bw).all8
     go_wp2
     go_quiet (fail)
     go_wp2
     go_quiet (fail)
     go_wp2
     go_ret
     exact ⟨ret_int (mvErr_4 hx.out hE.out hn.out h3.out q.out).symm,below_drewN (below_drewN bz _) _⟩
    ·have q1':decide (y7 < 0)=false:=decide_eq_false q1
     by_cases q2:(ss.length:Int)≤y7
     ·have q2':decide ((ss.length:Int)≤y7)=true:=decide_eq_true q2
      have q:=Lib.hid (show y7 < 0∨(ss.length:Int)≤y7 from .inr q2)
      clear q1 q2
      go_enter Tryz.func73, Tryz.ntmps73
      go_wp2_with fail
      refine (HC.out _).mono ?_; rintro e w1 ⟨rfl,hb1⟩
      have k0:=(hb1.block _ (by simp; omega)).trans hs0.out
      have k1:=(hb1.block _ (by simp)).trans hs1.out
      have bw:=bt hb2 hb1 hb2.size
      clear c0 c1 c2 c3 c4 c5 c6 hs0 hs1
      have d0:w1.cell? ⟨w.heap.size,0,none⟩=some (.int .i64 n):=by rw [cell_of_row _ _ 0 _ _ _ k0]; rfl
      have d1:w1.cell? ⟨w.heap.size,1,none⟩=some (.slice sa ss.length sc):=by rw [cell_of_row _ _ 1 _ _ _ k0]; rfl
      have r0:w1.cell? ⟨w.heap.size+1,0,none⟩=some (.int .i64 y0):=by rw [cell_of_row _ _ 0 _ _ _ k1]; rfl
      have r1:w1.cell? ⟨w.heap.size+1,1,none⟩=some (.int .i64 y1):=by rw [cell_of_row _ _ 1 _ _ _ k1]; rfl
      have r2:w1.cell? ⟨w.heap.size+1,2,none⟩=some (.int .i64 y2):=by rw [cell_of_row _ _ 2 _ _ _ k1]; rfl
      have r3:w1.cell? ⟨w.heap.size+1,3,none⟩=some (.int .i64 y3):=by rw [cell_of_row _ _ 3 _ _ _ k1]; rfl
      have r4:w1.cell? ⟨w.heap.size+1,4,none⟩=some (.int .i64 y4):=by rw [cell_of_row _ _ 4 _ _ _ k1]; rfl
      have r5:w1.cell? ⟨w.heap.size+1,5,none⟩=some (.int .i64 y5):=by rw [cell_of_row _ _ 5 _ _ _ k1]; rfl
      have r6:w1.cell? ⟨w.heap.size+1,6,none⟩=some (.int .i64 y6):=by rw [cell_of_row _ _ 6 _ _ _ k1]; rfl
      have bz:Below w.heap.size w w1:=bw
      obtain ⟨_,_,_,_,_,_,_,e7⟩:=(hxc.out.keep bw).all8
      go_wp2
      go_quiet (fail)
      go_wp2
      go_quiet (fail)
      go_wp2
      go_ret
      exact ⟨ret_int (mvErr_4 hx.out hE.out hn.out h3.out q.out).symm,below_drewN (below_drewN bz _) _⟩
     ·have q2':decide ((ss.length:Int)≤y7)=false:=decide_eq_false q2
      have q:=Lib.hid (show ¬ (y7 < 0∨(ss.length:Int)≤y7) by omega)
      clear q1 q2
      go_enter Tryz.func73, Tryz.ntmps73
      go_wp2_with fail
      refine (HC.out _).mono ?_; rintro e w1 ⟨rfl,hb1⟩
      have k0:=(hb1.block _ (by simp; omega)).trans hs0.out
      have k1:=(hb1.block _ (by simp)).trans hs1.out
      have bw:=bt hb2 hb1 hb2.size
      clear c0 c1 c2 c3 c4 c5 c6 hs0 hs1
      have d0:w1.cell? ⟨w.heap.size,0,none⟩=some (.int .i64 n):=by rw [cell_of_row _ _ 0 _ _ _ k0]; rfl
      have d1:w1.cell? ⟨w.heap.size,1,none⟩=some (.slice sa ss.length sc):=by rw [cell_of_row _ _ 1 _ _ _ k0]; rfl
      have r0:w1.cell? ⟨w.heap.size+1,0,none⟩=some (.int .i64 y0):=by rw [cell_of_row _ _ 0 _ _ _ k1]; rfl
      have r1:w1.cell? ⟨w.heap.size+1,1,none⟩=some (.int .i64 y1):=by rw [cell_of_row _ _ 1 _ _ _ k1]; rfl
      have r2:w1.cell? ⟨w.heap.size+1,2,none⟩=some (.int .i64 y2):=by rw [cell_of_row _ _ 2 _ _ _ k1]; rfl
      have r3:w1.cell? ⟨w.heap.size+1,3,none⟩=some (.int .i64 y3):=by rw [cell_of_row _ _ 3 _ _ _ k1]; rfl
      have r4:w1.cell? ⟨w.heap.size+1,4,none⟩=some (.int .i64 y4):=by rw [cell_of_row _ _ 4 _ _ _ k1]; rfl
      have r5:w1.cell? ⟨w.heap.size+1,5,none⟩=some (.int .i64 y5):=by rw [cell_of_row _ _ 5 _ _ _ k1]; rfl
      have r6:w1.cell? ⟨w.heap.size+1,6,none⟩=some (.int .i64 y6):=by rw [cell_of_row _ _ 6 _ _ _ k1]; rfl
      have bz:Below w.heap.size w w1:=bw
      obtain ⟨_,_,_,_,_,_,_,e7⟩:=(hxc.out.keep bw).all8
      go_wp2
      go_quiet (fail)
      go_wp2
      go_quiet (fail)
      go_wp2
      go_ret
      exact ⟨ret_int (mvErr_5 hx.out hE.out hn.out h3.out (by have:=q.out; show ¬ (y7 < 0∨(ss.length:Int)≤y7); omega)).symm,below_drewN (below_drewN bz _) _⟩
  ·have hn':(y0 != n)=true:=by simpa using hn
   replace hn:=Lib.hid hn
   go_enter Tryz.func73, Tryz.ntmps73
   go_wp2_with fail
   refine (HC.out _).mono ?_; rintro e w1 ⟨rfl,hb1⟩
   have k0:=(hb1.block _ (by simp; omega)).trans hs0.out
   have k1:=(hb1.block _ (by simp)).trans hs1.out
   have bw:=bt hb2 hb1 hb2.size
   clear c0 c1 c2 c3 c4 c5 c6 hs0 hs1
   have d0:w1.cell? ⟨w.heap.size,0,none⟩=some (.int .i64 n):=by rw [cell_of_row _ _ 0 _ _ _ k0]; rfl
   have d1:w1.cell? ⟨w.heap.size,1,none⟩=some (.slice sa ss.length sc):=by rw [cell_of_row _ _ 1 _ _ _ k0]; rfl
   have r0:w1.cell? ⟨w.heap.size+1,0,none⟩=some (.int .i64 y0):=by rw [cell_of_row _ _ 0 _ _ _ k1]; rfl
   have r1:w1.cell? ⟨w.heap.size+1,1,none⟩=some (.int .i64 y1):=by rw [cell_of_row _ _ 1 _ _ _ k1]; rfl
   have r2:w1.cell? ⟨w.heap.size+1,2,none⟩=some (.int .i64 y2):=by rw [cell_of_row _ _ 2 _ _ _ k1]; rfl
   have r3:w1.cell? ⟨w.heap.size+1,3,none⟩=some (.int .i64 y3):=by rw [cell_of_row _ _ 3 _ _ _ k1]; rfl
   have r4:w1.cell? ⟨w.heap.size+1,4,none⟩=some (.int .i64 y4):=by rw [cell_of_row _ _ 4 _ _ _ k1]; rfl
   have r5:w1.cell? ⟨w.heap.size+1,5,none⟩=some (.int .i64 y5):=by rw [cell_of_row _ _ 5 _ _ _ k1]; rfl
   have r6:w1.cell? ⟨w.heap.size+1,6,none⟩=some (.int .i64 y6):=by rw [cell_of_row _ _ 6 _ _ _ k1]; rfl
   go_wp2
   go_ret
   exact ⟨ret_int (mvErr_2 hx.out hE.out hn.out).symm,bw⟩
 ·have hz':(E != 0)=true:=by simpa using hz
  replace hz:=Lib.hid hz
  go_enter Tryz.func73, Tryz.ntmps73
  go_wp2_with fail
  refine (HC.out _).mono ?_; rintro e w1 ⟨rfl,hb1⟩
  have k0:=(hb1.block _ (by simp; omega)).trans hs0.out
  have k1:=(hb1.block _ (by simp)).trans hs1.out
  have bw:=bt hb2 hb1 hb2.size
  clear c0 c1 c2 c3 c4 c5 c6 hs0 hs1
  have d0:w1.cell? ⟨w.heap.size,0,none⟩=some (.int .i64 n):=by rw [cell_of_row _ _ 0 _ _ _ k0]; rfl
  have d1:w1.cell? ⟨w.heap.size,1,none⟩=some (.slice sa ss.length sc):=by rw [cell_of_row _ _ 1 _ _ _ k0]; rfl
  have r0:w1.cell? ⟨w.heap.size+1,0,none⟩=some (.int .i64 y0):=by rw [cell_of_row _ _ 0 _ _ _ k1]; rfl
  have r1:w1.cell? ⟨w.heap.size+1,1,none⟩=some (.int .i64 y1):=by rw [cell_of_row _ _ 1 _ _ _ k1]; rfl
  have r2:w1.cell? ⟨w.heap.size+1,2,none⟩=some (.int .i64 y2):=by rw [cell_of_row _ _ 2 _ _ _ k1]; rfl
  have r3:w1.cell? ⟨w.heap.size+1,3,none⟩=some (.int .i64 y3):=by rw [cell_of_row _ _ 3 _ _ _ k1]; rfl
  have r4:w1.cell? ⟨w.heap.size+1,4,none⟩=some (.int .i64 y4):=by rw [cell_of_row _ _ 4 _ _ _ k1]; rfl
  have r5:w1.cell? ⟨w.heap.size+1,5,none⟩=some (.int .i64 y5):=by rw [cell_of_row _ _ 5 _ _ _ k1]; rfl
  have r6:w1.cell? ⟨w.heap.size+1,6,none⟩=some (.int .i64 y6):=by rw [cell_of_row _ _ 6 _ _ _ k1]; rfl
  go_wp2
  go_ret
  exact ⟨ret_int (by rw [mvErr_1 hx.out (by rw [show ([y0,y1,y2,y3,y4,y5,y6,y7]:List Int).take 7 = [y0,y1,y2,y3,y4,y5,y6] from rfl,hE.out]; exact hz.out)]; exact hE.out.symm),bw⟩
end Go.Proofs.YtmikofeildnpdaaGreat

/- Adversaries: grows of the reference. -/
namespace Go.Proofs.YtmikofeildnpdaaGreat
open Go.RowKit
def MvOK (len:Nat) (m:List Int):Prop:=m.length=8∧(0≤m.getD 6 0∧m.getD 6 0≤31)∧0≤m.getD 7 0∧m.getD 7 0 < (len:Int)
def StOK (ss:List (List (List Int))):Prop:=∀ s∈ss,∀ m∈s,MvOK ss.length m
def gr3 (f:Int) (ks:List (List Int)):Bool:=ks.all fun k=>insideB f (k.getD 6 0)
def gr2 (ss:List (List (List Int))) (ms:List (List Int)):Bool:=ms.all fun m=>gr3 (m.getD 6 0) (ss.getD (m.getD 7 0).toNat [])
def growsB (ss:List (List (List Int))):Bool:=ss.all (gr2 ss)
theorem all_step {α:Type} {f:α→Bool} {l:List α} {k:Nat} (h:k < l.length) {d x:α} (hx:l.getD k d=x):(l.drop k).all f=(f x && (l.drop (k+1)).all f):=by rw [drop_cons h d,List.all_cons,hx]
theorem all_end {α:Type} {f:α→Bool} {l:List α} {k:Nat} (h : ¬ k < l.length):(l.drop k).all f=true:=by rw [List.drop_eq_nil_of_le (by omega)]; rfl
theorem box_cell {w:World} {b j:Nat} {cs:Array Value} {t:TypeId} {v:Value} (h:w.heap[b]? = some (.cells cs t)) (hj:cs[j]? = some v):w.cell? ⟨b,j,none⟩=some v:=by rw [cell_of_row _ _ j _ _ _ h]; exact hj
theorem refGrows {w:World} {v:Value} {n:Int} {ss:List (List (List Int))} (hA:AdvV w v n ss) (hl:ss.length≤256) (hO:StOK ss):Calls Tryz.prog 74 #[v] w fun e w'=>e = .returned (.bool (growsB ss))∧Below w.heap.size w w':=by
 obtain ⟨sv,rfl,sa,sc,sb,so,rfl,hsa,hsc,_⟩:=hA
 have hb:=(Below.refl w.heap.size w).alloc (Nat.le_refl _) (.cells #[.int .i64 n,.slice sa ss.length sc] 24)
 have k0:=heap_alloc_new w (.cells #[.int .i64 n,.slice sa ss.length sc] 24)
 replace hsc:=hsc.keep hb
 obtain ⟨W1,hW1⟩:=exF (w.alloc (.cells #[.int .i64 n,.slice sa ss.length sc] 24))
 obtain ⟨b0,hb0⟩:=exF (w.heap.size)
 rw [← hW1] at hb k0 hsc
 rw [← hb0] at k0
 have hb0s:=(Array.getElem?_eq_some_iff.1 k0).1
 replace hW1:=Lib.hid hW1
 replace hb0:=Lib.hid hb0
 obtain ⟨E,hE⟩:=exE (growsB ss)
 rw [hE]
 have hE0:=Lib.hid (show (ss.drop 0).all (gr2 ss)=E by rw [List.drop_zero]; exact hE)
 replace hO:=Lib.hid hO
 clear hE
 go_enter Tryz.func74, Tryz.ntmps74
 go_wp2
 rw [← hW1.out,← hb0.out]
 clear hW1 hb0
 go_loopw [3] (fun sv wr=>∃ s:Nat,s≤ss.length∧sv = .int .i64 s∧Hid ((ss.drop s).all (gr2 ss)=E)∧Below W1.heap.size W1 wr) (fun sv _=>ss.length - (intOf sv).toNat)
 case atStart=>exact ⟨0,by omega,rfl,hE0,Below.refl _ _⟩
 case round=>
  clear hE0
  obtain ⟨s,hs,rfl,hg,hbr⟩:=hrel
  have k1:=(hbr.block b0 hb0s).trans k0
  have d1:wr.cell? ⟨b0,1,none⟩=some (.slice sa ss.length sc):=box_cell k1 rfl
  by_cases hlt:s < ss.length
  ·obtain rfl:=hsa (by omega)
   obtain ⟨ms,hms⟩:=exE (ss.getD s [])
   have hmem:ms∈ss:=by rw [← hms,getD_eq hlt]; exact List.getElem_mem hlt
   have hms':=hms
   obtain ⟨u,hcu,hu⟩:=hsc s hlt
   rw [hms] at hu
   have hst:=Lib.hid (all_step (f:=gr2 ss) hlt hms)
   have hOm:=Lib.hid (hO.out ms hmem)
   clear hms hmem hms'
   obtain ⟨ma,mc,mb,mo,rfl,hma,hmc,hml⟩:=hu
   have hgm:Hid (((ms.drop 0).all (fun m=>gr3 (m.getD 6 0) (ss.getD (m.getD 7 0).toNat [])) && (ss.drop (s+1)).all (gr2 ss))=E):=by
    show _=E; rw [List.drop_zero,← hg.out,hst.out]; rfl
   clear hg hst
   go_wp2
   clear d1 k1
   go_loopw [4] (fun iv wr=>∃ i:Nat,i≤ms.length∧iv = .int .i64 i∧Hid (((ms.drop i).all (fun m=>gr3 (m.getD 6 0) (ss.getD (m.getD 7 0).toNat [])) && (ss.drop (s+1)).all (gr2 ss))=E)∧Below W1.heap.size W1 wr) (fun iv _=>ms.length - (intOf iv).toNat)
   case atStart=>exact ⟨0,by omega,rfl,hgm,hbr⟩
   case round=>
    clear hgm hbr
    obtain ⟨i,hi,rfl,hg,hbr⟩:=hrel
    have k1:=(hbr.block b0 hb0s).trans k0
    have d1:wr.cell? ⟨b0,1,none⟩=some (.slice (some ⟨sb,so,none⟩) ss.length sc):=box_cell k1 rfl
    have hcu1:=cell_kept hbr hcu
    by_cases hlti:i < ms.length
    ·obtain rfl:=hma (by omega)
     obtain ⟨hx8,hxc⟩:=hmc i hlti
     obtain ⟨x,hx⟩:=exE (ms.getD i [])
     have hxm:x∈ms:=by rw [← hx,getD_eq hlti]; exact List.getElem_mem hlti
     have hxO:=hOm.out x hxm
     rw [hx] at hx8 hxc
     have hst:=Lib.hid (all_step (f:=fun m=>gr3 (m.getD 6 0) (ss.getD (m.getD 7 0).toNat [])) hlti hx)
     obtain ⟨y0,y1,y2,y3,y4,y5,y6,y7,rfl⟩:=eight hx8
     obtain ⟨_,⟨f0,f31⟩,t0,tl⟩:=hxO
     have f0:0≤y6:=f0
     have f31:y6≤31:=f31
     have t0:0≤y7:=t0
     have tl:y7 < (ss.length:Int):=tl
     obtain ⟨t,rfl⟩:∃ t:Nat,y7=t:=⟨y7.toNat,by omega⟩
     have htl:t < ss.length:=by omega
     obtain ⟨c0,c1,c2,c3,c4,c5,c6,c7⟩:=(hxc.keep hbr).all8
     obtain ⟨ks,hks⟩:=exE (ss.getD t [])
     obtain ⟨u2,hcu2,hu2⟩:=hsc t htl
     rw [hks] at hu2
     have hkO:=Lib.hid (hO.out ks (by rw [← hks,getD_eq htl]; exact List.getElem_mem htl))
     have hgk:Hid (((ks.drop 0).all (fun k=>insideB y6 (k.getD 6 0)) && ((ms.drop (i+1)).all (fun m=>gr3 (m.getD 6 0) (ss.getD (m.getD 7 0).toNat [])) && (ss.drop (s+1)).all (gr2 ss)))=E):=by
      show _=E; rw [← hg.out,hst.out,← Bool.and_assoc,List.drop_zero]
      show _=(gr3 y6 (ss.getD ((t:Int)).toNat []) && _ && _)
      rw [Int.toNat_natCast,hks]; rfl
     clear hg hst hks hx hxm hx8 hxc
     obtain ⟨ka,kc,kb,ko,rfl,hka,hkc,hkl⟩:=hu2
     have hbx:=hbr.alloc hbr.size (.cells #[.int .i64 y0,.int .i64 y1,.int .i64 y2,.int .i64 y3,.int .i64 y4,.int .i64 y5,.int .i64 y6,.int .i64 t] 100)
     have kx:=heap_alloc_new wr (.cells #[.int .i64 y0,.int .i64 y1,.int .i64 y2,.int .i64 y3,.int .i64 y4,.int .i64 y5,.int .i64 y6,.int .i64 t] 100)
     obtain ⟨W2,hW2⟩:=exF (wr.alloc (.cells #[.int .i64 y0,.int .i64 y1,.int .i64 y2,.int .i64 y3,.int .i64 y4,.int .i64 y5,.int .i64 y6,.int .i64 t] 100))
     obtain ⟨bx,hbxe⟩:=exF (wr.heap.size)
     rw [← hW2] at hbx kx
     rw [← hbxe] at kx
     have hbxs:=(Array.getElem?_eq_some_iff.1 kx).1
     replace hW2:=Lib.hid hW2; replace hbxe:=Lib.hid hbxe
     clear hbr
     go_wp2
     rw [← hW2.out,← hbxe.out]
     clear hW2 hbxe c0 c1 c2 c3 c4 c5 c6 c7 d1 k1 hcu1
     go_loopw [6] (fun kv wr=>∃ k:Nat,k≤ks.length∧kv = .int .i64 k∧Hid (((ks.drop k).all (fun k=>insideB y6 (k.getD 6 0)) && ((ms.drop (i+1)).all (fun m=>gr3 (m.getD 6 0) (ss.getD (m.getD 7 0).toNat [])) && (ss.drop (s+1)).all (gr2 ss)))=E)∧∃ q,wr=W2.drewN q) (fun kv _=>ks.length - (intOf kv).toNat)
     case atStart=>exact ⟨0,by omega,rfl,hgk,0,rfl⟩
     case round=>
      clear hgk
      obtain ⟨k,hk,rfl,hg,q,rfl⟩:=hrel
      have hbq:=below_drewN hbx q
      have k1:=(hbx.block b0 hb0s).trans k0
      have d1:W2.cell? ⟨b0,1,none⟩=some (.slice (some ⟨sb,so,none⟩) ss.length sc):=box_cell k1 rfl
      have kx1:W2.heap[bx]? = some (.cells #[.int .i64 y0,.int .i64 y1,.int .i64 y2,.int .i64 y3,.int .i64 y4,.int .i64 y5,.int .i64 y6,.int .i64 t] 100):=kx
      have x6:W2.cell? ⟨bx,6,none⟩=some (.int .i64 y6):=box_cell kx1 rfl
      have x7:W2.cell? ⟨bx,7,none⟩=some (.int .i64 t):=box_cell kx1 rfl
      have hcu3:=cell_kept hbx hcu2
      by_cases hltk:k < ks.length
      ·obtain rfl:=hka (by omega)
       obtain ⟨hz8,hzc⟩:=hkc k hltk
       obtain ⟨z,hz⟩:=exE (ks.getD k [])
       have hzO:=hkO.out z (by rw [← hz,getD_eq hltk]; exact List.getElem_mem hltk)
       rw [hz] at hz8 hzc
       have hst:=Lib.hid (all_step (f:=fun k=>insideB y6 (k.getD 6 0)) hltk hz)
       obtain ⟨z0,z1,z2,z3,z4,z5,z6,z7,rfl⟩:=eight hz8
       obtain ⟨_,⟨g0,g31⟩,_⟩:=hzO
       have g0:0≤z6:=g0
       have g31:z6≤31:=g31
       obtain ⟨_,_,_,_,_,_,e6,_⟩:=(hzc.keep hbx).all8
       have HI:=fun W=>refInside y6 z6 W f0 (by omega) g0 (by omega)
       clear hz hz8 hzc hka hkc
       by_cases hin:insideB y6 z6=true
       ·simp only [hin] at HI
        have HQ:=Lib.hid (fun W=>(HI W).mono fun _ _ (h:_∧_)=>(⟨h.1,0,h.2.symm⟩:_∧Qt _ _))
        clear HI
        replace hin:=Lib.hid hin
        go_wp2
        go_quiet ((go_at_call 90; exact quietOn (HQ.out _)))
        go_wp2
        go_roundw
        case rel=>exact ⟨k+1,by omega,by go_num,by show _=E; rw [← hg.out,hst.out]; show _=(insideB y6 z6 && _ && _); rw [hin.out,Bool.true_and],_,rfl⟩
        case measure=>simp [intOf]; omega
       ·replace hin:=eq_false_of_ne_true hin
        simp only [hin] at HI
        have HQ:=Lib.hid (fun W=>(HI W).mono fun _ _ (h:_∧_)=>(⟨h.1,0,h.2.symm⟩:_∧Qt _ _))
        clear HI
        replace hin:=Lib.hid hin
        go_wp2
        go_quiet ((go_at_call 90; exact quietOn (HQ.out _)))
        go_wp2
        go_ret
        exact ⟨ret_bool (by rw [← hg.out,hst.out]; show _=(insideB y6 z6 && _ && _); rw [hin.out,Bool.false_and,Bool.false_and]),below_drewN (below_drewN (bt hb hbx hb.size) _) _⟩
      ·obtain rfl:k=ks.length:=by omega
       have hen:=Lib.hid (all_end (f:=fun k=>insideB y6 (k.getD 6 0)) hltk)
       clear hka hkc
       go_wp2
       go_roundw
       case rel=>exact ⟨i+1,by omega,by go_num,by show _=E; rw [← hg.out,hen.out,Bool.true_and],hbq⟩
       case measure=>simp [intOf]; omega
    ·obtain rfl:i=ms.length:=by omega
     have hen:=Lib.hid (all_end (f:=fun m=>gr3 (m.getD 6 0) (ss.getD (m.getD 7 0).toNat [])) hlti)
     clear hma hmc
     go_wp2
     go_roundw
     case rel=>exact ⟨s+1,by omega,by go_num,by show _=E; rw [← hg.out,hen.out,Bool.true_and],hbr⟩
     case measure=>simp [intOf]; omega
  ·obtain rfl:s=ss.length:=by omega
   have hen:=Lib.hid (all_end (f:=gr2 ss) hlt)
   clear hsa hsc
   go_wp2
   go_ret
   exact ⟨ret_bool (by rw [← hg.out,hen.out]),bt hb hbr hb.size⟩
end Go.Proofs.YtmikofeildnpdaaGreat

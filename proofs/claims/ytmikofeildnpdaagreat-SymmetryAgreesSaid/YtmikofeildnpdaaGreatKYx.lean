/- Texts of this claim, put together: IT. -/
import Derived.Test.YtmikofeildnpdaaGreatKYw
import Derived.Test.YtmikofeildnpdaaGreatKYr
import Derived.Sort.LoopGhostIn
import Derived.Deep.LoopGhost
import Derived.OwnWalkIn
import Derived.TacticsInMore
import Derived.LoopNIn
import Derived.LoopIn

set_option maxRecDepth 100000
set_option maxHeartbeats 12800000
/- inclusion.steps: its iterator. -/
namespace Go.Proofs.YtmikofeildnpdaaGreat
open Go.RowKit
attribute [local go_sem] Oper.semAt_some
abbrev Stp:=List Int × Int × Int
def stpIn (k:List (List Int)→List Stp) (m:List Int):List (List Int)→List Stp
 | []=>(rdOf m,m.getD 7 0,-1)::k []
 | m'::ys=>if cmpL (rdOf m) (rdOf m') < 0 then (rdOf m,m.getD 7 0,-1)::k (m'::ys) else if cmpL (rdOf m) (rdOf m')=0 then (rdOf m',m.getD 7 0,m'.getD 7 0)::k ys else (rdOf m',-1,m'.getD 7 0)::stpIn k m ys
def stp:List (List Int)→List (List Int)→List Stp
 | [],ys=>ys.map fun m'=>(rdOf m',-1,m'.getD 7 0)
 | m::xs,ys=>stpIn (stp xs) m ys
theorem stp_nil (m':List Int) (ys:List (List Int)):stp [] (m'::ys)=(rdOf m',-1,m'.getD 7 0)::stp [] ys:=rfl
theorem stp_cons (m:List Int) (xs:List (List Int)):stp (m::xs) []=(rdOf m,m.getD 7 0,-1)::stp xs []:=rfl
theorem stp_lt {m m':List Int} {xs ys:List (List Int)} (h:cmpL (rdOf m) (rdOf m') < 0):stp (m::xs) (m'::ys)=(rdOf m,m.getD 7 0,-1)::stp xs (m'::ys):=by rw [stp,stpIn,if_pos h]
theorem stp_eq {m m':List Int} {xs ys:List (List Int)} (h:cmpL (rdOf m) (rdOf m')=0):stp (m::xs) (m'::ys)=(rdOf m',m.getD 7 0,m'.getD 7 0)::stp xs ys:=by rw [stp,stpIn,if_neg (by omega),if_pos h]
theorem stp_gt {m m':List Int} {xs ys:List (List Int)} (h:0 < cmpL (rdOf m) (rdOf m')):stp (m::xs) (m'::ys)=(rdOf m',-1,m'.getD 7 0)::stp (m::xs) ys:=by rw [stp,stpIn,if_neg (by omega),if_neg (by omega)]; rfl
theorem stp_len:∀ {xs ys:List (List Int)} {x:Stp},(∀ m∈xs,m.length=8)→(∀ m∈ys,m.length=8)→x∈stp xs ys→x.1.length=7
 | [],ys,x,_,hy,h=>by
  obtain ⟨m,hm,rfl⟩:=List.mem_map.1 h
  show (m.take 7).length=7
  rw [List.length_take,hy m hm]; rfl
 | m::xs,ys,x,hx,hy,h=>by
  have hm:(rdOf m).length=7:=by rw [rdOf,List.length_take,hx m (by simp)]; rfl
  have go:∀ ys,(∀ m∈ys,m.length=8)→x∈stpIn (stp xs) m ys→x.1.length=7:=by
   intro ys
   induction ys with
   | nil=>
    intro hy h
    rw [stpIn] at h
    rcases List.mem_cons.1 h with rfl | h
    ·exact hm
    ·exact stp_len (fun z hz=>hx z (by simp [hz])) hy h
   | cons m' ys ih=>
    intro hy h
    have hm':(rdOf m').length=7:=by rw [rdOf,List.length_take,hy m' (by simp)]; rfl
    rw [stpIn] at h
    split at h
    ·rcases List.mem_cons.1 h with rfl | h
     ·exact hm
     ·exact stp_len (fun z hz=>hx z (by simp [hz])) hy h
    ·split at h
     ·rcases List.mem_cons.1 h with rfl | h
      ·exact hm'
      ·exact stp_len (fun z hz=>hx z (by simp [hz])) (fun z hz=>hy z (by simp [hz])) h
     ·rcases List.mem_cons.1 h with rfl | h
      ·exact hm'
      ·exact ih (fun z hz=>hy z (by simp [hz])) h
  exact go ys hy h
def spEnc (x:Stp):Array Value:=#[.agg ((x.1 ++ [x.2.1,x.2.2]).map (Value.int .i64)).toArray]
def spR (L pre:List Stp) (x:Stp) (_:World):Prop:=∃ r,pre++x::r=L
theorem stepsC {w:World} {xa ya:Option Addr} {xn xc yn yc:Nat} :
  Calls Tryz.prog 123 #[.slice xa xn xc,.slice ya yn yc] w fun e w'=>e = .returned (.func (.func 176) #[] #[.pointer (some ⟨w.heap.size,0,none⟩),.pointer (some ⟨w.heap.size+1,0,none⟩)])∧w'=(w.alloc (.cells #[.slice xa xn xc] 98)).alloc (.cells #[.slice ya yn yc] 98):=by
 go_enter Tryz.func123, Tryz.ntmps123
 go_wp2
 go_ret
 exact ⟨rfl,rfl⟩
theorem KSC.nl {w:World} {v:Value} (h:KSC 8 w v []):∃ a c,v = .slice a 0 c:=by
 obtain ⟨a,c,_,_,h1,_⟩:=h; exact ⟨a,c,h1⟩
theorem KSC.hd8 {w:World} {v:Value} {x:List Int} {xs:List (List Int)} (h:KSC 8 w v (x::xs)):∃ b off c x0 x1 x2 x3 x4 x5 x6 x7,v = .slice (some ⟨b,off,none⟩) (xs.length+1) c∧x = [x0,x1,x2,x3,x4,x5,x6,x7]∧xs.length+1≤c∧
  (w.cell? ⟨b,off,none⟩=some (.int .i64 x0)∧w.cell? ⟨b,off+1,none⟩=some (.int .i64 x1)∧w.cell? ⟨b,off+2,none⟩=some (.int .i64 x2)∧w.cell? ⟨b,off+3,none⟩=some (.int .i64 x3)∧
  w.cell? ⟨b,off+4,none⟩=some (.int .i64 x4)∧w.cell? ⟨b,off+5,none⟩=some (.int .i64 x5)∧w.cell? ⟨b,off+6,none⟩=some (.int .i64 x6)∧w.cell? ⟨b,off+7,none⟩=some (.int .i64 x7))∧
  ∃ tp:Option Addr,(if c=1 then some (⟨b,off,none⟩:Addr) else some ⟨b,off+8,none⟩)=tp∧KSC 8 w (.slice tp (xs.length+1 - 1) (c - 1)) xs:=by
 have h':=h
 obtain ⟨a,c,b,off,rfl,h2,h3,_,h5⟩:=h
 obtain rfl:=h2 (by simp)
 obtain ⟨h8,hi⟩:=h3 0 (by simp)
 rw [List.getD_cons_zero] at h8 hi
 rw [Nat.zero_mul,Nat.add_zero] at hi
 obtain ⟨x0,x1,x2,x3,x4,x5,x6,x7,rfl⟩:=eight h8
 obtain ⟨c0,c1,c2,c3,c4,c5,c6,c7⟩:=hi.all8
 exact ⟨b,off,c,x0,x1,x2,x3,x4,x5,x6,x7,rfl,rfl,by simpa using h5,⟨c0,c1,c2,c3,c4,c5,c6,c7⟩,_,rfl,h'.tl⟩
theorem Only.cells8 {D:Nat→Prop} {A B:World} (h:Only D A B) {b off:Nat} (hb : ¬ D b) {x0 x1 x2 x3 x4 x5 x6 x7:Int} (q:A.cell? ⟨b,off,none⟩=some (.int .i64 x0)∧A.cell? ⟨b,off+1,none⟩=some (.int .i64 x1)∧A.cell? ⟨b,off+2,none⟩=some (.int .i64 x2)∧A.cell? ⟨b,off+3,none⟩=some (.int .i64 x3)∧
  A.cell? ⟨b,off+4,none⟩=some (.int .i64 x4)∧A.cell? ⟨b,off+5,none⟩=some (.int .i64 x5)∧A.cell? ⟨b,off+6,none⟩=some (.int .i64 x6)∧A.cell? ⟨b,off+7,none⟩=some (.int .i64 x7)) :
  B.cell? ⟨b,off,none⟩=some (.int .i64 x0)∧B.cell? ⟨b,off+1,none⟩=some (.int .i64 x1)∧B.cell? ⟨b,off+2,none⟩=some (.int .i64 x2)∧B.cell? ⟨b,off+3,none⟩=some (.int .i64 x3)∧
  B.cell? ⟨b,off+4,none⟩=some (.int .i64 x4)∧B.cell? ⟨b,off+5,none⟩=some (.int .i64 x5)∧B.cell? ⟨b,off+6,none⟩=some (.int .i64 x6)∧B.cell? ⟨b,off+7,none⟩=some (.int .i64 x7):=by
 obtain ⟨q0,q1,q2,q3,q4,q5,q6,q7⟩:=q
 exact ⟨h.cell (p:=⟨b,_,none⟩) hb q0,h.cell (p:=⟨b,_,none⟩) hb q1,h.cell (p:=⟨b,_,none⟩) hb q2,h.cell (p:=⟨b,_,none⟩) hb q3,h.cell (p:=⟨b,_,none⟩) hb q4,h.cell (p:=⟨b,_,none⟩) hb q5,h.cell (p:=⟨b,_,none⟩) hb q6,h.cell (p:=⟨b,_,none⟩) hb q7⟩
theorem stepsSeq {wz w0:World} {bx by':Nat} {vx vy:Value} {xs ys:List (List Int)} (hz:Below wz.heap.size wz w0) (hx:KSC 8 wz vx xs) (hy:KSC 8 wz vy ys) (k1:w0.heap[bx]? = some (.cells #[vx] 98)) (k2:w0.heap[by']? = some (.cells #[vy] 98)) (g1:wz.heap.size≤bx) (g2:wz.heap.size≤by') (hne:bx ≠ by') (hl:xs.length+ys.length≤100000) :
  SeqOS Tryz.prog 176 #[.pointer (some ⟨bx,0,none⟩),.pointer (some ⟨by',0,none⟩)] spEnc (spR (stp xs ys)) (fun l=>l=stp xs ys) (fun _=>True) 1000000 (fun k=>k < wz.heap.size) (fun k=>k=bx∨k=by') w0:=by
 intro l J Jx D W hB hD hDC hJ hJx hY h0
 have hAn:∀ k,k < wz.heap.size→¬ (D k∨k=bx∨k=by'):=fun k hk h=>by
  rcases h with h | h | h
  ·exact (hDC k h).1 hk
  ·omega
  ·omega
 have hDx : ¬ D bx:=fun h=>(hDC _ h).2 (.inl rfl)
 have hDy : ¬ D by':=fun h=>(hDC _ h).2 (.inr rfl)
 have hbl1:=(Array.getElem?_eq_some_iff.1 k1).1
 have hbl2:=(Array.getElem?_eq_some_iff.1 k2).1
 replace k1:=(hB.block bx hbl1).trans k1
 replace k2:=(hB.block by' hbl2).trans k2
 have hzW:Below wz.heap.size wz W:=bt hz hB hz.size
 have hs0:=hB.size
 replace hJ:=Lib.hid hJ
 replace hJx:=Lib.hid hJx
 replace hY:=Lib.hid hY
 show CallsIn Fence.wide 0 Tryz.prog 176 #[.func (.yield l) #[] #[],.pointer (some ⟨bx,0,none⟩),.pointer (some ⟨by',0,none⟩)] W _
 refine callsIn_of_wp Tryz.func176 rfl trivial ?_
 simp only [Tryz.ntmps176,List.size_toArray,List.length_cons,List.length_nil,Nat.reduceAdd,Nat.reduceSub,Array.replicate_succ,
   Array.replicate_zero,List.push_toArray,List.append_toArray,List.nil_append,List.cons_append]
 obtain ⟨L,hL⟩:=exE (stp xs ys)
 rw [hL] at hY ⊢
 have hL0:Hid ([]++stp xs ys=L):=by show _=_; rw [List.nil_append]; exact hL
 clear hL
 obtain ⟨N,hN⟩:=exE (xs.length+ys.length)
 have hOn0:Only (fun k=>D k∨k=bx∨k=by') W W:=Only.refl _ _
 have hGr0:Gr D W D:=Gr.refl _ _
 have hxh:=Lib.hid hx
 have hyh:=Lib.hid hy
 replace hN:=Lib.hid hN
 clear hx hy hB hz
 gi_wp2
 gi_loopg [] N (fun f wr=>∃ (pre:List Stp) (D1:Nat→Prop) (vx vy:Value) (xl yl:List (List Int)),J pre D1 wr∧Bd D1 wr∧Only (fun k=>D k∨k=bx∨k=by') W wr∧Gr D W D1∧wr.heap[bx]? = some (.cells #[vx] 98)∧wr.heap[by']? = some (.cells #[vy] 98)∧Hid (KSC 8 wz vx xl)∧Hid (KSC 8 wz vy yl)∧pre.length+f≤100000∧Hid (xl.length+yl.length=f)∧Hid (pre++stp xl yl=L))
 case atStart=>exact ⟨[],D,vx,vy,xs,ys,h0,hD,hOn0,hGr0,k1,k2,hxh,hyh,by have:=hN.out; simp; omega,hN,hL0⟩
 case round=>
  clear h0 hOn0 hGr0 hL0 k1 k2 hxh hyh hN
  obtain ⟨pre,D1,vx,vy,xl,yl,hJk,hBk,hOn,hGr,k1,k2,hx,hy,hpl,hfl,hp⟩:=hrel
  have c1:=cell_of_one k1
  have c2:=cell_of_one k2
  rcases xl with _ | ⟨x,xl⟩
  ·rcases yl with _ | ⟨y,yl⟩
   ·obtain ⟨xa,xc,rfl⟩:=hx.out.nl
    obtain ⟨ya,yc,rfl⟩:=hy.out.nl
    have hpe:Hid (pre=L):=by show _=_; have:=hp.out; simpa [stp] using this
    clear hx hy hp hfl hY
    gi_wp2
    refine bodyPost_end (results_none rfl _ _ _) rfl ?_
    exact ⟨⟨_,rfl⟩,D1,hOn,hGr,hBk,.inl ⟨_,hpe.out,hJk⟩⟩
   ·obtain ⟨xa,xc,rfl⟩:=hx.out.nl
    obtain ⟨nb,no,yc,y0,y1,y2,y3,y4,y5,y6,y7,rfl,rfl,hyc,hr,tq,hjf,hyt⟩:=hy.out.hd8
    have hnz:nb < wz.heap.size:=World.block_lt_of_cell? wz _ hr.1
    have hnD:=hAn nb hnz
    have hrW:=hOn.cells8 hnD (Only.cells8 (D:=fun _=>False) (Only.of_below hzW) (fun h=>h) hr)
    have hm1:(0:Int) < ((yl.length+1:Nat):Int):=by omega
    have hm1n:0 < yl.length+1:=by omega
    replace hyt:=Lib.hid hyt
    replace hjf:=Lib.hid hjf
    clear hy hr
    replace hp:Hid (pre++([y0,y1,y2,y3,y4,y5,y6],-1,y7)::stp [] yl=L):=by have:=hp.out; rw [stp_nil] at this; exact this
    refine wpIn_wide.2 ?_
    go_upto_region 11 with fail
    obtain ⟨WA,hWA⟩:=exF (wr.alloc (.cells #[.int .i64 0,.int .i64 0,.int .i64 0,.int .i64 0,.int .i64 0,.int .i64 0,.int .i64 0,.int .i64 (-1),.int .i64 (-1)] 134))
    have hbA:Below wr.heap.size wr WA:=by rw [hWA]; exact (Below.refl _ wr).alloc (Nat.le_refl _) _
    have kb:WA.heap[wr.heap.size]? = some (stB 0 0 0 0 0 0 0 (-1) (-1)):=by rw [hWA]; exact heap_alloc_new _ _
    have hl1:=(Array.getElem?_eq_some_iff.1 k1).1
    have hl2:=(Array.getElem?_eq_some_iff.1 k2).1
    have j1:=(hbA.block bx hl1).trans k1
    have j2:=(hbA.block by' hl2).trans k2
    have hbn:wr.heap.size ≠ bx:=by omega
    have hbn':wr.heap.size ≠ by':=by omega
    have hS0:Only (fun k=>k=wr.heap.size∨k=bx∨k=by') WA WA:=Only.refl _ _
    rw [← hWA]
    replace hWA:=Lib.hid hWA
    obtain ⟨p0,p1,p2,p3,p4,p5,p6,p7⟩:=(hS0).cells8 (b:=nb) (by have:=hbA.size; have:=hOn.size; omega) (Only.cells8 (D:=fun _=>False) (Only.of_below hbA) (fun h=>h) hrW)
    refine regStep11 (b:=wr.heap.size) (bx:=by') kb j2 hbn' (by omega) p0 p1 p2 p3 p4 p5 p6 p7 hm1n hyc hjf.out ?_
    intro _ _ _ WC ⟨hG1,hG2,hG3⟩ _ _ _
    have kbC:WC.heap[wr.heap.size]? = some (stB y0 y1 y2 y3 y4 y5 y6 (-1) y7):=hG2
    have jC2:WC.heap[by']? = some (.cells #[.slice tq (yl.length+1 - 1) (yc - 1)] 98):=hG3
    have jC1:=(hG1.same bx (by have:=hbA.size; have:=(hS0).size; omega) (fun h=>by rcases h with h | h <;> omega)).trans j1
    have hSC:Only (fun k=>k=wr.heap.size∨k=bx∨k=by') WA WC:=(hS0).trans (hG1.mono fun k h=>h.elim .inl fun h=>.inr (.inr h)) (Gr.refl _ _)
    clear hG1 hG2 hG3 p0 p1 p2 p3 p4 p5 p6 p7
    obtain ⟨⟨z0,z1,z2,z3,z4,z5,z6⟩,z7,z8⟩:=stB.cells kbC
    go_upto_region 12 with fail
    refine (wpIn_wide (n:=0)).1 ?_
    have hnD1x : ¬ D1 bx:=fun h=>(hGr bx h).elim hDx fun h=>by omega
    have hnD1y : ¬ D1 by':=fun h=>(hGr by' h).elim hDy fun h=>by omega
    have hOn2:Only (fun k=>D k∨k=bx∨k=by') W WC:=⟨(hSC).os.trans (hbA.os.trans hOn.os),(hSC).tape.trans (hbA.tape.trans hOn.tape),(hSC).output.trans (hbA.output.trans hOn.output),Nat.le_trans hOn.size (Nat.le_trans hbA.size (hSC).size),fun k hk hn=>((hSC).same k (by have:=hOn.size; have:=hbA.size; omega) (fun h=>h.elim (fun h=>by have:=hOn.size; omega) fun h=>hn (.inr h))).trans ((hbA.block k (by have:=hOn.size; omega)).trans (hOn.same k hk hn))⟩
    have hBk2:Bd D1 WC:=fun k hk=>Nat.lt_of_lt_of_le (hBk k hk) (Nat.le_trans hbA.size (hSC).size)
    have hJk2:=hJ.out _ _ _ WC hJk (Nat.le_trans hbA.size (hSC).size) (fun k hk=>((hSC).same k (by have:=hBk k hk; have:=hbA.size; omega) (fun h=>by rcases h with h | h | h; have:=hBk k hk; omega; exact hnD1x (h ▸ hk); exact hnD1y (h ▸ hk))).trans (hbA.block k (hBk k hk)))
    have hlen:pre.length < 1000000:=by omega
    have hRx:spR L pre ([y0,y1,y2,y3,y4,y5,y6],-1,y7) WC:=⟨_,hp.out⟩
    have hl1:=(Array.getElem?_eq_some_iff.1 jC1).1
    have hl2:=(Array.getElem?_eq_some_iff.1 jC2).1
    obtain ⟨fn,tmps,assign,body,hyy,hR⟩:=hY.out pre ([y0,y1,y2,y3,y4,y5,y6],-1,y7) D1 _ hJk2 hBk2 hOn2 hGr hRx hlen
    simp only [spEnc,List.cons_append,List.nil_append,List.map_cons,List.map_nil] at hyy hR
    replace hR:=Lib.hid hR
    have hj1:=Lib.hid jC1
    have hj2:=Lib.hid jC2
    clear hJk hJk2 hRx hOn hBk k1 k2 j1 j2 kb hbA hY hS0 c1 c2 jC1 jC2 kbC hSC
    gi_wp2
    refine ⟨rfl,hR.out.mono ?_⟩
    rintro e W' ⟨D',hO',hG',hB',(⟨rfl,hJ'⟩ | ⟨rfl,hJ'⟩)⟩
    ·have hOn3:=hOn2.trans (hO'.or (Wr:=fun k=>k=bx∨k=by')) hGr.or
     have hGr3:=hGr.trans hG' hOn2.size
     have m1:=(hO'.same bx hl1 hnD1x).trans hj1.out
     have m2:=(hO'.same by' hl2 hnD1y).trans hj2.out
     clear hyy hR z0 z1 z2 z3 z4 z5 z6 z7 z8
     gi_wp2
     go_wp2_with fail
     first | go_roundg (([]:List (List Int)).length+yl.length) | gi_roundg (([]:List (List Int)).length+yl.length)
     case measure=>have:=hfl.out; simp only [List.length_cons,List.length_nil] at this ⊢; omega
     case rel=>exact ⟨pre ++ [([y0,y1,y2,y3,y4,y5,y6],-1,y7)],D',_,_,([]:List (List Int)),yl,hJ',hB',hOn3,hGr3,m1,m2,hx,hyt,by have:=hfl.out; simp only [List.length_append,List.length_cons,List.length_nil] at this hpl ⊢; omega,rfl,by show _=_; rw [List.append_assoc]; exact hp.out⟩
    ·gi_wp2
     go_wp2_with fail
     refine bodyPost_ret (results_none rfl _ _ _) rfl ?_
     exact ⟨⟨_,rfl⟩,D',hOn2.trans (hO'.or (Wr:=fun k=>k=bx∨k=by')) hGr.or,hGr.trans hG' hOn2.size,hB',.inr ⟨_,trivial,hJ'⟩⟩
  ·rcases yl with _ | ⟨y,yl⟩
   ·obtain ⟨ya,yc,rfl⟩:=hy.out.nl
    obtain ⟨mb,mo,xc,x0,x1,x2,x3,x4,x5,x6,x7,rfl,rfl,hxc,hq,tp,hif,hxt⟩:=hx.out.hd8
    have hmz:mb < wz.heap.size:=World.block_lt_of_cell? wz _ hq.1
    have hmD:=hAn mb hmz
    have hqW:=hOn.cells8 hmD (Only.cells8 (D:=fun _=>False) (Only.of_below hzW) (fun h=>h) hq)
    have hn1:(0:Int) < ((xl.length+1:Nat):Int):=by omega
    have hn1n:0 < xl.length+1:=by omega
    replace hxt:=Lib.hid hxt
    replace hif:=Lib.hid hif
    clear hx hq
    replace hp:Hid (pre++([x0,x1,x2,x3,x4,x5,x6],x7,-1)::stp xl []=L):=by have:=hp.out; rw [stp_cons] at this; exact this
    refine wpIn_wide.2 ?_
    go_upto_region 9 with fail
    obtain ⟨WA,hWA⟩:=exF (wr.alloc (.cells #[.int .i64 0,.int .i64 0,.int .i64 0,.int .i64 0,.int .i64 0,.int .i64 0,.int .i64 0,.int .i64 (-1),.int .i64 (-1)] 134))
    have hbA:Below wr.heap.size wr WA:=by rw [hWA]; exact (Below.refl _ wr).alloc (Nat.le_refl _) _
    have kb:WA.heap[wr.heap.size]? = some (stB 0 0 0 0 0 0 0 (-1) (-1)):=by rw [hWA]; exact heap_alloc_new _ _
    have hl1:=(Array.getElem?_eq_some_iff.1 k1).1
    have hl2:=(Array.getElem?_eq_some_iff.1 k2).1
    have j1:=(hbA.block bx hl1).trans k1
    have j2:=(hbA.block by' hl2).trans k2
    have hbn:wr.heap.size ≠ bx:=by omega
    have hbn':wr.heap.size ≠ by':=by omega
    have hS0:Only (fun k=>k=wr.heap.size∨k=bx∨k=by') WA WA:=Only.refl _ _
    rw [← hWA]
    replace hWA:=Lib.hid hWA
    obtain ⟨p0,p1,p2,p3,p4,p5,p6,p7⟩:=(hS0).cells8 (b:=mb) (by have:=hbA.size; have:=hOn.size; omega) (Only.cells8 (D:=fun _=>False) (Only.of_below hbA) (fun h=>h) hqW)
    refine regStep9 (b:=wr.heap.size) (bx:=bx) kb j1 hbn (by omega) p0 p1 p2 p3 p4 p5 p6 p7 hn1n hxc hif.out ?_
    intro _ _ _ WB ⟨hG1,hG2,hG3⟩ _ _ _
    have kbB:WB.heap[wr.heap.size]? = some (stB x0 x1 x2 x3 x4 x5 x6 x7 (-1)):=hG2
    have jB1:WB.heap[bx]? = some (.cells #[.slice tp (xl.length+1 - 1) (xc - 1)] 98):=hG3
    have jB2:=(hG1.same by' (by have:=hbA.size; have:=(hS0).size; omega) (fun h=>by rcases h with h | h <;> omega)).trans j2
    have hSB:Only (fun k=>k=wr.heap.size∨k=bx∨k=by') WA WB:=(hS0).trans (hG1.mono fun k h=>h.elim .inl fun h=>.inr (.inl h)) (Gr.refl _ _)
    clear hG1 hG2 hG3 p0 p1 p2 p3 p4 p5 p6 p7
    obtain ⟨⟨z0,z1,z2,z3,z4,z5,z6⟩,z7,z8⟩:=stB.cells kbB
    go_upto_region 12 with fail
    refine (wpIn_wide (n:=0)).1 ?_
    have hnD1x : ¬ D1 bx:=fun h=>(hGr bx h).elim hDx fun h=>by omega
    have hnD1y : ¬ D1 by':=fun h=>(hGr by' h).elim hDy fun h=>by omega
    have hOn2:Only (fun k=>D k∨k=bx∨k=by') W WB:=⟨(hSB).os.trans (hbA.os.trans hOn.os),(hSB).tape.trans (hbA.tape.trans hOn.tape),(hSB).output.trans (hbA.output.trans hOn.output),Nat.le_trans hOn.size (Nat.le_trans hbA.size (hSB).size),fun k hk hn=>((hSB).same k (by have:=hOn.size; have:=hbA.size; omega) (fun h=>h.elim (fun h=>by have:=hOn.size; omega) fun h=>hn (.inr h))).trans ((hbA.block k (by have:=hOn.size; omega)).trans (hOn.same k hk hn))⟩
    have hBk2:Bd D1 WB:=fun k hk=>Nat.lt_of_lt_of_le (hBk k hk) (Nat.le_trans hbA.size (hSB).size)
    have hJk2:=hJ.out _ _ _ WB hJk (Nat.le_trans hbA.size (hSB).size) (fun k hk=>((hSB).same k (by have:=hBk k hk; have:=hbA.size; omega) (fun h=>by rcases h with h | h | h; have:=hBk k hk; omega; exact hnD1x (h ▸ hk); exact hnD1y (h ▸ hk))).trans (hbA.block k (hBk k hk)))
    have hlen:pre.length < 1000000:=by omega
    have hRx:spR L pre ([x0,x1,x2,x3,x4,x5,x6],x7,-1) WB:=⟨_,hp.out⟩
    have hl1:=(Array.getElem?_eq_some_iff.1 jB1).1
    have hl2:=(Array.getElem?_eq_some_iff.1 jB2).1
    obtain ⟨fn,tmps,assign,body,hyy,hR⟩:=hY.out pre ([x0,x1,x2,x3,x4,x5,x6],x7,-1) D1 _ hJk2 hBk2 hOn2 hGr hRx hlen
    simp only [spEnc,List.cons_append,List.nil_append,List.map_cons,List.map_nil] at hyy hR
    replace hR:=Lib.hid hR
    have hj1:=Lib.hid jB1
    have hj2:=Lib.hid jB2
    clear hJk hJk2 hRx hOn hBk k1 k2 j1 j2 kb hbA hY hS0 c1 c2 jB1 jB2 kbB hSB
    gi_wp2
    refine ⟨rfl,hR.out.mono ?_⟩
    rintro e W' ⟨D',hO',hG',hB',(⟨rfl,hJ'⟩ | ⟨rfl,hJ'⟩)⟩
    ·have hOn3:=hOn2.trans (hO'.or (Wr:=fun k=>k=bx∨k=by')) hGr.or
     have hGr3:=hGr.trans hG' hOn2.size
     have m1:=(hO'.same bx hl1 hnD1x).trans hj1.out
     have m2:=(hO'.same by' hl2 hnD1y).trans hj2.out
     clear hyy hR z0 z1 z2 z3 z4 z5 z6 z7 z8
     gi_wp2
     go_wp2_with fail
     first | go_roundg (xl.length+([]:List (List Int)).length) | gi_roundg (xl.length+([]:List (List Int)).length)
     case measure=>have:=hfl.out; simp only [List.length_cons,List.length_nil] at this ⊢; omega
     case rel=>exact ⟨pre ++ [([x0,x1,x2,x3,x4,x5,x6],x7,-1)],D',_,_,xl,([]:List (List Int)),hJ',hB',hOn3,hGr3,m1,m2,hxt,hy,by have:=hfl.out; simp only [List.length_append,List.length_cons,List.length_nil] at this hpl ⊢; omega,rfl,by show _=_; rw [List.append_assoc]; exact hp.out⟩
    ·gi_wp2
     go_wp2_with fail
     refine bodyPost_ret (results_none rfl _ _ _) rfl ?_
     exact ⟨⟨_,rfl⟩,D',hOn2.trans (hO'.or (Wr:=fun k=>k=bx∨k=by')) hGr.or,hGr.trans hG' hOn2.size,hB',.inr ⟨_,trivial,hJ'⟩⟩
   ·have hyk:=hy
    have hxk:=hx
    obtain ⟨mb,mo,xc,x0,x1,x2,x3,x4,x5,x6,x7,rfl,rfl,hxc,hq,tp,hif,hxt⟩:=hx.out.hd8
    have hmz:mb < wz.heap.size:=World.block_lt_of_cell? wz _ hq.1
    have hmD:=hAn mb hmz
    have hqW:=hOn.cells8 hmD (Only.cells8 (D:=fun _=>False) (Only.of_below hzW) (fun h=>h) hq)
    have hn1:(0:Int) < ((xl.length+1:Nat):Int):=by omega
    have hn1n:0 < xl.length+1:=by omega
    replace hxt:=Lib.hid hxt
    replace hif:=Lib.hid hif
    clear hx hq
    obtain ⟨nb,no,yc,y0,y1,y2,y3,y4,y5,y6,y7,rfl,rfl,hyc,hr,tq,hjf,hyt⟩:=hy.out.hd8
    have hnz:nb < wz.heap.size:=World.block_lt_of_cell? wz _ hr.1
    have hnD:=hAn nb hnz
    have hrW:=hOn.cells8 hnD (Only.cells8 (D:=fun _=>False) (Only.of_below hzW) (fun h=>h) hr)
    have hm1:(0:Int) < ((yl.length+1:Nat):Int):=by omega
    have hm1n:0 < yl.length+1:=by omega
    replace hyt:=Lib.hid hyt
    replace hjf:=Lib.hid hjf
    clear hy hr
    have hqW2:=hqW
    obtain ⟨p0,p1,p2,p3,p4,p5,p6,p7⟩:=hqW2
    have hrW2:=hrW
    obtain ⟨q0,q1,q2,q3,q4,q5,q6,q7⟩:=hrW2
    have HC:=fun W=>roundCompare x0 x1 x2 x3 x4 x5 x6 y0 y1 y2 y3 y4 y5 y6 W
    obtain ⟨C,hC⟩:=exE (cmpL [x0,x1,x2,x3,x4,x5,x6] [y0,y1,y2,y3,y4,y5,y6])
    simp only [hC] at HC
    replace HC:=Lib.hid HC
    refine wpIn_wide.2 ?_
    go_wp2_with fail
    go_still_tail 8,(by kernel_rfl)
    change wpList _ _ _ _ _ wr.drew
    go_wp2_with fail
    refine (HC.out _).mono ?_
    rintro e w1 ⟨rfl,hb1⟩
    replace hb1:=below_of_drew hb1
    have hJk1:=hJ.out _ _ _ w1 hJk hb1.size (fun k hk=>hb1.block k (hBk k hk))
    have hOn1:=hOn.thenBelow (hb1.mono hOn.size)
    have hBk1:Bd D1 w1:=fun k hk=>Nat.lt_of_lt_of_le (hBk k hk) hb1.size
    have k11:=(hb1.block bx (Array.getElem?_eq_some_iff.1 k1).1).trans k1
    have k21:=(hb1.block by' (Array.getElem?_eq_some_iff.1 k2).1).trans k2
    have hqW:=Only.cells8 (D:=fun _=>False) (Only.of_below hb1) (fun h=>h) hqW
    have hrW:=Only.cells8 (D:=fun _=>False) (Only.of_below hb1) (fun h=>h) hrW
    clear hJk hOn hBk k1 k2 c1 c2 p0 p1 p2 p3 p4 p5 p6 p7 q0 q1 q2 q3 q4 q5 q6 q7
    have hJk:=hJk1; have hOn:=hOn1; have hBk:=hBk1; have k1:=k11; have k2:=k21
    clear hJk1 hOn1 hBk1 k11 k21
    have c1:=cell_of_one k1
    have c2:=cell_of_one k2
    rcases Int.lt_trichotomy C 0 with hC0 | hC0 | hC0
    ·have hd1:decide (C≤0)=true:=decide_eq_true (by omega)
     have hd2:decide (0≤C)=false:=decide_eq_false (by omega)
     replace hp:Hid (pre++([x0,x1,x2,x3,x4,x5,x6],x7,-1)::stp xl ([y0,y1,y2,y3,y4,y5,y6,y7]::yl)=L):=by have:=hp.out; rw [stp_lt (by show cmpL [x0,x1,x2,x3,x4,x5,x6] [y0,y1,y2,y3,y4,y5,y6] < 0; rw [hC]; exact hC0)] at this; exact this
     go_upto_region 9 with fail
     obtain ⟨WA,hWA⟩:=exF (w1.alloc (.cells #[.int .i64 0,.int .i64 0,.int .i64 0,.int .i64 0,.int .i64 0,.int .i64 0,.int .i64 0,.int .i64 (-1),.int .i64 (-1)] 134))
     have hbA:Below w1.heap.size w1 WA:=by rw [hWA]; exact (Below.refl _ w1).alloc (Nat.le_refl _) _
     have kb:WA.heap[w1.heap.size]? = some (stB 0 0 0 0 0 0 0 (-1) (-1)):=by rw [hWA]; exact heap_alloc_new _ _
     have hl1:=(Array.getElem?_eq_some_iff.1 k1).1
     have hl2:=(Array.getElem?_eq_some_iff.1 k2).1
     have j1:=(hbA.block bx hl1).trans k1
     have j2:=(hbA.block by' hl2).trans k2
     have hbn:w1.heap.size ≠ bx:=by omega
     have hbn':w1.heap.size ≠ by':=by omega
     have hS0:Only (fun k=>k=w1.heap.size∨k=bx∨k=by') WA WA:=Only.refl _ _
     rw [← hWA]
     replace hWA:=Lib.hid hWA
     obtain ⟨p0,p1,p2,p3,p4,p5,p6,p7⟩:=(hS0).cells8 (b:=mb) (by have:=hbA.size; have:=hOn.size; omega) (Only.cells8 (D:=fun _=>False) (Only.of_below hbA) (fun h=>h) hqW)
     refine regStep9 (b:=w1.heap.size) (bx:=bx) kb j1 hbn (by omega) p0 p1 p2 p3 p4 p5 p6 p7 hn1n hxc hif.out ?_
     intro _ _ _ WB ⟨hG1,hG2,hG3⟩ _ _ _
     have kbB:WB.heap[w1.heap.size]? = some (stB x0 x1 x2 x3 x4 x5 x6 x7 (-1)):=hG2
     have jB1:WB.heap[bx]? = some (.cells #[.slice tp (xl.length+1 - 1) (xc - 1)] 98):=hG3
     have jB2:=(hG1.same by' (by have:=hbA.size; have:=(hS0).size; omega) (fun h=>by rcases h with h | h <;> omega)).trans j2
     have hSB:Only (fun k=>k=w1.heap.size∨k=bx∨k=by') WA WB:=(hS0).trans (hG1.mono fun k h=>h.elim .inl fun h=>.inr (.inl h)) (Gr.refl _ _)
     clear hG1 hG2 hG3 p0 p1 p2 p3 p4 p5 p6 p7
     obtain ⟨⟨z0,z1,z2,z3,z4,z5,z6⟩,z7,z8⟩:=stB.cells kbB
     go_upto_region 12 with fail
     refine (wpIn_wide (n:=0)).1 ?_
     have hnD1x : ¬ D1 bx:=fun h=>(hGr bx h).elim hDx fun h=>by omega
     have hnD1y : ¬ D1 by':=fun h=>(hGr by' h).elim hDy fun h=>by omega
     have hOn2:Only (fun k=>D k∨k=bx∨k=by') W WB:=⟨(hSB).os.trans (hbA.os.trans hOn.os),(hSB).tape.trans (hbA.tape.trans hOn.tape),(hSB).output.trans (hbA.output.trans hOn.output),Nat.le_trans hOn.size (Nat.le_trans hbA.size (hSB).size),fun k hk hn=>((hSB).same k (by have:=hOn.size; have:=hbA.size; omega) (fun h=>h.elim (fun h=>by have:=hOn.size; omega) fun h=>hn (.inr h))).trans ((hbA.block k (by have:=hOn.size; omega)).trans (hOn.same k hk hn))⟩
     have hBk2:Bd D1 WB:=fun k hk=>Nat.lt_of_lt_of_le (hBk k hk) (Nat.le_trans hbA.size (hSB).size)
     have hJk2:=hJ.out _ _ _ WB hJk (Nat.le_trans hbA.size (hSB).size) (fun k hk=>((hSB).same k (by have:=hBk k hk; have:=hbA.size; omega) (fun h=>by rcases h with h | h | h; have:=hBk k hk; omega; exact hnD1x (h ▸ hk); exact hnD1y (h ▸ hk))).trans (hbA.block k (hBk k hk)))
     have hlen:pre.length < 1000000:=by omega
     have hRx:spR L pre ([x0,x1,x2,x3,x4,x5,x6],x7,-1) WB:=⟨_,hp.out⟩
     have hl1:=(Array.getElem?_eq_some_iff.1 jB1).1
     have hl2:=(Array.getElem?_eq_some_iff.1 jB2).1
     obtain ⟨fn,tmps,assign,body,hyy,hR⟩:=hY.out pre ([x0,x1,x2,x3,x4,x5,x6],x7,-1) D1 _ hJk2 hBk2 hOn2 hGr hRx hlen
     simp only [spEnc,List.cons_append,List.nil_append,List.map_cons,List.map_nil] at hyy hR
     replace hR:=Lib.hid hR
     have hj1:=Lib.hid jB1
     have hj2:=Lib.hid jB2
     clear hJk hJk2 hRx hOn hBk k1 k2 j1 j2 kb hbA hY hS0 c1 c2 jB1 jB2 kbB hSB
     gi_wp2
     refine ⟨rfl,hR.out.mono ?_⟩
     rintro e W' ⟨D',hO',hG',hB',(⟨rfl,hJ'⟩ | ⟨rfl,hJ'⟩)⟩
     ·have hOn3:=hOn2.trans (hO'.or (Wr:=fun k=>k=bx∨k=by')) hGr.or
      have hGr3:=hGr.trans hG' hOn2.size
      have m1:=(hO'.same bx hl1 hnD1x).trans hj1.out
      have m2:=(hO'.same by' hl2 hnD1y).trans hj2.out
      clear hyy hR z0 z1 z2 z3 z4 z5 z6 z7 z8
      gi_wp2
      go_wp2_with fail
      first | go_roundg (xl.length+([y0,y1,y2,y3,y4,y5,y6,y7]::yl).length) | gi_roundg (xl.length+([y0,y1,y2,y3,y4,y5,y6,y7]::yl).length)
      case measure=>have:=hfl.out; simp only [List.length_cons] at this ⊢; omega
      case rel=>exact ⟨pre ++ [([x0,x1,x2,x3,x4,x5,x6],x7,-1)],D',_,_,xl,([y0,y1,y2,y3,y4,y5,y6,y7]::yl),hJ',hB',hOn3,hGr3,m1,m2,hxt,hyk,by have:=hfl.out; simp only [List.length_append,List.length_cons,List.length_nil] at this hpl ⊢; omega,rfl,by show _=_; rw [List.append_assoc]; exact hp.out⟩
     ·gi_wp2
      go_wp2_with fail
      refine bodyPost_ret (results_none rfl _ _ _) rfl ?_
      exact ⟨⟨_,rfl⟩,D',hOn2.trans (hO'.or (Wr:=fun k=>k=bx∨k=by')) hGr.or,hGr.trans hG' hOn2.size,hB',.inr ⟨_,trivial,hJ'⟩⟩
    ·have hd1:decide (C≤0)=true:=decide_eq_true (by omega)
     have hd2:decide (0≤C)=true:=decide_eq_true (by omega)
     replace hp:Hid (pre++([y0,y1,y2,y3,y4,y5,y6],x7,y7)::stp xl yl=L):=by have:=hp.out; rw [stp_eq (by show cmpL [x0,x1,x2,x3,x4,x5,x6] [y0,y1,y2,y3,y4,y5,y6]=0; rw [hC]; exact hC0)] at this; exact this
     go_upto_region 9 with fail
     obtain ⟨WA,hWA⟩:=exF (w1.alloc (.cells #[.int .i64 0,.int .i64 0,.int .i64 0,.int .i64 0,.int .i64 0,.int .i64 0,.int .i64 0,.int .i64 (-1),.int .i64 (-1)] 134))
     have hbA:Below w1.heap.size w1 WA:=by rw [hWA]; exact (Below.refl _ w1).alloc (Nat.le_refl _) _
     have kb:WA.heap[w1.heap.size]? = some (stB 0 0 0 0 0 0 0 (-1) (-1)):=by rw [hWA]; exact heap_alloc_new _ _
     have hl1:=(Array.getElem?_eq_some_iff.1 k1).1
     have hl2:=(Array.getElem?_eq_some_iff.1 k2).1
     have j1:=(hbA.block bx hl1).trans k1
     have j2:=(hbA.block by' hl2).trans k2
     have hbn:w1.heap.size ≠ bx:=by omega
     have hbn':w1.heap.size ≠ by':=by omega
     have hS0:Only (fun k=>k=w1.heap.size∨k=bx∨k=by') WA WA:=Only.refl _ _
     rw [← hWA]
     replace hWA:=Lib.hid hWA
     obtain ⟨p0,p1,p2,p3,p4,p5,p6,p7⟩:=(hS0).cells8 (b:=mb) (by have:=hbA.size; have:=hOn.size; omega) (Only.cells8 (D:=fun _=>False) (Only.of_below hbA) (fun h=>h) hqW)
     refine regStep9 (b:=w1.heap.size) (bx:=bx) kb j1 hbn (by omega) p0 p1 p2 p3 p4 p5 p6 p7 hn1n hxc hif.out ?_
     intro _ _ _ WB ⟨hG1,hG2,hG3⟩ _ _ _
     have kbB:WB.heap[w1.heap.size]? = some (stB x0 x1 x2 x3 x4 x5 x6 x7 (-1)):=hG2
     have jB1:WB.heap[bx]? = some (.cells #[.slice tp (xl.length+1 - 1) (xc - 1)] 98):=hG3
     have jB2:=(hG1.same by' (by have:=hbA.size; have:=(hS0).size; omega) (fun h=>by rcases h with h | h <;> omega)).trans j2
     have hSB:Only (fun k=>k=w1.heap.size∨k=bx∨k=by') WA WB:=(hS0).trans (hG1.mono fun k h=>h.elim .inl fun h=>.inr (.inl h)) (Gr.refl _ _)
     clear hG1 hG2 hG3 p0 p1 p2 p3 p4 p5 p6 p7
     go_upto_region 11 with fail
     obtain ⟨p0,p1,p2,p3,p4,p5,p6,p7⟩:=(hSB).cells8 (b:=nb) (by have:=hbA.size; have:=hOn.size; omega) (Only.cells8 (D:=fun _=>False) (Only.of_below hbA) (fun h=>h) hrW)
     refine regStep11 (b:=w1.heap.size) (bx:=by') kbB jB2 hbn' (by omega) p0 p1 p2 p3 p4 p5 p6 p7 hm1n hyc hjf.out ?_
     intro _ _ _ WC ⟨hG1,hG2,hG3⟩ _ _ _
     have kbC:WC.heap[w1.heap.size]? = some (stB y0 y1 y2 y3 y4 y5 y6 x7 y7):=hG2
     have jC2:WC.heap[by']? = some (.cells #[.slice tq (yl.length+1 - 1) (yc - 1)] 98):=hG3
     have jC1:=(hG1.same bx (by have:=hbA.size; have:=(hSB).size; omega) (fun h=>by rcases h with h | h <;> omega)).trans jB1
     have hSC:Only (fun k=>k=w1.heap.size∨k=bx∨k=by') WA WC:=(hSB).trans (hG1.mono fun k h=>h.elim .inl fun h=>.inr (.inr h)) (Gr.refl _ _)
     clear hG1 hG2 hG3 p0 p1 p2 p3 p4 p5 p6 p7
     obtain ⟨⟨z0,z1,z2,z3,z4,z5,z6⟩,z7,z8⟩:=stB.cells kbC
     go_upto_region 12 with fail
     refine (wpIn_wide (n:=0)).1 ?_
     have hnD1x : ¬ D1 bx:=fun h=>(hGr bx h).elim hDx fun h=>by omega
     have hnD1y : ¬ D1 by':=fun h=>(hGr by' h).elim hDy fun h=>by omega
     have hOn2:Only (fun k=>D k∨k=bx∨k=by') W WC:=⟨(hSC).os.trans (hbA.os.trans hOn.os),(hSC).tape.trans (hbA.tape.trans hOn.tape),(hSC).output.trans (hbA.output.trans hOn.output),Nat.le_trans hOn.size (Nat.le_trans hbA.size (hSC).size),fun k hk hn=>((hSC).same k (by have:=hOn.size; have:=hbA.size; omega) (fun h=>h.elim (fun h=>by have:=hOn.size; omega) fun h=>hn (.inr h))).trans ((hbA.block k (by have:=hOn.size; omega)).trans (hOn.same k hk hn))⟩
     have hBk2:Bd D1 WC:=fun k hk=>Nat.lt_of_lt_of_le (hBk k hk) (Nat.le_trans hbA.size (hSC).size)
     have hJk2:=hJ.out _ _ _ WC hJk (Nat.le_trans hbA.size (hSC).size) (fun k hk=>((hSC).same k (by have:=hBk k hk; have:=hbA.size; omega) (fun h=>by rcases h with h | h | h; have:=hBk k hk; omega; exact hnD1x (h ▸ hk); exact hnD1y (h ▸ hk))).trans (hbA.block k (hBk k hk)))
     have hlen:pre.length < 1000000:=by omega
     have hRx:spR L pre ([y0,y1,y2,y3,y4,y5,y6],x7,y7) WC:=⟨_,hp.out⟩
     have hl1:=(Array.getElem?_eq_some_iff.1 jC1).1
     have hl2:=(Array.getElem?_eq_some_iff.1 jC2).1
     obtain ⟨fn,tmps,assign,body,hyy,hR⟩:=hY.out pre ([y0,y1,y2,y3,y4,y5,y6],x7,y7) D1 _ hJk2 hBk2 hOn2 hGr hRx hlen
     simp only [spEnc,List.cons_append,List.nil_append,List.map_cons,List.map_nil] at hyy hR
     replace hR:=Lib.hid hR
     have hj1:=Lib.hid jC1
     have hj2:=Lib.hid jC2
     clear hJk hJk2 hRx hOn hBk k1 k2 j1 j2 kb hbA hY hS0 c1 c2 jB1 jB2 kbB hSB jC1 jC2 kbC hSC
     gi_wp2
     refine ⟨rfl,hR.out.mono ?_⟩
     rintro e W' ⟨D',hO',hG',hB',(⟨rfl,hJ'⟩ | ⟨rfl,hJ'⟩)⟩
     ·have hOn3:=hOn2.trans (hO'.or (Wr:=fun k=>k=bx∨k=by')) hGr.or
      have hGr3:=hGr.trans hG' hOn2.size
      have m1:=(hO'.same bx hl1 hnD1x).trans hj1.out
      have m2:=(hO'.same by' hl2 hnD1y).trans hj2.out
      clear hyy hR z0 z1 z2 z3 z4 z5 z6 z7 z8
      gi_wp2
      go_wp2_with fail
      first | go_roundg (xl.length+yl.length) | gi_roundg (xl.length+yl.length)
      case measure=>have:=hfl.out; simp only [List.length_cons] at this ⊢; omega
      case rel=>exact ⟨pre ++ [([y0,y1,y2,y3,y4,y5,y6],x7,y7)],D',_,_,xl,yl,hJ',hB',hOn3,hGr3,m1,m2,hxt,hyt,by have:=hfl.out; simp only [List.length_append,List.length_cons,List.length_nil] at this hpl ⊢; omega,rfl,by show _=_; rw [List.append_assoc]; exact hp.out⟩
     ·gi_wp2
      go_wp2_with fail
      refine bodyPost_ret (results_none rfl _ _ _) rfl ?_
      exact ⟨⟨_,rfl⟩,D',hOn2.trans (hO'.or (Wr:=fun k=>k=bx∨k=by')) hGr.or,hGr.trans hG' hOn2.size,hB',.inr ⟨_,trivial,hJ'⟩⟩
    ·have hd1:decide (C≤0)=false:=decide_eq_false (by omega)
     have hd2:decide (0≤C)=true:=decide_eq_true (by omega)
     replace hp:Hid (pre++([y0,y1,y2,y3,y4,y5,y6],-1,y7)::stp ([x0,x1,x2,x3,x4,x5,x6,x7]::xl) yl=L):=by have:=hp.out; rw [stp_gt (by show 0 < cmpL [x0,x1,x2,x3,x4,x5,x6] [y0,y1,y2,y3,y4,y5,y6]; rw [hC]; exact hC0)] at this; exact this
     go_upto_region 11 with fail
     obtain ⟨WA,hWA⟩:=exF (w1.alloc (.cells #[.int .i64 0,.int .i64 0,.int .i64 0,.int .i64 0,.int .i64 0,.int .i64 0,.int .i64 0,.int .i64 (-1),.int .i64 (-1)] 134))
     have hbA:Below w1.heap.size w1 WA:=by rw [hWA]; exact (Below.refl _ w1).alloc (Nat.le_refl _) _
     have kb:WA.heap[w1.heap.size]? = some (stB 0 0 0 0 0 0 0 (-1) (-1)):=by rw [hWA]; exact heap_alloc_new _ _
     have hl1:=(Array.getElem?_eq_some_iff.1 k1).1
     have hl2:=(Array.getElem?_eq_some_iff.1 k2).1
     have j1:=(hbA.block bx hl1).trans k1
     have j2:=(hbA.block by' hl2).trans k2
     have hbn:w1.heap.size ≠ bx:=by omega
     have hbn':w1.heap.size ≠ by':=by omega
     have hS0:Only (fun k=>k=w1.heap.size∨k=bx∨k=by') WA WA:=Only.refl _ _
     rw [← hWA]
     replace hWA:=Lib.hid hWA
     obtain ⟨p0,p1,p2,p3,p4,p5,p6,p7⟩:=(hS0).cells8 (b:=nb) (by have:=hbA.size; have:=hOn.size; omega) (Only.cells8 (D:=fun _=>False) (Only.of_below hbA) (fun h=>h) hrW)
     refine regStep11 (b:=w1.heap.size) (bx:=by') kb j2 hbn' (by omega) p0 p1 p2 p3 p4 p5 p6 p7 hm1n hyc hjf.out ?_
     intro _ _ _ WC ⟨hG1,hG2,hG3⟩ _ _ _
     have kbC:WC.heap[w1.heap.size]? = some (stB y0 y1 y2 y3 y4 y5 y6 (-1) y7):=hG2
     have jC2:WC.heap[by']? = some (.cells #[.slice tq (yl.length+1 - 1) (yc - 1)] 98):=hG3
     have jC1:=(hG1.same bx (by have:=hbA.size; have:=(hS0).size; omega) (fun h=>by rcases h with h | h <;> omega)).trans j1
     have hSC:Only (fun k=>k=w1.heap.size∨k=bx∨k=by') WA WC:=(hS0).trans (hG1.mono fun k h=>h.elim .inl fun h=>.inr (.inr h)) (Gr.refl _ _)
     clear hG1 hG2 hG3 p0 p1 p2 p3 p4 p5 p6 p7
     obtain ⟨⟨z0,z1,z2,z3,z4,z5,z6⟩,z7,z8⟩:=stB.cells kbC
     go_upto_region 12 with fail
     refine (wpIn_wide (n:=0)).1 ?_
     have hnD1x : ¬ D1 bx:=fun h=>(hGr bx h).elim hDx fun h=>by omega
     have hnD1y : ¬ D1 by':=fun h=>(hGr by' h).elim hDy fun h=>by omega
     have hOn2:Only (fun k=>D k∨k=bx∨k=by') W WC:=⟨(hSC).os.trans (hbA.os.trans hOn.os),(hSC).tape.trans (hbA.tape.trans hOn.tape),(hSC).output.trans (hbA.output.trans hOn.output),Nat.le_trans hOn.size (Nat.le_trans hbA.size (hSC).size),fun k hk hn=>((hSC).same k (by have:=hOn.size; have:=hbA.size; omega) (fun h=>h.elim (fun h=>by have:=hOn.size; omega) fun h=>hn (.inr h))).trans ((hbA.block k (by have:=hOn.size; omega)).trans (hOn.same k hk hn))⟩
     have hBk2:Bd D1 WC:=fun k hk=>Nat.lt_of_lt_of_le (hBk k hk) (Nat.le_trans hbA.size (hSC).size)
     have hJk2:=hJ.out _ _ _ WC hJk (Nat.le_trans hbA.size (hSC).size) (fun k hk=>((hSC).same k (by have:=hBk k hk; have:=hbA.size; omega) (fun h=>by rcases h with h | h | h; have:=hBk k hk; omega; exact hnD1x (h ▸ hk); exact hnD1y (h ▸ hk))).trans (hbA.block k (hBk k hk)))
     have hlen:pre.length < 1000000:=by omega
     have hRx:spR L pre ([y0,y1,y2,y3,y4,y5,y6],-1,y7) WC:=⟨_,hp.out⟩
     have hl1:=(Array.getElem?_eq_some_iff.1 jC1).1
     have hl2:=(Array.getElem?_eq_some_iff.1 jC2).1
     obtain ⟨fn,tmps,assign,body,hyy,hR⟩:=hY.out pre ([y0,y1,y2,y3,y4,y5,y6],-1,y7) D1 _ hJk2 hBk2 hOn2 hGr hRx hlen
     simp only [spEnc,List.cons_append,List.nil_append,List.map_cons,List.map_nil] at hyy hR
     replace hR:=Lib.hid hR
     have hj1:=Lib.hid jC1
     have hj2:=Lib.hid jC2
     clear hJk hJk2 hRx hOn hBk k1 k2 j1 j2 kb hbA hY hS0 c1 c2 jC1 jC2 kbC hSC
     gi_wp2
     refine ⟨rfl,hR.out.mono ?_⟩
     rintro e W' ⟨D',hO',hG',hB',(⟨rfl,hJ'⟩ | ⟨rfl,hJ'⟩)⟩
     ·have hOn3:=hOn2.trans (hO'.or (Wr:=fun k=>k=bx∨k=by')) hGr.or
      have hGr3:=hGr.trans hG' hOn2.size
      have m1:=(hO'.same bx hl1 hnD1x).trans hj1.out
      have m2:=(hO'.same by' hl2 hnD1y).trans hj2.out
      clear hyy hR z0 z1 z2 z3 z4 z5 z6 z7 z8
      gi_wp2
      go_wp2_with fail
      first | go_roundg (([x0,x1,x2,x3,x4,x5,x6,x7]::xl).length+yl.length) | gi_roundg (([x0,x1,x2,x3,x4,x5,x6,x7]::xl).length+yl.length)
      case measure=>have:=hfl.out; simp only [List.length_cons] at this ⊢; omega
      case rel=>exact ⟨pre ++ [([y0,y1,y2,y3,y4,y5,y6],-1,y7)],D',_,_,([x0,x1,x2,x3,x4,x5,x6,x7]::xl),yl,hJ',hB',hOn3,hGr3,m1,m2,hxk,hyt,by have:=hfl.out; simp only [List.length_append,List.length_cons,List.length_nil] at this hpl ⊢; omega,rfl,by show _=_; rw [List.append_assoc]; exact hp.out⟩
     ·gi_wp2
      go_wp2_with fail
      refine bodyPost_ret (results_none rfl _ _ _) rfl ?_
      exact ⟨⟨_,rfl⟩,D',hOn2.trans (hO'.or (Wr:=fun k=>k=bx∨k=by')) hGr.or,hGr.trans hG' hOn2.size,hB',.inr ⟨_,trivial,hJ'⟩⟩
end Go.Proofs.YtmikofeildnpdaaGreat

/- Texts of this claim, put together: B3 P1 E3 E4 E5 E7 E8 H0 Own2. -/
import Derived.Test.YtmikofeildnpdaaGreatKYi
import Derived.Test.YtmikofeildnpdaaGreatKYh
import Derived.Laws.Rows
import Derived.Test.YtmikofeildnpdaaGreatKYd
import Derived.Deep.LoopGhost
import Derived.Test.YtmikofeildnpdaaGreatKYc
import Derived.Lib.Builder
import Derived.Lib.AppendStr
import Derived.Lib.UnsafeStr
import Derived.Lib.Strings
import Derived.Lib.Slices
import Derived.Lib.Walk
import Derived.Laws.Externs
import Derived.Laws.IdiomCopy
import Derived.OwnWalkIn
import Derived.RangeFuncBox
import Derived.Test.YtmikofeildnpdaaGreatKYf
import Derived.Laws.AppendOwnNone

set_option maxRecDepth 100000
set_option maxHeartbeats 12800000
/- Check of an adversary. -/
namespace Go.Proofs.YtmikofeildnpdaaGreat
open Go.RowKit
attribute [local go_sem] Oper.semAt_some
theorem andNot_ok:((List.range 32).all fun x=>(List.range 32).all fun y=>decide ((bits .andNot .i64 (x:Int) (y:Int) != 0) = !insideB x y))=true:=by decide +kernel
theorem andNot_in {x y:Int} (h0:0≤x) (h1:x≤31) (k0:0≤y) (k1:y≤31):(bits .andNot .i64 x y != 0) = !insideB x y:=by
 have:=List.all_eq_true.1 (List.all_eq_true.1 andNot_ok x.toNat (by rw [List.mem_range]; omega)) y.toNat (by rw [List.mem_range]; omega)
 have:=of_decide_eq_true this
 rwa [show ((x.toNat:Nat):Int)=x by omega,show ((y.toNat:Nat):Int)=y by omega] at this
def goodM (ss:List (List (List Int))) (x:Nat × List Int):Bool:=gr3 (x.2.getD 6 0) (ss.getD (x.2.getD 7 0).toNat [])
theorem mvs_all (f:List Int→Bool):∀ (ss:List (List (List Int))) (k:Nat),(mvs k ss).all (fun x=>f x.2)=ss.all fun ms=>ms.all f
 | [],_=>rfl
 | l::r,k=>by
  rw [mvs,List.all_append,mvs_all f r,List.all_cons,List.all_map]; rfl
theorem grows_mvs (ss:List (List (List Int))):(mvs 0 ss).all (goodM ss)=growsB ss:=mvs_all (fun m=>gr3 (m.getD 6 0) (ss.getD (m.getD 7 0).toNat [])) ss 0
theorem mvs_mem:∀ {ss:List (List (List Int))} {k:Nat} {x:Nat × List Int},x∈mvs k ss→∃ ms∈ss,x.2∈ms
 | [],_,_,h=>by cases h
 | l::r,k,x,h=>by
  rw [mvs,List.mem_append] at h
  rcases h with h | h
  ·obtain ⟨m,hm,rfl⟩:=List.mem_map.1 h; exact ⟨l,by simp,hm⟩
  ·obtain ⟨ms,h1,h2⟩:=mvs_mem h; exact ⟨ms,by simp [h1],h2⟩
def BoxE (Bn:Nat) (D:Nat→Prop) (W:World) (n:Int):Prop:=(∀ k,D k↔k=Bn)∧W.heap[Bn]? = some (.cells #[.int .i64 n] 28 (0,0))
theorem BoxE.stable {α:Type} (Bn:Nat) (n:Int) (p:List α→Prop):Stable (fun pre D W=>BoxE Bn D W n∧p pre):=fun _ _ _ _ h _ hk=>⟨⟨h.1.1,(hk Bn ((h.1.1 Bn).2 rfl)).trans h.1.2⟩,h.2⟩
theorem results_cellE {fn:Func} {p:Tmp} (h:fn.results = #[.cell p 28]) (tmps:Array Value) (w:World) (g:Nat) (x:Int) (hp:tmps.getD p undef = .pointer (some ⟨g,0,none⟩)) (hc:w.cell? ⟨g,0,none⟩=some (.int .i64 x)) :
  (results fn tmps).run Tryz.prog w = .ok (.int .i64 x) w:=by
 have hp':tmps[p]?.getD undef = .pointer (some ⟨g,0,none⟩):=by simpa using hp
 have u:=Tryz.underlying28
 have a:=Tryz.isAgg28
 have z:=Tryz.sizeOf28
 simp only [results,h]
 simp [Sem.run_bind,Result.andThen,hp',asAddr,loadVar]
 go_simp
theorem checkA {w:World} {v:Value} {n:Int} {ss:List (List (List Int))} (hA:AdvV w v n ss) (hN:movesN ss≤1000000000) :
  Calls Tryz.prog 45 #[v] w fun e w'=>e = .returned (.int .i64 (chkA n ss))∧Below w.heap.size w w':=by
 have h8:=hA.len8
 have hA':=hA
 obtain ⟨sv,rfl,hK⟩:=hA'
 have hK':=hK
 obtain ⟨sa,sc,sb,so,rfl,hsa,hsc,hsl⟩:=hK'
 refine callsIn_wide.1 (callsIn_of_wp_marks (n:=0) Tryz.func45 rfl trivial ?_)
 simp only [Tryz.ntmps45,List.size_toArray,List.length_cons,List.length_nil,Nat.reduceAdd,Nat.reduceSub,Array.replicate_succ,Array.replicate_zero,List.push_toArray,List.append_toArray,List.nil_append,List.cons_append]
 refine wpIn_wide.2 ?_
 obtain ⟨W1,hW1⟩:=exF ((w.alloc (.cells #[.int .i64 n,.slice sa ss.length sc] 24)).alloc (.cells #[.int .i64 0] 28))
 have hs1:W1.heap.size=w.heap.size+2:=by rw [hW1]; simp
 have hb:Below w.heap.size w W1:=by rw [hW1]; exact ((Below.refl _ w).alloc (Nat.le_refl _) _).alloc (by simp) _
 have k0:W1.heap[w.heap.size]? = some (.cells #[.int .i64 n,.slice sa ss.length sc] 24):=by
  rw [hW1]; exact (Below.heap_alloc _ _ _ (by simp)).trans (World.alloc_heap_new w _)
 have kE:W1.heap[w.heap.size+1]? = some (.cells #[.int .i64 0] 28 (0,0)):=by
  rw [hW1]
  have:=World.alloc_heap_new (w.alloc (.cells #[.int .i64 n,.slice sa ss.length sc] 24)) (.cells #[.int .i64 0] 28)
  rwa [World.size_alloc] at this
 have hAb:=hA.keep hb
 obtain ⟨d0,d1⟩:=box2 k0
 have hcE:=cell_of_one kE
 have hfE:=free_of_one kE
 replace hsc:=Lib.hid hsc
 replace hW1:=Lib.hid hW1
 have hnew:∀ x:Int,((w.alloc (.cells #[.int .i64 n,.slice sa ss.length sc] 24)).alloc (.cells #[.int .i64 x] 28)).cell? ⟨w.heap.size+1,0,none⟩=some (.int .i64 x):=fun x=>by
  have:=World.alloc_heap_new (w.alloc (.cells #[.int .i64 n,.slice sa ss.length sc] 24)) (.cells #[.int .i64 x] 28)
  rw [World.size_alloc] at this
  exact cell_of_one this
 have hbn:∀ x:Int,Below w.heap.size w ((w.alloc (.cells #[.int .i64 n,.slice sa ss.length sc] 24)).alloc (.cells #[.int .i64 x] 28)):=fun x=>((Below.refl _ w).alloc (Nat.le_refl _) _).alloc (by simp) _
 replace hnew:=Lib.hid hnew
 replace hbn:=Lib.hid hbn
 replace hK:=Lib.hid hK
 by_cases hn:n < 1∨5 < n
 ·have hE:=Lib.hid (show chkA n ss=2 by rw [chkA,if_pos hn])
  clear d0 d1 hcE hfE k0 kE hb hAb
  by_cases hn1:n < 1
  ·have hn1':decide (n < 1)=true:=decide_eq_true hn1
   go_wp2_with fail
   exact ⟨_,results_cellE rfl _ _ (w.heap.size+1) 2 rfl (hnew.out 2),by rw [hE.out],hbn.out 2⟩
  ·have hn1':decide (n < 1)=false:=decide_eq_false hn1
   have hn5':decide (5 < n)=true:=decide_eq_true (by omega)
   go_wp2_with fail
   exact ⟨_,results_cellE rfl _ _ (w.heap.size+1) 2 rfl (hnew.out 2),by rw [hE.out],hbn.out 2⟩
 ·have hn1':decide (n < 1)=false:=decide_eq_false (by omega)
  have hn5':decide (5 < n)=false:=decide_eq_false (by omega)
  go_wp2_with fail
  rw [← hW1.out]
  clear hnew hbn hW1
  refine (sized hAb hN).mono ?_
  rintro e w2 ⟨rfl,hb2⟩
  have hbB2:=bt hb hb2 hb.size
  have k2:=(hb2.block w.heap.size (by omega)).trans k0
  have kE2:=(hb2.block (w.heap.size+1) (by omega)).trans kE
  have hs2:=hb2.size
  have hAb2:=hAb.keep hb2
  clear d0 d1 hcE hfE k0 kE hb2 hAb hb
  obtain ⟨d0,d1⟩:=box2 k2
  have hcE:=cell_of_one kE2
  have hfE:=free_of_one kE2
  have hN2:w.heap.size+2≤w2.heap.size:=by omega
  clear hs1 hs2
  by_cases hz:ss.length < 1∨256 < ss.length∨4096 < movesN ss
  ·have hE:=Lib.hid (show chkA n ss=5 by rw [chkA,if_neg hn,if_pos hz])
   have hsz:szE ss=5:=by rw [szE,if_pos hz]
   rw [hsz]
   have hset:=one_setCell (u:=.int .i64 5) kE2
   have hbs:Below w.heap.size w (w2.setCell ⟨w.heap.size+1,0,none⟩ (.int .i64 5)):=hbB2.setCell (p:=⟨w.heap.size+1,0,none⟩) (by show w.heap.size≤w.heap.size+1; omega) _
   clear hz hn hsz
   go_wp2_with fail
   exact ⟨_,results_cellE rfl _ _ (w.heap.size+1) 5 rfl (cell_of_one hset),by rw [hE.out],hbs⟩
  ·have hsz:szE ss=0:=by rw [szE,if_neg hz]
   rw [hsz]
   have hl:ss.length≤256:=by omega
   obtain ⟨G,hG⟩:=exE (chkA n ss)
   have hG2:Hid ((if ssGo n ss.length ss ≠ 0 then ssGo n ss.length ss else if growsB ss then 0 else 21)=G):=by show _=_; rw [← hG,chkA,if_neg hn,if_neg hz]
   have hst0:Hid (ssGo n ss.length ss=0→StOK ss):=stOK_of h8
   have hE0:Hid (ssGo n ss.length (ss.drop 0)=ssGo n ss.length ss):=rfl
   replace hG:=Lib.hid hG
   clear hz hn hsz
   replace h8:=Lib.hid h8
   go_wp2_with fail
   go_loopw [27] (fun kv wr=>∃ k:Nat,k≤ss.length∧kv = .int .i64 k∧Hid (ssGo n ss.length (ss.drop k)=ssGo n ss.length ss)∧Below w2.heap.size w2 wr) (fun kv _=>ss.length - (intOf kv).toNat)
   case atStart=>exact ⟨0,by omega,rfl,hE0,Below.refl _ _⟩
   case round=>
    clear hE0
    obtain ⟨k,hk,rfl,hg,hbr⟩:=hrel
    have hbB:=bt hbB2 hbr hbB2.size
    have k3:=(hbr.block w.heap.size (by omega)).trans k2
    have kE3:=(hbr.block (w.heap.size+1) (by omega)).trans kE2
    have hAr:=hAb2.keep hbr
    clear d0 d1 hcE hfE
    obtain ⟨d0,d1⟩:=box2 k3
    have hcE:=cell_of_one kE3
    have hfE:=free_of_one kE3
    have hNr:w.heap.size+2≤wr.heap.size:=by have:=hbr.size; omega
    by_cases hlt:k < ss.length
    ·obtain rfl:=hsa (by omega)
     obtain ⟨ms,hms⟩:=exE (ss.getD k [])
     obtain ⟨u,hcu,hu⟩:=(hsc.out.keep hbB) k hlt
     rw [hms] at hu
     have hdr:=Lib.hid (by have:=drop_cons hlt ([]:List (List Int)); rw [hms] at this; exact this)
     have HS:=stateCall hAr hu hl
     obtain ⟨E,hE⟩:=exE (stErr n ss.length ms)
     rw [hE] at HS
     replace HS:=Lib.hid HS
     obtain ⟨ua,uc,rfl⟩:=hu.shape
     clear hu hms
     go_wp2_with fail
     refine HS.out.mono ?_
     rintro e w4 ⟨rfl,hb4⟩
     have k4:=(hb4.block w.heap.size (by omega)).trans k3
     have kE4:=(hb4.block (w.heap.size+1) (by omega)).trans kE3
     have hbB4:=bt hbB hb4 hbB.size
     have hbr4:=bt hbr hb4 hbr.size
     clear d0 d1 hcE hfE HS hcu
     obtain ⟨d0,d1⟩:=box2 k4
     have hcE:=cell_of_one kE4
     have hfE:=free_of_one kE4
     by_cases hz:E=0
     ·have hF:Hid (ssGo n ss.length (ss.drop (k+1))=ssGo n ss.length ss):=by show _=_; rw [← hg.out,hdr.out,ssGo,hE,hz]; rfl
      subst hz
      clear hg hdr hE
      go_wp2_with fail
      go_roundw
      case rel=>exact ⟨k+1,by omega,by go_num,hF,hbr4⟩
      case measure=>simp [intOf]; omega
     ·have hz':(E != 0)=true:=by simpa using hz
      have hF:=Lib.hid (show chkA n ss=E by
       have hX:ssGo n ss.length ss=E:=by rw [← hg.out,hdr.out]; exact ssGo_stop hE hz
       rw [hG.out,← hG2.out,if_pos (by rw [hX]; exact hz),hX])
      have hset:=one_setCell (u:=.int .i64 E) kE4
      have hbs:Below w.heap.size w (w4.setCell ⟨w.heap.size+1,0,none⟩ (.int .i64 E)):=hbB4.setCell (p:=⟨w.heap.size+1,0,none⟩) (by show w.heap.size≤w.heap.size+1; omega) _
      clear hg hdr hE hz
      go_wp2_with fail
      exact ⟨_,results_cellE rfl _ _ (w.heap.size+1) E rfl (cell_of_one hset),by rw [hF.out],hbs⟩
    ·obtain rfl:k=ss.length:=by omega
     have hX:ssGo n ss.length ss=0:=by rw [← hg.out,List.drop_length,ssGo]
     have hO:=Lib.hid (hst0.out hX)
     have hG3:Hid ((if growsB ss then 0 else 21)=G):=by have:=hG2.out; rw [hX,if_neg (by decide)] at this; exact this
     clear hg hX hst0 hG2
     go_wp2_with (go_at_call 93; refine (movesCall _ _ _ _ _).mono ?_; rintro e w5 ⟨rfl,rfl⟩)
     obtain ⟨wL,hwL⟩:=exF (wr.alloc (.cells #[.int .i64 n,.slice sa ss.length sc] 24))
     have hbL:Below wr.heap.size wr wL:=by rw [hwL]; exact (Below.refl _ _).alloc (Nat.le_refl _) _
     have hsL:wL.heap.size=wr.heap.size+1:=by rw [hwL]; simp
     have kX:wL.heap[wr.heap.size]? = some (.cells #[.int .i64 n,.slice sa ss.length sc] 24):=by rw [hwL]; exact heap_alloc_new _ _
     have kL:=(hbL.block w.heap.size (by omega)).trans k3
     have kEL:=(hbL.block (w.heap.size+1) (by omega)).trans kE3
     have hbW:Below w.heap.size w wL:=bt hbB hbL hbB.size
     rw [← hwL]
     have hcx:wL.cell? ⟨wr.heap.size,1,none⟩=some (.slice sa ss.length sc):=box_cell kX rfl
     obtain ⟨X,hX⟩:=exF (wr.heap.size)
     rw [← hX] at hcx hsL hNr kX ⊢
     clear hwL d0 d1 hcE hfE k2 kE2 k3 kE3 hbL hbr hbB hbB2 hAb2 hAr hX hN2 hsL kX
     have hsL2:w.heap.size+2≤wL.heap.size:=by have:=World.block_lt_of_cell? wL _ hcx; have h:X < wL.heap.size:=this; omega
     refine wpIn_wide.1 (wpIn_rfB (gf:=128) (lb:=#[.pointer (some ⟨X,0,none⟩)]) rfl (enters_of Tryz.func128 (by kernel_rfl) rfl) (mvSeq hK.out hbW hcx) (Below.refl _ _) (fun _=>rfl) mvR_put (fun _ _ _ _ h=>h)
      (fun pre D W=>BoxE (w.heap.size+1) D W 0∧pre.all (goodM ss)=true) (fun c _ D W=>BoxE (w.heap.size+1) D W 21∧(c = .ret∧growsB ss=false)) (BoxE.stable _ _ _) (fun c=>BoxE.stable _ _ _)
      (fun k=>k=w.heap.size+1) (fun k hk=>by rw [hk]; omega) (fun k hk=>by omega) (fun k hk=>by rcases hk with rfl | hk; exact World.block_lt_of_cell? wL _ hcx; omega) ⟨⟨fun _=>Iff.rfl,kEL⟩,rfl⟩
      (fun x=>(x.2.map (Value.int .i64)).toArray) 100 (fun x b t=>((t.setIfInBounds 40 (.int .i64 x.1)).setIfInBounds 41 (.agg (x.2.map (Value.int .i64)).toArray)).setIfInBounds 8 (.pointer (some ⟨b,0,none⟩))) ?assign ?body ?done ?stop)
     case assign=>
      rintro l pre ⟨s,m⟩ W K ⟨r,hr⟩ hK
      obtain ⟨ms,hms,hm⟩:=mvs_mem (x:=(s,m)) (k:=0) (by rw [← hr]; simp)
      obtain ⟨y0,y1,y2,y3,y4,y5,y6,y7,rfl⟩:=eight (h8.out ms hms m hm)
      clear hr hms hm
      simp only [List.setIfInBounds_toArray,List.set_cons_succ,List.set_cons_zero,List.map_cons,List.map_nil] at hK
      simp only [mvEnc,List.map_cons,List.map_nil]
      gi_wp2
      exact hK
     case body=>
      rintro l pre ⟨s,m⟩ D W b ⟨⟨hD,hbox⟩,hall⟩ hBd hOn hGr ⟨r,hr⟩ hlen hBb hnb hbb
      obtain ⟨ms,hms,hm⟩:=mvs_mem (x:=(s,m)) (k:=0) (by rw [← hr]; simp)
      obtain ⟨hm8,⟨hf0,hf1⟩,ht0,ht1⟩:=hO.out ms hms m hm
      obtain ⟨y0,y1,y2,y3,y4,y5,y6,y7,rfl⟩:=eight hm8
      replace hf0:0≤y6:=hf0
      replace hf1:y6≤31:=hf1
      replace ht0:0≤y7:=ht0
      replace ht1:y7 < (ss.length:Int):=ht1
      obtain ⟨q,rfl⟩:∃ q:Nat,y7=(q:Int):=⟨y7.toNat,by omega⟩
      have hq:q < ss.length:=by omega
      obtain rfl:=hsa (by omega)
      obtain ⟨ks,hks⟩:=exE (ss.getD q [])
      have hkm:ks∈ss:=by rw [← hks,getD_eq hq]; exact List.getElem_mem hq
      obtain ⟨u,hcu,hu⟩:=hsc.out q hq
      rw [hks] at hu
      have hgood:Hid (goodM ss (s,[y0,y1,y2,y3,y4,y5,y6,(q:Int)])=ks.all fun k=>insideB y6 (k.getD 6 0)):=by
       show gr3 y6 (ss.getD ((q:Int)).toNat [])=_
       rw [Int.toNat_natCast,hks]; rfl
      have hmemL:Hid ((s,[y0,y1,y2,y3,y4,y5,y6,(q:Int)])∈mvs 0 ss):=by show _∈_; rw [← hr]; simp
      have hkO:=Lib.hid (hO.out ks hkm)
      have hsn : ¬ sb=w.heap.size+1:=by have:=World.block_lt_of_cell? w _ hcu; have h:sb < w.heap.size:=this; omega
      have hcu2:W.cell? ⟨sb,so+q,none⟩=some u:=hOn.cell (p:=⟨sb,so+q,none⟩) hsn (cell_kept hbW hcu)
      have kA:=(hOn.same w.heap.size (by omega) (by omega)).trans kL
      obtain ⟨a0,a1⟩:=box2 kA
      simp only [List.map_cons,List.map_nil] at hBb
      obtain ⟨p0,p1,p2,p3,p4,p5,p6,p7⟩:=box8 hBb
      obtain ⟨ka,kc,kb,ko,rfl,hka,hkc,hkl⟩:=hu
      have hbW':b < W.heap.size:=(Array.getElem?_eq_some_iff.1 hBb).1
      clear hr hms hm hm8 hks hkm hcu hlen hN a0
      simp only [List.setIfInBounds_toArray,List.set_cons_succ,List.set_cons_zero,List.map_cons,List.map_nil]
      have hin0:Hid ((ks.drop 0).all (fun k=>insideB y6 (k.getD 6 0))=goodM ss (s,[y0,y1,y2,y3,y4,y5,y6,(q:Int)])):=by show _=_; rw [List.drop_zero,hgood.out]
      clear hgood
      gi_wp2
      gi_loopw [49] (fun iv wr=>∃ i:Nat,i≤ks.length∧iv = .int .i64 i∧Hid ((ks.drop i).all (fun k=>insideB y6 (k.getD 6 0))=goodM ss (s,[y0,y1,y2,y3,y4,y5,y6,(q:Int)]))∧Below W.heap.size W wr) (fun iv _=>ks.length - (intOf iv).toNat)
      case atStart=>exact ⟨0,by omega,rfl,hin0,Below.refl _ _⟩
      case round=>
       clear hin0
       obtain ⟨i,hi,rfl,hg,hbi⟩:=hrel
       by_cases hlti:i < ks.length
       ·obtain rfl:=hka (by omega)
        obtain ⟨hx8,hxc⟩:=hkc i hlti
        obtain ⟨x,hx⟩:=exE (ks.getD i [])
        have hxm:x∈ks:=by rw [← hx,getD_eq hlti]; exact List.getElem_mem hlti
        obtain ⟨_,⟨hz0,hz1⟩,_,_⟩:=hkO.out x hxm
        have hdr:=Lib.hid (all_step (f:=fun k:List Int=>insideB y6 (k.getD 6 0)) hlti hx)
        rw [hx] at hx8 hxc
        obtain ⟨z0,z1,z2,z3,z4,z5,z6,z7,rfl⟩:=eight hx8
        replace hz0:0≤z6:=hz0
        replace hz1:z6≤31:=hz1
        obtain ⟨c0,c1,c2,c3,c4,c5,c6,c7⟩:=hxc.all8
        have hkn : ¬ kb=w.heap.size+1:=by have:=World.block_lt_of_cell? w _ c0; have h:kb < w.heap.size:=this; omega
        have e0:=cell_kept hbi (hOn.cell (p:=⟨kb,_,none⟩) hkn (cell_kept hbW c0))
        have e1:=cell_kept hbi (hOn.cell (p:=⟨kb,_,none⟩) hkn (cell_kept hbW c1))
        have e2:=cell_kept hbi (hOn.cell (p:=⟨kb,_,none⟩) hkn (cell_kept hbW c2))
        have e3:=cell_kept hbi (hOn.cell (p:=⟨kb,_,none⟩) hkn (cell_kept hbW c3))
        have e4:=cell_kept hbi (hOn.cell (p:=⟨kb,_,none⟩) hkn (cell_kept hbW c4))
        have e5:=cell_kept hbi (hOn.cell (p:=⟨kb,_,none⟩) hkn (cell_kept hbW c5))
        have e6:=cell_kept hbi (hOn.cell (p:=⟨kb,_,none⟩) hkn (cell_kept hbW c6))
        have e7:=cell_kept hbi (hOn.cell (p:=⟨kb,_,none⟩) hkn (cell_kept hbW c7))
        have hb1:Below W.heap.size W (wr.alloc (.cells #[.int .i64 z0,.int .i64 z1,.int .i64 z2,.int .i64 z3,.int .i64 z4,.int .i64 z5,.int .i64 z6,.int .i64 z7] 100)):=hbi.alloc hbi.size _
        have hbit:=andNot_in hf0 hf1 hz0 hz1
        have kEi:(wr.alloc (.cells #[.int .i64 z0,.int .i64 z1,.int .i64 z2,.int .i64 z3,.int .i64 z4,.int .i64 z5,.int .i64 z6,.int .i64 z7] 100)).heap[w.heap.size+1]? = some (.cells #[.int .i64 0] 28 (0,0)):=(hb1.block _ (by omega)).trans hbox
        have p6a:=cell_kept hb1 p6
        clear c0 c1 c2 c3 c4 c5 c6 c7 hx8 hxc hx hxm p0 p1 p2 p3 p4 p5 p6 p7
        by_cases hI:insideB y6 z6=true
        ·rw [hI] at hbit
         have hg2:Hid ((ks.drop (i+1)).all (fun k=>insideB y6 (k.getD 6 0))=goodM ss (s,[y0,y1,y2,y3,y4,y5,y6,(q:Int)])):=by
          show _=_
          rw [← hg.out,hdr.out]
          show _=(insideB y6 z6 && _)
          rw [hI,Bool.true_and]
         have hbit':(bits .andNot .i64 y6 z6 != 0)=false:=hbit
         clear hg hdr hI hbit
         gi_wp2
         go_roundw
         case rel=>exact ⟨i+1,by omega,by go_num,hg2,hb1⟩
         case measure=>simp [intOf]; omega
        ·have hI2:=eq_false_of_ne_true hI
         rw [hI2] at hbit
         have hbit':(bits .andNot .i64 y6 z6 != 0)=true:=hbit
         have hgr:Hid (growsB ss=false):=by
          show _=_
          have h1:goodM ss (s,[y0,y1,y2,y3,y4,y5,y6,(q:Int)])=false:=by
           rw [← hg.out,hdr.out]
           show (insideB y6 z6 && _)=_
           rw [hI2,Bool.false_and]
          rw [← grows_mvs,Bool.eq_false_iff]
          intro h
          have:=List.all_eq_true.1 h _ hmemL.out
          rw [h1] at this
          cases this
         have hcE:=cell_of_one kEi
         have hfE:=free_of_one kEi
         have hset:=one_setCell (u:=.int .i64 21) kEi
         clear hg hdr hI hI2 hbit
         gi_wp2
         exact ⟨D,(Only.of_below hb1).setCell (p:=⟨w.heap.size+1,0,none⟩) ((hD _).2 rfl) _,Gr.refl _ _,fun j hj=>by have h:=Nat.lt_of_lt_of_le (hBd j hj) hb1.size; simpa [World.setCell] using h,⟨⟨hD,hset⟩,rfl,hgr.out⟩⟩
       ·obtain rfl:i=ks.length:=by omega
        have hg2:Hid (goodM ss (s,[y0,y1,y2,y3,y4,y5,y6,(q:Int)])=true):=by show _=_; rw [← hg.out,List.drop_length]; rfl
        clear hg
        gi_wp2
        exact ⟨D,Only.of_below hbi,Gr.refl _ _,fun j hj=>Nat.lt_of_lt_of_le (hBd j hj) hbi.size,⟨⟨hD,(hbi.block _ (by omega)).trans hbox⟩,by rw [List.all_append,hall,Bool.true_and]; simp [hg2.out]⟩⟩
     case done=>
      intro d xs D W hS hI hOn hGr hd hnd hdef
      obtain ⟨⟨hD,hbox⟩,hall⟩:=hI
      have hF:=Lib.hid (show chkA n ss=0 by rw [hG.out,← hG3.out,if_pos (by rw [← grows_mvs,← hS]; exact hall)])
      have hcE:=cell_of_one hbox
      have hfE:=free_of_one hbox
      have hset:=one_setCell (u:=.int .i64 0) hbox
      clear hall hS
      have hdne:d ≠ w.heap.size+1:=by omega
      have hbE:=((hbW.trans (hOn.below hbW.size (fun i hi=>by omega))).setCell (p:=⟨w.heap.size+1,0,none⟩) (by show w.heap.size≤w.heap.size+1; omega) (.int .i64 0))
      go_wp2
      refine ⟨by simp,.inl ⟨_,_,rfl,run_takeDeferred ((Below.heap_setCell W ⟨w.heap.size+1,0,none⟩ _ d hdne).trans hdef),?_⟩⟩
      exact ⟨_,results_cellE rfl _ _ (w.heap.size+1) 0 rfl (cell_of_one ((World.putObj_heap_other (by omega)).trans hset)),by rw [hF.out],below_putObj hbE (by omega) _⟩
     case stop=>
      rintro d c pre D W _ ⟨⟨hD,hbox⟩,rfl,hgr⟩ hOn hGr hd hnd hdef
      have hF:=Lib.hid (show chkA n ss=21 by rw [hG.out,← hG3.out,if_neg (by rw [hgr]; decide)])
      have hbE:=hbW.trans (hOn.below hbW.size (fun i hi=>by omega))
      gi_wp2
      refine ⟨by simp,.inl ⟨_,_,rfl,run_takeDeferred hdef,?_⟩⟩
      exact ⟨_,results_cellE rfl _ _ (w.heap.size+1) 21 rfl (cell_of_one ((World.putObj_heap_other (by omega)).trans hbox)),by rw [hF.out],below_putObj hbE (by omega) _⟩
end Go.Proofs.YtmikofeildnpdaaGreat

/- What is known of an adversary without an error; the search ends: plain lists. -/
namespace Go.Proofs.YtmikofeildnpdaaGreat
open Go.RowKit
theorem chkA_facts {n:Int} {ss:List (List (List Int))} (h:chkA n ss=0):(1≤n∧n≤5)∧(1≤ss.length∧ss.length≤256∧movesN ss≤4096)∧ssGo n ss.length ss=0∧growsB ss=true:=by
 unfold chkA at h
 by_cases h1:n < 1∨5 < n
 ·rw [if_pos h1] at h; cases h
 rw [if_neg h1] at h
 by_cases h2:ss.length < 1∨256 < ss.length∨4096 < movesN ss
 ·rw [if_pos h2] at h; cases h
 rw [if_neg h2] at h
 by_cases h3:ssGo n ss.length ss ≠ 0
 ·rw [if_pos h3] at h; exact absurd h h3
 rw [if_neg h3] at h
 by_cases h4:growsB ss=true
 ·exact ⟨by omega,by omega,Decidable.not_not.1 h3,h4⟩
 ·rw [if_neg h4] at h; cases h
end Go.Proofs.YtmikofeildnpdaaGreat

/- canonical.canonical. -/
namespace Go.Proofs.YtmikofeildnpdaaGreat
open Go.RowKit Go.ChangeMaps Go.MapKept
theorem row_free {w:World} {b:Nat} {cs:Array Value} {t:TypeId} (h:w.heap[b]? = some (.cells cs t)) (j:Nat):w.frozen? ⟨b,j,none⟩=false:=by simp [World.frozen?,h]
end Go.Proofs.YtmikofeildnpdaaGreat

/- Equality of adversaries. -/
namespace Go.Proofs.YtmikofeildnpdaaGreat
open Go.RowKit
theorem takes_next {α:Type} {xs ys:List α} {i:Nat} (h:xs.take i=ys.take i) (hx:i < xs.length) (hy:i < ys.length) {d:α} (he:xs.getD i d=ys.getD i d):xs.take (i+1)=ys.take (i+1):=by
 rw [take_snoc hx d,take_snoc hy d,h,he]
theorem takes_all {α:Type} {xs ys:List α} {i:Nat} (h:xs.take i=ys.take i) (hx:i=xs.length) (hy:i=ys.length):xs=ys:=by
 have h1:xs.take i=xs:=List.take_of_length_le (by omega)
 have h2:ys.take i=ys:=List.take_of_length_le (by omega)
 rw [← h1,← h2,h]
theorem Qt.step {a b:World} (h:Qt a b) (n:Nat):Qt a (b.drewN n):=h.trans (Qt.mk' b n)
end Go.Proofs.YtmikofeildnpdaaGreat

/- Classes, Canonical, Is and Equal. -/
namespace Go.Proofs.YtmikofeildnpdaaGreat
open Go.RowKit Go.ChangeMaps Go.MapKept
theorem boxAdv {w:World} {n:Int} {a:Option Addr} {l c:Nat} {w1:World} (hw:w1=w.alloc (.cells #[.int .i64 n,.slice a l c] 24)) :
  Below w.heap.size w w1∧w1.cell? ⟨w.heap.size,0,none⟩=some (.int .i64 n)∧w1.cell? ⟨w.heap.size,1,none⟩=some (.slice a l c)∧w1.heap[w.heap.size]? = some (.cells #[.int .i64 n,.slice a l c] 24):=by
 have h:=heap_alloc_new w (.cells #[.int .i64 n,.slice a l c] 24)
 rw [← hw] at h
 refine ⟨by rw [hw]; exact (Below.refl _ w).alloc (Nat.le_refl _) _,?_,?_,h⟩
 ·rw [cell_of_row _ _ 0 _ _ _ h]; rfl
 ·rw [cell_of_row _ _ 1 _ _ _ h]; rfl
end Go.Proofs.YtmikofeildnpdaaGreat

/- canonical.to and canonical.after. -/
namespace Go.Proofs.YtmikofeildnpdaaGreat
open Go.RowKit
def toI (r:List Int):List (List Int)→Int
 | []=>-1
 | m::ms=>if rdOf m=r then m.getD 7 0 else toI r ms
theorem box7CI {w:World} {b:Nat} {x0 x1 x2 x3 x4 x5 x6:Int} {t:TypeId} (h:w.heap[b]? = some (.cells #[.int .i64 x0,.int .i64 x1,.int .i64 x2,.int .i64 x3,.int .i64 x4,.int .i64 x5,.int .i64 x6] t)):CI w b 0 [x0,x1,x2,x3,x4,x5,x6]:=by
 intro j hj
 rw [cell_of_row w b (0+j) _ _ _ h]
 match j,hj with
 | 0,_=>rfl
 | 1,_=>rfl
 | 2,_=>rfl
 | 3,_=>rfl
 | 4,_=>rfl
 | 5,_=>rfl
 | 6,_=>rfl
end Go.Proofs.YtmikofeildnpdaaGreat

/- canonical.after. -/
namespace Go.Proofs.YtmikofeildnpdaaGreat
open Go.RowKit
def LeadOK (ss:List (List (List Int))):Prop:=∀ s∈ss,∀ m∈s,0≤m.getD 7 0∧m.getD 7 0 < (ss.length:Int)
theorem toI_ge (r:List Int) {n:Int}:∀ {ms:List (List Int)},(∀ m∈ms,0≤m.getD 7 0∧m.getD 7 0 < n)→0 < n→-1≤toI r ms∧toI r ms < n
 | [],_,_=>by simp only [toI]; omega
 | m::ms,h,hn=>by
  unfold toI
  split
  ·have:=h m (by simp); omega
  ·exact toI_ge r (fun x hx=>h x (by simp [hx])) hn
theorem toI_st {ss:List (List (List Int))} (h:LeadOK ss) {s:Nat} (hs:s < ss.length) (r:List Int) : -1≤toI r (ss.getD s [])∧toI r (ss.getD s []) < (ss.length:Int):=
 toI_ge r (fun m hm=>h _ (by rw [getD_eq hs] at hm; exact List.getElem_mem hs) m (by rw [getD_eq hs] at hm; exact hm)) (by omega)
theorem advShape' {w:World} {v:Value} {n:Int} {ss:List (List (List Int))} (h:AdvV w v n ss):∃ a c,v = .agg #[.int .i64 n,.slice a ss.length c]:=by
 obtain ⟨sv,rfl,hK⟩:=h
 obtain ⟨a,c,rfl⟩:=hK.shape
 exact ⟨a,c,rfl⟩
end Go.Proofs.YtmikofeildnpdaaGreat

/- The first word that tells two states apart: plain lists. -/
namespace Go.Proofs.YtmikofeildnpdaaGreat
theorem cmpL_cons (a b:Int) (xs ys:List Int):cmpL (a::xs) (b::ys) < 0↔a < b∨(a=b∧cmpL xs ys < 0):=by
 simp only [cmpL,cmpI]
 by_cases h1:a < b
 ·simp [h1]
 ·by_cases h2:b < a
  ·simp [h1,h2,show a ≠ b by omega]
  ·obtain rfl:a=b:=by omega
   simp
theorem cmpL_nil_cons (b:Int) (ys:List Int):cmpL [] (b::ys) < 0:=by simp [cmpL]
theorem cmpL_any_nil:∀ xs:List Int,¬ cmpL xs [] < 0
 | []=>by simp [cmpL]
 | _::_=>by simp [cmpL]
theorem cmpL_asymm:∀ a b:List Int,cmpL a b < 0→¬ cmpL b a < 0
 | xs,[],h=>absurd h (cmpL_any_nil xs)
 | [],_::_,_=>cmpL_any_nil _
 | a::xs,b::ys,h=>by
  rw [cmpL_cons] at h ⊢
  rintro (h2 | ⟨h2,h3⟩)
  ·rcases h with h | ⟨h,_⟩ <;> omega
  ·rcases h with h | ⟨_,h⟩
   ·omega
   ·exact cmpL_asymm xs ys h h3
theorem cmpL_trans:∀ a b c:List Int,cmpL a b < 0→cmpL b c < 0→cmpL a c < 0
 | xs,[],_,h,_=>absurd h (cmpL_any_nil xs)
 | _,ys,[],_,h=>absurd h (cmpL_any_nil ys)
 | [],_::_,c::zs,_,_=>cmpL_nil_cons c zs
 | a::xs,b::ys,c::zs,h,k=>by
  rw [cmpL_cons] at h k ⊢
  rcases h with h | ⟨rfl,h⟩ <;> rcases k with k | ⟨rfl,k⟩
  ·left; omega
  ·exact .inl h
  ·exact .inl k
  ·exact .inr ⟨rfl,cmpL_trans xs ys zs h k⟩
theorem cmpL_total:∀ a b:List Int,cmpL a b < 0∨a=b∨cmpL b a < 0
 | [],[]=>.inr (.inl rfl)
 | [],b::ys=>.inl (cmpL_nil_cons b ys)
 | a::xs,[]=>.inr (.inr (cmpL_nil_cons a xs))
 | a::xs,b::ys=>by
  rw [cmpL_cons,cmpL_cons]
  rcases Int.lt_trichotomy a b with h | rfl | h
  ·exact .inl (.inl h)
  ·rcases cmpL_total xs ys with h | rfl | h
   ·exact .inl (.inr ⟨rfl,h⟩)
   ·exact .inr (.inl rfl)
   ·exact .inr (.inr (.inr ⟨rfl,h⟩))
  ·exact .inr (.inr (.inl h))
theorem cmpL_ntrans (a b c:List Int) (h : ¬ cmpL a b < 0) (k : ¬ cmpL b c < 0) : ¬ cmpL a c < 0:=by
 intro hc
 rcases cmpL_total a b with h1 | rfl | h1
 ·exact h h1
 ·exact k hc
 ·exact k (cmpL_trans b a c h1 hc)
theorem sorted_unique {α:Type} {lt:α→α→Prop} (has:∀ a b,lt a b→¬ lt b a):∀ {l1 l2:List α},l1.Pairwise lt→l2.Pairwise lt→(∀ x,x∈l1↔x∈l2)→l1=l2
 | [],[],_,_,_=>rfl
 | [],b::t2,_,_,h=>absurd ((h b).2 (List.mem_cons_self ..)) (by simp)
 | a::t1,[],_,_,h=>absurd ((h a).1 (List.mem_cons_self ..)) (by simp)
 | a::t1,b::t2,h1,h2,h=>by
  rw [List.pairwise_cons] at h1 h2
  have hab:a=b:=by
   rcases List.mem_cons.1 ((h a).1 (List.mem_cons_self ..)) with h3 | h3
   ·exact h3
   ·rcases List.mem_cons.1 ((h b).2 (List.mem_cons_self ..)) with h4 | h4
    ·exact h4.symm
    ·exact absurd (h2.1 a h3) (has _ _ (h1.1 b h4))
  subst hab
  rw [sorted_unique has h1.2 h2.2 fun x=>⟨fun hx=>?_,fun hx=>?_⟩]
  ·rcases List.mem_cons.1 ((h x).1 (List.mem_cons_of_mem _ hx)) with h3 | h3
   ·subst h3; exact absurd (h1.1 x hx) (fun h=>has _ _ h h)
   ·exact h3
  ·rcases List.mem_cons.1 ((h x).2 (List.mem_cons_of_mem _ hx)) with h3 | h3
   ·subst h3; exact absurd (h2.1 x hx) (fun h=>has _ _ h h)
   ·exact h3
def AscL (l:List (List Int)):Prop:=l.Pairwise fun a b=>cmpL a b < 0
abbrev It:=(Nat × Nat) × List (List Int)
theorem toI_self {r:List Int}:∀ {ms:List (List Int)},(∀ m∈ms,0≤m.getD 7 0)→r∈ms.map rdOf→0≤toI r ms
 | [],_,h=>by cases h
 | m::ms,h,hr=>by
  unfold toI
  split
  ·exact h m (by simp)
  ·rename_i hne
   rw [List.map_cons] at hr
   rcases List.mem_cons.1 hr with hr | hr
   ·exact absurd hr.symm hne
   ·exact toI_self (fun x hx=>h x (by simp [hx])) hr
end Go.Proofs.YtmikofeildnpdaaGreat

/- Rows of slices of ints that a call makes itself; appending whole rows. -/
namespace Go.Proofs.YtmikofeildnpdaaGreat
open Go.RowKit
theorem elemSl:ElemOK Tryz.prog 39 25 (.slice none 0 0) 24:=⟨by kernel_rfl,by kernel_rfl,rfl⟩
def SrcOf (w:World) (u:Value) (news:List Value):Prop:=
 (u = .slice none 0 0∧news = [])∨∃ ad c,u = .slice (some ad) news.length c∧(∀ j x,news[j]? = some x→w.cell? (ad.add j)=some x)∧∀ x∈news,x.oneCell'=true
theorem SrcOf.own {w:World} {B:Nat} {E:TypeId} {v:Value} {n:Nat} {vs:List Value} (h:w.ownsRow B E 1 v n vs) (h1:∀ x∈vs,x.oneCell'=true):SrcOf w v vs:=by
 rcases h.2 with ⟨h',hn⟩ | ⟨g,cap,cur,hv,hb,hg,hr⟩
 ·exact .inl ⟨h',List.length_eq_zero_iff.1 (by have:=h.1; omega)⟩
 ·have hl:vs.length=n:=by have:=h.1; omega
  refine .inr ⟨⟨g,0,none⟩,cap,by rw [hv,hl],?_,h1⟩
  exact h.cells (g:=g) (by rw [hv]; rfl)
theorem wpAppMany {P:Program} {T E:TypeId} {z:Value} {bytes:Nat} (hE:ElemOK P T E z bytes) (hby:bytes≤64) {w:World}
  {ops:Array Oper} {rest:List Oper} {o:Oper} {a:Act} {Q:Exit→Act→World→Prop} (hgd:o.guard=none) (s x:Operand)
  (ho:o.op = .call { callee:=.builtin .append,args:=#[s,x],argTypes:=#[T,T] })
  {B:Nat} {v:Value} {n:Nat} {xs:List Value} (hs:a.eval s=v) (hown:w.ownsRow B E 1 v n xs) {u:Value} {news:List Value} (hx:a.eval x=u) (hsrc:SrcOf w u news)
  (hn:n+news.length≤1000000000000) (hB:B≤w.heap.size)
  (h:∀ v' w',w'.ownsRow B E 1 v' (n+news.length) (xs++news)→w.grownBy w' v.ownBlock→Below B w w'→wpList P ops Q rest (a.put o.dst v') w') :
  wpList P ops Q (o::rest) a w:=by
 obtain ⟨i0,hi,hz0,hz1,hz2⟩:=info_parts hE.2.1
 rcases hsrc with ⟨rfl,rfl⟩ | ⟨ad,c,rfl,hc,h1⟩
 ·refine wpList_append_own_none hgd s x T ho B E i0 1 hE.1 hi v n xs hs hown hx ?_
  exact h v w (by simpa using hown) (World.grownBy.refl _ _) (Below.refl _ _)
 ·refine wpList_append_own w hgd s x T ho B E i0 z 1 bytes hE.1 hi hz0 hz1 hz2 (by rw [hE.2.2]; rfl) (by decide) v n xs hs hown ad news.length c news hx (by omega) hc h1 (by unfold maxLen; omega) ?_ hB fun v' w' h1 h2 _=>?_
  ·have:(n+news.length) * bytes≤1000000000000 * 64:=Nat.mul_le_mul hn hby
   omega
  ·exact h v' w' h1 h2 ((Below.refl B w).grown h2 hB (fun k hk=>(hown.lt k hk).1))
theorem OI.otherO {w w':World} {B B':Nat} {u v:Value} {n k:Nat} {xs:List Int} {vs:List Value} (h:OI w B u n xs) (ho:w.ownsRow B' 25 1 v k vs) (hg:w.grownBy w' v.ownBlock):OI w' B u n xs:=by
 refine ⟨h.1,?_⟩
 rcases h.2 with h' | ⟨g,cap,cur,h1,h2,h3,h4⟩
 ·exact .inl h'
 ·refine .inr ⟨g,cap,cur,h1,h2,(hg.block g (Array.getElem?_eq_some_iff.1 h3).1 ?_).trans h3,h4⟩
  intro e
  rcases ho.2 with ⟨rfl,_⟩ | ⟨g',cap',cur',rfl,_,h5,_⟩
  ·cases e
  ·simp only [Value.ownBlock,Option.some.injEq] at e
   subst e
   rw [h3] at h5
   simp at h5
def OII (w:World) (B:Nat) (v:Value) (n:Nat) (xss:List (List Int)):Prop:=
 ∃ vs,w.ownsRow B 25 1 v n vs∧xss.length=n∧(∀ x∈vs,x.oneCell'=true)∧∀ j,j < n→OI w 0 (vs.getD j undef) (xss.getD j []).length (xss.getD j [])
theorem OII.length {w:World} {B:Nat} {v:Value} {n:Nat} {xss:List (List Int)} (h:OII w B v n xss):xss.length=n:=by obtain ⟨_,_,h,_⟩:=h; exact h
theorem ownsRow_keep {w w':World} {B:Nat} {E:TypeId} {v:Value} {n:Nat} {xs:List Value} (h:w.ownsRow B E 1 v n xs) (hb:Below w.heap.size w w'):w'.ownsRow B E 1 v n xs:=by
 refine ⟨h.1,?_⟩
 rcases h.2 with h' | ⟨g,cap,cur,h1,h2,h3,h4⟩
 ·exact .inl h'
 ·exact .inr ⟨g,cap,cur,h1,h2,(hb.block g (Array.getElem?_eq_some_iff.1 h3).1).trans h3,h4⟩
theorem ownsRow_base {w:World} {B B':Nat} {E:TypeId} {v:Value} {n:Nat} {xs:List Value} (h:w.ownsRow B E 1 v n xs) (hb:B'≤B):w.ownsRow B' E 1 v n xs:=by
 refine ⟨h.1,?_⟩
 rcases h.2 with h' | ⟨g,cap,cur,h1,h2,h3⟩
 ·exact .inl h'
 ·exact .inr ⟨g,cap,cur,h1,by omega,h3⟩
theorem OII.keep {w w':World} {B:Nat} {v:Value} {n:Nat} {xss:List (List Int)} (h:OII w B v n xss) (hb:Below w.heap.size w w'):OII w' B v n xss:=by
 obtain ⟨vs,h1,h2,h4,h3⟩:=h
 exact ⟨vs,ownsRow_keep h1 hb,h2,h4,fun j hj=>(h3 j hj).keep hb⟩
theorem OII.base {w:World} {B B':Nat} {v:Value} {n:Nat} {xss:List (List Int)} (h:OII w B v n xss) (hb:B'≤B):OII w B' v n xss:=by
 obtain ⟨vs,h1,h2⟩:=h
 exact ⟨vs,ownsRow_base h1 hb,h2⟩
theorem OII.nil (w:World) (B:Nat):OII w B (.slice none 0 0) 0 []:=⟨[],World.ownsRow_nil w B 25 1,rfl,by simp,by simp⟩
theorem OII.intss {w:World} {B:Nat} {v:Value} {n:Nat} {xss:List (List Int)} (h:OII w B v n xss) (hn:n≤5864062014805) (hl:∀ x∈xss,x.length≤17592186044416):Intss w v xss:=by
 obtain ⟨vs,h1,rfl,_,h3⟩:=h
 have hvl:vs.length=xss.length:=by have:=h1.1; omega
 rcases h1.2 with ⟨rfl,h'⟩ | ⟨g,cap,cur,rfl,h2,h4,h5,h6,h7,h8⟩
 ·obtain rfl:xss = []:=List.length_eq_zero_iff.1 h'
  exact ⟨none,0,0,0,rfl,by simp,by intro j hj; simp at hj,by simp⟩
 ·refine ⟨_,cap,g,0,rfl,fun _=>rfl,fun j hj=>⟨vs.getD j undef,?_,(h3 j hj).ints ?_⟩,hn⟩
  ·rw [Nat.zero_add,cell_of_row w g j cur 25 (0,0) h4]
   have:(cur.toList.take (xss.length * 1))[j]? = some (vs.getD j undef):=by rw [h8]; simp [show j < vs.length by omega]
   rw [List.getElem?_take,if_pos (by omega)] at this
   simpa using this
  ·rw [getD_eq hj]; exact hl _ (List.getElem_mem hj)
theorem getD_append_left' {α:Type} {xs ys:List α} {j:Nat} (h:j < xs.length) (d:α):(xs++ys).getD j d=xs.getD j d:=by
 simp [List.getElem?_append_left h]
theorem getD_append_right' {α:Type} {xs ys:List α} {j:Nat} (h:xs.length≤j) (d:α):(xs++ys).getD j d=ys.getD (j - xs.length) d:=by
 simp [List.getElem?_append_right h]
theorem wpApp1S {w0:World} {u:Value} {x:List Int} {t:TypeId} {ops:Array Oper} {rest:List Oper} {o:Oper} {a:Act} {Q:Exit→Act→World→Prop} (hgd:o.guard=none) (s y:Operand)
  (ho:o.op = .call { callee:=.builtin .append,args:=#[s,y],argTypes:=#[39,39] })
  {B:Nat} {v:Value} {n:Nat} {xss:List (List Int)} (hs:a.eval s=v) (hown:OII w0 B v n xss) (hx:a.eval y = .slice (some ⟨w0.heap.size,0,none⟩) 1 1)
  (hu:OI w0 0 u x.length x) (hu1:u.oneCell'=true) (hn:n≤1000000000000) (hB:B≤w0.heap.size)
  (h:∀ v' w',OII w' B v' (n+1) (xss ++ [x])→Below B w0 w'→(∀ B' u' n' x',OI w0 B' u' n' x'→OI w' B' u' n' x')→wpList Tryz.prog ops Q rest (a.put o.dst v') w') :
  wpList Tryz.prog ops Q (o::rest) a (w0.alloc (.cells #[u] t)):=by
 obtain ⟨vs,h1,h2,h4,h3⟩:=hown
 have hvl:vs.length=n:=by have:=h1.1; omega
 refine wpApp1 elemSl (by decide) hgd s y ho hs h1 hx hu1 hn hB fun v' w' k1 k2 k3=>?_
 have ki:∀ B' u' n' x',OI w0 B' u' n' x'→OI w' B' u' n' x':=fun B' u' n' x' hh=>hh.otherO h1 k2
 refine h v' w' ⟨vs ++ [u],k1,by simp [h2],?_,fun j hj=>?_⟩ k3 ki
 ·intro y hy
  rcases List.mem_append.1 hy with hy | hy
  ·exact h4 y hy
  ·rw [List.mem_singleton.1 hy]; exact hu1
 ·by_cases hjn:j < n
  ·rw [getD_append_left' (by omega),getD_append_left' (by omega)]
   exact ki _ _ _ _ (h3 j hjn)
  ·obtain rfl:j=n:=by omega
   rw [getD_append_right' (by omega),getD_append_right' (by omega),hvl,h2,Nat.sub_self]
   exact ki _ _ _ _ hu
theorem wpAppManyS {w:World} {ops:Array Oper} {rest:List Oper} {o:Oper} {a:Act} {Q:Exit→Act→World→Prop} (hgd:o.guard=none) (s y:Operand)
  (ho:o.op = .call { callee:=.builtin .append,args:=#[s,y],argTypes:=#[39,39] })
  {B B2:Nat} {v v2:Value} {n m:Nat} {xss yss:List (List Int)} (hs:a.eval s=v) (hown:OII w B v n xss) (hx:a.eval y=v2) (hsrc:OII w B2 v2 m yss)
  (hn:n+m≤1000000000000) (hB:B≤w.heap.size)
  (h:∀ v' w',OII w' B v' (n+m) (xss++yss)→Below B w w'→(∀ B' u' n' x',OI w B' u' n' x'→OI w' B' u' n' x')→wpList Tryz.prog ops Q rest (a.put o.dst v') w') :
  wpList Tryz.prog ops Q (o::rest) a w:=by
 obtain ⟨vs,h1,h2,h4,h3⟩:=hown
 obtain ⟨us,g1,g2,g4,g3⟩:=hsrc
 have hvl:vs.length=n:=by have:=h1.1; omega
 obtain rfl:us.length=m:=by have:=g1.1; omega
 refine wpAppMany elemSl (by decide) hgd s y ho hs h1 hx (SrcOf.own g1 g4) hn hB fun v' w' k1 k2 k3=>?_
 have ki:∀ B' u' n' x',OI w B' u' n' x'→OI w' B' u' n' x':=fun B' u' n' x' hh=>hh.otherO h1 k2
 refine h v' w' ⟨vs++us,k1,by simp [h2,g2],?_,fun j hj=>?_⟩ k3 ki
 ·intro y hy
  rcases List.mem_append.1 hy with hy | hy
  ·exact h4 y hy
  ·exact g4 y hy
 ·by_cases hjn:j < n
  ·rw [getD_append_left' (by omega),getD_append_left' (by omega)]
   exact ki _ _ _ _ (h3 j hjn)
  ·rw [getD_append_right' (by omega),getD_append_right' (by omega),hvl,h2]
   exact ki _ _ _ _ (g3 (j - n) (by omega))
theorem oneCell_slice {w:World} {B:Nat} {v:Value} {n:Nat} {xs:List Int} (h:OI w B v n xs):v.oneCell'=true:=by
 rcases h.2 with ⟨rfl,_⟩ | ⟨g,cap,cur,rfl,_⟩ <;> rfl
theorem ints_oneCell (xs:List Int):∀ x∈xs.map (Value.int .i64),x.oneCell'=true:=by
 intro x hx; obtain ⟨y,_,rfl⟩:=List.mem_map.1 hx; rfl
theorem wpAppManyI {w:World} {ops:Array Oper} {rest:List Oper} {o:Oper} {a:Act} {Q:Exit→Act→World→Prop} (hgd:o.guard=none) (s x:Operand)
  (ho:o.op = .call { callee:=.builtin .append,args:=#[s,x],argTypes:=#[25,25] })
  {B B2:Nat} {v v2:Value} {n m:Nat} {xs ys:List Int} (hs:a.eval s=v) (hown:OI w B v n xs) (hx:a.eval x=v2) (hsrc:OI w B2 v2 m ys)
  (hn:n+m≤1000000000000) (hB:B≤w.heap.size)
  (h:∀ v' w',OI w' B v' (n+m) (xs++ys)→w.grownBy w' v.ownBlock→Below B w w'→wpList Tryz.prog ops Q rest (a.put o.dst v') w') :
  wpList Tryz.prog ops Q (o::rest) a w:=by
 obtain rfl:=hsrc.length
 refine wpAppMany elemInt (by decide) hgd s x ho hs hown hx (SrcOf.own hsrc (ints_oneCell ys)) (by simpa using hn) hB fun v' w' k1 k2 k3=>h v' w' ?_ k2 k3
 unfold OI; rw [List.map_append]; simpa using k1
end Go.Proofs.YtmikofeildnpdaaGreat

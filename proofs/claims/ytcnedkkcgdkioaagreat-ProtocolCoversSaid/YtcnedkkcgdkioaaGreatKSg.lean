/- Texts of this claim, put together: B3 P1 E5 E8 H0 TA H1. -/
import Derived.Test.YtcnedkkcgdkioaaGreatKSf
import Derived.Laws.Rows

set_option maxRecDepth 100000
set_option maxHeartbeats 12800000
namespace Go.Proofs.YtcnedkkcgdkioaaGreat
open Go.RowKit
attribute [local go_sem] Oper.semAt_some
theorem andNot_ok:((List.range 32).all fun x=>(List.range 32).all fun y=>decide ((bits .andNot .i64 (x:Int) (y:Int) != 0) = !insideB x y))=true:=by decide +kernel
theorem andNot_in {x y:Int}(h0:0<=x) (h1:x<=31) (k0:0<=y) (k1:y<=31):(bits .andNot .i64 x y != 0) = !insideB x y:=by
 have:=List.all_eq_true.1 (List.all_eq_true.1 andNot_ok x.toNat (by rw[List.mem_range];omega)) y.toNat (by rw[List.mem_range];omega)
 have:=of_decide_eq_true this
 rwa [show((x.toNat:Nat):Int)=x by omega,show((y.toNat:Nat):Int)=y by omega] at this
def goodM (ss:Jc) (x:Nat × List Int):Bool:=gr3 (x.2.getD 6 0) (ss.getD (x.2.getD 7 0).toNat [])
theorem mvs_all (f:List Int->Bool):∀(ss:Jc) (k:Nat),(mvs k ss).all (fun x=>f x.2)=ss.all fun ms=>ms.all f
 | [],_=>rfl
 | l::r,k=>by
  rw[mvs,List.all_append,mvs_all f r,List.all_cons,List.all_map];rfl
theorem grows_mvs (ss:Jc):(mvs 0 ss).all (goodM ss)=growsB ss:=mvs_all (fun m=>gr3 (m.getD 6 0) (ss.getD (m.getD 7 0).toNat [])) ss 0
theorem mvs_mem:∀ {ss:Jc}{k:Nat}{x:Nat × List Int},x∈mvs k ss->∃ms∈ss,x.2∈ms
 | [],_,_,h=>by cases h
 | l::r,k,x,h=>by
  rw[mvs,List.mem_append] at h;rcases h with h|h
  ·obtain⟨m,hm,rfl⟩:=List.mem_map.1 h;exact⟨l,by simp,hm⟩
  ·obtain⟨ms,h1,h2⟩:=mvs_mem h;exact⟨ms,by simp[h1],h2⟩
def BoxE (Bn:Nat) (D:Nat->Prop) (W:World) (n:Int):Prop:=(∀k,D k↔k=Bn)/\W.heap[Bn]? = some (.cells #[.int .i64 n] 41 (0,0))
theorem BoxE.stable {α:Type}(Bn:Nat) (n:Int) (p:List α->Prop):Stable (fun pre D W=>BoxE Bn D W n/\p pre):=fun _ _ _ _ h _ hk=>⟨⟨h.1.1,(hk Bn ((h.1.1 Bn).2 rfl)).trans h.1.2⟩,h.2⟩
theorem results_cellE {fn:Func}{p:Tmp}(h:fn.results = #[.cell p 41]) (tmps:Array Value) (w:World) (g:Nat) (x:Int) (hp:tmps.getD p undef = .pointer (some ⟨g,0,none⟩)) (hc:w.cell? ⟨g,0,none⟩=some (.int .i64 x)) :
  (results fn tmps).run Tryz.prog w = .ok (.int .i64 x) w:=by
 have hp':tmps[p]?.getD undef = .pointer (some ⟨g,0,none⟩):=by simpa using hp
 have u:=Tryz.underlying41;have a:=Tryz.isAgg41;have z:=Tryz.sizeOf41;simp only[results,h];simp[Sem.run_bind,Result.andThen,hp',asAddr,loadVar]
 go_simp
theorem checkA {w:World}{v:Value}{n:Int}{ss:Jc}(hA:AdvV w v n ss) (hN:movesN ss<=1000000000) :
  Calls Tryz.prog 189 #[v] w fun e w'=>e = .returned (.int .i64 (chkA n ss))/\Below w.heap.size w w':=by
 have h8:=hA.len8;have hA':=hA;obtain⟨sv,rfl,hK⟩:=hA';have hK':=hK;obtain⟨sa,sc,sb,so,rfl,hsa,hsc,hsl⟩:=hK';refine callsIn_wide.1 (callsIn_of_wp_marks (n:=0) Tryz.func189 rfl trivial ?_);simp only[Tryz.ntmps189,List.size_toArray,List.length_cons,List.length_nil,Nat.reduceAdd,Nat.reduceSub,Array.replicate_succ,Array.replicate_zero,List.push_toArray,List.append_toArray,List.nil_append,List.cons_append];refine wpIn_wide.2 ?_;obtain⟨W1,hW1⟩:=exF ((w.alloc (.cells #[.int .i64 n,.slice sa ss.length sc] 27)).alloc (.cells #[.int .i64 0] 41));have hs1:W1.heap.size=w.heap.size+2:=by rw[hW1];simp
 have hb:Below w.heap.size w W1:=by rw[hW1];exact((Below.refl _ w).alloc (Nat.le_refl _) _).alloc (by simp) _
 have k0:W1.heap[w.heap.size]? = some (.cells #[.int .i64 n,.slice sa ss.length sc] 27):=by
  rw[hW1];exact(Below.heap_alloc _ _ _ (by simp)).trans (World.alloc_heap_new w _)
 have kE:W1.heap[w.heap.size+1]? = some (.cells #[.int .i64 0] 41 (0,0)):=by
  rw[hW1];have:=World.alloc_heap_new (w.alloc (.cells #[.int .i64 n,.slice sa ss.length sc] 27)) (.cells #[.int .i64 0] 41)
  rwa [World.size_alloc] at this
 have hAb:=hA.keep hb;obtain⟨d0,d1⟩:=box2 k0;have hcE:=cell_of_one kE;have hfE:=free_of_one kE;replace hsc:=qH hsc;replace hW1:=qH hW1
 have hnew:∀x:Int,((w.alloc (.cells #[.int .i64 n,.slice sa ss.length sc] 27)).alloc (.cells #[.int .i64 x] 41)).cell? ⟨w.heap.size+1,0,none⟩=some (.int .i64 x):=fun x=>by
  have:=World.alloc_heap_new (w.alloc (.cells #[.int .i64 n,.slice sa ss.length sc] 27)) (.cells #[.int .i64 x] 41)
  rw[World.size_alloc] at this;exact cell_of_one this
 have hbn:∀x:Int,Below w.heap.size w ((w.alloc (.cells #[.int .i64 n,.slice sa ss.length sc] 27)).alloc (.cells #[.int .i64 x] 41)):=fun x=>((Below.refl _ w).alloc (Nat.le_refl _) _).alloc (by simp) _;replace hnew:=qH hnew;replace hbn:=qH hbn;replace hK:=qH hK;by_cases hn:n < 1\/5 < n
 ·have hE:=qH (show chkA n ss=2 by rw[chkA,if_pos hn]);clear d0 d1 hcE hfE k0 kE hb hAb;by_cases hn1:n < 1
  ·have hn1':decide (n < 1)=true:=decide_eq_true hn1;go_wp2_with fail
   exact⟨_,results_cellE rfl _ _ (w.heap.size+1) 2 rfl (hnew.out 2),by rw[hE.out],hbn.out 2⟩
  ·have hn1':decide (n < 1)=false:=decide_eq_false hn1;have hn5':decide (5 < n)=true:=decide_eq_true (by omega);go_wp2_with fail
   exact⟨_,results_cellE rfl _ _ (w.heap.size+1) 2 rfl (hnew.out 2),by rw[hE.out],hbn.out 2⟩
 ·have hn1':decide (n < 1)=false:=decide_eq_false (by omega);have hn5':decide (5 < n)=false:=decide_eq_false (by omega);go_wp2_with fail
  rw[<-hW1.out];clear hnew hbn hW1;refine(sized hAb hN).mono ?_;rintro e w2 ⟨rfl,hb2⟩;have hbB2:=bt hb hb2 hb.size;have k2:=(hb2.block w.heap.size (by omega)).trans k0;have kE2:=(hb2.block (w.heap.size+1) (by omega)).trans kE;have hs2:=hb2.size;have hAb2:=hAb.keep hb2;clear d0 d1 hcE hfE k0 kE hb2 hAb hb;obtain⟨d0,d1⟩:=box2 k2;have hcE:=cell_of_one kE2;have hfE:=free_of_one kE2;have hN2:w.heap.size+2<=w2.heap.size:=by omega
  clear hs1 hs2;by_cases hz:ss.length < 1\/256 < ss.length\/4096 < movesN ss
  ·have hE:=qH (show chkA n ss=5 by rw[chkA,if_neg hn,if_pos hz]);have hsz:szE ss=5:=(by rw[szE,if_pos hz]);rw[hsz];have hset:=one_setCell (u:=.int .i64 5) kE2;have hbs:Below w.heap.size w (w2.setCell ⟨w.heap.size+1,0,none⟩ (.int .i64 5)):=hbB2.setCell (p:=⟨w.heap.size+1,0,none⟩) (by show w.heap.size<=w.heap.size+1;omega) _;clear hz hn hsz;go_wp2_with fail
   exact⟨_,results_cellE rfl _ _ (w.heap.size+1) 5 rfl (cell_of_one hset),by rw[hE.out],hbs⟩
  ·have hsz:szE ss=0:=(by rw[szE,if_neg hz]);rw[hsz];have hl:ss.length<=256:=(by omega);obtain⟨G,hG⟩:=exE (chkA n ss);have hG2:Hid ((if ssGo n ss.length ss ≠ 0 then ssGo n ss.length ss else if growsB ss then 0 else 21)=G):=(by show _=_;rw[<-hG,chkA,if_neg hn,if_neg hz]);have hst0:Hid (ssGo n ss.length ss=0->StOK ss):=stOK_of h8;have hE0:Hid (ssGo n ss.length (ss.drop 0)=ssGo n ss.length ss):=rfl;replace hG:=qH hG;clear hz hn hsz;replace h8:=qH h8;go_wp2_with fail
   go_loopw [27] (fun kv wr=>∃k:Nat,k<=ss.length/\kv = .int .i64 k/\Hid (ssGo n ss.length (ss.drop k)=ssGo n ss.length ss)/\Below w2.heap.size w2 wr) (fun kv _=>ss.length - (intOf kv).toNat)
   case atStart=>exact⟨0,by omega,rfl,hE0,Below.refl _ _⟩
   case round=>
    clear hE0;obtain⟨k,hk,rfl,hg,hbr⟩:=hrel;have hbB:=bt hbB2 hbr hbB2.size;have k3:=(hbr.block w.heap.size (by omega)).trans k2;have kE3:=(hbr.block (w.heap.size+1) (by omega)).trans kE2;have hAr:=hAb2.keep hbr;clear d0 d1 hcE hfE;obtain⟨d0,d1⟩:=box2 k3;have hcE:=cell_of_one kE3;have hfE:=free_of_one kE3;have hNr:w.heap.size+2<=wr.heap.size:=(by have:=hbr.size;omega);by_cases hlt:k < ss.length
    ·obtain rfl:=hsa (by omega);obtain⟨ms,hms⟩:=exE (ss.getD k []);obtain⟨u,hcu,hu⟩:=(hsc.out.keep hbB) k hlt;rw[hms] at hu;have hdr:=qH (by have:=drop_cons hlt ([]:Jb);rw[hms] at this;exact this);have HS:=stateCall hAr hu hl;obtain⟨E,hE⟩:=exE (stErr n ss.length ms);rw[hE] at HS;replace HS:=qH HS;obtain⟨ua,uc,rfl⟩:=hu.shape;clear hu hms;go_wp2_with fail
     refine HS.out.mono ?_;rintro e w4 ⟨rfl,hb4⟩;have k4:=(hb4.block w.heap.size (by omega)).trans k3;have kE4:=(hb4.block (w.heap.size+1) (by omega)).trans kE3;have hbB4:=bt hbB hb4 hbB.size;have hbr4:=bt hbr hb4 hbr.size;clear d0 d1 hcE hfE HS hcu;obtain⟨d0,d1⟩:=box2 k4;have hcE:=cell_of_one kE4;have hfE:=free_of_one kE4;by_cases hz:E=0
     ·have hF:Hid (ssGo n ss.length (ss.drop (k+1))=ssGo n ss.length ss):=(by show _=_;rw[<-hg.out,hdr.out,ssGo,hE,hz];rfl);subst hz;clear hg hdr hE;go_wp2_with fail
      go_roundw
      case rel=>exact⟨k+1,by omega,by go_num,hF,hbr4⟩
      case measure=>simp[intOf];omega
     ·have hz':(E != 0)=true:=by simpa using hz
      have hF:=qH (show chkA n ss=E by
       have hX:ssGo n ss.length ss=E:=(by rw[<-hg.out,hdr.out];exact ssGo_stop hE hz);rw[hG.out,<-hG2.out,if_pos (by rw[hX];exact hz),hX])
      have hset:=one_setCell (u:=.int .i64 E) kE4;have hbs:Below w.heap.size w (w4.setCell ⟨w.heap.size+1,0,none⟩ (.int .i64 E)):=hbB4.setCell (p:=⟨w.heap.size+1,0,none⟩) (by show w.heap.size<=w.heap.size+1;omega) _;clear hg hdr hE hz;go_wp2_with fail
      exact⟨_,results_cellE rfl _ _ (w.heap.size+1) E rfl (cell_of_one hset),by rw[hF.out],hbs⟩
    ·obtain rfl:k=ss.length:=(by omega);have hX:ssGo n ss.length ss=0:=(by rw[<-hg.out,List.drop_length,ssGo]);have hO:=qH (hst0.out hX);have hG3:Hid ((if growsB ss then 0 else 21)=G):=(by have:=hG2.out;rw[hX,if_neg (by decide)] at this;exact this);clear hg hX hst0 hG2;go_wp2_with (go_at_call 219;refine(movesCall _ _ _ _ _).mono ?_;rintro e w5 ⟨rfl,rfl⟩)
     obtain⟨wL,hwL⟩:=exF (wr.alloc (.cells #[.int .i64 n,.slice sa ss.length sc] 27));have hbL:Below wr.heap.size wr wL:=(by rw[hwL];exact(Below.refl _ _).alloc (Nat.le_refl _) _);have hsL:wL.heap.size=wr.heap.size+1:=(by rw[hwL];simp);have kX:wL.heap[wr.heap.size]? = some (.cells #[.int .i64 n,.slice sa ss.length sc] 27):=(by rw[hwL];exact heap_alloc_new _ _);have kL:=(hbL.block w.heap.size (by omega)).trans k3;have kEL:=(hbL.block (w.heap.size+1) (by omega)).trans kE3;have hbW:Below w.heap.size w wL:=bt hbB hbL hbB.size;rw[<-hwL];have hcx:wL.cell? ⟨wr.heap.size,1,none⟩=some (.slice sa ss.length sc):=box_cell kX rfl;obtain⟨X,hX⟩:=exF (wr.heap.size);rw[<-hX] at hcx hsL hNr kX|-;clear hwL d0 d1 hcE hfE k2 kE2 k3 kE3 hbL hbr hbB hbB2 hAb2 hAr hX hN2 hsL kX;have hsL2:w.heap.size+2<=wL.heap.size:=by have:=World.block_lt_of_cell? wL _ hcx;have h:X < wL.heap.size:=this;omega
     refine wpIn_wide.1 (wpIn_rfB (gf:=247) (lb:=#[.pointer (some ⟨X,0,none⟩)]) rfl (enters_of Tryz.func247 (by kernel_rfl) rfl) (mvSeq hK.out hbW hcx) (Below.refl _ _) (fun _=>rfl) mvR_put (fun _ _ _ _ h=>h)
      (fun pre D W=>BoxE (w.heap.size+1) D W 0/\pre.all (goodM ss)=true) (fun c _ D W=>BoxE (w.heap.size+1) D W 21/\(c = .ret/\growsB ss=false)) (BoxE.stable _ _ _) (fun c=>BoxE.stable _ _ _)
      (fun k=>k=w.heap.size+1) (fun k hk=>by rw[hk];omega) (fun k hk=>by omega) (fun k hk=>by rcases hk with rfl|hk;exact World.block_lt_of_cell? wL _ hcx;omega) ⟨⟨fun _=>Iff.rfl,kEL⟩,rfl⟩
      (fun x=>(x.2.map (Value.int .i64)).toArray) 178 (fun x b t=>((t.setIfInBounds 40 (.int .i64 x.1)).setIfInBounds 41 (.agg (x.2.map (Value.int .i64)).toArray)).setIfInBounds 8 (.pointer (some ⟨b,0,none⟩))) ?assign ?body ?done ?stop)
     case assign=>
      rintro l pre ⟨s,m⟩ W K ⟨r,hr⟩ hK;obtain⟨ms,hms,hm⟩:=mvs_mem (x:=(s,m)) (k:=0) (by rw[<-hr];simp);obtain⟨y0,y1,y2,y3,y4,y5,y6,y7,rfl⟩:=eight (h8.out ms hms m hm);clear hr hms hm;simp only[List.setIfInBounds_toArray,List.set_cons_succ,List.set_cons_zero,List.map_cons,List.map_nil] at hK;simp only[mvEnc,List.map_cons,List.map_nil];gi_wp2;exact hK
     case body=>
      rintro l pre ⟨s,m⟩ D W b ⟨⟨hD,hbox⟩,hall⟩ hBd hOn hGr ⟨r,hr⟩ hlen hBb hnb hbb;obtain⟨ms,hms,hm⟩:=mvs_mem (x:=(s,m)) (k:=0) (by rw[<-hr];simp);obtain⟨hm8,⟨hf0,hf1⟩,ht0,ht1⟩:=hO.out ms hms m hm;obtain⟨y0,y1,y2,y3,y4,y5,y6,y7,rfl⟩:=eight hm8;replace hf0:0<=y6:=hf0;replace hf1:y6<=31:=hf1;replace ht0:0<=y7:=ht0;replace ht1:y7 < (ss.length:Int):=ht1;obtain⟨q,rfl⟩:∃q:Nat,y7=(q:Int):=⟨y7.toNat,by omega⟩;have hq:q < ss.length:=(by omega);obtain rfl:=hsa (by omega);obtain⟨ks,hks⟩:=exE (ss.getD q []);have hkm:ks∈ss:=(by rw[<-hks,getD_eq hq];exact List.getElem_mem hq);obtain⟨u,hcu,hu⟩:=hsc.out q hq;rw[hks] at hu
      have hgood:Hid (goodM ss (s,[y0,y1,y2,y3,y4,y5,y6,(q:Int)])=ks.all fun k=>insideB y6 (k.getD 6 0)):=by
       show gr3 y6 (ss.getD ((q:Int)).toNat [])=_;rw[Int.toNat_natCast,hks];rfl
      have hmemL:Hid ((s,[y0,y1,y2,y3,y4,y5,y6,(q:Int)])∈mvs 0 ss):=(by show _∈_;rw[<-hr];simp);have hkO:=qH (hO.out ks hkm);have hsn : ¬sb=w.heap.size+1:=(by have:=World.block_lt_of_cell? w _ hcu;have h:sb < w.heap.size:=this;omega);have hcu2:W.cell? ⟨sb,so+q,none⟩=some u:=hOn.cell (p:=⟨sb,so+q,none⟩) hsn (cell_kept hbW hcu);have kA:=(hOn.same w.heap.size (by omega) (by omega)).trans kL;obtain⟨a0,a1⟩:=box2 kA;simp only[List.map_cons,List.map_nil] at hBb;obtain⟨p0,p1,p2,p3,p4,p5,p6,p7⟩:=box8 hBb;obtain⟨ka,kc,kb,ko,rfl,hka,hkc,hkl⟩:=hu;have hbW':b < W.heap.size:=(Array.getElem?_eq_some_iff.1 hBb).1;clear hr hms hm hm8 hks hkm hcu hlen hN a0;simp only[List.setIfInBounds_toArray,List.set_cons_succ,List.set_cons_zero,List.map_cons,List.map_nil];have hin0:Hid ((ks.drop 0).all (fun k=>insideB y6 (k.getD 6 0))=goodM ss (s,[y0,y1,y2,y3,y4,y5,y6,(q:Int)])):=(by show _=_;rw[List.drop_zero,hgood.out]);clear hgood;gi_wp2;gi_loopw [49] (fun iv wr=>∃i:Nat,i<=ks.length/\iv = .int .i64 i/\Hid ((ks.drop i).all (fun k=>insideB y6 (k.getD 6 0))=goodM ss (s,[y0,y1,y2,y3,y4,y5,y6,(q:Int)]))/\Below W.heap.size W wr) (fun iv _=>ks.length - (intOf iv).toNat)
      case atStart=>exact⟨0,by omega,rfl,hin0,Below.refl _ _⟩
      case round=>
       clear hin0;obtain⟨i,hi,rfl,hg,hbi⟩:=hrel;by_cases hlti:i < ks.length
       ·obtain rfl:=hka (by omega);obtain⟨hx8,hxc⟩:=hkc i hlti;obtain⟨x,hx⟩:=exE (ks.getD i []);have hxm:x∈ks:=(by rw[<-hx,getD_eq hlti];exact List.getElem_mem hlti);obtain⟨_,⟨hz0,hz1⟩,_,_⟩:=hkO.out x hxm;have hdr:=qH (all_step (f:=fun k:List Int=>insideB y6 (k.getD 6 0)) hlti hx);rw[hx] at hx8 hxc;obtain⟨z0,z1,z2,z3,z4,z5,z6,z7,rfl⟩:=eight hx8;replace hz0:0<=z6:=hz0;replace hz1:z6<=31:=hz1;obtain⟨c0,c1,c2,c3,c4,c5,c6,c7⟩:=hxc.all8;have hkn : ¬kb=w.heap.size+1:=(by have:=World.block_lt_of_cell? w _ c0;have h:kb < w.heap.size:=this;omega);have e0:=cell_kept hbi (hOn.cell (p:=⟨kb,_,none⟩) hkn (cell_kept hbW c0));have e1:=cell_kept hbi (hOn.cell (p:=⟨kb,_,none⟩) hkn (cell_kept hbW c1));have e2:=cell_kept hbi (hOn.cell (p:=⟨kb,_,none⟩) hkn (cell_kept hbW c2));have e3:=cell_kept hbi (hOn.cell (p:=⟨kb,_,none⟩) hkn (cell_kept hbW c3));have e4:=cell_kept hbi (hOn.cell (p:=⟨kb,_,none⟩) hkn (cell_kept hbW c4));have e5:=cell_kept hbi (hOn.cell (p:=⟨kb,_,none⟩) hkn (cell_kept hbW c5));have e6:=cell_kept hbi (hOn.cell (p:=⟨kb,_,none⟩) hkn (cell_kept hbW c6));have e7:=cell_kept hbi (hOn.cell (p:=⟨kb,_,none⟩) hkn (cell_kept hbW c7));have hb1:Below W.heap.size W (wr.alloc (.cells #[.int .i64 z0,.int .i64 z1,.int .i64 z2,.int .i64 z3,.int .i64 z4,.int .i64 z5,.int .i64 z6,.int .i64 z7] 178)):=hbi.alloc hbi.size _;have hbit:=andNot_in hf0 hf1 hz0 hz1;have kEi:(wr.alloc (.cells #[.int .i64 z0,.int .i64 z1,.int .i64 z2,.int .i64 z3,.int .i64 z4,.int .i64 z5,.int .i64 z6,.int .i64 z7] 178)).heap[w.heap.size+1]? = some (.cells #[.int .i64 0] 41 (0,0)):=(hb1.block _ (by omega)).trans hbox;have p6a:=cell_kept hb1 p6;clear c0 c1 c2 c3 c4 c5 c6 c7 hx8 hxc hx hxm p0 p1 p2 p3 p4 p5 p6 p7;by_cases hI:insideB y6 z6=true
        ·rw[hI] at hbit
         have hg2:Hid ((ks.drop (i+1)).all (fun k=>insideB y6 (k.getD 6 0))=goodM ss (s,[y0,y1,y2,y3,y4,y5,y6,(q:Int)])):=by
          show _=_;rw[<-hg.out,hdr.out];show _=(insideB y6 z6 && _);rw[hI,Bool.true_and]
         have hbit':(bits .andNot .i64 y6 z6 != 0)=false:=hbit;clear hg hdr hI hbit;gi_wp2;go_roundw
         case rel=>exact⟨i+1,by omega,by go_num,hg2,hb1⟩
         case measure=>simp[intOf];omega
        ·have hI2:=eq_false_of_ne_true hI;rw[hI2] at hbit;have hbit':(bits .andNot .i64 y6 z6 != 0)=true:=hbit
         have hgr:Hid (growsB ss=false):=by
          show _=_
          have h1:goodM ss (s,[y0,y1,y2,y3,y4,y5,y6,(q:Int)])=false:=by
           rw[<-hg.out,hdr.out];show(insideB y6 z6 && _)=_
           rw[hI2,Bool.false_and]
          rw[<-grows_mvs,Bool.eq_false_iff];intro h;have:=List.all_eq_true.1 h _ hmemL.out
          rw[h1] at this;cases this
         have hcE:=cell_of_one kEi;have hfE:=free_of_one kEi;have hset:=one_setCell (u:=.int .i64 21) kEi;clear hg hdr hI hI2 hbit;gi_wp2;exact⟨D,(Only.of_below hb1).setCell (p:=⟨w.heap.size+1,0,none⟩) ((hD _).2 rfl) _,Gr.refl _ _,fun j hj=>by have h:=Nat.lt_of_lt_of_le (hBd j hj) hb1.size;simpa [World.setCell] using h,⟨⟨hD,hset⟩,rfl,hgr.out⟩⟩
       ·obtain rfl:i=ks.length:=(by omega);have hg2:Hid (goodM ss (s,[y0,y1,y2,y3,y4,y5,y6,(q:Int)])=true):=(by show _=_;rw[<-hg.out,List.drop_length];rfl);clear hg;gi_wp2;exact⟨D,Only.of_below hbi,Gr.refl _ _,fun j hj=>Nat.lt_of_lt_of_le (hBd j hj) hbi.size,⟨⟨hD,(hbi.block _ (by omega)).trans hbox⟩,by rw[List.all_append,hall,Bool.true_and];simp[hg2.out]⟩⟩
     case done=>
      intro d xs D W hS hI hOn hGr hd hnd hdef;obtain⟨⟨hD,hbox⟩,hall⟩:=hI;have hF:=qH (show chkA n ss=0 by rw[hG.out,<-hG3.out,if_pos (by rw[<-grows_mvs,<-hS];exact hall)]);have hcE:=cell_of_one hbox;have hfE:=free_of_one hbox;have hset:=one_setCell (u:=.int .i64 0) hbox;clear hall hS;have hdne:d ≠ w.heap.size+1:=(by omega);have hbE:=((hbW.trans (hOn.below hbW.size (fun i hi=>by omega))).setCell (p:=⟨w.heap.size+1,0,none⟩) (by show w.heap.size<=w.heap.size+1;omega) (.int .i64 0));go_wp2;refine⟨by simp,.inl ⟨_,_,rfl,run_takeDeferred ((Below.heap_setCell W ⟨w.heap.size+1,0,none⟩ _ d hdne).trans hdef),?_⟩⟩;exact⟨_,results_cellE rfl _ _ (w.heap.size+1) 0 rfl (cell_of_one ((World.putObj_heap_other (by omega)).trans hset)),by rw[hF.out],below_putObj hbE (by omega) _⟩
     case stop=>
      rintro d c pre D W _ ⟨⟨hD,hbox⟩,rfl,hgr⟩ hOn hGr hd hnd hdef;have hF:=qH (show chkA n ss=21 by rw[hG.out,<-hG3.out,if_neg (by rw[hgr];decide)]);have hbE:=hbW.trans (hOn.below hbW.size (fun i hi=>by omega));gi_wp2;refine⟨by simp,.inl ⟨_,_,rfl,run_takeDeferred hdef,?_⟩⟩;exact⟨_,results_cellE rfl _ _ (w.heap.size+1) 21 rfl (cell_of_one ((World.putObj_heap_other (by omega)).trans hbox)),by rw[hF.out],below_putObj hbE (by omega) _⟩
theorem hErr_zero {n p x:Int}(h:hErr n p x=0):0<=x/\x<=31:=by
 have hf:=(fullI_le n).2;unfold hErr at h;by_cases h1:n<=p
 ·rw[if_pos h1] at h;by_cases h2:x=0
  ·omega
  ·rw[if_neg h2] at h;cases h
 ·rw[if_neg h1] at h;by_cases h2:x < 0\/fullI n < x
  ·rw[if_pos h2] at h;cases h
  ·omega
theorem hGo_zero {n:Int}:∀ {hs:List Int}{i:Int},hGo n i hs=0->∀x∈hs,0<=x/\x<=31
 | [],_,_,x,hx=>by cases hx
 | y::r,i,h,x,hx=>by
  unfold hGo at h;by_cases he:hErr n i y=0
  ·rw[if_neg (fun k=>k he)] at h;rcases List.mem_cons.1 hx with rfl|hx
   ·exact hErr_zero he
   ·exact hGo_zero h x hx
  ·rw[if_pos he] at h;exact absurd h he
theorem chkGr_zero {n:Int}{hs:List Int}(h:chkGr n hs=0):(1<=n/\n<=5)/\∀x∈hs,0<=x/\x<=31:=by
 unfold chkGr at h;by_cases hn:n < 1\/5 < n
 ·rw[if_pos hn] at h;cases h
 ·rw[if_neg hn] at h;exact⟨by omega,hGo_zero h⟩
theorem wfR_of {r:List Int}(hl:r.length=7) (h:chkRd r=0):WfR r:=by
 obtain⟨n,h0,h1,h2,h3,h4,f,rfl⟩:=seven hl
 have hg:chkGr n [h0,h1,h2,h3,h4]=0:=by
  by_cases hc:chkGr n [h0,h1,h2,h3,h4]=0
  ·exact hc
  ·rw[chkRd_1 hc] at h;exact h
 obtain⟨hn,hh⟩:=chkGr_zero hg;obtain⟨_,hf0,hf1⟩:=chkSet_zero (chkRd_zero h);have h32:=twoI_le (n:=n);refine⟨rfl,fun x hx=>?_⟩;simp only[List.mem_cons,List.not_mem_nil,or_false] at hx;have hf0:0<=f:=hf0;have hf1:f < twoI n:=hf1;rcases hx with rfl|hx
 ·omega
 rcases hx with rfl|rfl|rfl|rfl|rfl|rfl
 ·have:=hh x (by simp);omega
 ·have:=hh x (by simp);omega
 ·have:=hh x (by simp);omega
 ·have:=hh x (by simp);omega
 ·have:=hh x (by simp);omega
 ·omega
theorem chkA_facts {n:Int}{ss:Jc}(h:chkA n ss=0):(1<=n/\n<=5)/\(1<=ss.length/\ss.length<=256/\movesN ss<=4096)/\ssGo n ss.length ss=0/\growsB ss=true:=by
 unfold chkA at h;by_cases h1:n < 1\/5 < n
 ·rw[if_pos h1] at h;cases h
 rw[if_neg h1] at h;by_cases h2:ss.length < 1\/256 < ss.length\/4096 < movesN ss
 ·rw[if_pos h2] at h;cases h
 rw[if_neg h2] at h;by_cases h3:ssGo n ss.length ss ≠ 0
 ·rw[if_pos h3] at h;exact absurd h h3
 rw[if_neg h3] at h;by_cases h4:growsB ss=true
 ·exact⟨by omega,by omega,Decidable.not_not.1 h3,h4⟩
 ·rw[if_neg h4] at h;cases h
theorem clsOK_of {n:Int}{ss:Jc}(h8:∀s∈ss,∀m∈s,m.length=8) (h:chkA n ss=0) (hl:ss.length<=90) (hm:movesN ss<=90):ClsOK ss:=by
 obtain⟨_,⟨h1,_,_⟩,h3,_⟩:=chkA_facts h;refine⟨hl,hm,h1,fun s hs=>?_⟩;have h4:=ssGo_zero h3 s hs;unfold stErr at h4;by_cases he:s.length=0
 ·rw[if_pos he] at h4;cases h4
 rw[if_neg he] at h4;refine⟨by omega,fun m hmm=>?_⟩;obtain⟨j,hj,rfl⟩:=List.mem_iff_getElem.1 hmm;obtain⟨c1,_,_,c4,c5⟩:=mvErr_zero (mvGo_zero h4 j (by omega) (by omega));rw[getD_eq hj] at c1 c4 c5;have hl8:=h8 s hs _ hmm;exact⟨wfR_of (by rw[rdOf,List.length_take,hl8];rfl) c1,hl8,c4,c5⟩
end Go.Proofs.YtcnedkkcgdkioaaGreat
namespace Go.Proofs.YtcnedkkcgdkioaaGreat
open Go.RowKit Go.ChangeMaps Go.MapKept
theorem boxAdv {w:World}{n:Int}{a:Option Addr}{l c:Nat}{w1:World}(hw:w1=w.alloc (.cells #[.int .i64 n,.slice a l c] 27)) :
  Below w.heap.size w w1/\w1.cell? ⟨w.heap.size,0,none⟩=some (.int .i64 n)/\w1.cell? ⟨w.heap.size,1,none⟩=some (.slice a l c)/\w1.heap[w.heap.size]? = some (.cells #[.int .i64 n,.slice a l c] 27):=by
 have h:=heap_alloc_new w (.cells #[.int .i64 n,.slice a l c] 27);rw[<-hw] at h;refine⟨by rw[hw];exact(Below.refl _ w).alloc (Nat.le_refl _) _,?_,?_,h⟩
 ·rw[cell_of_row _ _ 0 _ _ _ h];rfl
 ·rw[cell_of_row _ _ 1 _ _ _ h];rfl
end Go.Proofs.YtcnedkkcgdkioaaGreat
namespace Go.Proofs.YtcnedkkcgdkioaaGreat
open Go.RowKit
def LeadOK (ss:Jc):Prop:=∀s∈ss,∀m∈s,0<=m.getD 7 0/\m.getD 7 0 < (ss.length:Int)
theorem advShape' {w:World}{v:Value}{n:Int}{ss:Jc}(h:AdvV w v n ss):∃a c,v = .agg #[.int .i64 n,.slice a ss.length c]:=by
 obtain⟨sv,rfl,hK⟩:=h;obtain⟨a,c,rfl⟩:=hK.shape;exact⟨a,c,rfl⟩
end Go.Proofs.YtcnedkkcgdkioaaGreat
namespace Go.Proofs.YtcnedkkcgdkioaaGreat
theorem cmpL_cons (a b:Int) (xs ys:List Int):cmpL (a::xs) (b::ys) < 0↔a < b\/(a=b/\cmpL xs ys < 0):=by
 simp only[cmpL,cmpI];by_cases h1:a < b
 ·simp[h1]
 ·by_cases h2:b < a
  ·simp[h1,h2,show a ≠ b by omega]
  ·obtain rfl:a=b:=(by omega);simp
theorem cmpL_nil_cons (b:Int) (ys:List Int):cmpL [] (b::ys) < 0:=by simp[cmpL]
theorem cmpL_any_nil:∀xs:List Int,¬cmpL xs [] < 0
 | []=>by simp[cmpL]
 | _::_=>by simp[cmpL]
theorem cmpL_asymm:∀a b:List Int,cmpL a b < 0->¬cmpL b a < 0
 | xs,[],h=>absurd h (cmpL_any_nil xs)
 | [],_::_,_=>cmpL_any_nil _
 | a::xs,b::ys,h=>by
  rw[cmpL_cons] at h|-;rintro(h2|⟨h2,h3⟩)
  ·rcases h with h|⟨h,_⟩<;>omega
  ·rcases h with h|⟨_,h⟩
   ·omega
   ·exact cmpL_asymm xs ys h h3
theorem cmpL_trans:∀a b c:List Int,cmpL a b < 0->cmpL b c < 0->cmpL a c < 0
 | xs,[],_,h,_=>absurd h (cmpL_any_nil xs)
 | _,ys,[],_,h=>absurd h (cmpL_any_nil ys)
 | [],_::_,c::zs,_,_=>cmpL_nil_cons c zs
 | a::xs,b::ys,c::zs,h,k=>by
  rw[cmpL_cons] at h k|-;rcases h with h|⟨rfl,h⟩<;>rcases k with k|⟨rfl,k⟩
  ·left;omega
  ·exact .inl h
  ·exact .inl k
  ·exact .inr ⟨rfl,cmpL_trans xs ys zs h k⟩
theorem cmpL_total:∀a b:List Int,cmpL a b < 0\/a=b\/cmpL b a < 0
 | [],[]=>.inr (.inl rfl)
 | [],b::ys=>.inl (cmpL_nil_cons b ys)
 | a::xs,[]=>.inr (.inr (cmpL_nil_cons a xs))
 | a::xs,b::ys=>by
  rw[cmpL_cons,cmpL_cons];rcases Int.lt_trichotomy a b with h|rfl|h
  ·exact .inl (.inl h)
  ·rcases cmpL_total xs ys with h|rfl|h
   ·exact .inl (.inr ⟨rfl,h⟩)
   ·exact .inr (.inl rfl)
   ·exact .inr (.inr (.inr ⟨rfl,h⟩))
  ·exact .inr (.inr (.inl h))
theorem cmpL_ntrans (a b c:List Int) (h : ¬cmpL a b < 0) (k : ¬cmpL b c < 0) : ¬cmpL a c < 0:=by
 intro hc;rcases cmpL_total a b with h1|rfl|h1
 ·exact h h1
 ·exact k hc
 ·exact k (cmpL_trans b a c h1 hc)
theorem sorted_unique {α:Type}{lt:α->α->Prop}(has:∀a b,lt a b->¬lt b a):∀ {l1 l2:List α},l1.Pairwise lt->l2.Pairwise lt->(∀x,x∈l1↔x∈l2)->l1=l2
 | [],[],_,_,_=>rfl
 | [],b::t2,_,_,h=>absurd ((h b).2 (List.mem_cons_self ..)) (by simp)
 | a::t1,[],_,_,h=>absurd ((h a).1 (List.mem_cons_self ..)) (by simp)
 | a::t1,b::t2,h1,h2,h=>by
  rw[List.pairwise_cons] at h1 h2
  have hab:a=b:=by
   rcases List.mem_cons.1 ((h a).1 (List.mem_cons_self ..)) with h3|h3
   ·exact h3
   ·rcases List.mem_cons.1 ((h b).2 (List.mem_cons_self ..)) with h4|h4
    ·exact h4.symm
    ·exact absurd (h2.1 a h3) (has _ _ (h1.1 b h4))
  subst hab;rw[sorted_unique has h1.2 h2.2 fun x=>⟨fun hx=>?_,fun hx=>?_⟩]
  ·rcases List.mem_cons.1 ((h x).1 (List.mem_cons_of_mem _ hx)) with h3|h3
   ·subst h3;exact absurd (h1.1 x hx) (fun h=>has _ _ h h)
   ·exact h3
  ·rcases List.mem_cons.1 ((h x).2 (List.mem_cons_of_mem _ hx)) with h3|h3
   ·subst h3;exact absurd (h2.1 x hx) (fun h=>has _ _ h h)
   ·exact h3
def AscL (l:Jb):Prop:=l.Pairwise fun a b=>cmpL a b < 0
end Go.Proofs.YtcnedkkcgdkioaaGreat
namespace Go.Proofs.YtcnedkkcgdkioaaGreat
open Go.RowKit
abbrev Cs:=List Int × Jb × Jb
def csNil:Cs:=([],[],[])
def vecE (v:List Int) (n most:Int):Int:=if (v.length:Int) ≠ n then 15 else if ∃x∈v,x < 0\/most<=x then 2 else 0
def outE (n most:Int) (l:Jb) (k:Nat):Int:=
 if vecE (l.getD k []) n most ≠ 0 then vecE (l.getD k []) n most else if 0 < k/\0<=cmpL (l.getD (k - 1) []) (l.getD k []) then 14 else 0
def calmE (outs l:Jb) (k:Nat):Int:=
 if l.getD k [] ∉ outs then 6 else if 0 < k/\0<=cmpL (l.getD (k - 1) []) (l.getD k []) then 14 else 0
def firstE (f:Nat->Int):Nat->Nat->Int
 | 0,_=>0
 | m+1,k=>if f k ≠ 0 then f k else firstE f m (k+1)
def outsE (n most:Int) (c:Cs):Int:=
 if c.2.1.length < 1\/1024 < c.2.1.length then 5 else
  if firstE (outE n most c.2.1) c.2.1.length 0 ≠ 0 then firstE (outE n most c.2.1) c.2.1.length 0 else firstE (calmE c.2.1 c.2.2) c.2.2.length 0
def caseE (n ins outs:Int) (cs:List Cs) (k:Nat):Int:=
 if vecE (cs.getD k csNil).1 n ins ≠ 0 then vecE (cs.getD k csNil).1 n ins else
  if 0 < k/\0<=cmpL (cs.getD (k - 1) csNil).1 (cs.getD k csNil).1 then 14 else outsE n outs (cs.getD k csNil)
def chkT (n ins outs:Int) (cs:List Cs):Int:=
 if (n < 1\/5 < n)\/(ins < 1\/8 < ins)\/(outs < 1\/8 < outs) then 2 else
  if cs.length < 1\/1024 < cs.length then 5 else firstE (caseE n ins outs cs) cs.length 0
theorem firstE_zero {f:Nat->Int}:∀(m k:Nat),firstE f m k=0↔∀j,k<=j->j < k+m->f j=0
 | 0,k=>⟨fun _ j h1 h2=>absurd h2 (by omega),fun _=>rfl⟩
 | m+1,k=>by
  rw[firstE];by_cases h:f k=0
  ·rw[if_neg (fun g=>g h),firstE_zero m (k+1)];refine⟨fun g j h1 h2=>?_,fun g j h1 h2=>g j (by omega) (by omega)⟩;by_cases e:j=k
   ·rw[e];exact h
   ·exact g j (by omega) (by omega)
  ·rw[if_pos h];exact⟨fun g=>absurd g h,fun g=>absurd (g k (Nat.le_refl _) (by omega)) h⟩
def CsC (w:World) (b off:Nat) (cs:List Cs):Prop:=
 ∀j,j < cs.length->∃u0 u1 u2,w.cell? ⟨b,off+j * 3,none⟩=some u0/\w.cell? ⟨b,off+j * 3+1,none⟩=some u1/\w.cell? ⟨b,off+j * 3+2,none⟩=some u2/\
  Ints w u0 (cs.getD j csNil).1/\Intss w u1 (cs.getD j csNil).2.1/\Intss w u2 (cs.getD j csNil).2.2
theorem CsC.keep {w w':World}{b off:Nat}{cs:List Cs}(h:CsC w b off cs) (hb:Below w.heap.size w w'):CsC w' b off cs:=fun j hj=>by
 obtain⟨u0,u1,u2,h1,h2,h3,h4,h5,h6⟩:=h j hj;exact⟨u0,u1,u2,cell_kept hb h1,cell_kept hb h2,cell_kept hb h3,h4.keep hb,h5.keep hb,h6.keep hb⟩
def CsS (w:World) (v:Value) (cs:List Cs):Prop:=
 ∃a c b off,v = .slice a cs.length c/\(0 < cs.length->a=some ⟨b,off,none⟩)/\CsC w b off cs/\cs.length<=1954687338268
theorem CsS.keep {w w':World}{v:Value}{cs:List Cs}(h:CsS w v cs) (hb:Below w.heap.size w w'):CsS w' v cs:=by
 obtain⟨a,c,b,off,h1,h2,h3,h4⟩:=h;exact⟨a,c,b,off,h1,h2,h3.keep hb,h4⟩
theorem CsS.shape {w:World}{v:Value}{cs:List Cs}(h:CsS w v cs):∃a c,v = .slice a cs.length c:=by
 obtain⟨a,c,_,_,h1,_⟩:=h;exact⟨a,c,h1⟩
def TaskV (w:World) (v:Value) (n ins outs:Int) (cs:List Cs):Prop:=∃sv,v = .agg #[.int .i64 n,.int .i64 ins,.int .i64 outs,sv]/\CsS w sv cs
theorem TaskV.keep {w w':World}{v:Value}{n i o:Int}{cs:List Cs}(h:TaskV w v n i o cs) (hb:Below w.heap.size w w'):TaskV w' v n i o cs:=by
 obtain⟨sv,h1,h2⟩:=h;exact⟨sv,h1,h2.keep hb⟩
theorem eqInts {w:World}{u v:Value}{xs ys:List Int}(hx:Ints w u xs) (hy:Ints w v ys) :
  Calls Tryz.prog 18 #[u,v] w fun e w'=>e = .returned (.bool (decide (xs=ys)))/\Qt w w':=by
 obtain⟨xa,xc,xb,xo,rfl,hxa,hxc,_⟩:=hx;obtain⟨ya,yc,yb,yo,rfl,hya,hyc,_⟩:=hy;obtain⟨B,hB⟩:∃B,decide (xs=ys)=B:=⟨_,rfl⟩;rw[hB];replace hB:=qH hB;replace hxc:=qH hxc;replace hyc:=qH hyc;by_cases hlen:xs.length=ys.length
 ·rw[<-hlen];replace hlen:=qH hlen;have h0:Hid (xs.take 0=ys.take 0):=rfl;go_enter Tryz.func18, Tryz.ntmps18
  go_wp2;go_loopw [13] (fun iv wr=>∃i:Nat,iv = .int .i64 i/\i<=xs.length/\Hid (xs.take i=ys.take i)/\Qt w wr) (fun iv _=>xs.length - (intOf iv).toNat)
  case atStart=>exact⟨0,rfl,by omega,h0,Qt.refl w⟩
  case round=>
   clear h0;obtain⟨i,rfl,hi,ht,n,rfl⟩:=hrel;by_cases hlt:i < xs.length
   ·obtain rfl:=hxa (by omega);obtain rfl:=hya (by rw[<-hlen.out];omega);have hlt':i < ys.length:=(by rw[<-hlen.out];exact hlt);have hxi:=hxc.out i hlt;have hyi:=hyc.out i hlt';obtain⟨x,hx⟩:=exE (xs.getD i 0);obtain⟨y,hy⟩:=exE (ys.getD i 0);rw[hx] at hxi;rw[hy] at hyi;by_cases he:x=y
    ·subst he;have ht2:Hid (xs.take (i+1)=ys.take (i+1)):=takes_next ht.out hlt hlt' (by rw[hx,hy]);clear hx hy ht;go_wp2;go_quiet (fail)
     go_wp2;go_roundw
     case rel=>exact⟨i+1,by go_num,hlt,ht2,by first|exact(Qt.mk' w n).step nq|exact Qt.mk' w _⟩
     case measure=>simp[intOf];omega
    ·have hE:(x == y)=false:=by simp[he]
     have hBf:Hid (B=false):=by
      show _=_;rw[<-hB.out];refine decide_eq_false fun h=>he ?_;rw[<-hx,<-hy,h]
     clear hx hy he ht;go_wp2;go_quiet (fail)
     go_wp2;go_ret;exact⟨by rw[hBf.out];rfl,by first|exact(Qt.mk' w n).step nq|exact Qt.mk' w _⟩
   ·have hBt:Hid (B=true):=by
     show _=_;rw[<-hB.out];exact decide_eq_true (takes_all ht.out (by omega) (by rw[<-hlen.out];omega))
    clear ht;go_wp2;go_ret;exact⟨by rw[hBt.out];rfl,Qt.mk' w n⟩
 ·have hBf:B=false:=by rw[<-hB.out];exact decide_eq_false fun h=>hlen (by rw[h])
  subst hBf;have h1:((xs.length:Int) == (ys.length:Int))=false:=by simp;omega
  go_enter Tryz.func18, Tryz.ntmps18
  go_wp2;go_ret;exact⟨rfl,Qt.refl w⟩
theorem sameRds {w:World}{u v:Value}{xs ys:Jb}(hx:KS 7 w u xs) (hy:KS 7 w v ys) :
  Calls Tryz.prog 214 #[u,v] w fun e w'=>e = .returned (.bool (decide (xs=ys)))/\Qt w w':=by
 obtain⟨xa,xc,xb,xo,rfl,hxa,hxc,_⟩:=hx;obtain⟨ya,yc,yb,yo,rfl,hya,hyc,_⟩:=hy;obtain⟨B,hB⟩:∃B,decide (xs=ys)=B:=⟨_,rfl⟩;rw[hB];replace hB:=qH hB;replace hxc:=qH hxc;replace hyc:=qH hyc;by_cases hlen:xs.length=ys.length
 ·rw[<-hlen];replace hlen:=qH hlen;have h0:Hid (xs.take 0=ys.take 0):=rfl;go_enter Tryz.func214, Tryz.ntmps214
  go_wp2;go_loopw [5] (fun iv wr=>∃i:Nat,iv = .int .i64 i/\i<=xs.length/\Hid (xs.take i=ys.take i)/\Qt w wr) (fun iv _=>xs.length - (intOf iv).toNat)
  case atStart=>exact⟨0,rfl,by omega,h0,Qt.refl w⟩
  case round=>
   clear h0;obtain⟨i,rfl,hi,ht,n,rfl⟩:=hrel;by_cases hlt:i < xs.length
   ·obtain rfl:=hxa (by omega);obtain rfl:=hya (by rw[<-hlen.out];omega);have hlt':i < ys.length:=(by rw[<-hlen.out];exact hlt);obtain⟨hx8,hxi⟩:=hxc.out i hlt;obtain⟨hy8,hyi⟩:=hyc.out i hlt';obtain⟨x,hx⟩:=exE (xs.getD i []);obtain⟨y,hy⟩:=exE (ys.getD i []);rw[hx] at hx8 hxi;rw[hy] at hy8 hyi;obtain⟨x0,x1,x2,x3,x4,x5,x6,rfl⟩:=seven hx8;obtain⟨y0,y1,y2,y3,y4,y5,y6,rfl⟩:=seven hy8;obtain⟨c0,c1,c2,c3,c4,c5,c6⟩:=hxi.all7;obtain⟨d0,d1,d2,d3,d4,d5,d6⟩:=hyi.all7;clear hxi hyi hx8 hy8;by_cases he : [x0,x1,x2,x3,x4,x5,x6] = [y0,y1,y2,y3,y4,y5,y6]
    ·have hE:eqL [x0,x1,x2,x3,x4,x5,x6] [y0,y1,y2,y3,y4,y5,y6]=true:=eqL_true.2 he;have ht2:Hid (xs.take (i+1)=ys.take (i+1)):=takes_next ht.out hlt hlt' (by rw[hx,hy,he]);clear hx hy he ht;go_wp2;go_quiet (fail)
     go_wp2;go_roundw
     case rel=>exact⟨i+1,by go_num,hlt,ht2,by first|exact(Qt.mk' w n).step nq|exact Qt.mk' w _⟩
     case measure=>simp[intOf];omega
    ·have hE:eqL [x0,x1,x2,x3,x4,x5,x6] [y0,y1,y2,y3,y4,y5,y6]=false:=eqL_false.2 he
     have hBf:Hid (B=false):=by
      show _=_;rw[<-hB.out];refine decide_eq_false fun h=>he ?_;rw[<-hx,<-hy,h]
     clear hx hy he ht;go_wp2;go_quiet (fail)
     go_wp2;go_ret;exact⟨by rw[hBf.out];rfl,by first|exact(Qt.mk' w n).step nq|exact Qt.mk' w _⟩
   ·have hBt:Hid (B=true):=by
     show _=_;rw[<-hB.out];exact decide_eq_true (takes_all ht.out (by omega) (by rw[<-hlen.out];omega))
    clear ht;go_wp2;go_ret;exact⟨by rw[hBt.out];rfl,Qt.mk' w n⟩
 ·have hBf:B=false:=by rw[<-hB.out];exact decide_eq_false fun h=>hlen (by rw[h])
  subst hBf;have h1:((xs.length:Int) == (ys.length:Int))=false:=by simp;omega
  go_enter Tryz.func214, Tryz.ntmps214
  go_wp2;go_ret;exact⟨rfl,Qt.refl w⟩
theorem eqRds {w:World}{u v:Value}{xs ys:Jb}(hx:KS 7 w u xs) (hy:KS 7 w v ys) :
  Calls Tryz.prog 174 #[u,v] w fun e w'=>e = .returned (.bool (decide (xs=ys)))/\Qt w w':=by
 obtain⟨xa,xc,xb,xo,rfl,hxa,hxc,_⟩:=hx;obtain⟨ya,yc,yb,yo,rfl,hya,hyc,_⟩:=hy;obtain⟨B,hB⟩:∃B,decide (xs=ys)=B:=⟨_,rfl⟩;rw[hB];replace hB:=qH hB;replace hxc:=qH hxc;replace hyc:=qH hyc;by_cases hlen:xs.length=ys.length
 ·rw[<-hlen];replace hlen:=qH hlen;have h0:Hid (xs.take 0=ys.take 0):=rfl;go_enter Tryz.func174, Tryz.ntmps174
  go_wp2;go_loopw [13] (fun iv wr=>∃i:Nat,iv = .int .i64 i/\i<=xs.length/\Hid (xs.take i=ys.take i)/\Qt w wr) (fun iv _=>xs.length - (intOf iv).toNat)
  case atStart=>exact⟨0,rfl,by omega,h0,Qt.refl w⟩
  case round=>
   clear h0;obtain⟨i,rfl,hi,ht,n,rfl⟩:=hrel;by_cases hlt:i < xs.length
   ·obtain rfl:=hxa (by omega);obtain rfl:=hya (by rw[<-hlen.out];omega);have hlt':i < ys.length:=(by rw[<-hlen.out];exact hlt);obtain⟨hx8,hxi⟩:=hxc.out i hlt;obtain⟨hy8,hyi⟩:=hyc.out i hlt';obtain⟨x,hx⟩:=exE (xs.getD i []);obtain⟨y,hy⟩:=exE (ys.getD i []);rw[hx] at hx8 hxi;rw[hy] at hy8 hyi;obtain⟨x0,x1,x2,x3,x4,x5,x6,rfl⟩:=seven hx8;obtain⟨y0,y1,y2,y3,y4,y5,y6,rfl⟩:=seven hy8;obtain⟨c0,c1,c2,c3,c4,c5,c6⟩:=hxi.all7;obtain⟨d0,d1,d2,d3,d4,d5,d6⟩:=hyi.all7;clear hxi hyi hx8 hy8;by_cases he : [x0,x1,x2,x3,x4,x5,x6] = [y0,y1,y2,y3,y4,y5,y6]
    ·have hE:eqL [x0,x1,x2,x3,x4,x5,x6] [y0,y1,y2,y3,y4,y5,y6]=true:=eqL_true.2 he;have ht2:Hid (xs.take (i+1)=ys.take (i+1)):=takes_next ht.out hlt hlt' (by rw[hx,hy,he]);clear hx hy he ht;go_wp2;go_quiet (fail)
     go_wp2;go_roundw
     case rel=>exact⟨i+1,by go_num,hlt,ht2,by first|exact(Qt.mk' w n).step nq|exact Qt.mk' w _⟩
     case measure=>simp[intOf];omega
    ·have hE:eqL [x0,x1,x2,x3,x4,x5,x6] [y0,y1,y2,y3,y4,y5,y6]=false:=eqL_false.2 he
     have hBf:Hid (B=false):=by
      show _=_;rw[<-hB.out];refine decide_eq_false fun h=>he ?_;rw[<-hx,<-hy,h]
     clear hx hy he ht;go_wp2;go_quiet (fail)
     go_wp2;go_ret;exact⟨by rw[hBf.out];rfl,by first|exact(Qt.mk' w n).step nq|exact Qt.mk' w _⟩
   ·have hBt:Hid (B=true):=by
     show _=_;rw[<-hB.out];exact decide_eq_true (takes_all ht.out (by omega) (by rw[<-hlen.out];omega))
    clear ht;go_wp2;go_ret;exact⟨by rw[hBt.out];rfl,Qt.mk' w n⟩
 ·have hBf:B=false:=by rw[<-hB.out];exact decide_eq_false fun h=>hlen (by rw[h])
  subst hBf;have h1:((xs.length:Int) == (ys.length:Int))=false:=by simp;omega
  go_enter Tryz.func174, Tryz.ntmps174
  go_wp2;go_ret;exact⟨rfl,Qt.refl w⟩
end Go.Proofs.YtcnedkkcgdkioaaGreat

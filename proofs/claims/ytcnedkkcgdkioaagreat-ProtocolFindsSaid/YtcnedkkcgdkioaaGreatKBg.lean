/- Texts of this claim, put together: B3 P1 E5 E7 E8 H0 TA H1. -/
import Derived.Test.YtcnedkkcgdkioaaGreatKBf
import Derived.Laws.Rows

set_option maxRecDepth 100000
set_option maxHeartbeats 12800000
namespace Go.Proofs.YtcnedkkcgdkioaaGreat
open Go.RowKit
attribute [local go_sem] Oper.semAt_some
theorem fC:((List.range 32).all fun x=>(List.range 32).all fun y=>decide ((bits .andNot .i64 (x:Int) (y:Int) != 0) = !EK x y))=true:=by decide +kernel
theorem fB {x y:Int}(h:0<=x) (a:x<=31) (k:0<=y) (b:y<=31):(bits .andNot .i64 x y != 0) = !EK x y:=by
 have:=List.all_eq_true.1 (List.all_eq_true.1 fC x.toNat (by rw[List.mem_range];omega)) y.toNat (by rw[List.mem_range];omega)
 have:=of_decide_eq_true this
 rwa [show((x.toNat:Nat):Int)=x by omega,show((y.toNat:Nat):Int)=y by omega] at this
def KT (ss:Jc) (x:Nat × List Int):Bool:=IK (x.2.getD 6 0) (ss.getD (x.2.getD 7 0).toNat [])
theorem aG (f:List Int->Bool):∀(ss:Jc) (k:Nat),(CU k ss).all (fun x=>f x.2)=ss.all fun m=>m.all f
 | [],_=>rfl
 | l::r,k=>by
  rw[CU,List.all_append,aG f r,List.all_cons,List.all_map];rfl
theorem YV (ss:Jc):(CU 0 ss).all (KT ss)=HD ss:=aG (fun m=>IK (m.getD 6 0) (ss.getD (m.getD 7 0).toNat [])) ss 0
theorem TP:∀ {ss:Jc}{k:Nat}{x:Nat × List Int},x∈CU k ss->∃s∈ss,x.2∈s
 | [],_,_,h=>by cases h
 | l::r,k,x,h=>by
  rw[CU,List.mem_append] at h;rcases h with h|h
  ·obtain⟨m,c,rfl⟩:=List.mem_map.1 h;exact⟨l,by simp,c⟩
  ·obtain⟨s,a,b⟩:=TP h;exact⟨s,by simp[a],b⟩
def MJ (B:Nat) (D:Nat->Prop) (W:World) (n:Int):Prop:=(∀k,D k↔k=B)/\W.heap[B]? = some (.cells #[.int .i64 n] 41 (0,0))
theorem MJ.stable {α:Type}(B:Nat) (n:Int) (p:List α->Prop):GX (fun r D W=>MJ B D W n/\p r):=fun _ _ _ _ h _ k=>⟨⟨h.1.1,(k B ((h.1.1 B).2 rfl)).trans h.1.2⟩,h.2⟩
theorem NL {fn:Func}{p:Tmp}(h:fn.results = #[.cell p 41]) (tmps:Array Value) (w:World) (g:Nat) (x:Int) (b:tmps.getD p undef = .pointer (some ⟨g,0,none⟩)) (d:w.cell? ⟨g,0,none⟩=some (.int .i64 x)) :
  (results fn tmps).run Tryz.prog w = .ok (.int .i64 x) w:=by
 have c:tmps[p]?.getD undef = .pointer (some ⟨g,0,none⟩):=by simpa using b
 have u:=Tryz.underlying41;have a:=Tryz.isAgg41;have z:=Tryz.sizeOf41;simp only[results,h];simp[Sem.run_bind,Result.andThen,c,asAddr,loadVar]
 go_simp
theorem RX {w:World}{v:Value}{n:Int}{ss:Jc}(hA:DC w v n ss) (hN:CA ss<=1000000000) :
  Calls Tryz.prog 189 #[v] w fun e w'=>e = .returned (.int .i64 (BU n ss))/\Below w.heap.size w w':=by
 have h8:=hA.len8;have k6:=hA;obtain⟨sv,rfl,V⟩:=k6;have k7:=V;obtain⟨B,C,sb,so,rfl,i8,d0,p'⟩:=k7;refine callsIn_wide.1 (callsIn_of_wp_marks (n:=0) Tryz.func189 rfl trivial ?_);simp only[Tryz.ntmps189,List.size_toArray,List.length_cons,List.length_nil,Nat.reduceAdd,Nat.reduceSub,Array.replicate_succ,Array.replicate_zero,List.push_toArray,List.append_toArray,List.nil_append,List.cons_append];refine wpIn_wide.2 ?_;obtain⟨W1,I⟩:=AF ((w.alloc (.cells #[.int .i64 n,.slice B ss.length C] 27)).alloc (.cells #[.int .i64 0] 41));have m1:W1.heap.size=w.heap.size+2:=by rw[I];simp
 have hb:Below w.heap.size w W1:=by rw[I];exact((wB _ w).alloc (wC _) _).alloc (by simp) _
 have k0:W1.heap[w.heap.size]? = some (.cells #[.int .i64 n,.slice B ss.length C] 27):=by
  rw[I];exact(Below.heap_alloc _ _ _ (by simp)).trans (World.alloc_heap_new w _)
 have kE:W1.heap[w.heap.size+1]? = some (.cells #[.int .i64 0] 41 (0,0)):=by
  rw[I];have:=World.alloc_heap_new (w.alloc (.cells #[.int .i64 n,.slice B ss.length C] 27)) (.cells #[.int .i64 0] 41)
  rwa [World.size_alloc] at this
 have c3:=hA.keep hb;obtain⟨G,H⟩:=GJ k0;have m:=wJ kE;have o:=free_of_one kE;replace d0:=qH d0;replace I:=qH I
 have b3:∀b:Int,((w.alloc (.cells #[.int .i64 n,.slice B ss.length C] 27)).alloc (.cells #[.int .i64 b] 41)).cell? ⟨w.heap.size+1,0,none⟩=some (.int .i64 b):=fun b=>by
  have:=World.alloc_heap_new (w.alloc (.cells #[.int .i64 n,.slice B ss.length C] 27)) (.cells #[.int .i64 b] 41)
  rw[World.size_alloc] at this;exact wJ this
 have a':∀b:Int,Below w.heap.size w ((w.alloc (.cells #[.int .i64 n,.slice B ss.length C] 27)).alloc (.cells #[.int .i64 b] 41)):=fun b=>((wB _ w).alloc (wC _) _).alloc (by simp) _;replace b3:=qH b3;replace a':=qH a';replace V:=qH V;by_cases hn:n < 1\/5 < n
 ·have l:=qH (show BU n ss=2 by rw[BU,if_pos hn]);clear G H m o k0 kE hb c3;by_cases i5:n < 1
  ·have i6:decide (n < 1)=true:=vZ i5;go_wp2_with fail
   exact⟨_,NL rfl _ _ (w.heap.size+1) 2 rfl (b3.out 2),by rw[l.out],a'.out 2⟩
  ·have i6:decide (n < 1)=false:=vY i5;have l':decide (5 < n)=true:=vZ (by omega);go_wp2_with fail
   exact⟨_,NL rfl _ _ (w.heap.size+1) 2 rfl (b3.out 2),by rw[l.out],a'.out 2⟩
 ·have i6:decide (n < 1)=false:=vY (by omega);have l':decide (5 < n)=false:=vY (by omega);go_wp2_with fail
  rw[<-I.out];clear b3 a' I;refine(tP c3 hN).mono ?_;rintro e w2 ⟨rfl,a1⟩;have c6:=bt hb a1 hb.size;have k2:=(a1.block w.heap.size (by omega)).trans k0;have b7:=(a1.block (w.heap.size+1) (by omega)).trans kE;have m2:=a1.size;have h0:=c3.keep a1;clear G H m o k0 kE a1 c3 hb;obtain⟨G,H⟩:=GJ k2;have m:=wJ b7;have o:=free_of_one b7;have k8:w.heap.size+2<=w2.heap.size:=by omega
  clear m1 m2;by_cases z:ss.length < 1\/256 < ss.length\/4096 < CA ss
  ·have l:=qH (show BU n ss=5 by rw[BU,if_neg hn,if_pos z]);have b4:IS ss=5:=(by rw[IS,if_pos z]);rw[b4];have Y:=one_setCell (u:=.int .i64 5) b7;have e5:Below w.heap.size w (w2.setCell ⟨w.heap.size+1,0,none⟩ (.int .i64 5)):=c6.setCell (p:=⟨w.heap.size+1,0,none⟩) (by show w.heap.size<=w.heap.size+1;omega) _;clear z hn b4;go_wp2_with fail
   exact⟨_,NL rfl _ _ (w.heap.size+1) 5 rfl (wJ Y),by rw[l.out],e5⟩
  ·have b4:IS ss=0:=(by rw[IS,if_neg z]);rw[b4];have hl:ss.length<=256:=(by omega);obtain⟨g2,hG⟩:=AB (BU n ss);have e2:Hid ((if BQ n ss.length ss ≠ 0 then BQ n ss.length ss else if HD ss then 0 else 21)=g2):=(by show _=_;rw[<-hG,BU,if_neg hn,if_neg z]);have i9:Hid (BQ n ss.length ss=0->PJ ss):=dT h8;have h3:Hid (BQ n ss.length (ss.drop 0)=BQ n ss.length ss):=rfl;replace hG:=qH hG;clear z hn b4;replace h8:=qH h8;go_wp2_with fail
   go_loopw [27] (fun kv wr=>∃a:Nat,a<=ss.length/\kv = .int .i64 a/\Hid (BQ n ss.length (ss.drop a)=BQ n ss.length ss)/\Below w2.heap.size w2 wr) (fun kv _=>ss.length - (intOf kv).toNat)
   case atStart=>exact⟨0,by omega,rfl,h3,wB _ _⟩
   case round=>
    clear h3;obtain⟨a,hk,rfl,g,K⟩:=hrel;have a2:=bt c6 K c6.size;have k3:=(K.block w.heap.size (by omega)).trans k2;have b8:=(K.block (w.heap.size+1) (by omega)).trans b7;have h1:=h0.keep K;clear G H m o;obtain⟨G,H⟩:=GJ k3;have m:=wJ b8;have o:=free_of_one b8;have k9:w.heap.size+2<=wr.heap.size:=(by have:=K.size;omega);by_cases i3:a < ss.length
    ·obtain rfl:=i8 (by omega);obtain⟨ms,A⟩:=AB (ss.getD a []);obtain⟨j4,b0,Z⟩:=(d0.out.keep a2) a i3;rw[A] at Z;have t:=qH (by have:=OC i3 ([]:Jb);rw[A] at this;exact this);have HS:=tV h1 Z hl;obtain⟨E,l⟩:=AB (DO n ss.length ms);rw[l] at HS;replace HS:=qH HS;obtain⟨ua,uc,rfl⟩:=Z.shape;clear Z A;go_wp2_with fail
     refine HS.out.mono ?_;rintro e w4 ⟨rfl,c5⟩;have k4:=(c5.block w.heap.size (by omega)).trans k3;have f9:=(c5.block (w.heap.size+1) (by omega)).trans b8;have k':=bt a2 c5 a2.size;have l1:=bt K c5 K.size;clear G H m o HS b0;obtain⟨G,H⟩:=GJ k4;have m:=wJ f9;have o:=free_of_one f9;by_cases z:E=0
     ·have T:Hid (BQ n ss.length (ss.drop (a+1))=BQ n ss.length ss):=(by show _=_;rw[<-g.out,t.out,BQ,l,z];rfl);subst z;clear g t l;go_wp2_with fail
      go_roundw
      case rel=>exact⟨a+1,by omega,by go_num,T,l1⟩
      case measure=>simp[intOf];omega
     ·have q0:(E != 0)=true:=by simpa using z
      have T:=qH (show BU n ss=E by
       have X:BQ n ss.length ss=E:=(by rw[<-g.out,t.out];exact dR l z);rw[hG.out,<-e2.out,if_pos (by rw[X];exact z),X])
      have Y:=one_setCell (u:=.int .i64 E) f9;have e5:Below w.heap.size w (w4.setCell ⟨w.heap.size+1,0,none⟩ (.int .i64 E)):=k'.setCell (p:=⟨w.heap.size+1,0,none⟩) (by show w.heap.size<=w.heap.size+1;omega) _;clear g t l z;go_wp2_with fail
      exact⟨_,NL rfl _ _ (w.heap.size+1) E rfl (wJ Y),by rw[T.out],e5⟩
    ·obtain rfl:a=ss.length:=(by omega);have X:BQ n ss.length ss=0:=(by rw[<-g.out,List.drop_length,BQ]);have hO:=qH (i9.out X);have h4:Hid ((if HD ss then 0 else 21)=g2):=(by have:=e2.out;rw[X,if_neg (by decide)] at this;exact this);clear g X i9 e2;go_wp2_with (go_at_call 219;refine(TL _ _ _ _ _).mono ?_;rintro e w5 ⟨rfl,rfl⟩)
     obtain⟨wL,b5⟩:=AF (wr.alloc (.cells #[.int .i64 n,.slice B ss.length C] 27));have c7:Below wr.heap.size wr wL:=(by rw[b5];exact(wB _ _).alloc (wC _) _);have i7:wL.heap.size=wr.heap.size+1:=(by rw[b5];simp);have kX:wL.heap[wr.heap.size]? = some (.cells #[.int .i64 n,.slice B ss.length C] 27):=(by rw[b5];exact wE _ _);have kL:=(c7.block w.heap.size (by omega)).trans k3;have m6:=(c7.block (w.heap.size+1) (by omega)).trans b8;have c:Below w.heap.size w wL:=bt a2 c7 a2.size;rw[<-b5];have c8:wL.cell? ⟨wr.heap.size,1,none⟩=some (.slice B ss.length C):=AO kX rfl;obtain⟨g3,X⟩:=AF (wr.heap.size);rw[<-X] at c8 i7 k9 kX|-;clear b5 G H m o k2 b7 k3 b8 c7 K a2 c6 h0 h1 X k8 i7 kX;have p9:w.heap.size+2<=wL.heap.size:=by have:=World.block_lt_of_cell? wL _ c8;have h:g3 < wL.heap.size:=this;omega
     refine wpIn_wide.1 (eO (gf:=247) (lb:=#[.pointer (some ⟨g3,0,none⟩)]) rfl (enters_of Tryz.func247 (by kernel_rfl) rfl) (TN V.out c c8) (wB _ _) (fun _=>rfl) TM (fun _ _ _ _ h=>h)
      (fun d4 D W=>MJ (w.heap.size+1) D W 0/\d4.all (KT ss)=true) (fun d8 _ D W=>MJ (w.heap.size+1) D W 21/\(d8 = .ret/\HD ss=false)) (MJ.stable _ _ _) (fun d8=>MJ.stable _ _ _)
      (fun a=>a=w.heap.size+1) (fun a hk=>by rw[hk];omega) (fun a hk=>by omega) (fun a hk=>by rcases hk with rfl|hk;exact World.block_lt_of_cell? wL _ c8;omega) ⟨⟨fun _=>Iff.rfl,m6⟩,rfl⟩
      (fun b=>(b.2.map (Value.int .i64)).toArray) 178 (fun b d7 n6=>((n6.setIfInBounds 40 (.int .i64 b.1)).setIfInBounds 41 (.agg (b.2.map (Value.int .i64)).toArray)).setIfInBounds 8 (.pointer (some ⟨d7,0,none⟩))) ?assign ?body ?done ?stop)
     case assign=>
      rintro m8 d4 ⟨s,b9⟩ W n8 ⟨n5,hr⟩ V;obtain⟨ms,A,hm⟩:=TP (x:=(s,b9)) (k:=0) (by rw[<-hr];simp);obtain⟨M,N,P,Q,R,S,y,y7,rfl⟩:=CT (h8.out ms A b9 hm);clear hr A hm;simp only[List.setIfInBounds_toArray,List.set_cons_succ,List.set_cons_zero,List.map_cons,List.map_nil] at V;simp only[OQ,List.map_cons,List.map_nil];gi_wp2;exact V
     case body=>
      rintro m8 d4 ⟨s,b9⟩ D W d7 ⟨⟨hD,J⟩,c4⟩ h2 O h5 ⟨n5,hr⟩ l8 e1 p8 o8;obtain⟨ms,A,hm⟩:=TP (x:=(s,b9)) (k:=0) (by rw[<-hr];simp);obtain⟨i4,⟨e7,e8⟩,i',j0⟩:=hO.out ms A b9 hm;obtain⟨M,N,P,Q,R,S,y,y7,rfl⟩:=CT i4;replace e7:0<=y:=e7;replace e8:y<=31:=e8;replace i':0<=y7:=i';replace j0:y7 < (ss.length:Int):=j0;obtain⟨q,rfl⟩:∃q:Nat,y7=(q:Int):=⟨y7.toNat,by omega⟩;have hq:q < ss.length:=(by omega);obtain rfl:=i8 (by omega);obtain⟨j,c9⟩:=AB (ss.getD q []);have i2:j∈ss:=(by rw[<-c9,AK hq];exact wG hq);obtain⟨j4,b0,Z⟩:=d0.out q hq;rw[c9] at Z
      have h':Hid (KT ss (s,[M,N,P,Q,R,S,y,(q:Int)])=j.all fun a=>EK y (a.getD 6 0)):=by
       show IK y (ss.getD ((q:Int)).toNat [])=_;rw[Int.toNat_natCast,c9];rfl
      have l9:Hid ((s,[M,N,P,Q,R,S,y,(q:Int)])∈CU 0 ss):=(by show _∈_;rw[<-hr];simp);have l4:=qH (hO.out j i2);have m3 : ¬sb=w.heap.size+1:=(by have:=World.block_lt_of_cell? w _ b0;have h:sb < w.heap.size:=this;omega);have o9:W.cell? ⟨sb,so+q,none⟩=some j4:=O.cell (p:=⟨sb,so+q,none⟩) m3 (AC c b0);have kA:=(O.same w.heap.size (by omega) (by omega)).trans kL;obtain⟨a0,n9⟩:=GJ kA;simp only[List.map_cons,List.map_nil] at e1;obtain⟨p0,p1,p2,p3,p4,p5,p6,p7⟩:=KL e1;obtain⟨ka,kc,r,ko,rfl,l5,l6,o'⟩:=Z;have o7:d7 < W.heap.size:=(wD.1 e1).1;clear hr A hm i4 c9 i2 b0 l8 hN a0;simp only[List.setIfInBounds_toArray,List.set_cons_succ,List.set_cons_zero,List.map_cons,List.map_nil];have i1:Hid ((j.drop 0).all (fun a=>EK y (a.getD 6 0))=KT ss (s,[M,N,P,Q,R,S,y,(q:Int)])):=(by show _=_;rw[List.drop_zero,h'.out]);clear h';gi_wp2;gi_loopw [49] (fun iv wr=>∃i:Nat,i<=j.length/\iv = .int .i64 i/\Hid ((j.drop i).all (fun a=>EK y (a.getD 6 0))=KT ss (s,[M,N,P,Q,R,S,y,(q:Int)]))/\Below W.heap.size W wr) (fun iv _=>j.length - (intOf iv).toNat)
      case atStart=>exact⟨0,by omega,rfl,i1,wB _ _⟩
      case round=>
       clear i1;obtain⟨i,hi,rfl,g,d⟩:=hrel;by_cases c':i < j.length
       ·obtain rfl:=l5 (by omega);obtain⟨f2,f3⟩:=l6 i c';obtain⟨b,hx⟩:=AB (j.getD i []);have j1:b∈j:=(by rw[<-hx,AK c'];exact wG c');obtain⟨_,⟨f4,f5⟩,_,_⟩:=l4.out b j1;have t:=qH (PL (f:=fun a:List Int=>EK y (a.getD 6 0)) c' hx);rw[hx] at f2 f3;obtain⟨z0,z1,z2,z3,z4,z5,F,z7,rfl⟩:=CT f2;replace f4:0<=F:=f4;replace f5:F<=31:=f5;obtain⟨c0,c1,c2,g6,g7,g8,g9,g'⟩:=f3.all8;have L : ¬r=w.heap.size+1:=(by have:=World.block_lt_of_cell? w _ c0;have h:r < w.heap.size:=this;omega);have e0:=AC d (O.cell (p:=⟨r,_,none⟩) L (AC c c0));have o0:=AC d (O.cell (p:=⟨r,_,none⟩) L (AC c c1));have o1:=AC d (O.cell (p:=⟨r,_,none⟩) L (AC c c2));have o2:=AC d (O.cell (p:=⟨r,_,none⟩) L (AC c g6));have o3:=AC d (O.cell (p:=⟨r,_,none⟩) L (AC c g7));have o4:=AC d (O.cell (p:=⟨r,_,none⟩) L (AC c g8));have o5:=AC d (O.cell (p:=⟨r,_,none⟩) L (AC c g9));have o6:=AC d (O.cell (p:=⟨r,_,none⟩) L (AC c g'));have a9:Below W.heap.size W (wr.alloc (.cells #[.int .i64 z0,.int .i64 z1,.int .i64 z2,.int .i64 z3,.int .i64 z4,.int .i64 z5,.int .i64 F,.int .i64 z7] 178)):=d.alloc d.size _;have a3:=fB e7 e8 f4 f5;have f':(wr.alloc (.cells #[.int .i64 z0,.int .i64 z1,.int .i64 z2,.int .i64 z3,.int .i64 z4,.int .i64 z5,.int .i64 F,.int .i64 z7] 178)).heap[w.heap.size+1]? = some (.cells #[.int .i64 0] 41 (0,0)):=(a9.block _ (by omega)).trans J;have q4:=AC a9 p6;clear c0 c1 c2 g6 g7 g8 g9 g' f2 f3 hx j1 p0 p1 p2 p3 p4 p5 p6 p7;by_cases U:EK y F=true
        ·rw[U] at a3
         have e9:Hid ((j.drop (i+1)).all (fun a=>EK y (a.getD 6 0))=KT ss (s,[M,N,P,Q,R,S,y,(q:Int)])):=by
          show _=_;rw[<-g.out,t.out];show _=(EK y F && _);rw[U,Bool.true_and]
         have l0:(bits .andNot .i64 y F != 0)=false:=a3;clear g t U a3;gi_wp2;go_roundw
         case rel=>exact⟨i+1,by omega,by go_num,e9,a9⟩
         case measure=>simp[intOf];omega
        ·have e3:=eq_false_of_ne_true U;rw[e3] at a3;have l0:(bits .andNot .i64 y F != 0)=true:=a3
         have e':Hid (HD ss=false):=by
          show _=_
          have k5:KT ss (s,[M,N,P,Q,R,S,y,(q:Int)])=false:=by
           rw[<-g.out,t.out];show(EK y F && _)=_
           rw[e3,Bool.false_and]
          rw[<-YV,Bool.eq_false_iff];intro h;have:=List.all_eq_true.1 h _ l9.out
          rw[k5] at this;cases this
         have m:=wJ f';have o:=free_of_one f';have Y:=one_setCell (u:=.int .i64 21) f';clear g t U e3 a3;gi_wp2;exact⟨D,(AV.of_below a9).setCell (p:=⟨w.heap.size+1,0,none⟩) ((hD _).2 rfl) _,Gr.refl _ _,fun f7 hj=>by have h:=Nat.lt_of_lt_of_le (h2 f7 hj) a9.size;simpa [World.setCell] using h,⟨⟨hD,Y⟩,rfl,e'.out⟩⟩
       ·obtain rfl:i=j.length:=(by omega);have e9:Hid (KT ss (s,[M,N,P,Q,R,S,y,(q:Int)])=true):=(by show _=_;rw[<-g.out,List.drop_length];rfl);clear g;gi_wp2;exact⟨D,AV.of_below d,Gr.refl _ _,fun f7 hj=>Nat.lt_of_lt_of_le (h2 f7 hj) d.size,⟨⟨hD,(d.block _ (by omega)).trans J⟩,by rw[List.all_append,c4,Bool.true_and];simp[e9.out]⟩⟩
     case done=>
      intro d' xs D W hS U O h5 hd m0 e6;obtain⟨⟨hD,J⟩,c4⟩:=U;have T:=qH (show BU n ss=0 by rw[hG.out,<-h4.out,if_pos (by rw[<-YV,<-hS];exact c4)]);have m:=wJ J;have o:=free_of_one J;have Y:=one_setCell (u:=.int .i64 0) J;clear c4 hS;have l3:d' ≠ w.heap.size+1:=(by omega);have e4:=((c.trans (O.below c.size (fun i hi=>by omega))).setCell (p:=⟨w.heap.size+1,0,none⟩) (by show w.heap.size<=w.heap.size+1;omega) (.int .i64 0));go_wp2;refine⟨by simp,.inl ⟨_,_,rfl,run_takeDeferred ((Below.heap_setCell W ⟨w.heap.size+1,0,none⟩ _ d' l3).trans e6),?_⟩⟩;exact⟨_,NL rfl _ _ (w.heap.size+1) 0 rfl (wJ ((World.putObj_heap_other (by omega)).trans Y)),by rw[T.out],IG e4 (by omega) _⟩
     case stop=>
      rintro d' d8 d4 D W _ ⟨⟨hD,J⟩,rfl,e'⟩ O h5 hd m0 e6;have T:=qH (show BU n ss=21 by rw[hG.out,<-h4.out,if_neg (by rw[e'];decide)]);have e4:=c.trans (O.below c.size (fun i hi=>by omega));gi_wp2;refine⟨by simp,.inl ⟨_,_,rfl,run_takeDeferred e6,?_⟩⟩;exact⟨_,NL rfl _ _ (w.heap.size+1) 21 rfl (wJ ((World.putObj_heap_other (by omega)).trans J)),by rw[T.out],IG e4 (by omega) _⟩
theorem lF {n p x:Int}(h:EJ n p x=0):0<=x/\x<=31:=by
 have f:=(SY n).2;unfold EJ at h;by_cases b:n<=p
 ·rw[if_pos b] at h;by_cases a:x=0
  ·omega
  ·rw[if_neg a] at h;cases h
 ·rw[if_neg b] at h;by_cases a:x < 0\/DI n < x
  ·rw[if_pos a] at h;cases h
  ·omega
theorem ZC {n:Int}:∀ {hs:List Int}{i:Int},FF n i hs=0->∀x∈hs,0<=x/\x<=31
 | [],_,_,x,a=>by cases a
 | y::r,i,h,x,a=>by
  unfold FF at h;by_cases e:EJ n i y=0
  ·rw[if_neg (fun k=>k e)] at h;rcases List.mem_cons.1 a with rfl|a
   ·exact lF e
   ·exact ZC h x a
  ·rw[if_pos e] at h;exact absurd h e
theorem WI {n:Int}{hs:List Int}(h:DG n hs=0):(1<=n/\n<=5)/\∀x∈hs,0<=x/\x<=31:=by
 unfold DG at h;by_cases a:n < 1\/5 < n
 ·rw[if_pos a] at h;cases h
 ·rw[if_neg a] at h;exact⟨by omega,ZC h⟩
theorem uY {r:List Int}(p:r.length=7) (h:EN r=0):VP r:=by
 obtain⟨c,d,e,g,i,j,f,rfl⟩:=LD p
 have o:DG c [d,e,g,i,j]=0:=by
  by_cases k:DG c [d,e,g,i,j]=0
  ·exact k
  ·rw[PR k] at h;exact h
 obtain⟨s,a⟩:=WI o;obtain⟨_,l,m⟩:=SA (RY h);have q:=UY (n:=c);refine⟨rfl,fun x b=>?_⟩;simp only[List.mem_cons,List.not_mem_nil,or_false] at b;have l:0<=f:=l;have m:f < CD c:=m;rcases b with rfl|b
 ·omega
 rcases b with rfl|rfl|rfl|rfl|rfl|rfl
 ·have:=a x (by simp);omega
 ·have:=a x (by simp);omega
 ·have:=a x (by simp);omega
 ·have:=a x (by simp);omega
 ·have:=a x (by simp);omega
 ·omega
theorem PQ {n:Int}{ss:Jc}(h:BU n ss=0):(1<=n/\n<=5)/\(1<=ss.length/\ss.length<=256/\CA ss<=4096)/\BQ n ss.length ss=0/\HD ss=true:=by
 unfold BU at h;by_cases b:n < 1\/5 < n
 ·rw[if_pos b] at h;cases h
 rw[if_neg b] at h;by_cases c:ss.length < 1\/256 < ss.length\/4096 < CA ss
 ·rw[if_pos c] at h;cases h
 rw[if_neg c] at h;by_cases a:BQ n ss.length ss ≠ 0
 ·rw[if_pos a] at h;exact absurd h a
 rw[if_neg a] at h;by_cases d:HD ss=true
 ·exact⟨by omega,by omega,Decidable.not_not.1 a,d⟩
 ·rw[if_neg d] at h;cases h
theorem gP {n:Int}{ss:Jc}(o:∀s∈ss,∀m∈s,m.length=8) (h:BU n ss=0) (q:ss.length<=90) (r:CA ss<=90):JM ss:=by
 obtain⟨_,⟨i,_,_⟩,k,_⟩:=PQ h;refine⟨q,r,i,fun s g=>?_⟩;have a:=NO k s g;unfold DO at a;by_cases e:s.length=0
 ·rw[if_pos e] at a;cases a
 rw[if_neg e] at a;refine⟨by omega,fun m f=>?_⟩;obtain⟨j,p,rfl⟩:=List.mem_iff_getElem.1 f;obtain⟨c,_,_,b,d⟩:=OR (NH a j (by omega) (by omega));rw[AK p] at c b d;have l:=o s g _ f;exact⟨uY (by rw[rdOf,List.length_take,l];rfl) c,l,b,d⟩
end Go.Proofs.YtcnedkkcgdkioaaGreat
namespace Go.Proofs.YtcnedkkcgdkioaaGreat
open Go.RowKit Go.ChangeMaps Go.MapKept
theorem MP {w:World}{n:Int}{a:Option Addr}{l c:Nat}{b:World}(d:b=w.alloc (.cells #[.int .i64 n,.slice a l c] 27)) :
  Below w.heap.size w b/\b.cell? ⟨w.heap.size,0,none⟩=some (.int .i64 n)/\b.cell? ⟨w.heap.size,1,none⟩=some (.slice a l c)/\b.heap[w.heap.size]? = some (.cells #[.int .i64 n,.slice a l c] 27):=by
 have h:=wE w (.cells #[.int .i64 n,.slice a l c] 27);rw[<-d] at h;refine⟨by rw[d];exact(wB _ w).alloc (wC _) _,?_,?_,h⟩
 ·rw[cell_of_row _ _ 0 _ _ _ h];rfl
 ·rw[cell_of_row _ _ 1 _ _ _ h];rfl
end Go.Proofs.YtcnedkkcgdkioaaGreat
namespace Go.Proofs.YtcnedkkcgdkioaaGreat
open Go.RowKit
def UW (r:List Int):Jb->Int
 | []=>-1
 | m::ms=>if rdOf m=r then m.getD 7 0 else UW r ms
def ES (ss:Jc):Prop:=∀s∈ss,∀m∈s,0<=m.getD 7 0/\m.getD 7 0 < (ss.length:Int)
theorem PK {w:World}{v:Value}{n:Int}{ss:Jc}(h:DC w v n ss):∃a c,v = .agg #[.int .i64 n,.slice a ss.length c]:=by
 obtain⟨s,rfl,K⟩:=h;obtain⟨a,c,rfl⟩:=K.shape;exact⟨a,c,rfl⟩
end Go.Proofs.YtcnedkkcgdkioaaGreat
namespace Go.Proofs.YtcnedkkcgdkioaaGreat
theorem NY (a b:Int) (xs ys:List Int):AH (a::xs) (b::ys) < 0↔a < b\/(a=b/\AH xs ys < 0):=by
 simp only[AH,AU];by_cases h:a < b
 ·simp[h]
 ·by_cases c:b < a
  ·simp[h,c,show a ≠ b by omega]
  ·obtain rfl:a=b:=(by omega);simp
theorem SB (b:Int) (ys:List Int):AH [] (b::ys) < 0:=by simp[AH]
theorem PT:∀xs:List Int,¬AH xs [] < 0
 | []=>by simp[AH]
 | _::_=>by simp[AH]
theorem KN:∀a b:List Int,AH a b < 0->¬AH b a < 0
 | xs,[],h=>absurd h (PT xs)
 | [],_::_,_=>PT _
 | a::xs,b::ys,h=>by
  rw[NY] at h|-;rintro(c|⟨c,d⟩)
  ·rcases h with h|⟨h,_⟩<;>omega
  ·rcases h with h|⟨_,h⟩
   ·omega
   ·exact KN xs ys h d
theorem JV:∀a b c:List Int,AH a b < 0->AH b c < 0->AH a c < 0
 | xs,[],_,h,_=>absurd h (PT xs)
 | _,ys,[],_,h=>absurd h (PT ys)
 | [],_::_,c::zs,_,_=>SB c zs
 | a::xs,b::ys,c::zs,h,k=>by
  rw[NY] at h k|-;rcases h with h|⟨rfl,h⟩<;>rcases k with k|⟨rfl,k⟩
  ·left;omega
  ·exact .inl h
  ·exact .inl k
  ·exact .inr ⟨rfl,JV xs ys zs h k⟩
theorem OA:∀a b:List Int,AH a b < 0\/a=b\/AH b a < 0
 | [],[]=>.inr (.inl rfl)
 | [],b::ys=>.inl (SB b ys)
 | a::xs,[]=>.inr (.inr (SB a xs))
 | a::xs,b::ys=>by
  rw[NY,NY];rcases Int.lt_trichotomy a b with h|rfl|h
  ·exact .inl (.inl h)
  ·rcases OA xs ys with h|rfl|h
   ·exact .inl (.inr ⟨rfl,h⟩)
   ·exact .inr (.inl rfl)
   ·exact .inr (.inr (.inr ⟨rfl,h⟩))
  ·exact .inr (.inr (.inl h))
theorem XB (a b c:List Int) (h : ¬AH a b < 0) (k : ¬AH b c < 0) : ¬AH a c < 0:=by
 intro e;rcases OA a b with d|rfl|d
 ·exact h d
 ·exact k e
 ·exact k (JV b a c d e)
theorem UU {α:Type}{lt:α->α->Prop}(has:∀a b,lt a b->¬lt b a):∀ {l f:List α},l.Pairwise lt->f.Pairwise lt->(∀x,x∈l↔x∈f)->l=f
 | [],[],_,_,_=>rfl
 | [],b::t2,_,_,h=>absurd ((h b).2 (List.mem_cons_self ..)) (by simp)
 | a::t1,[],_,_,h=>absurd ((h a).1 (List.mem_cons_self ..)) (by simp)
 | a::t1,b::t2,h1,h2,h=>by
  rw[List.pairwise_cons] at h1 h2
  have g:a=b:=by
   rcases List.mem_cons.1 ((h a).1 (List.mem_cons_self ..)) with c|c
   ·exact c
   ·rcases List.mem_cons.1 ((h b).2 (List.mem_cons_self ..)) with e|e
    ·exact e.symm
    ·exact absurd (h2.1 a c) (has _ _ (h1.1 b e))
  subst g;rw[UU has h1.2 h2.2 fun x=>⟨fun d=>?_,fun d=>?_⟩]
  ·rcases List.mem_cons.1 ((h x).1 (List.mem_cons_of_mem _ d)) with c|c
   ·subst c;exact absurd (h1.1 x d) (fun h=>has _ _ h h)
   ·exact c
  ·rcases List.mem_cons.1 ((h x).2 (List.mem_cons_of_mem _ d)) with c|c
   ·subst c;exact absurd (h2.1 x d) (fun h=>has _ _ h h)
   ·exact c
def LG (l:Jb):Prop:=l.Pairwise fun a b=>AH a b < 0
def dP (ss:Jc) (r:List Int) (x:Nat × Nat):Nat × Nat:=((UW r (ss.getD x.1 [])).toNat,(UW r (ss.getD x.2 [])).toNat)
end Go.Proofs.YtcnedkkcgdkioaaGreat
namespace Go.Proofs.YtcnedkkcgdkioaaGreat
open Go.RowKit
abbrev Cs:=List Int × Jb × Jb
def BE:Cs:=([],[],[])
def FG (v:List Int) (n most:Int):Int:=if (v.length:Int) ≠ n then 15 else if ∃x∈v,x < 0\/most<=x then 2 else 0
def JI (n most:Int) (l:Jb) (k:Nat):Int:=
 if FG (l.getD k []) n most ≠ 0 then FG (l.getD k []) n most else if 0 < k/\0<=AH (l.getD (k - 1) []) (l.getD k []) then 14 else 0
def JT (o l:Jb) (k:Nat):Int:=
 if l.getD k [] ∉ o then 6 else if 0 < k/\0<=AH (l.getD (k - 1) []) (l.getD k []) then 14 else 0
def CZ (f:Nat->Int):Nat->Nat->Int
 | 0,_=>0
 | m+1,k=>if f k ≠ 0 then f k else CZ f m (k+1)
def KZ (n most:Int) (c:Cs):Int:=
 if c.2.1.length < 1\/1024 < c.2.1.length then 5 else
  if CZ (JI n most c.2.1) c.2.1.length 0 ≠ 0 then CZ (JI n most c.2.1) c.2.1.length 0 else CZ (JT c.2.1 c.2.2) c.2.2.length 0
def GY (n i o:Int) (cs:List Cs) (k:Nat):Int:=
 if FG (cs.getD k BE).1 n i ≠ 0 then FG (cs.getD k BE).1 n i else
  if 0 < k/\0<=AH (cs.getD (k - 1) BE).1 (cs.getD k BE).1 then 14 else KZ n o (cs.getD k BE)
def FK (n i o:Int) (cs:List Cs):Int:=
 if (n < 1\/5 < n)\/(i < 1\/8 < i)\/(o < 1\/8 < o) then 2 else
  if cs.length < 1\/1024 < cs.length then 5 else CZ (GY n i o cs) cs.length 0
theorem QA {f:Nat->Int}:∀(m k:Nat),CZ f m k=0↔∀j,k<=j->j < k+m->f j=0
 | 0,k=>⟨fun _ j b a=>absurd a (by omega),fun _=>rfl⟩
 | m+1,k=>by
  rw[CZ];by_cases h:f k=0
  ·rw[if_neg (fun g=>g h),QA m (k+1)];refine⟨fun g j b a=>?_,fun g j b a=>g j (by omega) (by omega)⟩;by_cases e:j=k
   ·rw[e];exact h
   ·exact g j (by omega) (by omega)
  ·rw[if_pos h];exact⟨fun g=>absurd g h,fun g=>absurd (g k (wC _) (by omega)) h⟩
def KH (w:World) (b o:Nat) (cs:List Cs):Prop:=
 ∀j,j < cs.length->∃u0 u1 u2,w.cell? ⟨b,o+j * 3,none⟩=some u0/\w.cell? ⟨b,o+j * 3+1,none⟩=some u1/\w.cell? ⟨b,o+j * 3+2,none⟩=some u2/\
  AR w u0 (cs.getD j BE).1/\BM w u1 (cs.getD j BE).2.1/\BM w u2 (cs.getD j BE).2.2
theorem KH.keep {w w':World}{b o:Nat}{cs:List Cs}(h:KH w b o cs) (a:Below w.heap.size w w'):KH w' b o cs:=fun j k=>by
 obtain⟨u0,u1,u2,c,d,e,f,g,i⟩:=h j k;exact⟨u0,u1,u2,AC a c,AC a d,AC a e,f.keep a,g.keep a,i.keep a⟩
def HZ (w:World) (v:Value) (cs:List Cs):Prop:=
 ∃a c b o,v = .slice a cs.length c/\(0 < cs.length->a=some ⟨b,o,none⟩)/\KH w b o cs/\cs.length<=1954687338268
theorem HZ.keep {w w':World}{v:Value}{cs:List Cs}(h:HZ w v cs) (i:Below w.heap.size w w'):HZ w' v cs:=by
 obtain⟨a,c,b,o,d,e,f,g⟩:=h;exact⟨a,c,b,o,d,e,f.keep i,g⟩
theorem HZ.shape {w:World}{v:Value}{cs:List Cs}(h:HZ w v cs):∃a c,v = .slice a cs.length c:=by
 obtain⟨a,c,_,_,b,_⟩:=h;exact⟨a,c,b⟩
def IZ (w:World) (v:Value) (n i o:Int) (cs:List Cs):Prop:=∃s,v = .agg #[.int .i64 n,.int .i64 i,.int .i64 o,s]/\HZ w s cs
theorem IZ.keep {w w':World}{v:Value}{n i o:Int}{cs:List Cs}(h:IZ w v n i o cs) (c:Below w.heap.size w w'):IZ w' v n i o cs:=by
 obtain⟨s,a,b⟩:=h;exact⟨s,a,b.keep c⟩
theorem OJ {w:World}{u v:Value}{xs ys:List Int}(a:AR w u xs) (b:AR w v ys) :
  Calls Tryz.prog 18 #[u,v] w fun e w'=>e = .returned (.bool (decide (xs=ys)))/\Qt w w':=by
 obtain⟨G,I,H,J,rfl,s,j,_⟩:=a;obtain⟨K,M,L,N,rfl,A,k,_⟩:=b;obtain⟨B,c⟩:∃B,decide (xs=ys)=B:=⟨_,rfl⟩;rw[c];replace c:=qH c;replace j:=qH j;replace k:=qH k;by_cases l:xs.length=ys.length
 ·rw[<-l];replace l:=qH l;have o:Hid (xs.take 0=ys.take 0):=rfl;go_enter Tryz.func18, Tryz.ntmps18
  go_wp2;go_loopw [13] (fun m wr=>∃i:Nat,m = .int .i64 i/\i<=xs.length/\Hid (xs.take i=ys.take i)/\Qt w wr) (fun m _=>xs.length - (intOf m).toNat)
  case atStart=>exact⟨0,rfl,by omega,o,Qt.refl w⟩
  case round=>
   clear o;obtain⟨i,rfl,F,t,n,rfl⟩:=hrel;by_cases f:i < xs.length
   ·obtain rfl:=s (by omega);obtain rfl:=A (by rw[<-l.out];omega);have p:i < ys.length:=(by rw[<-l.out];exact f);have z:=j.out i f;have C:=k.out i p;obtain⟨x,a⟩:=AB (xs.getD i 0);obtain⟨y,b⟩:=AB (ys.getD i 0);rw[a] at z;rw[b] at C;by_cases d:x=y
    ·subst d;have r:Hid (xs.take (i+1)=ys.take (i+1)):=GA t.out f p (by rw[a,b]);clear a b t;go_wp2;go_quiet (fail)
     go_wp2;go_roundw
     case rel=>exact⟨i+1,by go_num,f,r,by first|exact(Qt.mk' w n).step nq|exact Qt.mk' w _⟩
     case measure=>simp[intOf];omega
    ·have E:(x == y)=false:=by simp[d]
     have g:Hid (B=false):=by
      show _=_;rw[<-c.out];refine vY fun h=>d ?_;rw[<-a,<-b,h]
     clear a b d t;go_wp2;go_quiet (fail)
     go_wp2;go_ret;exact⟨by rw[g.out];rfl,by first|exact(Qt.mk' w n).step nq|exact Qt.mk' w _⟩
   ·have q:Hid (B=true):=by
     show _=_;rw[<-c.out];exact vZ (FZ t.out (by omega) (by rw[<-l.out];omega))
    clear t;go_wp2;go_ret;exact⟨by rw[q.out];rfl,Qt.mk' w n⟩
 ·have g:B=false:=by rw[<-c.out];exact vY fun h=>l (by rw[h])
  subst g;have D:((xs.length:Int) == (ys.length:Int))=false:=by simp;omega
  go_enter Tryz.func18, Tryz.ntmps18
  go_wp2;go_ret;exact⟨rfl,Qt.refl w⟩
theorem sP {w:World}{u v:Value}{xs ys:Jb}(x:KS 7 w u xs) (y:KS 7 w v ys) :
  Calls Tryz.prog 214 #[u,v] w fun e w'=>e = .returned (.bool (decide (xs=ys)))/\Qt w w':=by
 obtain⟨xa,xc,xb,xo,rfl,Q,g,_⟩:=x;obtain⟨ya,yc,yb,yo,rfl,R,m,_⟩:=y;obtain⟨B,a⟩:∃B,decide (xs=ys)=B:=⟨_,rfl⟩;rw[a];replace a:=qH a;replace g:=qH g;replace m:=qH m;by_cases l:xs.length=ys.length
 ·rw[<-l];replace l:=qH l;have L:Hid (xs.take 0=ys.take 0):=rfl;go_enter Tryz.func214, Tryz.ntmps214
  go_wp2;go_loopw [5] (fun p wr=>∃i:Nat,p = .int .i64 i/\i<=xs.length/\Hid (xs.take i=ys.take i)/\Qt w wr) (fun p _=>xs.length - (intOf p).toNat)
  case atStart=>exact⟨0,rfl,by omega,L,Qt.refl w⟩
  case round=>
   clear L;obtain⟨i,rfl,hi,t,n,rfl⟩:=hrel;by_cases c:i < xs.length
   ·obtain rfl:=Q (by omega);obtain rfl:=R (by rw[<-l.out];omega);have M:i < ys.length:=(by rw[<-l.out];exact c);obtain⟨d,j⟩:=g.out i c;obtain⟨k,o⟩:=m.out i M;obtain⟨a8,x⟩:=AB (xs.getD i []);obtain⟨b2,y⟩:=AB (ys.getD i []);rw[x] at d j;rw[y] at k o;obtain⟨q,r,s,z,A,C,D,rfl⟩:=LD d;obtain⟨E,F,G,H,I,J,K,rfl⟩:=LD k;obtain⟨S,T,U,V,W,X,Y⟩:=j.all7;obtain⟨Z,d1,d2,d3,d4,d5,d6⟩:=o.all7;clear j o d k;by_cases b : [q,r,s,z,A,C,D] = [E,F,G,H,I,J,K]
    ·have O:BI [q,r,s,z,A,C,D] [E,F,G,H,I,J,K]=true:=FN.2 b;have P:Hid (xs.take (i+1)=ys.take (i+1)):=GA t.out c M (by rw[x,y,b]);clear x y b t;go_wp2;go_quiet (fail)
     go_wp2;go_roundw
     case rel=>exact⟨i+1,by go_num,c,P,by first|exact(Qt.mk' w n).step nq|exact Qt.mk' w _⟩
     case measure=>simp[intOf];omega
    ·have O:BI [q,r,s,z,A,C,D] [E,F,G,H,I,J,K]=false:=FL.2 b
     have f:Hid (B=false):=by
      show _=_;rw[<-a.out];refine vY fun h=>b ?_;rw[<-x,<-y,h]
     clear x y b t;go_wp2;go_quiet (fail)
     go_wp2;go_ret;exact⟨by rw[f.out];rfl,by first|exact(Qt.mk' w n).step nq|exact Qt.mk' w _⟩
   ·have N:Hid (B=true):=by
     show _=_;rw[<-a.out];exact vZ (FZ t.out (by omega) (by rw[<-l.out];omega))
    clear t;go_wp2;go_ret;exact⟨by rw[N.out];rfl,Qt.mk' w n⟩
 ·have f:B=false:=by rw[<-a.out];exact vY fun h=>l (by rw[h])
  subst f;have h1:((xs.length:Int) == (ys.length:Int))=false:=by simp;omega
  go_enter Tryz.func214, Tryz.ntmps214
  go_wp2;go_ret;exact⟨rfl,Qt.refl w⟩
theorem iY {w:World}{u v:Value}{xs ys:Jb}(x:KS 7 w u xs) (y:KS 7 w v ys) :
  Calls Tryz.prog 174 #[u,v] w fun e w'=>e = .returned (.bool (decide (xs=ys)))/\Qt w w':=by
 obtain⟨xa,xc,xb,xo,rfl,Q,g,_⟩:=x;obtain⟨ya,yc,yb,yo,rfl,R,m,_⟩:=y;obtain⟨B,a⟩:∃B,decide (xs=ys)=B:=⟨_,rfl⟩;rw[a];replace a:=qH a;replace g:=qH g;replace m:=qH m;by_cases l:xs.length=ys.length
 ·rw[<-l];replace l:=qH l;have L:Hid (xs.take 0=ys.take 0):=rfl;go_enter Tryz.func174, Tryz.ntmps174
  go_wp2;go_loopw [13] (fun p wr=>∃i:Nat,p = .int .i64 i/\i<=xs.length/\Hid (xs.take i=ys.take i)/\Qt w wr) (fun p _=>xs.length - (intOf p).toNat)
  case atStart=>exact⟨0,rfl,by omega,L,Qt.refl w⟩
  case round=>
   clear L;obtain⟨i,rfl,hi,t,n,rfl⟩:=hrel;by_cases c:i < xs.length
   ·obtain rfl:=Q (by omega);obtain rfl:=R (by rw[<-l.out];omega);have M:i < ys.length:=(by rw[<-l.out];exact c);obtain⟨d,j⟩:=g.out i c;obtain⟨k,o⟩:=m.out i M;obtain⟨a8,x⟩:=AB (xs.getD i []);obtain⟨b2,y⟩:=AB (ys.getD i []);rw[x] at d j;rw[y] at k o;obtain⟨q,r,s,z,A,C,D,rfl⟩:=LD d;obtain⟨E,F,G,H,I,J,K,rfl⟩:=LD k;obtain⟨S,T,U,V,W,X,Y⟩:=j.all7;obtain⟨Z,d1,d2,d3,d4,d5,d6⟩:=o.all7;clear j o d k;by_cases b : [q,r,s,z,A,C,D] = [E,F,G,H,I,J,K]
    ·have O:BI [q,r,s,z,A,C,D] [E,F,G,H,I,J,K]=true:=FN.2 b;have P:Hid (xs.take (i+1)=ys.take (i+1)):=GA t.out c M (by rw[x,y,b]);clear x y b t;go_wp2;go_quiet (fail)
     go_wp2;go_roundw
     case rel=>exact⟨i+1,by go_num,c,P,by first|exact(Qt.mk' w n).step nq|exact Qt.mk' w _⟩
     case measure=>simp[intOf];omega
    ·have O:BI [q,r,s,z,A,C,D] [E,F,G,H,I,J,K]=false:=FL.2 b
     have f:Hid (B=false):=by
      show _=_;rw[<-a.out];refine vY fun h=>b ?_;rw[<-x,<-y,h]
     clear x y b t;go_wp2;go_quiet (fail)
     go_wp2;go_ret;exact⟨by rw[f.out];rfl,by first|exact(Qt.mk' w n).step nq|exact Qt.mk' w _⟩
   ·have N:Hid (B=true):=by
     show _=_;rw[<-a.out];exact vZ (FZ t.out (by omega) (by rw[<-l.out];omega))
    clear t;go_wp2;go_ret;exact⟨by rw[N.out];rfl,Qt.mk' w n⟩
 ·have f:B=false:=by rw[<-a.out];exact vY fun h=>l (by rw[h])
  subst f;have h1:((xs.length:Int) == (ys.length:Int))=false:=by simp;omega
  go_enter Tryz.func174, Tryz.ntmps174
  go_wp2;go_ret;exact⟨rfl,Qt.refl w⟩
end Go.Proofs.YtcnedkkcgdkioaaGreat

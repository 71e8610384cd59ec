/- Texts of this claim, put together: NS CL NR NH0 NI. -/
import Derived.Test.YtcnedkkcgdkioaaGreatKSu

set_option maxRecDepth 100000
set_option maxHeartbeats 12800000
namespace Go.Proofs.YtcnedkkcgdkioaaGreat
open Go.RowKit
theorem boxL2 {w:World}{b:Nat}{t:TypeId}{u0 u1:Value}(h:w.heap[b]? = some (.cells #[u0,u1] t)) :
  w.cell? ⟨b,0,none⟩=some u0/\w.cell? ⟨b,1,none⟩=some u1:=
 ⟨box_cell h rfl,box_cell h rfl⟩
theorem boxL3 {w:World}{b:Nat}{t:TypeId}{u0 u1 u2:Value}(h:w.heap[b]? = some (.cells #[u0,u1,u2] t)) :
  w.cell? ⟨b,0,none⟩=some u0/\w.cell? ⟨b,1,none⟩=some u1/\w.cell? ⟨b,2,none⟩=some u2:=
 ⟨box_cell h rfl,box_cell h rfl,box_cell h rfl⟩
theorem storeEnd8 {w:World}{b:Nat}{t:TypeId}{x0 x1 x2 x3 x4 x5 x6 x7 u0 u1 u2 u3 u4 u5 u6 u7:Value}{G:Prop}(h:w.heap[b]? = some (.cells #[x0,x1,x2,x3,x4,x5,x6,x7] t))
  (k:∀W,W=((((((((w.setCell ⟨b,0,none⟩ u0).setCell ⟨b,1,none⟩ u1).setCell ⟨b,2,none⟩ u2).setCell ⟨b,3,none⟩ u3).setCell ⟨b,4,none⟩ u4).setCell ⟨b,5,none⟩ u5).setCell ⟨b,6,none⟩ u6).setCell ⟨b,7,none⟩ u7)->(∀(B:Nat) (w0:World),B<=b->Below B w0 w->Below B w0 W)->KeepX t w W->W.heap[b]? = some (.cells #[u0,u1,u2,u3,u4,u5,u6,u7] t)->
   W.cell? ⟨b,0,none⟩=some u0->W.cell? ⟨b,1,none⟩=some u1->W.cell? ⟨b,2,none⟩=some u2->W.cell? ⟨b,3,none⟩=some u3->W.cell? ⟨b,4,none⟩=some u4->W.cell? ⟨b,5,none⟩=some u5->W.cell? ⟨b,6,none⟩=some u6->W.cell? ⟨b,7,none⟩=some u7->G):G:=by
 obtain⟨W0,e0⟩:=exF (w.setCell ⟨b,0,none⟩ u0);have h0:W0.heap[b]? = some (.cells #[u0,x1,x2,x3,x4,x5,x6,x7] t):=by rw[e0];exact heap_setCell_same w b 0 _ t u0 h
 have k0:KeepX t w W0:=by rw[e0];exact KeepX.trans (KeepX.refl t w) (KeepX.setCell (p:=⟨b,0,none⟩) h u0)
 have b0:∀(B:Nat) (w0:World),B<=b->Below B w0 w->Below B w0 W0:=fun B w0 hB hw=>by rw[e0];exact(hw).setCell (p:=⟨b,0,none⟩) hB _
 obtain⟨W1,e1⟩:=exF (W0.setCell ⟨b,1,none⟩ u1);have h1:W1.heap[b]? = some (.cells #[u0,u1,x2,x3,x4,x5,x6,x7] t):=by rw[e1];exact heap_setCell_same W0 b 1 _ t u1 h0
 have k1:KeepX t w W1:=by rw[e1];exact KeepX.trans k0 (KeepX.setCell (p:=⟨b,1,none⟩) h0 u1)
 have b1:∀(B:Nat) (w0:World),B<=b->Below B w0 w->Below B w0 W1:=fun B w0 hB hw=>by rw[e1];exact(b0 B w0 hB hw).setCell (p:=⟨b,1,none⟩) hB _
 obtain⟨W2,e2⟩:=exF (W1.setCell ⟨b,2,none⟩ u2);have h2:W2.heap[b]? = some (.cells #[u0,u1,u2,x3,x4,x5,x6,x7] t):=by rw[e2];exact heap_setCell_same W1 b 2 _ t u2 h1
 have k2:KeepX t w W2:=by rw[e2];exact KeepX.trans k1 (KeepX.setCell (p:=⟨b,2,none⟩) h1 u2)
 have b2:∀(B:Nat) (w0:World),B<=b->Below B w0 w->Below B w0 W2:=fun B w0 hB hw=>by rw[e2];exact(b1 B w0 hB hw).setCell (p:=⟨b,2,none⟩) hB _
 obtain⟨W3,e3⟩:=exF (W2.setCell ⟨b,3,none⟩ u3);have h3:W3.heap[b]? = some (.cells #[u0,u1,u2,u3,x4,x5,x6,x7] t):=by rw[e3];exact heap_setCell_same W2 b 3 _ t u3 h2
 have k3:KeepX t w W3:=by rw[e3];exact KeepX.trans k2 (KeepX.setCell (p:=⟨b,3,none⟩) h2 u3)
 have b3:∀(B:Nat) (w0:World),B<=b->Below B w0 w->Below B w0 W3:=fun B w0 hB hw=>by rw[e3];exact(b2 B w0 hB hw).setCell (p:=⟨b,3,none⟩) hB _
 obtain⟨W4,e4⟩:=exF (W3.setCell ⟨b,4,none⟩ u4);have h4:W4.heap[b]? = some (.cells #[u0,u1,u2,u3,u4,x5,x6,x7] t):=by rw[e4];exact heap_setCell_same W3 b 4 _ t u4 h3
 have k4:KeepX t w W4:=by rw[e4];exact KeepX.trans k3 (KeepX.setCell (p:=⟨b,4,none⟩) h3 u4)
 have b4:∀(B:Nat) (w0:World),B<=b->Below B w0 w->Below B w0 W4:=fun B w0 hB hw=>by rw[e4];exact(b3 B w0 hB hw).setCell (p:=⟨b,4,none⟩) hB _
 obtain⟨W5,e5⟩:=exF (W4.setCell ⟨b,5,none⟩ u5);have h5:W5.heap[b]? = some (.cells #[u0,u1,u2,u3,u4,u5,x6,x7] t):=by rw[e5];exact heap_setCell_same W4 b 5 _ t u5 h4
 have k5:KeepX t w W5:=by rw[e5];exact KeepX.trans k4 (KeepX.setCell (p:=⟨b,5,none⟩) h4 u5)
 have b5:∀(B:Nat) (w0:World),B<=b->Below B w0 w->Below B w0 W5:=fun B w0 hB hw=>by rw[e5];exact(b4 B w0 hB hw).setCell (p:=⟨b,5,none⟩) hB _
 obtain⟨W6,e6⟩:=exF (W5.setCell ⟨b,6,none⟩ u6);have h6:W6.heap[b]? = some (.cells #[u0,u1,u2,u3,u4,u5,u6,x7] t):=by rw[e6];exact heap_setCell_same W5 b 6 _ t u6 h5
 have k6:KeepX t w W6:=by rw[e6];exact KeepX.trans k5 (KeepX.setCell (p:=⟨b,6,none⟩) h5 u6)
 have b6:∀(B:Nat) (w0:World),B<=b->Below B w0 w->Below B w0 W6:=fun B w0 hB hw=>by rw[e6];exact(b5 B w0 hB hw).setCell (p:=⟨b,6,none⟩) hB _
 obtain⟨W7,e7⟩:=exF (W6.setCell ⟨b,7,none⟩ u7);have h7:W7.heap[b]? = some (.cells #[u0,u1,u2,u3,u4,u5,u6,u7] t):=by rw[e7];exact heap_setCell_same W6 b 7 _ t u7 h6
 have k7:KeepX t w W7:=by rw[e7];exact KeepX.trans k6 (KeepX.setCell (p:=⟨b,7,none⟩) h6 u7)
 have b7:∀(B:Nat) (w0:World),B<=b->Below B w0 w->Below B w0 W7:=fun B w0 hB hw=>by rw[e7];exact(b6 B w0 hB hw).setCell (p:=⟨b,7,none⟩) hB _
 exact k W7 (by rw[e7,e6,e5,e4,e3,e2,e1,e0]) b7 k7 h7 (box_cell h7 rfl) (box_cell h7 rfl) (box_cell h7 rfl) (box_cell h7 rfl) (box_cell h7 rfl) (box_cell h7 rfl) (box_cell h7 rfl) (box_cell h7 rfl)
theorem chunks_eq {α:Type}{k:Nat}:∀(n:Nat) (a b:List α),a.length=n * k->b.length=n * k->(∀j,j < n->(a.drop (j * k)).take k=(b.drop (j * k)).take k)->a=b
 | 0,a,b,ha,hb,_=>by
  rw[Nat.zero_mul] at ha hb;rw[List.length_eq_zero_iff.1 ha,List.length_eq_zero_iff.1 hb]
 | n+1,a,b,ha,hb,h=>by
  rw[Nat.succ_mul] at ha hb;rw[<-List.take_append_drop k a,<-List.take_append_drop k b];have h0:=h 0 (by omega);rw[Nat.zero_mul,List.drop_zero,List.drop_zero] at h0;rw[h0,chunks_eq (k:=k) n (a.drop k) (b.drop k) (by rw[List.length_drop];omega) (by rw[List.length_drop];omega) fun j hj=>?_];have:=h (j+1) (by omega)
  rw[Nat.succ_mul,Nat.add_comm (j * k) k] at this;rwa [List.drop_drop,List.drop_drop]
theorem OwX.lens {E:TypeId}{k:Nat}{w:World}{B n:Nat}{v:Value}{xs:Jb}(h:OwX E k EI w B v n xs):∀x∈xs,x.length=k:=fun x hx=>by
 obtain⟨vs,h1,h2,h3,h4⟩:=h;obtain⟨j,hj,rfl⟩:=List.getElem_of_mem hx;have he:(vs.drop (j * k)).take k=xs[j].map (Value.int .i64):=h4 j _ (List.getElem?_eq_getElem hj);have hvl:vs.length=n * k:=h1.1;have hle:j * k+k<=n * k:=by rw[<-Nat.succ_mul];exact Nat.mul_le_mul_right _ (by omega)
 have:=congrArg List.length he
 rw[List.length_take,List.length_drop,List.length_map] at this;omega
theorem OwX.flatV {E:TypeId}{k:Nat}{w:World}{B n:Nat}{v:Value}{xs:Jb}(h:OwX E k EI w B v n xs):w.ownsRow B E k v n (xs.flatten.map (Value.int .i64)):=by
 have hl:=h.lens;obtain⟨vs,h1,h2,h3,h4⟩:=h;have hvl:vs.length=n * k:=h1.1
 have:vs=xs.flatten.map (Value.int .i64):=by
  refine chunks_eq n _ _ hvl (by rw[List.length_map,flat_len hl,h2]) fun j hj=>?_;have hx:xs[j]? = some xs[j]:=List.getElem?_eq_getElem (by omega);have he:(vs.drop (j * k)).take k=xs[j].map (Value.int .i64):=h4 j _ hx;rw[he,<-List.map_drop,<-List.map_take,flat_get hl hx]
 rw[<-this];exact h1
theorem run_appXs {P:Program}{T E ty:TypeId}{z:Value}{k bytes:Nat}(hE:ElemK P T E z k bytes) (hby:bytes<=128) (hk:0 < k) {w:World}{B n:Nat}{v:Value}{xs ys:Jb}
  (hown:OwX E k EI w B v n xs) {ya:Option Addr} {yc:Nat} (hy:KS k w (.slice ya ys.length yc) ys) (hz:ya=none->yc=0) (hn:n+ys.length<=1000000) (hB:B<=w.heap.size) :
  ∃v' w',(Builtin.append_ #[T,T] ty #[v,.slice ya ys.length yc]).run P w = .ok v' w'/\OwX E k EI w' B v' (n+ys.length) (xs++ys)/\w.grownBy w' v.ownBlock/\Below B w w'/\KeepX E w w':=by
 obtain⟨i0,hi,hz0,hz1,hz2⟩:=info_parts hE.2.1;have hfl:=hown.flatV;have hlx:=hown.lens;have hxn:=hown.length;obtain⟨a',c',b,off,he,ha,hc,_⟩:=hy;injection he with he1 he2 he3;subst he1 he3;have hly:=KS.lens hc
 have hlens:∀x∈xs++ys,x.length=k:=fun x hx=>by
  rcases List.mem_append.1 hx with h|h
  ·exact hlx x h
  ·exact hly x h
 cases ya with
 | none=>
  obtain rfl:=hz rfl
  have h0:ys.length=0:=by
   rcases Nat.eq_zero_or_pos ys.length with h|h
   ·exact h
   ·cases ha h
  obtain rfl:=List.length_eq_zero_iff.1 h0;exact⟨v,w,run_append_owned_none (P:=P) (w:=w) B T ty E i0 k hE.1 hi v n _ hfl,by rw[List.append_nil];exact hown,⟨rfl,rfl,rfl,Nat.le_refl _,fun _ _ _=>rfl⟩,Below.refl _ _,KeepX.below (Below.refl _ _)⟩
 | some ad=>
  have hnews:∀j u,(ys.flatten.map (Value.int .i64))[j]? = some u->w.cell? (ad.add j)=some u:=fun j u hj=>by
   have hpos:0 < ys.length:=by
    rcases Nat.eq_zero_or_pos ys.length with h|h
    ·rw[List.length_eq_zero_iff.1 h] at hj;simp at hj
    ·exact h
   have:=ha hpos
   injection this with this;subst this;rw[Addr.add_lit];exact KS.flat hc j u hj
  have hone:∀u∈ys.flatten.map (Value.int .i64),u.oneCell'=true:=fun u hu=>by
   obtain⟨i,_,rfl⟩:=List.mem_map.1 hu;rfl
  have hbd:(n+ys.length) * bytes<=140737488355328:=by
   have:(n+ys.length) * bytes<=1000000 * 128:=Nat.mul_le_mul hn hby
   omega
  obtain⟨v',w',hr,h1,hg,_,_⟩:=run_append_own_at (P:=P) w B T ty E i0 z k bytes hE.1 hi hz0 hz1 hz2 hE.2.2 hk v n _ hfl ad ys.length yc (ys.flatten.map (Value.int .i64)) (by rw[List.length_map,flat_len hly]) hnews hone (by unfold maxLen;omega) hbd hB;refine⟨v',w',hr,OwX.ofFlat (by rw[List.flatten_append,List.map_append];exact h1) hlens (by rw[List.length_append,hxn]),hg,(Below.refl B w).grown hg hB (fun k hk=>(hfl.lt k hk).1),KeepX.own hfl hg⟩
theorem wpList_appXs {P:Program}{T E:TypeId}{z:Value}{k bytes:Nat}(hE:ElemK P T E z k bytes) (hby:bytes<=128) (hk:0 < k) {w:World}{ops:Array Oper}{rest:List Oper}{o:Oper}{a:Act}{Q:Exit->Act->World->Prop}(hgd:o.guard=none) (s y:Operand)
  (ho:o.op = .call { callee:=.builtin .append,args:=#[s,y],argTypes:=#[T,T] }) {B n:Nat} {v:Value} {xs ys:Jb} (hs:a.eval s=v)
  (hown:OwX E k EI w B v n xs) {ya:Option Addr} {yc m:Nat} (hx:a.eval y = .slice ya m yc) (hm:m=ys.length) (hy:KS k w (.slice ya ys.length yc) ys) (hz:ya=none->yc=0) (hn:n+ys.length<=1000000) (hB:B<=w.heap.size)
  (h:∀v' w',OwX E k EI w' B v' (n+ys.length) (xs++ys)->w.grownBy w' v.ownBlock->Below B w w'->KeepX E w w'->wpList P ops Q rest (a.put o.dst v') w'):wpList P ops Q (o::rest) a w:=by
 subst hm;refine wpList_plain hgd fun K hK=>?_;obtain⟨v',w',hr,h2,h3,h4,h5⟩:=run_appXs (P:=P) (ty:=o.type) hE hby hk hown hy hz hn hB;unfold Oper.wp execOp;simp only[ho,resolve,invoke,builtin,Sem.run_bind,Sem.run_pure,Result.andThen_ok,List.map_toArray,List.map_cons,List.map_nil,hs,hx,hr];exact hK _ _ (h v' w' h2 h3 h4 h5)
end Go.Proofs.YtcnedkkcgdkioaaGreat
namespace Go.Proofs.YtcnedkkcgdkioaaGreat
open Go.RowKit
section
variable {α:Type} {E:TypeId} {k:Nat} {El:World->List Value->α->Prop}
def SrcX (k:Nat) (El:World->List Value->α->Prop) (w:World) (v:Value) (ys:List α):Prop:=
 ∃(ya:Option Addr) (yc:Nat) (ws:List Value),v = .slice ya ys.length yc/\ws.length=ys.length * k/\(∀u∈ws,u.oneCell'=true)/\(∀j x,ys[j]? = some x->El w ((ws.drop (j * k)).take k) x)/\(ya=none->yc=0/\ys = [])/\
  ∀ad,ya=some ad->∀j u,ws[j]? = some u->w.cell? (ad.add j)=some u
theorem run_appXG {P:Program}{T ty:TypeId}{z:Value}{bytes:Nat}(hE:ElemK P T E z k bytes) (hby:bytes<=128) (hk:0 < k) (hS:Stab E El) {w:World}{B n:Nat}{v v2:Value}{xs ys:List α}
  (hown:OwX E k El w B v n xs) (hy:SrcX k El w v2 ys) (hn:n+ys.length<=1000000) (hB:B<=w.heap.size) :
  ∃v' w',(Builtin.append_ #[T,T] ty #[v,v2]).run P w = .ok v' w'/\OwX E k El w' B v' (n+ys.length) (xs++ys)/\w.grownBy w' v.ownBlock/\Below B w w'/\KeepX E w w':=by
 obtain⟨i0,hi,hz0,hz1,hz2⟩:=info_parts hE.2.1;obtain⟨vs,k1,k2,k3,k4⟩:=hown;obtain⟨ya,yc,ws,rfl,hwl,hw1,hwE,hnn,hwc⟩:=hy;have hvl:vs.length=n * k:=k1.1;cases ya with
 | none=>
  obtain⟨rfl,rfl⟩:=hnn rfl;exact⟨v,w,run_append_owned_none (P:=P) (w:=w) B T ty E i0 k hE.1 hi v n _ k1,by rw[List.append_nil];exact⟨vs,k1,k2,k3,k4⟩,⟨rfl,rfl,rfl,Nat.le_refl _,fun _ _ _=>rfl⟩,Below.refl _ _,KeepX.below (Below.refl _ _)⟩
 | some ad=>
  have hbd:(n+ys.length) * bytes<=140737488355328:=by
   have:(n+ys.length) * bytes<=1000000 * 128:=Nat.mul_le_mul hn hby
   omega
  obtain⟨v',w',hr,h1,hg,_,_⟩:=run_append_own_at (P:=P) w B T ty E i0 z k bytes hE.1 hi hz0 hz1 hz2 hE.2.2 hk v n _ k1 ad ys.length yc ws hwl (hwc ad rfl) hw1 (by unfold maxLen;omega) hbd hB;have hX:KeepX E w w':=KeepX.own k1 hg;refine⟨v',w',hr,⟨vs++ws,h1,by simp[k2],?_,fun j x hj=>?_⟩,hg,(Below.refl B w).grown hg hB (fun k hk=>(k1.lt k hk).1),hX⟩
  ·intro u hu;rcases List.mem_append.1 hu with hu|hu
   ·exact k3 u hu
   ·exact hw1 u hu
  ·by_cases hjn:j < n
   ·rw[List.getElem?_append_left (by omega)] at hj;have hle:j * k+k<=n * k:=(by rw[<-Nat.succ_mul];exact Nat.mul_le_mul_right _ hjn);rw[List.drop_append_of_le_length (by omega),List.take_append_of_le_length (by rw[List.length_drop];omega)];exact hS _ _ _ _ (k4 j x hj) hX
   ·obtain⟨i,rfl⟩:∃i,j=n+i:=⟨j - n,by omega⟩;rw[List.getElem?_append_right (by omega),k2,Nat.add_sub_cancel_left] at hj
    have hd:(vs++ws).drop ((n+i) * k)=ws.drop (i * k):=by
     rw[Nat.add_mul,<-hvl,<-List.drop_drop,List.drop_left]
    rw[hd];exact hS _ _ _ _ (hwE i x hj) hX
theorem wpList_appXG {P:Program}{T:TypeId}{z:Value}{bytes:Nat}(hE:ElemK P T E z k bytes) (hby:bytes<=128) (hk:0 < k) (hS:Stab E El) {w:World}{ops:Array Oper}{rest:List Oper}{o:Oper}{a:Act}{Q:Exit->Act->World->Prop}(hgd:o.guard=none) (s y:Operand)
  (ho:o.op = .call { callee:=.builtin .append,args:=#[s,y],argTypes:=#[T,T] }) {B n:Nat} {v v2:Value} {xs ys:List α} (hs:a.eval s=v)
  (hown:OwX E k El w B v n xs) (hx:a.eval y=v2) (hy:SrcX k El w v2 ys) (hn:n+ys.length<=1000000) (hB:B<=w.heap.size)
  (h:∀v' w',OwX E k El w' B v' (n+ys.length) (xs++ys)->w.grownBy w' v.ownBlock->Below B w w'->KeepX E w w'->wpList P ops Q rest (a.put o.dst v') w'):wpList P ops Q (o::rest) a w:=by
 refine wpList_plain hgd fun K hK=>?_;obtain⟨v',w',hr,h2,h3,h4,h5⟩:=run_appXG (P:=P) (ty:=o.type) hE hby hk hS hown hy hn hB;unfold Oper.wp execOp;simp only[ho,resolve,invoke,builtin,Sem.run_bind,Sem.run_pure,Result.andThen_ok,List.map_toArray,List.map_cons,List.map_nil,hs,hx,hr];exact hK _ _ (h v' w' h2 h3 h4 h5)
theorem OwX.capM {w:World}{B n m c:Nat}{a:Option Addr}{xs:List α}(h:OwX E k El w B (.slice a m c) n xs):n<=c/\c<=maxLen:=by
 obtain⟨vs,h1,_⟩:=h;rcases h1.2 with⟨he,h0⟩|⟨g,cap,cur,he,_,_,hc,hM,_⟩
 ·injection he with _ _ e3;exact⟨by omega,by omega⟩
 ·injection he with _ _ e3;subst e3;exact⟨hc,hM⟩
theorem wp_appXG {P:Program}{T:TypeId}{z:Value}{bytes:Nat}(hE:ElemK P T E z k bytes) (hby:bytes<=128) (hk:0 < k) (hS:Stab E El) {w:World}{o:Oper}{a:Act}{K:Act->World->Prop}{Q:Exit->Act->World->Prop}(s y:Operand)
  (ho:o.op = .call { callee:=.builtin .append,args:=#[s,y],argTypes:=#[T,T] }) {B n:Nat} {v v2:Value} {xs ys:List α} (hs:a.eval s=v)
  (hown:OwX E k El w B v n xs) (hx:a.eval y=v2) (hy:SrcX k El w v2 ys) (hn:n+ys.length<=1000000) (hB:B<=w.heap.size)
  (h:∀v' w',OwX E k El w' B v' (n+ys.length) (xs++ys)->w.grownBy w' v.ownBlock->Below B w w'->KeepX E w w'->K (a.put o.dst v') w'):o.wp P a w K Q:=by
 obtain⟨v',w',hr,h2,h3,h4,h5⟩:=run_appXG (P:=P) (ty:=o.type) hE hby hk hS hown hy hn hB;unfold Oper.wp execOp;simp only[ho,resolve,invoke,builtin,Sem.run_bind,Sem.run_pure,Result.andThen_ok,List.map_toArray,List.map_cons,List.map_nil,hs,hx,hr];exact h v' w' h2 h3 h4 h5
theorem OwX.row {w:World}{B n:Nat}{v:Value}{xs:List α}(h:OwX E k El w B v n xs):∀g,v.ownBlock=some g->∃cs,w.heap[g]? = some (.cells cs E):=fun g hg=>by
 obtain⟨vs,h1,_⟩:=h;rcases h1.2 with⟨rfl,_⟩|⟨g',cap,cur,rfl,_,hc,_⟩
 ·cases hg
 ·injection hg with hg;subst hg;exact⟨cur,hc⟩
theorem OwX.src {w:World}{B n:Nat}{v:Value}{xs:List α}(h:OwX E k El w B v n xs):SrcX k El w v xs:=by
 obtain⟨vs,h1,h2,h3,h4⟩:=h;have hvl:vs.length=n * k:=h1.1;rcases h1.2 with⟨rfl,h0⟩|⟨g,cap,cur,rfl,hb,hg,hc,hM,hcs,hr⟩
 ·have hx0:xs = []:=List.length_eq_zero_iff.1 (by omega);subst hx0;exact⟨none,0,vs,rfl,by rw[hvl,h0];simp,h3,h4,fun _=>⟨rfl,rfl⟩,fun _ h=>by cases h⟩
 ·refine⟨_,cap,vs,by rw[h2],by rw[hvl,h2],h3,h4,fun h=>(by cases h),fun ad hd j u hj=>?_⟩;injection hd with hd;subst hd;rw[Addr.add_lit,Nat.zero_add];have:=World.ownsRow.cellAt h1 j (by rw[<-hvl];exact(List.getElem?_eq_some_iff.1 hj).1)
  rw[this];exact hj
end
end Go.Proofs.YtcnedkkcgdkioaaGreat
namespace Go.Proofs.YtcnedkkcgdkioaaGreat
open Go.RowKit
def opsPut5:List Oper:=[⟨some 18,.fieldAddr 32 (.tmp 7) 1,0,"ref.go:165",#[],none⟩,⟨some 19,.load 30 (.tmp 18),30,"ref.go:165",#[⟨0,.data⟩],none⟩,⟨some 20,.fieldAddr 32 (.tmp 2) 1,0,"ref.go:165",#[],none⟩,⟨some 21,.load 30 (.tmp 20),30,"ref.go:165",#[⟨2,.data⟩],none⟩,⟨some 22,.call { callee:=.builtin .append,args:=#[.tmp 19,.tmp 21],argTypes:=#[30,30] },30,"ref.go:165",#[⟨1,.data⟩,⟨3,.data⟩],none⟩,⟨some 23,.load 114 (.tmp 3),114,"ref.go:165",#[],none⟩,⟨some 24,.buildSlice 30 1 #[(0,.tmp 23)],30,"ref.go:165",#[⟨5,.data⟩],none⟩,⟨some 25,.call { callee:=.builtin .append,args:=#[.tmp 22,.tmp 24],argTypes:=#[30,30] },30,"ref.go:165",#[⟨4,.data⟩,⟨6,.data⟩,⟨4,.chain⟩],none⟩,⟨some 26,.fieldAddr 32 (.tmp 7) 1,0,"ref.go:165",#[⟨0,.phase⟩,⟨1,.phase⟩,⟨2,.phase⟩,⟨3,.phase⟩,⟨4,.phase⟩,⟨5,.phase⟩,⟨6,.phase⟩,⟨7,.phase⟩],none⟩,⟨none,.store 30 (.tmp 26) (.tmp 25),0,"ref.go:165",#[⟨8,.data⟩,⟨7,.data⟩,⟨7,.chain⟩,⟨0,.phase⟩,⟨1,.phase⟩,⟨2,.phase⟩,⟨3,.phase⟩,⟨4,.phase⟩,⟨5,.phase⟩,⟨6,.phase⟩,⟨7,.phase⟩],none⟩]
theorem regPut5 {w:World}{x0 x1 x4 x5 x6 x8 x9 x10 x11 x12 x13 x14 x15 x16 x17 x18 x19 x20 x21 x22 x23 x24 x25 x26 x27 x28 x29 x30:Value}{Q:Exit->Act->World->Prop}{b2 b3 b7 B vc:Nat}{va:Option Addr}{tn:Int}{vs:Jb}{xa xb xc xd xe xf xg xh:Int}
  (c2:w.cell? ⟨b2,1,none⟩=some (.slice va vs.length vc)) (ho:OwX 114 8 EI w 0 (.slice va vs.length vc) vs.length vs) (hn:vs.length<=100000)
  (p0:w.cell? ⟨b3,0,none⟩=some (.int .i64 xa)) (p1:w.cell? ⟨b3,1,none⟩=some (.int .i64 xb)) (p2:w.cell? ⟨b3,2,none⟩=some (.int .i64 xc)) (p3:w.cell? ⟨b3,3,none⟩=some (.int .i64 xd)) (p4:w.cell? ⟨b3,4,none⟩=some (.int .i64 xe)) (p5:w.cell? ⟨b3,5,none⟩=some (.int .i64 xf)) (p6:w.cell? ⟨b3,6,none⟩=some (.int .i64 xg)) (p7:w.cell? ⟨b3,7,none⟩=some (.int .i64 xh))
  (k7:w.heap[b7]? = some (.cells #[.int .i64 tn,.slice none 0 0] 32)) (hb2B:b2 < B) (hb3B:b3 < B) (hBb:B<=b7)
  (hfin:∀(y4 y6 y7 _y9:Value) (W:World),(Below B w W/\((fun i=>decide (i < 10)) 9=false->Below w.heap.size w W)/\((fun i=>decide (i < 10)) 4=true->(fun i=>decide (i < 10)) 7=false->OwX 114 8 EI W w.heap.size y4 vs.length vs)/\((fun i=>decide (i < 10)) 6=true->(fun i=>decide (i < 10)) 7=false->∃g,y6 = .slice (some ⟨g,0,none⟩) 1 1/\W.heap[g]? = some (.cells #[.int .i64 xa,.int .i64 xb,.int .i64 xc,.int .i64 xd,.int .i64 xe,.int .i64 xf,.int .i64 xg,.int .i64 xh] 114))/\((fun i=>decide (i < 10)) 7=true->(∃a c,y7 = .slice a (vs.length+1) c)/\OwX 114 8 EI W w.heap.size y7 (vs.length+1) (vs ++ [[xa,xb,xc,xd,xe,xf,xg,xh]]))/\((fun i=>decide (i < 10)) 9=false->W.heap[b7]? = some (.cells #[.int .i64 tn,.slice none 0 0] 32))/\((fun i=>decide (i < 10)) 9=true->W.heap[b7]? = some (.cells #[.int .i64 tn,y7] 32)))->(True)->(True)->(True)->(True)->Q .normal ⟨#[x0,x1,.pointer (some ⟨b2,0,none⟩),.pointer (some ⟨b3,0,none⟩),x4,x5,x6,.pointer (some ⟨b7,0,none⟩),x8,x9,x10,x11,x12,x13,x14,x15,x16,x17,.pointer (some ⟨b7,1,none⟩),.slice none 0 0,.pointer (some ⟨b2,1,none⟩),.slice va vs.length vc,y4,.agg #[.int .i64 xa,.int .i64 xb,.int .i64 xc,.int .i64 xd,.int .i64 xe,.int .i64 xf,.int .i64 xg,.int .i64 xh],y6,y7,.pointer (some ⟨b7,1,none⟩),x27,x28,x29,x30],[]⟩ W) :
  (Code.region 5 opsPut5.toArray true).wp Tryz.prog Q ⟨#[x0,x1,.pointer (some ⟨b2,0,none⟩),.pointer (some ⟨b3,0,none⟩),x4,x5,x6,.pointer (some ⟨b7,0,none⟩),x8,x9,x10,x11,x12,x13,x14,x15,x16,x17,x18,x19,x20,x21,x22,x23,x24,x25,x26,x27,x28,x29,x30],[]⟩ w:=by
 have hBs:B<=w.heap.size:=by have:=(Array.getElem?_eq_some_iff.1 k7).1;omega
 have hc1:∀u∈([.int .i64 xa,.int .i64 xb,.int .i64 xc,.int .i64 xd,.int .i64 xe,.int .i64 xf,.int .i64 xg,.int .i64 xh]:List Value),u.oneCell'=true:=fun u hu=>by
  simp only[List.mem_cons,List.not_mem_nil,or_false] at hu;rcases hu with rfl|rfl|rfl|rfl|rfl|rfl|rfl|rfl<;>rfl
 refine wp_region_sg (l:=opsPut5) (F:=(fun ys=>⟨#[x0,x1,.pointer (some ⟨b2,0,none⟩),.pointer (some ⟨b3,0,none⟩),x4,x5,x6,.pointer (some ⟨b7,0,none⟩),x8,x9,x10,x11,x12,x13,x14,x15,x16,x17,ys 0,ys 1,ys 2,ys 3,ys 4,ys 5,ys 6,ys 7,ys 8,x27,x28,x29,x30],[]⟩)) (Φ:=[eqV (.pointer (some ⟨b7,1,none⟩)),eqV (.slice none 0 0),eqV (.pointer (some ⟨b2,1,none⟩)),eqV (.slice va vs.length vc),anyV,eqV (.agg #[.int .i64 xa,.int .i64 xb,.int .i64 xc,.int .i64 xd,.int .i64 xe,.int .i64 xf,.int .i64 xg,.int .i64 xh]),anyV,anyV,eqV (.pointer (some ⟨b7,1,none⟩)),anyV]) (R:=(fun _ _=>True)) (G:=(fun D ys W=>Below B w W/\(D 9=false->Below w.heap.size w W)/\(D 4=true->D 7=false->OwX 114 8 EI W w.heap.size (ys 4) vs.length vs)/\(D 6=true->D 7=false->∃g,(ys 6) = .slice (some ⟨g,0,none⟩) 1 1/\W.heap[g]? = some (.cells #[.int .i64 xa,.int .i64 xb,.int .i64 xc,.int .i64 xd,.int .i64 xe,.int .i64 xf,.int .i64 xg,.int .i64 xh] 114))/\(D 7=true->(∃a c,(ys 7) = .slice a (vs.length+1) c)/\OwX 114 8 EI W w.heap.size (ys 7) (vs.length+1) (vs ++ [[xa,xb,xc,xd,xe,xf,xg,xh]]))/\(D 9=false->W.heap[b7]? = some (.cells #[.int .i64 tn,.slice none 0 0] 32))/\(D 9=true->W.heap[b7]? = some (.cells #[.int .i64 tn,(ys 7)] 32)))) ⟨?s0,?s1,?s2,?s3,?s4,?s5,?s6,?s7,?s8,?s9,trivial⟩ (fun i=>([x18,x19,x20,x21,x22,x23,x24,x25,x26,undef]:List Value).getD i undef) (by kernel_rfl) (by kernel_rfl) ⟨sE,sE,sE,sE,fun _ _ _ h _=>h,sE,fun _ _ _ h _=>h,fun _ _ _ h _=>h,sE,fun _ _ _ h _=>h,trivial⟩ ?g0 ?gx ?fin
 case s0|s2|s8=>
  refine .q0 (wantU rfl) (fun _=>trivial) (fun _ _ _ h=>h) (fun _=>rfl) fun ys W K hK=>?_;go_simp;exact hK
 case s1=>
  refine StepG.mk rfl (openY 0 fun y0=>openY 4 fun y4=>openY 6 fun y6=>openY 7 fun y7=>fun ys D W K hD hcl hd hG hK=>?_);obtain rfl:=(hd.get 0 rfl).2;dsimp [updG] at hG|-
  have d9:=hcl.no (j:=9) (i:=1) rfl (by kernel_rfl) hD;obtain⟨g1,g2,g3,g4,g5,g6,g7⟩:=hG;have c:=(boxL2 (g6 d9)).2;go_simp;exact hK _ _ trivial ⟨g1,g2,g3,g4,g5,g6,g7⟩ rfl
 case s3=>
  refine StepG.mk rfl (openY 2 fun y2=>openY 4 fun y4=>openY 6 fun y6=>openY 7 fun y7=>fun ys D W K _ _ hd hG hK=>?_);obtain rfl:=(hd.get 2 rfl).2;dsimp [updG] at hG|-
  obtain⟨g1,g2,g3,g4,g5,g6,g7⟩:=hG;have c:=cellB g1 hb2B c2;go_simp;exact hK _ _ trivial ⟨g1,g2,g3,g4,g5,g6,g7⟩ rfl
 case s4=>
  refine StepG.mk rfl (openY 1 fun y1=>openY 3 fun y3=>openY 4 fun y4=>openY 6 fun y6=>openY 7 fun y7=>fun ys D W K hD hcl hd hG hK=>?_);obtain rfl:=(hd.get 1 rfl).2;obtain rfl:=(hd.get 3 rfl).2;dsimp [updG] at hG|-
  have d7:=hcl.no (j:=7) (i:=4) rfl (by kernel_rfl) hD;have d9:=hcl.no (j:=9) (i:=4) rfl (by kernel_rfl) hD;obtain⟨g1,g2,g3,g4,g5,g6,g7⟩:=hG;have hb:=g2 d9;refine wp_appXG (B:=w.heap.size) (n:=0) (xs:=[]) (ys:=vs) elemVw (by decide) (by decide) (EI.stab _) _ _ rfl rfl (OwX.nil _ _) rfl (OwX.src (ho.keep (EI.stab _) hb)) (by omega) hb.size ?_;intro v9 w9 hO9 hg9 hb9 hx9;rw[Nat.zero_add,List.nil_append] at hO9;have hk9:∀q,q < W.heap.size->w9.heap[q]? = W.heap[q]?:=fun q hq=>hg9.block q hq (by intro e;cases e);exact hK _ _ trivial ⟨g1.trans (hb9.mono hBs),fun _=>hb.trans hb9,fun _ _=>hO9,fun h6 _=>by obtain⟨g,e1,e2⟩:=g4 h6 d7;exact⟨g,e1,(hk9 g (Array.getElem?_eq_some_iff.1 e2).1).trans e2⟩,fun h=>(by rw[show addG D 4 7=D 7 from rfl,d7] at h;cases h),fun _=>(hk9 b7 (Array.getElem?_eq_some_iff.1 (g6 d9)).1).trans (g6 d9),fun h=>(by rw[show addG D 4 9=D 9 from rfl,d9] at h;cases h)⟩ trivial
 case s5=>
  refine StepG.mk rfl (openY 4 fun y4=>openY 6 fun y6=>openY 7 fun y7=>fun ys D W K _ _ _ hG hK=>?_);dsimp [updG] at hG|-
  obtain⟨g1,g2,g3,g4,g5,g6,g7⟩:=hG;have c0:=cellB g1 hb3B p0;have c1:=cellB g1 hb3B p1;have c2:=cellB g1 hb3B p2;have c3:=cellB g1 hb3B p3;have c4:=cellB g1 hb3B p4;have c5:=cellB g1 hb3B p5;have c6:=cellB g1 hb3B p6;have c7:=cellB g1 hb3B p7;go_simp;exact hK _ _ trivial ⟨g1,g2,g3,g4,g5,g6,g7⟩ rfl
 case s6=>
  refine StepG.mk rfl (openY 5 fun y5=>openY 4 fun y4=>openY 6 fun y6=>openY 7 fun y7=>fun ys D W K hD hcl hd hG hK=>?_);obtain rfl:=(hd.get 5 rfl).2;dsimp [updG] at hG|-
  have d7:=hcl.no (j:=7) (i:=6) rfl (by kernel_rfl) hD;have d9:=hcl.no (j:=9) (i:=6) rfl (by kernel_rfl) hD;obtain⟨g1,g2,g3,g4,g5,g6,g7⟩:=hG;have hb:=g2 d9;have ha:Below W.heap.size W (W.alloc (.cells #[.int .i64 xa,.int .i64 xb,.int .i64 xc,.int .i64 xd,.int .i64 xe,.int .i64 xf,.int .i64 xg,.int .i64 xh] 114)):=(Below.refl _ W).alloc (Nat.le_refl _) _;go_simp;exact hK _ _ trivial ⟨g1.trans (ha.mono (Nat.le_trans hBs hb.size)),fun _=>btt hb ha,fun h4 h7=>(g3 h4 h7).keep (EI.stab _) ha,fun _ _=>⟨_,rfl,heap_alloc_new W _⟩,fun h=>(by rw[show addG D 6 7=D 7 from rfl,d7] at h;cases h),fun _=>keptO ha (g6 d9),fun h=>(by rw[show addG D 6 9=D 9 from rfl,d9] at h;cases h)⟩ trivial
 case s7=>
  refine StepG.mk rfl (openY 4 fun y4=>openY 6 fun y6=>openY 7 fun y7=>fun ys D W K hD hcl hd hG hK=>?_);have d4:=(hd.get 4 rfl).1;have d6:=(hd.get 6 rfl).1;dsimp [updG] at hG|-
  have d9:=hcl.no (j:=9) (i:=7) rfl (by kernel_rfl) hD;have d4:=(hd.get 4 rfl).1;have d6:=(hd.get 6 rfl).1;obtain⟨g1,g2,g3,g4,g5,g6,g7⟩:=hG;have hb:=g2 d9;obtain⟨g,hy6,hg⟩:=g4 d6 hD;subst hy6;refine wp_appX (B:=w.heap.size) (cs:=[.int .i64 xa,.int .i64 xb,.int .i64 xc,.int .i64 xd,.int .i64 xe,.int .i64 xf,.int .i64 xg,.int .i64 xh]) (x:=[xa,xb,xc,xd,xe,xf,xg,xh]) elemVw (by decide) (by decide) (EI.stab _) _ _ (by rfl) (by rfl) (g3 d4 hD) ⟨g,0,none⟩ 1 (by rfl) rfl (World.news_of_block hg) hc1 rfl (by omega) hb.size ?_;intro v9 w9 hO9 hg9 hn9 hb9 hx9;obtain⟨a9,c9,rfl⟩:=hO9.shape;exact hK _ _ trivial ⟨g1.trans (hb9.mono hBs),fun _=>hb.trans hb9,fun _ h=>(by cases h),fun _ h=>(by cases h),fun _=>⟨⟨a9,c9,rfl⟩,hO9⟩,fun _=>(hx9 b7 _ _ (g6 d9) (by decide)).trans (g6 d9),fun h=>(by rw[show addG D 7 9=D 9 from rfl,d9] at h;cases h)⟩ trivial
 case s9=>
  refine StepG.mk rfl (openY 8 fun y8=>openY 4 fun y4=>openY 6 fun y6=>openY 7 fun y7=>fun ys D W K hD _ hd hG hK=>?_);obtain rfl:=(hd.get 8 rfl).2;have d7:=(hd.get 7 rfl).1;dsimp [updG] at hG|-
  have d7:=(hd.get 7 rfl).1;obtain⟨g1,g2,g3,g4,g5,g6,g7⟩:=hG;obtain⟨⟨a9,c9,hy7⟩,hO9⟩:=g5 d7;subst hy7;have k7:=g6 hD;obtain⟨z0,z1⟩:=boxL2 k7;have fz:=row_free k7;have hX:=KeepX.setCell (p:=⟨b7,1,none⟩) k7 (.slice a9 (vs.length+1) c9);go_simp;exact hK undef _ trivial ⟨g1.setCell (p:=⟨b7,1,none⟩) hBb _,fun h=>(by cases h),fun _ h=>(by rw[show addG D 9 7=D 7 from rfl,d7] at h;cases h),fun _ h=>(by rw[show addG D 9 7=D 7 from rfl,d7] at h;cases h),fun _=>⟨⟨a9,c9,rfl⟩,hO9.other (EI.stab _) (by decide) hX⟩,fun h=>(by cases h),fun _=>heap_setCell_same W b7 1 _ _ _ k7⟩ trivial
 case g0=>exact⟨(below_drewN (Below.refl _ w) 1).mono hBs,fun _=>below_drewN (Below.refl _ w) 1,fun h=>(by cases h),fun h=>(by cases h),fun h=>(by cases h),fun _=>k7,fun h=>(by cases h)⟩
 case gx=>exact fun D D' ys W h ⟨g1,g2,g3,g4,g5,g6,g7⟩=>⟨g1,fun q=>g2 ((h 9 (by decide)).trans q),fun q q'=>g3 ((h 4 (by decide)).trans q) ((h 7 (by decide)).trans q'),fun q q'=>g4 ((h 6 (by decide)).trans q) ((h 7 (by decide)).trans q'),fun q=>g5 ((h 7 (by decide)).trans q),fun q=>g6 ((h 9 (by decide)).trans q),fun q=>g7 ((h 9 (by decide)).trans q)⟩
 case fin=>
  intro ys W hG hp;try dsimp only
  rw[(hpE hp 0:ys 0=_),(hpE hp 1:ys 1=_),(hpE hp 2:ys 2=_),(hpE hp 3:ys 3=_),(hpE hp 5:ys 5=_),(hpE hp 8:ys 8=_)];exact hfin (ys 4) (ys 6) (ys 7) (ys 9) W hG (hpE hp 4) (hpE hp 6) (hpE hp 7) (hpE hp 9)
def opsPut6:List Oper:=[⟨some 27,.load 32 (.tmp 7),32,"ref.go:166",#[],none⟩,⟨some 28,.fieldAddr 32 (.tmp 2) 1,0,"ref.go:166",#[],none⟩,⟨some 29,.load 30 (.tmp 28),30,"ref.go:166",#[⟨1,.data⟩],none⟩,⟨some 30,.call { callee:=.builtin .len,args:=#[.tmp 29],argTypes:=#[30] },3,"ref.go:166",#[⟨2,.data⟩],none⟩,⟨none,.store 32 (.tmp 4) (.tmp 27),0,"ref.go:166",#[⟨0,.data⟩,⟨0,.phase⟩,⟨1,.textOnly .lateStores⟩,⟨2,.textOnly .lateStores⟩,⟨3,.textOnly .lateStoresUnsure⟩],none⟩,⟨some 5,.assign (.tmp 30),3,"ref.go:166",#[⟨3,.data⟩,⟨4,.chain⟩,⟨0,.phase⟩,⟨1,.phase⟩,⟨2,.phase⟩,⟨3,.phase⟩,⟨4,.phase⟩],none⟩]
theorem regPut6 {w:World}{x0 x1 x3 x5 x6 x8 x9 x10 x11 x12 x13 x14 x15 x16 x17 x18 x19 x20 x21 x22 x23 x24 x25 x26 x27 x28 x29 x30:Value}{Q:Exit->Act->World->Prop}{b2 b4 b7 vn vc rn rc:Nat}{va ra:Option Addr}{tn tz:Int}
  (k2:w.heap[b2]? = some (.cells #[.int .i64 tz,.slice va vn vc] 32)) (k7:w.heap[b7]? = some (.cells #[.int .i64 tn,.slice ra rn rc] 32)) (k4:w.heap[b4]? = some (.cells #[.int .i64 0,.slice none 0 0] 32)) (h24:b2 ≠ b4) (h74:b7 ≠ b4)
  (hfin:∀(_y4:Value) (W:World),((∀q,q ≠ b4->q < w.heap.size->W.heap[q]? = w.heap[q]?)/\((fun i=>decide (i < 6)) 4=false->W.heap[b4]? = some (.cells #[.int .i64 0,.slice none 0 0] 32))/\((fun i=>decide (i < 6)) 4=true->W.heap[b4]? = some (.cells #[.int .i64 tn,.slice ra rn rc] 32))/\KeepX 32 w W/\∀(B:Nat) (w0:World),B<=b4->Below B w0 w->Below B w0 W)->(True)->Q .normal ⟨#[x0,x1,.pointer (some ⟨b2,0,none⟩),x3,.pointer (some ⟨b4,0,none⟩),.int .i64 (vn:Int),x6,.pointer (some ⟨b7,0,none⟩),x8,x9,x10,x11,x12,x13,x14,x15,x16,x17,x18,x19,x20,x21,x22,x23,x24,x25,x26,.agg #[.int .i64 tn,.slice ra rn rc],.pointer (some ⟨b2,1,none⟩),.slice va vn vc,.int .i64 (vn:Int)],[]⟩ W) :
  (Code.region 6 opsPut6.toArray true).wp Tryz.prog Q ⟨#[x0,x1,.pointer (some ⟨b2,0,none⟩),x3,.pointer (some ⟨b4,0,none⟩),x5,x6,.pointer (some ⟨b7,0,none⟩),x8,x9,x10,x11,x12,x13,x14,x15,x16,x17,x18,x19,x20,x21,x22,x23,x24,x25,x26,x27,x28,x29,x30],[]⟩ w:=by
 refine wp_region_sg (l:=opsPut6) (F:=(fun ys=>⟨#[x0,x1,.pointer (some ⟨b2,0,none⟩),x3,.pointer (some ⟨b4,0,none⟩),ys 5,x6,.pointer (some ⟨b7,0,none⟩),x8,x9,x10,x11,x12,x13,x14,x15,x16,x17,x18,x19,x20,x21,x22,x23,x24,x25,x26,ys 0,ys 1,ys 2,ys 3],[]⟩)) (Φ:=[eqV (.agg #[.int .i64 tn,.slice ra rn rc]),eqV (.pointer (some ⟨b2,1,none⟩)),eqV (.slice va vn vc),eqV (.int .i64 (vn:Int)),anyV,eqV (.int .i64 (vn:Int))]) (R:=(fun _ _=>True)) (G:=(fun D _ W=>(∀q,q ≠ b4->q < w.heap.size->W.heap[q]? = w.heap[q]?)/\(D 4=false->W.heap[b4]? = some (.cells #[.int .i64 0,.slice none 0 0] 32))/\(D 4=true->W.heap[b4]? = some (.cells #[.int .i64 tn,.slice ra rn rc] 32))/\KeepX 32 w W/\∀(B:Nat) (w0:World),B<=b4->Below B w0 w->Below B w0 W)) ⟨?s0,?s1,?s2,?s3,?s4,?s5,trivial⟩ (fun i=>([x27,x28,x29,x30,undef,x5]:List Value).getD i undef) (by kernel_rfl) (by kernel_rfl) ⟨sE,sE,sE,sE,fun _ _ _ h _=>h,sE,trivial⟩ ?g0 ?gx ?fin
 case s0=>
  refine StepG.mk rfl fun ys D W K _ _ _ hG hK=>?_;obtain⟨g1,g2,g3,g4,g5⟩:=hG;obtain⟨z0,z1⟩:=boxL2 ((g1 b7 h74 (Array.getElem?_eq_some_iff.1 k7).1).trans k7);go_simp;exact hK _ _ trivial ⟨g1,g2,g3,g4,g5⟩ rfl
 case s1=>
  refine .q0 (wantU rfl) (fun _=>trivial) (fun _ _ _ h=>h) (fun _=>rfl) fun ys W K hK=>?_;go_simp;exact hK
 case s2=>
  refine StepG.mk rfl (openY 1 fun y1=>fun ys D W K _ _ hd hG hK=>?_);obtain rfl:=(hd.get 1 rfl).2;dsimp [updG]
  obtain⟨g1,g2,g3,g4,g5⟩:=hG;obtain⟨-,z1⟩:=boxL2 ((g1 b2 h24 (Array.getElem?_eq_some_iff.1 k2).1).trans k2);go_simp;exact hK _ _ trivial ⟨g1,g2,g3,g4,g5⟩ rfl
 case s3|s5=>
  refine .q1 (wantU rfl) (fun _=>trivial) (fun _ _ _ h=>h) (fun _=>rfl) rfl (fun _ _ h=>h) fun ys W K hK=>?_;dsimp [updG]
  go_simp;exact hK
 case s4=>
  refine StepG.mk rfl (openY 0 fun y0=>fun ys D W K hD _ hd hG hK=>?_);obtain rfl:=(hd.get 0 rfl).2;dsimp [updG]
  obtain⟨g1,g2,g3,g4,g5⟩:=hG;have k4:=g2 hD;obtain⟨z0,z1⟩:=boxL2 k4;have fz:=row_free k4;have m0:=heap_setCell_same W b4 0 _ _ (.int .i64 tn) k4;have m1:=heap_setCell_same _ b4 1 _ _ (.slice ra rn rc) m0;have hx:=g4.trans ((KeepX.setCell (p:=⟨b4,0,none⟩) k4 (.int .i64 tn)).trans (KeepX.setCell (p:=⟨b4,1,none⟩) m0 (.slice ra rn rc)));go_simp;exact hK undef _ trivial ⟨fun q h1 h2=>((Below.heap_setCell _ ⟨b4,1,none⟩ _ q h1).trans (Below.heap_setCell W ⟨b4,0,none⟩ _ q h1)).trans (g1 q h1 h2),fun h=>(by cases h),fun _=>m1,hx,fun B w0 hB hw=>((g5 B w0 hB hw).setCell (p:=⟨b4,0,none⟩) hB _).setCell (p:=⟨b4,1,none⟩) hB _⟩ trivial
 case g0=>exact⟨fun _ _ _=>rfl,fun _=>k4,fun h=>(by cases h),fun _ _ _ _ _=>rfl,fun B w0 _ hw=>below_drewN hw 1⟩
 case gx=>exact fun D D' ys W h ⟨g1,g2,g3,g4,g5⟩=>⟨g1,fun q=>g2 ((h 4 (by decide)).trans q),fun q=>g3 ((h 4 (by decide)).trans q),g4,g5⟩
 case fin=>
  intro ys W hG hp;try dsimp only
  rw[(hpE hp 0:ys 0=_),(hpE hp 1:ys 1=_),(hpE hp 2:ys 2=_),(hpE hp 3:ys 3=_),(hpE hp 5:ys 5=_)];exact hfin (ys 4) W hG (hpE hp 4)
end Go.Proofs.YtcnedkkcgdkioaaGreat

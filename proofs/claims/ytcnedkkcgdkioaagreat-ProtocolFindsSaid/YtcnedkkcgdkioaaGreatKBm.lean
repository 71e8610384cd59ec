/- Texts of this claim, put together: TL RG RH RJ TM0. -/
import Derived.Test.YtcnedkkcgdkioaaGreatKBl

set_option maxRecDepth 100000
set_option maxHeartbeats 12800000
namespace Go.Proofs.YtcnedkkcgdkioaaGreat
open Go.RowKit Go.ChangeMaps Go.MapKept Go.WideMaps
theorem RV {W:World}{b:Nat}{v a c d e:Value}{T:TypeId}(h:W.heap[b]? = some (.cells #[v,a,c,d,e] T)):W.cell? ⟨b,0,none⟩=some v/\W.cell? ⟨b,1,none⟩=some a/\W.cell? ⟨b,2,none⟩=some c/\W.cell? ⟨b,3,none⟩=some d/\W.cell? ⟨b,4,none⟩=some e:=
 ⟨by rw[cell_of_row _ _ 0 _ _ _ h];rfl,by rw[cell_of_row _ _ 1 _ _ _ h];rfl,by rw[cell_of_row _ _ 2 _ _ _ h];rfl,by rw[cell_of_row _ _ 3 _ _ _ h];rfl,by rw[cell_of_row _ _ 4 _ _ _ h];rfl⟩
def RA (k:Nat):Array Value:=
 match k with
 | 0=>#[.int .i64 0,.int .i64 0,.int .i64 0,.int .i64 0,.int .i64 0]
 | 1=>#[.int .i64 (-1),.int .i64 0,.int .i64 0,.int .i64 0,.int .i64 0]
 | 2=>#[.int .i64 (-1),.int .i64 (-1),.int .i64 0,.int .i64 0,.int .i64 0]
 | 3=>#[.int .i64 (-1),.int .i64 (-1),.int .i64 (-1),.int .i64 0,.int .i64 0]
 | 4=>#[.int .i64 (-1),.int .i64 (-1),.int .i64 (-1),.int .i64 (-1),.int .i64 0]
 | _=>#[.int .i64 (-1),.int .i64 (-1),.int .i64 (-1),.int .i64 (-1),.int .i64 (-1)]
theorem tH {k:Nat}(h:k < 5):(RA k).setIfInBounds (k) (.int .i64 (-1))=RA (k+1):=by
 rcases(show k=0\/k=1\/k=2\/k=3\/k=4 by omega) with rfl|rfl|rfl|rfl|rfl<;>rfl
theorem tG {W:World}{b:Nat}{t:TypeId}{k:Nat}(h:k < 5) (a:W.heap[b]? = some (.cells (RA k) t)):∃v,W.cell? ⟨b,k,none⟩=some v:=by
 rcases(show k=0\/k=1\/k=2\/k=3\/k=4 by omega) with rfl|rfl|rfl|rfl|rfl
 all_goals exact⟨_,by rw[cell_of_row _ _ _ _ _ _ a];rfl⟩
theorem dG {w wr:World}{b b1 k:Nat}{v:Value}{c a:Array Value}{t:TypeId}(h:wr.heap[b]? = some (.cells c t)) (d:wr.heap[b1]? = some (.cells a t)) (n:b ≠ b1) (B:w.heap.size<=b1) (e:Below w.heap.size w wr) :
  (wr.setCell ⟨b1,k,none⟩ v).heap[b]? = some (.cells c t)/\(wr.setCell ⟨b1,k,none⟩ v).heap[b1]? = some (.cells (a.setIfInBounds k v) t)/\Below w.heap.size w (wr.setCell ⟨b1,k,none⟩ v):=
 ⟨(Below.heap_setCell wr ⟨b1,k,none⟩ v b n).trans h,heap_setCell_same wr b1 k _ t v d,Below.setCell (p:=⟨b1,k,none⟩) e B _⟩
theorem dH (w:World):Calls Tryz.prog 136 #[] w fun e w'=>e = .returned (.agg #[.int .i64 (-1),.int .i64 (-1),.int .i64 (-1),.int .i64 (-1),.int .i64 (-1)])/\Below w.heap.size w w':=by
 obtain⟨f,W⟩:=AF ((w.alloc (.cells #[.int .i64 0,.int .i64 0,.int .i64 0,.int .i64 0,.int .i64 0] 112)).alloc (.cells #[.int .i64 0,.int .i64 0,.int .i64 0,.int .i64 0,.int .i64 0] 112));have q:Below w.heap.size w f:=by rw[W];exact((wB _ w).alloc (wC _) _).alloc (by simp) _
 have u:f.heap[w.heap.size]? = some (.cells #[.int .i64 0,.int .i64 0,.int .i64 0,.int .i64 0,.int .i64 0] 112):=by rw[W];exact(Below.heap_alloc _ _ _ (by simp)).trans (World.alloc_heap_new w _)
 have x:f.heap[w.heap.size+1]? = some (.cells #[.int .i64 0,.int .i64 0,.int .i64 0,.int .i64 0,.int .i64 0] 112):=by
  rw[W];have:=World.alloc_heap_new (w.alloc (.cells #[.int .i64 0,.int .i64 0,.int .i64 0,.int .i64 0,.int .i64 0] 112)) (.cells #[.int .i64 0,.int .i64 0,.int .i64 0,.int .i64 0,.int .i64 0] 112)
  rwa [World.size_alloc] at this
 go_enter Tryz.func136, Tryz.ntmps136
 go_wp2_with fail
 rw[<-W];replace W:=qH W;go_loopw [3] (fun g wr=>∃a:Nat,g = .int .i64 a/\a<=5/\wr.heap[w.heap.size]? = some (.cells #[.int .i64 0,.int .i64 0,.int .i64 0,.int .i64 0,.int .i64 0] 112)/\wr.heap[w.heap.size+1]? = some (.cells (RA a) 112)/\Below w.heap.size w wr) (fun g _=>5 - (intOf g).toNat)
 case atStart=>exact⟨0,rfl,by omega,u,x,q⟩
 case round=>
  clear u x q;obtain⟨a,rfl,M,h,b,r⟩:=hrel;by_cases l:a < 5
  ·have O:(a:Int) < 5:=(by omega);have N:(0:Int)<=(a:Int):=Int.natCast_nonneg _;obtain⟨j,s,m⟩:=dG (k:=a) (v:=.int .i64 (-1)) h b (by omega) (by omega) r;rw[tH l] at s;obtain⟨v9,L⟩:=tG l b;have D:=BG b;replace j:=qH j;replace s:=qH s;replace m:=qH m;clear h b r;go_wp2_with fail
   go_roundw
   case rel=>exact⟨a+1,by go_num,l,j.out,s.out,m.out⟩
   case measure=>simp[intOf];omega
  ·obtain rfl:a=5:=(by omega);have n:wr.heap[w.heap.size+1]? = some (.cells #[.int .i64 (-1),.int .i64 (-1),.int .i64 (-1),.int .i64 (-1),.int .i64 (-1)] 112):=b;obtain⟨S,T,U,V,X⟩:=RV n;obtain⟨Y,Z,q2,q3,q4⟩:=RV h;have D:=BG h;have y:=heap_setCell_same wr w.heap.size 0 _ _ (.int .i64 (-1)) h;have z:=heap_setCell_same _ w.heap.size 1 _ _ (.int .i64 (-1)) y;have A:=heap_setCell_same _ w.heap.size 2 _ _ (.int .i64 (-1)) z;have B:=heap_setCell_same _ w.heap.size 3 _ _ (.int .i64 (-1)) A;have t:=heap_setCell_same _ w.heap.size 4 _ _ (.int .i64 (-1)) B;have d:=Below.setCell (p:=⟨w.heap.size,4,none⟩) (Below.setCell (p:=⟨w.heap.size,3,none⟩) (Below.setCell (p:=⟨w.heap.size,2,none⟩) (Below.setCell (p:=⟨w.heap.size,1,none⟩) (Below.setCell (p:=⟨w.heap.size,0,none⟩) r (wC _) (.int .i64 (-1))) (wC _) (.int .i64 (-1))) (wC _) (.int .i64 (-1))) (wC _) (.int .i64 (-1))) (wC _) (.int .i64 (-1));obtain⟨C,c⟩:=AF (((((wr.setCell ⟨w.heap.size,0,none⟩ (.int .i64 (-1))).setCell ⟨w.heap.size,1,none⟩ (.int .i64 (-1))).setCell ⟨w.heap.size,2,none⟩ (.int .i64 (-1))).setCell ⟨w.heap.size,3,none⟩ (.int .i64 (-1))).setCell ⟨w.heap.size,4,none⟩ (.int .i64 (-1)));rw[<-c] at t d;replace t:C.heap[w.heap.size]? = some (.cells #[.int .i64 (-1),.int .i64 (-1),.int .i64 (-1),.int .i64 (-1),.int .i64 (-1)] 112):=t;obtain⟨E,H,I,J,K⟩:=RV t;replace d:=qH d;replace c:=qH c;clear h b n y z A B t r;go_wp2;rw[<-c.out];refine bodyPost_ret (v:=.agg #[.int .i64 (-1),.int .i64 (-1),.int .i64 (-1),.int .i64 (-1),.int .i64 (-1)]) (by simp[results,Tryz.results136,go_sem,E,H,I,J,K]) rfl ?_;exact⟨rfl,d.out⟩
end Go.Proofs.YtcnedkkcgdkioaaGreat
namespace Go.Proofs.YtcnedkkcgdkioaaGreat
open Go.RowKit
def DE:List (World->Value->Prop)->Nat->World->Value->Prop
 | [],_,_,_=>True
 | p::_,0,W,v=>p W v
 | _::l,i+1,W,v=>DE l i W v
def LM (R:World->World->Prop):List (World->Value->Prop)->Prop
 | []=>True
 | p::l=>(∀W W' v,p W v->R W W'->p W' v)/\LM R l
theorem LM.at {R:World->World->Prop}:∀ {l:List (World->Value->Prop)},LM R l->∀(i:Nat) (W W':World) (v:Value),DE l i W v->R W W'->DE l i W' v
 | [],_,_,_,_,_,_,_=>trivial
 | _::_,h,0,W,W',v,hp,hr=>h.1 W W' v hp hr
 | _::_,h,i+1,W,W',v,hp,hr=>h.2.at i W W' v hp hr
def GE (o:Oper):List Nat:=(o.after.toList.filter (Region.binds .any)).map (·.on)
def GN (Φ:List (World->Value->Prop)) (D:Nat->Bool) (W:World) (ys:Nat->Value):List Nat->Prop
 | []=>True
 | j::l=>(D j=true/\DE Φ j W (ys j))/\GN Φ D W ys l
theorem GN.of {Φ:List (World->Value->Prop)}{D:Nat->Bool}{W:World}{ys:Nat->Value}:∀ {l:List Nat},(∀j∈l,D j=true/\DE Φ j W (ys j))->GN Φ D W ys l
 | [],_=>trivial
 | j::l,h=>⟨h j (by simp),GN.of fun k a=>h k (by simp[a])⟩
def LI (ops:Array Oper) (D:Nat->Bool):Prop:=∀j o,D j=true->ops[j]? = some o->∀k∈GE o,D k=true
theorem LI.no {ops:Array Oper}{D:Nat->Bool}(h:LI ops D) {i j:Nat}{o:Oper}(c:ops[j]? = some o) (k:(GE o).elem i=true) (a:D i=false):D j=false:=by
 cases b:D j with
 | false=>rfl
 | true=>
  have:=h j o b c i (List.mem_of_elem_eq_true k)
  rw[a] at this;cases this
def AJ (ys:Nat->Value) (i:Nat) (v:Value):Nat->Value:=fun j=>if j=i then v else ys j
def AP (D:Nat->Bool) (i:Nat):Nat->Bool:=fun j=>if j=i then true else D j
def AL (P:Program) (ops:Array Oper) (F:(Nat->Value)->Act) (Φ:List (World->Value->Prop)) (R:World->World->Prop) (G:(Nat->Bool)->(Nat->Value)->World->Prop) (Q:Exit->Act->World->Prop) (i:Nat) (o:Oper):Prop:=
 ∀(D:Nat->Bool) (y:Nat->Value) (W:World) (K:Act->World->Prop),D i=false->LI ops D->GN Φ D W y (GE o)->G D y W->
  (∀v a,R W a->G (AP D i) (AJ y i v) a->DE Φ i a v->K (F (AJ y i v)) a)->if Region.wanted o (yielded ops (F y).tmps)=true then Oper.wp P o (F y) W K Q else K ((F y).put o.dst undef) W
def LO (P:Program) (ops:Array Oper) (F:(Nat->Value)->Act) (Φ:List (World->Value->Prop)) (R:World->World->Prop) (G:(Nat->Bool)->(Nat->Value)->World->Prop) (Q:Exit->Act->World->Prop):List Oper->Nat->Prop
 | [],_=>True
 | o::l,i=>AL P ops F Φ R G Q i o/\LO P ops F Φ R G Q l (i+1)
theorem LO.at {P:Program}{ops:Array Oper}{F:(Nat->Value)->Act}{Φ:List (World->Value->Prop)}{R:World->World->Prop}{G:(Nat->Bool)->(Nat->Value)->World->Prop}{Q:Exit->Act->World->Prop}:∀ {l:List Oper}{k:Nat},LO P ops F Φ R G Q l k->∀ {i:Nat}{o:Oper},l[i]? = some o->AL P ops F Φ R G Q (k+i) o
 | [],_,_,_,_,h=>by simp at h
 | p::l,k,hs,0,o,h=>by
  simp only[List.getElem?_cons_zero,Option.some.injEq] at h;subst h;exact hs.1
 | p::l,k,hs,i+1,o,h=>by
  simp only[List.getElem?_cons_succ] at h;have:=hs.2.at h
  rwa [show k+(i+1)=k+1+i by omega]
def NV (l:List Oper):Bool:=l.zipIdx.all fun p=>(GE p.1).all fun j=>decide (j < p.2)
theorem RS {l:List Oper}(h:NV l=true) {i:Nat}{o:Oper}(c:l[i]? = some o):∀j∈GE o,j < i:=by
 intro j b;have a:=List.all_eq_true.1 h (o,i) (by rw[List.mem_iff_getElem?];exact⟨i,by rw[List.getElem?_zipIdx,c];simp⟩);exact of_decide_eq_true (List.all_eq_true.1 a j b)
theorem TK {ops:Array Oper}{l:Array Bool}{i:Nat}:i∈Region.ready .any ops l↔l.getD i true=false/\∃o,ops[i]? = some o/\∀j∈GE o,l.getD j false=true:=by
 unfold Region.ready;rw[List.mem_filter,List.mem_range];constructor
 ·rintro⟨a,h⟩;rw[Bool.and_eq_true,Bool.not_eq_true'] at h;refine⟨h.1,ops[i],by rw[Array.getElem?_eq_getElem a],fun j n=>?_⟩;have b:=h.2;rw[Array.getElem?_eq_getElem a] at b;simp only[Option.map_some,Option.getD_some] at b;obtain⟨e,d,rfl⟩:=List.mem_map.1 n;obtain⟨k,m⟩:=List.mem_filter.1 d;have c:=Array.all_eq_true'.1 b e (by simpa using k);rw[m] at c;rw[Bool.not_true,Bool.false_or] at c;exact c
 ·rintro⟨a,o,f,h⟩;have t:=(wD.1 f).1;refine⟨t,?_⟩;rw[Bool.and_eq_true,Bool.not_eq_true'];refine⟨a,?_⟩;rw[f];simp only[Option.map_some,Option.getD_some];refine Array.all_eq_true'.2 fun e d=>?_;cases g:Region.binds .any e with
  | false=>rfl
  | true=>exact h e.on (List.mem_map.2 ⟨e,List.mem_filter.2 ⟨by simpa using d,g⟩,rfl⟩)
theorem VV {P:Program}{l:List Oper}{F:(Nat->Value)->Act}{Φ:List (World->Value->Prop)}{R:World->World->Prop}{G:(Nat->Bool)->(Nat->Value)->World->Prop}{Q:Exit->Act->World->Prop}
  (y:NV l=true) (hR:LM R Φ) (hS:LO P l.toArray F Φ R G Q l 0)
  (a3:∀ys W,G (fun i=>decide (i < l.length)) ys W->(∀i,i < l.length->DE Φ i W (ys i))->Q .normal (F ys) W) (Z:∀D I ys W,(∀i,i < l.length->D i=I i)->G D ys W->G I ys W) :
  ∀(u:Nat) (s:Array Bool) (D:Nat->Bool) (ys:Nat->Value) (W:World),s.size=l.length->(∀i,i < l.length->s.getD i true=D i)->(∀i,l.length<=i->D i=false)->(∀i,D i=true->DE Φ i W (ys i))->G D ys W->LI l.toArray D->
   ((List.range l.length).filter fun i=>!D i).length=u->wpAny P .any l.toArray Q u s (F ys) W:=by
 have L:∀ {D:Nat->Bool},(∀i,i < l.length->D i=true)->∀ {ys W},(∀i,D i=true->DE Φ i W (ys i))->G D ys W->Q .normal (F ys) W:=fun {D} h {ys W} d v=>
  a3 ys W (Z _ _ _ _ (fun i c=>by rw[h i c,vZ c]) v) fun i c=>d i (h i c)
 have none:∀ {s:Array Bool} {D:Nat->Bool},(∀i,i < l.length->s.getD i true=D i)->s.size=l.length->Region.ready .any l.toArray s = []->∀i,i < l.length->D i=true:=by
  intro s D f z r i;induction i using Nat.strongRecOn with
  | _ i H=>
   intro c;cases n:D i with
   | true=>rfl
   | false=>
    have g:l[i]? = some l[i]:=List.getElem?_eq_getElem c
    have:i∈Region.ready .any l.toArray s:=TK.2 ⟨(f i c).trans n,l[i],by simp,fun j b=>by
     have B:=RS y g j b;have d:=(f j (by omega)).trans (H j B (by omega));rw[Array.getD_eq_getD_getElem?,Array.getElem?_eq_getElem (by omega)] at d|-;exact d⟩
    rw[r] at this;cases this
 intro u;induction u with
 | zero=>
  intro s D ys W z f U t w A S
  have n:∀i,i < l.length->D i=true:=fun i c=>by
   have d:=List.length_eq_zero_iff.1 S;cases n:D i with
   | true=>rfl
   | false=>
    have:i∈((List.range l.length).filter fun i=>!D i):=List.mem_filter.2 ⟨List.mem_range.2 c,by rw[n];rfl⟩
    rw[d] at this;cases this
  refine⟨?_,L n t w⟩;cases r:Region.ready .any l.toArray s with
  | nil=>rfl
  | cons i b3=>
   obtain⟨d,o,g,_⟩:=TK.1 (show i∈Region.ready .any l.toArray s by rw[r];simp);have c:i < l.length:=(wD.1 g).1;rw[f i c,n i c] at d;cases d
 | succ u H=>
  intro s D ys W z f U t w A S;refine⟨fun r=>L (none f z r) t w,fun i c=>?_⟩;obtain⟨d,o,g,v⟩:=TK.1 c;have T:i < l.length:=(wD.1 g).1;have E:l[i]? = some o:=by simpa using g
  have N:D i=false:=(f i T).symm.trans d;have V:=hS.at E;rw[Nat.zero_add] at V;refine wpOp_step g fun K hK=>V D ys W K N A (GN.of fun j b=>?_) w fun b2 J r Y hv=>hK _ _ ?_
  ·have B:=RS y E j b;have p:=v j b
   have O:D j=true:=by
    rw[<-f j (by omega)];rw[Array.getD_eq_getD_getElem?,Array.getElem?_eq_getElem (by omega)] at p|-;exact p
   exact⟨O,t j O⟩
  ·refine H _ (AP D i) (AJ ys i b2) J (by simpa using z) (fun j b=>?_) (fun j b=>?_) (fun j b=>?_) Y (fun j oj b q k C=>?_) ?_
   ·unfold AP;rw[Array.getD_eq_getD_getElem?,Array.getElem?_setIfInBounds];by_cases e:i=j
    ·subst e;rw[if_pos rfl,if_pos rfl,if_pos (by omega)];rfl
    ·rw[if_neg e,if_neg (fun h=>e h.symm),<-f j b,Array.getD_eq_getD_getElem?]
   ·unfold AP;rw[if_neg (by omega)];exact U j b
   ·unfold AP at b;unfold AJ;by_cases e:j=i
    ·subst e;rw[if_pos rfl];exact hv
    ·rw[if_neg e] at b|-;exact hR.at j W J _ (t j b) r
   ·unfold AP at b|-;by_cases M:k=i
    ·rw[if_pos M]
    ·rw[if_neg M];by_cases e:j=i
     ·subst e;rw[g] at q;injection q with q;subst q;have B:=RS y E k C;have p:=v k C;rw[<-f k (by omega)];rw[Array.getD_eq_getD_getElem?,Array.getElem?_eq_getElem (by omega)] at p|-;exact p
     ·rw[if_neg e] at b;exact A j oj b q k C
   ·have b0:∀(m:List Nat),m.Nodup->i∈m->(m.filter fun j=>!AP D i j).length+1=(m.filter fun j=>!D j).length:=by
     intro m;induction m with
     | nil=>intro _ h;cases h
     | cons a m a'=>
      intro hn hm;obtain⟨a7,a8⟩:=List.nodup_cons.1 hn;by_cases e:a=i
      ·subst e
       have x:∀j∈m,(!AP D a j) = !D j:=fun j b=>by
        unfold AP;rw[if_neg (fun e:j=a=>a7 (by rw[<-e];exact b))]
       rw[List.filter_cons,List.filter_cons,List.filter_congr x];have X:(!AP D a a)=false:=(by unfold AP;rw[if_pos rfl];rfl);rw[X,N];simp
      ·have a5:i∈m:=by
        rcases List.mem_cons.1 hm with h|h
        ·exact absurd h.symm e
        ·exact h
       have x:(!AP D i a) = !D a:=(by unfold AP;rw[if_neg e]);rw[List.filter_cons,List.filter_cons,x];have:=a' a8 a5
       split
       ·rw[List.length_cons,List.length_cons];omega
       ·exact this
    have:=b0 (List.range l.length) List.nodup_range (List.mem_range.2 T)
    omega
theorem vM {P:Program}{id:Nat}{Q:Exit->Act->World->Prop}{w:World}{l:List Oper}(F:(Nat->Value)->Act) (Φ:List (World->Value->Prop)) (R:World->World->Prop) (G:(Nat->Bool)->(Nat->Value)->World->Prop) (ys:Nat->Value) (m:P.follows .mixedOrders=true)
  (k:NV l=true) (d:LM R Φ) (b:G (fun _=>false) ys (w.drewN 1)) (x:∀D a ys W,(∀i,i < l.length->D i=a i)->G D ys W->G a ys W) (S:LO P l.toArray F Φ R G Q l 0)
  (e:∀ys W,G (fun i=>decide (i < l.length)) ys W->(∀i,i < l.length->DE Φ i W (ys i))->Q .normal (F ys) W) :
  (Code.region id l.toArray true).wp P Q (F ys) w:=by
 refine wp_region_any m ?_;refine VV k d S e x _ _ (fun _=>false) ys _ (by simp) (fun i h=>?_) (fun _ _=>rfl) (fun i h=>by cases h) b (fun j o f=>by cases f) ?_
 ·rw[Array.getD_eq_getD_getElem?,List.size_toArray,Array.getElem?_replicate,if_pos h];rfl
 ·have c:((List.range l.length).filter fun _=>!false)=List.range l.length:=List.filter_eq_self.2 (fun _ _=>rfl);rw[c,List.length_range,List.size_toArray]
end Go.Proofs.YtcnedkkcgdkioaaGreat
namespace Go.Proofs.YtcnedkkcgdkioaaGreat
open Go.RowKit
theorem vW {α : Sort _} (e : α) : ∃ x, x = e := ⟨e, rfl⟩
def AI (a : Value) : World → Value → Prop := fun _ v => v = a
def CM : World → Value → Prop := fun _ _ => True
theorem sE {R : World → World → Prop} {a : Value} (W W' : World) (v : Value) (h : AI a W v) (_ : R W W') : AI a W' v := h
theorem AD {P : (Nat → Value) → Prop} (i : Nat) (h : ∀ y ys, P (AJ ys i y)) : ∀ ys, P ys := fun ys => by
  have e : AJ ys i (ys i) = ys := by
    funext j
    unfold AJ
    by_cases k : j = i
    · rw [if_pos k, k]
    · rw [if_neg k]
  rw [← e]; exact h _ _
theorem GN.get {Φ : List (World → Value → Prop)} {D : Nat → Bool} {W : World} {ys : Nat → Value} (j : Nat) : ∀ {l : List Nat}, GN Φ D W ys l → l.elem j = true → D j = true ∧ DE Φ j W (ys j)
  | [], _, h => by simp at h
  | k :: l, h, hj => by
    by_cases e : j = k
    · subst e; exact h.1
    · exact GN.get j h.2 (by
        have := List.mem_of_elem_eq_true hj
        rcases List.mem_cons.1 this with a | a
        · exact absurd a e
        · exact List.elem_eq_true_of_mem a)
theorem uW {o : Oper} {f : Nat → Option Bool} {j : Nat} (h : o.guard = some (j, true)) (y : f j = some true) : Region.wanted o f = true := by simp [Region.wanted, h, y]
theorem vN {ops : Array Oper} {tmps : Array Value} {j t : Nat} (h : (ops[j]?).bind (·.dst) = some t) (a : tmps[t]? = some (.bool true)) : yielded ops tmps j = some true := by simp [yielded, h, a]
theorem uE {o : Oper} {f : Nat → Option Bool} {j : Nat} (h : o.guard = some (j, true)) (y : f j = some false) : ¬ Region.wanted o f = true := by simp [Region.wanted, h, y]
theorem VI {ops : Array Oper} {tmps : Array Value} {j t : Nat} (h : (ops[j]?).bind (·.dst) = some t) (a : tmps[t]? = some (.bool false)) : yielded ops tmps j = some false := by simp [yielded, h, a]
variable {P : Program} {ops : Array Oper} {F : (Nat → Value) → Act} {Φ : List (World → Value → Prop)} {R : World → World → Prop} {G : (Nat → Bool) → (Nat → Value) → World → Prop} {Q : Exit → Act → World → Prop} {i : Nat} {o : Oper}
theorem AL.mk (g : o.guard = none) (h : ∀ (ys : Nat → Value) (D : Nat → Bool) (W : World) (K : Act → World → Prop), D i = false → LI ops D → GN Φ D W ys (GE o) → G D ys W →
    (∀ v W', R W W' → G (AP D i) (AJ ys i v) W' → DE Φ i W' v → K (F (AJ ys i v)) W') → Oper.wp P o (F ys) W K Q) : AL P ops F Φ R G Q i o := by
  intro D ys W K a b c d e
  rw [if_pos (by simp [Region.wanted, g])]
  exact h ys D W K a b c d e
theorem AL.mkG (g t : Nat) (h : ∀ (ys : Nat → Value) (D : Nat → Bool) (W : World) (K : Act → World → Prop), D i = false → LI ops D → GN Φ D W ys (GE o) → G D ys W →
    (∀ v W', R W W' → G (AP D i) (AJ ys i v) W' → DE Φ i W' v → K (F (AJ ys i v)) W') → Oper.wp P o (F ys) W K Q)
    (k : o.guard = some (g, true) := by rfl) (l : (ops[g]?).bind (·.dst) = some t := by rfl) (f : ∀ ys, (F ys).tmps[t]? = some (ys g) := by exact fun _ => rfl) (p : ∀ W v, DE Φ g W v → v = .bool true := by exact fun _ _ h => h) (j : (GE o).elem g = true := by rfl) : AL P ops F Φ R G Q i o := by
  intro D ys W K b c a d e
  rw [if_pos (uW k (vN l ((f ys).trans (congrArg some (p W _ (a.get g j).2)))))]
  exact h ys D W K b c a d e
theorem AL.skip (g t : Nat) (h : ∀ (ys : Nat → Value) (D : Nat → Bool) (W : World) (K : Act → World → Prop), G D ys W →
    (∀ v W', R W W' → G (AP D i) (AJ ys i v) W' → DE Φ i W' v → K (F (AJ ys i v)) W') → K ((F ys).put o.dst undef) W)
    (f : o.guard = some (g, true) := by rfl) (j : (ops[g]?).bind (·.dst) = some t := by rfl) (d : ∀ ys, (F ys).tmps[t]? = some (ys g) := by exact fun _ => rfl) (p : ∀ W v, DE Φ g W v → v = .bool false := by exact fun _ _ h => h) (e : (GE o).elem g = true := by rfl) : AL P ops F Φ R G Q i o := by
  intro D ys W K k l a b c
  rw [if_neg (uE f (VI j ((d ys).trans (congrArg some (p W _ (a.get g e).2)))))]
  exact h ys D W K b c
theorem GB {id : Nat} {w : World} {l : List Oper} (S : LO P l.toArray F Φ R G Q l 0) (ys : Nat → Value) (m : P.follows .mixedOrders = true)
    (c : NV l = true) (b : LM R Φ) (h : G (fun _ => false) ys (w.drewN 1)) (x : ∀ D a ys W, (∀ i, i < l.length → D i = a i) → G D ys W → G a ys W)
    (e : ∀ ys W, G (fun i => decide (i < l.length)) ys W → (∀ i, i < l.length → DE Φ i W (ys i)) → Q .normal (F ys) W) :
    (Code.region id l.toArray true).wp P Q (F ys) w := vM F Φ R G ys m c b h x S e
end Go.Proofs.YtcnedkkcgdkioaaGreat
namespace Go.Proofs.YtcnedkkcgdkioaaGreat
open Go.RowKit
def SM (o:Oper):List Nat:=(o.after.toList.filter fun e=>match e.ground with | .data=>true|_=>false).map (·.on)
theorem SN {o:Oper}{j:Nat}(h:j∈SM o):(GE o).elem j=true:=by
 obtain⟨e,c,rfl⟩:=List.mem_map.1 h;obtain⟨a,b⟩:=List.mem_filter.1 c;refine List.elem_eq_true_of_mem (List.mem_map.2 ⟨e,List.mem_filter.2 ⟨a,?_⟩,rfl⟩);obtain⟨n,g⟩:=e;cases g<;>first|rfl|cases b
theorem VB {ys:Nat->Value}{j:Nat}{c:Value}(h:ys j=c):AJ ys j c=ys:=by
 funext k
 unfold AJ;by_cases e:k=j
 ·rw[if_pos e,e,h]
 ·rw[if_neg e]
variable {P:Program} {ops:Array Oper} {F:(Nat->Value)->Act} {Φ:List (World->Value->Prop)} {R:World->World->Prop} {G:(Nat->Bool)->(Nat->Value)->World->Prop} {Q:Exit->Act->World->Prop} {i:Nat} {o:Oper}
def NT (ops:Array Oper) (F:(Nat->Value)->Act) (Φ:List (World->Value->Prop)) (o:Oper):Prop:=∀D y W,GN Φ D W y (GE o)->Region.wanted o (yielded ops (F y).tmps)=true
theorem CE (h:o.guard=none):NT ops F Φ o:=fun _ _ _ _=>by simp[Region.wanted,h]
theorem eL {g t:Nat}(b:o.guard=some (g,false)) (c:(ops[g]?).bind (·.dst)=some t) (a:∀ys,(F ys).tmps[t]? = some (ys g)) (p:∀W v,DE Φ g W v->v = .bool false) (d:(GE o).elem g=true):NT ops F Φ o:=fun _ ys W h=>by
 have y:=VI c ((a ys).trans (congrArg some (p W _ (h.get g d).2)));simp[Region.wanted,b,y]
theorem AL.q0 {a:Value}(w:NT ops F Φ o) (f:∀W,R W W) (e:∀D ys W,G D ys W->G (AP D i) (AJ ys i a) W) (p:∀W,DE Φ i W a)
  (h:∀ys W K,K (F (AJ ys i a)) W->Oper.wp P o (F ys) W K Q):AL P ops F Φ R G Q i o:=by
 intro D ys W K _ _ b c d;rw[if_pos (w D ys W b)];exact h ys W K (d a W (f W) (e D ys W c) (p W))
theorem AL.q1 {a c:Value}{j:Nat}(w:NT ops F Φ o) (k:∀W,R W W) (g:∀D ys W,G D ys W->G (AP D i) (AJ ys i a) W) (p:∀W,DE Φ i W a) (m:SM o = [j]) (l:∀W v,DE Φ j W v->v=c)
  (h:∀ys W K,K (F (AJ (AJ ys j c) i a)) W->Oper.wp P o (F (AJ ys j c)) W K Q):AL P ops F Φ R G Q i o:=by
 intro D ys W K _ _ b d f;rw[if_pos (w D ys W b)];have e:=VB (l W _ (b.get j (SN (by rw[m];exact List.mem_singleton.2 rfl))).2);rw[<-e];exact h ys W K (by rw[e];exact f a W (k W) (g D ys W d) (p W))
theorem AL.q2 {a c d:Value}{j k:Nat}(w:NT ops F Φ o) (q:∀W,R W W) (p:∀D ys W,G D ys W->G (AP D i) (AJ ys i a) W) (t:∀W,DE Φ i W a) (g:SM o = [j,k]) (r:∀W v,DE Φ j W v->v=c) (s:∀W v,DE Φ k W v->v=d)
  (h:∀ys W K,K (F (AJ (AJ (AJ ys k d) j c) i a)) W->Oper.wp P o (F (AJ (AJ ys k d) j c)) W K Q):AL P ops F Φ R G Q i o:=by
 intro D ys W K _ _ b m n;rw[if_pos (w D ys W b)];have e:=VB (s W _ (b.get k (SN (by rw[g];simp))).2);have l:=VB (r W _ (b.get j (SN (by rw[g];simp))).2);have f:AJ (AJ ys k d) j c=ys:=by rw[e,l]
 rw[<-f];exact h ys W K (by rw[f];exact n a W (q W) (p D ys W m) (t W))
theorem AG {n:Nat}{ys:Nat->Value}{W:World}(p:∀i,i < n->DE Φ i W (ys i)) (i:Nat) (h:decide (i < n)=true:=by rfl):DE Φ i W (ys i):=p i (of_decide_eq_true h)
end Go.Proofs.YtcnedkkcgdkioaaGreat
namespace Go.Proofs.YtcnedkkcgdkioaaGreat
open Go.RowKit
theorem AN {W a:World}{k:Nat}{o:Obj}(b:Below W.heap.size W a) (h:W.heap[k]? = some o):a.heap[k]? = some o:=(b.block k (wD.1 h).1).trans h
theorem box8' {W:World}{b:Nat}{v a c d e f g j:Value}{T:TypeId}(h:W.heap[b]? = some (.cells #[v,a,c,d,e,f,g,j] T)):W.cell? ⟨b,0,none⟩=some v/\W.cell? ⟨b,1,none⟩=some a/\W.cell? ⟨b,2,none⟩=some c/\W.cell? ⟨b,3,none⟩=some d/\W.cell? ⟨b,4,none⟩=some e/\W.cell? ⟨b,5,none⟩=some f/\W.cell? ⟨b,6,none⟩=some g/\W.cell? ⟨b,7,none⟩=some j:=
 ⟨by rw[cell_of_row _ _ 0 _ _ _ h];rfl,by rw[cell_of_row _ _ 1 _ _ _ h];rfl,by rw[cell_of_row _ _ 2 _ _ _ h];rfl,by rw[cell_of_row _ _ 3 _ _ _ h];rfl,by rw[cell_of_row _ _ 4 _ _ _ h];rfl,by rw[cell_of_row _ _ 5 _ _ _ h];rfl,by rw[cell_of_row _ _ 6 _ _ _ h];rfl,by rw[cell_of_row _ _ 7 _ _ _ h];rfl⟩
def OZ (w:World) (B n:Nat) (v:Value) (xs:Jb) (x:List Int) (a:Value) (W:World):Prop:=
 AA 114 8 EI W B a (n+1) (xs ++ [x])/\Below B w W/\AE 114 w W/\∀k,k < w.heap.size->v.ownBlock ≠ some k->W.heap[k]? = w.heap[k]?
def aO:List Oper:=[⟨some 29,.move (.tmp 0),137,"execution.go:81",#[],none⟩,⟨some 30,.move (.tmp 0),137,"execution.go:81",#[],none⟩,⟨some 31,.nilCheck (.tmp 30),0,"execution.go:81",#[⟨1,.data⟩],none⟩,⟨some 32,.fieldAddr 140 (.tmp 31) 1,0,"execution.go:81",#[⟨2,.data⟩],none⟩,⟨some 33,.load 30 (.tmp 32),30,"execution.go:81",#[⟨3,.data⟩],none⟩,⟨some 34,.load 114 (.tmp 3),114,"execution.go:81",#[],none⟩,⟨some 35,.buildSlice 30 1 #[(0,.tmp 34)],30,"execution.go:81",#[⟨5,.data⟩],none⟩,⟨some 36,.call { callee:=.builtin .append,args:=#[.tmp 33,.tmp 35],argTypes:=#[30,30] },30,"execution.go:81",#[⟨4,.data⟩,⟨6,.data⟩],none⟩,⟨some 37,.nilCheck (.tmp 29),0,"execution.go:81",#[⟨0,.data⟩,⟨0,.phase⟩,⟨1,.phase⟩,⟨2,.phase⟩,⟨3,.phase⟩,⟨4,.phase⟩,⟨5,.phase⟩,⟨6,.phase⟩,⟨7,.phase⟩],none⟩,⟨some 38,.fieldAddr 140 (.tmp 37) 1,0,"execution.go:81",#[⟨8,.data⟩,⟨0,.phase⟩,⟨1,.phase⟩,⟨2,.phase⟩,⟨3,.phase⟩,⟨4,.phase⟩,⟨5,.phase⟩,⟨6,.phase⟩,⟨7,.phase⟩],none⟩,⟨none,.store 30 (.tmp 38) (.tmp 36),0,"execution.go:81",#[⟨9,.data⟩,⟨7,.data⟩,⟨7,.chain⟩,⟨0,.phase⟩,⟨1,.phase⟩,⟨2,.phase⟩,⟨3,.phase⟩,⟨4,.phase⟩,⟨5,.phase⟩,⟨6,.phase⟩,⟨7,.phase⟩],none⟩]
theorem rE {w:World}{Y x2 x4 x5 x6 x7 x8 x9 Z a0 a1 a2 a3 a4 a5 a6 a7 a8 a' b0 b1 b2 b3 b4 b5 b6 b7 d0 d1 d2 d3 d4 d5 d6 d7 d8 d9 b8:Value}{Q:Exit->Act->World->Prop}{bb O B n:Nat}{q0 q2 v:Value}{b c d e f k m p:Int}{xs:Jb}
  (V:w.heap[bb]? = some (.cells #[q0,v,q2] 140)) (kv:w.heap[O]? = some (.cells #[.int .i64 b,.int .i64 c,.int .i64 d,.int .i64 e,.int .i64 f,.int .i64 k,.int .i64 m,.int .i64 p] 114))
  (ho:AA 114 8 EI w B v n xs) (hn:n<=1000000) (hB:B<=w.heap.size)
  (e5:∀(M I _y10:Value) (W:World),(((fun i=>decide (i < 11)) 7=false->Below w.heap.size w W)/\((fun i=>decide (i < 11)) 6=true->(fun i=>decide (i < 11)) 7=false->∃g,M = .slice (some ⟨g,0,none⟩) 1 1/\W.heap[g]? = some (.cells #[.int .i64 b,.int .i64 c,.int .i64 d,.int .i64 e,.int .i64 f,.int .i64 k,.int .i64 m,.int .i64 p] 114))/\((fun i=>decide (i < 11)) 7=true->(fun i=>decide (i < 11)) 10=false->OZ w B n v xs [b,c,d,e,f,k,m,p] I W)/\((fun i=>decide (i < 11)) 10=true->∃N,OZ w B n v xs [b,c,d,e,f,k,m,p] I N/\W=N.setCell ⟨bb,1,none⟩ I))->(True)->(True)->(True)->Q .normal ⟨#[.pointer (some ⟨bb,0,none⟩),Y,x2,.pointer (some ⟨O,0,none⟩),x4,x5,x6,x7,x8,x9,Z,a0,a1,a2,a3,a4,a5,a6,a7,a8,a',b0,b1,b2,b3,b4,b5,b6,b7,.pointer (some ⟨bb,0,none⟩),.pointer (some ⟨bb,0,none⟩),.pointer (some ⟨bb,0,none⟩),.pointer (some ⟨bb,1,none⟩),v,.agg #[.int .i64 b,.int .i64 c,.int .i64 d,.int .i64 e,.int .i64 f,.int .i64 k,.int .i64 m,.int .i64 p],M,I,.pointer (some ⟨bb,0,none⟩),.pointer (some ⟨bb,1,none⟩),b8],[]⟩ W) :
  (Code.region 5 aO.toArray true).wp Tryz.prog Q ⟨#[.pointer (some ⟨bb,0,none⟩),Y,x2,.pointer (some ⟨O,0,none⟩),x4,x5,x6,x7,x8,x9,Z,a0,a1,a2,a3,a4,a5,a6,a7,a8,a',b0,b1,b2,b3,b4,b5,b6,b7,d0,d1,d2,d3,d4,d5,d6,d7,d8,d9,b8],[]⟩ w:=by
 have e4:∀c'∈([.int .i64 b,.int .i64 c,.int .i64 d,.int .i64 e,.int .i64 f,.int .i64 k,.int .i64 m,.int .i64 p]:List Value),c'.oneCell'=true:=fun c' hu=>by
  simp only[List.mem_cons,List.not_mem_nil,or_false] at hu;rcases hu with rfl|rfl|rfl|rfl|rfl|rfl|rfl|rfl<;>rfl
 refine GB (l:=aO) (F:=(fun y=>⟨#[.pointer (some ⟨bb,0,none⟩),Y,x2,.pointer (some ⟨O,0,none⟩),x4,x5,x6,x7,x8,x9,Z,a0,a1,a2,a3,a4,a5,a6,a7,a8,a',b0,b1,b2,b3,b4,b5,b6,b7,y 0,y 1,y 2,y 3,y 4,y 5,y 6,y 7,y 8,y 9,b8],[]⟩)) (Φ:=[AI (.pointer (some ⟨bb,0,none⟩)),AI (.pointer (some ⟨bb,0,none⟩)),AI (.pointer (some ⟨bb,0,none⟩)),AI (.pointer (some ⟨bb,1,none⟩)),AI v,AI (.agg #[.int .i64 b,.int .i64 c,.int .i64 d,.int .i64 e,.int .i64 f,.int .i64 k,.int .i64 m,.int .i64 p]),CM,CM,AI (.pointer (some ⟨bb,0,none⟩)),AI (.pointer (some ⟨bb,1,none⟩)),CM]) (R:=(fun _ _=>True)) (G:=(fun D y W=>(D 7=false->Below w.heap.size w W)/\(D 6=true->D 7=false->∃g,(y 6) = .slice (some ⟨g,0,none⟩) 1 1/\W.heap[g]? = some (.cells #[.int .i64 b,.int .i64 c,.int .i64 d,.int .i64 e,.int .i64 f,.int .i64 k,.int .i64 m,.int .i64 p] 114))/\(D 7=true->D 10=false->OZ w B n v xs [b,c,d,e,f,k,m,p] (y 7) W)/\(D 10=true->∃N,OZ w B n v xs [b,c,d,e,f,k,m,p] (y 7) N/\W=N.setCell ⟨bb,1,none⟩ (y 7)))) ⟨?s0,?s1,?s2,?s3,?s4,?s5,?s6,?s7,?s8,?s9,?s10,trivial⟩ (fun i=>([d0,d1,d2,d3,d4,d5,d6,d7,d8,d9,undef]:List Value).getD i undef) (by kernel_rfl) (by kernel_rfl) ⟨sE,sE,sE,sE,sE,sE,fun _ _ _ h _=>h,fun _ _ _ h _=>h,sE,sE,fun _ _ _ h _=>h,trivial⟩ ?g0 ?gx ?fin
 case s0|s1=>
  refine .q0 (CE rfl) (fun _=>trivial) (fun _ _ _ h=>h) (fun _=>rfl) fun y W K r=>?_;go_simp;exact r
 case s2|s3|s8|s9=>
  refine .q1 (CE rfl) (fun _=>trivial) (fun _ _ _ h=>h) (fun _=>rfl) rfl (fun _ _ h=>h) fun y W K r=>?_;dsimp [AJ]
  go_simp;exact r
 case s4=>
  refine AL.mk rfl (AD 3 fun y3=>AD 6 fun M=>AD 7 fun I=>fun y D W K u H z a r=>?_);obtain rfl:=(z.get 3 rfl).2;dsimp [AJ] at a|-
  have s:=H.no (j:=7) (i:=4) rfl (by kernel_rfl) u;obtain⟨t,C,E,J⟩:=a;obtain⟨z0,z1,z2⟩:=box3' (AN (t s) V);go_simp;exact r _ _ trivial ⟨t,C,E,J⟩ rfl
 case s5=>
  refine AL.mk rfl (AD 6 fun M=>AD 7 fun I=>fun y D W K u H _ a r=>?_);dsimp [AJ] at a|-
  have S:=H.no (j:=6) (i:=5) rfl (by kernel_rfl) u;have s:=H.no (j:=7) (i:=6) rfl (by kernel_rfl) S;obtain⟨t,C,E,J⟩:=a;obtain⟨p0,p1,p2,p3,p4,p5,p6,p7⟩:=box8' (AN (t s) kv);go_simp;exact r _ _ trivial ⟨t,C,E,J⟩ rfl
 case s6=>
  refine AL.mk rfl (AD 5 fun y5=>AD 6 fun M=>AD 7 fun I=>fun y D W K u H z a r=>?_);obtain rfl:=(z.get 5 rfl).2;dsimp [AJ] at a|-
  have s:=H.no (j:=7) (i:=6) rfl (by kernel_rfl) u;have T:=H.no (j:=10) (i:=7) rfl (by kernel_rfl) s;obtain⟨t,C,E,J⟩:=a;have L:=t s;have ha:Below W.heap.size W (W.alloc (.cells #[.int .i64 b,.int .i64 c,.int .i64 d,.int .i64 e,.int .i64 f,.int .i64 k,.int .i64 m,.int .i64 p] 114)):=(wB _ W).alloc (wC _) _;go_simp;exact r _ _ trivial ⟨fun _=>btt L ha,fun _ _=>⟨_,rfl,wE W _⟩,fun h _=>(by rw[show AP D 6 7=D 7 from rfl,s] at h;cases h),fun h=>(by rw[show AP D 6 10=D 10 from rfl,T] at h;cases h)⟩ trivial
 case s7=>
  refine AL.mk rfl (AD 4 fun y4=>AD 6 fun M=>AD 7 fun I=>fun y D W K u H z a r=>?_);obtain rfl:=(z.get 4 rfl).2;have S:=(z.get 6 rfl).1;dsimp [AJ] at a|-
  have T:=H.no (j:=10) (i:=7) rfl (by kernel_rfl) u;have S:=(z.get 6 rfl).1;obtain⟨t,C,E,J⟩:=a;have L:=t u;obtain⟨g,e6,hg⟩:=C S u;subst e6;refine KF (B:=B) (cs:=[.int .i64 b,.int .i64 c,.int .i64 d,.int .i64 e,.int .i64 f,.int .i64 k,.int .i64 m,.int .i64 p]) (x:=[b,c,d,e,f,k,m,p]) SQ (by decide) (by decide) (EI.stab _) _ _ (by rfl) (by rfl) (ho.keep (EI.stab _) L) ⟨g,0,none⟩ 1 (by rfl) rfl (World.news_of_block hg) e4 rfl (by omega) (wI hB L.size) ?_;intro v9 w9 e1 e8 f' e3 e';exact r _ _ trivial ⟨fun h=>(by cases h),fun _ h=>(by cases h),fun _ _=>⟨e1,(L.mono hB).trans e3,(AE.below L).trans e',fun c8 hk hn=>(e8.block c8 (Nat.lt_of_lt_of_le hk L.size) (fun d'=>hn d'.symm)).trans (L.block c8 hk)⟩,fun h=>(by rw[show AP D 7 10=D 10 from rfl,T] at h;cases h)⟩ trivial
 case s10=>
  refine AL.mk rfl (AD 9 fun y9=>AD 6 fun M=>AD 7 fun I=>fun y D W K u _ z a r=>?_);obtain rfl:=(z.get 9 rfl).2;have s:=(z.get 7 rfl).1;dsimp [AJ] at a|-
  have s:=(z.get 7 rfl).1;obtain⟨t,C,E,J⟩:=a;have U:=E s u;obtain⟨a9,c9,rfl⟩:=U.1.shape;have kb:=(U.2.2.1 bb _ _ V (by decide)).trans V;obtain⟨z0,z1,z2⟩:=box3' kb;have fz:=BG kb;go_simp;exact r undef _ trivial ⟨fun h=>(by rw[show AP D 10 7=D 7 from rfl,s] at h;cases h),fun _ h=>(by rw[show AP D 10 7=D 7 from rfl,s] at h;cases h),fun _ h=>(by cases h),fun _=>⟨W,U,rfl⟩⟩ trivial
 case g0=>exact⟨fun _=>wH (wB _ w) 1,fun h=>(by cases h),fun h=>(by cases h),fun h=>(by cases h)⟩
 case gx=>exact fun D D' y W h ⟨t,C,E,J⟩=>⟨fun q=>t ((h 7 (by decide)).trans q),fun q X=>C ((h 6 (by decide)).trans q) ((h 7 (by decide)).trans X),fun q X=>E ((h 7 (by decide)).trans q) ((h 10 (by decide)).trans X),fun q=>J ((h 10 (by decide)).trans q)⟩
 case fin=>
  intro y W a A;try dsimp only
  rw[(AG A 0:y 0=_),(AG A 1:y 1=_),(AG A 2:y 2=_),(AG A 3:y 3=_),(AG A 4:y 4=_),(AG A 5:y 5=_),(AG A 8:y 8=_),(AG A 9:y 9=_)];exact e5 (y 6) (y 7) (y 10) W a (AG A 6) (AG A 7) (AG A 10)
end Go.Proofs.YtcnedkkcgdkioaaGreat

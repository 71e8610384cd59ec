/- Texts of this claim, put together: TL RG RH RJ TM0. -/
import Derived.Test.YtcnedkkcgdkioaaGreatKSl

set_option maxRecDepth 100000
set_option maxHeartbeats 12800000
namespace Go.Proofs.YtcnedkkcgdkioaaGreat
open Go.RowKit Go.ChangeMaps Go.MapKept Go.WideMaps
theorem box5' {W:World}{b:Nat}{v0 v1 v2 v3 v4:Value}{T:TypeId}(h:W.heap[b]? = some (.cells #[v0,v1,v2,v3,v4] T)):W.cell? ⟨b,0,none⟩=some v0/\W.cell? ⟨b,1,none⟩=some v1/\W.cell? ⟨b,2,none⟩=some v2/\W.cell? ⟨b,3,none⟩=some v3/\W.cell? ⟨b,4,none⟩=some v4:=
 ⟨by rw[cell_of_row _ _ 0 _ _ _ h];rfl,by rw[cell_of_row _ _ 1 _ _ _ h];rfl,by rw[cell_of_row _ _ 2 _ _ _ h];rfl,by rw[cell_of_row _ _ 3 _ _ _ h];rfl,by rw[cell_of_row _ _ 4 _ _ _ h];rfl⟩
def silA (k:Nat):Array Value:=
 match k with
 | 0=>#[.int .i64 0,.int .i64 0,.int .i64 0,.int .i64 0,.int .i64 0]
 | 1=>#[.int .i64 (-1),.int .i64 0,.int .i64 0,.int .i64 0,.int .i64 0]
 | 2=>#[.int .i64 (-1),.int .i64 (-1),.int .i64 0,.int .i64 0,.int .i64 0]
 | 3=>#[.int .i64 (-1),.int .i64 (-1),.int .i64 (-1),.int .i64 0,.int .i64 0]
 | 4=>#[.int .i64 (-1),.int .i64 (-1),.int .i64 (-1),.int .i64 (-1),.int .i64 0]
 | _=>#[.int .i64 (-1),.int .i64 (-1),.int .i64 (-1),.int .i64 (-1),.int .i64 (-1)]
theorem silA_set {k:Nat}(h:k < 5):(silA k).setIfInBounds (k) (.int .i64 (-1))=silA (k+1):=by
 rcases(show k=0\/k=1\/k=2\/k=3\/k=4 by omega) with rfl|rfl|rfl|rfl|rfl<;>rfl
theorem silA_at {W:World}{b:Nat}{t:TypeId}{k:Nat}(h:k < 5) (hb:W.heap[b]? = some (.cells (silA k) t)):∃v,W.cell? ⟨b,k,none⟩=some v:=by
 rcases(show k=0\/k=1\/k=2\/k=3\/k=4 by omega) with rfl|rfl|rfl|rfl|rfl
 all_goals exact⟨_,by rw[cell_of_row _ _ _ _ _ _ hb];rfl⟩
theorem silKeep {w wr:World}{b0 b1 k:Nat}{v:Value}{c0 c1:Array Value}{t:TypeId}(h0:wr.heap[b0]? = some (.cells c0 t)) (h1:wr.heap[b1]? = some (.cells c1 t)) (hne:b0 ≠ b1) (hB:w.heap.size<=b1) (hb:Below w.heap.size w wr) :
  (wr.setCell ⟨b1,k,none⟩ v).heap[b0]? = some (.cells c0 t)/\(wr.setCell ⟨b1,k,none⟩ v).heap[b1]? = some (.cells (c1.setIfInBounds k v) t)/\Below w.heap.size w (wr.setCell ⟨b1,k,none⟩ v):=
 ⟨(Below.heap_setCell wr ⟨b1,k,none⟩ v b0 hne).trans h0,heap_setCell_same wr b1 k _ t v h1,Below.setCell (p:=⟨b1,k,none⟩) hb hB _⟩
theorem silenceC (w:World):Calls Tryz.prog 136 #[] w fun e w'=>e = .returned (.agg #[.int .i64 (-1),.int .i64 (-1),.int .i64 (-1),.int .i64 (-1),.int .i64 (-1)])/\Below w.heap.size w w':=by
 obtain⟨W1,hW1⟩:=exF ((w.alloc (.cells #[.int .i64 0,.int .i64 0,.int .i64 0,.int .i64 0,.int .i64 0] 112)).alloc (.cells #[.int .i64 0,.int .i64 0,.int .i64 0,.int .i64 0,.int .i64 0] 112));have hb1:Below w.heap.size w W1:=by rw[hW1];exact((Below.refl _ w).alloc (Nat.le_refl _) _).alloc (by simp) _
 have k0:W1.heap[w.heap.size]? = some (.cells #[.int .i64 0,.int .i64 0,.int .i64 0,.int .i64 0,.int .i64 0] 112):=by rw[hW1];exact(Below.heap_alloc _ _ _ (by simp)).trans (World.alloc_heap_new w _)
 have k1:W1.heap[w.heap.size+1]? = some (.cells #[.int .i64 0,.int .i64 0,.int .i64 0,.int .i64 0,.int .i64 0] 112):=by
  rw[hW1];have:=World.alloc_heap_new (w.alloc (.cells #[.int .i64 0,.int .i64 0,.int .i64 0,.int .i64 0,.int .i64 0] 112)) (.cells #[.int .i64 0,.int .i64 0,.int .i64 0,.int .i64 0,.int .i64 0] 112)
  rwa [World.size_alloc] at this
 go_enter Tryz.func136, Tryz.ntmps136
 go_wp2_with fail
 rw[<-hW1];replace hW1:=qH hW1;go_loopw [3] (fun iv wr=>∃k:Nat,iv = .int .i64 k/\k<=5/\wr.heap[w.heap.size]? = some (.cells #[.int .i64 0,.int .i64 0,.int .i64 0,.int .i64 0,.int .i64 0] 112)/\wr.heap[w.heap.size+1]? = some (.cells (silA k) 112)/\Below w.heap.size w wr) (fun iv _=>5 - (intOf iv).toNat)
 case atStart=>exact⟨0,rfl,by omega,k0,k1,hb1⟩
 case round=>
  clear k0 k1 hb1;obtain⟨k,rfl,hk,h0,h1,hbr⟩:=hrel;by_cases hlt:k < 5
  ·have hki:(k:Int) < 5:=(by omega);have hk0:(0:Int)<=(k:Int):=Int.natCast_nonneg _;obtain⟨s0,s1,s2⟩:=silKeep (k:=k) (v:=.int .i64 (-1)) h0 h1 (by omega) (by omega) hbr;rw[silA_set hlt] at s1;obtain⟨v9,c9⟩:=silA_at hlt h1;have fz:=row_free h1;replace s0:=qH s0;replace s1:=qH s1;replace s2:=qH s2;clear h0 h1 hbr;go_wp2_with fail
   go_roundw
   case rel=>exact⟨k+1,by go_num,hlt,s0.out,s1.out,s2.out⟩
   case measure=>simp[intOf];omega
  ·obtain rfl:k=5:=(by omega);have h1':wr.heap[w.heap.size+1]? = some (.cells #[.int .i64 (-1),.int .i64 (-1),.int .i64 (-1),.int .i64 (-1),.int .i64 (-1)] 112):=h1;obtain⟨p0,p1,p2,p3,p4⟩:=box5' h1';obtain⟨q0,q1,q2,q3,q4⟩:=box5' h0;have fz:=row_free h0;have t0:=heap_setCell_same wr w.heap.size 0 _ _ (.int .i64 (-1)) h0;have t1:=heap_setCell_same _ w.heap.size 1 _ _ (.int .i64 (-1)) t0;have t2:=heap_setCell_same _ w.heap.size 2 _ _ (.int .i64 (-1)) t1;have t3:=heap_setCell_same _ w.heap.size 3 _ _ (.int .i64 (-1)) t2;have t4:=heap_setCell_same _ w.heap.size 4 _ _ (.int .i64 (-1)) t3;have hbe:=Below.setCell (p:=⟨w.heap.size,4,none⟩) (Below.setCell (p:=⟨w.heap.size,3,none⟩) (Below.setCell (p:=⟨w.heap.size,2,none⟩) (Below.setCell (p:=⟨w.heap.size,1,none⟩) (Below.setCell (p:=⟨w.heap.size,0,none⟩) hbr (Nat.le_refl _) (.int .i64 (-1))) (Nat.le_refl _) (.int .i64 (-1))) (Nat.le_refl _) (.int .i64 (-1))) (Nat.le_refl _) (.int .i64 (-1))) (Nat.le_refl _) (.int .i64 (-1));obtain⟨W9,hW9⟩:=exF (((((wr.setCell ⟨w.heap.size,0,none⟩ (.int .i64 (-1))).setCell ⟨w.heap.size,1,none⟩ (.int .i64 (-1))).setCell ⟨w.heap.size,2,none⟩ (.int .i64 (-1))).setCell ⟨w.heap.size,3,none⟩ (.int .i64 (-1))).setCell ⟨w.heap.size,4,none⟩ (.int .i64 (-1)));rw[<-hW9] at t4 hbe;replace t4:W9.heap[w.heap.size]? = some (.cells #[.int .i64 (-1),.int .i64 (-1),.int .i64 (-1),.int .i64 (-1),.int .i64 (-1)] 112):=t4;obtain⟨z0,z1,z2,z3,z4⟩:=box5' t4;replace hbe:=qH hbe;replace hW9:=qH hW9;clear h0 h1 h1' t0 t1 t2 t3 t4 hbr;go_wp2;rw[<-hW9.out];refine bodyPost_ret (v:=.agg #[.int .i64 (-1),.int .i64 (-1),.int .i64 (-1),.int .i64 (-1),.int .i64 (-1)]) (by simp[results,Tryz.results136,go_sem,z0,z1,z2,z3,z4]) rfl ?_;exact⟨rfl,hbe.out⟩
end Go.Proofs.YtcnedkkcgdkioaaGreat
namespace Go.Proofs.YtcnedkkcgdkioaaGreat
open Go.RowKit
def phiG:List (World->Value->Prop)->Nat->World->Value->Prop
 | [],_,_,_=>True
 | p::_,0,W,v=>p W v
 | _::l,i+1,W,v=>phiG l i W v
def StabG (R:World->World->Prop):List (World->Value->Prop)->Prop
 | []=>True
 | p::l=>(∀W W' v,p W v->R W W'->p W' v)/\StabG R l
theorem StabG.at {R:World->World->Prop}:∀ {l:List (World->Value->Prop)},StabG R l->∀(i:Nat) (W W':World) (v:Value),phiG l i W v->R W W'->phiG l i W' v
 | [],_,_,_,_,_,_,_=>trivial
 | _::_,h,0,W,W',v,hp,hr=>h.1 W W' v hp hr
 | _::_,h,i+1,W,W',v,hp,hr=>h.2.at i W W' v hp hr
def depsG (o:Oper):List Nat:=(o.after.toList.filter (Region.binds .any)).map (·.on)
def HasG (Φ:List (World->Value->Prop)) (D:Nat->Bool) (W:World) (ys:Nat->Value):List Nat->Prop
 | []=>True
 | j::l=>(D j=true/\phiG Φ j W (ys j))/\HasG Φ D W ys l
theorem HasG.of {Φ:List (World->Value->Prop)}{D:Nat->Bool}{W:World}{ys:Nat->Value}:∀ {l:List Nat},(∀j∈l,D j=true/\phiG Φ j W (ys j))->HasG Φ D W ys l
 | [],_=>trivial
 | j::l,h=>⟨h j (by simp),HasG.of fun k hk=>h k (by simp[hk])⟩
def ClG (ops:Array Oper) (D:Nat->Bool):Prop:=∀j o,D j=true->ops[j]? = some o->∀k∈depsG o,D k=true
theorem ClG.no {ops:Array Oper}{D:Nat->Bool}(h:ClG ops D) {i j:Nat}{o:Oper}(ho:ops[j]? = some o) (hk:(depsG o).elem i=true) (hi:D i=false):D j=false:=by
 cases hj:D j with
 | false=>rfl
 | true=>
  have:=h j o hj ho i (List.mem_of_elem_eq_true hk)
  rw[hi] at this;cases this
def updG (ys:Nat->Value) (i:Nat) (v:Value):Nat->Value:=fun j=>if j=i then v else ys j
def addG (D:Nat->Bool) (i:Nat):Nat->Bool:=fun j=>if j=i then true else D j
def StepG (P:Program) (ops:Array Oper) (F:(Nat->Value)->Act) (Φ:List (World->Value->Prop)) (R:World->World->Prop) (G:(Nat->Bool)->(Nat->Value)->World->Prop) (Q:Exit->Act->World->Prop) (i:Nat) (o:Oper):Prop:=
 ∀(D:Nat->Bool) (ys:Nat->Value) (W:World) (K:Act->World->Prop),D i=false->ClG ops D->HasG Φ D W ys (depsG o)->G D ys W->
  (∀v W',R W W'->G (addG D i) (updG ys i v) W'->phiG Φ i W' v->K (F (updG ys i v)) W')->if Region.wanted o (yielded ops (F ys).tmps)=true then Oper.wp P o (F ys) W K Q else K ((F ys).put o.dst undef) W
def StepsG (P:Program) (ops:Array Oper) (F:(Nat->Value)->Act) (Φ:List (World->Value->Prop)) (R:World->World->Prop) (G:(Nat->Bool)->(Nat->Value)->World->Prop) (Q:Exit->Act->World->Prop):List Oper->Nat->Prop
 | [],_=>True
 | o::l,i=>StepG P ops F Φ R G Q i o/\StepsG P ops F Φ R G Q l (i+1)
theorem StepsG.at {P:Program}{ops:Array Oper}{F:(Nat->Value)->Act}{Φ:List (World->Value->Prop)}{R:World->World->Prop}{G:(Nat->Bool)->(Nat->Value)->World->Prop}{Q:Exit->Act->World->Prop}:∀ {l:List Oper}{k:Nat},StepsG P ops F Φ R G Q l k->∀ {i:Nat}{o:Oper},l[i]? = some o->StepG P ops F Φ R G Q (k+i) o
 | [],_,_,_,_,h=>by simp at h
 | p::l,k,hs,0,o,h=>by
  simp only[List.getElem?_cons_zero,Option.some.injEq] at h;subst h;exact hs.1
 | p::l,k,hs,i+1,o,h=>by
  simp only[List.getElem?_cons_succ] at h;have:=hs.2.at h
  rwa [show k+(i+1)=k+1+i by omega]
def backG (l:List Oper):Bool:=l.zipIdx.all fun p=>(depsG p.1).all fun j=>decide (j < p.2)
theorem backG_of {l:List Oper}(h:backG l=true) {i:Nat}{o:Oper}(ho:l[i]? = some o):∀j∈depsG o,j < i:=by
 intro j hj;have h1:=List.all_eq_true.1 h (o,i) (by rw[List.mem_iff_getElem?];exact⟨i,by rw[List.getElem?_zipIdx,ho];simp⟩);exact of_decide_eq_true (List.all_eq_true.1 h1 j hj)
theorem mem_readyG {ops:Array Oper}{listed:Array Bool}{i:Nat}:i∈Region.ready .any ops listed↔listed.getD i true=false/\∃o,ops[i]? = some o/\∀j∈depsG o,listed.getD j false=true:=by
 unfold Region.ready;rw[List.mem_filter,List.mem_range];constructor
 ·rintro⟨h1,h2⟩;rw[Bool.and_eq_true,Bool.not_eq_true'] at h2;refine⟨h2.1,ops[i],by rw[Array.getElem?_eq_getElem h1],fun j hj=>?_⟩;have h3:=h2.2;rw[Array.getElem?_eq_getElem h1] at h3;simp only[Option.map_some,Option.getD_some] at h3;obtain⟨e,he,rfl⟩:=List.mem_map.1 hj;obtain⟨he1,he2⟩:=List.mem_filter.1 he;have h4:=Array.all_eq_true'.1 h3 e (by simpa using he1);rw[he2] at h4;rw[Bool.not_true,Bool.false_or] at h4;exact h4
 ·rintro⟨h1,o,ho,h2⟩;have hlt:=(Array.getElem?_eq_some_iff.1 ho).1;refine⟨hlt,?_⟩;rw[Bool.and_eq_true,Bool.not_eq_true'];refine⟨h1,?_⟩;rw[ho];simp only[Option.map_some,Option.getD_some];refine Array.all_eq_true'.2 fun e he=>?_;cases hb:Region.binds .any e with
  | false=>rfl
  | true=>exact h2 e.on (List.mem_map.2 ⟨e,List.mem_filter.2 ⟨by simpa using he,hb⟩,rfl⟩)
theorem any_rg {P:Program}{l:List Oper}{F:(Nat->Value)->Act}{Φ:List (World->Value->Prop)}{R:World->World->Prop}{G:(Nat->Bool)->(Nat->Value)->World->Prop}{Q:Exit->Act->World->Prop}
  (hback:backG l=true) (hR:StabG R Φ) (hS:StepsG P l.toArray F Φ R G Q l 0)
  (hend:∀ys W,G (fun i=>decide (i < l.length)) ys W->(∀i,i < l.length->phiG Φ i W (ys i))->Q .normal (F ys) W) (hGx:∀D D' ys W,(∀i,i < l.length->D i=D' i)->G D ys W->G D' ys W) :
  ∀(fuel:Nat) (listed:Array Bool) (D:Nat->Bool) (ys:Nat->Value) (W:World),listed.size=l.length->(∀i,i < l.length->listed.getD i true=D i)->(∀i,l.length<=i->D i=false)->(∀i,D i=true->phiG Φ i W (ys i))->G D ys W->ClG l.toArray D->
   ((List.range l.length).filter fun i=>!D i).length=fuel->wpAny P .any l.toArray Q fuel listed (F ys) W:=by
 have all:∀ {D:Nat->Bool},(∀i,i < l.length->D i=true)->∀ {ys W},(∀i,D i=true->phiG Φ i W (ys i))->G D ys W->Q .normal (F ys) W:=fun {D} h {ys W} h1 h2=>
  hend ys W (hGx _ _ _ _ (fun i hi=>by rw[h i hi,decide_eq_true hi]) h2) fun i hi=>h1 i (h i hi)
 have none:∀ {listed:Array Bool} {D:Nat->Bool},(∀i,i < l.length->listed.getD i true=D i)->listed.size=l.length->Region.ready .any l.toArray listed = []->∀i,i < l.length->D i=true:=by
  intro listed D hl hsz hr i;induction i using Nat.strongRecOn with
  | _ i ih=>
   intro hi;cases hD:D i with
   | true=>rfl
   | false=>
    have ho:l[i]? = some l[i]:=List.getElem?_eq_getElem hi
    have:i∈Region.ready .any l.toArray listed:=mem_readyG.2 ⟨(hl i hi).trans hD,l[i],by simp,fun j hj=>by
     have hji:=backG_of hback ho j hj;have h1:=(hl j (by omega)).trans (ih j hji (by omega));rw[Array.getD_eq_getD_getElem?,Array.getElem?_eq_getElem (by omega)] at h1|-;exact h1⟩
    rw[hr] at this;cases this
 intro fuel;induction fuel with
 | zero=>
  intro listed D ys W hsz hl hlo hp hG hcl hf
  have hD:∀i,i < l.length->D i=true:=fun i hi=>by
   have h1:=List.length_eq_zero_iff.1 hf;cases hD:D i with
   | true=>rfl
   | false=>
    have:i∈((List.range l.length).filter fun i=>!D i):=List.mem_filter.2 ⟨List.mem_range.2 hi,by rw[hD];rfl⟩
    rw[h1] at this;cases this
  refine⟨?_,all hD hp hG⟩;cases hr:Region.ready .any l.toArray listed with
  | nil=>rfl
  | cons i r=>
   obtain⟨h1,o,ho,_⟩:=mem_readyG.1 (show i∈Region.ready .any l.toArray listed by rw[hr];simp);have hi:i < l.length:=(Array.getElem?_eq_some_iff.1 ho).1;rw[hl i hi,hD i hi] at h1;cases h1
 | succ fuel ih=>
  intro listed D ys W hsz hl hlo hp hG hcl hf;refine⟨fun hr=>all (none hl hsz hr) hp hG,fun i hi=>?_⟩;obtain⟨h1,o,ho,h2⟩:=mem_readyG.1 hi;have hil:i < l.length:=(Array.getElem?_eq_some_iff.1 ho).1;have ho':l[i]? = some o:=by simpa using ho
  have hDi:D i=false:=(hl i hil).symm.trans h1;have hst:=hS.at ho';rw[Nat.zero_add] at hst;refine wpOp_step ho fun K hK=>hst D ys W K hDi hcl (HasG.of fun j hj=>?_) hG fun v W' hr hG' hv=>hK _ _ ?_
  ·have hji:=backG_of hback ho' j hj;have h3:=h2 j hj
   have hDj:D j=true:=by
    rw[<-hl j (by omega)];rw[Array.getD_eq_getD_getElem?,Array.getElem?_eq_getElem (by omega)] at h3|-;exact h3
   exact⟨hDj,hp j hDj⟩
  ·refine ih _ (addG D i) (updG ys i v) W' (by simpa using hsz) (fun j hj=>?_) (fun j hj=>?_) (fun j hj=>?_) hG' (fun j oj hj hoj k hk=>?_) ?_
   ·unfold addG;rw[Array.getD_eq_getD_getElem?,Array.getElem?_setIfInBounds];by_cases e:i=j
    ·subst e;rw[if_pos rfl,if_pos rfl,if_pos (by omega)];rfl
    ·rw[if_neg e,if_neg (fun h=>e h.symm),<-hl j hj,Array.getD_eq_getD_getElem?]
   ·unfold addG;rw[if_neg (by omega)];exact hlo j hj
   ·unfold addG at hj;unfold updG;by_cases e:j=i
    ·subst e;rw[if_pos rfl];exact hv
    ·rw[if_neg e] at hj|-;exact hR.at j W W' _ (hp j hj) hr
   ·unfold addG at hj|-;by_cases ek:k=i
    ·rw[if_pos ek]
    ·rw[if_neg ek];by_cases e:j=i
     ·subst e;rw[ho] at hoj;injection hoj with hoj;subst hoj;have hji:=backG_of hback ho' k hk;have h3:=h2 k hk;rw[<-hl k (by omega)];rw[Array.getD_eq_getD_getElem?,Array.getElem?_eq_getElem (by omega)] at h3|-;exact h3
     ·rw[if_neg e] at hj;exact hcl j oj hj hoj k hk
   ·have key:∀(m:List Nat),m.Nodup->i∈m->(m.filter fun j=>!addG D i j).length+1=(m.filter fun j=>!D j).length:=by
     intro m;induction m with
     | nil=>intro _ h;cases h
     | cons a m ihm=>
      intro hn hm;obtain⟨hn1,hn2⟩:=List.nodup_cons.1 hn;by_cases e:a=i
      ·subst e
       have h5:∀j∈m,(!addG D a j) = !D j:=fun j hj=>by
        unfold addG;rw[if_neg (fun e:j=a=>hn1 (by rw[<-e];exact hj))]
       rw[List.filter_cons,List.filter_cons,List.filter_congr h5];have h6:(!addG D a a)=false:=(by unfold addG;rw[if_pos rfl];rfl);rw[h6,hDi];simp
      ·have hm':i∈m:=by
        rcases List.mem_cons.1 hm with h|h
        ·exact absurd h.symm e
        ·exact h
       have h5:(!addG D i a) = !D a:=(by unfold addG;rw[if_neg e]);rw[List.filter_cons,List.filter_cons,h5];have:=ihm hn2 hm'
       split
       ·rw[List.length_cons,List.length_cons];omega
       ·exact this
    have:=key (List.range l.length) List.nodup_range (List.mem_range.2 hil)
    omega
theorem wp_region_rg {P:Program}{id:Nat}{Q:Exit->Act->World->Prop}{w:World}{l:List Oper}(F:(Nat->Value)->Act) (Φ:List (World->Value->Prop)) (R:World->World->Prop) (G:(Nat->Bool)->(Nat->Value)->World->Prop) (ys:Nat->Value) (hm:P.follows .mixedOrders=true)
  (hback:backG l=true) (hR:StabG R Φ) (h0:G (fun _=>false) ys (w.drewN 1)) (hGx:∀D D' ys W,(∀i,i < l.length->D i=D' i)->G D ys W->G D' ys W) (hS:StepsG P l.toArray F Φ R G Q l 0)
  (hend:∀ys W,G (fun i=>decide (i < l.length)) ys W->(∀i,i < l.length->phiG Φ i W (ys i))->Q .normal (F ys) W) :
  (Code.region id l.toArray true).wp P Q (F ys) w:=by
 refine wp_region_any hm ?_;refine any_rg hback hR hS hend hGx _ _ (fun _=>false) ys _ (by simp) (fun i hi=>?_) (fun _ _=>rfl) (fun i hi=>by cases hi) h0 (fun j o hj=>by cases hj) ?_
 ·rw[Array.getD_eq_getD_getElem?,List.size_toArray,Array.getElem?_replicate,if_pos hi];rfl
 ·have h1:((List.range l.length).filter fun _=>!false)=List.range l.length:=List.filter_eq_self.2 (fun _ _=>rfl);rw[h1,List.length_range,List.size_toArray]
end Go.Proofs.YtcnedkkcgdkioaaGreat
namespace Go.Proofs.YtcnedkkcgdkioaaGreat
open Go.RowKit
theorem exS {α : Sort _} (e : α) : ∃ x, x = e := ⟨e, rfl⟩
def eqV (a : Value) : World → Value → Prop := fun _ v => v = a
def anyV : World → Value → Prop := fun _ _ => True
theorem sE {R : World → World → Prop} {a : Value} (W W' : World) (v : Value) (h : eqV a W v) (_ : R W W') : eqV a W' v := h
theorem openY {P : (Nat → Value) → Prop} (i : Nat) (h : ∀ y ys, P (updG ys i y)) : ∀ ys, P ys := fun ys => by
  have e : updG ys i (ys i) = ys := by
    funext j
    unfold updG
    by_cases k : j = i
    · rw [if_pos k, k]
    · rw [if_neg k]
  rw [← e]; exact h _ _
theorem HasG.get {Φ : List (World → Value → Prop)} {D : Nat → Bool} {W : World} {ys : Nat → Value} (j : Nat) : ∀ {l : List Nat}, HasG Φ D W ys l → l.elem j = true → D j = true ∧ phiG Φ j W (ys j)
  | [], _, h => by simp at h
  | k :: l, h, hj => by
    by_cases e : j = k
    · subst e; exact h.1
    · exact HasG.get j h.2 (by
        have := List.mem_of_elem_eq_true hj
        rcases List.mem_cons.1 this with h1 | h1
        · exact absurd h1 e
        · exact List.elem_eq_true_of_mem h1)
theorem wanted_of {o : Oper} {f : Nat → Option Bool} {j : Nat} (hg : o.guard = some (j, true)) (hy : f j = some true) : Region.wanted o f = true := by simp [Region.wanted, hg, hy]
theorem yielded_of {ops : Array Oper} {tmps : Array Value} {j t : Nat} (h1 : (ops[j]?).bind (·.dst) = some t) (h2 : tmps[t]? = some (.bool true)) : yielded ops tmps j = some true := by simp [yielded, h1, h2]
theorem unwanted_of {o : Oper} {f : Nat → Option Bool} {j : Nat} (hg : o.guard = some (j, true)) (hy : f j = some false) : ¬ Region.wanted o f = true := by simp [Region.wanted, hg, hy]
theorem yielded_no {ops : Array Oper} {tmps : Array Value} {j t : Nat} (h1 : (ops[j]?).bind (·.dst) = some t) (h2 : tmps[t]? = some (.bool false)) : yielded ops tmps j = some false := by simp [yielded, h1, h2]
variable {P : Program} {ops : Array Oper} {F : (Nat → Value) → Act} {Φ : List (World → Value → Prop)} {R : World → World → Prop} {G : (Nat → Bool) → (Nat → Value) → World → Prop} {Q : Exit → Act → World → Prop} {i : Nat} {o : Oper}
theorem StepG.mk (hg : o.guard = none) (h : ∀ (ys : Nat → Value) (D : Nat → Bool) (W : World) (K : Act → World → Prop), D i = false → ClG ops D → HasG Φ D W ys (depsG o) → G D ys W →
    (∀ v W', R W W' → G (addG D i) (updG ys i v) W' → phiG Φ i W' v → K (F (updG ys i v)) W') → Oper.wp P o (F ys) W K Q) : StepG P ops F Φ R G Q i o := by
  intro D ys W K h1 h2 h3 h4 h5
  rw [if_pos (by simp [Region.wanted, hg])]
  exact h ys D W K h1 h2 h3 h4 h5
theorem StepG.mkG (g t : Nat) (h : ∀ (ys : Nat → Value) (D : Nat → Bool) (W : World) (K : Act → World → Prop), D i = false → ClG ops D → HasG Φ D W ys (depsG o) → G D ys W →
    (∀ v W', R W W' → G (addG D i) (updG ys i v) W' → phiG Φ i W' v → K (F (updG ys i v)) W') → Oper.wp P o (F ys) W K Q)
    (hg : o.guard = some (g, true) := by rfl) (ht : (ops[g]?).bind (·.dst) = some t := by rfl) (hF : ∀ ys, (F ys).tmps[t]? = some (ys g) := by exact fun _ => rfl) (hp : ∀ W v, phiG Φ g W v → v = .bool true := by exact fun _ _ h => h) (hd : (depsG o).elem g = true := by rfl) : StepG P ops F Φ R G Q i o := by
  intro D ys W K h1 h2 h3 h4 h5
  rw [if_pos (wanted_of hg (yielded_of ht ((hF ys).trans (congrArg some (hp W _ (h3.get g hd).2)))))]
  exact h ys D W K h1 h2 h3 h4 h5
theorem StepG.skip (g t : Nat) (h : ∀ (ys : Nat → Value) (D : Nat → Bool) (W : World) (K : Act → World → Prop), G D ys W →
    (∀ v W', R W W' → G (addG D i) (updG ys i v) W' → phiG Φ i W' v → K (F (updG ys i v)) W') → K ((F ys).put o.dst undef) W)
    (hg : o.guard = some (g, true) := by rfl) (ht : (ops[g]?).bind (·.dst) = some t := by rfl) (hF : ∀ ys, (F ys).tmps[t]? = some (ys g) := by exact fun _ => rfl) (hp : ∀ W v, phiG Φ g W v → v = .bool false := by exact fun _ _ h => h) (hd : (depsG o).elem g = true := by rfl) : StepG P ops F Φ R G Q i o := by
  intro D ys W K h1 h2 h3 h4 h5
  rw [if_neg (unwanted_of hg (yielded_no ht ((hF ys).trans (congrArg some (hp W _ (h3.get g hd).2)))))]
  exact h ys D W K h4 h5
theorem wp_region_sg {id : Nat} {w : World} {l : List Oper} (hS : StepsG P l.toArray F Φ R G Q l 0) (ys : Nat → Value) (hm : P.follows .mixedOrders = true)
    (hback : backG l = true) (hR : StabG R Φ) (h0 : G (fun _ => false) ys (w.drewN 1)) (hGx : ∀ D D' ys W, (∀ i, i < l.length → D i = D' i) → G D ys W → G D' ys W)
    (hend : ∀ ys W, G (fun i => decide (i < l.length)) ys W → (∀ i, i < l.length → phiG Φ i W (ys i)) → Q .normal (F ys) W) :
    (Code.region id l.toArray true).wp P Q (F ys) w := wp_region_rg F Φ R G ys hm hback hR h0 hGx hS hend
end Go.Proofs.YtcnedkkcgdkioaaGreat
namespace Go.Proofs.YtcnedkkcgdkioaaGreat
open Go.RowKit
def datG (o:Oper):List Nat:=(o.after.toList.filter fun e=>match e.ground with | .data=>true|_=>false).map (·.on)
theorem datG_sub {o:Oper}{j:Nat}(h:j∈datG o):(depsG o).elem j=true:=by
 obtain⟨e,he,rfl⟩:=List.mem_map.1 h;obtain⟨h1,h2⟩:=List.mem_filter.1 he;refine List.elem_eq_true_of_mem (List.mem_map.2 ⟨e,List.mem_filter.2 ⟨h1,?_⟩,rfl⟩);obtain⟨on,g⟩:=e;cases g<;>first|rfl|cases h2
theorem updG_self {ys:Nat->Value}{j:Nat}{c:Value}(h:ys j=c):updG ys j c=ys:=by
 funext k
 unfold updG;by_cases e:k=j
 ·rw[if_pos e,e,h]
 ·rw[if_neg e]
variable {P:Program} {ops:Array Oper} {F:(Nat->Value)->Act} {Φ:List (World->Value->Prop)} {R:World->World->Prop} {G:(Nat->Bool)->(Nat->Value)->World->Prop} {Q:Exit->Act->World->Prop} {i:Nat} {o:Oper}
def Wanted (ops:Array Oper) (F:(Nat->Value)->Act) (Φ:List (World->Value->Prop)) (o:Oper):Prop:=∀D ys W,HasG Φ D W ys (depsG o)->Region.wanted o (yielded ops (F ys).tmps)=true
theorem wantU (hg:o.guard=none):Wanted ops F Φ o:=fun _ _ _ _=>by simp[Region.wanted,hg]
theorem wantF {g t:Nat}(hg:o.guard=some (g,false)) (ht:(ops[g]?).bind (·.dst)=some t) (hF:∀ys,(F ys).tmps[t]? = some (ys g)) (hp:∀W v,phiG Φ g W v->v = .bool false) (hd:(depsG o).elem g=true):Wanted ops F Φ o:=fun _ ys W h=>by
 have hy:=yielded_no ht ((hF ys).trans (congrArg some (hp W _ (h.get g hd).2)));simp[Region.wanted,hg,hy]
theorem StepG.q0 {a:Value}(hw:Wanted ops F Φ o) (hR:∀W,R W W) (hG:∀D ys W,G D ys W->G (addG D i) (updG ys i a) W) (hp:∀W,phiG Φ i W a)
  (h:∀ys W K,K (F (updG ys i a)) W->Oper.wp P o (F ys) W K Q):StepG P ops F Φ R G Q i o:=by
 intro D ys W K _ _ h3 h4 h5;rw[if_pos (hw D ys W h3)];exact h ys W K (h5 a W (hR W) (hG D ys W h4) (hp W))
theorem StepG.q1 {a c:Value}{j:Nat}(hw:Wanted ops F Φ o) (hR:∀W,R W W) (hG:∀D ys W,G D ys W->G (addG D i) (updG ys i a) W) (hp:∀W,phiG Φ i W a) (hj:datG o = [j]) (hc:∀W v,phiG Φ j W v->v=c)
  (h:∀ys W K,K (F (updG (updG ys j c) i a)) W->Oper.wp P o (F (updG ys j c)) W K Q):StepG P ops F Φ R G Q i o:=by
 intro D ys W K _ _ h3 h4 h5;rw[if_pos (hw D ys W h3)];have e:=updG_self (hc W _ (h3.get j (datG_sub (by rw[hj];exact List.mem_singleton.2 rfl))).2);rw[<-e];exact h ys W K (by rw[e];exact h5 a W (hR W) (hG D ys W h4) (hp W))
theorem StepG.q2 {a c d:Value}{j k:Nat}(hw:Wanted ops F Φ o) (hR:∀W,R W W) (hG:∀D ys W,G D ys W->G (addG D i) (updG ys i a) W) (hp:∀W,phiG Φ i W a) (hj:datG o = [j,k]) (hc:∀W v,phiG Φ j W v->v=c) (hd:∀W v,phiG Φ k W v->v=d)
  (h:∀ys W K,K (F (updG (updG (updG ys k d) j c) i a)) W->Oper.wp P o (F (updG (updG ys k d) j c)) W K Q):StepG P ops F Φ R G Q i o:=by
 intro D ys W K _ _ h3 h4 h5;rw[if_pos (hw D ys W h3)];have e:=updG_self (hd W _ (h3.get k (datG_sub (by rw[hj];simp))).2);have e2:=updG_self (hc W _ (h3.get j (datG_sub (by rw[hj];simp))).2);have e3:updG (updG ys k d) j c=ys:=by rw[e,e2]
 rw[<-e3];exact h ys W K (by rw[e3];exact h5 a W (hR W) (hG D ys W h4) (hp W))
theorem hpE {n:Nat}{ys:Nat->Value}{W:World}(hp:∀i,i < n->phiG Φ i W (ys i)) (i:Nat) (h:decide (i < n)=true:=by rfl):phiG Φ i W (ys i):=hp i (of_decide_eq_true h)
end Go.Proofs.YtcnedkkcgdkioaaGreat
namespace Go.Proofs.YtcnedkkcgdkioaaGreat
open Go.RowKit
theorem keptO {W W1:World}{k:Nat}{o:Obj}(hb:Below W.heap.size W W1) (h:W.heap[k]? = some o):W1.heap[k]? = some o:=(hb.block k (Array.getElem?_eq_some_iff.1 h).1).trans h
theorem box8' {W:World}{b:Nat}{v0 v1 v2 v3 v4 v5 v6 v7:Value}{T:TypeId}(h:W.heap[b]? = some (.cells #[v0,v1,v2,v3,v4,v5,v6,v7] T)):W.cell? ⟨b,0,none⟩=some v0/\W.cell? ⟨b,1,none⟩=some v1/\W.cell? ⟨b,2,none⟩=some v2/\W.cell? ⟨b,3,none⟩=some v3/\W.cell? ⟨b,4,none⟩=some v4/\W.cell? ⟨b,5,none⟩=some v5/\W.cell? ⟨b,6,none⟩=some v6/\W.cell? ⟨b,7,none⟩=some v7:=
 ⟨by rw[cell_of_row _ _ 0 _ _ _ h];rfl,by rw[cell_of_row _ _ 1 _ _ _ h];rfl,by rw[cell_of_row _ _ 2 _ _ _ h];rfl,by rw[cell_of_row _ _ 3 _ _ _ h];rfl,by rw[cell_of_row _ _ 4 _ _ _ h];rfl,by rw[cell_of_row _ _ 5 _ _ _ h];rfl,by rw[cell_of_row _ _ 6 _ _ _ h];rfl,by rw[cell_of_row _ _ 7 _ _ _ h];rfl⟩
def AddO (w:World) (B n:Nat) (v:Value) (xs:Jb) (x:List Int) (v5:Value) (W5:World):Prop:=
 OwX 114 8 EI W5 B v5 (n+1) (xs ++ [x])/\Below B w W5/\KeepX 114 w W5/\∀k,k < w.heap.size->v.ownBlock ≠ some k->W5.heap[k]? = w.heap[k]?
def opsAdd5:List Oper:=[⟨some 29,.move (.tmp 0),137,"execution.go:81",#[],none⟩,⟨some 30,.move (.tmp 0),137,"execution.go:81",#[],none⟩,⟨some 31,.nilCheck (.tmp 30),0,"execution.go:81",#[⟨1,.data⟩],none⟩,⟨some 32,.fieldAddr 140 (.tmp 31) 1,0,"execution.go:81",#[⟨2,.data⟩],none⟩,⟨some 33,.load 30 (.tmp 32),30,"execution.go:81",#[⟨3,.data⟩],none⟩,⟨some 34,.load 114 (.tmp 3),114,"execution.go:81",#[],none⟩,⟨some 35,.buildSlice 30 1 #[(0,.tmp 34)],30,"execution.go:81",#[⟨5,.data⟩],none⟩,⟨some 36,.call { callee:=.builtin .append,args:=#[.tmp 33,.tmp 35],argTypes:=#[30,30] },30,"execution.go:81",#[⟨4,.data⟩,⟨6,.data⟩],none⟩,⟨some 37,.nilCheck (.tmp 29),0,"execution.go:81",#[⟨0,.data⟩,⟨0,.phase⟩,⟨1,.phase⟩,⟨2,.phase⟩,⟨3,.phase⟩,⟨4,.phase⟩,⟨5,.phase⟩,⟨6,.phase⟩,⟨7,.phase⟩],none⟩,⟨some 38,.fieldAddr 140 (.tmp 37) 1,0,"execution.go:81",#[⟨8,.data⟩,⟨0,.phase⟩,⟨1,.phase⟩,⟨2,.phase⟩,⟨3,.phase⟩,⟨4,.phase⟩,⟨5,.phase⟩,⟨6,.phase⟩,⟨7,.phase⟩],none⟩,⟨none,.store 30 (.tmp 38) (.tmp 36),0,"execution.go:81",#[⟨9,.data⟩,⟨7,.data⟩,⟨7,.chain⟩,⟨0,.phase⟩,⟨1,.phase⟩,⟨2,.phase⟩,⟨3,.phase⟩,⟨4,.phase⟩,⟨5,.phase⟩,⟨6,.phase⟩,⟨7,.phase⟩],none⟩]
theorem regAdd5 {w:World}{x1 x2 x4 x5 x6 x7 x8 x9 x10 x11 x12 x13 x14 x15 x16 x17 x18 x19 x20 x21 x22 x23 x24 x25 x26 x27 x28 x29 x30 x31 x32 x33 x34 x35 x36 x37 x38 x39:Value}{Q:Exit->Act->World->Prop}{bb bv B n:Nat}{q0 q2 v:Value}{a0 a1 a2 a3 a4 a5 a6 a7:Int}{xs:Jb}
  (k0:w.heap[bb]? = some (.cells #[q0,v,q2] 140)) (kv:w.heap[bv]? = some (.cells #[.int .i64 a0,.int .i64 a1,.int .i64 a2,.int .i64 a3,.int .i64 a4,.int .i64 a5,.int .i64 a6,.int .i64 a7] 114))
  (ho:OwX 114 8 EI w B v n xs) (hn:n<=1000000) (hB:B<=w.heap.size)
  (hfin:∀(y6 y7 _y10:Value) (W:World),(((fun i=>decide (i < 11)) 7=false->Below w.heap.size w W)/\((fun i=>decide (i < 11)) 6=true->(fun i=>decide (i < 11)) 7=false->∃g,y6 = .slice (some ⟨g,0,none⟩) 1 1/\W.heap[g]? = some (.cells #[.int .i64 a0,.int .i64 a1,.int .i64 a2,.int .i64 a3,.int .i64 a4,.int .i64 a5,.int .i64 a6,.int .i64 a7] 114))/\((fun i=>decide (i < 11)) 7=true->(fun i=>decide (i < 11)) 10=false->AddO w B n v xs [a0,a1,a2,a3,a4,a5,a6,a7] y7 W)/\((fun i=>decide (i < 11)) 10=true->∃W5,AddO w B n v xs [a0,a1,a2,a3,a4,a5,a6,a7] y7 W5/\W=W5.setCell ⟨bb,1,none⟩ y7))->(True)->(True)->(True)->Q .normal ⟨#[.pointer (some ⟨bb,0,none⟩),x1,x2,.pointer (some ⟨bv,0,none⟩),x4,x5,x6,x7,x8,x9,x10,x11,x12,x13,x14,x15,x16,x17,x18,x19,x20,x21,x22,x23,x24,x25,x26,x27,x28,.pointer (some ⟨bb,0,none⟩),.pointer (some ⟨bb,0,none⟩),.pointer (some ⟨bb,0,none⟩),.pointer (some ⟨bb,1,none⟩),v,.agg #[.int .i64 a0,.int .i64 a1,.int .i64 a2,.int .i64 a3,.int .i64 a4,.int .i64 a5,.int .i64 a6,.int .i64 a7],y6,y7,.pointer (some ⟨bb,0,none⟩),.pointer (some ⟨bb,1,none⟩),x39],[]⟩ W) :
  (Code.region 5 opsAdd5.toArray true).wp Tryz.prog Q ⟨#[.pointer (some ⟨bb,0,none⟩),x1,x2,.pointer (some ⟨bv,0,none⟩),x4,x5,x6,x7,x8,x9,x10,x11,x12,x13,x14,x15,x16,x17,x18,x19,x20,x21,x22,x23,x24,x25,x26,x27,x28,x29,x30,x31,x32,x33,x34,x35,x36,x37,x38,x39],[]⟩ w:=by
 have hc8:∀u∈([.int .i64 a0,.int .i64 a1,.int .i64 a2,.int .i64 a3,.int .i64 a4,.int .i64 a5,.int .i64 a6,.int .i64 a7]:List Value),u.oneCell'=true:=fun u hu=>by
  simp only[List.mem_cons,List.not_mem_nil,or_false] at hu;rcases hu with rfl|rfl|rfl|rfl|rfl|rfl|rfl|rfl<;>rfl
 refine wp_region_sg (l:=opsAdd5) (F:=(fun ys=>⟨#[.pointer (some ⟨bb,0,none⟩),x1,x2,.pointer (some ⟨bv,0,none⟩),x4,x5,x6,x7,x8,x9,x10,x11,x12,x13,x14,x15,x16,x17,x18,x19,x20,x21,x22,x23,x24,x25,x26,x27,x28,ys 0,ys 1,ys 2,ys 3,ys 4,ys 5,ys 6,ys 7,ys 8,ys 9,x39],[]⟩)) (Φ:=[eqV (.pointer (some ⟨bb,0,none⟩)),eqV (.pointer (some ⟨bb,0,none⟩)),eqV (.pointer (some ⟨bb,0,none⟩)),eqV (.pointer (some ⟨bb,1,none⟩)),eqV v,eqV (.agg #[.int .i64 a0,.int .i64 a1,.int .i64 a2,.int .i64 a3,.int .i64 a4,.int .i64 a5,.int .i64 a6,.int .i64 a7]),anyV,anyV,eqV (.pointer (some ⟨bb,0,none⟩)),eqV (.pointer (some ⟨bb,1,none⟩)),anyV]) (R:=(fun _ _=>True)) (G:=(fun D ys W=>(D 7=false->Below w.heap.size w W)/\(D 6=true->D 7=false->∃g,(ys 6) = .slice (some ⟨g,0,none⟩) 1 1/\W.heap[g]? = some (.cells #[.int .i64 a0,.int .i64 a1,.int .i64 a2,.int .i64 a3,.int .i64 a4,.int .i64 a5,.int .i64 a6,.int .i64 a7] 114))/\(D 7=true->D 10=false->AddO w B n v xs [a0,a1,a2,a3,a4,a5,a6,a7] (ys 7) W)/\(D 10=true->∃W5,AddO w B n v xs [a0,a1,a2,a3,a4,a5,a6,a7] (ys 7) W5/\W=W5.setCell ⟨bb,1,none⟩ (ys 7)))) ⟨?s0,?s1,?s2,?s3,?s4,?s5,?s6,?s7,?s8,?s9,?s10,trivial⟩ (fun i=>([x29,x30,x31,x32,x33,x34,x35,x36,x37,x38,undef]:List Value).getD i undef) (by kernel_rfl) (by kernel_rfl) ⟨sE,sE,sE,sE,sE,sE,fun _ _ _ h _=>h,fun _ _ _ h _=>h,sE,sE,fun _ _ _ h _=>h,trivial⟩ ?g0 ?gx ?fin
 case s0|s1=>
  refine .q0 (wantU rfl) (fun _=>trivial) (fun _ _ _ h=>h) (fun _=>rfl) fun ys W K hK=>?_;go_simp;exact hK
 case s2|s3|s8|s9=>
  refine .q1 (wantU rfl) (fun _=>trivial) (fun _ _ _ h=>h) (fun _=>rfl) rfl (fun _ _ h=>h) fun ys W K hK=>?_;dsimp [updG]
  go_simp;exact hK
 case s4=>
  refine StepG.mk rfl (openY 3 fun y3=>openY 6 fun y6=>openY 7 fun y7=>fun ys D W K hD hcl hd hG hK=>?_);obtain rfl:=(hd.get 3 rfl).2;dsimp [updG] at hG|-
  have d7:=hcl.no (j:=7) (i:=4) rfl (by kernel_rfl) hD;obtain⟨g1,g2,g3,g4⟩:=hG;obtain⟨z0,z1,z2⟩:=box3' (keptO (g1 d7) k0);go_simp;exact hK _ _ trivial ⟨g1,g2,g3,g4⟩ rfl
 case s5=>
  refine StepG.mk rfl (openY 6 fun y6=>openY 7 fun y7=>fun ys D W K hD hcl _ hG hK=>?_);dsimp [updG] at hG|-
  have d6:=hcl.no (j:=6) (i:=5) rfl (by kernel_rfl) hD;have d7:=hcl.no (j:=7) (i:=6) rfl (by kernel_rfl) d6;obtain⟨g1,g2,g3,g4⟩:=hG;obtain⟨p0,p1,p2,p3,p4,p5,p6,p7⟩:=box8' (keptO (g1 d7) kv);go_simp;exact hK _ _ trivial ⟨g1,g2,g3,g4⟩ rfl
 case s6=>
  refine StepG.mk rfl (openY 5 fun y5=>openY 6 fun y6=>openY 7 fun y7=>fun ys D W K hD hcl hd hG hK=>?_);obtain rfl:=(hd.get 5 rfl).2;dsimp [updG] at hG|-
  have d7:=hcl.no (j:=7) (i:=6) rfl (by kernel_rfl) hD;have d10:=hcl.no (j:=10) (i:=7) rfl (by kernel_rfl) d7;obtain⟨g1,g2,g3,g4⟩:=hG;have hb:=g1 d7;have ha:Below W.heap.size W (W.alloc (.cells #[.int .i64 a0,.int .i64 a1,.int .i64 a2,.int .i64 a3,.int .i64 a4,.int .i64 a5,.int .i64 a6,.int .i64 a7] 114)):=(Below.refl _ W).alloc (Nat.le_refl _) _;go_simp;exact hK _ _ trivial ⟨fun _=>btt hb ha,fun _ _=>⟨_,rfl,heap_alloc_new W _⟩,fun h _=>(by rw[show addG D 6 7=D 7 from rfl,d7] at h;cases h),fun h=>(by rw[show addG D 6 10=D 10 from rfl,d10] at h;cases h)⟩ trivial
 case s7=>
  refine StepG.mk rfl (openY 4 fun y4=>openY 6 fun y6=>openY 7 fun y7=>fun ys D W K hD hcl hd hG hK=>?_);obtain rfl:=(hd.get 4 rfl).2;have d6:=(hd.get 6 rfl).1;dsimp [updG] at hG|-
  have d10:=hcl.no (j:=10) (i:=7) rfl (by kernel_rfl) hD;have d6:=(hd.get 6 rfl).1;obtain⟨g1,g2,g3,g4⟩:=hG;have hb:=g1 hD;obtain⟨g,e6,hg⟩:=g2 d6 hD;subst e6;refine wp_appX (B:=B) (cs:=[.int .i64 a0,.int .i64 a1,.int .i64 a2,.int .i64 a3,.int .i64 a4,.int .i64 a5,.int .i64 a6,.int .i64 a7]) (x:=[a0,a1,a2,a3,a4,a5,a6,a7]) elemVw (by decide) (by decide) (EI.stab _) _ _ (by rfl) (by rfl) (ho.keep (EI.stab _) hb) ⟨g,0,none⟩ 1 (by rfl) rfl (World.news_of_block hg) hc8 rfl (by omega) (Nat.le_trans hB hb.size) ?_;intro v9 w9 hO9 hg9 hn9 hb9 hx9;exact hK _ _ trivial ⟨fun h=>(by cases h),fun _ h=>(by cases h),fun _ _=>⟨hO9,(hb.mono hB).trans hb9,(KeepX.below hb).trans hx9,fun k hk hn=>(hg9.block k (Nat.lt_of_lt_of_le hk hb.size) (fun e=>hn e.symm)).trans (hb.block k hk)⟩,fun h=>(by rw[show addG D 7 10=D 10 from rfl,d10] at h;cases h)⟩ trivial
 case s10=>
  refine StepG.mk rfl (openY 9 fun y9=>openY 6 fun y6=>openY 7 fun y7=>fun ys D W K hD _ hd hG hK=>?_);obtain rfl:=(hd.get 9 rfl).2;have d7:=(hd.get 7 rfl).1;dsimp [updG] at hG|-
  have d7:=(hd.get 7 rfl).1;obtain⟨g1,g2,g3,g4⟩:=hG;have hA:=g3 d7 hD;obtain⟨a9,c9,rfl⟩:=hA.1.shape;have kb:=(hA.2.2.1 bb _ _ k0 (by decide)).trans k0;obtain⟨z0,z1,z2⟩:=box3' kb;have fz:=row_free kb;go_simp;exact hK undef _ trivial ⟨fun h=>(by rw[show addG D 10 7=D 7 from rfl,d7] at h;cases h),fun _ h=>(by rw[show addG D 10 7=D 7 from rfl,d7] at h;cases h),fun _ h=>(by cases h),fun _=>⟨W,hA,rfl⟩⟩ trivial
 case g0=>exact⟨fun _=>below_drewN (Below.refl _ w) 1,fun h=>(by cases h),fun h=>(by cases h),fun h=>(by cases h)⟩
 case gx=>exact fun D D' ys W h ⟨g1,g2,g3,g4⟩=>⟨fun q=>g1 ((h 7 (by decide)).trans q),fun q q'=>g2 ((h 6 (by decide)).trans q) ((h 7 (by decide)).trans q'),fun q q'=>g3 ((h 7 (by decide)).trans q) ((h 10 (by decide)).trans q'),fun q=>g4 ((h 10 (by decide)).trans q)⟩
 case fin=>
  intro ys W hG hp;try dsimp only
  rw[(hpE hp 0:ys 0=_),(hpE hp 1:ys 1=_),(hpE hp 2:ys 2=_),(hpE hp 3:ys 3=_),(hpE hp 4:ys 4=_),(hpE hp 5:ys 5=_),(hpE hp 8:ys 8=_),(hpE hp 9:ys 9=_)];exact hfin (ys 6) (ys 7) (ys 10) W hG (hpE hp 6) (hpE hp 7) (hpE hp 10)
end Go.Proofs.YtcnedkkcgdkioaaGreat

/- Texts of this claim, put together: RG J3 SK V1 M1 V3 IS. -/
import Derived.Test.YtmikofeildnpdaaGreatKYc
import Derived.Test.YtmikofeildnpdaaGreatKYq
import Derived.Lib.AppendZeros
import Derived.Test.YtmikofeildnpdaaGreatKYo
import Derived.Test.YtmikofeildnpdaaGreatKYj
import Derived.Test.YtmikofeildnpdaaGreatKYr
import Derived.Test.YtmikofeildnpdaaGreatKYg
import Derived.Test.YtmikofeildnpdaaGreatKYh
import Derived.Test.YtmikofeildnpdaaGreatKYd
import Derived.Deep.LoopGhost
import Derived.Lib.Builder
import Derived.Lib.AppendStr
import Derived.Lib.UnsafeStr
import Derived.Lib.Strings
import Derived.Lib.Slices
import Derived.Lib.Walk
import Derived.Laws.Externs
import Derived.Laws.IdiomCopy
import Derived.OwnWalkIn
import Derived.RangeFuncBox
import Derived.Test.YtmikofeildnpdaaGreatKYu
import Derived.Control

set_option maxRecDepth 100000
set_option maxHeartbeats 12800000
/- Regions that draw their order, one lemma for each operation: what each slot holds, how the worlds grow. -/
namespace Go.Proofs.YtmikofeildnpdaaGreat
open Go.RowKit
def phiG:List (World→Value→Prop)→Nat→World→Value→Prop
 | [],_,_,_=>True
 | p::_,0,W,v=>p W v
 | _::l,i+1,W,v=>phiG l i W v
def StabG (R:World→World→Prop):List (World→Value→Prop)→Prop
 | []=>True
 | p::l=>(∀ W W' v,p W v→R W W'→p W' v)∧StabG R l
theorem StabG.at {R:World→World→Prop}:∀ {l:List (World→Value→Prop)},StabG R l→∀ (i:Nat) (W W':World) (v:Value),phiG l i W v→R W W'→phiG l i W' v
 | [],_,_,_,_,_,_,_=>trivial
 | _::_,h,0,W,W',v,hp,hr=>h.1 W W' v hp hr
 | _::_,h,i+1,W,W',v,hp,hr=>h.2.at i W W' v hp hr
def depsG (o:Oper):List Nat:=(o.after.toList.filter (Region.binds .any)).map (·.on)
def HasG (Φ:List (World→Value→Prop)) (D:Nat→Bool) (W:World) (ys:Nat→Value):List Nat→Prop
 | []=>True
 | j::l=>(D j=true∧phiG Φ j W (ys j))∧HasG Φ D W ys l
theorem HasG.of {Φ:List (World→Value→Prop)} {D:Nat→Bool} {W:World} {ys:Nat→Value}:∀ {l:List Nat},(∀ j∈l,D j=true∧phiG Φ j W (ys j))→HasG Φ D W ys l
 | [],_=>trivial
 | j::l,h=>⟨h j (by simp),HasG.of fun k hk=>h k (by simp [hk])⟩
def ClG (ops:Array Oper) (D:Nat→Bool):Prop:=∀ j o,D j=true→ops[j]? = some o→∀ k∈depsG o,D k=true
theorem ClG.no {ops:Array Oper} {D:Nat→Bool} (h:ClG ops D) {i j:Nat} {o:Oper} (ho:ops[j]? = some o) (hk:(depsG o).elem i=true) (hi:D i=false):D j=false:=by
 cases hj:D j with
 | false=>rfl
 | true=>
  have:=h j o hj ho i (List.mem_of_elem_eq_true hk)
  rw [hi] at this; cases this
def updG (ys:Nat→Value) (i:Nat) (v:Value):Nat→Value:=fun j=>if j=i then v else ys j
def addG (D:Nat→Bool) (i:Nat):Nat→Bool:=fun j=>if j=i then true else D j
def StepG (P:Program) (ops:Array Oper) (F:(Nat→Value)→Act) (Φ:List (World→Value→Prop)) (R:World→World→Prop) (G:(Nat→Bool)→(Nat→Value)→World→Prop) (Q:Exit→Act→World→Prop) (i:Nat) (o:Oper):Prop:=
 ∀ (D:Nat→Bool) (ys:Nat→Value) (W:World) (K:Act→World→Prop),D i=false→ClG ops D→HasG Φ D W ys (depsG o)→G D ys W→
  (∀ v W',R W W'→G (addG D i) (updG ys i v) W'→phiG Φ i W' v→K (F (updG ys i v)) W')→if Region.wanted o (yielded ops (F ys).tmps)=true then Oper.wp P o (F ys) W K Q else K ((F ys).put o.dst undef) W
def StepsG (P:Program) (ops:Array Oper) (F:(Nat→Value)→Act) (Φ:List (World→Value→Prop)) (R:World→World→Prop) (G:(Nat→Bool)→(Nat→Value)→World→Prop) (Q:Exit→Act→World→Prop):List Oper→Nat→Prop
 | [],_=>True
 | o::l,i=>StepG P ops F Φ R G Q i o∧StepsG P ops F Φ R G Q l (i+1)
theorem StepsG.at {P:Program} {ops:Array Oper} {F:(Nat→Value)→Act} {Φ:List (World→Value→Prop)} {R:World→World→Prop} {G:(Nat→Bool)→(Nat→Value)→World→Prop} {Q:Exit→Act→World→Prop}:∀ {l:List Oper} {k:Nat},StepsG P ops F Φ R G Q l k→∀ {i:Nat} {o:Oper},l[i]? = some o→StepG P ops F Φ R G Q (k+i) o
 | [],_,_,_,_,h=>by simp at h
 | p::l,k,hs,0,o,h=>by
  simp only [List.getElem?_cons_zero,Option.some.injEq] at h
  subst h; exact hs.1
 | p::l,k,hs,i+1,o,h=>by
  simp only [List.getElem?_cons_succ] at h
  have:=hs.2.at h
  rwa [show k+(i+1)=k+1+i by omega]
def backG (l:List Oper):Bool:=l.zipIdx.all fun p=>(depsG p.1).all fun j=>decide (j < p.2)
theorem backG_of {l:List Oper} (h:backG l=true) {i:Nat} {o:Oper} (ho:l[i]? = some o):∀ j∈depsG o,j < i:=by
 intro j hj
 have h1:=List.all_eq_true.1 h (o,i) (by rw [List.mem_iff_getElem?]; exact ⟨i,by rw [List.getElem?_zipIdx,ho]; simp⟩)
 exact of_decide_eq_true (List.all_eq_true.1 h1 j hj)
theorem mem_readyG {ops:Array Oper} {listed:Array Bool} {i:Nat}:i∈Region.ready .any ops listed↔listed.getD i true=false∧∃ o,ops[i]? = some o∧∀ j∈depsG o,listed.getD j false=true:=by
 unfold Region.ready
 rw [List.mem_filter,List.mem_range]
 constructor
 ·rintro ⟨h1,h2⟩
  rw [Bool.and_eq_true,Bool.not_eq_true'] at h2
  refine ⟨h2.1,ops[i],by rw [Array.getElem?_eq_getElem h1],fun j hj=>?_⟩
  have h3:=h2.2
  rw [Array.getElem?_eq_getElem h1] at h3
  simp only [Option.map_some,Option.getD_some] at h3
  obtain ⟨e,he,rfl⟩:=List.mem_map.1 hj
  obtain ⟨he1,he2⟩:=List.mem_filter.1 he
  have h4:=Array.all_eq_true'.1 h3 e (by simpa using he1)
  rw [he2] at h4
  rw [Bool.not_true,Bool.false_or] at h4
  exact h4
 ·rintro ⟨h1,o,ho,h2⟩
  have hlt:=(Array.getElem?_eq_some_iff.1 ho).1
  refine ⟨hlt,?_⟩
  rw [Bool.and_eq_true,Bool.not_eq_true']
  refine ⟨h1,?_⟩
  rw [ho]
  simp only [Option.map_some,Option.getD_some]
  refine Array.all_eq_true'.2 fun e he=>?_
  cases hb:Region.binds .any e with
  | false=>rfl
  | true=>exact h2 e.on (List.mem_map.2 ⟨e,List.mem_filter.2 ⟨by simpa using he,hb⟩,rfl⟩)
theorem any_rg {P:Program} {l:List Oper} {F:(Nat→Value)→Act} {Φ:List (World→Value→Prop)} {R:World→World→Prop} {G:(Nat→Bool)→(Nat→Value)→World→Prop} {Q:Exit→Act→World→Prop}
  (hback:backG l=true) (hR:StabG R Φ) (hS:StepsG P l.toArray F Φ R G Q l 0)
  (hend:∀ ys W,G (fun i=>decide (i < l.length)) ys W→(∀ i,i < l.length→phiG Φ i W (ys i))→Q .normal (F ys) W) (hGx:∀ D D' ys W,(∀ i,i < l.length→D i=D' i)→G D ys W→G D' ys W) :
  ∀ (fuel:Nat) (listed:Array Bool) (D:Nat→Bool) (ys:Nat→Value) (W:World),listed.size=l.length→(∀ i,i < l.length→listed.getD i true=D i)→(∀ i,l.length≤i→D i=false)→(∀ i,D i=true→phiG Φ i W (ys i))→G D ys W→ClG l.toArray D→
   ((List.range l.length).filter fun i=>!D i).length=fuel→wpAny P .any l.toArray Q fuel listed (F ys) W:=by
 have all:∀ {D:Nat→Bool},(∀ i,i < l.length→D i=true)→∀ {ys W},(∀ i,D i=true→phiG Φ i W (ys i))→G D ys W→Q .normal (F ys) W:=fun {D} h {ys W} h1 h2=>
  hend ys W (hGx _ _ _ _ (fun i hi=>by rw [h i hi,decide_eq_true hi]) h2) fun i hi=>h1 i (h i hi)
 have none:∀ {listed:Array Bool} {D:Nat→Bool},(∀ i,i < l.length→listed.getD i true=D i)→listed.size=l.length→Region.ready .any l.toArray listed = []→∀ i,i < l.length→D i=true:=by
  intro listed D hl hsz hr i
  induction i using Nat.strongRecOn with
  | _ i ih=>
   intro hi
   cases hD:D i with
   | true=>rfl
   | false=>
    have ho:l[i]? = some l[i]:=List.getElem?_eq_getElem hi
    have:i∈Region.ready .any l.toArray listed:=mem_readyG.2 ⟨(hl i hi).trans hD,l[i],by simp,fun j hj=>by
     have hji:=backG_of hback ho j hj
     have h1:=(hl j (by omega)).trans (ih j hji (by omega))
     rw [Array.getD_eq_getD_getElem?,Array.getElem?_eq_getElem (by omega)] at h1 ⊢
     exact h1⟩
    rw [hr] at this; cases this
 intro fuel
 induction fuel with
 | zero=>
  intro listed D ys W hsz hl hlo hp hG hcl hf
  have hD:∀ i,i < l.length→D i=true:=fun i hi=>by
   have h1:=List.length_eq_zero_iff.1 hf
   cases hD:D i with
   | true=>rfl
   | false=>
    have:i∈((List.range l.length).filter fun i=>!D i):=List.mem_filter.2 ⟨List.mem_range.2 hi,by rw [hD]; rfl⟩
    rw [h1] at this; cases this
  refine ⟨?_,all hD hp hG⟩
  cases hr:Region.ready .any l.toArray listed with
  | nil=>rfl
  | cons i r=>
   obtain ⟨h1,o,ho,_⟩:=mem_readyG.1 (show i∈Region.ready .any l.toArray listed by rw [hr]; simp)
   have hi:i < l.length:=(Array.getElem?_eq_some_iff.1 ho).1
   rw [hl i hi,hD i hi] at h1; cases h1
 | succ fuel ih=>
  intro listed D ys W hsz hl hlo hp hG hcl hf
  refine ⟨fun hr=>all (none hl hsz hr) hp hG,fun i hi=>?_⟩
  obtain ⟨h1,o,ho,h2⟩:=mem_readyG.1 hi
  have hil:i < l.length:=(Array.getElem?_eq_some_iff.1 ho).1
  have ho':l[i]? = some o:=by simpa using ho
  have hDi:D i=false:=(hl i hil).symm.trans h1
  have hst:=hS.at ho'
  rw [Nat.zero_add] at hst
  refine wpOp_step ho fun K hK=>hst D ys W K hDi hcl (HasG.of fun j hj=>?_) hG fun v W' hr hG' hv=>hK _ _ ?_
  ·have hji:=backG_of hback ho' j hj
   have h3:=h2 j hj
   have hDj:D j=true:=by
    rw [← hl j (by omega)]
    rw [Array.getD_eq_getD_getElem?,Array.getElem?_eq_getElem (by omega)] at h3 ⊢
    exact h3
   exact ⟨hDj,hp j hDj⟩
  ·refine ih _ (addG D i) (updG ys i v) W' (by simpa using hsz) (fun j hj=>?_) (fun j hj=>?_) (fun j hj=>?_) hG' (fun j oj hj hoj k hk=>?_) ?_
   ·unfold addG
    rw [Array.getD_eq_getD_getElem?,Array.getElem?_setIfInBounds]
    by_cases e:i=j
    ·subst e
     rw [if_pos rfl,if_pos rfl,if_pos (by omega)]; rfl
    ·rw [if_neg e,if_neg (fun h=>e h.symm),← hl j hj,Array.getD_eq_getD_getElem?]
   ·unfold addG
    rw [if_neg (by omega)]; exact hlo j hj
   ·unfold addG at hj
    unfold updG
    by_cases e:j=i
    ·subst e; rw [if_pos rfl]; exact hv
    ·rw [if_neg e] at hj ⊢
     exact hR.at j W W' _ (hp j hj) hr
   ·unfold addG at hj ⊢
    by_cases ek:k=i
    ·rw [if_pos ek]
    ·rw [if_neg ek]
     by_cases e:j=i
     ·subst e
      rw [ho] at hoj
      injection hoj with hoj
      subst hoj
      have hji:=backG_of hback ho' k hk
      have h3:=h2 k hk
      rw [← hl k (by omega)]
      rw [Array.getD_eq_getD_getElem?,Array.getElem?_eq_getElem (by omega)] at h3 ⊢
      exact h3
     ·rw [if_neg e] at hj
      exact hcl j oj hj hoj k hk
   ·have key:∀ (m:List Nat),m.Nodup→i∈m→(m.filter fun j=>!addG D i j).length+1=(m.filter fun j=>!D j).length:=by
     intro m
     induction m with
     | nil=>intro _ h; cases h
     | cons a m ihm=>
      intro hn hm
      obtain ⟨hn1,hn2⟩:=List.nodup_cons.1 hn
      by_cases e:a=i
      ·subst e
       have h5:∀ j∈m,(!addG D a j) = !D j:=fun j hj=>by
        unfold addG
        rw [if_neg (fun e:j=a=>hn1 (by rw [← e]; exact hj))]
       rw [List.filter_cons,List.filter_cons,List.filter_congr h5]
       have h6:(!addG D a a)=false:=by unfold addG; rw [if_pos rfl]; rfl
       rw [h6,hDi]
       simp
      ·have hm':i∈m:=by
        rcases List.mem_cons.1 hm with h | h
        ·exact absurd h.symm e
        ·exact h
       have h5:(!addG D i a) = !D a:=by unfold addG; rw [if_neg e]
       rw [List.filter_cons,List.filter_cons,h5]
       have:=ihm hn2 hm'
       split
       ·rw [List.length_cons,List.length_cons]; omega
       ·exact this
    have:=key (List.range l.length) List.nodup_range (List.mem_range.2 hil)
    omega
theorem wp_region_rg {P:Program} {id:Nat} {Q:Exit→Act→World→Prop} {w:World} {l:List Oper} (F:(Nat→Value)→Act) (Φ:List (World→Value→Prop)) (R:World→World→Prop) (G:(Nat→Bool)→(Nat→Value)→World→Prop) (ys:Nat→Value) (hm:P.follows .mixedOrders=true)
  (hback:backG l=true) (hR:StabG R Φ) (h0:G (fun _=>false) ys (w.drewN 1)) (hGx:∀ D D' ys W,(∀ i,i < l.length→D i=D' i)→G D ys W→G D' ys W) (hS:StepsG P l.toArray F Φ R G Q l 0)
  (hend:∀ ys W,G (fun i=>decide (i < l.length)) ys W→(∀ i,i < l.length→phiG Φ i W (ys i))→Q .normal (F ys) W) :
  (Code.region id l.toArray true).wp P Q (F ys) w:=by
 refine wp_region_any hm ?_
 refine any_rg hback hR hS hend hGx _ _ (fun _=>false) ys _ (by simp) (fun i hi=>?_) (fun _ _=>rfl) (fun i hi=>by cases hi) h0 (fun j o hj=>by cases hj) ?_
 ·rw [Array.getD_eq_getD_getElem?,List.size_toArray,Array.getElem?_replicate,if_pos hi]; rfl
 ·have h1:((List.range l.length).filter fun _=>!false)=List.range l.length:=List.filter_eq_self.2 (fun _ _=>rfl)
  rw [h1,List.length_range,List.size_toArray]
end Go.Proofs.YtmikofeildnpdaaGreat

/- canonical.distinguish: pairs of states as keys, items of the queue. -/
namespace Go.Proofs.YtmikofeildnpdaaGreat
open Go.RowKit Go.ChangeMaps Go.MapKept Go.WideMaps
def EIt (w:World) (cs:List Value) (x:It):Prop:=∃ u,cs = [.int .i64 (x.1.1:Int),.int .i64 (x.1.2:Int),u]∧OwX 87 7 EI w 0 u x.2.length x.2
theorem EIt.stab {E:TypeId} (h:87 ≠ E):Stab E EIt:=fun _ _ _ _ ⟨u,h1,h2⟩ hx=>⟨u,h1,h2.other (EI.stab _) h hx⟩
end Go.Proofs.YtmikofeildnpdaaGreat

/- Two adversaries: the errors, in the program and in the reference. -/
namespace Go.Proofs.YtmikofeildnpdaaGreat
open Go.RowKit
theorem refBoth20 {w:World} {u v:Value} {m n:Int} {xs ys:List (List (List Int))} (hx:AdvV w u m xs) (hy:AdvV w v n ys) :
  Calls Tryz.prog 139 #[u,v] w fun e w'=>e = .returned (.int .i64 (eqErr m n xs ys))∧Below w.heap.size w w':=by
 obtain ⟨xa,xc,hu⟩:=advShape' hx
 obtain ⟨ya,yc,hv⟩:=advShape' hy
 subst hu hv
 obtain ⟨W1,hW1⟩:=exF ((w.alloc (.cells #[.int .i64 m,.slice xa xs.length xc] 24)).alloc (.cells #[.int .i64 n,.slice ya ys.length yc] 24))
 obtain ⟨hb1,⟨p0,p1⟩,⟨q0,q1⟩,_,_⟩:=boxAdv2 hW1
 have HX:=Lib.hid (refCheckA (hx.keep hb1))
 have HY:=Lib.hid (fun W (hb:Below W1.heap.size W1 W)=>refCheckA ((hy.keep hb1).keep hb))
 have hK:=Lib.hid (fun W (hb:Below W1.heap.size W1 W)=>And.intro (cell_kept hb p0) (And.intro (cell_kept hb p1) (And.intro (cell_kept hb q0) (cell_kept hb q1))))
 obtain ⟨E,hE⟩:=exE (chkA m xs)
 obtain ⟨F,hF⟩:=exE (chkA n ys)
 have hr:eqErr m n xs ys=if E ≠ 0 then E else if F ≠ 0 then F else if m ≠ n then 22 else 0:=by rw [eqErr,hE,hF]
 rw [hE] at HX
 rw [hF] at HY
 rw [hr]
 clear hr hE hF hx hy p0 p1 q0 q1
 by_cases h1:E=0
 ·subst h1
  rw [if_neg (fun h=>h rfl)]
  by_cases h2:F=0
  ·subst h2
   rw [if_neg (fun h=>h rfl)]
   by_cases h3:m=n
   ·subst h3
    rw [if_neg (fun h=>h rfl)]
    have hmm:(m != m)=false:=by simp
    go_enter Tryz.func139, Tryz.ntmps139
    go_wp2_with fail
    rw [← hW1]
    refine HX.out.mono ?_
    rintro e W2 ⟨rfl,hb2⟩
    obtain ⟨_,_,k2,k3⟩:=hK.out W2 hb2
    go_wp2_with fail
    clear k2 k3
    refine (HY.out W2 hb2).mono ?_
    rintro e W3 ⟨rfl,hb3⟩
    have B3:=btt hb2 hb3
    obtain ⟨k0,k1,k2,k3⟩:=hK.out W3 B3
    go_wp2
    go_ret
    exact ⟨rfl,bt hb1 B3 hb1.size⟩
   ·rw [if_pos h3]
    have hmm:(m != n)=true:=by simp [h3]
    go_enter Tryz.func139, Tryz.ntmps139
    go_wp2_with fail
    rw [← hW1]
    refine HX.out.mono ?_
    rintro e W2 ⟨rfl,hb2⟩
    obtain ⟨_,_,k2,k3⟩:=hK.out W2 hb2
    go_wp2_with fail
    clear k2 k3
    refine (HY.out W2 hb2).mono ?_
    rintro e W3 ⟨rfl,hb3⟩
    have B3:=btt hb2 hb3
    obtain ⟨k0,k1,k2,k3⟩:=hK.out W3 B3
    go_wp2
    go_ret
    exact ⟨rfl,bt hb1 B3 hb1.size⟩
  ·rw [if_pos h2]
   have hf:(F != 0)=true:=by simp [h2]
   have hf2:(F == 0)=false:=by simp [h2]
   go_enter Tryz.func139, Tryz.ntmps139
   go_wp2_with fail
   rw [← hW1]
   refine HX.out.mono ?_
   rintro e W2 ⟨rfl,hb2⟩
   obtain ⟨_,_,k2,k3⟩:=hK.out W2 hb2
   go_wp2_with fail
   clear k2 k3
   refine (HY.out W2 hb2).mono ?_
   rintro e W3 ⟨rfl,hb3⟩
   have B3:=btt hb2 hb3
   go_wp2
   go_ret
   exact ⟨rfl,bt hb1 B3 hb1.size⟩
 ·rw [if_pos h1]
  have hf:(E != 0)=true:=by simp [h1]
  have hf2:(E == 0)=false:=by simp [h1]
  go_enter Tryz.func139, Tryz.ntmps139
  go_wp2_with fail
  rw [← hW1]
  refine HX.out.mono ?_
  rintro e W2 ⟨rfl,hb2⟩
  go_wp2
  go_ret
  exact ⟨rfl,bt hb1 hb2 hb1.size⟩
theorem bothC {w:World} {u v:Value} {m n:Int} {xs ys:List (List (List Int))} (hx:AdvV w u m xs) (hy:AdvV w v n ys) (hmx:movesN xs≤1000000000) (hmy:movesN ys≤1000000000) :
  Calls Tryz.prog 85 #[u,v] w fun e w'=>e = .returned (.int .i64 (eqErr m n xs ys))∧Below w.heap.size w w':=by
 obtain ⟨xa,xc,hu⟩:=advShape' hx
 obtain ⟨ya,yc,hv⟩:=advShape' hy
 subst hu hv
 obtain ⟨W1,hW1⟩:=exF ((w.alloc (.cells #[.int .i64 m,.slice xa xs.length xc] 24)).alloc (.cells #[.int .i64 n,.slice ya ys.length yc] 24))
 obtain ⟨hb1,⟨p0,p1⟩,⟨q0,q1⟩,_,_⟩:=boxAdv2 hW1
 have HX:=Lib.hid (checkA (hx.keep hb1) hmx)
 have HY:=Lib.hid (fun W (hb:Below W1.heap.size W1 W)=>checkA ((hy.keep hb1).keep hb) hmy)
 have hK:=Lib.hid (fun W (hb:Below W1.heap.size W1 W)=>And.intro (cell_kept hb p0) (And.intro (cell_kept hb p1) (And.intro (cell_kept hb q0) (cell_kept hb q1))))
 obtain ⟨E,hE⟩:=exE (chkA m xs)
 obtain ⟨F,hF⟩:=exE (chkA n ys)
 have hr:eqErr m n xs ys=if E ≠ 0 then E else if F ≠ 0 then F else if m ≠ n then 22 else 0:=by rw [eqErr,hE,hF]
 rw [hE] at HX
 rw [hF] at HY
 rw [hr]
 clear hr hE hF hx hy p0 p1 q0 q1
 by_cases h1:E=0
 ·subst h1
  rw [if_neg (fun h=>h rfl)]
  by_cases h2:F=0
  ·subst h2
   rw [if_neg (fun h=>h rfl)]
   by_cases h3:m=n
   ·subst h3
    rw [if_neg (fun h=>h rfl)]
    have hmm:(m != m)=false:=by simp
    go_enter Tryz.func85, Tryz.ntmps85
    go_wp2_with fail
    rw [← hW1]
    refine HX.out.mono ?_
    rintro e W2 ⟨rfl,hb2⟩
    obtain ⟨_,_,k2,k3⟩:=hK.out W2 hb2
    go_wp2_with fail
    clear k2 k3
    refine (HY.out W2 hb2).mono ?_
    rintro e W3 ⟨rfl,hb3⟩
    have B3:=btt hb2 hb3
    obtain ⟨k0,k1,k2,k3⟩:=hK.out W3 B3
    go_wp2
    go_ret
    exact ⟨rfl,bt hb1 B3 hb1.size⟩
   ·rw [if_pos h3]
    have hmm:(m != n)=true:=by simp [h3]
    go_enter Tryz.func85, Tryz.ntmps85
    go_wp2_with fail
    rw [← hW1]
    refine HX.out.mono ?_
    rintro e W2 ⟨rfl,hb2⟩
    obtain ⟨_,_,k2,k3⟩:=hK.out W2 hb2
    go_wp2_with fail
    clear k2 k3
    refine (HY.out W2 hb2).mono ?_
    rintro e W3 ⟨rfl,hb3⟩
    have B3:=btt hb2 hb3
    obtain ⟨k0,k1,k2,k3⟩:=hK.out W3 B3
    go_wp2
    go_ret
    exact ⟨rfl,bt hb1 B3 hb1.size⟩
  ·rw [if_pos h2]
   have hf:(F != 0)=true:=by simp [h2]
   have hf2:(F == 0)=false:=by simp [h2]
   go_enter Tryz.func85, Tryz.ntmps85
   go_wp2_with fail
   rw [← hW1]
   refine HX.out.mono ?_
   rintro e W2 ⟨rfl,hb2⟩
   obtain ⟨_,_,k2,k3⟩:=hK.out W2 hb2
   go_wp2_with fail
   clear k2 k3
   refine (HY.out W2 hb2).mono ?_
   rintro e W3 ⟨rfl,hb3⟩
   have B3:=btt hb2 hb3
   go_wp2
   go_ret
   exact ⟨rfl,bt hb1 B3 hb1.size⟩
 ·rw [if_pos h1]
  have hf:(E != 0)=true:=by simp [h1]
  have hf2:(E == 0)=false:=by simp [h1]
  go_enter Tryz.func85, Tryz.ntmps85
  go_wp2_with fail
  rw [← hW1]
  refine HX.out.mono ?_
  rintro e W2 ⟨rfl,hb2⟩
  go_wp2
  go_ret
  exact ⟨rfl,bt hb1 hb2 hb1.size⟩
end Go.Proofs.YtmikofeildnpdaaGreat

/- FewWords and good. -/
namespace Go.Proofs.YtmikofeildnpdaaGreat
open Go.RowKit
theorem few_le {ss:List (List (List Int))} (h:fewA ss=true):ss.length≤8∧movesN ss≤40:=by simp [fewA] at h; omega
end Go.Proofs.YtmikofeildnpdaaGreat

/- canonical.Prove: the words of the search, and its second function. -/
namespace Go.Proofs.YtmikofeildnpdaaGreat
open Go.RowKit Go.ChangeMaps Go.MapKept
theorem OwX.same {E:TypeId} {k:Nat} {w w':World} {B n:Nat} {v:Value} {xs:List (List Int)} (h:OwX E k EI w B v n xs) (hk:∀ g,v.ownBlock=some g→w'.heap[g]? = w.heap[g]?):OwX E k EI w' B v n xs:=by
 obtain ⟨vs,h1,h2,h3,h4⟩:=h
 refine ⟨vs,⟨h1.1,?_⟩,h2,h3,h4⟩
 rcases h1.2 with h' | ⟨g,cap,cur,k1,k2,k3,k4⟩
 ·exact .inl h'
 ·exact .inr ⟨g,cap,cur,k1,k2,(hk g (by rw [k1]; rfl)).trans k3,k4⟩
end Go.Proofs.YtmikofeildnpdaaGreat

/- The numbers of words: the program's number. -/
namespace Go.Proofs.YtmikofeildnpdaaGreat
open Go.RowKit
attribute [local go_sem] Oper.semAt_some
def colD (r:Nat):Deferred:={ target:=.collected r,args:=#[] }
end Go.Proofs.YtmikofeildnpdaaGreat

/- Ranging over a function that keeps a state of its own, with the loop variable in a box of each round. -/
namespace Go.Proofs.YtmikofeildnpdaaGreat
open Go.RowKit
def SeqOS {α:Type} (P:Program) (g:Nat) (lb:Array Value) (enc:α→Array Value) (R:List α→α→World→Prop) (S Sp:List α→Prop) (N:Nat) (C Wr:Nat→Prop) (w0:World):Prop:=
 ∀ (l:Nat) (J Jx:List α→(Nat→Prop)→World→Prop) (D:Nat→Prop) (W:World),Below w0.heap.size w0 W→Bd D W→(∀ k,D k→¬ C k∧¬ Wr k)→Stable J→Stable Jx→
  (∀ pre x D1 W1,J pre D1 W1→Bd D1 W1→Only (fun k=>D k∨Wr k) W W1→Gr D W D1→R pre x W1→pre.length < N→YieldAt Fence.wide 0 P l (enc x) W1 fun e W'=>
   ∃ D',Only D1 W1 W'∧Gr D1 W1 D'∧Bd D' W'∧((e = .returned (.bool true)∧J (pre ++ [x]) D' W')∨(e = .returned (.bool false)∧Jx (pre ++ [x]) D' W')))→
  J [] D W→
  CallsIn Fence.wide 0 P g (#[.func (.yield l) #[] #[]]++lb) W fun e W'=>(∃ v,e = .returned v)∧
   ∃ D',Only (fun k=>D k∨Wr k) W W'∧Gr D W D'∧Bd D' W'∧((∃ xs,S xs∧J xs D' W')∨(∃ pre,Sp pre∧Jx pre D' W'))
theorem Gr.or {D D' Wr:Nat→Prop} {W:World} (h:Gr D W D'):Gr (fun k=>D k∨Wr k) W (fun k=>D' k∨Wr k):=fun k hk=>by
 rcases hk with hk | hk
 ·rcases h k hk with h' | h'
  ·exact .inl (.inl h')
  ·exact .inr h'
 ·exact .inl (.inr hk)
theorem Only.or {D Wr:Nat→Prop} {A B:World} (h:Only D A B):Only (fun k=>D k∨Wr k) A B:=h.mono fun _ hk=>.inl hk
theorem wpIn_rfS {P:Program} {α:Type} {g:Operand} {ps:Array Tmp} {assign body:Code} {Q:Exit→Act→World→Prop} {a:Act} {w:World}
  {gf:Nat} {lb:Array Value} (hg:a.eval g = .func (.func gf) #[] lb) (eg:∀ args w,(callFunc gf args).run P w = .ok (.enter gf args) w)
  {enc:α→Array Value} {R:List α→α→World→Prop} {S Sp:List α→Prop} {N:Nat} {C Wr:Nat→Prop} {w0:World} (hseq:SeqOS P gf lb enc R S Sp N C Wr w0)
  (hb0:Below w0.heap.size w0 w) (hps:∀ x,(enc x).size=ps.size) (hR:∀ pre x W k r o,R pre x W→W.heap[k]? = some (.loop r)→R pre x (W.putObj k o)) (hRa:∀ pre x W o,R pre x W→R pre x (W.alloc o))
  (I:List α→(Nat→Prop)→World→Prop) (Ix:Code→List α→(Nat→Prop)→World→Prop) (hI:Stable I) (hIx:∀ c,Stable (Ix c))
  (D0:Nat→Prop) (hD0:Bd D0 w) (hC:∀ k,D0 k→¬ C k∧¬ Wr k) (hC':Bd C w) (hWr:Bd Wr w) (h0:I [] D0 w) (cs:α→Array Value) (tB:TypeId) (fx:α→Nat→Array Value→Array Value)
  (hassign:∀ (l:Nat) (pre:List α) (x:α) (W:World) (K:Act→World→Prop),R pre x W→K { tmps:=fx x W.heap.size a.tmps,defers:=[] } (W.alloc (.cells (cs x) tB))→
   assign.wpIn (Fence.wide.inRound l) 0 P (Exit.then K (fun _ _ _=>False)) { tmps:=(ps.zip (enc x)).foldl (fun t (p,v)=>t.setIfInBounds p v) a.tmps,defers:=[] } W)
  (hbody:∀ (l:Nat) (pre:List α) (x:α) (D:Nat→Prop) (W:World) (b:Nat),I pre D W→Bd D W→Only (fun k=>D0 k∨Wr k) w W→Gr D0 w D→R pre x W→pre.length < N→W.heap[b]? = some (.cells (cs x) tB)→¬ D b→w.heap.size≤b→body.wpIn (Fence.wide.inRound l) 0 P (bodyQ I Ix (pre ++ [x]) D W) { tmps:=fx x b a.tmps,defers:=[] } W)
  (hdone:∀ (d:Nat) (xs:List α) (D:Nat→Prop) (W:World),S xs→I xs D W→Only (fun k=>D0 k∨Wr k) w W→Gr D0 w D→w.heap.size≤d→¬ D d→W.heap[d]? = some (.deferred (some []))→Q .normal { a with defers:={ target:=.collected d,args:=#[] }::a.defers } W)
  (hstop:∀ (d:Nat) (c:Code) (pre:List α) (D:Nat→Prop) (W:World),Sp pre→Ix c pre D W→Only (fun k=>D0 k∨Wr k) w W→Gr D0 w D→w.heap.size≤d→¬ D d→W.heap[d]? = some (.deferred (some []))→c.wpIn Fence.wide 0 P Q { a with defers:={ target:=.collected d,args:=#[] }::a.defers } W) :
  (Code.rangeFunc g ps assign body).wpIn Fence.wide 0 P Q a w:=by
 refine wpIn_rangeFunc fun fn _=>?_
 obtain ⟨d,hd⟩:=exF (w.heap.size)
 obtain ⟨l,hl⟩:=exF (w.heap.size+1)
 obtain ⟨rec,hrec⟩:∃ rec:LoopState→Option Code→Loop,rec=fun st pe=>{ state:=st,pending:=pe,fn:=fn,tmps:=a.tmps,params:=ps,assign:=assign,body:=body,defers:=d }:=⟨_,rfl⟩
 obtain ⟨W1,hW1⟩:=exE ((w.alloc (.deferred (some []))).alloc (.loop (rec .ready none)))
 have hs1:W1.heap.size=w.heap.size+2:=by rw [← hW1]; simp
 have hold:∀ k,k < w.heap.size→W1.heap[k]? = w.heap[k]?:=fun k hk=>by
  rw [← hW1]; exact (Below.heap_alloc _ _ _ (by simp; omega)).trans (Below.heap_alloc _ _ _ hk)
 have hl1:W1.heap[l]? = some (.loop (rec .ready none)):=by
  rw [← hW1,hl]; have:=World.alloc_heap_new (w.alloc (.deferred (some []))) (.loop (rec .ready none)); rwa [World.size_alloc] at this
 have hd1:W1.heap[d]? = some (.deferred (some [])):=by
  rw [← hW1,hd]; exact (Below.heap_alloc _ _ _ (by simp)).trans (World.alloc_heap_new w _)
 have hbW:Below w.heap.size w W1:=by rw [← hW1]; exact ((Below.refl _ _).alloc (Nat.le_refl _) _).alloc (by simp) _
 have hDl : ¬ D0 l:=fun h=>by have:=hD0 l h; omega
 have hDd : ¬ D0 d:=fun h=>by have:=hD0 d h; omega
 -- what the caller's data and the two blocks of the statement's own are
 let J:List α→(Nat→Prop)→World→Prop:=fun pre D W=>∃ E,I pre E W∧Bd E W∧Gr D0 w E∧¬ E l∧¬ E d∧(∀ k,D k↔E k∨k=l∨k=d)∧
  W.heap[l]? = some (.loop (rec .ready none))∧W.heap[d]? = some (.deferred (some []))
 let Jx:List α→(Nat→Prop)→World→Prop:=fun pre D W=>∃ c E,Ix c pre E W∧Bd E W∧Gr D0 w E∧¬ E l∧¬ E d∧(∀ k,D k↔E k∨k=l∨k=d)∧
  W.heap[l]? = some (.loop (rec .done (some c)))∧W.heap[d]? = some (.deferred (some []))
 have hJ:Stable J:=by
  rintro pre D W W' ⟨E,h1,h2,h3,h4,h5,h6,h7,h8⟩ hs hk
  refine ⟨E,hI pre E W W' h1 hs (fun k hkE=>hk k ((h6 k).2 (.inl hkE))),fun k hkE=>Nat.lt_of_lt_of_le (h2 k hkE) hs,h3,h4,h5,h6,(hk l ((h6 l).2 (.inr (.inl rfl)))).trans h7,(hk d ((h6 d).2 (.inr (.inr rfl)))).trans h8⟩
 have hJx:Stable Jx:=by
  rintro pre D W W' ⟨c,E,h1,h2,h3,h4,h5,h6,h7,h8⟩ hs hk
  refine ⟨c,E,hIx c pre E W W' h1 hs (fun k hkE=>hk k ((h6 k).2 (.inl hkE))),fun k hkE=>Nat.lt_of_lt_of_le (h2 k hkE) hs,h3,h4,h5,h6,(hk l ((h6 l).2 (.inr (.inl rfl)))).trans h7,(hk d ((h6 d).2 (.inr (.inr rfl)))).trans h8⟩
 let D1:Nat→Prop:=fun k=>D0 k∨k=l∨k=d
 have hD1:Bd D1 W1:=fun k hk=>by
  rcases hk with h | rfl | rfl
  ·have:=hD0 k h; omega
  ·omega
  ·omega
 have hwW:∀ {W:World},Only (fun k=>D1 k∨Wr k) W1 W→Only (fun k=>D0 k∨Wr k) w W:=fun {W} h=>
  ⟨h.os.trans hbW.os,h.tape.trans hbW.tape,h.output.trans hbW.output,Nat.le_trans hbW.size h.size,fun k hk hn=>
   (h.same k (by omega) (fun hh=>by rcases hh with (hh | rfl | rfl) | hh; exact hn (.inl hh); omega; omega; exact hn (.inr hh))).trans (hold k hk)⟩
 refine ⟨l,[{ target:=.collected d,args:=#[] }],W1,{ target:=.fn (.func gf) lb,args:=#[.func (.yield l) #[] #[]] },W1,gf,#[.func (.yield l) #[] #[]]++lb,W1,?_,?_,?_,?_,?_,?_⟩
 ·rw [← hW1,hrec,hl,hd]; exact run_enterLoop_outer _ _ _ _ _
 ·simp only [resolve,hg]
  simp [go_sem]
 ·intro f' hf'; trivial
 ·simp [invoke,go_sem,eg]
 ·intro h; simp [Fence.wide] at h
 refine (hseq l J Jx D1 W1 (hb0.trans (hbW.mono hb0.size)) hD1 ?_ hJ hJx ?_ ?_).mono ?_
 ·intro k hk
  rcases hk with h | rfl | rfl
  ·exact hC k h
  ·exact ⟨fun hkC=>by have:=hC' _ hkC; omega,fun hkC=>by have:=hWr _ hkC; omega⟩
  ·exact ⟨fun hkC=>by have:=hC' _ hkC; omega,fun hkC=>by have:=hWr _ hkC; omega⟩
 ·-- a round
  rintro pre x D W ⟨E,h1,h2,h3,h4,h5,h6,h7,h8⟩ hBd hOn hGr hRx hlen
  have hlW:l < W.heap.size:=(Array.getElem?_eq_some_iff.1 h7).1
  have hy:=run_yield (P:=P) (args:=enc x) h7 (by rw [hrec]; exact hps x)
  rw [hrec] at hy
  refine ⟨fn,_,assign,body,hy,roundIn_of_wpIn trivial (hassign l pre x W _ hRx ⟨_,run_beginRound ((Below.heap_alloc _ _ _ hlW).trans h7) (by rw [hrec]),?_⟩)⟩
  have h7a:(W.alloc (.cells (cs x) tB)).heap[l]? = some (.loop (rec .ready none)):=(Below.heap_alloc _ _ _ hlW).trans h7
  obtain ⟨W2,hW2⟩:∃ W2,W2=(W.alloc (.cells (cs x) tB)).putObj l (.loop { rec .ready none with state:=.busy }):=⟨_,rfl⟩
  have g7:W2.heap[l]? = some (.loop { rec .ready none with state:=.busy }):=by rw [hW2]; exact World.putObj_heap_same (by simp; omega)
  have gO:∀ k,k < W.heap.size→k ≠ l→W2.heap[k]? = W.heap[k]?:=fun k hks hk=>by rw [hW2]; exact (World.putObj_heap_other hk).trans (Below.heap_alloc _ _ _ hks)
  have gS:W2.heap.size=W.heap.size+1:=by rw [hW2]; simp
  have gB:W2.heap[W.heap.size]? = some (.cells (cs x) tB):=by rw [hW2]; exact (World.putObj_heap_other (by omega)).trans (heap_alloc_new _ _)
  have e0:Only D W W2:=by rw [hW2]; exact ((Only.refl D W).thenBelow ((Below.refl _ _).alloc (Nat.le_refl _) _)).trans (Only.putObj (D:=D) ((h6 l).2 (.inr (.inl rfl))) _) (Gr.refl _ _)
  have g8:W2.heap[d]? = some (.deferred (some [])):=(gO d (by omega) (by omega)).trans h8
  have gI:I pre E W2:=hI pre E W W2 h1 (by omega) (fun k hk=>gO k (h2 k hk) (fun e=>h4 (e ▸ hk)))
  have gOn:Only (fun k=>D1 k∨Wr k) W1 W2:=hOn.trans e0.or hGr.or
  have gR:R pre x W2:=by rw [hW2]; exact hR pre x _ l _ _ (hRa _ _ _ _ hRx) h7a
  rw [← hW2]
  refine wpIn_mono (hbody l pre x E W2 W.heap.size gI (fun k hk=>by rw [gS]; have:=h2 k hk; omega) (hwW gOn) h3 gR hlen gB (fun h=>by have:=h2 _ h; omega) (by have:=hOn.size; omega)) ?_
  -- what stands when the body has ended
  have fin:∀ (jump:Option Code) (W3:World) (E':Nat→Prop),Only E W2 W3→Gr E W2 E'→Bd E' W3→
    (Instr.endRound l jump).run P W3 = .ok (.bool jump.isNone) (W3.putObj l (.loop (rec (if jump.isNone then .ready else .done) jump)))∧
    Only D W (W3.putObj l (.loop (rec (if jump.isNone then .ready else .done) jump)))∧Gr D W (fun k=>E' k∨k=l∨k=d)∧
    Bd (fun k=>E' k∨k=l∨k=d) (W3.putObj l (.loop (rec (if jump.isNone then .ready else .done) jump)))∧¬ E' l∧¬ E' d∧Gr D0 w E'∧
    (W3.putObj l (.loop (rec (if jump.isNone then .ready else .done) jump))).heap[l]? = some (.loop (rec (if jump.isNone then .ready else .done) jump))∧
    (W3.putObj l (.loop (rec (if jump.isNone then .ready else .done) jump))).heap[d]? = some (.deferred (some []))∧
    (∀ k,E' k→(W3.putObj l (.loop (rec (if jump.isNone then .ready else .done) jump))).heap[k]? = W3.heap[k]?):=by
   intro jump W3 E' k1 k2 k3
   have hdW:d < W2.heap.size:=by omega
   have hl3:=(k1.same l (by omega) h4).trans g7
   have hl3':l < W3.heap.size:=(Array.getElem?_eq_some_iff.1 hl3).1
   have nl : ¬ E' l:=fun h=>by rcases k2 l h with h' | h'; exact h4 h'; omega
   have nd : ¬ E' d:=fun h=>by rcases k2 d h with h' | h'; exact h5 h'; omega
   have hend:=run_endRound (P:=P) jump hl3
   refine ⟨by rw [hrec] at hend ⊢; exact hend,?_,?_,?_,nl,nd,?_,World.putObj_heap_same hl3',(World.putObj_heap_other (by omega)).trans ((k1.same d hdW h5).trans g8),fun k hk=>World.putObj_heap_other (fun e=>nl (e ▸ hk))⟩
   ·have e1:Only D W W2:=e0
    have e2:Only D W2 W3:=k1.mono fun k hk=>(h6 k).2 (.inl hk)
    exact (e1.trans e2 (Gr.refl _ _)).trans (Only.putObj (D:=D) ((h6 l).2 (.inr (.inl rfl))) _) (Gr.refl _ _)
   ·intro k hk
    rcases hk with h | rfl | rfl
    ·rcases k2 k h with h' | h'
     ·exact .inl ((h6 k).2 (.inl h'))
     ·exact .inr (by omega)
    ·exact .inl ((h6 k).2 (.inr (.inl rfl)))
    ·exact .inl ((h6 k).2 (.inr (.inr rfl)))
   ·intro k hk
    rw [World.putObj_size]
    rcases hk with h | rfl | rfl
    ·exact k3 k h
    ·omega
    ·have:=k1.size; omega
   ·intro k hk
    rcases k2 k hk with h' | h'
    ·exact h3 k h'
    ·right; have:=hOn.size; omega
  rintro e a3 W3 hp
  cases e with
  | normal=>
   obtain ⟨E',k1,k2,k3,k4⟩:=hp
   obtain ⟨f1,f2,f3,f4,f5,f6,f7,f8,f9,f10⟩:=fin none W3 E' k1 k2 k3
   exact ⟨_,_,f1,_,f2,f3,f4,.inl ⟨rfl,E',hI _ E' W3 _ k4 (by rw [World.putObj_size]; exact Nat.le_refl _) f10,fun k hk=>f4 k (.inl hk),f7,f5,f6,fun _=>Iff.rfl,f8,f9⟩⟩
  | ret=>
   obtain ⟨E',k1,k2,k3,k4⟩:=hp
   obtain ⟨f1,f2,f3,f4,f5,f6,f7,f8,f9,f10⟩:=fin (some .ret) W3 E' k1 k2 k3
   exact ⟨_,_,f1,_,f2,f3,f4,.inr ⟨rfl,_,E',hIx _ _ E' W3 _ k4 (by rw [World.putObj_size]; exact Nat.le_refl _) f10,fun k hk=>f4 k (.inl hk),f7,f5,f6,fun _=>Iff.rfl,f8,f9⟩⟩
  | exit id=>
   obtain ⟨E',k1,k2,k3,k4⟩:=hp
   obtain ⟨f1,f2,f3,f4,f5,f6,f7,f8,f9,f10⟩:=fin (some (.exit id)) W3 E' k1 k2 k3
   exact ⟨_,_,f1,_,f2,f3,f4,.inr ⟨rfl,_,E',hIx _ _ E' W3 _ k4 (by rw [World.putObj_size]; exact Nat.le_refl _) f10,fun k hk=>f4 k (.inl hk),f7,f5,f6,fun _=>Iff.rfl,f8,f9⟩⟩
  | goto t=>
   obtain ⟨E',k1,k2,k3,k4⟩:=hp
   obtain ⟨f1,f2,f3,f4,f5,f6,f7,f8,f9,f10⟩:=fin (some (.goto t)) W3 E' k1 k2 k3
   exact ⟨_,_,f1,_,f2,f3,f4,.inr ⟨rfl,_,E',hIx _ _ E' W3 _ k4 (by rw [World.putObj_size]; exact Nat.le_refl _) f10,fun k hk=>f4 k (.inl hk),f7,f5,f6,fun _=>Iff.rfl,f8,f9⟩⟩
  | panic ch=>exact hp.elim
  | outgrown=>exact hp.elim
 ·refine ⟨D0,hI [] D0 w W1 h0 hbW.size (fun k hk=>hold k (hD0 k hk)),fun k hk=>by have:=hD0 k hk; omega,Gr.refl _ _,hDl,hDd,fun _=>Iff.rfl,hl1,hd1⟩
 ·-- behind the iterator
  rintro e W2 ⟨⟨v,rfl⟩,D,hOn,hGr,hBd,(⟨xs,hS,E,h1,h2,h3,h4,h5,h6,h7,h8⟩ | ⟨pre,hSp,c,E,h1,h2,h3,h4,h5,h6,h7,h8⟩)⟩
  ·have hend:=run_endLoop (P:=P) h7 (by rw [hrec]; simp)
   rw [hrec] at hend
   refine ⟨none,_,hend,hdone d xs E _ hS (hI _ E W2 _ h1 (by simp) fun k hk=>World.putObj_heap_other (fun e=>h4 (e ▸ hk))) ?_ h3 (by omega) h5 ((World.putObj_heap_other (by omega)).trans h8)⟩
   exact hwW (hOn.trans (Only.putObj (D:=D) ((h6 l).2 (.inr (.inl rfl))) _).or hGr.or)
  ·have hend:=run_endLoop (P:=P) h7 (by rw [hrec]; simp)
   rw [hrec] at hend
   refine ⟨some c,_,hend,hstop d c pre E _ hSp (hIx c _ E W2 _ h1 (by simp) fun k hk=>World.putObj_heap_other (fun e=>h4 (e ▸ hk))) ?_ h3 (by omega) h5 ((World.putObj_heap_other (by omega)).trans h8)⟩
   exact hwW (hOn.trans (Only.putObj (D:=D) ((h6 l).2 (.inr (.inl rfl))) _).or hGr.or)
end Go.Proofs.YtmikofeildnpdaaGreat

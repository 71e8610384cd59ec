/- Texts of this claim, put together: C0 Rd C2 A1 A2. -/
import Derived.Test.YtmikofeildnpdaaGreatKYc
import Derived.Lib.Builder
import Derived.Lib.AppendStr
import Derived.Lib.UnsafeStr
import Derived.Lib.Strings
import Derived.Lib.Slices
import Derived.Lib.Walk
import Derived.Laws.Externs
import Derived.Laws.IdiomCopy
import Derived.Shelf.Strings.Builder1
import Derived.StillTailTactics
import Derived.OrdersIn
import Derived.Deep.QuietTactic
import Derived.BigQuiet

set_option maxRecDepth 100000
set_option maxHeartbeats 12800000
/- What the classes of states are: plain lists. -/
namespace Go.Proofs.YtmikofeildnpdaaGreat
open Go.RowKit Go.ChangeMaps Go.MapKept Go.WideMaps
def mvTo (m:List Int):Nat:=(m.getD 7 0).toNat
def rdOf (m:List Int):List Int:=m.take 7
section
variable {κ:Type} [DecidableEq κ] {P:Program} {K E M:TypeId} {kv:κ→Value} {S:κ→Prop} {seen:List κ} {x:κ} {w:World} {b:Nat}
end
end Go.Proofs.YtmikofeildnpdaaGreat

/- A region that draws its order, within a round of a loop over a function: what is shown outside of rounds holds there, too. -/
namespace Go.Proofs.YtmikofeildnpdaaGreat
open Go.RowKit
theorem opIn_of_op {P:Program} {l0:Nat} {o:Oper} {a:Act} {w:World} {K:Act→World→Prop} {Q:Exit→Act→World→Prop} (hd:∀ c,o.op ≠ .defer c) (h:o.wp P a w K Q) :
  o.wpIn (Fence.wide.inRound l0) 0 P a w K Q:=by
 refine ⟨fun _ _=>trivial,?_⟩
 unfold Oper.wp at h
 rw [Oper.semAt_eq _ _ _ hd]
 generalize (execOp a.eval o).run P w=r at h ⊢
 have hdep:(Fence.wide.inRound l0).depth.isSome=true→1≤0:=fun h=>by simp [Fence.wide] at h
 cases r with
 | halt x w'=>cases x <;> first | exact h | exact h.elim
 | ok nx w'=>
  cases nx with
  | enter f args=>exact ⟨hdep,CallsIn.inRound l0 (callsIn_wide.2 h)⟩
  | row r args=>exact ⟨hdep,fun c cs _=>by
    obtain ⟨v,w2,hr,hs⟩:=h c cs
    exact ⟨v,w2,hr,stepsIn_wide.2 hs⟩⟩
  | _=>first | exact h | exact h.elim
theorem anyIn_of_any {P:Program} {l0:Nat} {md:Region.Mode} {ops:Array Oper} {Q:Exit→Act→World→Prop} (hnd:∀ (i:Nat) o,ops[i]? = some o→∀ c,o.op ≠ .defer c) (hQ : ¬ LetsOut Q) :
  ∀ (fuel:Nat) (listed:Array Bool) (a:Act) (w:World),wpAny P md ops Q fuel listed a w→wpAnyIn (Fence.wide.inRound l0) 0 P md ops Q fuel listed a w
 | 0,_,_,_,h=>h
 | fuel+1,listed,a,w,h=>by
  refine ⟨h.1,fun i hi=>?_⟩
  have h1:=h.2 i hi
  unfold wpOp at h1
  unfold wpOpIn
  cases ho:ops[i]? with
  | none=>rw [ho] at h1; exact anyIn_of_any hnd hQ fuel _ _ _ h1
  | some o=>
   rw [ho] at h1
   simp only at h1 ⊢
   by_cases hw:Region.wanted o (yielded ops a.tmps)=true
   ·rw [if_pos hw] at h1 ⊢
    refine opIn_of_op (hnd i o ho) ?_
    exact Oper.wp_mono (fun a w hh=>anyIn_of_any hnd hQ fuel _ a w hh) (h1.resolve_right (fun hh=>hQ hh.2))
   ·rw [if_neg hw] at h1 ⊢
    exact ⟨fun _ _=>trivial,anyIn_of_any hnd hQ fuel _ _ _ h1⟩
def noDefer (l:List Oper):Bool:=l.all fun o=>match o.op with | .defer _=>false | _=>true
theorem noDefer_get {l:List Oper} (h:noDefer l=true):∀ (i:Nat) o,l.toArray[i]? = some o→∀ c,o.op ≠ .defer c:=by
 intro i o ho c hc
 have hm:o∈l:=by rw [List.getElem?_toArray] at ho; exact List.mem_of_getElem? ho
 have:=List.all_eq_true.1 h o hm
 rw [hc] at this
 cases this
def mask (o:Oper):Oper:={ dst:=none,op:=.move (.const undef),type:=o.type,pos:=o.pos,after:=o.after,guard:=none }
def maskLast (n:Nat) (l:List Oper):List Oper:=l.take n++(l.drop n).map mask
def qtB (n:Nat) (l:List Oper):Bool:=
 decide (l.length=n+1) && Region.sinkB .any l.toArray n && (List.range l.length).all (fun i=>match l[i]? with | some o=>o.after.all fun e=>decide (e.on < i) | none=>true) &&
 Region.lexB .any (maskLast n l).toArray && ((l.drop n).all fun o=>o.guard.isNone)
theorem maskLast_get {n:Nat} {l:List Oper} (i:Nat):(maskLast n l)[i]? = if i < n then l[i]? else (l[i]?).map mask:=by
 unfold maskLast
 by_cases h:i < (l.take n).length
 ·rw [List.getElem?_append_left h]
  have:i < n:=by rw [List.length_take] at h; omega
  rw [if_pos this,List.getElem?_take,if_pos this]
 ·rw [List.getElem?_append_right (by omega),List.getElem?_map,List.getElem?_drop]
  rw [List.length_take] at h ⊢
  by_cases hi:i < n
  ·rw [if_pos hi]
   have:l.length≤i:=by omega
   rw [List.getElem?_eq_none (by omega:l.length≤n+(i - min n l.length)),List.getElem?_eq_none this]; rfl
  ·rw [if_neg hi]
   by_cases hn:n≤l.length
   ·rw [show n+(i - min n l.length)=i by omega]
   ·rw [List.getElem?_eq_none (by omega:l.length≤n+(i - min n l.length)),List.getElem?_eq_none (by omega:l.length≤i)]
theorem maskLast_length (n:Nat) (l:List Oper):(maskLast n l).length=l.length:=by simp [maskLast]; omega
theorem ready_mask (md:Region.Mode) (n:Nat) (l:List Oper) (listed:Array Bool):Region.ready md (maskLast n l).toArray listed=Region.ready md l.toArray listed:=by
 unfold Region.ready
 simp only [List.size_toArray,maskLast_length,List.getElem?_toArray,maskLast_get]
 congr 1
 funext i
 by_cases h:i < n
 ·rw [if_pos h]
 ·rw [if_neg h]
  cases l[i]? <;> rfl
theorem wpQuiet_append {P:Program} {ops:Array Oper} {C:World→Prop} {Q:Act→Prop}:∀ {l1 l2:List Oper} {a:Act},wpQuiet P ops C (fun a=>wpQuiet P ops C Q l2 a) l1 a→wpQuiet P ops C Q (l1++l2) a
 | [],_,_,h=>h
 | o::l1,l2,a,h=>by
  rw [List.cons_append]
  unfold wpQuiet at h ⊢
  split
  ·rename_i hw
   rw [if_pos hw] at h
   exact Oper.quiet_mono (fun a hh=>wpQuiet_append hh) h
  ·rename_i hw
   rw [if_neg hw] at h
   exact wpQuiet_append h
theorem wpQuiet_mono' {P:Program} {ops:Array Oper} {C:World→Prop} {Q Q':Act→Prop} (hq:∀ a,Q a→Q' a):∀ {l:List Oper} {a:Act},wpQuiet P ops C Q l a→wpQuiet P ops C Q' l a
 | [],_,h=>hq _ h
 | o::l,a,h=>by
  unfold wpQuiet at h ⊢
  split
  ·rename_i hw
   rw [if_pos hw] at h
   exact Oper.quiet_mono (fun a hh=>wpQuiet_mono' hq hh) h
  ·rename_i hw
   rw [if_neg hw] at h
   exact wpQuiet_mono' hq h
theorem any_of_quiet_last {P:Program} {C:World→Prop} {Qa:Act→Prop} {Q:Exit→Act→World→Prop} {n:Nat} {l:List Oper} {last:Oper} (hlen:l.length=n+1) (hlast:l[n]? = some last) (hg:last.guard=none)
  (hs:Region.sinkB .any l.toArray n=true) (hback:∀ (i:Nat) (o:Oper),l[i]? = some o→∀ e∈o.after,e.on < i)
  (hQ:∀ a w,C w→Qa a→last.wp P a w (fun a w=>Q .normal a w) Q) (hng:∀ (i:Nat) (o:Oper),l[i]? = some o→∀ tmps,Region.wanted o (yielded (maskLast n l).toArray tmps)=Region.wanted o (yielded l.toArray tmps)) :
  ∀ (fuel:Nat) (listed:Array Bool) (a:Act) (w:World),HeadInv .any l.toArray n listed→C w→wpAnyQ P .any (maskLast n l).toArray C Qa fuel listed a→1≤fuel→wpAny P .any l.toArray Q fuel listed a w
 | 0,_,_,_,_,_,_,h1=>absurd h1 (by omega)
 | fuel+1,listed,a,w,inv,hC,h,_=>by
  have hc:Region.chainB .any l.toArray n=true:=by
   refine List.all_eq_true.2 fun t ht=>?_
   rw [List.mem_range,List.size_toArray] at ht
   simp only [Bool.or_eq_true,decide_eq_true_eq]
   left; omega
  have hn:n < l.toArray.size:=by simp; omega
  -- something is ready
  have hne:Region.ready .any l.toArray listed ≠ []:=by
   have key:∀ k,k < l.length→listed.getD k true=false→∃ j,j∈Region.ready .any l.toArray listed:=by
    intro k
    induction k using Nat.strongRecOn with
    | _ k ih=>
     intro hk hun
     by_cases hall:∀ e∈(l[k]'hk).after,Region.binds .any e=true→listed.getD e.on false=true
     ·exact ⟨k,mem_ready.2 ⟨hun,l[k],by rw [List.getElem?_toArray,List.getElem?_eq_getElem hk],hall⟩⟩
     ·obtain ⟨e,he⟩:=Classical.not_forall.1 hall
      obtain ⟨he1,he2⟩:=Classical.not_imp.1 he
      obtain ⟨_,he3⟩:=Classical.not_imp.1 he2
      have hlt:=hback k l[k] (List.getElem?_eq_getElem hk) e he1
      have hsz:e.on < listed.size:=by rw [inv.size]; simp; omega
      exact ih e.on hlt (by omega) (getD_in hsz (by simpa using he3))
   obtain ⟨j,hj⟩:=key n (by omega) (inv.tail n (Nat.le_refl _) hn)
   intro h0
   rw [h0] at hj; cases hj
  refine ⟨fun h0=>absurd h0 hne,fun i hi=>?_⟩
  have hi':i∈Region.ready .any (maskLast n l).toArray listed:=by rw [ready_mask]; exact hi
  have hq:=h.2 i hi'
  obtain ⟨hiun,oi,hoi,_⟩:=mem_ready.1 hi
  have hilt:i < l.length:=by have:=(Array.getElem?_eq_some_iff.1 hoi).1; simpa using this
  by_cases hin:i < n
  ·have hoi':(maskLast n l).toArray[i]? = some oi:=by rw [List.getElem?_toArray,maskLast_get,if_pos hin,← List.getElem?_toArray]; exact hoi
   have hq2:qOp P l.toArray C i (wpAnyQ P .any (maskLast n l).toArray C Qa fuel (listed.setIfInBounds i true)) a:=by
    unfold qOp at hq ⊢
    rw [hoi'] at hq
    rw [hoi]
    simp only at hq ⊢
    rw [hng i oi (by simpa using hoi)] at hq
    exact hq
   have hf:1≤fuel:=by
    cases fuel with
    | succ f=>omega
    | zero=>
     obtain ⟨v,hy,hK⟩:=yieldsIn_of_qOp hoi hq2
     have hnr:=hK.1
     rw [ready_mask] at hnr
     have inv2:=inv.set hi hin
     have key:∀ k,k < l.length→(listed.setIfInBounds i true).getD k true=false→∃ j,j∈Region.ready .any l.toArray (listed.setIfInBounds i true):=by
      intro k
      induction k using Nat.strongRecOn with
      | _ k ih=>
       intro hk hun
       by_cases hall:∀ e∈(l[k]'hk).after,Region.binds .any e=true→(listed.setIfInBounds i true).getD e.on false=true
       ·exact ⟨k,mem_ready.2 ⟨hun,l[k],by rw [List.getElem?_toArray,List.getElem?_eq_getElem hk],hall⟩⟩
       ·obtain ⟨e,he⟩:=Classical.not_forall.1 hall
        obtain ⟨he1,he2⟩:=Classical.not_imp.1 he
        obtain ⟨_,he3⟩:=Classical.not_imp.1 he2
        have hlt:=hback k l[k] (List.getElem?_eq_getElem hk) e he1
        have hsz:e.on < (listed.setIfInBounds i true).size:=by rw [inv2.size]; simp; omega
        exact ih e.on hlt (by omega) (getD_in hsz (by simpa using he3))
     obtain ⟨j,hj⟩:=key n (by omega) (inv2.tail n (Nat.le_refl _) hn)
     rw [hnr] at hj; cases hj
   exact wpOp_of_qOp hC (fun a' w' hC' hK=>any_of_quiet_last hlen hlast hg hs hback hQ hng fuel _ a' w' (inv.set hi hin) hC' hK hf) hq2
  ·obtain rfl:i=n:=by omega
   have hol:oi=last:=by
    rw [List.getElem?_toArray,hlast] at hoi
    exact (Option.some.inj hoi).symm
   subst hol
   -- all others are listed
   have hall:∀ j,j < i→listed.getD j true=true:=by
    intro j hj
    cases hb:listed.getD j true with
    | true=>rfl
    | false=>exact absurd hi (tail_waits hs hc hn inv _ j rfl hj hb i (Nat.le_refl _))
   have hend:Region.ready .any l.toArray (listed.setIfInBounds i true) = []:=by
    cases hR:Region.ready .any l.toArray (listed.setIfInBounds i true) with
    | nil=>rfl
    | cons j r=>
     have hj:j∈Region.ready .any l.toArray (listed.setIfInBounds i true):=by rw [hR]; simp
     obtain ⟨hjun,oj,hoj,_⟩:=mem_ready.1 hj
     have hjlt:j < l.length:=by have:=(Array.getElem?_eq_some_iff.1 hoj).1; simpa using this
     by_cases hji:i=j
     ·subst hji
      have:i < listed.size:=by rw [inv.size]; simpa using hilt
      simp [this] at hjun
     ·rw [getD_set_ne true hji] at hjun
      rw [hall j (by omega)] at hjun; cases hjun
   have hKa:Qa a:=by
    unfold qOp at hq
    have hml:(maskLast i l).toArray[i]? = some (mask oi):=by rw [List.getElem?_toArray,maskLast_get,if_neg (by omega),hlast]; rfl
    rw [hml] at hq
    simp only [Region.wanted,mask,if_true] at hq
    obtain ⟨v,_,hK⟩:=hq
    have hK':wpAnyQ P .any (maskLast i l).toArray C Qa fuel (listed.setIfInBounds i true) a:=hK
    cases fuel with
    | zero=>exact hK'.2
    | succ f=>exact hK'.1 (by rw [ready_mask]; exact hend)
   unfold wpOp
   rw [hoi]
   simp only [Region.wanted,hg,if_true]
   refine .inl (Oper.wp_mono (fun a' w' hh=>?_) (hQ a w hC hKa))
   cases fuel with
   | zero=>exact ⟨hend,hh⟩
   | succ f=>exact ⟨fun _=>hh,fun j hj=>by rw [hend] at hj; cases hj⟩
def noGuard (l:List Oper):Bool:=l.all fun o=>o.guard.isNone
theorem noGuard_get {l:List Oper} (h:noGuard l=true) {i:Nat} {o:Oper} (ho:l[i]? = some o):o.guard=none:=by
 have:=List.all_eq_true.1 h o (List.mem_of_getElem? ho)
 simpa using this
theorem any_qtail {P:Program} {Q:Exit→Act→World→Prop} {a:Act} {w:World} {l:List Oper} (n:Nat) (hB:qtB n l=true) (hg:noGuard l=true)
  (h:wpQuiet P (maskLast n l).toArray (fun w'=>∃ k,w'=w.drewN k) (fun a'=>∀ k,wpList P l.toArray Q (l.drop n) a' (w.drewN k)) (l.take n) a) (hQ : ¬ LetsOut Q) :
  wpAny P .any l.toArray Q l.toArray.size (Array.replicate l.toArray.size false) a w.drew:=by
 simp only [qtB,Bool.and_eq_true,decide_eq_true_eq] at hB
 obtain ⟨⟨⟨⟨hlen,hs⟩,hb⟩,hlex⟩,_⟩:=hB
 have hback:∀ (i:Nat) (o:Oper),l[i]? = some o→∀ e∈o.after,e.on < i:=by
  intro i o ho e he
  have:=List.all_eq_true.1 hb i (List.mem_range.2 (List.getElem?_eq_some_iff.1 ho).1)
  rw [ho] at this
  simp only at this
  exact of_decide_eq_true (Array.all_eq_true'.1 this e he)
 have hlt:n < l.length:=by omega
 have hlast:l[n]? = some l[n]:=List.getElem?_eq_getElem hlt
 have hdrop:l.drop n = [l[n]]:=by rw [List.drop_eq_getElem_cons hlt,List.drop_eq_nil_of_le (by omega)]
 have hgl:l[n].guard=none:=noGuard_get hg hlast
 have start:HeadInv .any l.toArray n (Array.replicate l.toArray.size false):=
  ⟨by simp,fun j oj _ hh=>(by rw [getD_replicate_false] at hh; cases hh),fun t _ ht=>getD_in (by simpa using ht) (getD_replicate_false _ _)⟩
 refine any_of_quiet_last (C:=fun w'=>∃ k,w'=w.drewN k) (Qa:=fun a'=>∀ k,wpList P l.toArray Q (l.drop n) a' (w.drewN k)) hlen hlast hgl hs hback ?_ ?_ _ _ _ _ start ⟨1,rfl⟩ ?_ (by simp; omega)
 ·rintro a w' ⟨k,rfl⟩ hh
  have h1:=hh k
  rw [hdrop] at h1
  unfold wpList at h1
  rw [if_pos (by simp [Region.wanted,hgl])] at h1
  exact Oper.wp_mono (fun a w hh=>hh) (h1.resolve_right (fun hh=>hQ hh.2))
 ·intro i o ho tmps
  simp [Region.wanted,noGuard_get hg ho]
 ·simp only [Region.lexB,Bool.and_eq_true] at hlex
  have hml:(maskLast n l)=l.take n ++ [mask l[n]]:=by rw [maskLast,hdrop]; rfl
  have hw:wpQuiet P (maskLast n l).toArray (fun w'=>∃ k,w'=w.drewN k) (fun a'=>∀ k,wpList P l.toArray Q (l.drop n) a' (w.drewN k)) (maskLast n l) a:=by
   conv=>arg 5; rw [hml]
   refine wpQuiet_append ?_
   refine wpQuiet_mono' ?_ h
   intro a' hh
   unfold wpQuiet
   rw [if_pos (by simp [Region.wanted,mask])]
   exact ⟨undef,fun w' _=>⟨rfl,rfl⟩,hh⟩
  have:=wpAnyQ_lex (C:=fun w'=>∃ k,w'=w.drewN k) (md:=.any) hlex.1 (maskLast n l) 0 (Array.replicate (maskLast n l).toArray.size false) a (by simp) (by simpa using hlex.2) hw
  simpa [maskLast_length] using this
end Go.Proofs.YtmikofeildnpdaaGreat

/- A text that grows: a Builder whose row lies beyond some block. -/
namespace Go.Proofs.YtmikofeildnpdaaGreat
open Go.RowKit Go.ChangeMaps Go.MapKept
theorem wp_region_qtail {P:Program} {id:Nat} {Q:Exit→Act→World→Prop} {a:Act} {w:World} {l:List Oper} (n:Nat) (hm:P.follows .mixedOrders=true) (hB:qtB n l=true) (hg:noGuard l=true)
  (hQ : ¬ LetsOut Q) (h:∀ ops',wpQuiet P ops' (fun w'=>∃ k,w'=w.drewN k) (fun a'=>∀ k,wpList P l.toArray Q (l.drop n) a' (w.drewN k)) (l.take n) a) :
  (Code.region id l.toArray true).wp P Q a w:=
 wp_region_any hm (any_qtail n hB hg (h _) hQ)
end Go.Proofs.YtmikofeildnpdaaGreat

/- Graphs: Check of the program and of the reference. -/
namespace Go.Proofs.YtmikofeildnpdaaGreat
open Go.RowKit
theorem powN (n:Int) (h1:1≤n) (h5:n≤5):n=1∨n=2∨n=3∨n=4∨n=5:=by omega
def fullI (n:Int):Int:=if n=1 then 1 else if n=2 then 3 else if n=3 then 7 else if n=4 then 15 else 31
theorem fullI_le (n:Int):1≤fullI n∧fullI n≤31:=by unfold fullI; split; omega; split; omega; split; omega; split; omega; omega
def twoI (p:Int):Int:=if p=0 then 1 else if p=1 then 2 else if p=2 then 4 else if p=3 then 8 else if p=4 then 16 else 32
theorem fullCall (n:Int) (w:World) (h1:1≤n) (h5:n≤5):Calls Tryz.prog 180 #[.int .i64 n] w fun e w'=>e = .returned (.int .i64 (fullI n))∧w=w':=by
 rcases powN n h1 h5 with rfl | rfl | rfl | rfl | rfl <;>
 ·go_enter Tryz.func180,Tryz.ntmps180
  go_wp2
  go_ret
  exact ⟨rfl,rfl⟩
theorem powerCall (n:Int) (w:World) (h1:0≤n) (h5:n≤5):Calls Tryz.prog 179 #[.int .i64 n] w fun e w'=>e = .returned (.int .i64 (twoI n))∧w=w':=by
 go_enter Tryz.func179,Tryz.ntmps179
 go_wp2
 go_loop [3,4] (fun o i=>∃ k:Int,0≤k∧k≤n∧i = .int .i64 k∧o = .int .i64 (twoI k)) (fun _ i=>(n - intOf i).toNat)
 case atStart=>exact ⟨0,by omega,by omega,rfl,rfl⟩
 case round=>
  obtain ⟨k,hk0,hk,rfl,rfl⟩:=hrel
  by_cases hlt:k < n
  ·have hs:twoI (k+1)=twoI k * 2:=by
    have:k=0∨k=1∨k=2∨k=3∨k=4:=by omega
    rcases this with rfl | rfl | rfl | rfl | rfl <;> decide
   have hb:1≤twoI k∧twoI k≤32:=by unfold twoI; split; omega; split; omega; split; omega; split; omega; split; omega; omega
   obtain ⟨hb1,hb2⟩:=hb
   obtain ⟨t,ht⟩:=exE (twoI k)
   rw [ht] at hs hb1 hb2 ⊢
   replace hs:=Lib.hid hs
   clear ht
   go_wp2
   go_round
   case rel=>exact ⟨k+1,by omega,by omega,rfl,by rw [hs.out]⟩
   case measure=>simp [intOf]; omega
  ·obtain rfl:k=n:=by omega
   go_wp2
   go_ret
   exact ⟨rfl,rfl⟩
theorem refFull (n:Int) (w:World) (h1:1≤n) (h5:n≤5):Calls Tryz.prog 178 #[.int .i64 n] w fun e w'=>e = .returned (.int .i64 (fullI n))∧w=w':=by
 have H:=Lib.hid (powerCall n w (by omega) h5)
 have e:fullI n=twoI n - 1:=by rcases powN n h1 h5 with rfl | rfl | rfl | rfl | rfl <;> decide
 have hb:1≤twoI n∧twoI n≤32:=by rcases powN n h1 h5 with rfl | rfl | rfl | rfl | rfl <;> decide
 obtain ⟨hb1,hb2⟩:=hb
 obtain ⟨t,ht⟩:=exE (twoI n)
 rw [ht] at e hb1 hb2 H
 replace e:=Lib.hid e
 clear ht
 go_enter Tryz.func178,Tryz.ntmps178
 go_wp2_with (go_at_call 179; refine H.out.mono ?_; rintro e w' ⟨rfl,rfl⟩)
 go_ret
 exact ⟨ret_int e.out.symm,rfl⟩
def hasI (x p:Int):Bool:=x / twoI p % 2 == 1
theorem refHas (x p:Int) (w:World) (h0:0≤x) (hx:x≤1000000) (h1:0≤p) (h5:p≤5):Calls Tryz.prog 127 #[.int .i64 x,.int .i64 p] w fun e w'=>e = .returned (.bool (hasI x p))∧w=w':=by
 have H:=Lib.hid (powerCall p w h1 h5)
 have hb:1≤twoI p∧twoI p≤32:=by unfold twoI; split; omega; split; omega; split; omega; split; omega; split; omega; omega
 obtain ⟨hb1,hb2⟩:=hb
 have e:=Lib.hid (show hasI x p=(x / twoI p % 2 == 1) from rfl)
 obtain ⟨t,ht⟩:=exE (twoI p)
 rw [ht] at e hb1 hb2 H
 have ht0:t ≠ 0:=by omega
 have hq1:0≤x / t:=Int.ediv_nonneg h0 (by omega)
 have hq2:x / t≤1000000:=Int.le_trans (Int.ediv_le_self _ h0) hx
 clear ht
 go_enter Tryz.func127,Tryz.ntmps127
 go_wp2_with (go_at_call 179; refine H.out.mono ?_; rintro e w' ⟨rfl,rfl⟩)
 go_ret
 exact ⟨ret_bool e.out.symm,rfl⟩
def procE (n:Int):Int:=if n < 1∨5 < n then 1 else 0
theorem refProcs (n:Int) (w:World):Calls Tryz.prog 88 #[.int .i64 n] w fun e w'=>e = .returned (.int .i64 (procE n))∧w=w':=by
 by_cases h1:n < 1
 ·go_enter Tryz.func88,Tryz.ntmps88
  go_wp2
  go_ret
  exact ⟨ret_int (by rw [procE,if_pos (.inl h1)]),rfl⟩
 ·have h1':decide (n < 1)=false:=by simpa using h1
  by_cases h5:5 < n
  ·go_enter Tryz.func88,Tryz.ntmps88
   go_wp2
   go_ret
   exact ⟨ret_int (by rw [procE,if_pos (.inr h5)]),rfl⟩
  ·have h5':decide (5 < n)=false:=by simpa using h5
   go_enter Tryz.func88,Tryz.ntmps88
   go_wp2
   go_ret
   exact ⟨ret_int (by rw [procE,if_neg (by omega)]),rfl⟩
theorem procs (n:Int) (w:World):Calls Tryz.prog 181 #[.int .i64 n] w fun e w'=>e = .returned (.int .i64 (procE n))∧w=w':=by
 by_cases h1:n < 1
 ·go_enter Tryz.func181,Tryz.ntmps181
  go_wp2
  go_ret
  exact ⟨ret_int (by rw [procE,if_pos (.inl h1)]),rfl⟩
 ·have h1':decide (n < 1)=false:=by simpa using h1
  by_cases h5:5 < n
  ·go_enter Tryz.func181,Tryz.ntmps181
   go_wp2
   go_ret
   exact ⟨ret_int (by rw [procE,if_pos (.inr h5)]),rfl⟩
  ·have h5':decide (5 < n)=false:=by simpa using h5
   go_enter Tryz.func181,Tryz.ntmps181
   go_wp2
   go_ret
   exact ⟨ret_int (by rw [procE,if_neg (by omega)]),rfl⟩
def hErr (n p x:Int):Int:=if n≤p then (if x=0 then 0 else 3) else if x < 0∨fullI n < x then 2 else if hasI x p then 0 else 3
def hGo (n:Int):Int→List Int→Int
 | _,[]=>0
 | p,x::r=>if hErr n p x ≠ 0 then hErr n p x else hGo n (p+1) r
def chkGr (n:Int) (hs:List Int):Int:=if n < 1∨5 < n then 2 else hGo n 0 hs
def chkSet (n x:Int):Int:=if procE n ≠ 0 then 1 else if x < 0∨twoI n≤x then 2 else 0
theorem and1_ok:((List.range 32).all fun x=>(List.range 5).all fun p=>decide (bits .and .i64 ((x:Int) / twoI p) 1=if hasI x p then 1 else 0))=true:=by decide +kernel
theorem and1 {x p:Int} (h0:0≤x) (h1:x≤31) (hp0:0≤p) (hp:p≤4):bits .and .i64 (x / twoI p) 1=if hasI x p then 1 else 0:=by
 have:=List.all_eq_true.1 (List.all_eq_true.1 and1_ok x.toNat (by rw [List.mem_range]; omega)) p.toNat (by rw [List.mem_range]; omega)
 have:=of_decide_eq_true this
 rwa [show ((x.toNat:Nat):Int)=x by omega,show ((p.toNat:Nat):Int)=p by omega] at this
end Go.Proofs.YtmikofeildnpdaaGreat

/- Graphs, sets, rounds: Check of the program and of the reference. -/
namespace Go.Proofs.YtmikofeildnpdaaGreat
open Go.RowKit
theorem ix0 (a b c d e:Value) (w:World):(Instr.index 83 (.agg #[a,b,c,d,e]) (.int .i64 0)).run Tryz.prog w = .ok a w:=by kernel_rfl
theorem ix1 (a b c d e:Value) (w:World):(Instr.index 83 (.agg #[a,b,c,d,e]) (.int .i64 1)).run Tryz.prog w = .ok b w:=by kernel_rfl
theorem ix2 (a b c d e:Value) (w:World):(Instr.index 83 (.agg #[a,b,c,d,e]) (.int .i64 2)).run Tryz.prog w = .ok c w:=by kernel_rfl
theorem ix3 (a b c d e:Value) (w:World):(Instr.index 83 (.agg #[a,b,c,d,e]) (.int .i64 3)).run Tryz.prog w = .ok d w:=by kernel_rfl
theorem ix4 (a b c d e:Value) (w:World):(Instr.index 83 (.agg #[a,b,c,d,e]) (.int .i64 4)).run Tryz.prog w = .ok e w:=by kernel_rfl
theorem hGo_step {n:Int} {p x:Int} {r:List Int} (h:hErr n p x=0):hGo n p (x::r)=hGo n (p+1) r:=by rw [hGo,if_neg (fun k=>k h)]
theorem hGo_stop {n:Int} {p x:Int} {r:List Int} (h:hErr n p x ≠ 0):hGo n p (x::r)=hErr n p x:=by rw [hGo,if_pos h]
theorem hErr_1 {n p x:Int} (h:n≤p) (hx:x=0):hErr n p x=0:=by rw [hErr,if_pos h,if_pos hx]
theorem hErr_2 {n p x:Int} (h:n≤p) (hx : ¬ x=0):hErr n p x=3:=by rw [hErr,if_pos h,if_neg hx]
theorem hErr_3 {n p x:Int} (h:p < n) (hx:x < 0∨fullI n < x):hErr n p x=2:=by rw [hErr,if_neg (by omega),if_pos hx]
theorem hErr_4 {n p x:Int} (h:p < n) (hx:0≤x∧x≤fullI n) (hb:hasI x p=false):hErr n p x=3:=by rw [hErr,if_neg (by omega),if_neg (by omega),hb]; rfl
theorem hErr_5 {n p x:Int} (h:p < n) (hx:0≤x∧x≤fullI n) (hb:hasI x p=true):hErr n p x=0:=by rw [hErr,if_neg (by omega),if_neg (by omega),hb]; rfl
theorem graphCheck (n h0 h1 h2 h3 h4:Int) (w:World):Calls Tryz.prog 129 #[.agg #[.int .i64 n,.int .i64 h0,.int .i64 h1,.int .i64 h2,.int .i64 h3,.int .i64 h4]] w fun e w'=>e = .returned (.int .i64 (chkGr n [h0,h1,h2,h3,h4]))∧Below w.heap.size w w':=by
 by_cases hn:n < 1∨5 < n
 ·have hE:=Lib.hid (show chkGr n [h0,h1,h2,h3,h4]=2 by rw [chkGr,if_pos hn])
  by_cases hn1:n < 1
  ·go_enter Tryz.func129, Tryz.ntmps129
   go_wp2
   go_ret
   exact ⟨ret_int hE.out.symm,(Below.refl _ _).alloc (Nat.le_refl _) _⟩
  ·have hn1':decide (n < 1)=false:=by simpa using hn1
   have hn5:5 < n:=by omega
   go_enter Tryz.func129, Tryz.ntmps129
   go_wp2
   go_ret
   exact ⟨ret_int hE.out.symm,(Below.refl _ _).alloc (Nat.le_refl _) _⟩
 ·have hn1:decide (n < 1)=false:=decide_eq_false (by omega)
  have hn5:decide (5 < n)=false:=decide_eq_false (by omega)
  obtain ⟨E,hE⟩:=exE (chkGr n [h0,h1,h2,h3,h4])
  have hE0:=Lib.hid (show hGo n 0 [h0,h1,h2,h3,h4]=E by rw [← hE,chkGr,if_neg hn])
  rw [hE]
  have g1:1≤n:=by omega
  have g5:n≤5:=by omega
  have hF:=fun W=>fullCall n W g1 g5
  obtain ⟨f1,f31⟩:=fullI_le n
  obtain ⟨F,hFe⟩:=exE (fullI n)
  rw [hFe] at f1 f31
  simp only [hFe] at hF
  replace hF:=Lib.hid hF
  replace hFe:=Lib.hid hFe
  clear hn hE
  go_enter Tryz.func129, Tryz.ntmps129
  go_wp2
  have hb:=(Below.refl w.heap.size w).alloc (Nat.le_refl _) (.cells #[.int .i64 n,.int .i64 h0,.int .i64 h1,.int .i64 h2,.int .i64 h3,.int .i64 h4] 85)
  go_loop [15] (fun iv=>∃ k:Int,iv = .int .i64 k∧((k=0∧Hid (hGo n 0 [h0,h1,h2,h3,h4]=E))∨(k=1∧Hid (hGo n 1 [h1,h2,h3,h4]=E))∨(k=2∧Hid (hGo n 2 [h2,h3,h4]=E))∨(k=3∧Hid (hGo n 3 [h3,h4]=E))∨(k=4∧Hid (hGo n 4 [h4]=E))∨(k=5∧Hid (hGo n 5 []=E)))) (fun iv=>5 - (intOf iv).toNat)
  case atStart=>exact ⟨0,rfl,.inl ⟨rfl,hE0⟩⟩
  case round=>
   clear hE0
   obtain ⟨k,rfl,hk⟩:=hrel
   rcases hk with ⟨rfl,hg⟩ | ⟨rfl,hg⟩ | ⟨rfl,hg⟩ | ⟨rfl,hg⟩ | ⟨rfl,hg⟩ | ⟨rfl,hg⟩
   ·have hix:=ix0 (.int .i64 h0) (.int .i64 h1) (.int .i64 h2) (.int .i64 h3) (.int .i64 h4)
    by_cases hp0:n≤0
    ·have hp:=Lib.hid hp0
     have hp1:decide (n≤0)=true:=decide_eq_true hp0
     clear hp0
     by_cases hx:h0=0
     ·have hx':(h0 != 0)=false:=by simp [hx]
      replace hx:=Lib.hid hx
      go_wp2
      go_round
      case rel=>exact ⟨1,rfl,.inr (.inl ⟨rfl,by show _=_; rw [← hg.out,hGo_step (hErr_1 hp.out hx.out)]; rfl⟩)⟩
      case measure=>simp [intOf]
     ·have hx':(h0 != 0)=true:=by simpa using hx
      replace hx:=Lib.hid hx
      go_wp2
      go_ret
      exact ⟨ret_int (by rw [← hg.out,hGo_stop (by rw [hErr_2 hp.out hx.out]; decide),hErr_2 hp.out hx.out]),hb⟩
    ·have hp:=Lib.hid (show 0 < n by omega)
     have hp1:decide (n≤0)=false:=decide_eq_false hp0
     clear hp0
     by_cases hx0:h0 < 0
     ·have hx:=Lib.hid (show h0 < 0∨fullI n < h0 from .inl hx0)
      go_wp2
      go_ret
      exact ⟨ret_int (by rw [← hg.out,hGo_stop (by rw [hErr_3 hp.out hx.out]; decide),hErr_3 hp.out hx.out]),hb⟩
     ·have hx0':decide (h0 < 0)=false:=decide_eq_false hx0
      by_cases hx1:F < h0
      ·have hx:=Lib.hid (show h0 < 0∨fullI n < h0 from .inr (by rw [hFe.out]; exact hx1))
       go_wp2_with (first | (go_at_call 180; refine (hF.out _).mono ?_; rintro e w1 ⟨rfl,rfl⟩))
       go_ret
       exact ⟨ret_int (by rw [← hg.out,hGo_stop (by rw [hErr_3 hp.out hx.out]; decide),hErr_3 hp.out hx.out]),hb⟩
      ·have hx1':decide (F < h0)=false:=decide_eq_false hx1
       have hx:=Lib.hid (show 0≤h0∧h0≤fullI n by rw [hFe.out]; omega)
       have ha:=and1 (x:=h0) (p:=0) (by omega) (by omega) (by omega) (by omega)
       by_cases hbit:hasI h0 0=true
       ·rw [hbit,if_pos rfl] at ha
        rw [show twoI 0=1 from rfl,Int.ediv_one] at ha
        replace hbit:=Lib.hid hbit
        go_wp2_with (first | (go_at_call 180; refine (hF.out _).mono ?_; rintro e w1 ⟨rfl,rfl⟩))
        go_round
        case rel=>exact ⟨1,rfl,.inr (.inl ⟨rfl,by show _=_; rw [← hg.out,hGo_step (hErr_5 hp.out hx.out hbit.out)]; rfl⟩)⟩
        case measure=>simp [intOf]
       ·replace hbit:=eq_false_of_ne_true hbit
        rw [hbit,if_neg (by decide)] at ha
        rw [show twoI 0=1 from rfl,Int.ediv_one] at ha
        replace hbit:=Lib.hid hbit
        go_wp2_with (first | (go_at_call 180; refine (hF.out _).mono ?_; rintro e w1 ⟨rfl,rfl⟩))
        go_ret
        exact ⟨ret_int (by rw [← hg.out,hGo_stop (by rw [hErr_4 hp.out hx.out hbit.out]; decide),hErr_4 hp.out hx.out hbit.out]),hb⟩
   ·have hix:=ix1 (.int .i64 h0) (.int .i64 h1) (.int .i64 h2) (.int .i64 h3) (.int .i64 h4)
    by_cases hp0:n≤1
    ·have hp:=Lib.hid hp0
     have hp1:decide (n≤1)=true:=decide_eq_true hp0
     clear hp0
     by_cases hx:h1=0
     ·have hx':(h1 != 0)=false:=by simp [hx]
      replace hx:=Lib.hid hx
      go_wp2
      go_round
      case rel=>exact ⟨2,rfl,.inr (.inr (.inl ⟨rfl,by show _=_; rw [← hg.out,hGo_step (hErr_1 hp.out hx.out)]; rfl⟩))⟩
      case measure=>simp [intOf]
     ·have hx':(h1 != 0)=true:=by simpa using hx
      replace hx:=Lib.hid hx
      go_wp2
      go_ret
      exact ⟨ret_int (by rw [← hg.out,hGo_stop (by rw [hErr_2 hp.out hx.out]; decide),hErr_2 hp.out hx.out]),hb⟩
    ·have hp:=Lib.hid (show 1 < n by omega)
     have hp1:decide (n≤1)=false:=decide_eq_false hp0
     clear hp0
     by_cases hx0:h1 < 0
     ·have hx:=Lib.hid (show h1 < 0∨fullI n < h1 from .inl hx0)
      go_wp2
      go_ret
      exact ⟨ret_int (by rw [← hg.out,hGo_stop (by rw [hErr_3 hp.out hx.out]; decide),hErr_3 hp.out hx.out]),hb⟩
     ·have hx0':decide (h1 < 0)=false:=decide_eq_false hx0
      by_cases hx1:F < h1
      ·have hx:=Lib.hid (show h1 < 0∨fullI n < h1 from .inr (by rw [hFe.out]; exact hx1))
       go_wp2_with (first | (go_at_call 180; refine (hF.out _).mono ?_; rintro e w1 ⟨rfl,rfl⟩))
       go_ret
       exact ⟨ret_int (by rw [← hg.out,hGo_stop (by rw [hErr_3 hp.out hx.out]; decide),hErr_3 hp.out hx.out]),hb⟩
      ·have hx1':decide (F < h1)=false:=decide_eq_false hx1
       have hx:=Lib.hid (show 0≤h1∧h1≤fullI n by rw [hFe.out]; omega)
       have ha:=and1 (x:=h1) (p:=1) (by omega) (by omega) (by omega) (by omega)
       by_cases hbit:hasI h1 1=true
       ·rw [hbit,if_pos rfl] at ha
        rw [show twoI 1=2 from rfl] at ha
        replace hbit:=Lib.hid hbit
        go_wp2_with (first | (go_at_call 180; refine (hF.out _).mono ?_; rintro e w1 ⟨rfl,rfl⟩))
        go_round
        case rel=>exact ⟨2,rfl,.inr (.inr (.inl ⟨rfl,by show _=_; rw [← hg.out,hGo_step (hErr_5 hp.out hx.out hbit.out)]; rfl⟩))⟩
        case measure=>simp [intOf]
       ·replace hbit:=eq_false_of_ne_true hbit
        rw [hbit,if_neg (by decide)] at ha
        rw [show twoI 1=2 from rfl] at ha
        replace hbit:=Lib.hid hbit
        go_wp2_with (first | (go_at_call 180; refine (hF.out _).mono ?_; rintro e w1 ⟨rfl,rfl⟩))
        go_ret
        exact ⟨ret_int (by rw [← hg.out,hGo_stop (by rw [hErr_4 hp.out hx.out hbit.out]; decide),hErr_4 hp.out hx.out hbit.out]),hb⟩
   ·have hix:=ix2 (.int .i64 h0) (.int .i64 h1) (.int .i64 h2) (.int .i64 h3) (.int .i64 h4)
    by_cases hp0:n≤2
    ·have hp:=Lib.hid hp0
     have hp1:decide (n≤2)=true:=decide_eq_true hp0
     clear hp0
     by_cases hx:h2=0
     ·have hx':(h2 != 0)=false:=by simp [hx]
      replace hx:=Lib.hid hx
      go_wp2
      go_round
      case rel=>exact ⟨3,rfl,.inr (.inr (.inr (.inl ⟨rfl,by show _=_; rw [← hg.out,hGo_step (hErr_1 hp.out hx.out)]; rfl⟩)))⟩
      case measure=>simp [intOf]
     ·have hx':(h2 != 0)=true:=by simpa using hx
      replace hx:=Lib.hid hx
      go_wp2
      go_ret
      exact ⟨ret_int (by rw [← hg.out,hGo_stop (by rw [hErr_2 hp.out hx.out]; decide),hErr_2 hp.out hx.out]),hb⟩
    ·have hp:=Lib.hid (show 2 < n by omega)
     have hp1:decide (n≤2)=false:=decide_eq_false hp0
     clear hp0
     by_cases hx0:h2 < 0
     ·have hx:=Lib.hid (show h2 < 0∨fullI n < h2 from .inl hx0)
      go_wp2
      go_ret
      exact ⟨ret_int (by rw [← hg.out,hGo_stop (by rw [hErr_3 hp.out hx.out]; decide),hErr_3 hp.out hx.out]),hb⟩
     ·have hx0':decide (h2 < 0)=false:=decide_eq_false hx0
      by_cases hx1:F < h2
      ·have hx:=Lib.hid (show h2 < 0∨fullI n < h2 from .inr (by rw [hFe.out]; exact hx1))
       go_wp2_with (first | (go_at_call 180; refine (hF.out _).mono ?_; rintro e w1 ⟨rfl,rfl⟩))
       go_ret
       exact ⟨ret_int (by rw [← hg.out,hGo_stop (by rw [hErr_3 hp.out hx.out]; decide),hErr_3 hp.out hx.out]),hb⟩
      ·have hx1':decide (F < h2)=false:=decide_eq_false hx1
       have hx:=Lib.hid (show 0≤h2∧h2≤fullI n by rw [hFe.out]; omega)
       have ha:=and1 (x:=h2) (p:=2) (by omega) (by omega) (by omega) (by omega)
       by_cases hbit:hasI h2 2=true
       ·rw [hbit,if_pos rfl] at ha
        rw [show twoI 2=4 from rfl] at ha
        replace hbit:=Lib.hid hbit
        go_wp2_with (first | (go_at_call 180; refine (hF.out _).mono ?_; rintro e w1 ⟨rfl,rfl⟩))
        go_round
        case rel=>exact ⟨3,rfl,.inr (.inr (.inr (.inl ⟨rfl,by show _=_; rw [← hg.out,hGo_step (hErr_5 hp.out hx.out hbit.out)]; rfl⟩)))⟩
        case measure=>simp [intOf]
       ·replace hbit:=eq_false_of_ne_true hbit
        rw [hbit,if_neg (by decide)] at ha
        rw [show twoI 2=4 from rfl] at ha
        replace hbit:=Lib.hid hbit
        go_wp2_with (first | (go_at_call 180; refine (hF.out _).mono ?_; rintro e w1 ⟨rfl,rfl⟩))
        go_ret
        exact ⟨ret_int (by rw [← hg.out,hGo_stop (by rw [hErr_4 hp.out hx.out hbit.out]; decide),hErr_4 hp.out hx.out hbit.out]),hb⟩
   ·have hix:=ix3 (.int .i64 h0) (.int .i64 h1) (.int .i64 h2) (.int .i64 h3) (.int .i64 h4)
    by_cases hp0:n≤3
    ·have hp:=Lib.hid hp0
     have hp1:decide (n≤3)=true:=decide_eq_true hp0
     clear hp0
     by_cases hx:h3=0
     ·have hx':(h3 != 0)=false:=by simp [hx]
      replace hx:=Lib.hid hx
      go_wp2
      go_round
      case rel=>exact ⟨4,rfl,.inr (.inr (.inr (.inr (.inl ⟨rfl,by show _=_; rw [← hg.out,hGo_step (hErr_1 hp.out hx.out)]; rfl⟩))))⟩
      case measure=>simp [intOf]
     ·have hx':(h3 != 0)=true:=by simpa using hx
      replace hx:=Lib.hid hx
      go_wp2
      go_ret
      exact ⟨ret_int (by rw [← hg.out,hGo_stop (by rw [hErr_2 hp.out hx.out]; decide),hErr_2 hp.out hx.out]),hb⟩
    ·have hp:=Lib.hid (show 3 < n by omega)
     have hp1:decide (n≤3)=false:=decide_eq_false hp0
     clear hp0
     by_cases hx0:h3 < 0
     ·have hx:=Lib.hid (show h3 < 0∨fullI n < h3 from .inl hx0)
      go_wp2
      go_ret
      exact ⟨ret_int (by rw [← hg.out,hGo_stop (by rw [hErr_3 hp.out hx.out]; decide),hErr_3 hp.out hx.out]),hb⟩
     ·have hx0':decide (h3 < 0)=false:=decide_eq_false hx0
      by_cases hx1:F < h3
      ·have hx:=Lib.hid (show h3 < 0∨fullI n < h3 from .inr (by rw [hFe.out]; exact hx1))
       go_wp2_with (first | (go_at_call 180; refine (hF.out _).mono ?_; rintro e w1 ⟨rfl,rfl⟩))
       go_ret
       exact ⟨ret_int (by rw [← hg.out,hGo_stop (by rw [hErr_3 hp.out hx.out]; decide),hErr_3 hp.out hx.out]),hb⟩
      ·have hx1':decide (F < h3)=false:=decide_eq_false hx1
       have hx:=Lib.hid (show 0≤h3∧h3≤fullI n by rw [hFe.out]; omega)
       have ha:=and1 (x:=h3) (p:=3) (by omega) (by omega) (by omega) (by omega)
       by_cases hbit:hasI h3 3=true
       ·rw [hbit,if_pos rfl] at ha
        rw [show twoI 3=8 from rfl] at ha
        replace hbit:=Lib.hid hbit
        go_wp2_with (first | (go_at_call 180; refine (hF.out _).mono ?_; rintro e w1 ⟨rfl,rfl⟩))
        go_round
        case rel=>exact ⟨4,rfl,.inr (.inr (.inr (.inr (.inl ⟨rfl,by show _=_; rw [← hg.out,hGo_step (hErr_5 hp.out hx.out hbit.out)]; rfl⟩))))⟩
        case measure=>simp [intOf]
       ·replace hbit:=eq_false_of_ne_true hbit
        rw [hbit,if_neg (by decide)] at ha
        rw [show twoI 3=8 from rfl] at ha
        replace hbit:=Lib.hid hbit
        go_wp2_with (first | (go_at_call 180; refine (hF.out _).mono ?_; rintro e w1 ⟨rfl,rfl⟩))
        go_ret
        exact ⟨ret_int (by rw [← hg.out,hGo_stop (by rw [hErr_4 hp.out hx.out hbit.out]; decide),hErr_4 hp.out hx.out hbit.out]),hb⟩
   ·have hix:=ix4 (.int .i64 h0) (.int .i64 h1) (.int .i64 h2) (.int .i64 h3) (.int .i64 h4)
    by_cases hp0:n≤4
    ·have hp:=Lib.hid hp0
     have hp1:decide (n≤4)=true:=decide_eq_true hp0
     clear hp0
     by_cases hx:h4=0
     ·have hx':(h4 != 0)=false:=by simp [hx]
      replace hx:=Lib.hid hx
      go_wp2
      go_round
      case rel=>exact ⟨5,rfl,.inr (.inr (.inr (.inr (.inr (⟨rfl,by show _=_; rw [← hg.out,hGo_step (hErr_1 hp.out hx.out)]; rfl⟩)))))⟩
      case measure=>simp [intOf]
     ·have hx':(h4 != 0)=true:=by simpa using hx
      replace hx:=Lib.hid hx
      go_wp2
      go_ret
      exact ⟨ret_int (by rw [← hg.out,hGo_stop (by rw [hErr_2 hp.out hx.out]; decide),hErr_2 hp.out hx.out]),hb⟩
    ·have hp:=Lib.hid (show 4 < n by omega)
     have hp1:decide (n≤4)=false:=decide_eq_false hp0
     clear hp0
     by_cases hx0:h4 < 0
     ·have hx:=Lib.hid (show h4 < 0∨fullI n < h4 from .inl hx0)
      go_wp2
      go_ret
      exact ⟨ret_int (by rw [← hg.out,hGo_stop (by rw [hErr_3 hp.out hx.out]; decide),hErr_3 hp.out hx.out]),hb⟩
     ·have hx0':decide (h4 < 0)=false:=decide_eq_false hx0
      by_cases hx1:F < h4
      ·have hx:=Lib.hid (show h4 < 0∨fullI n < h4 from .inr (by rw [hFe.out]; exact hx1))
       go_wp2_with (first | (go_at_call 180; refine (hF.out _).mono ?_; rintro e w1 ⟨rfl,rfl⟩))
       go_ret
       exact ⟨ret_int (by rw [← hg.out,hGo_stop (by rw [hErr_3 hp.out hx.out]; decide),hErr_3 hp.out hx.out]),hb⟩
      ·have hx1':decide (F < h4)=false:=decide_eq_false hx1
       have hx:=Lib.hid (show 0≤h4∧h4≤fullI n by rw [hFe.out]; omega)
       have ha:=and1 (x:=h4) (p:=4) (by omega) (by omega) (by omega) (by omega)
       by_cases hbit:hasI h4 4=true
       ·rw [hbit,if_pos rfl] at ha
        rw [show twoI 4=16 from rfl] at ha
        replace hbit:=Lib.hid hbit
        go_wp2_with (first | (go_at_call 180; refine (hF.out _).mono ?_; rintro e w1 ⟨rfl,rfl⟩))
        go_round
        case rel=>exact ⟨5,rfl,.inr (.inr (.inr (.inr (.inr (⟨rfl,by show _=_; rw [← hg.out,hGo_step (hErr_5 hp.out hx.out hbit.out)]; rfl⟩)))))⟩
        case measure=>simp [intOf]
       ·replace hbit:=eq_false_of_ne_true hbit
        rw [hbit,if_neg (by decide)] at ha
        rw [show twoI 4=16 from rfl] at ha
        replace hbit:=Lib.hid hbit
        go_wp2_with (first | (go_at_call 180; refine (hF.out _).mono ?_; rintro e w1 ⟨rfl,rfl⟩))
        go_ret
        exact ⟨ret_int (by rw [← hg.out,hGo_stop (by rw [hErr_4 hp.out hx.out hbit.out]; decide),hErr_4 hp.out hx.out hbit.out]),hb⟩
   ·go_wp2
    go_ret
    exact ⟨ret_int (by rw [← hg.out]; rfl),hb⟩
theorem refGraphCheck (n h0 h1 h2 h3 h4:Int) (w:World):Calls Tryz.prog 125 #[.agg #[.int .i64 n,.int .i64 h0,.int .i64 h1,.int .i64 h2,.int .i64 h3,.int .i64 h4]] w fun e w'=>e = .returned (.int .i64 (chkGr n [h0,h1,h2,h3,h4]))∧Below w.heap.size w w':=by
 by_cases hn:n < 1∨5 < n
 ·have hE:=Lib.hid (show chkGr n [h0,h1,h2,h3,h4]=2 by rw [chkGr,if_pos hn])
  by_cases hn1:n < 1
  ·go_enter Tryz.func125, Tryz.ntmps125
   go_wp2
   go_ret
   exact ⟨ret_int hE.out.symm,(Below.refl _ _).alloc (Nat.le_refl _) _⟩
  ·have hn1':decide (n < 1)=false:=by simpa using hn1
   have hn5:5 < n:=by omega
   go_enter Tryz.func125, Tryz.ntmps125
   go_wp2
   go_ret
   exact ⟨ret_int hE.out.symm,(Below.refl _ _).alloc (Nat.le_refl _) _⟩
 ·have hn1:decide (n < 1)=false:=decide_eq_false (by omega)
  have hn5:decide (5 < n)=false:=decide_eq_false (by omega)
  obtain ⟨E,hE⟩:=exE (chkGr n [h0,h1,h2,h3,h4])
  have hE0:=Lib.hid (show hGo n 0 [h0,h1,h2,h3,h4]=E by rw [← hE,chkGr,if_neg hn])
  rw [hE]
  have g1:1≤n:=by omega
  have g5:n≤5:=by omega
  have hF:=fun W=>refFull n W g1 g5
  obtain ⟨f1,f31⟩:=fullI_le n
  obtain ⟨F,hFe⟩:=exE (fullI n)
  rw [hFe] at f1 f31
  simp only [hFe] at hF
  replace hF:=Lib.hid hF
  replace hFe:=Lib.hid hFe
  clear hn hE
  go_enter Tryz.func125, Tryz.ntmps125
  go_wp2
  have hb:=(Below.refl w.heap.size w).alloc (Nat.le_refl _) (.cells #[.int .i64 n,.int .i64 h0,.int .i64 h1,.int .i64 h2,.int .i64 h3,.int .i64 h4] 85)
  go_loop [3] (fun iv=>∃ k:Int,iv = .int .i64 k∧((k=0∧Hid (hGo n 0 [h0,h1,h2,h3,h4]=E))∨(k=1∧Hid (hGo n 1 [h1,h2,h3,h4]=E))∨(k=2∧Hid (hGo n 2 [h2,h3,h4]=E))∨(k=3∧Hid (hGo n 3 [h3,h4]=E))∨(k=4∧Hid (hGo n 4 [h4]=E))∨(k=5∧Hid (hGo n 5 []=E)))) (fun iv=>5 - (intOf iv).toNat)
  case atStart=>exact ⟨0,rfl,.inl ⟨rfl,hE0⟩⟩
  case round=>
   clear hE0
   obtain ⟨k,rfl,hk⟩:=hrel
   rcases hk with ⟨rfl,hg⟩ | ⟨rfl,hg⟩ | ⟨rfl,hg⟩ | ⟨rfl,hg⟩ | ⟨rfl,hg⟩ | ⟨rfl,hg⟩
   ·have hix:=ix0 (.int .i64 h0) (.int .i64 h1) (.int .i64 h2) (.int .i64 h3) (.int .i64 h4)
    by_cases hp0:n≤0
    ·have hp:=Lib.hid hp0
     have hp1:decide (n≤0)=true:=decide_eq_true hp0
     clear hp0
     by_cases hx:h0=0
     ·have hx':(h0 != 0)=false:=by simp [hx]
      replace hx:=Lib.hid hx
      go_wp2
      go_round
      case rel=>exact ⟨1,rfl,.inr (.inl ⟨rfl,by show _=_; rw [← hg.out,hGo_step (hErr_1 hp.out hx.out)]; rfl⟩)⟩
      case measure=>simp [intOf]
     ·have hx':(h0 != 0)=true:=by simpa using hx
      replace hx:=Lib.hid hx
      go_wp2
      go_ret
      exact ⟨ret_int (by rw [← hg.out,hGo_stop (by rw [hErr_2 hp.out hx.out]; decide),hErr_2 hp.out hx.out]),hb⟩
    ·have hp:=Lib.hid (show 0 < n by omega)
     have hp1:decide (n≤0)=false:=decide_eq_false hp0
     clear hp0
     by_cases hx0:h0 < 0
     ·have hx:=Lib.hid (show h0 < 0∨fullI n < h0 from .inl hx0)
      go_wp2
      go_ret
      exact ⟨ret_int (by rw [← hg.out,hGo_stop (by rw [hErr_3 hp.out hx.out]; decide),hErr_3 hp.out hx.out]),hb⟩
     ·have hx0':decide (h0 < 0)=false:=decide_eq_false hx0
      by_cases hx1:F < h0
      ·have hx:=Lib.hid (show h0 < 0∨fullI n < h0 from .inr (by rw [hFe.out]; exact hx1))
       go_wp2_with (first | (go_at_call 178; refine (hF.out _).mono ?_; rintro e w1 ⟨rfl,rfl⟩) | (go_at_call 127; refine (refHas _ _ _ (by omega) (by omega) (by omega) (by omega)).mono ?_; rintro e w2 ⟨rfl,rfl⟩; rw [hbit]))
       go_ret
       exact ⟨ret_int (by rw [← hg.out,hGo_stop (by rw [hErr_3 hp.out hx.out]; decide),hErr_3 hp.out hx.out]),hb⟩
      ·have hx1':decide (F < h0)=false:=decide_eq_false hx1
       have hx:=Lib.hid (show 0≤h0∧h0≤fullI n by rw [hFe.out]; omega)
       have ha:=and1 (x:=h0) (p:=0) (by omega) (by omega) (by omega) (by omega)
       by_cases hbit:hasI h0 0=true
       ·clear ha
        go_wp2_with (first | (go_at_call 178; refine (hF.out _).mono ?_; rintro e w1 ⟨rfl,rfl⟩) | (go_at_call 127; refine (refHas _ _ _ (by omega) (by omega) (by omega) (by omega)).mono ?_; rintro e w2 ⟨rfl,rfl⟩; rw [hbit]))
        go_round
        case rel=>exact ⟨1,rfl,.inr (.inl ⟨rfl,by show _=_; rw [← hg.out,hGo_step (hErr_5 hp.out hx.out hbit)]; rfl⟩)⟩
        case measure=>simp [intOf]
       ·replace hbit:=eq_false_of_ne_true hbit
        clear ha
        go_wp2_with (first | (go_at_call 178; refine (hF.out _).mono ?_; rintro e w1 ⟨rfl,rfl⟩) | (go_at_call 127; refine (refHas _ _ _ (by omega) (by omega) (by omega) (by omega)).mono ?_; rintro e w2 ⟨rfl,rfl⟩; rw [hbit]))
        go_ret
        exact ⟨ret_int (by rw [← hg.out,hGo_stop (by rw [hErr_4 hp.out hx.out hbit]; decide),hErr_4 hp.out hx.out hbit]),hb⟩
   ·have hix:=ix1 (.int .i64 h0) (.int .i64 h1) (.int .i64 h2) (.int .i64 h3) (.int .i64 h4)
    by_cases hp0:n≤1
    ·have hp:=Lib.hid hp0
     have hp1:decide (n≤1)=true:=decide_eq_true hp0
     clear hp0
     by_cases hx:h1=0
     ·have hx':(h1 != 0)=false:=by simp [hx]
      replace hx:=Lib.hid hx
      go_wp2
      go_round
      case rel=>exact ⟨2,rfl,.inr (.inr (.inl ⟨rfl,by show _=_; rw [← hg.out,hGo_step (hErr_1 hp.out hx.out)]; rfl⟩))⟩
      case measure=>simp [intOf]
     ·have hx':(h1 != 0)=true:=by simpa using hx
      replace hx:=Lib.hid hx
      go_wp2
      go_ret
      exact ⟨ret_int (by rw [← hg.out,hGo_stop (by rw [hErr_2 hp.out hx.out]; decide),hErr_2 hp.out hx.out]),hb⟩
    ·have hp:=Lib.hid (show 1 < n by omega)
     have hp1:decide (n≤1)=false:=decide_eq_false hp0
     clear hp0
     by_cases hx0:h1 < 0
     ·have hx:=Lib.hid (show h1 < 0∨fullI n < h1 from .inl hx0)
      go_wp2
      go_ret
      exact ⟨ret_int (by rw [← hg.out,hGo_stop (by rw [hErr_3 hp.out hx.out]; decide),hErr_3 hp.out hx.out]),hb⟩
     ·have hx0':decide (h1 < 0)=false:=decide_eq_false hx0
      by_cases hx1:F < h1
      ·have hx:=Lib.hid (show h1 < 0∨fullI n < h1 from .inr (by rw [hFe.out]; exact hx1))
       go_wp2_with (first | (go_at_call 178; refine (hF.out _).mono ?_; rintro e w1 ⟨rfl,rfl⟩) | (go_at_call 127; refine (refHas _ _ _ (by omega) (by omega) (by omega) (by omega)).mono ?_; rintro e w2 ⟨rfl,rfl⟩; rw [hbit]))
       go_ret
       exact ⟨ret_int (by rw [← hg.out,hGo_stop (by rw [hErr_3 hp.out hx.out]; decide),hErr_3 hp.out hx.out]),hb⟩
      ·have hx1':decide (F < h1)=false:=decide_eq_false hx1
       have hx:=Lib.hid (show 0≤h1∧h1≤fullI n by rw [hFe.out]; omega)
       have ha:=and1 (x:=h1) (p:=1) (by omega) (by omega) (by omega) (by omega)
       by_cases hbit:hasI h1 1=true
       ·clear ha
        go_wp2_with (first | (go_at_call 178; refine (hF.out _).mono ?_; rintro e w1 ⟨rfl,rfl⟩) | (go_at_call 127; refine (refHas _ _ _ (by omega) (by omega) (by omega) (by omega)).mono ?_; rintro e w2 ⟨rfl,rfl⟩; rw [hbit]))
        go_round
        case rel=>exact ⟨2,rfl,.inr (.inr (.inl ⟨rfl,by show _=_; rw [← hg.out,hGo_step (hErr_5 hp.out hx.out hbit)]; rfl⟩))⟩
        case measure=>simp [intOf]
       ·replace hbit:=eq_false_of_ne_true hbit
        clear ha
        go_wp2_with (first | (go_at_call 178; refine (hF.out _).mono ?_; rintro e w1 ⟨rfl,rfl⟩) | (go_at_call 127; refine (refHas _ _ _ (by omega) (by omega) (by omega) (by omega)).mono ?_; rintro e w2 ⟨rfl,rfl⟩; rw [hbit]))
        go_ret
        exact ⟨ret_int (by rw [← hg.out,hGo_stop (by rw [hErr_4 hp.out hx.out hbit]; decide),hErr_4 hp.out hx.out hbit]),hb⟩
   ·have hix:=ix2 (.int .i64 h0) (.int .i64 h1) (.int .i64 h2) (.int .i64 h3) (.int .i64 h4)
    by_cases hp0:n≤2
    ·have hp:=Lib.hid hp0
     have hp1:decide (n≤2)=true:=decide_eq_true hp0
     clear hp0
     by_cases hx:h2=0
     ·have hx':(h2 != 0)=false:=by simp [hx]
      replace hx:=Lib.hid hx
      go_wp2
      go_round
      case rel=>exact ⟨3,rfl,.inr (.inr (.inr (.inl ⟨rfl,by show _=_; rw [← hg.out,hGo_step (hErr_1 hp.out hx.out)]; rfl⟩)))⟩
      case measure=>simp [intOf]
     ·have hx':(h2 != 0)=true:=by simpa using hx
      replace hx:=Lib.hid hx
      go_wp2
      go_ret
      exact ⟨ret_int (by rw [← hg.out,hGo_stop (by rw [hErr_2 hp.out hx.out]; decide),hErr_2 hp.out hx.out]),hb⟩
    ·have hp:=Lib.hid (show 2 < n by omega)
     have hp1:decide (n≤2)=false:=decide_eq_false hp0
     clear hp0
     by_cases hx0:h2 < 0
     ·have hx:=Lib.hid (show h2 < 0∨fullI n < h2 from .inl hx0)
      go_wp2
      go_ret
      exact ⟨ret_int (by rw [← hg.out,hGo_stop (by rw [hErr_3 hp.out hx.out]; decide),hErr_3 hp.out hx.out]),hb⟩
     ·have hx0':decide (h2 < 0)=false:=decide_eq_false hx0
      by_cases hx1:F < h2
      ·have hx:=Lib.hid (show h2 < 0∨fullI n < h2 from .inr (by rw [hFe.out]; exact hx1))
       go_wp2_with (first | (go_at_call 178; refine (hF.out _).mono ?_; rintro e w1 ⟨rfl,rfl⟩) | (go_at_call 127; refine (refHas _ _ _ (by omega) (by omega) (by omega) (by omega)).mono ?_; rintro e w2 ⟨rfl,rfl⟩; rw [hbit]))
       go_ret
       exact ⟨ret_int (by rw [← hg.out,hGo_stop (by rw [hErr_3 hp.out hx.out]; decide),hErr_3 hp.out hx.out]),hb⟩
      ·have hx1':decide (F < h2)=false:=decide_eq_false hx1
       have hx:=Lib.hid (show 0≤h2∧h2≤fullI n by rw [hFe.out]; omega)
       have ha:=and1 (x:=h2) (p:=2) (by omega) (by omega) (by omega) (by omega)
       by_cases hbit:hasI h2 2=true
       ·clear ha
        go_wp2_with (first | (go_at_call 178; refine (hF.out _).mono ?_; rintro e w1 ⟨rfl,rfl⟩) | (go_at_call 127; refine (refHas _ _ _ (by omega) (by omega) (by omega) (by omega)).mono ?_; rintro e w2 ⟨rfl,rfl⟩; rw [hbit]))
        go_round
        case rel=>exact ⟨3,rfl,.inr (.inr (.inr (.inl ⟨rfl,by show _=_; rw [← hg.out,hGo_step (hErr_5 hp.out hx.out hbit)]; rfl⟩)))⟩
        case measure=>simp [intOf]
       ·replace hbit:=eq_false_of_ne_true hbit
        clear ha
        go_wp2_with (first | (go_at_call 178; refine (hF.out _).mono ?_; rintro e w1 ⟨rfl,rfl⟩) | (go_at_call 127; refine (refHas _ _ _ (by omega) (by omega) (by omega) (by omega)).mono ?_; rintro e w2 ⟨rfl,rfl⟩; rw [hbit]))
        go_ret
        exact ⟨ret_int (by rw [← hg.out,hGo_stop (by rw [hErr_4 hp.out hx.out hbit]; decide),hErr_4 hp.out hx.out hbit]),hb⟩
   ·have hix:=ix3 (.int .i64 h0) (.int .i64 h1) (.int .i64 h2) (.int .i64 h3) (.int .i64 h4)
    by_cases hp0:n≤3
    ·have hp:=Lib.hid hp0
     have hp1:decide (n≤3)=true:=decide_eq_true hp0
     clear hp0
     by_cases hx:h3=0
     ·have hx':(h3 != 0)=false:=by simp [hx]
      replace hx:=Lib.hid hx
      go_wp2
      go_round
      case rel=>exact ⟨4,rfl,.inr (.inr (.inr (.inr (.inl ⟨rfl,by show _=_; rw [← hg.out,hGo_step (hErr_1 hp.out hx.out)]; rfl⟩))))⟩
      case measure=>simp [intOf]
     ·have hx':(h3 != 0)=true:=by simpa using hx
      replace hx:=Lib.hid hx
      go_wp2
      go_ret
      exact ⟨ret_int (by rw [← hg.out,hGo_stop (by rw [hErr_2 hp.out hx.out]; decide),hErr_2 hp.out hx.out]),hb⟩
    ·have hp:=Lib.hid (show 3 < n by omega)
     have hp1:decide (n≤3)=false:=decide_eq_false hp0
     clear hp0
     by_cases hx0:h3 < 0
     ·have hx:=Lib.hid (show h3 < 0∨fullI n < h3 from .inl hx0)
      go_wp2
      go_ret
      exact ⟨ret_int (by rw [← hg.out,hGo_stop (by rw [hErr_3 hp.out hx.out]; decide),hErr_3 hp.out hx.out]),hb⟩
     ·have hx0':decide (h3 < 0)=false:=decide_eq_false hx0
      by_cases hx1:F < h3
      ·have hx:=Lib.hid (show h3 < 0∨fullI n < h3 from .inr (by rw [hFe.out]; exact hx1))
       go_wp2_with (first | (go_at_call 178; refine (hF.out _).mono ?_; rintro e w1 ⟨rfl,rfl⟩) | (go_at_call 127; refine (refHas _ _ _ (by omega) (by omega) (by omega) (by omega)).mono ?_; rintro e w2 ⟨rfl,rfl⟩; rw [hbit]))
       go_ret
       exact ⟨ret_int (by rw [← hg.out,hGo_stop (by rw [hErr_3 hp.out hx.out]; decide),hErr_3 hp.out hx.out]),hb⟩
      ·have hx1':decide (F < h3)=false:=decide_eq_false hx1
       have hx:=Lib.hid (show 0≤h3∧h3≤fullI n by rw [hFe.out]; omega)
       have ha:=and1 (x:=h3) (p:=3) (by omega) (by omega) (by omega) (by omega)
       by_cases hbit:hasI h3 3=true
       ·clear ha
        go_wp2_with (first | (go_at_call 178; refine (hF.out _).mono ?_; rintro e w1 ⟨rfl,rfl⟩) | (go_at_call 127; refine (refHas _ _ _ (by omega) (by omega) (by omega) (by omega)).mono ?_; rintro e w2 ⟨rfl,rfl⟩; rw [hbit]))
        go_round
        case rel=>exact ⟨4,rfl,.inr (.inr (.inr (.inr (.inl ⟨rfl,by show _=_; rw [← hg.out,hGo_step (hErr_5 hp.out hx.out hbit)]; rfl⟩))))⟩
        case measure=>simp [intOf]
       ·replace hbit:=eq_false_of_ne_true hbit
        clear ha
        go_wp2_with (first | (go_at_call 178; refine (hF.out _).mono ?_; rintro e w1 ⟨rfl,rfl⟩) | (go_at_call 127; refine (refHas _ _ _ (by omega) (by omega) (by omega) (by omega)).mono ?_; rintro e w2 ⟨rfl,rfl⟩; rw [hbit]))
        go_ret
        exact ⟨ret_int (by rw [← hg.out,hGo_stop (by rw [hErr_4 hp.out hx.out hbit]; decide),hErr_4 hp.out hx.out hbit]),hb⟩
   ·have hix:=ix4 (.int .i64 h0) (.int .i64 h1) (.int .i64 h2) (.int .i64 h3) (.int .i64 h4)
    by_cases hp0:n≤4
    ·have hp:=Lib.hid hp0
     have hp1:decide (n≤4)=true:=decide_eq_true hp0
     clear hp0
     by_cases hx:h4=0
     ·have hx':(h4 != 0)=false:=by simp [hx]
      replace hx:=Lib.hid hx
      go_wp2
      go_round
      case rel=>exact ⟨5,rfl,.inr (.inr (.inr (.inr (.inr (⟨rfl,by show _=_; rw [← hg.out,hGo_step (hErr_1 hp.out hx.out)]; rfl⟩)))))⟩
      case measure=>simp [intOf]
     ·have hx':(h4 != 0)=true:=by simpa using hx
      replace hx:=Lib.hid hx
      go_wp2
      go_ret
      exact ⟨ret_int (by rw [← hg.out,hGo_stop (by rw [hErr_2 hp.out hx.out]; decide),hErr_2 hp.out hx.out]),hb⟩
    ·have hp:=Lib.hid (show 4 < n by omega)
     have hp1:decide (n≤4)=false:=decide_eq_false hp0
     clear hp0
     by_cases hx0:h4 < 0
     ·have hx:=Lib.hid (show h4 < 0∨fullI n < h4 from .inl hx0)
      go_wp2
      go_ret
      exact ⟨ret_int (by rw [← hg.out,hGo_stop (by rw [hErr_3 hp.out hx.out]; decide),hErr_3 hp.out hx.out]),hb⟩
     ·have hx0':decide (h4 < 0)=false:=decide_eq_false hx0
      by_cases hx1:F < h4
      ·have hx:=Lib.hid (show h4 < 0∨fullI n < h4 from .inr (by rw [hFe.out]; exact hx1))
       go_wp2_with (first | (go_at_call 178; refine (hF.out _).mono ?_; rintro e w1 ⟨rfl,rfl⟩) | (go_at_call 127; refine (refHas _ _ _ (by omega) (by omega) (by omega) (by omega)).mono ?_; rintro e w2 ⟨rfl,rfl⟩; rw [hbit]))
       go_ret
       exact ⟨ret_int (by rw [← hg.out,hGo_stop (by rw [hErr_3 hp.out hx.out]; decide),hErr_3 hp.out hx.out]),hb⟩
      ·have hx1':decide (F < h4)=false:=decide_eq_false hx1
       have hx:=Lib.hid (show 0≤h4∧h4≤fullI n by rw [hFe.out]; omega)
       have ha:=and1 (x:=h4) (p:=4) (by omega) (by omega) (by omega) (by omega)
       by_cases hbit:hasI h4 4=true
       ·clear ha
        go_wp2_with (first | (go_at_call 178; refine (hF.out _).mono ?_; rintro e w1 ⟨rfl,rfl⟩) | (go_at_call 127; refine (refHas _ _ _ (by omega) (by omega) (by omega) (by omega)).mono ?_; rintro e w2 ⟨rfl,rfl⟩; rw [hbit]))
        go_round
        case rel=>exact ⟨5,rfl,.inr (.inr (.inr (.inr (.inr (⟨rfl,by show _=_; rw [← hg.out,hGo_step (hErr_5 hp.out hx.out hbit)]; rfl⟩)))))⟩
        case measure=>simp [intOf]
       ·replace hbit:=eq_false_of_ne_true hbit
        clear ha
        go_wp2_with (first | (go_at_call 178; refine (hF.out _).mono ?_; rintro e w1 ⟨rfl,rfl⟩) | (go_at_call 127; refine (refHas _ _ _ (by omega) (by omega) (by omega) (by omega)).mono ?_; rintro e w2 ⟨rfl,rfl⟩; rw [hbit]))
        go_ret
        exact ⟨ret_int (by rw [← hg.out,hGo_stop (by rw [hErr_4 hp.out hx.out hbit]; decide),hErr_4 hp.out hx.out hbit]),hb⟩
   ·go_wp2
    go_ret
    exact ⟨ret_int (by rw [← hg.out]; rfl),hb⟩
end Go.Proofs.YtmikofeildnpdaaGreat

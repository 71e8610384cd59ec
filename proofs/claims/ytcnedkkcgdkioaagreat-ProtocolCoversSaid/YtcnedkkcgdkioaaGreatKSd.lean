/- Texts of this claim, put together: Rd MX RK C0 C2 A7. -/
import Derived.OrdersIn
import Derived.Maps.Own
import Derived.DeepKeys5
import Derived.StringKeys
import Derived.Lib.Builder
import Derived.Lib.AppendStr
import Derived.Lib.UnsafeStr
import Derived.Lib.Strings
import Derived.Lib.Slices
import Derived.Lib.Walk
import Derived.Laws.Externs
import Derived.Laws.IdiomCopy
import Derived.Shelf.Strings.Builder1
import Derived.Test.YtcnedkkcgdkioaaGreatKSc
import Derived.IntWalk

set_option maxRecDepth 100000
set_option maxHeartbeats 12800000
namespace Go.Proofs.YtcnedkkcgdkioaaGreat
open Go.RowKit
theorem opIn_of_op {P:Program}{l0:Nat}{o:Oper}{a:Act}{w:World}{K:Act->World->Prop}{Q:Exit->Act->World->Prop}(hd:∀c,o.op ≠ .defer c) (h:o.wp P a w K Q) :
  o.wpIn (Fence.wide.inRound l0) 0 P a w K Q:=by
 refine⟨fun _ _=>trivial,?_⟩;unfold Oper.wp at h;rw[Oper.semAt_eq _ _ _ hd];generalize (execOp a.eval o).run P w=r at h|-
 have hdep:(Fence.wide.inRound l0).depth.isSome=true->1<=0:=fun h=>by simp[Fence.wide] at h
 cases r with
 | halt x w'=>cases x<;>first|exact h|exact h.elim
 | ok nx w'=>
  cases nx with
  | enter f args=>exact⟨hdep,CallsIn.inRound l0 (callsIn_wide.2 h)⟩
  | row r args=>exact⟨hdep,fun c cs _=>by
    obtain⟨v,w2,hr,hs⟩:=h c cs;exact⟨v,w2,hr,stepsIn_wide.2 hs⟩⟩
  | _=>first|exact h|exact h.elim
theorem anyIn_of_any {P:Program}{l0:Nat}{md:Region.Mode}{ops:Array Oper}{Q:Exit->Act->World->Prop}(hnd:∀(i:Nat) o,ops[i]? = some o->∀c,o.op ≠ .defer c) (hQ : ¬LetsOut Q) :
  ∀(fuel:Nat) (listed:Array Bool) (a:Act) (w:World),wpAny P md ops Q fuel listed a w->wpAnyIn (Fence.wide.inRound l0) 0 P md ops Q fuel listed a w
 | 0,_,_,_,h=>h
 | fuel+1,listed,a,w,h=>by
  refine⟨h.1,fun i hi=>?_⟩;have h1:=h.2 i hi;unfold wpOp at h1;unfold wpOpIn;cases ho:ops[i]? with
  | none=>rw[ho] at h1;exact anyIn_of_any hnd hQ fuel _ _ _ h1
  | some o=>
   rw[ho] at h1;simp only at h1|-
   by_cases hw:Region.wanted o (yielded ops a.tmps)=true
   ·rw[if_pos hw] at h1|-;refine opIn_of_op (hnd i o ho) ?_;exact Oper.wp_mono (fun a w hh=>anyIn_of_any hnd hQ fuel _ a w hh) (h1.resolve_right (fun hh=>hQ hh.2))
   ·rw[if_neg hw] at h1|-;exact⟨fun _ _=>trivial,anyIn_of_any hnd hQ fuel _ _ _ h1⟩
def noDefer (l:List Oper):Bool:=l.all fun o=>match o.op with | .defer _=>false|_=>true
theorem noDefer_get {l:List Oper}(h:noDefer l=true):∀(i:Nat) o,l.toArray[i]? = some o->∀c,o.op ≠ .defer c:=by
 intro i o ho c hc;have hm:o∈l:=by rw[List.getElem?_toArray] at ho;exact List.mem_of_getElem? ho
 have:=List.all_eq_true.1 h o hm
 rw[hc] at this;cases this
def mask (o:Oper):Oper:={ dst:=none,op:=.move (.const undef),type:=o.type,pos:=o.pos,after:=o.after,guard:=none }
def maskLast (n:Nat) (l:List Oper):List Oper:=l.take n++(l.drop n).map mask
def qtB (n:Nat) (l:List Oper):Bool:=
 decide (l.length=n+1) && Region.sinkB .any l.toArray n && (List.range l.length).all (fun i=>match l[i]? with|some o=>o.after.all fun e=>decide (e.on < i)|none=>true) &&
 Region.lexB .any (maskLast n l).toArray && ((l.drop n).all fun o=>o.guard.isNone)
theorem maskLast_get {n:Nat}{l:List Oper}(i:Nat):(maskLast n l)[i]? = if i < n then l[i]? else (l[i]?).map mask:=by
 unfold maskLast;by_cases h:i < (l.take n).length
 ·rw[List.getElem?_append_left h];have:i < n:=by rw[List.length_take] at h;omega
  rw[if_pos this,List.getElem?_take,if_pos this]
 ·rw[List.getElem?_append_right (by omega),List.getElem?_map,List.getElem?_drop];rw[List.length_take] at h|-;by_cases hi:i < n
  ·rw[if_pos hi];have:l.length<=i:=by omega
   rw[List.getElem?_eq_none (by omega:l.length<=n+(i - min n l.length)),List.getElem?_eq_none this];rfl
  ·rw[if_neg hi];by_cases hn:n<=l.length
   ·rw[show n+(i - min n l.length)=i by omega]
   ·rw[List.getElem?_eq_none (by omega:l.length<=n+(i - min n l.length)),List.getElem?_eq_none (by omega:l.length<=i)]
theorem maskLast_length (n:Nat) (l:List Oper):(maskLast n l).length=l.length:=by simp[maskLast];omega
theorem ready_mask (md:Region.Mode) (n:Nat) (l:List Oper) (listed:Array Bool):Region.ready md (maskLast n l).toArray listed=Region.ready md l.toArray listed:=by
 unfold Region.ready;simp only[List.size_toArray,maskLast_length,List.getElem?_toArray,maskLast_get];congr 1
 funext i
 by_cases h:i < n
 ·rw[if_pos h]
 ·rw[if_neg h];cases l[i]?<;>rfl
theorem wpQuiet_append {P:Program}{ops:Array Oper}{C:World->Prop}{Q:Act->Prop}:∀ {l1 l2:List Oper}{a:Act},wpQuiet P ops C (fun a=>wpQuiet P ops C Q l2 a) l1 a->wpQuiet P ops C Q (l1++l2) a
 | [],_,_,h=>h
 | o::l1,l2,a,h=>by
  rw[List.cons_append];unfold wpQuiet at h|-;split
  ·rename_i hw
   rw[if_pos hw] at h;exact Oper.quiet_mono (fun a hh=>wpQuiet_append hh) h
  ·rename_i hw
   rw[if_neg hw] at h;exact wpQuiet_append h
theorem wpQuiet_mono' {P:Program}{ops:Array Oper}{C:World->Prop}{Q Q':Act->Prop}(hq:∀a,Q a->Q' a):∀ {l:List Oper}{a:Act},wpQuiet P ops C Q l a->wpQuiet P ops C Q' l a
 | [],_,h=>hq _ h
 | o::l,a,h=>by
  unfold wpQuiet at h|-;split
  ·rename_i hw
   rw[if_pos hw] at h;exact Oper.quiet_mono (fun a hh=>wpQuiet_mono' hq hh) h
  ·rename_i hw
   rw[if_neg hw] at h;exact wpQuiet_mono' hq h
theorem any_of_quiet_last {P:Program}{C:World->Prop}{Qa:Act->Prop}{Q:Exit->Act->World->Prop}{n:Nat}{l:List Oper}{last:Oper}(hlen:l.length=n+1) (hlast:l[n]? = some last) (hg:last.guard=none)
  (hs:Region.sinkB .any l.toArray n=true) (hback:∀(i:Nat) (o:Oper),l[i]? = some o->∀e∈o.after,e.on < i)
  (hQ:∀a w,C w->Qa a->last.wp P a w (fun a w=>Q .normal a w) Q) (hng:∀(i:Nat) (o:Oper),l[i]? = some o->∀tmps,Region.wanted o (yielded (maskLast n l).toArray tmps)=Region.wanted o (yielded l.toArray tmps)) :
  ∀(fuel:Nat) (listed:Array Bool) (a:Act) (w:World),HeadInv .any l.toArray n listed->C w->wpAnyQ P .any (maskLast n l).toArray C Qa fuel listed a->1<=fuel->wpAny P .any l.toArray Q fuel listed a w
 | 0,_,_,_,_,_,_,h1=>absurd h1 (by omega)
 | fuel+1,listed,a,w,inv,hC,h,_=>by
  have hc:Region.chainB .any l.toArray n=true:=by
   refine List.all_eq_true.2 fun t ht=>?_;rw[List.mem_range,List.size_toArray] at ht;simp only[Bool.or_eq_true,decide_eq_true_eq];left;omega
  have hn:n < l.toArray.size:=by simp;omega
  -- something is ready
  have hne:Region.ready .any l.toArray listed ≠ []:=by
   have key:∀k,k < l.length->listed.getD k true=false->∃j,j∈Region.ready .any l.toArray listed:=by
    intro k;induction k using Nat.strongRecOn with
    | _ k ih=>
     intro hk hun;by_cases hall:∀e∈(l[k]'hk).after,Region.binds .any e=true->listed.getD e.on false=true
     ·exact⟨k,mem_ready.2 ⟨hun,l[k],by rw[List.getElem?_toArray,List.getElem?_eq_getElem hk],hall⟩⟩
     ·obtain⟨e,he⟩:=Classical.not_forall.1 hall;obtain⟨he1,he2⟩:=Classical.not_imp.1 he;obtain⟨_,he3⟩:=Classical.not_imp.1 he2;have hlt:=hback k l[k] (List.getElem?_eq_getElem hk) e he1;have hsz:e.on < listed.size:=(by rw[inv.size];simp;omega);exact ih e.on hlt (by omega) (getD_in hsz (by simpa using he3))
   obtain⟨j,hj⟩:=key n (by omega) (inv.tail n (Nat.le_refl _) hn);intro h0;rw[h0] at hj;cases hj
  refine⟨fun h0=>absurd h0 hne,fun i hi=>?_⟩;have hi':i∈Region.ready .any (maskLast n l).toArray listed:=by rw[ready_mask];exact hi
  have hq:=h.2 i hi';obtain⟨hiun,oi,hoi,_⟩:=mem_ready.1 hi;have hilt:i < l.length:=by have:=(Array.getElem?_eq_some_iff.1 hoi).1;simpa using this
  by_cases hin:i < n
  ·have hoi':(maskLast n l).toArray[i]? = some oi:=by rw[List.getElem?_toArray,maskLast_get,if_pos hin,<-List.getElem?_toArray];exact hoi
   have hq2:qOp P l.toArray C i (wpAnyQ P .any (maskLast n l).toArray C Qa fuel (listed.setIfInBounds i true)) a:=by
    unfold qOp at hq|-;rw[hoi'] at hq;rw[hoi];simp only at hq|-
    rw[hng i oi (by simpa using hoi)] at hq;exact hq
   have hf:1<=fuel:=by
    cases fuel with
    | succ f=>omega
    | zero=>
     obtain⟨v,hy,hK⟩:=yieldsIn_of_qOp hoi hq2;have hnr:=hK.1;rw[ready_mask] at hnr;have inv2:=inv.set hi hin
     have key:∀k,k < l.length->(listed.setIfInBounds i true).getD k true=false->∃j,j∈Region.ready .any l.toArray (listed.setIfInBounds i true):=by
      intro k;induction k using Nat.strongRecOn with
      | _ k ih=>
       intro hk hun;by_cases hall:∀e∈(l[k]'hk).after,Region.binds .any e=true->(listed.setIfInBounds i true).getD e.on false=true
       ·exact⟨k,mem_ready.2 ⟨hun,l[k],by rw[List.getElem?_toArray,List.getElem?_eq_getElem hk],hall⟩⟩
       ·obtain⟨e,he⟩:=Classical.not_forall.1 hall;obtain⟨he1,he2⟩:=Classical.not_imp.1 he;obtain⟨_,he3⟩:=Classical.not_imp.1 he2;have hlt:=hback k l[k] (List.getElem?_eq_getElem hk) e he1;have hsz:e.on < (listed.setIfInBounds i true).size:=(by rw[inv2.size];simp;omega);exact ih e.on hlt (by omega) (getD_in hsz (by simpa using he3))
     obtain⟨j,hj⟩:=key n (by omega) (inv2.tail n (Nat.le_refl _) hn);rw[hnr] at hj;cases hj
   exact wpOp_of_qOp hC (fun a' w' hC' hK=>any_of_quiet_last hlen hlast hg hs hback hQ hng fuel _ a' w' (inv.set hi hin) hC' hK hf) hq2
  ·obtain rfl:i=n:=by omega
   have hol:oi=last:=by
    rw[List.getElem?_toArray,hlast] at hoi;exact(Option.some.inj hoi).symm
   subst hol;-- all others are listed
   have hall:∀j,j < i->listed.getD j true=true:=by
    intro j hj;cases hb:listed.getD j true with
    | true=>rfl
    | false=>exact absurd hi (tail_waits hs hc hn inv _ j rfl hj hb i (Nat.le_refl _))
   have hend:Region.ready .any l.toArray (listed.setIfInBounds i true) = []:=by
    cases hR:Region.ready .any l.toArray (listed.setIfInBounds i true) with
    | nil=>rfl
    | cons j r=>
     have hj:j∈Region.ready .any l.toArray (listed.setIfInBounds i true):=(by rw[hR];simp);obtain⟨hjun,oj,hoj,_⟩:=mem_ready.1 hj;have hjlt:j < l.length:=(by have:=(Array.getElem?_eq_some_iff.1 hoj).1;simpa using this);by_cases hji:i=j
     ·subst hji;have:i < listed.size:=by rw[inv.size];simpa using hilt
      simp[this] at hjun
     ·rw[getD_set_ne true hji] at hjun;rw[hall j (by omega)] at hjun;cases hjun
   have hKa:Qa a:=by
    unfold qOp at hq;have hml:(maskLast i l).toArray[i]? = some (mask oi):=(by rw[List.getElem?_toArray,maskLast_get,if_neg (by omega),hlast];rfl);rw[hml] at hq;simp only[Region.wanted,mask,if_true] at hq;obtain⟨v,_,hK⟩:=hq;have hK':wpAnyQ P .any (maskLast i l).toArray C Qa fuel (listed.setIfInBounds i true) a:=hK;cases fuel with
    | zero=>exact hK'.2
    | succ f=>exact hK'.1 (by rw[ready_mask];exact hend)
   unfold wpOp;rw[hoi];simp only[Region.wanted,hg,if_true];refine .inl (Oper.wp_mono (fun a' w' hh=>?_) (hQ a w hC hKa));cases fuel with
   | zero=>exact⟨hend,hh⟩
   | succ f=>exact⟨fun _=>hh,fun j hj=>by rw[hend] at hj;cases hj⟩
def noGuard (l:List Oper):Bool:=l.all fun o=>o.guard.isNone
theorem noGuard_get {l:List Oper}(h:noGuard l=true) {i:Nat}{o:Oper}(ho:l[i]? = some o):o.guard=none:=by
 have:=List.all_eq_true.1 h o (List.mem_of_getElem? ho)
 simpa using this
theorem any_qtail {P:Program}{Q:Exit->Act->World->Prop}{a:Act}{w:World}{l:List Oper}(n:Nat) (hB:qtB n l=true) (hg:noGuard l=true)
  (h:wpQuiet P (maskLast n l).toArray (fun w'=>∃k,w'=w.drewN k) (fun a'=>∀k,wpList P l.toArray Q (l.drop n) a' (w.drewN k)) (l.take n) a) (hQ : ¬LetsOut Q) :
  wpAny P .any l.toArray Q l.toArray.size (Array.replicate l.toArray.size false) a w.drew:=by
 simp only[qtB,Bool.and_eq_true,decide_eq_true_eq] at hB;obtain⟨⟨⟨⟨hlen,hs⟩,hb⟩,hlex⟩,_⟩:=hB
 have hback:∀(i:Nat) (o:Oper),l[i]? = some o->∀e∈o.after,e.on < i:=by
  intro i o ho e he;have:=List.all_eq_true.1 hb i (List.mem_range.2 (List.getElem?_eq_some_iff.1 ho).1)
  rw[ho] at this;simp only at this
  exact of_decide_eq_true (Array.all_eq_true'.1 this e he)
 have hlt:n < l.length:=by omega
 have hlast:l[n]? = some l[n]:=List.getElem?_eq_getElem hlt;have hdrop:l.drop n = [l[n]]:=by rw[List.drop_eq_getElem_cons hlt,List.drop_eq_nil_of_le (by omega)]
 have hgl:l[n].guard=none:=noGuard_get hg hlast
 have start:HeadInv .any l.toArray n (Array.replicate l.toArray.size false):=
  ⟨by simp,fun j oj _ hh=>(by rw[getD_replicate_false] at hh;cases hh),fun t _ ht=>getD_in (by simpa using ht) (getD_replicate_false _ _)⟩
 refine any_of_quiet_last (C:=fun w'=>∃k,w'=w.drewN k) (Qa:=fun a'=>∀k,wpList P l.toArray Q (l.drop n) a' (w.drewN k)) hlen hlast hgl hs hback ?_ ?_ _ _ _ _ start ⟨1,rfl⟩ ?_ (by simp;omega)
 ·rintro a w' ⟨k,rfl⟩ hh;have h1:=hh k;rw[hdrop] at h1;unfold wpList at h1;rw[if_pos (by simp[Region.wanted,hgl])] at h1;exact Oper.wp_mono (fun a w hh=>hh) (h1.resolve_right (fun hh=>hQ hh.2))
 ·intro i o ho tmps;simp[Region.wanted,noGuard_get hg ho]
 ·simp only[Region.lexB,Bool.and_eq_true] at hlex;have hml:(maskLast n l)=l.take n ++ [mask l[n]]:=by rw[maskLast,hdrop];rfl
  have hw:wpQuiet P (maskLast n l).toArray (fun w'=>∃k,w'=w.drewN k) (fun a'=>∀k,wpList P l.toArray Q (l.drop n) a' (w.drewN k)) (maskLast n l) a:=by
   conv=>arg 5;rw[hml]
   refine wpQuiet_append ?_;refine wpQuiet_mono' ?_ h;intro a' hh;unfold wpQuiet;rw[if_pos (by simp[Region.wanted,mask])];exact⟨undef,fun w' _=>⟨rfl,rfl⟩,hh⟩
  have:=wpAnyQ_lex (C:=fun w'=>∃k,w'=w.drewN k) (md:=.any) hlex.1 (maskLast n l) 0 (Array.replicate (maskLast n l).toArray.size false) a (by simp) (by simpa using hlex.2) hw
  simpa [maskLast_length] using this
theorem wpIn_region_qtail {P:Program}{l0 id:Nat}{Q:Exit->Act->World->Prop}{a:Act}{w:World}{l:List Oper}(n:Nat) (hm:P.follows .mixedOrders=true) (hB:qtB n l=true) (hg:noGuard l=true)
  (hd:noDefer l=true) (hQ : ¬LetsOut Q) (h:∀ops',wpQuiet P ops' (fun w'=>∃k,w'=w.drewN k) (fun a'=>∀k,wpList P l.toArray Q (l.drop n) a' (w.drewN k)) (l.take n) a) :
  (Code.region id l.toArray true).wpIn (Fence.wide.inRound l0) 0 P Q a w:=
 wpIn_region_any hm (anyIn_of_any (noDefer_get hd) hQ _ _ _ _ (any_qtail n hB hg (h _) hQ))
end Go.Proofs.YtcnedkkcgdkioaaGreat
namespace Go.Proofs.YtcnedkkcgdkioaaGreat
open Go.RowKit Go.ChangeMaps Go.MapKept Go.WideMaps
section
variable {κ ν:Type}
def MX (kv:κ->Value) (vv:ν->Value) (w:World) (b:Nat) (m:List (κ × ν)):Prop:=
 ∃es clock,w.heap[b]? = some (.map es clock)/\es.toList.map (fun e=>(e.key,e.val))=m.map (fun p=>(kv p.1,vv p.2))
structure KeyX (P:Program) (K:TypeId) (kv:κ->Value) (S:κ->Prop):Prop where
 law:Maps.Keyed P K
 has:∀x,S x->∃l,keyOf P K (kv x)=some l
 inj:∀x y,S x->S y->kv x=kv y->x=y
variable {P:Program} {K E M:TypeId} {kv:κ->Value} {vv:ν->Value} {S:κ->Prop} {m:List (κ × ν)} {x:κ} {w:World} {b:Nat}
theorem MX.lt (h:MX kv vv w b m):b < w.heap.size:=by
 obtain⟨es,clock,hb,_⟩:=h;exact(Array.getElem?_eq_some_iff.1 hb).1
theorem MX.keep {w':World}(h:MX kv vv w b m) (hb:w'.heap[b]? = w.heap[b]?):MX kv vv w' b m:=by
 obtain⟨es,clock,h1,h2⟩:=h;exact⟨es,clock,hb.trans h1,h2⟩
theorem MX.made (w:World):MX kv vv (w.alloc (.map #[] 0)) w.heap.size []:=⟨#[],0,heap_alloc_new w _,rfl⟩
theorem MX.find (hX:KeyX P K kv S) (hm:∀p∈m,S p.1) (hx:S x) {l:List MapEntry}(h:l.map (fun e=>(e.key,e.val))=m.map (fun p=>(kv p.1,vv p.2))) (w:World) :
  (x ∉ m.map Prod.fst/\(Instr.findKey K (kv x) l).run P w = .ok none w)\/(∃j v,(x,v)∈m/\(Instr.findKey K (kv x) l).run P w = .ok (some (j,vv v)) w/\m[j]? = some (x,v)):=by
 obtain⟨lx,hlx⟩:=hX.has x hx
 have hk:∀(j:Nat) (e:MapEntry),l[j]? = some e->∃p:κ × ν,m[j]? = some p/\e.key=kv p.1/\e.val=vv p.2:=by
  intro j e he;have h1:(l.map (fun e:MapEntry=>(e.key,e.val)))[j]? = some (e.key,e.val):=by rw[List.getElem?_map,he];rfl
  rw[h,List.getElem?_map] at h1;cases hp:m[j]? with
  | none=>rw[hp] at h1;cases h1
  | some p=>
   rw[hp] at h1;simp only[Option.map_some,Option.some.injEq,Prod.mk.injEq] at h1;exact⟨p,rfl,h1.1.symm,h1.2.symm⟩
 have hks:∀e∈l,∃k,keyOf P K e.key=some k:=fun e he=>by
  obtain⟨j,hj⟩:=List.mem_iff_getElem?.1 he;obtain⟨p,hp,h1,_⟩:=hk j e hj;rw[h1];exact hX.has _ (hm p (List.mem_of_getElem? hp))
 rcases hX.law.find w hlx l hks with⟨h1,h2⟩|⟨j,e,h1,h2,h3⟩
 ·refine .inl ⟨fun hin=>?_,h1⟩;obtain⟨p,hp,rfl⟩:=List.mem_map.1 hin;have:(kv p.1,vv p.2)∈l.map (fun e:MapEntry=>(e.key,e.val)):=h▸List.mem_map_of_mem (f:=fun p:κ × ν=>(kv p.1,vv p.2)) hp
  obtain⟨e,he,hek⟩:=List.mem_map.1 this;injection hek with h3 _;exact h2 e he h3
 ·obtain⟨q,hq,hq1,hq2⟩:=hk j e h2;have hqx:q.1=x:=hX.inj _ _ (hm q (List.mem_of_getElem? hq)) hx (by rw[<-hq1,h3]);refine .inr ⟨j,q.2,?_,by rw[h1,hq2],?_⟩
  ·rw[<-hqx];exact List.mem_of_getElem? hq
  ·rw[hq,<-hqx]
theorem MX.look {z:Value}(hX:KeyX P K kv S) (hM:P.underlying M=some (.map K E)) (hz:(zeroValue E).run P w = .ok z w) (h:MX kv vv w b m) (hm:∀p∈m,S p.1) (hx:S x) :
  (x ∉ m.map Prod.fst/\(Instr.lookup M (.map (some b)) (kv x) false).run P w = .ok z w/\(Instr.lookup M (.map (some b)) (kv x) true).run P w = .ok (.tuple #[z,.bool false]) w)\/
  (∃v,(x,v)∈m/\(Instr.lookup M (.map (some b)) (kv x) false).run P w = .ok (vv v) w/\(Instr.lookup M (.map (some b)) (kv x) true).run P w = .ok (.tuple #[vv v,.bool true]) w):=by
 obtain⟨es,clock,hb,hk⟩:=h;obtain⟨lx,hlx⟩:=hX.has x hx;have hc:=fun e=>hX.law.check w e hlx;rcases MX.find hX hm hx hk w with⟨h1,h2⟩|⟨j,v,h1,h2,_⟩
 ·refine .inl ⟨h1,?_,?_⟩<;>simp[Instr.lookup,run_underlying hM,MapKept.run_getObj_map hb,hc,h2,Result.andThen,hz]
 ·refine .inr ⟨v,h1,?_,?_⟩<;>simp[Instr.lookup,run_underlying hM,MapKept.run_getObj_map hb,hc,h2,Result.andThen]
theorem MX.put (hX:KeyX P K kv S) (hM:P.underlying M=some (.map K E)) (h:MX kv vv w b m) (hm:∀p∈m,S p.1) (hx:S x) (hn:x ∉ m.map Prod.fst) (v:ν) :
  ∃o,(Instr.mapUpdate M (.map (some b)) (kv x) (vv v)).run P w = .ok () (setBlock w b o)/\MX kv vv (setBlock w b o) b (m ++ [(x,v)]):=by
 obtain⟨es,clock,hb,hk⟩:=h;obtain⟨lx,hlx⟩:=hX.has x hx;have hc:=hX.law.check w false hlx;rcases MX.find hX hm hx hk w with⟨h1,h2⟩|⟨j,v',h1,_⟩
 ·refine⟨.map (es.push ⟨kv x,vv v,clock⟩) (clock+1),?_,_,_,heap_setBlock_same hb _,?_⟩
  ·simp[Instr.mapUpdate,run_underlying hM,MapKept.run_getObj_map hb,hc,h2,MapKept.run_setObj_map _ hb,Result.andThen,setBlock]
  ·rw[Array.toList_push,List.map_append,hk,List.map_append];rfl
 ·exact absurd (List.mem_map.2 ⟨_,h1,rfl⟩) hn
end
end Go.Proofs.YtcnedkkcgdkioaaGreat
namespace Go.Proofs.YtcnedkkcgdkioaaGreat
open Go.RowKit Go.ChangeMaps Go.MapKept Go.WideMaps
def WfR (r:List Int):Prop:=r.length=7/\∀x∈r,0<=x/\x<=1000000
theorem und_int : Tryz.prog.underlying 3=some (.int .i64):=by kernel_rfl
theorem typesSize:∃m,Tryz.prog.types.size=m+3:=⟨Tryz.prog.types.size - 3,by
 have:decide (2 < Tryz.prog.types.size)=true:=by kernel_rfl
 have:=of_decide_eq_true this
 omega⟩
end Go.Proofs.YtcnedkkcgdkioaaGreat
namespace Go.Proofs.YtcnedkkcgdkioaaGreat
open Go.RowKit Go.ChangeMaps Go.MapKept Go.WideMaps
def ixOf {κ:Type} [DecidableEq κ] (l:List κ) (x:κ):Nat:=l.idxOf x
def mvTo (m:List Int):Nat:=(m.getD 7 0).toNat
def rdOf (m:List Int):List Int:=m.take 7
def natI (l:List Nat):List Int:=l.map (fun n:Nat=>(n:Int))
def IM {κ:Type}(kv:κ->Value) (w:World) (b:Nat) (seen:List κ):Prop:=MX kv (fun n:Nat=>Value.int .i64 (n:Int)) w b seen.zipIdx
section
variable {κ:Type} [DecidableEq κ] {P:Program} {K E M:TypeId} {kv:κ->Value} {S:κ->Prop} {seen:List κ} {x:κ} {w:World} {b:Nat}
omit [DecidableEq κ] in
theorem zipIdx_fst (l:List κ):l.zipIdx.map Prod.fst=l:=by simp[List.zipIdx_map_fst]
theorem zipIdx_snd {l:List κ}(hn:l.Nodup) {x:κ}{v:Nat}(h:(x,v)∈l.zipIdx):v=ixOf l x:=by
 rw[List.mk_mem_zipIdx_iff_getElem?] at h;obtain⟨hv,hx⟩:=List.getElem?_eq_some_iff.1 h;rw[<-hx];exact(hn.idxOf_getElem v hv).symm
omit [DecidableEq κ] in
theorem IM.keys (hs:∀y∈seen,S y):∀p∈seen.zipIdx,S p.1:=fun p hp=>hs _ (by have:=List.mem_map_of_mem (f:=Prod.fst) hp;rwa [zipIdx_fst] at this)
theorem IM.look (hX:KeyX P K kv S) (hM:P.underlying M=some (.map K E)) (hz:∀w,(zeroValue E).run P w = .ok (.int .i64 0) w) (h:IM kv w b seen) (hn:seen.Nodup) (hs:∀y∈seen,S y) (hx:S x) :
  (x ∉ seen/\(Instr.lookup M (.map (some b)) (kv x) false).run P w = .ok (.int .i64 0) w/\(Instr.lookup M (.map (some b)) (kv x) true).run P w = .ok (.tuple #[.int .i64 0,.bool false]) w)\/
  (x∈seen/\(Instr.lookup M (.map (some b)) (kv x) false).run P w = .ok (.int .i64 (ixOf seen x:Nat)) w/\(Instr.lookup M (.map (some b)) (kv x) true).run P w = .ok (.tuple #[.int .i64 (ixOf seen x:Nat),.bool true]) w):=by
 rcases MX.look hX hM (hz w) h (IM.keys hs) hx with⟨h1,h2⟩|⟨v,h1,h2⟩
 ·rw[zipIdx_fst] at h1;exact .inl ⟨h1,h2⟩
 ·have hv:=zipIdx_snd hn h1;subst hv;exact .inr ⟨by have:=List.mem_map_of_mem (f:=Prod.fst) h1;rwa [zipIdx_fst] at this,h2⟩
omit [DecidableEq κ] in
theorem IM.put (hX:KeyX P K kv S) (hM:P.underlying M=some (.map K E)) (h:IM kv w b seen) (hs:∀y∈seen,S y) (hx:S x) (hn:x ∉ seen) :
  ∃o,(Instr.mapUpdate M (.map (some b)) (kv x) (.int .i64 (seen.length:Nat))).run P w = .ok () (setBlock w b o)/\IM kv (setBlock w b o) b (seen ++ [x]):=by
 obtain⟨o,h1,h2⟩:=MX.put hX hM h (IM.keys hs) hx (by rw[zipIdx_fst];exact hn) seen.length;refine⟨o,h1,?_⟩;unfold IM;rw[List.zipIdx_append];simpa using h2
omit [DecidableEq κ] in
theorem IM.lt (h:IM kv w b seen):b < w.heap.size:=MX.lt h
omit [DecidableEq κ] in
theorem IM.keep {w':World}(h:IM kv w b seen) (hb:w'.heap[b]? = w.heap[b]?):IM kv w' b seen:=MX.keep h hb
end
end Go.Proofs.YtcnedkkcgdkioaaGreat
namespace Go.Proofs.YtcnedkkcgdkioaaGreat
open Go.RowKit Go.ChangeMaps Go.MapKept
theorem wp_region_qtail {P:Program}{id:Nat}{Q:Exit->Act->World->Prop}{a:Act}{w:World}{l:List Oper}(n:Nat) (hm:P.follows .mixedOrders=true) (hB:qtB n l=true) (hg:noGuard l=true)
  (hQ : ¬LetsOut Q) (h:∀ops',wpQuiet P ops' (fun w'=>∃k,w'=w.drewN k) (fun a'=>∀k,wpList P l.toArray Q (l.drop n) a' (w.drewN k)) (l.take n) a) :
  (Code.region id l.toArray true).wp P Q a w:=
 wp_region_any hm (any_qtail n hB hg (h _) hQ)
end Go.Proofs.YtcnedkkcgdkioaaGreat
namespace Go.Proofs.YtcnedkkcgdkioaaGreat
open Go.RowKit
theorem a7c2 {w:World}{b:Nat}{t:TypeId}{u0 u1:Value}(h:w.heap[b]? = some (.cells #[u0,u1] t)):w.cell? ⟨b,0,none⟩=some u0/\w.cell? ⟨b,1,none⟩=some u1:=by
 refine⟨?_,?_⟩<;>(rw[cell_of_row _ b _ _ _ _ h];rfl)
theorem a7c7 {w:World}{b:Nat}{t:TypeId}{u0 u1 u2 u3 u4 u5 u6:Value}(h:w.heap[b]? = some (.cells #[u0,u1,u2,u3,u4,u5,u6] t)):w.cell? ⟨b,0,none⟩=some u0/\w.cell? ⟨b,1,none⟩=some u1/\w.cell? ⟨b,2,none⟩=some u2/\w.cell? ⟨b,3,none⟩=some u3/\w.cell? ⟨b,4,none⟩=some u4/\w.cell? ⟨b,5,none⟩=some u5/\w.cell? ⟨b,6,none⟩=some u6:=by
 refine⟨?_,?_,?_,?_,?_,?_,?_⟩<;>(rw[cell_of_row _ b _ _ _ _ h];rfl)
def mvErr (n:Int) (len:Nat) (ms:Jb) (i:Nat):Int:=
 if chkRd ((ms.getD i []).take 7) ≠ 0 then chkRd ((ms.getD i []).take 7) else if (ms.getD i []).getD 0 0 ≠ n then 22
 else if 0 < i/\0<=cmpL ((ms.getD (i - 1) []).take 7) ((ms.getD i []).take 7) then 14 else if (ms.getD i []).getD 7 0 < 0\/(len:Int)<=(ms.getD i []).getD 7 0 then 2 else 0
theorem mvErr_1 {n:Int}{len:Nat}{ms:Jb}{i:Nat}{x:List Int}(hx:ms.getD i []=x) (h:chkRd (x.take 7) ≠ 0):mvErr n len ms i=chkRd (x.take 7):=by rw[mvErr,hx,if_pos h]
theorem mvErr_2 {n:Int}{len:Nat}{ms:Jb}{i:Nat}{x:List Int}(hx:ms.getD i []=x) (h:chkRd (x.take 7)=0) (h2:x.getD 0 0 ≠ n):mvErr n len ms i=22:=by rw[mvErr,hx,if_neg (fun k=>k h),if_pos h2]
theorem mvErr_3 {n:Int}{len:Nat}{ms:Jb}{i:Nat}{x y:List Int}(hx:ms.getD i []=x) (hy:ms.getD (i - 1) []=y) (h:chkRd (x.take 7)=0) (h2:x.getD 0 0=n) (hi:0 < i) (h3:0<=cmpL (y.take 7) (x.take 7)):mvErr n len ms i=14:=by
 rw[mvErr,hx,hy,if_neg (fun k=>k h),if_neg (fun k=>k h2),if_pos ⟨hi,h3⟩]
theorem mvErr_4 {n:Int}{len:Nat}{ms:Jb}{i:Nat}{x:List Int}(hx:ms.getD i []=x) (h:chkRd (x.take 7)=0) (h2:x.getD 0 0=n) (h3 : ¬(0 < i/\0<=cmpL ((ms.getD (i - 1) []).take 7) (x.take 7))) (h4:x.getD 7 0 < 0\/(len:Int)<=x.getD 7 0):mvErr n len ms i=2:=by
 rw[mvErr,hx,if_neg (fun k=>k h),if_neg (fun k=>k h2),if_neg h3,if_pos h4]
theorem mvErr_5 {n:Int}{len:Nat}{ms:Jb}{i:Nat}{x:List Int}(hx:ms.getD i []=x) (h:chkRd (x.take 7)=0) (h2:x.getD 0 0=n) (h3 : ¬(0 < i/\0<=cmpL ((ms.getD (i - 1) []).take 7) (x.take 7))) (h4 : ¬(x.getD 7 0 < 0\/(len:Int)<=x.getD 7 0)):mvErr n len ms i=0:=by
 rw[mvErr,hx,if_neg (fun k=>k h),if_neg (fun k=>k h2),if_neg h3,if_neg h4]
def fewA (ss:Jc):Bool:=decide (ss.length<=8) && decide (movesN ss<=40)
theorem refFew {w:World}{v:Value}{n:Int}{ss:Jc}(h:AdvV w v n ss):Calls Tryz.prog 101 #[v] w fun e w'=>e = .returned (.bool (fewA ss))/\Below w.heap.size w w':=by
 have h0:=h;obtain⟨sv,rfl,a,c,b,off,rfl,ha,hc,_⟩:=h;have hb:=(Below.refl w.heap.size w).alloc (Nat.le_refl _) (.cells #[.int .i64 n,.slice a ss.length c] 27);by_cases h8:ss.length<=8
 ·have HM:=qH (refMoves (h0.keep hb) (by omega));have e:=qH (show fewA ss=decide (movesN ss<=40) by simp[fewA,h8]);obtain⟨m,hm⟩:=exE (movesN ss);rw[hm] at HM e;have h8':decide ((ss.length:Int)<=8)=true:=decide_eq_true (by omega);clear ha hc hm h0;go_enter Tryz.func101, Tryz.ntmps101
  go_wp2_with fail
  refine HM.out.mono ?_;rintro e1 w1 ⟨rfl,hb1⟩;go_wp2;go_ret;exact⟨ret_bool (by rw[e.out];norm_cast),bt hb hb1 hb.size⟩
 ·have e:=qH (show fewA ss=false by simp[fewA,h8]);have h8':decide ((ss.length:Int)<=8)=false:=decide_eq_false (by omega);clear ha hc h0;go_enter Tryz.func101, Tryz.ntmps101
  go_wp2;go_ret;exact⟨ret_bool e.out.symm,hb⟩
theorem below_of_drew {w w':World}(h:Below w.drew.heap.size w.drew w'):Below w.heap.size w w':=((Below.refl _ w).drew).trans h
theorem refMove {w:World}{v mv:Value}{n:Int}{ss:Jc}{ms:Jb}{i:Nat}(hA:AdvV w v n ss) (hM:KS 8 w mv ms) (hi:i < ms.length) (_hl:ss.length<=256) :
  Calls Tryz.prog 210 #[v,mv,.int .i64 i] w fun e w'=>e = .returned (.int .i64 (mvErr n ss.length ms i))/\Below w.heap.size w w':=by
 obtain⟨sv,rfl,sa,sc,sb,so,rfl,hsa,hsc,_⟩:=hA;obtain⟨ma,mc,mb,mo,rfl,hma,hmc,hml⟩:=hM;obtain rfl:=hma (by omega);clear hma hsa hsc;obtain⟨hx8,hxc⟩:=hmc i hi;obtain⟨x,hx⟩:=exE (ms.getD i []);rw[hx] at hx8 hxc;obtain⟨y0,y1,y2,y3,y4,y5,y6,y7,rfl⟩:=eight hx8;clear hx8;have hb:=(Below.refl w.heap.size w).alloc (Nat.le_refl _) (.cells #[.int .i64 n,.slice sa ss.length sc] 27);have hb2:=hb.alloc hb.size (.cells #[.int .i64 y0,.int .i64 y1,.int .i64 y2,.int .i64 y3,.int .i64 y4,.int .i64 y5,.int .i64 y6] 148);have hs0:((w.alloc (.cells #[.int .i64 n,.slice sa ss.length sc] 27)).alloc (.cells #[.int .i64 y0,.int .i64 y1,.int .i64 y2,.int .i64 y3,.int .i64 y4,.int .i64 y5,.int .i64 y6] 148)).heap[w.heap.size]? = some (.cells #[.int .i64 n,.slice sa ss.length sc] 27):=(Below.heap_alloc _ _ _ (by simp)).trans (heap_alloc_new w _)
 have hs1:((w.alloc (.cells #[.int .i64 n,.slice sa ss.length sc] 27)).alloc (.cells #[.int .i64 y0,.int .i64 y1,.int .i64 y2,.int .i64 y3,.int .i64 y4,.int .i64 y5,.int .i64 y6] 148)).heap[w.heap.size+1]? = some (.cells #[.int .i64 y0,.int .i64 y1,.int .i64 y2,.int .i64 y3,.int .i64 y4,.int .i64 y5,.int .i64 y6] 148):=by
  have:=heap_alloc_new (w.alloc (.cells #[.int .i64 n,.slice sa ss.length sc] 27)) (.cells #[.int .i64 y0,.int .i64 y1,.int .i64 y2,.int .i64 y3,.int .i64 y4,.int .i64 y5,.int .i64 y6] 148);rwa [World.size_alloc] at this
 replace hs0:=qH hs0;replace hs1:=qH hs1;obtain⟨c0,c1,c2,c3,c4,c5,c6,_⟩:=(hxc.keep hb).all8;replace hxc:=qH hxc;obtain⟨E,hE⟩:=exE (chkRd [y0,y1,y2,y3,y4,y5,y6]);have HC:=fun W=>refRoundCheck y0 y1 y2 y3 y4 y5 y6 W;rw[hE] at HC;replace HC:=qH HC;replace hE:=qH hE;replace hx:=qH hx;by_cases hz:E=0
 ·subst hz;by_cases hn:y0=n
  ·have hn':(y0 != n)=false:=(by simp[hn]);replace hn:=qH hn;by_cases hi0:0 < i
   ·have hi1:decide (0 < i)=true:=decide_eq_true hi0;obtain⟨hy8,hyc⟩:=hmc (i - 1) (by omega);obtain⟨y,hy⟩:=exE (ms.getD (i - 1) []);rw[hy] at hy8 hyc;obtain⟨z0,z1,z2,z3,z4,z5,z6,z7,rfl⟩:=eight hy8;clear hy8 hmc;obtain⟨j,rfl⟩:∃j,i=j+1:=⟨i - 1,by omega⟩;rw[Nat.add_sub_cancel] at hyc hy;replace hyc:=qH hyc;have HM:=fun W=>refRoundCompare z0 z1 z2 z3 z4 z5 z6 y0 y1 y2 y3 y4 y5 y6 W;obtain⟨C,hC⟩:=exE (cmpL [z0,z1,z2,z3,z4,z5,z6] [y0,y1,y2,y3,y4,y5,y6]);rw[hC] at HM;replace HM:=qH HM;replace hC:=qH hC;replace hy:=qH hy;by_cases hCz:0<=C
    ·have hC1:decide (0<=C)=true:=decide_eq_true hCz;replace hCz:=qH hCz;go_enter Tryz.func210, Tryz.ntmps210
     go_wp2_with fail
     refine(HC.out _).mono ?_;rintro e w1 ⟨rfl,hb1⟩;have k0:=(hb1.block _ (by simp;omega)).trans hs0.out;have k1:=(hb1.block _ (by simp)).trans hs1.out;have bw:=bt hb2 hb1 hb2.size;clear c0 c1 c2 c3 c4 c5 c6 hs0 hs1;obtain⟨d0,d1⟩:=a7c2 k0;obtain⟨r0,r1,r2,r3,r4,r5,r6⟩:=a7c7 k1;obtain⟨e0,e1,e2,e3,e4,e5,e6,_⟩:=((hyc.out.keep (bt hb2 hb1 hb2.size))).all8;have hwr:IntKind.i64.wrap (j:Int)=(j:Int):=IntWalk.i64_in _ (by omega);have hj0:(0:Int)<=(j:Int):=Int.natCast_nonneg _;have hj1:(j:Int) < (ms.length:Int):=(by omega);go_wp2;go_still_tail 10,(by kernel_rfl)
     change wpList _ _ _ _ _ w1.drew;clear hwr;go_wp2_with fail
     refine(HM.out _).mono ?_;rintro e w2 ⟨rfl,hb3⟩;replace hb3:=below_of_drew hb3;have b2:=bt bw hb3 bw.size;clear e0 e1 e2 e3 e4 e5 e6;go_wp2;go_ret;exact⟨ret_int (mvErr_3 (y:=[z0,z1,z2,z3,z4,z5,z6,z7]) hx.out (by rw[Nat.add_sub_cancel];exact hy.out) hE.out hn.out (by omega) (by show 0<=cmpL [z0,z1,z2,z3,z4,z5,z6] [y0,y1,y2,y3,y4,y5,y6];rw[hC.out];exact hCz.out)).symm,b2⟩
    ·have hC1:decide (0<=C)=false:=decide_eq_false hCz
     have h3:Hid (¬(0 < j+1/\0<=cmpL ((ms.getD (j+1 - 1) []).take 7) ([y0,y1,y2,y3,y4,y5,y6,y7].take 7))):=fun k=>by
      have k2:=k.2;rw[Nat.add_sub_cancel,hy.out] at k2;have k3:0<=cmpL [z0,z1,z2,z3,z4,z5,z6] [y0,y1,y2,y3,y4,y5,y6]:=k2;rw[hC.out] at k3;exact hCz k3
     clear hCz;by_cases q1:y7 < 0
     ·have q1':decide (y7 < 0)=true:=decide_eq_true q1;have q:=qH (show y7 < 0\/(ss.length:Int)<=y7 from .inl q1);clear q1;go_enter Tryz.func210, Tryz.ntmps210
      go_wp2_with fail
      refine(HC.out _).mono ?_;rintro e w1 ⟨rfl,hb1⟩;have k0:=(hb1.block _ (by simp;omega)).trans hs0.out;have k1:=(hb1.block _ (by simp)).trans hs1.out;have bw:=bt hb2 hb1 hb2.size;clear c0 c1 c2 c3 c4 c5 c6 hs0 hs1;obtain⟨d0,d1⟩:=a7c2 k0;obtain⟨r0,r1,r2,r3,r4,r5,r6⟩:=a7c7 k1;obtain⟨e0,e1,e2,e3,e4,e5,e6,_⟩:=((hyc.out.keep (bt hb2 hb1 hb2.size))).all8;have hwr:IntKind.i64.wrap (j:Int)=(j:Int):=IntWalk.i64_in _ (by omega);have hj0:(0:Int)<=(j:Int):=Int.natCast_nonneg _;have hj1:(j:Int) < (ms.length:Int):=(by omega);go_wp2;go_still_tail 10,(by kernel_rfl)
      change wpList _ _ _ _ _ w1.drew;clear hwr;go_wp2_with fail
      refine(HM.out _).mono ?_;rintro e w2 ⟨rfl,hb3⟩;replace hb3:=below_of_drew hb3;have b2:=bt bw hb3 bw.size;clear e0 e1 e2 e3 e4 e5 e6;have k2:=(hb3.block _ (Array.getElem?_eq_some_iff.1 k0).1).trans k0;have d2:w2.cell? ⟨w.heap.size,1,none⟩=some (.slice sa ss.length sc):=(by rw[cell_of_row _ _ 1 _ _ _ k2];rfl);obtain⟨_,_,_,_,_,_,_,e7⟩:=(hxc.out.keep b2).all8;go_wp2;go_quiet (fail)
      go_wp2;go_ret;exact⟨ret_int (mvErr_4 hx.out hE.out hn.out h3.out q.out).symm,below_drewN b2 _⟩
     ·have q1':decide (y7 < 0)=false:=decide_eq_false q1;by_cases q2:(ss.length:Int)<=y7
      ·have q2':decide ((ss.length:Int)<=y7)=true:=decide_eq_true q2;have q:=qH (show y7 < 0\/(ss.length:Int)<=y7 from .inr q2);clear q1 q2;go_enter Tryz.func210, Tryz.ntmps210
       go_wp2_with fail
       refine(HC.out _).mono ?_;rintro e w1 ⟨rfl,hb1⟩;have k0:=(hb1.block _ (by simp;omega)).trans hs0.out;have k1:=(hb1.block _ (by simp)).trans hs1.out;have bw:=bt hb2 hb1 hb2.size;clear c0 c1 c2 c3 c4 c5 c6 hs0 hs1;obtain⟨d0,d1⟩:=a7c2 k0;obtain⟨r0,r1,r2,r3,r4,r5,r6⟩:=a7c7 k1;obtain⟨e0,e1,e2,e3,e4,e5,e6,_⟩:=((hyc.out.keep (bt hb2 hb1 hb2.size))).all8;have hwr:IntKind.i64.wrap (j:Int)=(j:Int):=IntWalk.i64_in _ (by omega);have hj0:(0:Int)<=(j:Int):=Int.natCast_nonneg _;have hj1:(j:Int) < (ms.length:Int):=(by omega);go_wp2;go_still_tail 10,(by kernel_rfl)
       change wpList _ _ _ _ _ w1.drew;clear hwr;go_wp2_with fail
       refine(HM.out _).mono ?_;rintro e w2 ⟨rfl,hb3⟩;replace hb3:=below_of_drew hb3;have b2:=bt bw hb3 bw.size;clear e0 e1 e2 e3 e4 e5 e6;have k2:=(hb3.block _ (Array.getElem?_eq_some_iff.1 k0).1).trans k0;have d2:w2.cell? ⟨w.heap.size,1,none⟩=some (.slice sa ss.length sc):=(by rw[cell_of_row _ _ 1 _ _ _ k2];rfl);obtain⟨_,_,_,_,_,_,_,e7⟩:=(hxc.out.keep b2).all8;go_wp2;go_quiet (fail)
       go_wp2;go_ret;exact⟨ret_int (mvErr_4 hx.out hE.out hn.out h3.out q.out).symm,below_drewN b2 _⟩
      ·have q2':decide ((ss.length:Int)<=y7)=false:=decide_eq_false q2;have q:=qH (show ¬(y7 < 0\/(ss.length:Int)<=y7) by omega);clear q1 q2;go_enter Tryz.func210, Tryz.ntmps210
       go_wp2_with fail
       refine(HC.out _).mono ?_;rintro e w1 ⟨rfl,hb1⟩;have k0:=(hb1.block _ (by simp;omega)).trans hs0.out;have k1:=(hb1.block _ (by simp)).trans hs1.out;have bw:=bt hb2 hb1 hb2.size;clear c0 c1 c2 c3 c4 c5 c6 hs0 hs1;obtain⟨d0,d1⟩:=a7c2 k0;obtain⟨r0,r1,r2,r3,r4,r5,r6⟩:=a7c7 k1;obtain⟨e0,e1,e2,e3,e4,e5,e6,_⟩:=((hyc.out.keep (bt hb2 hb1 hb2.size))).all8;have hwr:IntKind.i64.wrap (j:Int)=(j:Int):=IntWalk.i64_in _ (by omega);have hj0:(0:Int)<=(j:Int):=Int.natCast_nonneg _;have hj1:(j:Int) < (ms.length:Int):=(by omega);go_wp2;go_still_tail 10,(by kernel_rfl)
       change wpList _ _ _ _ _ w1.drew;clear hwr;go_wp2_with fail
       refine(HM.out _).mono ?_;rintro e w2 ⟨rfl,hb3⟩;replace hb3:=below_of_drew hb3;have b2:=bt bw hb3 bw.size;clear e0 e1 e2 e3 e4 e5 e6;have k2:=(hb3.block _ (Array.getElem?_eq_some_iff.1 k0).1).trans k0;have d2:w2.cell? ⟨w.heap.size,1,none⟩=some (.slice sa ss.length sc):=(by rw[cell_of_row _ _ 1 _ _ _ k2];rfl);obtain⟨_,_,_,_,_,_,_,e7⟩:=(hxc.out.keep b2).all8;go_wp2;go_quiet (fail)
       go_wp2;go_ret;exact⟨ret_int (mvErr_5 hx.out hE.out hn.out h3.out (by have:=q.out;show ¬(y7 < 0\/(ss.length:Int)<=y7);omega)).symm,below_drewN b2 _⟩
   ·have h3:Hid (¬(0 < i/\0<=cmpL ((ms.getD (i - 1) []).take 7) ([y0,y1,y2,y3,y4,y5,y6,y7].take 7))):=fun k=>hi0 k.1;have hi1:decide (0 < i)=false:=decide_eq_false hi0;clear hi0 hmc;by_cases q1:y7 < 0
    ·have q1':decide (y7 < 0)=true:=decide_eq_true q1;have q:=qH (show y7 < 0\/(ss.length:Int)<=y7 from .inl q1);clear q1;go_enter Tryz.func210, Tryz.ntmps210
     go_wp2_with fail
     refine(HC.out _).mono ?_;rintro e w1 ⟨rfl,hb1⟩;have k0:=(hb1.block _ (by simp;omega)).trans hs0.out;have k1:=(hb1.block _ (by simp)).trans hs1.out;have bw:=bt hb2 hb1 hb2.size;clear c0 c1 c2 c3 c4 c5 c6 hs0 hs1;obtain⟨d0,d1⟩:=a7c2 k0;obtain⟨r0,r1,r2,r3,r4,r5,r6⟩:=a7c7 k1;have bz:Below w.heap.size w w1:=bw;obtain⟨_,_,_,_,_,_,_,e7⟩:=(hxc.out.keep bw).all8;go_wp2;go_quiet (fail)
     go_wp2;go_quiet (fail)
     go_wp2;go_ret;exact⟨ret_int (mvErr_4 hx.out hE.out hn.out h3.out q.out).symm,below_drewN (below_drewN bz _) _⟩
    ·have q1':decide (y7 < 0)=false:=decide_eq_false q1;by_cases q2:(ss.length:Int)<=y7
     ·have q2':decide ((ss.length:Int)<=y7)=true:=decide_eq_true q2;have q:=qH (show y7 < 0\/(ss.length:Int)<=y7 from .inr q2);clear q1 q2;go_enter Tryz.func210, Tryz.ntmps210
      go_wp2_with fail
      refine(HC.out _).mono ?_;rintro e w1 ⟨rfl,hb1⟩;have k0:=(hb1.block _ (by simp;omega)).trans hs0.out;have k1:=(hb1.block _ (by simp)).trans hs1.out;have bw:=bt hb2 hb1 hb2.size;clear c0 c1 c2 c3 c4 c5 c6 hs0 hs1;obtain⟨d0,d1⟩:=a7c2 k0;obtain⟨r0,r1,r2,r3,r4,r5,r6⟩:=a7c7 k1;have bz:Below w.heap.size w w1:=bw;obtain⟨_,_,_,_,_,_,_,e7⟩:=(hxc.out.keep bw).all8;go_wp2;go_quiet (fail)
      go_wp2;go_quiet (fail)
      go_wp2;go_ret;exact⟨ret_int (mvErr_4 hx.out hE.out hn.out h3.out q.out).symm,below_drewN (below_drewN bz _) _⟩
     ·have q2':decide ((ss.length:Int)<=y7)=false:=decide_eq_false q2;have q:=qH (show ¬(y7 < 0\/(ss.length:Int)<=y7) by omega);clear q1 q2;go_enter Tryz.func210, Tryz.ntmps210
      go_wp2_with fail
      refine(HC.out _).mono ?_;rintro e w1 ⟨rfl,hb1⟩;have k0:=(hb1.block _ (by simp;omega)).trans hs0.out;have k1:=(hb1.block _ (by simp)).trans hs1.out;have bw:=bt hb2 hb1 hb2.size;clear c0 c1 c2 c3 c4 c5 c6 hs0 hs1;obtain⟨d0,d1⟩:=a7c2 k0;obtain⟨r0,r1,r2,r3,r4,r5,r6⟩:=a7c7 k1;have bz:Below w.heap.size w w1:=bw;obtain⟨_,_,_,_,_,_,_,e7⟩:=(hxc.out.keep bw).all8;go_wp2;go_quiet (fail)
      go_wp2;go_quiet (fail)
      go_wp2;go_ret;exact⟨ret_int (mvErr_5 hx.out hE.out hn.out h3.out (by have:=q.out;show ¬(y7 < 0\/(ss.length:Int)<=y7);omega)).symm,below_drewN (below_drewN bz _) _⟩
  ·have hn':(y0 != n)=true:=(by simpa using hn);replace hn:=qH hn;go_enter Tryz.func210, Tryz.ntmps210
   go_wp2_with fail
   refine(HC.out _).mono ?_;rintro e w1 ⟨rfl,hb1⟩;have k0:=(hb1.block _ (by simp;omega)).trans hs0.out;have k1:=(hb1.block _ (by simp)).trans hs1.out;have bw:=bt hb2 hb1 hb2.size;clear c0 c1 c2 c3 c4 c5 c6 hs0 hs1;obtain⟨d0,d1⟩:=a7c2 k0;obtain⟨r0,r1,r2,r3,r4,r5,r6⟩:=a7c7 k1;go_wp2;go_ret;exact⟨ret_int (mvErr_2 hx.out hE.out hn.out).symm,bw⟩
 ·have hz':(E != 0)=true:=by simpa using hz
  replace hz:=qH hz;go_enter Tryz.func210, Tryz.ntmps210
  go_wp2_with fail
  refine(HC.out _).mono ?_;rintro e w1 ⟨rfl,hb1⟩;have k0:=(hb1.block _ (by simp;omega)).trans hs0.out;have k1:=(hb1.block _ (by simp)).trans hs1.out;have bw:=bt hb2 hb1 hb2.size;clear c0 c1 c2 c3 c4 c5 c6 hs0 hs1;obtain⟨d0,d1⟩:=a7c2 k0;obtain⟨r0,r1,r2,r3,r4,r5,r6⟩:=a7c7 k1;go_wp2;go_ret;exact⟨ret_int (by rw[mvErr_1 hx.out (by rw[show([y0,y1,y2,y3,y4,y5,y6,y7]:List Int).take 7 = [y0,y1,y2,y3,y4,y5,y6] from rfl,hE.out];exact hz.out)];exact hE.out.symm),bw⟩
end Go.Proofs.YtcnedkkcgdkioaaGreat

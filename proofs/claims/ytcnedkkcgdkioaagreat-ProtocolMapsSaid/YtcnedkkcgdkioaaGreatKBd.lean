/- Texts of this claim, put together: Rd QA MX RK C0 C2 A7. -/
import Derived.OrdersIn
import Derived.Maps.Own
import Derived.DeepKeys5
import Derived.StringKeys
import Derived.Lib.Builder
import Derived.Lib.AppendStr
import Derived.Lib.UnsafeStr
import Derived.Lib.Strings
import Derived.Lib.Slices
import Derived.Lib.Walk
import Derived.Laws.Externs
import Derived.Laws.IdiomCopy
import Derived.Shelf.Strings.Builder1
import Derived.Test.YtcnedkkcgdkioaaGreatKBc
import Derived.IntWalk

set_option maxRecDepth 100000
set_option maxHeartbeats 12800000
namespace Go.Proofs.YtcnedkkcgdkioaaGreat
open Go.RowKit
theorem nV {P:Program}{l0:Nat}{o:Oper}{a:Act}{w:World}{K:Act->World->Prop}{Q:Exit->Act->World->Prop}(e:∀c,o.op ≠ .defer c) (h:o.wp P a w K Q) :
  o.wpIn (Fence.wide.inRound l0) 0 P a w K Q:=by
 refine⟨fun _ _=>trivial,?_⟩;unfold Oper.wp at h;rw[Oper.semAt_eq _ _ _ e];generalize (execOp a.eval o).run P w=r at h|-
 have d:(Fence.wide.inRound l0).depth.isSome=true->1<=0:=fun h=>by simp[Fence.wide] at h
 cases r with
 | halt x k=>cases x<;>first|exact h|exact h.elim
 | ok n k=>
  cases n with
  | enter f g=>exact⟨d,CallsIn.inRound l0 (callsIn_wide.2 h)⟩
  | row r g=>exact⟨d,fun c s _=>by
    obtain⟨v,l,i,j⟩:=h c s;exact⟨v,l,i,stepsIn_wide.2 j⟩⟩
  | _=>first|exact h|exact h.elim
theorem NU {P:Program}{l0:Nat}{md:Region.Mode}{p:Array Oper}{Q:Exit->Act->World->Prop}(n:∀(i:Nat) o,p[i]? = some o->∀c,o.op ≠ .defer c) (e : ¬LetsOut Q) :
  ∀(f:Nat) (l:Array Bool) (a:Act) (w:World),wpAny P md p Q f l a w->wpAnyIn (Fence.wide.inRound l0) 0 P md p Q f l a w
 | 0,_,_,_,h=>h
 | f+1,l,a,w,h=>by
  refine⟨h.1,fun i q=>?_⟩;have d:=h.2 i q;unfold wpOp at d;unfold wpOpIn;cases j:p[i]? with
  | none=>rw[j] at d;exact NU n e f _ _ _ d
  | some o=>
   rw[j] at d;simp only at d|-
   by_cases k:Region.wanted o (yielded p a.tmps)=true
   ·rw[if_pos k] at d|-;refine nV (n i o j) ?_;exact Oper.wp_mono (fun a w g=>NU n e f _ a w g) (d.resolve_right (fun g=>e g.2))
   ·rw[if_neg k] at d|-;exact⟨fun _ _=>trivial,NU n e f _ _ _ d⟩
def TR (l:List Oper):Bool:=l.all fun o=>match o.op with | .defer _=>false|_=>true
theorem aI {l:List Oper}(h:TR l=true):∀(i:Nat) o,l.toArray[i]? = some o->∀c,o.op ≠ .defer c:=by
 intro i o a c d;have e:o∈l:=by rw[List.getElem?_toArray] at a;exact List.mem_of_getElem? a
 have:=List.all_eq_true.1 h o e
 rw[d] at this;cases this
def NF (o:Oper):Oper:={ dst:=none,op:=.move (.const undef),type:=o.type,pos:=o.pos,after:=o.after,guard:=none }
def ET (n:Nat) (l:List Oper):List Oper:=l.take n++(l.drop n).map NF
def QT (n:Nat) (l:List Oper):Bool:=
 decide (l.length=n+1) && Region.sinkB .any l.toArray n && (List.range l.length).all (fun i=>match l[i]? with|some o=>o.after.all fun e=>decide (e.on < i)|none=>true) &&
 Region.lexB .any (ET n l).toArray && ((l.drop n).all fun o=>o.guard.isNone)
theorem TJ {n:Nat}{l:List Oper}(i:Nat):(ET n l)[i]? = if i < n then l[i]? else (l[i]?).map NF:=by
 unfold ET;by_cases h:i < (l.take n).length
 ·rw[List.getElem?_append_left h];have:i < n:=by rw[List.length_take] at h;omega
  rw[if_pos this,List.getElem?_take,if_pos this]
 ·rw[List.getElem?_append_right (by omega),List.getElem?_map,List.getElem?_drop];rw[List.length_take] at h|-;by_cases a:i < n
  ·rw[if_pos a];have:l.length<=i:=by omega
   rw[List.getElem?_eq_none (by omega:l.length<=n+(i - min n l.length)),List.getElem?_eq_none this];rfl
  ·rw[if_neg a];by_cases c:n<=l.length
   ·rw[show n+(i - min n l.length)=i by omega]
   ·rw[List.getElem?_eq_none (by omega:l.length<=n+(i - min n l.length)),List.getElem?_eq_none (by omega:l.length<=i)]
theorem ZY (n:Nat) (l:List Oper):(ET n l).length=l.length:=by simp[ET];omega
theorem UI (md:Region.Mode) (n:Nat) (l:List Oper) (s:Array Bool):Region.ready md (ET n l).toArray s=Region.ready md l.toArray s:=by
 unfold Region.ready;simp only[List.size_toArray,ZY,List.getElem?_toArray,TJ];congr 1
 funext i
 by_cases h:i < n
 ·rw[if_pos h]
 ·rw[if_neg h];cases l[i]?<;>rfl
theorem VG {P:Program}{p:Array Oper}{C:World->Prop}{Q:Act->Prop}:∀ {l d:List Oper}{a:Act},wpQuiet P p C (fun a=>wpQuiet P p C Q d a) l a->wpQuiet P p C Q (l++d) a
 | [],_,_,h=>h
 | o::l,d,a,h=>by
  rw[List.cons_append];unfold wpQuiet at h|-;split
  ·rename_i c
   rw[if_pos c] at h;exact Oper.quiet_mono (fun a e=>VG e) h
  ·rename_i c
   rw[if_neg c] at h;exact VG h
theorem VH {P:Program}{p:Array Oper}{C:World->Prop}{Q d:Act->Prop}(q:∀a,Q a->d a):∀ {l:List Oper}{a:Act},wpQuiet P p C Q l a->wpQuiet P p C d l a
 | [],_,h=>q _ h
 | o::l,a,h=>by
  unfold wpQuiet at h|-;split
  ·rename_i c
   rw[if_pos c] at h;exact Oper.quiet_mono (fun a e=>VH q e) h
  ·rename_i c
   rw[if_neg c] at h;exact VH q h
theorem VT {P:Program}{C:World->Prop}{Qa:Act->Prop}{Q:Exit->Act->World->Prop}{n:Nat}{l:List Oper}{z:Oper}(b7:l.length=n+1) (N:l[n]? = some z) (hg:z.guard=none)
  (hs:Region.sinkB .any l.toArray n=true) (D:∀(i:Nat) (o:Oper),l[i]? = some o->∀e∈o.after,e.on < i)
  (hQ:∀a w,C w->Qa a->z.wp P a w (fun a w=>Q .normal a w) Q) (a4:∀(i:Nat) (o:Oper),l[i]? = some o->∀tmps,Region.wanted o (yielded (ET n l).toArray tmps)=Region.wanted o (yielded l.toArray tmps)) :
  ∀(u:Nat) (s:Array Bool) (a:Act) (w:World),HeadInv .any l.toArray n s->C w->wpAnyQ P .any (ET n l).toArray C Qa u s a->1<=u->wpAny P .any l.toArray Q u s a w
 | 0,_,_,_,_,_,_,h1=>absurd h1 (by omega)
 | u+1,s,a,w,v,Y,h,_=>by
  have hc:Region.chainB .any l.toArray n=true:=by
   refine List.all_eq_true.2 fun c9 ht=>?_;rw[List.mem_range,List.size_toArray] at ht;simp only[Bool.or_eq_true,decide_eq_true_eq];left;omega
  have R:n < l.toArray.size:=by simp;omega
  -- something is ready
  have b9:Region.ready .any l.toArray s ≠ []:=by
   have W:∀k,k < l.length->s.getD k true=false->∃j,j∈Region.ready .any l.toArray s:=by
    intro k;induction k using Nat.strongRecOn with
    | _ k V=>
     intro p U;by_cases g:∀e∈(l[k]'p).after,Region.binds .any e=true->s.getD e.on false=true
     ·exact⟨k,mem_ready.2 ⟨U,l[k],by rw[List.getElem?_toArray,List.getElem?_eq_getElem p],g⟩⟩
     ·obtain⟨e,F⟩:=Classical.not_forall.1 g;obtain⟨G,H⟩:=Classical.not_imp.1 F;obtain⟨_,I⟩:=Classical.not_imp.1 H;have O:=D k l[k] (List.getElem?_eq_getElem p) e G;have T:e.on < s.size:=(by rw[v.size];simp;omega);exact V e.on O (by omega) (getD_in T (by simpa using I))
   obtain⟨j,c⟩:=W n (by omega) (v.tail n (wC _) R);intro B;rw[B] at c;cases c
  refine⟨fun B=>absurd B b9,fun i t=>?_⟩;have b5:i∈Region.ready .any (ET n l).toArray s:=by rw[UI];exact t
  have q:=h.2 i b5;obtain⟨c4,A,d,_⟩:=mem_ready.1 t;have b6:i < l.length:=by have:=(wD.1 d).1;simpa using this
  by_cases L:i < n
  ·have b':(ET n l).toArray[i]? = some A:=by rw[List.getElem?_toArray,TJ,if_pos L,<-List.getElem?_toArray];exact d
   have a6:qOp P l.toArray C i (wpAnyQ P .any (ET n l).toArray C Qa u (s.setIfInBounds i true)) a:=by
    unfold qOp at q|-;rw[b'] at q;rw[d];simp only at q|-
    rw[a4 i A (by simpa using d)] at q;exact q
   have hf:1<=u:=by
    cases u with
    | succ f=>omega
    | zero=>
     obtain⟨c3,hy,r⟩:=yieldsIn_of_qOp d a6;have a5:=r.1;rw[UI] at a5;have a7:=v.set t L
     have W:∀k,k < l.length->(s.setIfInBounds i true).getD k true=false->∃j,j∈Region.ready .any l.toArray (s.setIfInBounds i true):=by
      intro k;induction k using Nat.strongRecOn with
      | _ k V=>
       intro p U;by_cases g:∀e∈(l[k]'p).after,Region.binds .any e=true->(s.setIfInBounds i true).getD e.on false=true
       ·exact⟨k,mem_ready.2 ⟨U,l[k],by rw[List.getElem?_toArray,List.getElem?_eq_getElem p],g⟩⟩
       ·obtain⟨e,F⟩:=Classical.not_forall.1 g;obtain⟨G,H⟩:=Classical.not_imp.1 F;obtain⟨_,I⟩:=Classical.not_imp.1 H;have O:=D k l[k] (List.getElem?_eq_getElem p) e G;have T:e.on < (s.setIfInBounds i true).size:=(by rw[a7.size];simp;omega);exact V e.on O (by omega) (getD_in T (by simpa using I))
     obtain⟨j,c⟩:=W n (by omega) (a7.tail n (wC _) R);rw[a5] at c;cases c
   exact wpOp_of_qOp Y (fun X w' a' r=>VT b7 N hg hs D hQ a4 u _ X w' (v.set t L) a' r hf) a6
  ·obtain rfl:i=n:=by omega
   have c1:A=z:=by
    rw[List.getElem?_toArray,N] at d;exact(Option.some.inj d).symm
   subst c1;-- all others are listed
   have g:∀j,j < i->s.getD j true=true:=by
    intro j c;cases hb:s.getD j true with
    | true=>rfl
    | false=>exact absurd t (tail_waits hs hc R v _ j rfl c hb i (wC _))
   have J:Region.ready .any l.toArray (s.setIfInBounds i true) = []:=by
    cases hR:Region.ready .any l.toArray (s.setIfInBounds i true) with
    | nil=>rfl
    | cons j c8=>
     have c:j∈Region.ready .any l.toArray (s.setIfInBounds i true):=(by rw[hR];simp);obtain⟨y,oj,c0,_⟩:=mem_ready.1 c;have c5:j < l.length:=(by have:=(wD.1 c0).1;simpa using this);by_cases a3:i=j
     ·subst a3;have:i < s.size:=by rw[v.size];simpa using b6
      simp[this] at y
     ·rw[getD_set_ne true a3] at y;rw[g j (by omega)] at y;cases y
   have b0:Qa a:=by
    unfold qOp at q;have b8:(ET i l).toArray[i]? = some (NF A):=(by rw[List.getElem?_toArray,TJ,if_neg (by omega),N];rfl);rw[b8] at q;simp only[Region.wanted,NF,if_true] at q;obtain⟨c3,_,r⟩:=q;have Z:wpAnyQ P .any (ET i l).toArray C Qa u (s.setIfInBounds i true) a:=r;cases u with
    | zero=>exact Z.2
    | succ f=>exact Z.1 (by rw[UI];exact J)
   unfold wpOp;rw[d];simp only[Region.wanted,hg,if_true];refine .inl (Oper.wp_mono (fun X w' hh=>?_) (hQ a w Y b0));cases u with
   | zero=>exact⟨J,hh⟩
   | succ f=>exact⟨fun _=>hh,fun j c=>by rw[J] at c;cases c⟩
def QO (l:List Oper):Bool:=l.all fun o=>o.guard.isNone
theorem aJ {l:List Oper}(h:QO l=true) {i:Nat}{o:Oper}(a:l[i]? = some o):o.guard=none:=by
 have:=List.all_eq_true.1 h o (List.mem_of_getElem? a)
 simpa using this
theorem VU {P:Program}{Q:Exit->Act->World->Prop}{a:Act}{w:World}{l:List Oper}(n:Nat) (B:QT n l=true) (q:QO l=true)
  (h:wpQuiet P (ET n l).toArray (fun w'=>∃k,w'=w.drewN k) (fun d=>∀k,wpList P l.toArray Q (l.drop n) d (w.drewN k)) (l.take n) a) (y : ¬LetsOut Q) :
  wpAny P .any l.toArray Q l.toArray.size (Array.replicate l.toArray.size false) a w.drew:=by
 simp only[QT,Bool.and_eq_true,decide_eq_true_eq] at B;obtain⟨⟨⟨⟨F,H⟩,z⟩,p⟩,_⟩:=B
 have A:∀(i:Nat) (o:Oper),l[i]? = some o->∀e∈o.after,e.on < i:=by
  intro i o g e D;have:=List.all_eq_true.1 z i (List.mem_range.2 (List.getElem?_eq_some_iff.1 g).1)
  rw[g] at this;simp only at this
  exact of_decide_eq_true (Array.all_eq_true'.1 this e D)
 have v:n < l.length:=by omega
 have u:l[n]? = some l[n]:=List.getElem?_eq_getElem v;have r:l.drop n = [l[n]]:=by rw[List.drop_eq_getElem_cons v,List.drop_eq_nil_of_le (by omega)]
 have s:l[n].guard=none:=aJ q u
 have start:HeadInv .any l.toArray n (Array.replicate l.toArray.size false):=
  ⟨by simp,fun j L _ c=>(by rw[getD_replicate_false] at c;cases c),fun t _ I=>getD_in (by simpa using I) (getD_replicate_false _ _)⟩
 refine VT (C:=fun w'=>∃k,w'=w.drewN k) (Qa:=fun d=>∀k,wpList P l.toArray Q (l.drop n) d (w.drewN k)) F u s H A ?_ ?_ _ _ _ _ start ⟨1,rfl⟩ ?_ (by simp;omega)
 ·rintro a w' ⟨k,rfl⟩ c;have f:=c k;rw[r] at f;unfold wpList at f;rw[if_pos (by simp[Region.wanted,s])] at f;exact Oper.wp_mono (fun a w c=>c) (f.resolve_right (fun c=>y c.2))
 ·intro i o g N;simp[Region.wanted,aJ q g]
 ·simp only[Region.lexB,Bool.and_eq_true] at p;have G:(ET n l)=l.take n ++ [NF l[n]]:=by rw[ET,r];rfl
  have J:wpQuiet P (ET n l).toArray (fun w'=>∃k,w'=w.drewN k) (fun d=>∀k,wpList P l.toArray Q (l.drop n) d (w.drewN k)) (ET n l) a:=by
   conv=>arg 5;rw[G]
   refine VG ?_;refine VH ?_ h;intro d c;unfold wpQuiet;rw[if_pos (by simp[Region.wanted,NF])];exact⟨undef,fun w' _=>⟨rfl,rfl⟩,c⟩
  have:=wpAnyQ_lex (C:=fun w'=>∃k,w'=w.drewN k) (md:=.any) p.1 (ET n l) 0 (Array.replicate (ET n l).toArray.size false) a (by simp) (by simpa using p.2) J
  simpa [ZY] using this
theorem vC {P:Program}{l0 id:Nat}{Q:Exit->Act->World->Prop}{a:Act}{w:World}{l:List Oper}(n:Nat) (f:P.follows .mixedOrders=true) (B:QT n l=true) (g:QO l=true)
  (e:TR l=true) (c : ¬LetsOut Q) (h:∀o,wpQuiet P o (fun w'=>∃k,w'=w.drewN k) (fun d=>∀k,wpList P l.toArray Q (l.drop n) d (w.drewN k)) (l.take n) a) :
  (Code.region id l.toArray true).wpIn (Fence.wide.inRound l0) 0 P Q a w:=
 wpIn_region_any f (NU (aI e) c _ _ _ _ (VU n B g (h _) c))
end Go.Proofs.YtcnedkkcgdkioaaGreat
namespace Go.Proofs.YtcnedkkcgdkioaaGreat
section
variable {κ:Type} [DecidableEq κ]
def dd:List κ->List κ->List κ
 | seen,[]=>seen
 | seen,k::r=>dd (if k∈seen then seen else seen ++ [k]) r
end
section
variable {κ κ':Type} [DecidableEq κ] [DecidableEq κ']
end
end Go.Proofs.YtcnedkkcgdkioaaGreat
namespace Go.Proofs.YtcnedkkcgdkioaaGreat
open Go.RowKit Go.ChangeMaps Go.MapKept Go.WideMaps
section
variable {κ ν:Type}
def MX (kv:κ->Value) (vv:ν->Value) (w:World) (b:Nat) (m:List (κ × ν)):Prop:=
 ∃s c,w.heap[b]? = some (.map s c)/\s.toList.map (fun e=>(e.key,e.val))=m.map (fun p=>(kv p.1,vv p.2))
structure KI (P:Program) (K:TypeId) (kv:κ->Value) (S:κ->Prop):Prop where
 law:Maps.Keyed P K
 has:∀x,S x->∃l,keyOf P K (kv x)=some l
 inj:∀x y,S x->S y->kv x=kv y->x=y
variable {P:Program} {K E M:TypeId} {kv:κ->Value} {vv:ν->Value} {S:κ->Prop} {m:List (κ × ν)} {x:κ} {w:World} {b:Nat}
theorem MX.lt (h:MX kv vv w b m):b < w.heap.size:=by
 obtain⟨e,c,a,_⟩:=h;exact(wD.1 a).1
theorem MX.keep {w':World}(h:MX kv vv w b m) (f:w'.heap[b]? = w.heap[b]?):MX kv vv w' b m:=by
 obtain⟨e,c,a,d⟩:=h;exact⟨e,c,f.trans a,d⟩
theorem MX.made (w:World):MX kv vv (w.alloc (.map #[] 0)) w.heap.size []:=⟨#[],0,wE w _,rfl⟩
theorem MX.find (X:KI P K kv S) (r:∀p∈m,S p.1) (t:S x) {l:List MapEntry}(h:l.map (fun e=>(e.key,e.val))=m.map (fun p=>(kv p.1,vv p.2))) (w:World) :
  (x ∉ m.map Prod.fst/\(Instr.findKey K (kv x) l).run P w = .ok none w)\/(∃j v,(x,v)∈m/\(Instr.findKey K (kv x) l).run P w = .ok (some (j,vv v)) w/\m[j]? = some (x,v)):=by
 obtain⟨F,B⟩:=X.has x t
 have o:∀(j:Nat) (e:MapEntry),l[j]? = some e->∃p:κ × ν,m[j]? = some p/\e.key=kv p.1/\e.val=vv p.2:=by
  intro j e d;have a:(l.map (fun e:MapEntry=>(e.key,e.val)))[j]? = some (e.key,e.val):=by rw[List.getElem?_map,d];rfl
  rw[h,List.getElem?_map] at a;cases c:m[j]? with
  | none=>rw[c] at a;cases a
  | some p=>
   rw[c] at a;simp only[Option.map_some,Option.some.injEq,Prod.mk.injEq] at a;exact⟨p,rfl,a.1.symm,a.2.symm⟩
 have A:∀e∈l,∃k,keyOf P K e.key=some k:=fun e d=>by
  obtain⟨j,z⟩:=List.mem_iff_getElem?.1 d;obtain⟨p,c,a,_⟩:=o j e z;rw[a];exact X.has _ (r p (List.mem_of_getElem? c))
 rcases X.law.find w B l A with⟨a,g⟩|⟨j,e,a,g,i⟩
 ·refine .inl ⟨fun y=>?_,a⟩;obtain⟨p,c,rfl⟩:=List.mem_map.1 y;have:(kv p.1,vv p.2)∈l.map (fun e:MapEntry=>(e.key,e.val)):=h▸List.mem_map_of_mem (f:=fun p:κ × ν=>(kv p.1,vv p.2)) c
  obtain⟨e,d,u⟩:=List.mem_map.1 this;injection u with i _;exact g e d i
 ·obtain⟨q,n,C,D⟩:=o j e g;have s:q.1=x:=X.inj _ _ (r q (List.mem_of_getElem? n)) t (by rw[<-C,i]);refine .inr ⟨j,q.2,?_,by rw[a,D],?_⟩
  ·rw[<-s];exact List.mem_of_getElem? n
  ·rw[n,<-s]
theorem MX.look {z:Value}(X:KI P K kv S) (d:P.underlying M=some (.map K E)) (o:(zeroValue E).run P w = .ok z w) (h:MX kv vv w b m) (n:∀p∈m,S p.1) (i:S x) :
  (x ∉ m.map Prod.fst/\(Instr.lookup M (.map (some b)) (kv x) false).run P w = .ok z w/\(Instr.lookup M (.map (some b)) (kv x) true).run P w = .ok (.tuple #[z,.bool false]) w)\/
  (∃v,(x,v)∈m/\(Instr.lookup M (.map (some b)) (kv x) false).run P w = .ok (vv v) w/\(Instr.lookup M (.map (some b)) (kv x) true).run P w = .ok (.tuple #[vv v,.bool true]) w):=by
 obtain⟨s,q,f,k⟩:=h;obtain⟨r,l⟩:=X.has x i;have g:=fun e=>X.law.check w e l;rcases MX.find X n i k w with⟨a,c⟩|⟨j,v,a,c,_⟩
 ·refine .inl ⟨a,?_,?_⟩<;>simp[Instr.lookup,run_underlying d,MapKept.run_getObj_map f,g,c,Result.andThen,o]
 ·refine .inr ⟨v,a,?_,?_⟩<;>simp[Instr.lookup,run_underlying d,MapKept.run_getObj_map f,g,c,Result.andThen]
theorem MX.put (X:KI P K kv S) (g:P.underlying M=some (.map K E)) (h:MX kv vv w b m) (n:∀p∈m,S p.1) (e:S x) (q:x ∉ m.map Prod.fst) (v:ν) :
  ∃o,(Instr.mapUpdate M (.map (some b)) (kv x) (vv v)).run P w = .ok () (setBlock w b o)/\MX kv vv (setBlock w b o) b (m ++ [(x,v)]):=by
 obtain⟨s,c,a,k⟩:=h;obtain⟨r,l⟩:=X.has x e;have i:=X.law.check w false l;rcases MX.find X n e k w with⟨d,f⟩|⟨j,t,d,_⟩
 ·refine⟨.map (s.push ⟨kv x,vv v,c⟩) (c+1),?_,_,_,heap_setBlock_same a _,?_⟩
  ·simp[Instr.mapUpdate,run_underlying g,MapKept.run_getObj_map a,i,f,MapKept.run_setObj_map _ a,Result.andThen,setBlock]
  ·rw[Array.toList_push,List.map_append,k,List.map_append];rfl
 ·exact absurd (List.mem_map.2 ⟨_,d,rfl⟩) q
end
end Go.Proofs.YtcnedkkcgdkioaaGreat
namespace Go.Proofs.YtcnedkkcgdkioaaGreat
open Go.RowKit Go.ChangeMaps Go.MapKept Go.WideMaps
def VP (r:List Int):Prop:=r.length=7/\∀x∈r,0<=x/\x<=1000000
theorem eE : Tryz.prog.underlying 3=some (.int .i64):=by kernel_rfl
theorem eC:∃m,Tryz.prog.types.size=m+3:=⟨Tryz.prog.types.size - 3,by
 have:decide (2 < Tryz.prog.types.size)=true:=by kernel_rfl
 have:=of_decide_eq_true this
 omega⟩
end Go.Proofs.YtcnedkkcgdkioaaGreat
namespace Go.Proofs.YtcnedkkcgdkioaaGreat
open Go.RowKit Go.ChangeMaps Go.MapKept Go.WideMaps
def ixOf {κ:Type} [DecidableEq κ] (l:List κ) (x:κ):Nat:=l.idxOf x
def CH (m:List Int):Nat:=(m.getD 7 0).toNat
def rdOf (m:List Int):List Int:=m.take 7
def BF (l:List Nat):List Int:=l.map (fun n:Nat=>(n:Int))
def IM {κ:Type}(kv:κ->Value) (w:World) (b:Nat) (seen:List κ):Prop:=MX kv (fun n:Nat=>Value.int .i64 (n:Int)) w b seen.zipIdx
section
variable {κ:Type} [DecidableEq κ] {P:Program} {K E M:TypeId} {kv:κ->Value} {S:κ->Prop} {seen:List κ} {x:κ} {w:World} {b:Nat}
omit [DecidableEq κ] in
theorem RK (l:List κ):l.zipIdx.map Prod.fst=l:=by simp[List.zipIdx_map_fst]
theorem vP {l:List κ}(n:l.Nodup) {x:κ}{v:Nat}(h:(x,v)∈l.zipIdx):v=ixOf l x:=by
 rw[List.mk_mem_zipIdx_iff_getElem?] at h;obtain⟨a,c⟩:=List.getElem?_eq_some_iff.1 h;rw[<-c];exact(n.idxOf_getElem v a).symm
omit [DecidableEq κ] in
theorem IM.keys (hs:∀y∈seen,S y):∀p∈seen.zipIdx,S p.1:=fun p h=>hs _ (by have:=List.mem_map_of_mem (f:=Prod.fst) h;rwa [RK] at this)
theorem IM.look (X:KI P K kv S) (d:P.underlying M=some (.map K E)) (z:∀w,(zeroValue E).run P w = .ok (.int .i64 0) w) (h:IM kv w b seen) (n:seen.Nodup) (hs:∀y∈seen,S y) (g:S x) :
  (x ∉ seen/\(Instr.lookup M (.map (some b)) (kv x) false).run P w = .ok (.int .i64 0) w/\(Instr.lookup M (.map (some b)) (kv x) true).run P w = .ok (.tuple #[.int .i64 0,.bool false]) w)\/
  (x∈seen/\(Instr.lookup M (.map (some b)) (kv x) false).run P w = .ok (.int .i64 (ixOf seen x:Nat)) w/\(Instr.lookup M (.map (some b)) (kv x) true).run P w = .ok (.tuple #[.int .i64 (ixOf seen x:Nat),.bool true]) w):=by
 rcases MX.look X d (z w) h (IM.keys hs) g with⟨a,c⟩|⟨v,a,c⟩
 ·rw[RK] at a;exact .inl ⟨a,c⟩
 ·have e:=vP n a;subst e;exact .inr ⟨by have:=List.mem_map_of_mem (f:=Prod.fst) a;rwa [RK] at this,c⟩
omit [DecidableEq κ] in
theorem IM.put (X:KI P K kv S) (d:P.underlying M=some (.map K E)) (h:IM kv w b seen) (hs:∀y∈seen,S y) (e:S x) (n:x ∉ seen) :
  ∃o,(Instr.mapUpdate M (.map (some b)) (kv x) (.int .i64 (seen.length:Nat))).run P w = .ok () (setBlock w b o)/\IM kv (setBlock w b o) b (seen ++ [x]):=by
 obtain⟨o,a,c⟩:=MX.put X d h (IM.keys hs) e (by rw[RK];exact n) seen.length;refine⟨o,a,?_⟩;unfold IM;rw[List.zipIdx_append];simpa using c
omit [DecidableEq κ] in
theorem IM.lt (h:IM kv w b seen):b < w.heap.size:=MX.lt h
omit [DecidableEq κ] in
theorem IM.keep {w':World}(h:IM kv w b seen) (a:w'.heap[b]? = w.heap[b]?):IM kv w' b seen:=MX.keep h a
end
end Go.Proofs.YtcnedkkcgdkioaaGreat
namespace Go.Proofs.YtcnedkkcgdkioaaGreat
open Go.RowKit Go.ChangeMaps Go.MapKept
theorem vL {P:Program}{id:Nat}{Q:Exit->Act->World->Prop}{a:Act}{w:World}{l:List Oper}(n:Nat) (e:P.follows .mixedOrders=true) (B:QT n l=true) (g:QO l=true)
  (d : ¬LetsOut Q) (h:∀o,wpQuiet P o (fun w'=>∃k,w'=w.drewN k) (fun c=>∀k,wpList P l.toArray Q (l.drop n) c (w.drewN k)) (l.take n) a) :
  (Code.region id l.toArray true).wp P Q a w:=
 wp_region_any e (VU n B g (h _) d)
end Go.Proofs.YtcnedkkcgdkioaaGreat
namespace Go.Proofs.YtcnedkkcgdkioaaGreat
open Go.RowKit
theorem JR {w:World}{b:Nat}{t:TypeId}{u0 u1:Value}(h:w.heap[b]? = some (.cells #[u0,u1] t)):w.cell? ⟨b,0,none⟩=some u0/\w.cell? ⟨b,1,none⟩=some u1:=by
 refine⟨?_,?_⟩<;>(rw[cell_of_row _ b _ _ _ _ h];rfl)
theorem JS {w:World}{b:Nat}{t:TypeId}{u0 u1 u2 u3 u4 u5 u6:Value}(h:w.heap[b]? = some (.cells #[u0,u1,u2,u3,u4,u5,u6] t)):w.cell? ⟨b,0,none⟩=some u0/\w.cell? ⟨b,1,none⟩=some u1/\w.cell? ⟨b,2,none⟩=some u2/\w.cell? ⟨b,3,none⟩=some u3/\w.cell? ⟨b,4,none⟩=some u4/\w.cell? ⟨b,5,none⟩=some u5/\w.cell? ⟨b,6,none⟩=some u6:=by
 refine⟨?_,?_,?_,?_,?_,?_,?_⟩<;>(rw[cell_of_row _ b _ _ _ _ h];rfl)
def EL (n:Int) (len:Nat) (s:Jb) (i:Nat):Int:=
 if EN ((s.getD i []).take 7) ≠ 0 then EN ((s.getD i []).take 7) else if (s.getD i []).getD 0 0 ≠ n then 22
 else if 0 < i/\0<=AH ((s.getD (i - 1) []).take 7) ((s.getD i []).take 7) then 14 else if (s.getD i []).getD 7 0 < 0\/(len:Int)<=(s.getD i []).getD 7 0 then 2 else 0
theorem aD {n:Int}{len:Nat}{s:Jb}{i:Nat}{x:List Int}(a:s.getD i []=x) (h:EN (x.take 7) ≠ 0):EL n len s i=EN (x.take 7):=by rw[EL,a,if_pos h]
theorem aE {n:Int}{len:Nat}{s:Jb}{i:Nat}{x:List Int}(c:s.getD i []=x) (h:EN (x.take 7)=0) (a:x.getD 0 0 ≠ n):EL n len s i=22:=by rw[EL,c,if_neg (fun k=>k h),if_pos a]
theorem aF {n:Int}{len:Nat}{s:Jb}{i:Nat}{x y:List Int}(e:s.getD i []=x) (f:s.getD (i - 1) []=y) (h:EN (x.take 7)=0) (a:x.getD 0 0=n) (d:0 < i) (c:0<=AH (y.take 7) (x.take 7)):EL n len s i=14:=by
 rw[EL,e,f,if_neg (fun k=>k h),if_neg (fun k=>k a),if_pos ⟨d,c⟩]
theorem NG {n:Int}{len:Nat}{s:Jb}{i:Nat}{x:List Int}(e:s.getD i []=x) (h:EN (x.take 7)=0) (a:x.getD 0 0=n) (c : ¬(0 < i/\0<=AH ((s.getD (i - 1) []).take 7) (x.take 7))) (d:x.getD 7 0 < 0\/(len:Int)<=x.getD 7 0):EL n len s i=2:=by
 rw[EL,e,if_neg (fun k=>k h),if_neg (fun k=>k a),if_neg c,if_pos d]
theorem QL {n:Int}{len:Nat}{s:Jb}{i:Nat}{x:List Int}(e:s.getD i []=x) (h:EN (x.take 7)=0) (a:x.getD 0 0=n) (c : ¬(0 < i/\0<=AH ((s.getD (i - 1) []).take 7) (x.take 7))) (d : ¬(x.getD 7 0 < 0\/(len:Int)<=x.getD 7 0)):EL n len s i=0:=by
 rw[EL,e,if_neg (fun k=>k h),if_neg (fun k=>k a),if_neg c,if_neg d]
def FV (ss:Jc):Bool:=decide (ss.length<=8) && decide (CA ss<=40)
theorem pR {w:World}{v:Value}{n:Int}{ss:Jc}(h:DC w v n ss):Calls Tryz.prog 101 #[v] w fun e w'=>e = .returned (.bool (FV ss))/\Below w.heap.size w w':=by
 have f:=h;obtain⟨s,rfl,a,c,b,q,rfl,i,j,_⟩:=h;have d:=(wB w.heap.size w).alloc (wC _) (.cells #[.int .i64 n,.slice a ss.length c] 27);by_cases g:ss.length<=8
 ·have H:=qH (cJ (f.keep d) (by omega));have e:=qH (show FV ss=decide (CA ss<=40) by simp[FV,g]);obtain⟨m,k⟩:=AB (CA ss);rw[k] at H e;have l:decide ((ss.length:Int)<=8)=true:=vZ (by omega);clear i j k f;go_enter Tryz.func101, Tryz.ntmps101
  go_wp2_with fail
  refine H.out.mono ?_;rintro p r ⟨rfl,o⟩;go_wp2;go_ret;exact⟨LC (by rw[e.out];norm_cast),bt d o d.size⟩
 ·have e:=qH (show FV ss=false by simp[FV,g]);have l:decide ((ss.length:Int)<=8)=false:=vY (by omega);clear i j f;go_enter Tryz.func101, Tryz.ntmps101
  go_wp2;go_ret;exact⟨LC e.out.symm,d⟩
theorem KK {w w':World}(h:Below w.drew.heap.size w.drew w'):Below w.heap.size w w':=((wB _ w).drew).trans h
theorem qJ {w:World}{v mv:Value}{n:Int}{ss:Jc}{I:Jb}{i:Nat}(hA:DC w v n ss) (hM:KS 8 w mv I) (hi:i < I.length) (_hl:ss.length<=256) :
  Calls Tryz.prog 210 #[v,mv,.int .i64 i] w fun e w'=>e = .returned (.int .i64 (EL n ss.length I i))/\Below w.heap.size w w':=by
 obtain⟨sv,rfl,sa,sc,sb,so,rfl,f9,f',_⟩:=hA;obtain⟨ma,mc,mb,mo,rfl,f0,d2,g1⟩:=hM;obtain rfl:=f0 (by omega);clear f0 f9 f';obtain⟨d8,N⟩:=d2 i hi;obtain⟨x,G⟩:=AB (I.getD i []);rw[G] at d8 N;obtain⟨l,r,t,u,z,A,B,a,rfl⟩:=CT d8;clear d8;have hb:=(wB w.heap.size w).alloc (wC _) (.cells #[.int .i64 n,.slice sa ss.length sc] 27);have c:=hb.alloc hb.size (.cells #[.int .i64 l,.int .i64 r,.int .i64 t,.int .i64 u,.int .i64 z,.int .i64 A,.int .i64 B] 148);have s:((w.alloc (.cells #[.int .i64 n,.slice sa ss.length sc] 27)).alloc (.cells #[.int .i64 l,.int .i64 r,.int .i64 t,.int .i64 u,.int .i64 z,.int .i64 A,.int .i64 B] 148)).heap[w.heap.size]? = some (.cells #[.int .i64 n,.slice sa ss.length sc] 27):=(Below.heap_alloc _ _ _ (by simp)).trans (wE w _)
 have f:((w.alloc (.cells #[.int .i64 n,.slice sa ss.length sc] 27)).alloc (.cells #[.int .i64 l,.int .i64 r,.int .i64 t,.int .i64 u,.int .i64 z,.int .i64 A,.int .i64 B] 148)).heap[w.heap.size+1]? = some (.cells #[.int .i64 l,.int .i64 r,.int .i64 t,.int .i64 u,.int .i64 z,.int .i64 A,.int .i64 B] 148):=by
  have:=wE (w.alloc (.cells #[.int .i64 n,.slice sa ss.length sc] 27)) (.cells #[.int .i64 l,.int .i64 r,.int .i64 t,.int .i64 u,.int .i64 z,.int .i64 A,.int .i64 B] 148);rwa [World.size_alloc] at this
 replace s:=qH s;replace f:=qH f;obtain⟨O,Q,R,T,U,V,W,_⟩:=(N.keep hb).all8;replace N:=qH N;obtain⟨E,D⟩:=AB (EN [l,r,t,u,z,A,B]);have H:=fun d4=>qU l r t u z A B d4;rw[D] at H;replace H:=qH H;replace D:=qH D;replace G:=qH G;by_cases hz:E=0
 ·subst hz;by_cases C:l=n
  ·have f8:(l != n)=false:=(by simp[C]);replace C:=qH C;by_cases d1:0 < i
   ·have f7:decide (0 < i)=true:=vZ d1;obtain⟨d9,Z⟩:=d2 (i - 1) (by omega);obtain⟨g',hy⟩:=AB (I.getD (i - 1) []);rw[hy] at d9 Z;obtain⟨z0,z1,z2,z3,z4,z5,z6,z7,rfl⟩:=CT d9;clear d9 d2;obtain⟨j,rfl⟩:∃j,i=j+1:=⟨i - 1,by omega⟩;rw[Nat.add_sub_cancel] at Z hy;replace Z:=qH Z;have HM:=fun d4=>qV z0 z1 z2 z3 z4 z5 z6 l r t u z A B d4;obtain⟨d3,hC⟩:=AB (AH [z0,z1,z2,z3,z4,z5,z6] [l,r,t,u,z,A,B]);rw[hC] at HM;replace HM:=qH HM;replace hC:=qH hC;replace hy:=qH hy;by_cases b8:0<=d3
    ·have f4:decide (0<=d3)=true:=vZ b8;replace b8:=qH b8;go_enter Tryz.func210, Tryz.ntmps210
     go_wp2_with fail
     refine(H.out _).mono ?_;rintro e p ⟨rfl,h⟩;have k:=(h.block _ (by simp;omega)).trans s.out;have o:=(h.block _ (by simp)).trans f.out;have d:=bt c h c.size;clear O Q R T U V W s f;obtain⟨X,Y⟩:=JR k;obtain⟨r0,r1,r2,r3,r4,r5,r6⟩:=JS o;obtain⟨e0,e1,e2,e3,e4,e5,e6,_⟩:=((Z.out.keep (bt c h c.size))).all8;have b9:IntKind.i64.wrap (j:Int)=(j:Int):=IntWalk.i64_in _ (by omega);have d6:(0:Int)<=(j:Int):=Int.natCast_nonneg _;have d7:(j:Int) < (I.length:Int):=(by omega);go_wp2;go_still_tail 10,(by kernel_rfl)
     change wpList _ _ _ _ _ p.drew;clear b9;go_wp2_with fail
     refine(HM.out _).mono ?_;rintro e w2 ⟨rfl,g⟩;replace g:=KK g;have L:=bt d g d.size;clear e0 e1 e2 e3 e4 e5 e6;go_wp2;go_ret;exact⟨AM (aF (y:=[z0,z1,z2,z3,z4,z5,z6,z7]) G.out (by rw[Nat.add_sub_cancel];exact hy.out) D.out C.out (by omega) (by show 0<=AH [z0,z1,z2,z3,z4,z5,z6] [l,r,t,u,z,A,B];rw[hC.out];exact b8.out)).symm,L⟩
    ·have f4:decide (0<=d3)=false:=vY b8
     have h3:Hid (¬(0 < j+1/\0<=AH ((I.getD (j+1 - 1) []).take 7) ([l,r,t,u,z,A,B,a].take 7))):=fun d'=>by
      have k2:=d'.2;rw[Nat.add_sub_cancel,hy.out] at k2;have k3:0<=AH [z0,z1,z2,z3,z4,z5,z6] [l,r,t,u,z,A,B]:=k2;rw[hC.out] at k3;exact b8 k3
     clear b8;by_cases F:a < 0
     ·have e8:decide (a < 0)=true:=vZ F;have q:=qH (show a < 0\/(ss.length:Int)<=a from .inl F);clear F;go_enter Tryz.func210, Tryz.ntmps210
      go_wp2_with fail
      refine(H.out _).mono ?_;rintro e p ⟨rfl,h⟩;have k:=(h.block _ (by simp;omega)).trans s.out;have o:=(h.block _ (by simp)).trans f.out;have d:=bt c h c.size;clear O Q R T U V W s f;obtain⟨X,Y⟩:=JR k;obtain⟨r0,r1,r2,r3,r4,r5,r6⟩:=JS o;obtain⟨e0,e1,e2,e3,e4,e5,e6,_⟩:=((Z.out.keep (bt c h c.size))).all8;have b9:IntKind.i64.wrap (j:Int)=(j:Int):=IntWalk.i64_in _ (by omega);have d6:(0:Int)<=(j:Int):=Int.natCast_nonneg _;have d7:(j:Int) < (I.length:Int):=(by omega);go_wp2;go_still_tail 10,(by kernel_rfl)
      change wpList _ _ _ _ _ p.drew;clear b9;go_wp2_with fail
      refine(HM.out _).mono ?_;rintro e w2 ⟨rfl,g⟩;replace g:=KK g;have L:=bt d g d.size;clear e0 e1 e2 e3 e4 e5 e6;have k2:=(g.block _ (wD.1 k).1).trans k;have e':w2.cell? ⟨w.heap.size,1,none⟩=some (.slice sa ss.length sc):=(by rw[cell_of_row _ _ 1 _ _ _ k2];rfl);obtain⟨_,_,_,_,_,_,_,e7⟩:=(N.out.keep L).all8;go_wp2;go_quiet (fail)
      go_wp2;go_ret;exact⟨AM (NG G.out D.out C.out h3.out q.out).symm,wH L _⟩
     ·have e8:decide (a < 0)=false:=vY F;by_cases J:(ss.length:Int)<=a
      ·have e9:decide ((ss.length:Int)<=a)=true:=vZ J;have q:=qH (show a < 0\/(ss.length:Int)<=a from .inr J);clear F J;go_enter Tryz.func210, Tryz.ntmps210
       go_wp2_with fail
       refine(H.out _).mono ?_;rintro e p ⟨rfl,h⟩;have k:=(h.block _ (by simp;omega)).trans s.out;have o:=(h.block _ (by simp)).trans f.out;have d:=bt c h c.size;clear O Q R T U V W s f;obtain⟨X,Y⟩:=JR k;obtain⟨r0,r1,r2,r3,r4,r5,r6⟩:=JS o;obtain⟨e0,e1,e2,e3,e4,e5,e6,_⟩:=((Z.out.keep (bt c h c.size))).all8;have b9:IntKind.i64.wrap (j:Int)=(j:Int):=IntWalk.i64_in _ (by omega);have d6:(0:Int)<=(j:Int):=Int.natCast_nonneg _;have d7:(j:Int) < (I.length:Int):=(by omega);go_wp2;go_still_tail 10,(by kernel_rfl)
       change wpList _ _ _ _ _ p.drew;clear b9;go_wp2_with fail
       refine(HM.out _).mono ?_;rintro e w2 ⟨rfl,g⟩;replace g:=KK g;have L:=bt d g d.size;clear e0 e1 e2 e3 e4 e5 e6;have k2:=(g.block _ (wD.1 k).1).trans k;have e':w2.cell? ⟨w.heap.size,1,none⟩=some (.slice sa ss.length sc):=(by rw[cell_of_row _ _ 1 _ _ _ k2];rfl);obtain⟨_,_,_,_,_,_,_,e7⟩:=(N.out.keep L).all8;go_wp2;go_quiet (fail)
       go_wp2;go_ret;exact⟨AM (NG G.out D.out C.out h3.out q.out).symm,wH L _⟩
      ·have e9:decide ((ss.length:Int)<=a)=false:=vY J;have q:=qH (show ¬(a < 0\/(ss.length:Int)<=a) by omega);clear F J;go_enter Tryz.func210, Tryz.ntmps210
       go_wp2_with fail
       refine(H.out _).mono ?_;rintro e p ⟨rfl,h⟩;have k:=(h.block _ (by simp;omega)).trans s.out;have o:=(h.block _ (by simp)).trans f.out;have d:=bt c h c.size;clear O Q R T U V W s f;obtain⟨X,Y⟩:=JR k;obtain⟨r0,r1,r2,r3,r4,r5,r6⟩:=JS o;obtain⟨e0,e1,e2,e3,e4,e5,e6,_⟩:=((Z.out.keep (bt c h c.size))).all8;have b9:IntKind.i64.wrap (j:Int)=(j:Int):=IntWalk.i64_in _ (by omega);have d6:(0:Int)<=(j:Int):=Int.natCast_nonneg _;have d7:(j:Int) < (I.length:Int):=(by omega);go_wp2;go_still_tail 10,(by kernel_rfl)
       change wpList _ _ _ _ _ p.drew;clear b9;go_wp2_with fail
       refine(HM.out _).mono ?_;rintro e w2 ⟨rfl,g⟩;replace g:=KK g;have L:=bt d g d.size;clear e0 e1 e2 e3 e4 e5 e6;have k2:=(g.block _ (wD.1 k).1).trans k;have e':w2.cell? ⟨w.heap.size,1,none⟩=some (.slice sa ss.length sc):=(by rw[cell_of_row _ _ 1 _ _ _ k2];rfl);obtain⟨_,_,_,_,_,_,_,e7⟩:=(N.out.keep L).all8;go_wp2;go_quiet (fail)
       go_wp2;go_ret;exact⟨AM (QL G.out D.out C.out h3.out (by have:=q.out;show ¬(a < 0\/(ss.length:Int)<=a);omega)).symm,wH L _⟩
   ·have h3:Hid (¬(0 < i/\0<=AH ((I.getD (i - 1) []).take 7) ([l,r,t,u,z,A,B,a].take 7))):=fun d'=>d1 d'.1;have f7:decide (0 < i)=false:=vY d1;clear d1 d2;by_cases F:a < 0
    ·have e8:decide (a < 0)=true:=vZ F;have q:=qH (show a < 0\/(ss.length:Int)<=a from .inl F);clear F;go_enter Tryz.func210, Tryz.ntmps210
     go_wp2_with fail
     refine(H.out _).mono ?_;rintro e p ⟨rfl,h⟩;have k:=(h.block _ (by simp;omega)).trans s.out;have o:=(h.block _ (by simp)).trans f.out;have d:=bt c h c.size;clear O Q R T U V W s f;obtain⟨X,Y⟩:=JR k;obtain⟨r0,r1,r2,r3,r4,r5,r6⟩:=JS o;have bz:Below w.heap.size w p:=d;obtain⟨_,_,_,_,_,_,_,e7⟩:=(N.out.keep d).all8;go_wp2;go_quiet (fail)
     go_wp2;go_quiet (fail)
     go_wp2;go_ret;exact⟨AM (NG G.out D.out C.out h3.out q.out).symm,wH (wH bz _) _⟩
    ·have e8:decide (a < 0)=false:=vY F;by_cases J:(ss.length:Int)<=a
     ·have e9:decide ((ss.length:Int)<=a)=true:=vZ J;have q:=qH (show a < 0\/(ss.length:Int)<=a from .inr J);clear F J;go_enter Tryz.func210, Tryz.ntmps210
      go_wp2_with fail
      refine(H.out _).mono ?_;rintro e p ⟨rfl,h⟩;have k:=(h.block _ (by simp;omega)).trans s.out;have o:=(h.block _ (by simp)).trans f.out;have d:=bt c h c.size;clear O Q R T U V W s f;obtain⟨X,Y⟩:=JR k;obtain⟨r0,r1,r2,r3,r4,r5,r6⟩:=JS o;have bz:Below w.heap.size w p:=d;obtain⟨_,_,_,_,_,_,_,e7⟩:=(N.out.keep d).all8;go_wp2;go_quiet (fail)
      go_wp2;go_quiet (fail)
      go_wp2;go_ret;exact⟨AM (NG G.out D.out C.out h3.out q.out).symm,wH (wH bz _) _⟩
     ·have e9:decide ((ss.length:Int)<=a)=false:=vY J;have q:=qH (show ¬(a < 0\/(ss.length:Int)<=a) by omega);clear F J;go_enter Tryz.func210, Tryz.ntmps210
      go_wp2_with fail
      refine(H.out _).mono ?_;rintro e p ⟨rfl,h⟩;have k:=(h.block _ (by simp;omega)).trans s.out;have o:=(h.block _ (by simp)).trans f.out;have d:=bt c h c.size;clear O Q R T U V W s f;obtain⟨X,Y⟩:=JR k;obtain⟨r0,r1,r2,r3,r4,r5,r6⟩:=JS o;have bz:Below w.heap.size w p:=d;obtain⟨_,_,_,_,_,_,_,e7⟩:=(N.out.keep d).all8;go_wp2;go_quiet (fail)
      go_wp2;go_quiet (fail)
      go_wp2;go_ret;exact⟨AM (QL G.out D.out C.out h3.out (by have:=q.out;show ¬(a < 0\/(ss.length:Int)<=a);omega)).symm,wH (wH bz _) _⟩
  ·have f8:(l != n)=true:=(by simpa using C);replace C:=qH C;go_enter Tryz.func210, Tryz.ntmps210
   go_wp2_with fail
   refine(H.out _).mono ?_;rintro e p ⟨rfl,h⟩;have k:=(h.block _ (by simp;omega)).trans s.out;have o:=(h.block _ (by simp)).trans f.out;have d:=bt c h c.size;clear O Q R T U V W s f;obtain⟨X,Y⟩:=JR k;obtain⟨r0,r1,r2,r3,r4,r5,r6⟩:=JS o;go_wp2;go_ret;exact⟨AM (aE G.out D.out C.out).symm,d⟩
 ·have g2:(E != 0)=true:=by simpa using hz
  replace hz:=qH hz;go_enter Tryz.func210, Tryz.ntmps210
  go_wp2_with fail
  refine(H.out _).mono ?_;rintro e p ⟨rfl,h⟩;have k:=(h.block _ (by simp;omega)).trans s.out;have o:=(h.block _ (by simp)).trans f.out;have d:=bt c h c.size;clear O Q R T U V W s f;obtain⟨X,Y⟩:=JR k;obtain⟨r0,r1,r2,r3,r4,r5,r6⟩:=JS o;go_wp2;go_ret;exact⟨AM (by rw[aD G.out (by rw[show([l,r,t,u,z,A,B,a]:List Int).take 7 = [l,r,t,u,z,A,B] from rfl,D.out];exact hz.out)];exact D.out.symm),d⟩
end Go.Proofs.YtcnedkkcgdkioaaGreat

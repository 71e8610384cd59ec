/- Texts of this claim, put together: OX It Rd E1 Itb RG RH IS. -/
import Derived.Test.YtmikofeildnpdaaGreatKZe
import Derived.Test.YtmikofeildnpdaaGreatKZc
import Derived.RangeFuncNested
import Derived.RangeFuncBound
import Derived.RangeFuncCalls
import Derived.RangeFuncLeaves
import Derived.StillTailTactics
import Derived.OrdersIn
import Derived.Lib.Builder
import Derived.Lib.AppendStr
import Derived.Lib.UnsafeStr
import Derived.Lib.Strings
import Derived.Lib.Slices
import Derived.Lib.Walk
import Derived.Laws.Externs
import Derived.Laws.IdiomCopy
import Derived.Lib.LazyBuf

set_option maxRecDepth 100000
set_option maxHeartbeats 12800000
namespace Go.Proofs.YtmikofeildnpdaaGreat
open Go.RowKit
def KeepX (E:TypeId) (w w':World):Prop:=∀(k:Nat) (cs:Array Value) (t:TypeId),w.heap[k]? = some (.cells cs t)→t ≠ E→w'.heap[k]? = w.heap[k]?
theorem KeepX.below {E:TypeId}{w w':World}(h:Below w.heap.size w w'):KeepX E w w':=fun k _ _ hk _=>h.block k (Array.getElem?_eq_some_iff.1 hk).1
theorem KeepX.refl (E:TypeId) (w:World):KeepX E w w:=fun _ _ _ _ _=>rfl
theorem KeepX.trans {E:TypeId}{a b c:World}(h:KeepX E a b) (g:KeepX E b c):KeepX E a c:=fun k cs t hk ht=>by
 have:=h k cs t hk ht
 rw[hk] at this;exact(g k cs t this ht).trans (this.trans hk.symm)
theorem KeepX.grown {E:TypeId}{w w':World}{row:Option Nat}(h:w.grownBy w' row) (hr:∀g,row=some g→∃cs,w.heap[g]? = some (.cells cs E)):KeepX E w w':=fun k cs t hk ht=>by
 refine h.block k (Array.getElem?_eq_some_iff.1 hk).1 fun e=>?_;obtain⟨cs',hg⟩:=hr k e.symm;rw[hk] at hg;simp at hg
 exact ht hg.2
theorem ownsRow_ty {w:World}{B:Nat}{E:TypeId}{k:Nat}{v:Value}{n:Nat}{xs:List Value}(h:w.ownsRow B E k v n xs):∀g,v.ownBlock=some g→∃cs,w.heap[g]? = some (.cells cs E):=by
 intro g hg;rcases h.2 with⟨rfl,_⟩|⟨g',cap,cur,rfl,_,h3,_⟩
 ·cases hg
 ·simp only[Value.ownBlock,Option.some.injEq] at hg;subst hg;exact⟨_,h3⟩
theorem KeepX.own {E:TypeId}{w w':World}{B k:Nat}{v:Value}{n:Nat}{xs:List Value}(h:w.ownsRow B E k v n xs) (hg:w.grownBy w' v.ownBlock):KeepX E w w':=KeepX.grown hg (ownsRow_ty h)
theorem ownsRow_X {E E':TypeId}{w w':World}{B k:Nat}{v:Value}{n:Nat}{xs:List Value}(h:w.ownsRow B E k v n xs) (hne:E ≠ E') (hx:KeepX E' w w'):w'.ownsRow B E k v n xs:=by
 refine⟨h.1,?_⟩;rcases h.2 with h'|⟨g,cap,cur,h1,h2,h3,h4⟩
 ·exact .inl h'
 ·exact .inr ⟨g,cap,cur,h1,h2,(hx g cur E h3 hne).trans h3,h4⟩
section
variable {α:Type}
def OwX (E:TypeId) (k:Nat) (El:World→List Value→α→Prop) (w:World) (B:Nat) (v:Value) (n:Nat) (xs:List α):Prop:=
 ∃vs,w.ownsRow B E k v n vs∧xs.length=n∧(∀u∈vs,u.oneCell'=true)∧∀j x,xs[j]? = some x→El w ((vs.drop (j * k)).take k) x
def Stab (E:TypeId) (El:World→List Value→α→Prop):Prop:=∀w w' cs x,El w cs x→KeepX E w w'→El w' cs x
variable {E:TypeId} {k:Nat} {El:World→List Value→α→Prop} {w w':World} {B n:Nat} {v:Value} {xs:List α}
theorem OwX.length (h:OwX E k El w B v n xs):xs.length=n:=by obtain⟨_,_,h,_⟩:=h;exact h
theorem OwX.keep (hS:Stab E El) (h:OwX E k El w B v n xs) (hb:Below w.heap.size w w'):OwX E k El w' B v n xs:=by
 obtain⟨vs,h1,h2,h3,h4⟩:=h;refine⟨vs,⟨h1.1,?_⟩,h2,h3,fun j x hj=>hS _ _ _ _ (h4 j x hj) (KeepX.below hb)⟩;rcases h1.2 with h'|⟨g,cap,cur,k1,k2,k3,k4⟩
 ·exact .inl h'
 ·exact .inr ⟨g,cap,cur,k1,k2,(hb.block g (Array.getElem?_eq_some_iff.1 k3).1).trans k3,k4⟩
theorem OwX.base {B':Nat}(h:OwX E k El w B v n xs) (hb:B'≤B):OwX E k El w B' v n xs:=by
 obtain⟨vs,⟨h0,h1⟩,h2⟩:=h;refine⟨vs,⟨h0,?_⟩,h2⟩;rcases h1 with h'|⟨g,cap,cur,k1,k2,k3⟩
 ·exact .inl h'
 ·exact .inr ⟨g,cap,cur,k1,by omega,k3⟩
theorem OwX.shape (h:OwX E k El w B v n xs):∃a c,v = .slice a n c:=by
 obtain⟨vs,h1,_⟩:=h;rcases h1.2 with⟨rfl,rfl⟩|⟨g,cap,cur,rfl,_⟩
 ·exact⟨_,_,rfl⟩
 ·exact⟨_,_,rfl⟩
theorem OwX.nil (w:World) (B:Nat):OwX E k El w B (.slice none 0 0) 0 []:=⟨[],World.ownsRow_nil w B E k,rfl,by simp,by simp⟩
theorem OwX.other {E':TypeId}(hS:Stab E' El) (h:OwX E k El w B v n xs) (hne:E ≠ E') (hx:KeepX E' w w'):OwX E k El w' B v n xs:=by
 obtain⟨vs,h1,h2,h3,h4⟩:=h;exact⟨vs,ownsRow_X h1 hne hx,h2,h3,fun j x hj=>hS _ _ _ _ (h4 j x hj) hx⟩
theorem OwX.grown {row:Option Nat}(hS:Stab E El) (h:OwX E k El w B v n xs) (hg:w.grownBy w' row) (hr:∀g,row=some g→∃cs,w.heap[g]? = some (.cells cs E)) (hne:v.ownBlock=none∨v.ownBlock ≠ row):OwX E k El w' B v n xs:=by
 obtain⟨vs,h1,h2,h3,h4⟩:=h;exact⟨vs,h1.kept hg hne,h2,h3,fun j x hj=>hS _ _ _ _ (h4 j x hj) (KeepX.grown hg hr)⟩
theorem OwX.cells {g cap:Nat}(h:OwX E k El w B (.slice (some ⟨g,0,none⟩) n cap) n xs) {j:Nat}{x:α}(hj:xs[j]? = some x) :
  ∃cs,cs.length=k∧El w cs x∧∀i u,cs[i]? = some u→w.cell? ⟨g,j * k+i,none⟩=some u:=by
 obtain⟨vs,h1,h2,h3,h4⟩:=h;have hjn:j < n:=by rw[←h2];exact(List.getElem?_eq_some_iff.1 hj).1
 have hle:j * k+k≤n * k:=by rw[←Nat.succ_mul];exact Nat.mul_le_mul_right _ hjn
 have hvl:vs.length=n * k:=h1.1;refine⟨_,?_,h4 j x hj,fun i u hi=>?_⟩
 ·rw[List.length_take,List.length_drop];omega
 ·rw[List.getElem?_take] at hi;split at hi
  ·rw[List.getElem?_drop] at hi;rw[World.ownsRow.cellAt h1 (j * k+i) (by omega)];exact hi
  ·cases hi
theorem OwX.form (h:OwX E k El w B v n xs) (hn:0 < n):∃g cap,v = .slice (some ⟨g,0,none⟩) n cap∧B≤g:=by
 obtain⟨vs,h1,_⟩:=h;rcases h1.2 with⟨_,rfl⟩|⟨g,cap,cur,rfl,hb,_⟩
 ·omega
 ·exact⟨g,cap,rfl,hb⟩
def ElemK (P:Program) (T E:TypeId) (z:Value) (k bytes:Nat):Prop:=
 P.underlying T=some (.slice E)∧(P.info? E).map (fun i=>(i.zero,i.size,i.bytes))=some (some z,k,bytes)∧z.cells.size=k
theorem wpAppX {P:Program}{T:TypeId}{z:Value}{bytes:Nat}(hE:ElemK P T E z k bytes) (hby:bytes≤128) (hk:0 < k) (hS:Stab E El) {w0:World}{cs:Array Value}{t:TypeId}{x:α}
  {ops:Array Oper} {rest:List Oper} {o:Oper} {a:Act} {Q:Exit→Act→World→Prop} (hgd:o.guard=none) (s y:Operand)
  (ho:o.op = .call { callee:=.builtin .append,args:=#[s,y],argTypes:=#[T,T] })
  (hs:a.eval s=v) (hown:OwX E k El w0 B v n xs) {sz:Nat} (hx:a.eval y = .slice (some ⟨sz,0,none⟩) 1 1) (hsz:sz=w0.heap.size)
  (hcs:cs.size=k) (hc1:∀u∈cs.toList,u.oneCell'=true) (hEl:El w0 cs.toList x) (hn:n≤1000000000000) (hB:B≤w0.heap.size)
  (h:∀v' w',OwX E k El w' B v' (n+1) (xs ++ [x])→w0.grownBy w' v.ownBlock→Below B w0 w'→KeepX E w0 w'→wpList P ops Q rest (a.put o.dst v') w') :
  wpList P ops Q (o::rest) a (w0.alloc (.cells cs t)):=by
 obtain⟨i0,hi,hz0,hz1,hz2⟩:=info_parts hE.2.1;obtain⟨vs,k1,k2,k3,k4⟩:=hown;subst hsz
 have hcl:∀j u,cs.toList[j]? = some u→(w0.alloc (.cells cs t)).cell? ((⟨w0.heap.size,0,none⟩:Addr).add j)=some u:=by
  intro j u hj;rw[show(⟨w0.heap.size,0,none⟩:Addr).add j=⟨w0.heap.size,j,none⟩ by(simp[Addr.add];try omega),cell_of_row _ _ j _ _ _ (heap_alloc_new w0 _)];simpa using hj
 refine wpList_append_own (w0.alloc (.cells cs t)) hgd s y T ho B E i0 z k bytes hE.1 hi hz0 hz1 hz2 hE.2.2 hk v n vs hs (k1.alloc _) ⟨w0.heap.size,0,none⟩ 1 1 cs.toList hx (by simpa using hcs) hcl hc1 (by unfold maxLen;omega) ?_ (by simp;omega) fun v' w' h1 h2 _=>?_
 ·have:(n+1) * bytes≤1000000000001 * 128:=Nat.mul_le_mul (by omega) hby
  omega
 ·have hg:w0.grownBy w' v.ownBlock:=grownBy_alloc_trans h2;have hX:KeepX E w0 w':=KeepX.own k1 hg;have hvl:vs.length=n * k:=k1.1;refine h v' w' ⟨vs++cs.toList,h1,by simp[k2],?_,fun j x' hj=>?_⟩ hg (((Below.refl B w0).alloc hB _).grown h2 (by simp;omega) (fun k hk=>(k1.lt k hk).1)) hX
  ·intro u hu;rcases List.mem_append.1 hu with hu|hu
   ·exact k3 u hu
   ·exact hc1 u hu
  ·by_cases hjn:j < n
   ·rw[List.getElem?_append_left (by omega)] at hj;have hle:j * k+k≤n * k:=(by rw[←Nat.succ_mul];exact Nat.mul_le_mul_right _ hjn);rw[List.drop_append_of_le_length (by omega),List.take_append_of_le_length (by rw[List.length_drop];omega)];exact hS _ _ _ _ (k4 j x' hj) hX
   ·rw[List.getElem?_append_right (by omega)] at hj
    have hj0:j - xs.length=0:=by
     have:=(List.getElem?_eq_some_iff.1 hj).1
     simpa using this
    rw[hj0] at hj;simp only[List.getElem?_cons_zero,Option.some.injEq] at hj;subst hj;obtain rfl:j=n:=(by omega);rw[←hvl,List.drop_left,List.take_of_length_le (by simp[hcs])];exact hS _ _ _ _ hEl hX
end
end Go.Proofs.YtmikofeildnpdaaGreat
namespace Go.Proofs.YtmikofeildnpdaaGreat
open Go.RowKit
structure Only (D:Nat→Prop) (W W':World):Prop where
 os:W'.os=W.os
 tape:W'.tape=W.tape
 output:W'.output=W.output
 size:W.heap.size≤W'.heap.size
 same:∀k,k < W.heap.size→¬D k→W'.heap[k]? = W.heap[k]?
def Gr (D:Nat→Prop) (W:World) (D':Nat→Prop):Prop:=∀k,D' k→D k∨W.heap.size≤k
def Bd (D:Nat→Prop) (W:World):Prop:=∀k,D k→k < W.heap.size
theorem Only.refl (D:Nat→Prop) (W:World):Only D W W:=⟨rfl,rfl,rfl,Nat.le_refl _,fun _ _ _=>rfl⟩
theorem Only.trans {D D':Nat→Prop}{A B C:World}(h:Only D A B) (k:Only D' B C) (hg:Gr D A D'):Only D A C:=
 ⟨k.os.trans h.os,k.tape.trans h.tape,k.output.trans h.output,Nat.le_trans h.size k.size,fun i hi hd=>
  (k.same i (Nat.lt_of_lt_of_le hi h.size) (fun h'=>by rcases hg i h' with h'|h';exact hd h';omega)).trans (h.same i hi hd)⟩
theorem Only.mono {D D':Nat→Prop}{A B:World}(h:Only D A B) (hd:∀k,D k→D' k):Only D' A B:=
 ⟨h.os,h.tape,h.output,h.size,fun k hk hn=>h.same k hk (fun h'=>hn (hd k h'))⟩
theorem Only.below {D:Nat→Prop}{A B:World}(h:Only D A B) {n:Nat}(hn:n≤A.heap.size) (hd:∀k,D k→n≤k):Below n A B:=
 ⟨h.os,h.tape,h.output,h.size,fun k hk=>h.same k (by omega) (fun h'=>by have:=hd k h';omega)⟩
theorem Only.of_below {D:Nat→Prop}{A B:World}(h:Below A.heap.size A B):Only D A B:=⟨h.os,h.tape,h.output,h.size,fun k hk _=>h.block k hk⟩
theorem Only.thenBelow {D:Nat→Prop}{A B C:World}(h:Only D A B) (k:Below A.heap.size B C):Only D A C:=
 ⟨k.os.trans h.os,k.tape.trans h.tape,k.output.trans h.output,Nat.le_trans h.size k.size,fun i hi hd=>(k.block i hi).trans (h.same i hi hd)⟩
theorem Only.setCell {D:Nat→Prop}{A B:World}(h:Only D A B) {p:Addr}(hp:D p.block) (u:Value):Only D A (B.setCell p u):=
 ⟨h.os,h.tape,h.output,by simpa [World.setCell] using h.size,fun i hi hd=>(Below.heap_setCell B p u i (fun e=>hd (e▸hp))).trans (h.same i hi hd)⟩
theorem Only.cell {D:Nat→Prop}{A B:World}(h:Only D A B) {p:Addr}{v:Value}(hp : ¬D p.block) (hc:A.cell? p=some v):B.cell? p=some v:=
 (World.cell?_of_block (h.same p.block (World.block_lt_of_cell? A p hc) hp)).trans hc
theorem Only.drewN {D:Nat→Prop}{A B:World}(h:Only D A B) (n:Nat):Only D A (B.drewN n):=⟨h.os,h.tape,h.output,h.size,h.same⟩
theorem below_putObj {B:Nat}{w W:World}(h:Below B w W) {d:Nat}(hd:B≤d) (o:Obj):Below B w (W.putObj d o):=
 h.trans ⟨rfl,rfl,rfl,by simp,fun k hk=>World.putObj_heap_other (by omega)⟩
theorem Gr.refl (D:Nat→Prop) (W:World):Gr D W D:=fun _ h=>.inl h
theorem Gr.trans {D D' D'':Nat→Prop}{A B:World}(h:Gr D A D') (k:Gr D' B D'') (hs:A.heap.size≤B.heap.size):Gr D A D'':=fun i hi=>by
 rcases k i hi with h'|h'
 ·exact h i h'
 ·exact .inr (Nat.le_trans hs h')
theorem Only.putObj {D:Nat→Prop}{W:World}{l:Nat}(hl:D l) (o:Obj):Only D W (W.putObj l o):=
 ⟨rfl,rfl,rfl,by simp,fun k _ hk=>World.putObj_heap_other (fun e=>hk (e▸hl))⟩
def Stable {α:Type}(J:List α→(Nat→Prop)→World→Prop):Prop:=
 ∀pre D W W',J pre D W→W.heap.size≤W'.heap.size→(∀k,D k→W'.heap[k]? = W.heap[k]?)→J pre D W'
def SeqOK {α:Type}(P:Program) (g:Nat) (lb:Array Value) (enc:α→Array Value) (R:List α→α→World→Prop) (S Sp:List α→Prop) (N:Nat) (C:Nat→Prop) (w0:World):Prop:=
 ∀(l:Nat) (J Jx:List α→(Nat→Prop)→World→Prop) (D:Nat→Prop) (W:World),Below w0.heap.size w0 W→Bd D W→(∀k,D k→¬C k)→Stable J→Stable Jx→
  (∀pre x D1 W1,J pre D1 W1→Bd D1 W1→Only D W W1→Gr D W D1→R pre x W1→pre.length < N→YieldAt Fence.wide 0 P l (enc x) W1 fun e W'=>
   ∃D',Only D1 W1 W'∧Gr D1 W1 D'∧Bd D' W'∧((e = .returned (.bool true)∧J (pre ++ [x]) D' W')∨(e = .returned (.bool false)∧Jx (pre ++ [x]) D' W')))→
  J [] D W→
  CallsIn Fence.wide 0 P g (#[.func (.yield l) #[] #[]]++lb) W fun e W'=>(∃v,e = .returned v)∧
   ∃D',Only D W W'∧Gr D W D'∧Bd D' W'∧((∃xs,S xs∧J xs D' W')∨(∃pre,Sp pre∧Jx pre D' W'))
def bodyQ {α:Type}(I:List α→(Nat→Prop)→World→Prop) (Ix:Code→List α→(Nat→Prop)→World→Prop) (xs:List α) (D:Nat→Prop) (W:World):Exit→Act→World→Prop
 | .normal,_,W'=>∃D',Only D W W'∧Gr D W D'∧Bd D' W'∧I xs D' W'
 | .ret,_,W'=>∃D',Only D W W'∧Gr D W D'∧Bd D' W'∧Ix .ret xs D' W'
 | .exit id,_,W'=>∃D',Only D W W'∧Gr D W D'∧Bd D' W'∧Ix (.exit id) xs D' W'
 | .goto t,_,W'=>∃D',Only D W W'∧Gr D W D'∧Bd D' W'∧Ix (.goto t) xs D' W'
 | .panic _,_,_=>False
 | .outgrown,_,_=>False
theorem wpIn_rf {P:Program}{α:Type}{g:Operand}{ps:Array Tmp}{assign body:Code}{Q:Exit→Act→World→Prop}{a:Act}{w:World}
  {gf:Nat} {lb:Array Value} (hg:a.eval g = .func (.func gf) #[] lb) (eg:∀args w,(callFunc gf args).run P w = .ok (.enter gf args) w)
  {enc:α→Array Value} {R:List α→α→World→Prop} {S Sp:List α→Prop} {N:Nat} {C:Nat→Prop} {w0:World} (hseq:SeqOK P gf lb enc R S Sp N C w0)
  (hb0:Below w0.heap.size w0 w) (hps:∀x,(enc x).size=ps.size) (hR:∀pre x W k r o,R pre x W→W.heap[k]? = some (.loop r)→R pre x (W.putObj k o))
  (I:List α→(Nat→Prop)→World→Prop) (Ix:Code→List α→(Nat→Prop)→World→Prop) (hI:Stable I) (hIx:∀c,Stable (Ix c))
  (D0:Nat→Prop) (hD0:Bd D0 w) (hC:∀k,D0 k→¬C k) (hC':Bd C w) (h0:I [] D0 w) (a₁:α→Act)
  (hassign:∀(l:Nat) (x:α) (W:World) (K:Act→World→Prop),K (a₁ x) W→
   assign.wpIn (Fence.wide.inRound l) 0 P (Exit.then K (fun _ _ _=>False)) { tmps:=(ps.zip (enc x)).foldl (fun t (p,v)=>t.setIfInBounds p v) a.tmps,defers:=[] } W)
  (hbody:∀(l:Nat) (pre:List α) (x:α) (D:Nat→Prop) (W:World),I pre D W→Bd D W→Only D0 w W→Gr D0 w D→R pre x W→pre.length < N→body.wpIn (Fence.wide.inRound l) 0 P (bodyQ I Ix (pre ++ [x]) D W) (a₁ x) W)
  (hdone:∀(d:Nat) (xs:List α) (D:Nat→Prop) (W:World),S xs→I xs D W→Only D0 w W→Gr D0 w D→w.heap.size≤d→¬D d→W.heap[d]? = some (.deferred (some []))→Q .normal { a with defers:={ target:=.collected d,args:=#[] }::a.defers } W)
  (hstop:∀(d:Nat) (c:Code) (pre:List α) (D:Nat→Prop) (W:World),Sp pre→Ix c pre D W→Only D0 w W→Gr D0 w D→w.heap.size≤d→¬D d→W.heap[d]? = some (.deferred (some []))→c.wpIn Fence.wide 0 P Q { a with defers:={ target:=.collected d,args:=#[] }::a.defers } W) :
  (Code.rangeFunc g ps assign body).wpIn Fence.wide 0 P Q a w:=by
 refine wpIn_rangeFunc fun fn _=>?_;obtain⟨d,hd⟩:=exF (w.heap.size);obtain⟨l,hl⟩:=exF (w.heap.size+1);obtain⟨rec,hrec⟩:∃rec:LoopState→Option Code→Loop,rec=fun st pe=>{ state:=st,pending:=pe,fn:=fn,tmps:=a.tmps,params:=ps,assign:=assign,body:=body,defers:=d }:=⟨_,rfl⟩;obtain⟨W1,hW1⟩:=exE ((w.alloc (.deferred (some []))).alloc (.loop (rec .ready none)));have hs1:W1.heap.size=w.heap.size+2:=by rw[←hW1];simp
 have hold:∀k,k < w.heap.size→W1.heap[k]? = w.heap[k]?:=fun k hk=>by
  rw[←hW1];exact(Below.heap_alloc _ _ _ (by simp;omega)).trans (Below.heap_alloc _ _ _ hk)
 have hl1:W1.heap[l]? = some (.loop (rec .ready none)):=by
  rw[←hW1,hl];have:=World.alloc_heap_new (w.alloc (.deferred (some []))) (.loop (rec .ready none));rwa [World.size_alloc] at this
 have hd1:W1.heap[d]? = some (.deferred (some [])):=by
  rw[←hW1,hd];exact(Below.heap_alloc _ _ _ (by simp)).trans (World.alloc_heap_new w _)
 have hbW:Below w.heap.size w W1:=by rw[←hW1];exact((Below.refl _ _).alloc (Nat.le_refl _) _).alloc (by simp) _
 have hDl : ¬D0 l:=fun h=>by have:=hD0 l h;omega
 have hDd : ¬D0 d:=fun h=>by have:=hD0 d h;omega
 -- what the caller's data and the two blocks of the statement's own are
 let J:List α→(Nat→Prop)→World→Prop:=fun pre D W=>∃E,I pre E W∧Bd E W∧Gr D0 w E∧¬E l∧¬E d∧(∀k,D k↔E k∨k=l∨k=d)∧
  W.heap[l]? = some (.loop (rec .ready none))∧W.heap[d]? = some (.deferred (some []))
 let Jx:List α→(Nat→Prop)→World→Prop:=fun pre D W=>∃c E,Ix c pre E W∧Bd E W∧Gr D0 w E∧¬E l∧¬E d∧(∀k,D k↔E k∨k=l∨k=d)∧
  W.heap[l]? = some (.loop (rec .done (some c)))∧W.heap[d]? = some (.deferred (some []))
 have hJ:Stable J:=by
  rintro pre D W W' ⟨E,h1,h2,h3,h4,h5,h6,h7,h8⟩ hs hk;refine⟨E,hI pre E W W' h1 hs (fun k hkE=>hk k ((h6 k).2 (.inl hkE))),fun k hkE=>Nat.lt_of_lt_of_le (h2 k hkE) hs,h3,h4,h5,h6,(hk l ((h6 l).2 (.inr (.inl rfl)))).trans h7,(hk d ((h6 d).2 (.inr (.inr rfl)))).trans h8⟩
 have hJx:Stable Jx:=by
  rintro pre D W W' ⟨c,E,h1,h2,h3,h4,h5,h6,h7,h8⟩ hs hk;refine⟨c,E,hIx c pre E W W' h1 hs (fun k hkE=>hk k ((h6 k).2 (.inl hkE))),fun k hkE=>Nat.lt_of_lt_of_le (h2 k hkE) hs,h3,h4,h5,h6,(hk l ((h6 l).2 (.inr (.inl rfl)))).trans h7,(hk d ((h6 d).2 (.inr (.inr rfl)))).trans h8⟩
 let D1:Nat→Prop:=fun k=>D0 k∨k=l∨k=d
 have hD1:Bd D1 W1:=fun k hk=>by
  rcases hk with h|rfl|rfl
  ·have:=hD0 k h;omega
  ·omega
  ·omega
 have hwW:∀ {W:World},Only D1 W1 W→Only D0 w W:=fun {W} h=>
  ⟨h.os.trans hbW.os,h.tape.trans hbW.tape,h.output.trans hbW.output,Nat.le_trans hbW.size h.size,fun k hk hn=>
   (h.same k (by omega) (fun hh=>by rcases hh with hh|rfl|rfl;exact hn hh;omega;omega)).trans (hold k hk)⟩
 refine⟨l,[{ target:=.collected d,args:=#[] }],W1,{ target:=.fn (.func gf) lb,args:=#[.func (.yield l) #[] #[]] },W1,gf,#[.func (.yield l) #[] #[]]++lb,W1,?_,?_,?_,?_,?_,?_⟩
 ·rw[←hW1,hrec,hl,hd];exact run_enterLoop_outer _ _ _ _ _
 ·simp only[resolve,hg];simp[go_sem]
 ·intro f' hf';trivial
 ·simp[invoke,go_sem,eg]
 ·intro h;simp[Fence.wide] at h
 refine(hseq l J Jx D1 W1 (hb0.trans (hbW.mono hb0.size)) hD1 ?_ hJ hJx ?_ ?_).mono ?_
 ·intro k hk hkC;have:=hC' k hkC
  rcases hk with h|rfl|rfl
  ·exact hC k h hkC
  ·omega
  ·omega
 ·-- a round
  rintro pre x D W ⟨E,h1,h2,h3,h4,h5,h6,h7,h8⟩ hBd hOn hGr hRx hlen;have hlW:l < W.heap.size:=(Array.getElem?_eq_some_iff.1 h7).1;have hy:=run_yield (P:=P) (args:=enc x) h7 (by rw[hrec];exact hps x);rw[hrec] at hy;refine⟨fn,_,assign,body,hy,roundIn_of_wpIn trivial (hassign l x W _ ⟨_,run_beginRound h7 (by rw[hrec]),?_⟩)⟩;obtain⟨W2,hW2⟩:∃W2,W2=W.putObj l (.loop { rec .ready none with state:=.busy }):=⟨_,rfl⟩;have g7:W2.heap[l]? = some (.loop { rec .ready none with state:=.busy }):=by rw[hW2];exact World.putObj_heap_same hlW
  have gO:∀k,k ≠ l→W2.heap[k]? = W.heap[k]?:=fun k hk=>by rw[hW2];exact World.putObj_heap_other hk
  have gS:W2.heap.size=W.heap.size:=by rw[hW2];simp
  have g8:W2.heap[d]? = some (.deferred (some [])):=(gO d (by omega)).trans h8;have gI:I pre E W2:=hI pre E W W2 h1 (by omega) (fun k hk=>gO k (fun e=>h4 (e▸hk)));have gOn:Only D1 W1 W2:=hOn.trans (by rw[hW2];exact Only.putObj (D:=D) ((h6 l).2 (.inr (.inl rfl))) _) hGr;have gR:R pre x W2:=by rw[hW2];exact hR pre x W l _ _ hRx h7
  rw[←hW2];refine wpIn_mono (hbody l pre x E W2 gI (fun k hk=>by rw[gS];exact h2 k hk) (hwW gOn) h3 gR hlen) ?_;-- what stands when the body has ended
  have fin:∀(jump:Option Code) (W3:World) (E':Nat→Prop),Only E W2 W3→Gr E W2 E'→Bd E' W3→
    (Instr.endRound l jump).run P W3 = .ok (.bool jump.isNone) (W3.putObj l (.loop (rec (if jump.isNone then .ready else .done) jump)))∧
    Only D W (W3.putObj l (.loop (rec (if jump.isNone then .ready else .done) jump)))∧Gr D W (fun k=>E' k∨k=l∨k=d)∧
    Bd (fun k=>E' k∨k=l∨k=d) (W3.putObj l (.loop (rec (if jump.isNone then .ready else .done) jump)))∧¬E' l∧¬E' d∧Gr D0 w E'∧
    (W3.putObj l (.loop (rec (if jump.isNone then .ready else .done) jump))).heap[l]? = some (.loop (rec (if jump.isNone then .ready else .done) jump))∧
    (W3.putObj l (.loop (rec (if jump.isNone then .ready else .done) jump))).heap[d]? = some (.deferred (some []))∧
    (∀k,E' k→(W3.putObj l (.loop (rec (if jump.isNone then .ready else .done) jump))).heap[k]? = W3.heap[k]?):=by
   intro jump W3 E' k1 k2 k3;have hdW:d < W2.heap.size:=(by omega);have hl3:=(k1.same l (by omega) h4).trans g7;have hl3':l < W3.heap.size:=(Array.getElem?_eq_some_iff.1 hl3).1;have nl : ¬E' l:=fun h=>by rcases k2 l h with h'|h';exact h4 h';omega
   have nd : ¬E' d:=fun h=>by rcases k2 d h with h'|h';exact h5 h';omega
   have hend:=run_endRound (P:=P) jump hl3;refine⟨by rw[hrec] at hend⊢;exact hend,?_,?_,?_,nl,nd,?_,World.putObj_heap_same hl3',(World.putObj_heap_other (by omega)).trans ((k1.same d hdW h5).trans g8),fun k hk=>World.putObj_heap_other (fun e=>nl (e▸hk))⟩
   ·have e1:Only D W W2:=(by rw[hW2];exact Only.putObj (D:=D) ((h6 l).2 (.inr (.inl rfl))) _);have e2:Only D W2 W3:=k1.mono fun k hk=>(h6 k).2 (.inl hk);exact(e1.trans e2 (Gr.refl _ _)).trans (Only.putObj (D:=D) ((h6 l).2 (.inr (.inl rfl))) _) (Gr.refl _ _)
   ·intro k hk;rcases hk with h|rfl|rfl
    ·rcases k2 k h with h'|h'
     ·exact .inl ((h6 k).2 (.inl h'))
     ·exact .inr (by omega)
    ·exact .inl ((h6 k).2 (.inr (.inl rfl)))
    ·exact .inl ((h6 k).2 (.inr (.inr rfl)))
   ·intro k hk;rw[World.putObj_size];rcases hk with h|rfl|rfl
    ·exact k3 k h
    ·omega
    ·have:=k1.size;omega
   ·intro k hk;rcases k2 k hk with h'|h'
    ·exact h3 k h'
    ·right;have:=hOn.size;omega
  rintro e a3 W3 hp;cases e with
  | normal=>
   obtain⟨E',k1,k2,k3,k4⟩:=hp;obtain⟨f1,f2,f3,f4,f5,f6,f7,f8,f9,f10⟩:=fin none W3 E' k1 k2 k3;exact⟨_,_,f1,_,f2,f3,f4,.inl ⟨rfl,E',hI _ E' W3 _ k4 (by rw[World.putObj_size];exact Nat.le_refl _) f10,fun k hk=>f4 k (.inl hk),f7,f5,f6,fun _=>Iff.rfl,f8,f9⟩⟩
  | ret=>
   obtain⟨E',k1,k2,k3,k4⟩:=hp;obtain⟨f1,f2,f3,f4,f5,f6,f7,f8,f9,f10⟩:=fin (some .ret) W3 E' k1 k2 k3;exact⟨_,_,f1,_,f2,f3,f4,.inr ⟨rfl,_,E',hIx _ _ E' W3 _ k4 (by rw[World.putObj_size];exact Nat.le_refl _) f10,fun k hk=>f4 k (.inl hk),f7,f5,f6,fun _=>Iff.rfl,f8,f9⟩⟩
  | exit id=>
   obtain⟨E',k1,k2,k3,k4⟩:=hp;obtain⟨f1,f2,f3,f4,f5,f6,f7,f8,f9,f10⟩:=fin (some (.exit id)) W3 E' k1 k2 k3;exact⟨_,_,f1,_,f2,f3,f4,.inr ⟨rfl,_,E',hIx _ _ E' W3 _ k4 (by rw[World.putObj_size];exact Nat.le_refl _) f10,fun k hk=>f4 k (.inl hk),f7,f5,f6,fun _=>Iff.rfl,f8,f9⟩⟩
  | goto t=>
   obtain⟨E',k1,k2,k3,k4⟩:=hp;obtain⟨f1,f2,f3,f4,f5,f6,f7,f8,f9,f10⟩:=fin (some (.goto t)) W3 E' k1 k2 k3;exact⟨_,_,f1,_,f2,f3,f4,.inr ⟨rfl,_,E',hIx _ _ E' W3 _ k4 (by rw[World.putObj_size];exact Nat.le_refl _) f10,fun k hk=>f4 k (.inl hk),f7,f5,f6,fun _=>Iff.rfl,f8,f9⟩⟩
  | panic ch=>exact hp.elim
  | outgrown=>exact hp.elim
 ·refine⟨D0,hI [] D0 w W1 h0 hbW.size (fun k hk=>hold k (hD0 k hk)),fun k hk=>by have:=hD0 k hk;omega,Gr.refl _ _,hDl,hDd,fun _=>Iff.rfl,hl1,hd1⟩
 ·-- behind the iterator
  rintro e W2 ⟨⟨v,rfl⟩,D,hOn,hGr,hBd,(⟨xs,hS,E,h1,h2,h3,h4,h5,h6,h7,h8⟩|⟨pre,hSp,c,E,h1,h2,h3,h4,h5,h6,h7,h8⟩)⟩
  ·have hend:=run_endLoop (P:=P) h7 (by rw[hrec];simp);rw[hrec] at hend;refine⟨none,_,hend,hdone d xs E _ hS (hI _ E W2 _ h1 (by simp) fun k hk=>World.putObj_heap_other (fun e=>h4 (e▸hk))) ?_ h3 (by omega) h5 ((World.putObj_heap_other (by omega)).trans h8)⟩;exact hwW (hOn.trans (Only.putObj (D:=D) ((h6 l).2 (.inr (.inl rfl))) _) hGr)
  ·have hend:=run_endLoop (P:=P) h7 (by rw[hrec];simp);rw[hrec] at hend;refine⟨some c,_,hend,hstop d c pre E _ hSp (hIx c _ E W2 _ h1 (by simp) fun k hk=>World.putObj_heap_other (fun e=>h4 (e▸hk))) ?_ h3 (by omega) h5 ((World.putObj_heap_other (by omega)).trans h8)⟩;exact hwW (hOn.trans (Only.putObj (D:=D) ((h6 l).2 (.inr (.inl rfl))) _) hGr)
theorem opIn_of_op {P:Program}{l0:Nat}{o:Oper}{a:Act}{w:World}{K:Act→World→Prop}{Q:Exit→Act→World→Prop}(hd:∀c,o.op ≠ .defer c) (h:o.wp P a w K Q) :
  o.wpIn (Fence.wide.inRound l0) 0 P a w K Q:=by
 refine⟨fun _ _=>trivial,?_⟩;unfold Oper.wp at h;rw[Oper.semAt_eq _ _ _ hd];generalize (execOp a.eval o).run P w=r at h⊢
 have hdep:(Fence.wide.inRound l0).depth.isSome=true→1≤0:=fun h=>by simp[Fence.wide] at h
 cases r with
 | halt x w'=>cases x<;>first|exact h|exact h.elim
 | ok nx w'=>
  cases nx with
  | enter f args=>exact⟨hdep,CallsIn.inRound l0 (callsIn_wide.2 h)⟩
  | row r args=>exact⟨hdep,fun c cs _=>by
    obtain⟨v,w2,hr,hs⟩:=h c cs;exact⟨v,w2,hr,stepsIn_wide.2 hs⟩⟩
  | _=>first|exact h|exact h.elim
theorem anyIn_of_any {P:Program}{l0:Nat}{md:Region.Mode}{ops:Array Oper}{Q:Exit→Act→World→Prop}(hnd:∀(i:Nat) o,ops[i]? = some o→∀c,o.op ≠ .defer c) (hQ : ¬LetsOut Q) :
  ∀(fuel:Nat) (listed:Array Bool) (a:Act) (w:World),wpAny P md ops Q fuel listed a w→wpAnyIn (Fence.wide.inRound l0) 0 P md ops Q fuel listed a w
 | 0,_,_,_,h=>h
 | fuel+1,listed,a,w,h=>by
  refine⟨h.1,fun i hi=>?_⟩;have h1:=h.2 i hi;unfold wpOp at h1;unfold wpOpIn;cases ho:ops[i]? with
  | none=>rw[ho] at h1;exact anyIn_of_any hnd hQ fuel _ _ _ h1
  | some o=>
   rw[ho] at h1;simp only at h1⊢
   by_cases hw:Region.wanted o (yielded ops a.tmps)=true
   ·rw[if_pos hw] at h1⊢;refine opIn_of_op (hnd i o ho) ?_;exact Oper.wp_mono (fun a w hh=>anyIn_of_any hnd hQ fuel _ a w hh) (h1.resolve_right (fun hh=>hQ hh.2))
   ·rw[if_neg hw] at h1⊢;exact⟨fun _ _=>trivial,anyIn_of_any hnd hQ fuel _ _ _ h1⟩
def noDefer (l:List Oper):Bool:=l.all fun o=>match o.op with | .defer _=>false|_=>true
theorem noDefer_get {l:List Oper}(h:noDefer l=true):∀(i:Nat) o,l.toArray[i]? = some o→∀c,o.op ≠ .defer c:=by
 intro i o ho c hc;have hm:o∈l:=by rw[List.getElem?_toArray] at ho;exact List.mem_of_getElem? ho
 have:=List.all_eq_true.1 h o hm
 rw[hc] at this;cases this
def mask (o:Oper):Oper:={ dst:=none,op:=.move (.const undef),type:=o.type,pos:=o.pos,after:=o.after,guard:=none }
def maskLast (n:Nat) (l:List Oper):List Oper:=l.take n++(l.drop n).map mask
def qtB (n:Nat) (l:List Oper):Bool:=
 decide (l.length=n+1) && Region.sinkB .any l.toArray n && (List.range l.length).all (fun i=>match l[i]? with|some o=>o.after.all fun e=>decide (e.on < i)|none=>true) &&
 Region.lexB .any (maskLast n l).toArray && ((l.drop n).all fun o=>o.guard.isNone)
theorem maskLast_get {n:Nat}{l:List Oper}(i:Nat):(maskLast n l)[i]? = if i < n then l[i]? else (l[i]?).map mask:=by
 unfold maskLast;by_cases h:i < (l.take n).length
 ·rw[List.getElem?_append_left h];have:i < n:=by rw[List.length_take] at h;omega
  rw[if_pos this,List.getElem?_take,if_pos this]
 ·rw[List.getElem?_append_right (by omega),List.getElem?_map,List.getElem?_drop];rw[List.length_take] at h⊢;by_cases hi:i < n
  ·rw[if_pos hi];have:l.length≤i:=by omega
   rw[List.getElem?_eq_none (by omega:l.length≤n+(i - min n l.length)),List.getElem?_eq_none this];rfl
  ·rw[if_neg hi];by_cases hn:n≤l.length
   ·rw[show n+(i - min n l.length)=i by omega]
   ·rw[List.getElem?_eq_none (by omega:l.length≤n+(i - min n l.length)),List.getElem?_eq_none (by omega:l.length≤i)]
theorem maskLast_length (n:Nat) (l:List Oper):(maskLast n l).length=l.length:=by simp[maskLast];omega
theorem ready_mask (md:Region.Mode) (n:Nat) (l:List Oper) (listed:Array Bool):Region.ready md (maskLast n l).toArray listed=Region.ready md l.toArray listed:=by
 unfold Region.ready;simp only[List.size_toArray,maskLast_length,List.getElem?_toArray,maskLast_get];congr 1
 funext i
 by_cases h:i < n
 ·rw[if_pos h]
 ·rw[if_neg h];cases l[i]?<;>rfl
theorem wpQuiet_append {P:Program}{ops:Array Oper}{C:World→Prop}{Q:Act→Prop}:∀ {l1 l2:List Oper}{a:Act},wpQuiet P ops C (fun a=>wpQuiet P ops C Q l2 a) l1 a→wpQuiet P ops C Q (l1++l2) a
 | [],_,_,h=>h
 | o::l1,l2,a,h=>by
  rw[List.cons_append];unfold wpQuiet at h⊢;split
  ·rename_i hw
   rw[if_pos hw] at h;exact Oper.quiet_mono (fun a hh=>wpQuiet_append hh) h
  ·rename_i hw
   rw[if_neg hw] at h;exact wpQuiet_append h
theorem wpQuiet_mono' {P:Program}{ops:Array Oper}{C:World→Prop}{Q Q':Act→Prop}(hq:∀a,Q a→Q' a):∀ {l:List Oper}{a:Act},wpQuiet P ops C Q l a→wpQuiet P ops C Q' l a
 | [],_,h=>hq _ h
 | o::l,a,h=>by
  unfold wpQuiet at h⊢;split
  ·rename_i hw
   rw[if_pos hw] at h;exact Oper.quiet_mono (fun a hh=>wpQuiet_mono' hq hh) h
  ·rename_i hw
   rw[if_neg hw] at h;exact wpQuiet_mono' hq h
theorem any_of_quiet_last {P:Program}{C:World→Prop}{Qa:Act→Prop}{Q:Exit→Act→World→Prop}{n:Nat}{l:List Oper}{last:Oper}(hlen:l.length=n+1) (hlast:l[n]? = some last) (hg:last.guard=none)
  (hs:Region.sinkB .any l.toArray n=true) (hback:∀(i:Nat) (o:Oper),l[i]? = some o→∀e∈o.after,e.on < i)
  (hQ:∀a w,C w→Qa a→last.wp P a w (fun a w=>Q .normal a w) Q) (hng:∀(i:Nat) (o:Oper),l[i]? = some o→∀tmps,Region.wanted o (yielded (maskLast n l).toArray tmps)=Region.wanted o (yielded l.toArray tmps)) :
  ∀(fuel:Nat) (listed:Array Bool) (a:Act) (w:World),HeadInv .any l.toArray n listed→C w→wpAnyQ P .any (maskLast n l).toArray C Qa fuel listed a→1≤fuel→wpAny P .any l.toArray Q fuel listed a w
 | 0,_,_,_,_,_,_,h1=>absurd h1 (by omega)
 | fuel+1,listed,a,w,inv,hC,h,_=>by
  have hc:Region.chainB .any l.toArray n=true:=by
   refine List.all_eq_true.2 fun t ht=>?_;rw[List.mem_range,List.size_toArray] at ht;simp only[Bool.or_eq_true,decide_eq_true_eq];left;omega
  have hn:n < l.toArray.size:=by simp;omega
  -- something is ready
  have hne:Region.ready .any l.toArray listed ≠ []:=by
   have key:∀k,k < l.length→listed.getD k true=false→∃j,j∈Region.ready .any l.toArray listed:=by
    intro k;induction k using Nat.strongRecOn with
    | _ k ih=>
     intro hk hun;by_cases hall:∀e∈(l[k]'hk).after,Region.binds .any e=true→listed.getD e.on false=true
     ·exact⟨k,mem_ready.2 ⟨hun,l[k],by rw[List.getElem?_toArray,List.getElem?_eq_getElem hk],hall⟩⟩
     ·obtain⟨e,he⟩:=Classical.not_forall.1 hall;obtain⟨he1,he2⟩:=Classical.not_imp.1 he;obtain⟨_,he3⟩:=Classical.not_imp.1 he2;have hlt:=hback k l[k] (List.getElem?_eq_getElem hk) e he1;have hsz:e.on < listed.size:=(by rw[inv.size];simp;omega);exact ih e.on hlt (by omega) (getD_in hsz (by simpa using he3))
   obtain⟨j,hj⟩:=key n (by omega) (inv.tail n (Nat.le_refl _) hn);intro h0;rw[h0] at hj;cases hj
  refine⟨fun h0=>absurd h0 hne,fun i hi=>?_⟩;have hi':i∈Region.ready .any (maskLast n l).toArray listed:=by rw[ready_mask];exact hi
  have hq:=h.2 i hi';obtain⟨hiun,oi,hoi,_⟩:=mem_ready.1 hi;have hilt:i < l.length:=by have:=(Array.getElem?_eq_some_iff.1 hoi).1;simpa using this
  by_cases hin:i < n
  ·have hoi':(maskLast n l).toArray[i]? = some oi:=by rw[List.getElem?_toArray,maskLast_get,if_pos hin,←List.getElem?_toArray];exact hoi
   have hq2:qOp P l.toArray C i (wpAnyQ P .any (maskLast n l).toArray C Qa fuel (listed.setIfInBounds i true)) a:=by
    unfold qOp at hq⊢;rw[hoi'] at hq;rw[hoi];simp only at hq⊢
    rw[hng i oi (by simpa using hoi)] at hq;exact hq
   have hf:1≤fuel:=by
    cases fuel with
    | succ f=>omega
    | zero=>
     obtain⟨v,hy,hK⟩:=yieldsIn_of_qOp hoi hq2;have hnr:=hK.1;rw[ready_mask] at hnr;have inv2:=inv.set hi hin
     have key:∀k,k < l.length→(listed.setIfInBounds i true).getD k true=false→∃j,j∈Region.ready .any l.toArray (listed.setIfInBounds i true):=by
      intro k;induction k using Nat.strongRecOn with
      | _ k ih=>
       intro hk hun;by_cases hall:∀e∈(l[k]'hk).after,Region.binds .any e=true→(listed.setIfInBounds i true).getD e.on false=true
       ·exact⟨k,mem_ready.2 ⟨hun,l[k],by rw[List.getElem?_toArray,List.getElem?_eq_getElem hk],hall⟩⟩
       ·obtain⟨e,he⟩:=Classical.not_forall.1 hall;obtain⟨he1,he2⟩:=Classical.not_imp.1 he;obtain⟨_,he3⟩:=Classical.not_imp.1 he2;have hlt:=hback k l[k] (List.getElem?_eq_getElem hk) e he1;have hsz:e.on < (listed.setIfInBounds i true).size:=(by rw[inv2.size];simp;omega);exact ih e.on hlt (by omega) (getD_in hsz (by simpa using he3))
     obtain⟨j,hj⟩:=key n (by omega) (inv2.tail n (Nat.le_refl _) hn);rw[hnr] at hj;cases hj
   exact wpOp_of_qOp hC (fun a' w' hC' hK=>any_of_quiet_last hlen hlast hg hs hback hQ hng fuel _ a' w' (inv.set hi hin) hC' hK hf) hq2
  ·obtain rfl:i=n:=by omega
   have hol:oi=last:=by
    rw[List.getElem?_toArray,hlast] at hoi;exact(Option.some.inj hoi).symm
   subst hol;-- all others are listed
   have hall:∀j,j < i→listed.getD j true=true:=by
    intro j hj;cases hb:listed.getD j true with
    | true=>rfl
    | false=>exact absurd hi (tail_waits hs hc hn inv _ j rfl hj hb i (Nat.le_refl _))
   have hend:Region.ready .any l.toArray (listed.setIfInBounds i true) = []:=by
    cases hR:Region.ready .any l.toArray (listed.setIfInBounds i true) with
    | nil=>rfl
    | cons j r=>
     have hj:j∈Region.ready .any l.toArray (listed.setIfInBounds i true):=(by rw[hR];simp);obtain⟨hjun,oj,hoj,_⟩:=mem_ready.1 hj;have hjlt:j < l.length:=(by have:=(Array.getElem?_eq_some_iff.1 hoj).1;simpa using this);by_cases hji:i=j
     ·subst hji;have:i < listed.size:=by rw[inv.size];simpa using hilt
      simp[this] at hjun
     ·rw[getD_set_ne true hji] at hjun;rw[hall j (by omega)] at hjun;cases hjun
   have hKa:Qa a:=by
    unfold qOp at hq;have hml:(maskLast i l).toArray[i]? = some (mask oi):=(by rw[List.getElem?_toArray,maskLast_get,if_neg (by omega),hlast];rfl);rw[hml] at hq;simp only[Region.wanted,mask,if_true] at hq;obtain⟨v,_,hK⟩:=hq;have hK':wpAnyQ P .any (maskLast i l).toArray C Qa fuel (listed.setIfInBounds i true) a:=hK;cases fuel with
    | zero=>exact hK'.2
    | succ f=>exact hK'.1 (by rw[ready_mask];exact hend)
   unfold wpOp;rw[hoi];simp only[Region.wanted,hg,if_true];refine .inl (Oper.wp_mono (fun a' w' hh=>?_) (hQ a w hC hKa));cases fuel with
   | zero=>exact⟨hend,hh⟩
   | succ f=>exact⟨fun _=>hh,fun j hj=>by rw[hend] at hj;cases hj⟩
def noGuard (l:List Oper):Bool:=l.all fun o=>o.guard.isNone
theorem noGuard_get {l:List Oper}(h:noGuard l=true) {i:Nat}{o:Oper}(ho:l[i]? = some o):o.guard=none:=by
 have:=List.all_eq_true.1 h o (List.mem_of_getElem? ho)
 simpa using this
theorem any_qtail {P:Program}{Q:Exit→Act→World→Prop}{a:Act}{w:World}{l:List Oper}(n:Nat) (hB:qtB n l=true) (hg:noGuard l=true)
  (h:wpQuiet P (maskLast n l).toArray (fun w'=>∃k,w'=w.drewN k) (fun a'=>∀k,wpList P l.toArray Q (l.drop n) a' (w.drewN k)) (l.take n) a) (hQ : ¬LetsOut Q) :
  wpAny P .any l.toArray Q l.toArray.size (Array.replicate l.toArray.size false) a w.drew:=by
 simp only[qtB,Bool.and_eq_true,decide_eq_true_eq] at hB;obtain⟨⟨⟨⟨hlen,hs⟩,hb⟩,hlex⟩,_⟩:=hB
 have hback:∀(i:Nat) (o:Oper),l[i]? = some o→∀e∈o.after,e.on < i:=by
  intro i o ho e he;have:=List.all_eq_true.1 hb i (List.mem_range.2 (List.getElem?_eq_some_iff.1 ho).1)
  rw[ho] at this;simp only at this
  exact of_decide_eq_true (Array.all_eq_true'.1 this e he)
 have hlt:n < l.length:=by omega
 have hlast:l[n]? = some l[n]:=List.getElem?_eq_getElem hlt;have hdrop:l.drop n = [l[n]]:=by rw[List.drop_eq_getElem_cons hlt,List.drop_eq_nil_of_le (by omega)]
 have hgl:l[n].guard=none:=noGuard_get hg hlast
 have start:HeadInv .any l.toArray n (Array.replicate l.toArray.size false):=
  ⟨by simp,fun j oj _ hh=>(by rw[getD_replicate_false] at hh;cases hh),fun t _ ht=>getD_in (by simpa using ht) (getD_replicate_false _ _)⟩
 refine any_of_quiet_last (C:=fun w'=>∃k,w'=w.drewN k) (Qa:=fun a'=>∀k,wpList P l.toArray Q (l.drop n) a' (w.drewN k)) hlen hlast hgl hs hback ?_ ?_ _ _ _ _ start ⟨1,rfl⟩ ?_ (by simp;omega)
 ·rintro a w' ⟨k,rfl⟩ hh;have h1:=hh k;rw[hdrop] at h1;unfold wpList at h1;rw[if_pos (by simp[Region.wanted,hgl])] at h1;exact Oper.wp_mono (fun a w hh=>hh) (h1.resolve_right (fun hh=>hQ hh.2))
 ·intro i o ho tmps;simp[Region.wanted,noGuard_get hg ho]
 ·simp only[Region.lexB,Bool.and_eq_true] at hlex;have hml:(maskLast n l)=l.take n ++ [mask l[n]]:=by rw[maskLast,hdrop];rfl
  have hw:wpQuiet P (maskLast n l).toArray (fun w'=>∃k,w'=w.drewN k) (fun a'=>∀k,wpList P l.toArray Q (l.drop n) a' (w.drewN k)) (maskLast n l) a:=by
   conv=>arg 5;rw[hml]
   refine wpQuiet_append ?_;refine wpQuiet_mono' ?_ h;intro a' hh;unfold wpQuiet;rw[if_pos (by simp[Region.wanted,mask])];exact⟨undef,fun w' _=>⟨rfl,rfl⟩,hh⟩
  have:=wpAnyQ_lex (C:=fun w'=>∃k,w'=w.drewN k) (md:=.any) hlex.1 (maskLast n l) 0 (Array.replicate (maskLast n l).toArray.size false) a (by simp) (by simpa using hlex.2) hw
  simpa [maskLast_length] using this
def EI (_:World) (cs:List Value) (x:List Int):Prop:=cs=x.map (Value.int .i64)
theorem EI.stab (E:TypeId):Stab E EI:=fun _ _ _ _ h _=>h
theorem flat_get {k:Nat}:∀ {xs:List (List Int)},(∀x∈xs,x.length=k)→∀ {j:Nat}{x:List Int},xs[j]? = some x→(xs.flatten.drop (j * k)).take k=x
 | [],_,j,x,h=>by simp at h
 | a::r,hl,0,x,h=>by
  simp only[List.getElem?_cons_zero,Option.some.injEq] at h;subst h;rw[Nat.zero_mul,List.drop_zero,List.flatten_cons,←hl a (by simp),List.take_left]
 | a::r,hl,j+1,x,h=>by
  rw[List.getElem?_cons_succ] at h;rw[List.flatten_cons,Nat.succ_mul,Nat.add_comm,←List.drop_drop];have:(a++r.flatten).drop k=r.flatten:=by rw[←hl a (by simp),List.drop_left]
  rw[this];exact flat_get (fun y hy=>hl y (by simp[hy])) h
theorem flat_len {k:Nat}:∀ {xs:List (List Int)},(∀x∈xs,x.length=k)→xs.flatten.length=xs.length * k
 | [],_=>by simp
 | a::r,hl=>by
  rw[List.flatten_cons,List.length_append,hl a (by simp),flat_len (fun y hy=>hl y (by simp[hy])),List.length_cons,Nat.succ_mul,Nat.add_comm]
theorem OwX.ofFlat {E:TypeId}{k:Nat}{w:World}{B n:Nat}{v:Value}{xs:List (List Int)}(h:w.ownsRow B E k v n (xs.flatten.map (Value.int .i64))) (hl:∀x∈xs,x.length=k) (hn:xs.length=n):OwX E k EI w B v n xs:=by
 refine⟨_,h,hn,fun u hu=>?_,fun j x hj=>?_⟩
 ·obtain⟨i,_,rfl⟩:=List.mem_map.1 hu;rfl
 ·show _=_;rw[←List.map_drop,←List.map_take,flat_get hl hj]
theorem KS.flat {k:Nat}{w:World}{b off:Nat}{xs:List (List Int)}(h:CK k w b off xs):∀j u,(xs.flatten.map (Value.int .i64))[j]? = some u→w.cell? ⟨b,off+j,none⟩=some u:=by
 have hl:∀x∈xs,x.length=k:=fun x hx=>by
  obtain⟨i,hi,rfl⟩:=List.getElem_of_mem hx;have:=(h i hi).1
  rwa [getD_eq hi] at this
 intro j u hj
 obtain⟨y,hy,rfl⟩:∃y,xs.flatten[j]? = some y∧Value.int .i64 y=u:=by
  rw[List.getElem?_map] at hj;cases hx:xs.flatten[j]? with
  | none=>rw[hx] at hj;cases hj
  | some y=>rw[hx] at hj;simp only[Option.map_some,Option.some.injEq] at hj;exact⟨y,rfl,hj⟩
 have hjl:=(List.getElem?_eq_some_iff.1 hy).1;rw[flat_len hl] at hjl
 have hk:0 < k:=by
  rcases Nat.eq_zero_or_pos k with rfl|h'
  ·simp at hjl
  ·exact h'
 have hq:j / k < xs.length:=Nat.div_lt_of_lt_mul (by rw[Nat.mul_comm];exact hjl);obtain⟨x,hx⟩:∃x,xs[j / k]? = some x:=⟨_,List.getElem?_eq_some_iff.2 ⟨hq,rfl⟩⟩;have h1:=flat_get hl hx;obtain⟨h2,h3⟩:=h _ hq;have hxd:xs.getD (j / k) []=x:=by rw[List.getD_eq_getElem?_getD,hx];rfl
 rw[hxd] at h2 h3;have hm:j % k < k:=Nat.mod_lt _ hk;have h4:=h3 (j % k) (by omega);have hdm:j / k * k+j % k=j:=by rw[Nat.mul_comm];exact Nat.div_add_mod j k
 have h5:x.getD (j % k) 0=y:=by
  rw[←h1,List.getD_eq_getElem?_getD,List.getElem?_take,if_pos hm,List.getElem?_drop,hdm,hy];rfl
 rw[h5,Nat.add_assoc,hdm] at h4;exact h4
theorem KS.lens {k:Nat}{w:World}{b off:Nat}{xs:List (List Int)}(h:CK k w b off xs):∀x∈xs,x.length=k:=fun x hx=>by
 obtain⟨i,hi,rfl⟩:=List.getElem_of_mem hx;have:=(h i hi).1
 rwa [getD_eq hi] at this
theorem elemMv:ElemK Tryz.prog 98 100 (.agg #[.int .i64 0,.int .i64 0,.int .i64 0,.int .i64 0,.int .i64 0,.int .i64 0,.int .i64 0,.int .i64 0]) 8 64:=⟨by kernel_rfl,by kernel_rfl,rfl⟩
theorem elemRd:ElemK Tryz.prog 78 87 (.agg #[.int .i64 0,.int .i64 0,.int .i64 0,.int .i64 0,.int .i64 0,.int .i64 0,.int .i64 0]) 7 56:=⟨by kernel_rfl,by kernel_rfl,rfl⟩
theorem wpIn_rfB {P:Program}{α:Type}{g:Operand}{ps:Array Tmp}{assign body:Code}{Q:Exit→Act→World→Prop}{a:Act}{w:World}
  {gf:Nat} {lb:Array Value} (hg:a.eval g = .func (.func gf) #[] lb) (eg:∀args w,(callFunc gf args).run P w = .ok (.enter gf args) w)
  {enc:α→Array Value} {R:List α→α→World→Prop} {S Sp:List α→Prop} {N:Nat} {C:Nat→Prop} {w0:World} (hseq:SeqOK P gf lb enc R S Sp N C w0)
  (hb0:Below w0.heap.size w0 w) (hps:∀x,(enc x).size=ps.size) (hR:∀pre x W k r o,R pre x W→W.heap[k]? = some (.loop r)→R pre x (W.putObj k o)) (hRa:∀pre x W o,R pre x W→R pre x (W.alloc o))
  (I:List α→(Nat→Prop)→World→Prop) (Ix:Code→List α→(Nat→Prop)→World→Prop) (hI:Stable I) (hIx:∀c,Stable (Ix c))
  (D0:Nat→Prop) (hD0:Bd D0 w) (hC:∀k,D0 k→¬C k) (hC':Bd C w) (h0:I [] D0 w) (cs:α→Array Value) (tB:TypeId) (fx:α→Nat→Array Value→Array Value)
  (hassign:∀(l:Nat) (pre:List α) (x:α) (W:World) (K:Act→World→Prop),R pre x W→K { tmps:=fx x W.heap.size a.tmps,defers:=[] } (W.alloc (.cells (cs x) tB))→
   assign.wpIn (Fence.wide.inRound l) 0 P (Exit.then K (fun _ _ _=>False)) { tmps:=(ps.zip (enc x)).foldl (fun t (p,v)=>t.setIfInBounds p v) a.tmps,defers:=[] } W)
  (hbody:∀(l:Nat) (pre:List α) (x:α) (D:Nat→Prop) (W:World) (b:Nat),I pre D W→Bd D W→Only D0 w W→Gr D0 w D→R pre x W→pre.length < N→W.heap[b]? = some (.cells (cs x) tB)→¬D b→w.heap.size≤b→body.wpIn (Fence.wide.inRound l) 0 P (bodyQ I Ix (pre ++ [x]) D W) { tmps:=fx x b a.tmps,defers:=[] } W)
  (hdone:∀(d:Nat) (xs:List α) (D:Nat→Prop) (W:World),S xs→I xs D W→Only D0 w W→Gr D0 w D→w.heap.size≤d→¬D d→W.heap[d]? = some (.deferred (some []))→Q .normal { a with defers:={ target:=.collected d,args:=#[] }::a.defers } W)
  (hstop:∀(d:Nat) (c:Code) (pre:List α) (D:Nat→Prop) (W:World),Sp pre→Ix c pre D W→Only D0 w W→Gr D0 w D→w.heap.size≤d→¬D d→W.heap[d]? = some (.deferred (some []))→c.wpIn Fence.wide 0 P Q { a with defers:={ target:=.collected d,args:=#[] }::a.defers } W) :
  (Code.rangeFunc g ps assign body).wpIn Fence.wide 0 P Q a w:=by
 refine wpIn_rangeFunc fun fn _=>?_;obtain⟨d,hd⟩:=exF (w.heap.size);obtain⟨l,hl⟩:=exF (w.heap.size+1);obtain⟨rec,hrec⟩:∃rec:LoopState→Option Code→Loop,rec=fun st pe=>{ state:=st,pending:=pe,fn:=fn,tmps:=a.tmps,params:=ps,assign:=assign,body:=body,defers:=d }:=⟨_,rfl⟩;obtain⟨W1,hW1⟩:=exE ((w.alloc (.deferred (some []))).alloc (.loop (rec .ready none)));have hs1:W1.heap.size=w.heap.size+2:=by rw[←hW1];simp
 have hold:∀k,k < w.heap.size→W1.heap[k]? = w.heap[k]?:=fun k hk=>by
  rw[←hW1];exact(Below.heap_alloc _ _ _ (by simp;omega)).trans (Below.heap_alloc _ _ _ hk)
 have hl1:W1.heap[l]? = some (.loop (rec .ready none)):=by
  rw[←hW1,hl];have:=World.alloc_heap_new (w.alloc (.deferred (some []))) (.loop (rec .ready none));rwa [World.size_alloc] at this
 have hd1:W1.heap[d]? = some (.deferred (some [])):=by
  rw[←hW1,hd];exact(Below.heap_alloc _ _ _ (by simp)).trans (World.alloc_heap_new w _)
 have hbW:Below w.heap.size w W1:=by rw[←hW1];exact((Below.refl _ _).alloc (Nat.le_refl _) _).alloc (by simp) _
 have hDl : ¬D0 l:=fun h=>by have:=hD0 l h;omega
 have hDd : ¬D0 d:=fun h=>by have:=hD0 d h;omega
 -- what the caller's data and the two blocks of the statement's own are
 let J:List α→(Nat→Prop)→World→Prop:=fun pre D W=>∃E,I pre E W∧Bd E W∧Gr D0 w E∧¬E l∧¬E d∧(∀k,D k↔E k∨k=l∨k=d)∧
  W.heap[l]? = some (.loop (rec .ready none))∧W.heap[d]? = some (.deferred (some []))
 let Jx:List α→(Nat→Prop)→World→Prop:=fun pre D W=>∃c E,Ix c pre E W∧Bd E W∧Gr D0 w E∧¬E l∧¬E d∧(∀k,D k↔E k∨k=l∨k=d)∧
  W.heap[l]? = some (.loop (rec .done (some c)))∧W.heap[d]? = some (.deferred (some []))
 have hJ:Stable J:=by
  rintro pre D W W' ⟨E,h1,h2,h3,h4,h5,h6,h7,h8⟩ hs hk;refine⟨E,hI pre E W W' h1 hs (fun k hkE=>hk k ((h6 k).2 (.inl hkE))),fun k hkE=>Nat.lt_of_lt_of_le (h2 k hkE) hs,h3,h4,h5,h6,(hk l ((h6 l).2 (.inr (.inl rfl)))).trans h7,(hk d ((h6 d).2 (.inr (.inr rfl)))).trans h8⟩
 have hJx:Stable Jx:=by
  rintro pre D W W' ⟨c,E,h1,h2,h3,h4,h5,h6,h7,h8⟩ hs hk;refine⟨c,E,hIx c pre E W W' h1 hs (fun k hkE=>hk k ((h6 k).2 (.inl hkE))),fun k hkE=>Nat.lt_of_lt_of_le (h2 k hkE) hs,h3,h4,h5,h6,(hk l ((h6 l).2 (.inr (.inl rfl)))).trans h7,(hk d ((h6 d).2 (.inr (.inr rfl)))).trans h8⟩
 let D1:Nat→Prop:=fun k=>D0 k∨k=l∨k=d
 have hD1:Bd D1 W1:=fun k hk=>by
  rcases hk with h|rfl|rfl
  ·have:=hD0 k h;omega
  ·omega
  ·omega
 have hwW:∀ {W:World},Only D1 W1 W→Only D0 w W:=fun {W} h=>
  ⟨h.os.trans hbW.os,h.tape.trans hbW.tape,h.output.trans hbW.output,Nat.le_trans hbW.size h.size,fun k hk hn=>
   (h.same k (by omega) (fun hh=>by rcases hh with hh|rfl|rfl;exact hn hh;omega;omega)).trans (hold k hk)⟩
 refine⟨l,[{ target:=.collected d,args:=#[] }],W1,{ target:=.fn (.func gf) lb,args:=#[.func (.yield l) #[] #[]] },W1,gf,#[.func (.yield l) #[] #[]]++lb,W1,?_,?_,?_,?_,?_,?_⟩
 ·rw[←hW1,hrec,hl,hd];exact run_enterLoop_outer _ _ _ _ _
 ·simp only[resolve,hg];simp[go_sem]
 ·intro f' hf';trivial
 ·simp[invoke,go_sem,eg]
 ·intro h;simp[Fence.wide] at h
 refine(hseq l J Jx D1 W1 (hb0.trans (hbW.mono hb0.size)) hD1 ?_ hJ hJx ?_ ?_).mono ?_
 ·intro k hk hkC;have:=hC' k hkC
  rcases hk with h|rfl|rfl
  ·exact hC k h hkC
  ·omega
  ·omega
 ·-- a round
  rintro pre x D W ⟨E,h1,h2,h3,h4,h5,h6,h7,h8⟩ hBd hOn hGr hRx hlen;have hlW:l < W.heap.size:=(Array.getElem?_eq_some_iff.1 h7).1;have hy:=run_yield (P:=P) (args:=enc x) h7 (by rw[hrec];exact hps x);rw[hrec] at hy;refine⟨fn,_,assign,body,hy,roundIn_of_wpIn trivial (hassign l pre x W _ hRx ⟨_,run_beginRound ((Below.heap_alloc _ _ _ hlW).trans h7) (by rw[hrec]),?_⟩)⟩;have h7a:(W.alloc (.cells (cs x) tB)).heap[l]? = some (.loop (rec .ready none)):=(Below.heap_alloc _ _ _ hlW).trans h7;obtain⟨W2,hW2⟩:∃W2,W2=(W.alloc (.cells (cs x) tB)).putObj l (.loop { rec .ready none with state:=.busy }):=⟨_,rfl⟩;have g7:W2.heap[l]? = some (.loop { rec .ready none with state:=.busy }):=by rw[hW2];exact World.putObj_heap_same (by simp;omega)
  have gO:∀k,k < W.heap.size→k ≠ l→W2.heap[k]? = W.heap[k]?:=fun k hks hk=>by rw[hW2];exact(World.putObj_heap_other hk).trans (Below.heap_alloc _ _ _ hks)
  have gS:W2.heap.size=W.heap.size+1:=by rw[hW2];simp
  have gB:W2.heap[W.heap.size]? = some (.cells (cs x) tB):=by rw[hW2];exact(World.putObj_heap_other (by omega)).trans (heap_alloc_new _ _)
  have e0:Only D W W2:=by rw[hW2];exact((Only.refl D W).thenBelow ((Below.refl _ _).alloc (Nat.le_refl _) _)).trans (Only.putObj (D:=D) ((h6 l).2 (.inr (.inl rfl))) _) (Gr.refl _ _)
  have g8:W2.heap[d]? = some (.deferred (some [])):=(gO d (by omega) (by omega)).trans h8;have gI:I pre E W2:=hI pre E W W2 h1 (by omega) (fun k hk=>gO k (h2 k hk) (fun e=>h4 (e▸hk)));have gOn:Only D1 W1 W2:=hOn.trans e0 hGr;have gR:R pre x W2:=by rw[hW2];exact hR pre x _ l _ _ (hRa _ _ _ _ hRx) h7a
  rw[←hW2];refine wpIn_mono (hbody l pre x E W2 W.heap.size gI (fun k hk=>by rw[gS];have:=h2 k hk;omega) (hwW gOn) h3 gR hlen gB (fun h=>by have:=h2 _ h;omega) (by have:=hOn.size;omega)) ?_;-- what stands when the body has ended
  have fin:∀(jump:Option Code) (W3:World) (E':Nat→Prop),Only E W2 W3→Gr E W2 E'→Bd E' W3→
    (Instr.endRound l jump).run P W3 = .ok (.bool jump.isNone) (W3.putObj l (.loop (rec (if jump.isNone then .ready else .done) jump)))∧
    Only D W (W3.putObj l (.loop (rec (if jump.isNone then .ready else .done) jump)))∧Gr D W (fun k=>E' k∨k=l∨k=d)∧
    Bd (fun k=>E' k∨k=l∨k=d) (W3.putObj l (.loop (rec (if jump.isNone then .ready else .done) jump)))∧¬E' l∧¬E' d∧Gr D0 w E'∧
    (W3.putObj l (.loop (rec (if jump.isNone then .ready else .done) jump))).heap[l]? = some (.loop (rec (if jump.isNone then .ready else .done) jump))∧
    (W3.putObj l (.loop (rec (if jump.isNone then .ready else .done) jump))).heap[d]? = some (.deferred (some []))∧
    (∀k,E' k→(W3.putObj l (.loop (rec (if jump.isNone then .ready else .done) jump))).heap[k]? = W3.heap[k]?):=by
   intro jump W3 E' k1 k2 k3;have hdW:d < W2.heap.size:=(by omega);have hl3:=(k1.same l (by omega) h4).trans g7;have hl3':l < W3.heap.size:=(Array.getElem?_eq_some_iff.1 hl3).1;have nl : ¬E' l:=fun h=>by rcases k2 l h with h'|h';exact h4 h';omega
   have nd : ¬E' d:=fun h=>by rcases k2 d h with h'|h';exact h5 h';omega
   have hend:=run_endRound (P:=P) jump hl3;refine⟨by rw[hrec] at hend⊢;exact hend,?_,?_,?_,nl,nd,?_,World.putObj_heap_same hl3',(World.putObj_heap_other (by omega)).trans ((k1.same d hdW h5).trans g8),fun k hk=>World.putObj_heap_other (fun e=>nl (e▸hk))⟩
   ·have e1:Only D W W2:=e0;have e2:Only D W2 W3:=k1.mono fun k hk=>(h6 k).2 (.inl hk);exact(e1.trans e2 (Gr.refl _ _)).trans (Only.putObj (D:=D) ((h6 l).2 (.inr (.inl rfl))) _) (Gr.refl _ _)
   ·intro k hk;rcases hk with h|rfl|rfl
    ·rcases k2 k h with h'|h'
     ·exact .inl ((h6 k).2 (.inl h'))
     ·exact .inr (by omega)
    ·exact .inl ((h6 k).2 (.inr (.inl rfl)))
    ·exact .inl ((h6 k).2 (.inr (.inr rfl)))
   ·intro k hk;rw[World.putObj_size];rcases hk with h|rfl|rfl
    ·exact k3 k h
    ·omega
    ·have:=k1.size;omega
   ·intro k hk;rcases k2 k hk with h'|h'
    ·exact h3 k h'
    ·right;have:=hOn.size;omega
  rintro e a3 W3 hp;cases e with
  | normal=>
   obtain⟨E',k1,k2,k3,k4⟩:=hp;obtain⟨f1,f2,f3,f4,f5,f6,f7,f8,f9,f10⟩:=fin none W3 E' k1 k2 k3;exact⟨_,_,f1,_,f2,f3,f4,.inl ⟨rfl,E',hI _ E' W3 _ k4 (by rw[World.putObj_size];exact Nat.le_refl _) f10,fun k hk=>f4 k (.inl hk),f7,f5,f6,fun _=>Iff.rfl,f8,f9⟩⟩
  | ret=>
   obtain⟨E',k1,k2,k3,k4⟩:=hp;obtain⟨f1,f2,f3,f4,f5,f6,f7,f8,f9,f10⟩:=fin (some .ret) W3 E' k1 k2 k3;exact⟨_,_,f1,_,f2,f3,f4,.inr ⟨rfl,_,E',hIx _ _ E' W3 _ k4 (by rw[World.putObj_size];exact Nat.le_refl _) f10,fun k hk=>f4 k (.inl hk),f7,f5,f6,fun _=>Iff.rfl,f8,f9⟩⟩
  | exit id=>
   obtain⟨E',k1,k2,k3,k4⟩:=hp;obtain⟨f1,f2,f3,f4,f5,f6,f7,f8,f9,f10⟩:=fin (some (.exit id)) W3 E' k1 k2 k3;exact⟨_,_,f1,_,f2,f3,f4,.inr ⟨rfl,_,E',hIx _ _ E' W3 _ k4 (by rw[World.putObj_size];exact Nat.le_refl _) f10,fun k hk=>f4 k (.inl hk),f7,f5,f6,fun _=>Iff.rfl,f8,f9⟩⟩
  | goto t=>
   obtain⟨E',k1,k2,k3,k4⟩:=hp;obtain⟨f1,f2,f3,f4,f5,f6,f7,f8,f9,f10⟩:=fin (some (.goto t)) W3 E' k1 k2 k3;exact⟨_,_,f1,_,f2,f3,f4,.inr ⟨rfl,_,E',hIx _ _ E' W3 _ k4 (by rw[World.putObj_size];exact Nat.le_refl _) f10,fun k hk=>f4 k (.inl hk),f7,f5,f6,fun _=>Iff.rfl,f8,f9⟩⟩
  | panic ch=>exact hp.elim
  | outgrown=>exact hp.elim
 ·refine⟨D0,hI [] D0 w W1 h0 hbW.size (fun k hk=>hold k (hD0 k hk)),fun k hk=>by have:=hD0 k hk;omega,Gr.refl _ _,hDl,hDd,fun _=>Iff.rfl,hl1,hd1⟩
 ·-- behind the iterator
  rintro e W2 ⟨⟨v,rfl⟩,D,hOn,hGr,hBd,(⟨xs,hS,E,h1,h2,h3,h4,h5,h6,h7,h8⟩|⟨pre,hSp,c,E,h1,h2,h3,h4,h5,h6,h7,h8⟩)⟩
  ·have hend:=run_endLoop (P:=P) h7 (by rw[hrec];simp);rw[hrec] at hend;refine⟨none,_,hend,hdone d xs E _ hS (hI _ E W2 _ h1 (by simp) fun k hk=>World.putObj_heap_other (fun e=>h4 (e▸hk))) ?_ h3 (by omega) h5 ((World.putObj_heap_other (by omega)).trans h8)⟩;exact hwW (hOn.trans (Only.putObj (D:=D) ((h6 l).2 (.inr (.inl rfl))) _) hGr)
  ·have hend:=run_endLoop (P:=P) h7 (by rw[hrec];simp);rw[hrec] at hend;refine⟨some c,_,hend,hstop d c pre E _ hSp (hIx c _ E W2 _ h1 (by simp) fun k hk=>World.putObj_heap_other (fun e=>h4 (e▸hk))) ?_ h3 (by omega) h5 ((World.putObj_heap_other (by omega)).trans h8)⟩;exact hwW (hOn.trans (Only.putObj (D:=D) ((h6 l).2 (.inr (.inl rfl))) _) hGr)
def phiG:List (World→Value→Prop)→Nat→World→Value→Prop
 | [],_,_,_=>True
 | p::_,0,W,v=>p W v
 | _::l,i+1,W,v=>phiG l i W v
def StabG (R:World→World→Prop):List (World→Value→Prop)→Prop
 | []=>True
 | p::l=>(∀W W' v,p W v→R W W'→p W' v)∧StabG R l
theorem StabG.at {R:World→World→Prop}:∀ {l:List (World→Value→Prop)},StabG R l→∀(i:Nat) (W W':World) (v:Value),phiG l i W v→R W W'→phiG l i W' v
 | [],_,_,_,_,_,_,_=>trivial
 | _::_,h,0,W,W',v,hp,hr=>h.1 W W' v hp hr
 | _::_,h,i+1,W,W',v,hp,hr=>h.2.at i W W' v hp hr
def depsG (o:Oper):List Nat:=(o.after.toList.filter (Region.binds .any)).map (·.on)
def HasG (Φ:List (World→Value→Prop)) (D:Nat→Bool) (W:World) (ys:Nat→Value):List Nat→Prop
 | []=>True
 | j::l=>(D j=true∧phiG Φ j W (ys j))∧HasG Φ D W ys l
theorem HasG.of {Φ:List (World→Value→Prop)}{D:Nat→Bool}{W:World}{ys:Nat→Value}:∀ {l:List Nat},(∀j∈l,D j=true∧phiG Φ j W (ys j))→HasG Φ D W ys l
 | [],_=>trivial
 | j::l,h=>⟨h j (by simp),HasG.of fun k hk=>h k (by simp[hk])⟩
def ClG (ops:Array Oper) (D:Nat→Bool):Prop:=∀j o,D j=true→ops[j]? = some o→∀k∈depsG o,D k=true
theorem ClG.no {ops:Array Oper}{D:Nat→Bool}(h:ClG ops D) {i j:Nat}{o:Oper}(ho:ops[j]? = some o) (hk:(depsG o).elem i=true) (hi:D i=false):D j=false:=by
 cases hj:D j with
 | false=>rfl
 | true=>
  have:=h j o hj ho i (List.mem_of_elem_eq_true hk)
  rw[hi] at this;cases this
def updG (ys:Nat→Value) (i:Nat) (v:Value):Nat→Value:=fun j=>if j=i then v else ys j
def addG (D:Nat→Bool) (i:Nat):Nat→Bool:=fun j=>if j=i then true else D j
def StepG (P:Program) (ops:Array Oper) (F:(Nat→Value)→Act) (Φ:List (World→Value→Prop)) (R:World→World→Prop) (G:(Nat→Bool)→(Nat→Value)→World→Prop) (Q:Exit→Act→World→Prop) (i:Nat) (o:Oper):Prop:=
 ∀(D:Nat→Bool) (ys:Nat→Value) (W:World) (K:Act→World→Prop),D i=false→ClG ops D→HasG Φ D W ys (depsG o)→G D ys W→
  (∀v W',R W W'→G (addG D i) (updG ys i v) W'→phiG Φ i W' v→K (F (updG ys i v)) W')→if Region.wanted o (yielded ops (F ys).tmps)=true then Oper.wp P o (F ys) W K Q else K ((F ys).put o.dst undef) W
def StepsG (P:Program) (ops:Array Oper) (F:(Nat→Value)→Act) (Φ:List (World→Value→Prop)) (R:World→World→Prop) (G:(Nat→Bool)→(Nat→Value)→World→Prop) (Q:Exit→Act→World→Prop):List Oper→Nat→Prop
 | [],_=>True
 | o::l,i=>StepG P ops F Φ R G Q i o∧StepsG P ops F Φ R G Q l (i+1)
theorem StepsG.at {P:Program}{ops:Array Oper}{F:(Nat→Value)→Act}{Φ:List (World→Value→Prop)}{R:World→World→Prop}{G:(Nat→Bool)→(Nat→Value)→World→Prop}{Q:Exit→Act→World→Prop}:∀ {l:List Oper}{k:Nat},StepsG P ops F Φ R G Q l k→∀ {i:Nat}{o:Oper},l[i]? = some o→StepG P ops F Φ R G Q (k+i) o
 | [],_,_,_,_,h=>by simp at h
 | p::l,k,hs,0,o,h=>by
  simp only[List.getElem?_cons_zero,Option.some.injEq] at h;subst h;exact hs.1
 | p::l,k,hs,i+1,o,h=>by
  simp only[List.getElem?_cons_succ] at h;have:=hs.2.at h
  rwa [show k+(i+1)=k+1+i by omega]
def backG (l:List Oper):Bool:=l.zipIdx.all fun p=>(depsG p.1).all fun j=>decide (j < p.2)
theorem backG_of {l:List Oper}(h:backG l=true) {i:Nat}{o:Oper}(ho:l[i]? = some o):∀j∈depsG o,j < i:=by
 intro j hj;have h1:=List.all_eq_true.1 h (o,i) (by rw[List.mem_iff_getElem?];exact⟨i,by rw[List.getElem?_zipIdx,ho];simp⟩);exact of_decide_eq_true (List.all_eq_true.1 h1 j hj)
theorem mem_readyG {ops:Array Oper}{listed:Array Bool}{i:Nat}:i∈Region.ready .any ops listed↔listed.getD i true=false∧∃o,ops[i]? = some o∧∀j∈depsG o,listed.getD j false=true:=by
 unfold Region.ready;rw[List.mem_filter,List.mem_range];constructor
 ·rintro⟨h1,h2⟩;rw[Bool.and_eq_true,Bool.not_eq_true'] at h2;refine⟨h2.1,ops[i],by rw[Array.getElem?_eq_getElem h1],fun j hj=>?_⟩;have h3:=h2.2;rw[Array.getElem?_eq_getElem h1] at h3;simp only[Option.map_some,Option.getD_some] at h3;obtain⟨e,he,rfl⟩:=List.mem_map.1 hj;obtain⟨he1,he2⟩:=List.mem_filter.1 he;have h4:=Array.all_eq_true'.1 h3 e (by simpa using he1);rw[he2] at h4;rw[Bool.not_true,Bool.false_or] at h4;exact h4
 ·rintro⟨h1,o,ho,h2⟩;have hlt:=(Array.getElem?_eq_some_iff.1 ho).1;refine⟨hlt,?_⟩;rw[Bool.and_eq_true,Bool.not_eq_true'];refine⟨h1,?_⟩;rw[ho];simp only[Option.map_some,Option.getD_some];refine Array.all_eq_true'.2 fun e he=>?_;cases hb:Region.binds .any e with
  | false=>rfl
  | true=>exact h2 e.on (List.mem_map.2 ⟨e,List.mem_filter.2 ⟨by simpa using he,hb⟩,rfl⟩)
theorem any_rg {P:Program}{l:List Oper}{F:(Nat→Value)→Act}{Φ:List (World→Value→Prop)}{R:World→World→Prop}{G:(Nat→Bool)→(Nat→Value)→World→Prop}{Q:Exit→Act→World→Prop}
  (hback:backG l=true) (hR:StabG R Φ) (hS:StepsG P l.toArray F Φ R G Q l 0)
  (hend:∀ys W,G (fun i=>decide (i < l.length)) ys W→(∀i,i < l.length→phiG Φ i W (ys i))→Q .normal (F ys) W) (hGx:∀D D' ys W,(∀i,i < l.length→D i=D' i)→G D ys W→G D' ys W) :
  ∀(fuel:Nat) (listed:Array Bool) (D:Nat→Bool) (ys:Nat→Value) (W:World),listed.size=l.length→(∀i,i < l.length→listed.getD i true=D i)→(∀i,l.length≤i→D i=false)→(∀i,D i=true→phiG Φ i W (ys i))→G D ys W→ClG l.toArray D→
   ((List.range l.length).filter fun i=>!D i).length=fuel→wpAny P .any l.toArray Q fuel listed (F ys) W:=by
 have all:∀ {D:Nat→Bool},(∀i,i < l.length→D i=true)→∀ {ys W},(∀i,D i=true→phiG Φ i W (ys i))→G D ys W→Q .normal (F ys) W:=fun {D} h {ys W} h1 h2=>
  hend ys W (hGx _ _ _ _ (fun i hi=>by rw[h i hi,decide_eq_true hi]) h2) fun i hi=>h1 i (h i hi)
 have none:∀ {listed:Array Bool} {D:Nat→Bool},(∀i,i < l.length→listed.getD i true=D i)→listed.size=l.length→Region.ready .any l.toArray listed = []→∀i,i < l.length→D i=true:=by
  intro listed D hl hsz hr i;induction i using Nat.strongRecOn with
  | _ i ih=>
   intro hi;cases hD:D i with
   | true=>rfl
   | false=>
    have ho:l[i]? = some l[i]:=List.getElem?_eq_getElem hi
    have:i∈Region.ready .any l.toArray listed:=mem_readyG.2 ⟨(hl i hi).trans hD,l[i],by simp,fun j hj=>by
     have hji:=backG_of hback ho j hj;have h1:=(hl j (by omega)).trans (ih j hji (by omega));rw[Array.getD_eq_getD_getElem?,Array.getElem?_eq_getElem (by omega)] at h1⊢;exact h1⟩
    rw[hr] at this;cases this
 intro fuel;induction fuel with
 | zero=>
  intro listed D ys W hsz hl hlo hp hG hcl hf
  have hD:∀i,i < l.length→D i=true:=fun i hi=>by
   have h1:=List.length_eq_zero_iff.1 hf;cases hD:D i with
   | true=>rfl
   | false=>
    have:i∈((List.range l.length).filter fun i=>!D i):=List.mem_filter.2 ⟨List.mem_range.2 hi,by rw[hD];rfl⟩
    rw[h1] at this;cases this
  refine⟨?_,all hD hp hG⟩;cases hr:Region.ready .any l.toArray listed with
  | nil=>rfl
  | cons i r=>
   obtain⟨h1,o,ho,_⟩:=mem_readyG.1 (show i∈Region.ready .any l.toArray listed by rw[hr];simp);have hi:i < l.length:=(Array.getElem?_eq_some_iff.1 ho).1;rw[hl i hi,hD i hi] at h1;cases h1
 | succ fuel ih=>
  intro listed D ys W hsz hl hlo hp hG hcl hf;refine⟨fun hr=>all (none hl hsz hr) hp hG,fun i hi=>?_⟩;obtain⟨h1,o,ho,h2⟩:=mem_readyG.1 hi;have hil:i < l.length:=(Array.getElem?_eq_some_iff.1 ho).1;have ho':l[i]? = some o:=by simpa using ho
  have hDi:D i=false:=(hl i hil).symm.trans h1;have hst:=hS.at ho';rw[Nat.zero_add] at hst;refine wpOp_step ho fun K hK=>hst D ys W K hDi hcl (HasG.of fun j hj=>?_) hG fun v W' hr hG' hv=>hK _ _ ?_
  ·have hji:=backG_of hback ho' j hj;have h3:=h2 j hj
   have hDj:D j=true:=by
    rw[←hl j (by omega)];rw[Array.getD_eq_getD_getElem?,Array.getElem?_eq_getElem (by omega)] at h3⊢;exact h3
   exact⟨hDj,hp j hDj⟩
  ·refine ih _ (addG D i) (updG ys i v) W' (by simpa using hsz) (fun j hj=>?_) (fun j hj=>?_) (fun j hj=>?_) hG' (fun j oj hj hoj k hk=>?_) ?_
   ·unfold addG;rw[Array.getD_eq_getD_getElem?,Array.getElem?_setIfInBounds];by_cases e:i=j
    ·subst e;rw[if_pos rfl,if_pos rfl,if_pos (by omega)];rfl
    ·rw[if_neg e,if_neg (fun h=>e h.symm),←hl j hj,Array.getD_eq_getD_getElem?]
   ·unfold addG;rw[if_neg (by omega)];exact hlo j hj
   ·unfold addG at hj;unfold updG;by_cases e:j=i
    ·subst e;rw[if_pos rfl];exact hv
    ·rw[if_neg e] at hj⊢;exact hR.at j W W' _ (hp j hj) hr
   ·unfold addG at hj⊢;by_cases ek:k=i
    ·rw[if_pos ek]
    ·rw[if_neg ek];by_cases e:j=i
     ·subst e;rw[ho] at hoj;injection hoj with hoj;subst hoj;have hji:=backG_of hback ho' k hk;have h3:=h2 k hk;rw[←hl k (by omega)];rw[Array.getD_eq_getD_getElem?,Array.getElem?_eq_getElem (by omega)] at h3⊢;exact h3
     ·rw[if_neg e] at hj;exact hcl j oj hj hoj k hk
   ·have key:∀(m:List Nat),m.Nodup→i∈m→(m.filter fun j=>!addG D i j).length+1=(m.filter fun j=>!D j).length:=by
     intro m;induction m with
     | nil=>intro _ h;cases h
     | cons a m ihm=>
      intro hn hm;obtain⟨hn1,hn2⟩:=List.nodup_cons.1 hn;by_cases e:a=i
      ·subst e
       have h5:∀j∈m,(!addG D a j) = !D j:=fun j hj=>by
        unfold addG;rw[if_neg (fun e:j=a=>hn1 (by rw[←e];exact hj))]
       rw[List.filter_cons,List.filter_cons,List.filter_congr h5];have h6:(!addG D a a)=false:=(by unfold addG;rw[if_pos rfl];rfl);rw[h6,hDi];simp
      ·have hm':i∈m:=by
        rcases List.mem_cons.1 hm with h|h
        ·exact absurd h.symm e
        ·exact h
       have h5:(!addG D i a) = !D a:=(by unfold addG;rw[if_neg e]);rw[List.filter_cons,List.filter_cons,h5];have:=ihm hn2 hm'
       split
       ·rw[List.length_cons,List.length_cons];omega
       ·exact this
    have:=key (List.range l.length) List.nodup_range (List.mem_range.2 hil)
    omega
theorem wp_region_rg {P:Program}{id:Nat}{Q:Exit→Act→World→Prop}{w:World}{l:List Oper}(F:(Nat→Value)→Act) (Φ:List (World→Value→Prop)) (R:World→World→Prop) (G:(Nat→Bool)→(Nat→Value)→World→Prop) (ys:Nat→Value) (hm:P.follows .mixedOrders=true)
  (hback:backG l=true) (hR:StabG R Φ) (h0:G (fun _=>false) ys (w.drewN 1)) (hGx:∀D D' ys W,(∀i,i < l.length→D i=D' i)→G D ys W→G D' ys W) (hS:StepsG P l.toArray F Φ R G Q l 0)
  (hend:∀ys W,G (fun i=>decide (i < l.length)) ys W→(∀i,i < l.length→phiG Φ i W (ys i))→Q .normal (F ys) W) :
  (Code.region id l.toArray true).wp P Q (F ys) w:=by
 refine wp_region_any hm ?_;refine any_rg hback hR hS hend hGx _ _ (fun _=>false) ys _ (by simp) (fun i hi=>?_) (fun _ _=>rfl) (fun i hi=>by cases hi) h0 (fun j o hj=>by cases hj) ?_
 ·rw[Array.getD_eq_getD_getElem?,List.size_toArray,Array.getElem?_replicate,if_pos hi];rfl
 ·have h1:((List.range l.length).filter fun _=>!false)=List.range l.length:=List.filter_eq_self.2 (fun _ _=>rfl);rw[h1,List.length_range,List.size_toArray]
end Go.Proofs.YtmikofeildnpdaaGreat
namespace Go.Proofs.YtmikofeildnpdaaGreat
open Go.RowKit
theorem exS {α:Sort _}(e:α):∃x,x=e:=⟨e,rfl⟩
def eqV (a:Value):World→Value→Prop:=fun _ v=>v=a
def anyV:World→Value→Prop:=fun _ _=>True
theorem sE {R:World→World→Prop}{a:Value}(W W':World) (v:Value) (h:eqV a W v) (_:R W W'):eqV a W' v:=h
theorem openY {P:(Nat→Value)→Prop}(i:Nat) (h:∀y ys,P (updG ys i y)):∀ys,P ys:=fun ys=>by
 have e:updG ys i (ys i)=ys:=by
  funext j
  unfold updG;by_cases k:j=i
  ·rw[if_pos k,k]
  ·rw[if_neg k]
 rw[←e];exact h _ _
theorem HasG.get {Φ:List (World→Value→Prop)}{D:Nat→Bool}{W:World}{ys:Nat→Value}(j:Nat):∀ {l:List Nat},HasG Φ D W ys l→l.elem j=true→D j=true∧phiG Φ j W (ys j)
 | [],_,h=>by simp at h
 | k::l,h,hj=>by
  by_cases e:j=k
  ·subst e;exact h.1
  ·exact HasG.get j h.2 (by
    have:=List.mem_of_elem_eq_true hj
    rcases List.mem_cons.1 this with h1|h1
    ·exact absurd h1 e
    ·exact List.elem_eq_true_of_mem h1)
theorem wanted_of {o:Oper}{f:Nat→Option Bool}{j:Nat}(hg:o.guard=some (j,true)) (hy:f j=some true):Region.wanted o f=true:=by simp[Region.wanted,hg,hy]
theorem yielded_of {ops:Array Oper}{tmps:Array Value}{j t:Nat}(h1:(ops[j]?).bind (·.dst)=some t) (h2:tmps[t]? = some (.bool true)):yielded ops tmps j=some true:=by simp[yielded,h1,h2]
theorem unwanted_of {o:Oper}{f:Nat→Option Bool}{j:Nat}(hg:o.guard=some (j,true)) (hy:f j=some false) : ¬Region.wanted o f=true:=by simp[Region.wanted,hg,hy]
theorem yielded_no {ops:Array Oper}{tmps:Array Value}{j t:Nat}(h1:(ops[j]?).bind (·.dst)=some t) (h2:tmps[t]? = some (.bool false)):yielded ops tmps j=some false:=by simp[yielded,h1,h2]
variable {P:Program} {ops:Array Oper} {F:(Nat→Value)→Act} {Φ:List (World→Value→Prop)} {R:World→World→Prop} {G:(Nat→Bool)→(Nat→Value)→World→Prop} {Q:Exit→Act→World→Prop} {i:Nat} {o:Oper}
theorem StepG.mk (hg:o.guard=none) (h:∀(ys:Nat→Value) (D:Nat→Bool) (W:World) (K:Act→World→Prop),D i=false→ClG ops D→HasG Φ D W ys (depsG o)→G D ys W→
  (∀v W',R W W'→G (addG D i) (updG ys i v) W'→phiG Φ i W' v→K (F (updG ys i v)) W')→Oper.wp P o (F ys) W K Q):StepG P ops F Φ R G Q i o:=by
 intro D ys W K h1 h2 h3 h4 h5;rw[if_pos (by simp[Region.wanted,hg])];exact h ys D W K h1 h2 h3 h4 h5
theorem StepG.mkG (g t:Nat) (h:∀(ys:Nat→Value) (D:Nat→Bool) (W:World) (K:Act→World→Prop),D i=false→ClG ops D→HasG Φ D W ys (depsG o)→G D ys W→
  (∀v W',R W W'→G (addG D i) (updG ys i v) W'→phiG Φ i W' v→K (F (updG ys i v)) W')→Oper.wp P o (F ys) W K Q)
  (hg:o.guard=some (g,true):=by rfl) (ht:(ops[g]?).bind (·.dst)=some t:=by rfl) (hF:∀ys,(F ys).tmps[t]? = some (ys g):=by exact fun _=>rfl) (hp:∀W v,phiG Φ g W v→v = .bool true:=by exact fun _ _ h=>h) (hd:(depsG o).elem g=true:=by rfl):StepG P ops F Φ R G Q i o:=by
 intro D ys W K h1 h2 h3 h4 h5;rw[if_pos (wanted_of hg (yielded_of ht ((hF ys).trans (congrArg some (hp W _ (h3.get g hd).2)))))];exact h ys D W K h1 h2 h3 h4 h5
theorem StepG.skip (g t:Nat) (h:∀(ys:Nat→Value) (D:Nat→Bool) (W:World) (K:Act→World→Prop),G D ys W→
  (∀v W',R W W'→G (addG D i) (updG ys i v) W'→phiG Φ i W' v→K (F (updG ys i v)) W')→K ((F ys).put o.dst undef) W)
  (hg:o.guard=some (g,true):=by rfl) (ht:(ops[g]?).bind (·.dst)=some t:=by rfl) (hF:∀ys,(F ys).tmps[t]? = some (ys g):=by exact fun _=>rfl) (hp:∀W v,phiG Φ g W v→v = .bool false:=by exact fun _ _ h=>h) (hd:(depsG o).elem g=true:=by rfl):StepG P ops F Φ R G Q i o:=by
 intro D ys W K h1 h2 h3 h4 h5;rw[if_neg (unwanted_of hg (yielded_no ht ((hF ys).trans (congrArg some (hp W _ (h3.get g hd).2)))))];exact h ys D W K h4 h5
theorem wp_region_sg {id:Nat}{w:World}{l:List Oper}(hS:StepsG P l.toArray F Φ R G Q l 0) (ys:Nat→Value) (hm:P.follows .mixedOrders=true)
  (hback:backG l=true) (hR:StabG R Φ) (h0:G (fun _=>false) ys (w.drewN 1)) (hGx:∀D D' ys W,(∀i,i < l.length→D i=D' i)→G D ys W→G D' ys W)
  (hend:∀ys W,G (fun i=>decide (i < l.length)) ys W→(∀i,i < l.length→phiG Φ i W (ys i))→Q .normal (F ys) W) :
  (Code.region id l.toArray true).wp P Q (F ys) w:=wp_region_rg F Φ R G ys hm hback hR h0 hGx hS hend
end Go.Proofs.YtmikofeildnpdaaGreat
namespace Go.Proofs.YtmikofeildnpdaaGreat
open Go.RowKit
def SeqOS {α:Type}(P:Program) (g:Nat) (lb:Array Value) (enc:α→Array Value) (R:List α→α→World→Prop) (S Sp:List α→Prop) (N:Nat) (C Wr:Nat→Prop) (w0:World):Prop:=
 ∀(l:Nat) (J Jx:List α→(Nat→Prop)→World→Prop) (D:Nat→Prop) (W:World),Below w0.heap.size w0 W→Bd D W→(∀k,D k→¬C k∧¬Wr k)→Stable J→Stable Jx→
  (∀pre x D1 W1,J pre D1 W1→Bd D1 W1→Only (fun k=>D k∨Wr k) W W1→Gr D W D1→R pre x W1→pre.length < N→YieldAt Fence.wide 0 P l (enc x) W1 fun e W'=>
   ∃D',Only D1 W1 W'∧Gr D1 W1 D'∧Bd D' W'∧((e = .returned (.bool true)∧J (pre ++ [x]) D' W')∨(e = .returned (.bool false)∧Jx (pre ++ [x]) D' W')))→
  J [] D W→
  CallsIn Fence.wide 0 P g (#[.func (.yield l) #[] #[]]++lb) W fun e W'=>(∃v,e = .returned v)∧
   ∃D',Only (fun k=>D k∨Wr k) W W'∧Gr D W D'∧Bd D' W'∧((∃xs,S xs∧J xs D' W')∨(∃pre,Sp pre∧Jx pre D' W'))
theorem Gr.or {D D' Wr:Nat→Prop}{W:World}(h:Gr D W D'):Gr (fun k=>D k∨Wr k) W (fun k=>D' k∨Wr k):=fun k hk=>by
 rcases hk with hk|hk
 ·rcases h k hk with h'|h'
  ·exact .inl (.inl h')
  ·exact .inr h'
 ·exact .inl (.inr hk)
theorem Only.or {D Wr:Nat→Prop}{A B:World}(h:Only D A B):Only (fun k=>D k∨Wr k) A B:=h.mono fun _ hk=>.inl hk
theorem wpIn_rfS {P:Program}{α:Type}{g:Operand}{ps:Array Tmp}{assign body:Code}{Q:Exit→Act→World→Prop}{a:Act}{w:World}
  {gf:Nat} {lb:Array Value} (hg:a.eval g = .func (.func gf) #[] lb) (eg:∀args w,(callFunc gf args).run P w = .ok (.enter gf args) w)
  {enc:α→Array Value} {R:List α→α→World→Prop} {S Sp:List α→Prop} {N:Nat} {C Wr:Nat→Prop} {w0:World} (hseq:SeqOS P gf lb enc R S Sp N C Wr w0)
  (hb0:Below w0.heap.size w0 w) (hps:∀x,(enc x).size=ps.size) (hR:∀pre x W k r o,R pre x W→W.heap[k]? = some (.loop r)→R pre x (W.putObj k o)) (hRa:∀pre x W o,R pre x W→R pre x (W.alloc o))
  (I:List α→(Nat→Prop)→World→Prop) (Ix:Code→List α→(Nat→Prop)→World→Prop) (hI:Stable I) (hIx:∀c,Stable (Ix c))
  (D0:Nat→Prop) (hD0:Bd D0 w) (hC:∀k,D0 k→¬C k∧¬Wr k) (hC':Bd C w) (hWr:Bd Wr w) (h0:I [] D0 w) (cs:α→Array Value) (tB:TypeId) (fx:α→Nat→Array Value→Array Value)
  (hassign:∀(l:Nat) (pre:List α) (x:α) (W:World) (K:Act→World→Prop),R pre x W→K { tmps:=fx x W.heap.size a.tmps,defers:=[] } (W.alloc (.cells (cs x) tB))→
   assign.wpIn (Fence.wide.inRound l) 0 P (Exit.then K (fun _ _ _=>False)) { tmps:=(ps.zip (enc x)).foldl (fun t (p,v)=>t.setIfInBounds p v) a.tmps,defers:=[] } W)
  (hbody:∀(l:Nat) (pre:List α) (x:α) (D:Nat→Prop) (W:World) (b:Nat),I pre D W→Bd D W→Only (fun k=>D0 k∨Wr k) w W→Gr D0 w D→R pre x W→pre.length < N→W.heap[b]? = some (.cells (cs x) tB)→¬D b→w.heap.size≤b→body.wpIn (Fence.wide.inRound l) 0 P (bodyQ I Ix (pre ++ [x]) D W) { tmps:=fx x b a.tmps,defers:=[] } W)
  (hdone:∀(d:Nat) (xs:List α) (D:Nat→Prop) (W:World),S xs→I xs D W→Only (fun k=>D0 k∨Wr k) w W→Gr D0 w D→w.heap.size≤d→¬D d→W.heap[d]? = some (.deferred (some []))→Q .normal { a with defers:={ target:=.collected d,args:=#[] }::a.defers } W)
  (hstop:∀(d:Nat) (c:Code) (pre:List α) (D:Nat→Prop) (W:World),Sp pre→Ix c pre D W→Only (fun k=>D0 k∨Wr k) w W→Gr D0 w D→w.heap.size≤d→¬D d→W.heap[d]? = some (.deferred (some []))→c.wpIn Fence.wide 0 P Q { a with defers:={ target:=.collected d,args:=#[] }::a.defers } W) :
  (Code.rangeFunc g ps assign body).wpIn Fence.wide 0 P Q a w:=by
 refine wpIn_rangeFunc fun fn _=>?_;obtain⟨d,hd⟩:=exF (w.heap.size);obtain⟨l,hl⟩:=exF (w.heap.size+1);obtain⟨rec,hrec⟩:∃rec:LoopState→Option Code→Loop,rec=fun st pe=>{ state:=st,pending:=pe,fn:=fn,tmps:=a.tmps,params:=ps,assign:=assign,body:=body,defers:=d }:=⟨_,rfl⟩;obtain⟨W1,hW1⟩:=exE ((w.alloc (.deferred (some []))).alloc (.loop (rec .ready none)));have hs1:W1.heap.size=w.heap.size+2:=by rw[←hW1];simp
 have hold:∀k,k < w.heap.size→W1.heap[k]? = w.heap[k]?:=fun k hk=>by
  rw[←hW1];exact(Below.heap_alloc _ _ _ (by simp;omega)).trans (Below.heap_alloc _ _ _ hk)
 have hl1:W1.heap[l]? = some (.loop (rec .ready none)):=by
  rw[←hW1,hl];have:=World.alloc_heap_new (w.alloc (.deferred (some []))) (.loop (rec .ready none));rwa [World.size_alloc] at this
 have hd1:W1.heap[d]? = some (.deferred (some [])):=by
  rw[←hW1,hd];exact(Below.heap_alloc _ _ _ (by simp)).trans (World.alloc_heap_new w _)
 have hbW:Below w.heap.size w W1:=by rw[←hW1];exact((Below.refl _ _).alloc (Nat.le_refl _) _).alloc (by simp) _
 have hDl : ¬D0 l:=fun h=>by have:=hD0 l h;omega
 have hDd : ¬D0 d:=fun h=>by have:=hD0 d h;omega
 -- what the caller's data and the two blocks of the statement's own are
 let J:List α→(Nat→Prop)→World→Prop:=fun pre D W=>∃E,I pre E W∧Bd E W∧Gr D0 w E∧¬E l∧¬E d∧(∀k,D k↔E k∨k=l∨k=d)∧
  W.heap[l]? = some (.loop (rec .ready none))∧W.heap[d]? = some (.deferred (some []))
 let Jx:List α→(Nat→Prop)→World→Prop:=fun pre D W=>∃c E,Ix c pre E W∧Bd E W∧Gr D0 w E∧¬E l∧¬E d∧(∀k,D k↔E k∨k=l∨k=d)∧
  W.heap[l]? = some (.loop (rec .done (some c)))∧W.heap[d]? = some (.deferred (some []))
 have hJ:Stable J:=by
  rintro pre D W W' ⟨E,h1,h2,h3,h4,h5,h6,h7,h8⟩ hs hk;refine⟨E,hI pre E W W' h1 hs (fun k hkE=>hk k ((h6 k).2 (.inl hkE))),fun k hkE=>Nat.lt_of_lt_of_le (h2 k hkE) hs,h3,h4,h5,h6,(hk l ((h6 l).2 (.inr (.inl rfl)))).trans h7,(hk d ((h6 d).2 (.inr (.inr rfl)))).trans h8⟩
 have hJx:Stable Jx:=by
  rintro pre D W W' ⟨c,E,h1,h2,h3,h4,h5,h6,h7,h8⟩ hs hk;refine⟨c,E,hIx c pre E W W' h1 hs (fun k hkE=>hk k ((h6 k).2 (.inl hkE))),fun k hkE=>Nat.lt_of_lt_of_le (h2 k hkE) hs,h3,h4,h5,h6,(hk l ((h6 l).2 (.inr (.inl rfl)))).trans h7,(hk d ((h6 d).2 (.inr (.inr rfl)))).trans h8⟩
 let D1:Nat→Prop:=fun k=>D0 k∨k=l∨k=d
 have hD1:Bd D1 W1:=fun k hk=>by
  rcases hk with h|rfl|rfl
  ·have:=hD0 k h;omega
  ·omega
  ·omega
 have hwW:∀ {W:World},Only (fun k=>D1 k∨Wr k) W1 W→Only (fun k=>D0 k∨Wr k) w W:=fun {W} h=>
  ⟨h.os.trans hbW.os,h.tape.trans hbW.tape,h.output.trans hbW.output,Nat.le_trans hbW.size h.size,fun k hk hn=>
   (h.same k (by omega) (fun hh=>by rcases hh with(hh|rfl|rfl)|hh;exact hn (.inl hh);omega;omega;exact hn (.inr hh))).trans (hold k hk)⟩
 refine⟨l,[{ target:=.collected d,args:=#[] }],W1,{ target:=.fn (.func gf) lb,args:=#[.func (.yield l) #[] #[]] },W1,gf,#[.func (.yield l) #[] #[]]++lb,W1,?_,?_,?_,?_,?_,?_⟩
 ·rw[←hW1,hrec,hl,hd];exact run_enterLoop_outer _ _ _ _ _
 ·simp only[resolve,hg];simp[go_sem]
 ·intro f' hf';trivial
 ·simp[invoke,go_sem,eg]
 ·intro h;simp[Fence.wide] at h
 refine(hseq l J Jx D1 W1 (hb0.trans (hbW.mono hb0.size)) hD1 ?_ hJ hJx ?_ ?_).mono ?_
 ·intro k hk;rcases hk with h|rfl|rfl
  ·exact hC k h
  ·exact⟨fun hkC=>by have:=hC' _ hkC;omega,fun hkC=>by have:=hWr _ hkC;omega⟩
  ·exact⟨fun hkC=>by have:=hC' _ hkC;omega,fun hkC=>by have:=hWr _ hkC;omega⟩
 ·-- a round
  rintro pre x D W ⟨E,h1,h2,h3,h4,h5,h6,h7,h8⟩ hBd hOn hGr hRx hlen;have hlW:l < W.heap.size:=(Array.getElem?_eq_some_iff.1 h7).1;have hy:=run_yield (P:=P) (args:=enc x) h7 (by rw[hrec];exact hps x);rw[hrec] at hy;refine⟨fn,_,assign,body,hy,roundIn_of_wpIn trivial (hassign l pre x W _ hRx ⟨_,run_beginRound ((Below.heap_alloc _ _ _ hlW).trans h7) (by rw[hrec]),?_⟩)⟩;have h7a:(W.alloc (.cells (cs x) tB)).heap[l]? = some (.loop (rec .ready none)):=(Below.heap_alloc _ _ _ hlW).trans h7;obtain⟨W2,hW2⟩:∃W2,W2=(W.alloc (.cells (cs x) tB)).putObj l (.loop { rec .ready none with state:=.busy }):=⟨_,rfl⟩;have g7:W2.heap[l]? = some (.loop { rec .ready none with state:=.busy }):=by rw[hW2];exact World.putObj_heap_same (by simp;omega)
  have gO:∀k,k < W.heap.size→k ≠ l→W2.heap[k]? = W.heap[k]?:=fun k hks hk=>by rw[hW2];exact(World.putObj_heap_other hk).trans (Below.heap_alloc _ _ _ hks)
  have gS:W2.heap.size=W.heap.size+1:=by rw[hW2];simp
  have gB:W2.heap[W.heap.size]? = some (.cells (cs x) tB):=by rw[hW2];exact(World.putObj_heap_other (by omega)).trans (heap_alloc_new _ _)
  have e0:Only D W W2:=by rw[hW2];exact((Only.refl D W).thenBelow ((Below.refl _ _).alloc (Nat.le_refl _) _)).trans (Only.putObj (D:=D) ((h6 l).2 (.inr (.inl rfl))) _) (Gr.refl _ _)
  have g8:W2.heap[d]? = some (.deferred (some [])):=(gO d (by omega) (by omega)).trans h8;have gI:I pre E W2:=hI pre E W W2 h1 (by omega) (fun k hk=>gO k (h2 k hk) (fun e=>h4 (e▸hk)));have gOn:Only (fun k=>D1 k∨Wr k) W1 W2:=hOn.trans e0.or hGr.or;have gR:R pre x W2:=by rw[hW2];exact hR pre x _ l _ _ (hRa _ _ _ _ hRx) h7a
  rw[←hW2];refine wpIn_mono (hbody l pre x E W2 W.heap.size gI (fun k hk=>by rw[gS];have:=h2 k hk;omega) (hwW gOn) h3 gR hlen gB (fun h=>by have:=h2 _ h;omega) (by have:=hOn.size;omega)) ?_;-- what stands when the body has ended
  have fin:∀(jump:Option Code) (W3:World) (E':Nat→Prop),Only E W2 W3→Gr E W2 E'→Bd E' W3→
    (Instr.endRound l jump).run P W3 = .ok (.bool jump.isNone) (W3.putObj l (.loop (rec (if jump.isNone then .ready else .done) jump)))∧
    Only D W (W3.putObj l (.loop (rec (if jump.isNone then .ready else .done) jump)))∧Gr D W (fun k=>E' k∨k=l∨k=d)∧
    Bd (fun k=>E' k∨k=l∨k=d) (W3.putObj l (.loop (rec (if jump.isNone then .ready else .done) jump)))∧¬E' l∧¬E' d∧Gr D0 w E'∧
    (W3.putObj l (.loop (rec (if jump.isNone then .ready else .done) jump))).heap[l]? = some (.loop (rec (if jump.isNone then .ready else .done) jump))∧
    (W3.putObj l (.loop (rec (if jump.isNone then .ready else .done) jump))).heap[d]? = some (.deferred (some []))∧
    (∀k,E' k→(W3.putObj l (.loop (rec (if jump.isNone then .ready else .done) jump))).heap[k]? = W3.heap[k]?):=by
   intro jump W3 E' k1 k2 k3;have hdW:d < W2.heap.size:=(by omega);have hl3:=(k1.same l (by omega) h4).trans g7;have hl3':l < W3.heap.size:=(Array.getElem?_eq_some_iff.1 hl3).1;have nl : ¬E' l:=fun h=>by rcases k2 l h with h'|h';exact h4 h';omega
   have nd : ¬E' d:=fun h=>by rcases k2 d h with h'|h';exact h5 h';omega
   have hend:=run_endRound (P:=P) jump hl3;refine⟨by rw[hrec] at hend⊢;exact hend,?_,?_,?_,nl,nd,?_,World.putObj_heap_same hl3',(World.putObj_heap_other (by omega)).trans ((k1.same d hdW h5).trans g8),fun k hk=>World.putObj_heap_other (fun e=>nl (e▸hk))⟩
   ·have e1:Only D W W2:=e0;have e2:Only D W2 W3:=k1.mono fun k hk=>(h6 k).2 (.inl hk);exact(e1.trans e2 (Gr.refl _ _)).trans (Only.putObj (D:=D) ((h6 l).2 (.inr (.inl rfl))) _) (Gr.refl _ _)
   ·intro k hk;rcases hk with h|rfl|rfl
    ·rcases k2 k h with h'|h'
     ·exact .inl ((h6 k).2 (.inl h'))
     ·exact .inr (by omega)
    ·exact .inl ((h6 k).2 (.inr (.inl rfl)))
    ·exact .inl ((h6 k).2 (.inr (.inr rfl)))
   ·intro k hk;rw[World.putObj_size];rcases hk with h|rfl|rfl
    ·exact k3 k h
    ·omega
    ·have:=k1.size;omega
   ·intro k hk;rcases k2 k hk with h'|h'
    ·exact h3 k h'
    ·right;have:=hOn.size;omega
  rintro e a3 W3 hp;cases e with
  | normal=>
   obtain⟨E',k1,k2,k3,k4⟩:=hp;obtain⟨f1,f2,f3,f4,f5,f6,f7,f8,f9,f10⟩:=fin none W3 E' k1 k2 k3;exact⟨_,_,f1,_,f2,f3,f4,.inl ⟨rfl,E',hI _ E' W3 _ k4 (by rw[World.putObj_size];exact Nat.le_refl _) f10,fun k hk=>f4 k (.inl hk),f7,f5,f6,fun _=>Iff.rfl,f8,f9⟩⟩
  | ret=>
   obtain⟨E',k1,k2,k3,k4⟩:=hp;obtain⟨f1,f2,f3,f4,f5,f6,f7,f8,f9,f10⟩:=fin (some .ret) W3 E' k1 k2 k3;exact⟨_,_,f1,_,f2,f3,f4,.inr ⟨rfl,_,E',hIx _ _ E' W3 _ k4 (by rw[World.putObj_size];exact Nat.le_refl _) f10,fun k hk=>f4 k (.inl hk),f7,f5,f6,fun _=>Iff.rfl,f8,f9⟩⟩
  | exit id=>
   obtain⟨E',k1,k2,k3,k4⟩:=hp;obtain⟨f1,f2,f3,f4,f5,f6,f7,f8,f9,f10⟩:=fin (some (.exit id)) W3 E' k1 k2 k3;exact⟨_,_,f1,_,f2,f3,f4,.inr ⟨rfl,_,E',hIx _ _ E' W3 _ k4 (by rw[World.putObj_size];exact Nat.le_refl _) f10,fun k hk=>f4 k (.inl hk),f7,f5,f6,fun _=>Iff.rfl,f8,f9⟩⟩
  | goto t=>
   obtain⟨E',k1,k2,k3,k4⟩:=hp;obtain⟨f1,f2,f3,f4,f5,f6,f7,f8,f9,f10⟩:=fin (some (.goto t)) W3 E' k1 k2 k3;exact⟨_,_,f1,_,f2,f3,f4,.inr ⟨rfl,_,E',hIx _ _ E' W3 _ k4 (by rw[World.putObj_size];exact Nat.le_refl _) f10,fun k hk=>f4 k (.inl hk),f7,f5,f6,fun _=>Iff.rfl,f8,f9⟩⟩
  | panic ch=>exact hp.elim
  | outgrown=>exact hp.elim
 ·refine⟨D0,hI [] D0 w W1 h0 hbW.size (fun k hk=>hold k (hD0 k hk)),fun k hk=>by have:=hD0 k hk;omega,Gr.refl _ _,hDl,hDd,fun _=>Iff.rfl,hl1,hd1⟩
 ·-- behind the iterator
  rintro e W2 ⟨⟨v,rfl⟩,D,hOn,hGr,hBd,(⟨xs,hS,E,h1,h2,h3,h4,h5,h6,h7,h8⟩|⟨pre,hSp,c,E,h1,h2,h3,h4,h5,h6,h7,h8⟩)⟩
  ·have hend:=run_endLoop (P:=P) h7 (by rw[hrec];simp);rw[hrec] at hend;refine⟨none,_,hend,hdone d xs E _ hS (hI _ E W2 _ h1 (by simp) fun k hk=>World.putObj_heap_other (fun e=>h4 (e▸hk))) ?_ h3 (by omega) h5 ((World.putObj_heap_other (by omega)).trans h8)⟩;exact hwW (hOn.trans (Only.putObj (D:=D) ((h6 l).2 (.inr (.inl rfl))) _).or hGr.or)
  ·have hend:=run_endLoop (P:=P) h7 (by rw[hrec];simp);rw[hrec] at hend;refine⟨some c,_,hend,hstop d c pre E _ hSp (hIx c _ E W2 _ h1 (by simp) fun k hk=>World.putObj_heap_other (fun e=>h4 (e▸hk))) ?_ h3 (by omega) h5 ((World.putObj_heap_other (by omega)).trans h8)⟩;exact hwW (hOn.trans (Only.putObj (D:=D) ((h6 l).2 (.inr (.inl rfl))) _).or hGr.or)
end Go.Proofs.YtmikofeildnpdaaGreat

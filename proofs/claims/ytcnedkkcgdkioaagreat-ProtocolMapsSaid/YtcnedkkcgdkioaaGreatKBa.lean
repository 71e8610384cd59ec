/- Texts of this claim, put together: Lib Rl Own KL OX It. -/
import Derived.Test.YtcnedkkcgdkioaaGreatProg
import Derived.WalkKit
import Derived.WalkSpells
import Derived.WalkLawsBesides
import Derived.Deep.QuietTactic
import Derived.BigQuiet
import Derived.Lib.Hide
import Derived.ProofKit
import Derived.OpenShut
import Derived.Deep.DeepHandedRow
import Derived.Deep.Slices
import Derived.SizedLaws
import Derived.WideKeyArgs
import Derived.OpenVars
import Derived.ChangeCalls
import Derived.Maps.AppendAt
import Derived.Laws.AppendOwnNone
import Derived.RangeFuncNested
import Derived.RangeFuncBound
import Derived.RangeFuncCalls
import Derived.RangeFuncLeaves

set_option maxRecDepth 100000
set_option maxHeartbeats 12800000
namespace Go.Proofs.YtcnedkkcgdkioaaGreat
open Go.RowKit
theorem vY{p:Prop}[Decidable p](h:¬p):decide p=false:=decide_eq_false h
theorem vZ{p:Prop}[Decidable p](h:p):decide p=true:=decide_eq_true h
theorem wB(b:Nat)(w:World):Below b w w:=Below.refl b w
theorem wC(n:Nat):n≤n:=Nat.le_refl n
theorem wD{α:Type}{xs:Array α}{i:Nat}{b:α}:xs[i]?=some b↔∃h:i<xs.size,xs[i]=b:=Array.getElem?_eq_some_iff
theorem wE(w:World)(o:Obj):(w.alloc o).heap[w.heap.size]?=some o:=heap_alloc_new w o
theorem wG{α:Type}{l:List α}{n:Nat}(h:n<l.length):l[n]∈l:=List.getElem_mem h
theorem wH{B:Nat}{a w:World}(h:Below B a w)(n:Nat):Below B a (w.drewN n):=below_drewN h n
theorem wI{n m k:Nat}(h:n≤m)(g:m≤k):n≤k:=Nat.le_trans h g
theorem wJ{w:World}{b:Nat}{v:Value}{t:TypeId}(h:w.heap[b]?=some (.cells #[v] t (0,0))):w.cell? ⟨b,0,none⟩=some v:=cell_of_one h
abbrev Jb:=List (List Int)
abbrev Jc:=List Jb
def Qt (w w':World):Prop:=∃n,w'=w.drewN n
theorem Qt.refl (w:World):Qt w w:=⟨0,rfl⟩
theorem Qt.mk' (w:World) (n:Nat):Qt w (w.drewN n):=⟨n,rfl⟩
theorem Qt.trans {a b c:World}(h:Qt a b) (k:Qt b c):Qt a c:=by
 obtain⟨n,rfl⟩:=h;obtain⟨m,rfl⟩:=k;exact⟨n+m,by simp⟩
theorem Qt.below {a b:World}(h:Qt a b):Below a.heap.size a b:=by
 obtain⟨n,rfl⟩:=h;exact wH (wB _ _) n
theorem bt {a b c:World}{B:Nat}(h:Below B a b) (k:Below b.heap.size b c) (d:B<=b.heap.size):Below B a c:=h.trans (k.mono d)
theorem btt {a b c:World}(h:Below a.heap.size a b) (k:Below b.heap.size b c):Below a.heap.size a c:=h.trans (k.mono h.size)
theorem AC {w w':World}(h:Below w.heap.size w w') {p:Addr}{v:Value}(c:w.cell? p=some v):w'.cell? p=some v:=
 (h.cell (World.block_lt_of_cell? w p c)).trans c
def CI (w:World) (b o:Nat) (xs:List Int):Prop:=∀j,j < xs.length->w.cell? ⟨b,o+j,none⟩=some (.int .i64 (xs.getD j 0))
theorem CI.keep {w w':World}{b o:Nat}{xs:List Int}(h:CI w b o xs) (a:Below w.heap.size w w'):CI w' b o xs:=fun j c=>AC a (h j c)
def AR (w:World) (v:Value) (xs:List Int):Prop:=
 ∃a c b o,v = .slice a xs.length c/\(0 < xs.length->a=some ⟨b,o,none⟩)/\CI w b o xs/\xs.length<=17592186044416
theorem AR.keep {w w':World}{v:Value}{xs:List Int}(h:AR w v xs) (e:Below w.heap.size w w'):AR w' v xs:=by
 obtain⟨a,c,b,o,g,d,f,l⟩:=h;exact⟨a,c,b,o,g,d,f.keep e,l⟩
theorem AR.nil (w:World) (a:Option Addr) (c:Nat):AR w (.slice a 0 c) []:=⟨a,c,0,0,rfl,by simp,by intro j h;simp at h,by simp⟩
def PD (w:World) (b o:Nat) (xs:Jb):Prop:=∀j,j < xs.length->∃u,w.cell? ⟨b,o+j,none⟩=some u/\AR w u (xs.getD j [])
theorem PD.keep {w w':World}{b o:Nat}{xs:Jb}(h:PD w b o xs) (a:Below w.heap.size w w'):PD w' b o xs:=
 fun j e=>let ⟨u,c,d⟩:=h j e;⟨u,AC a c,d.keep a⟩
def BM (w:World) (v:Value) (xs:Jb):Prop:=
 ∃a c b o,v = .slice a xs.length c/\(0 < xs.length->a=some ⟨b,o,none⟩)/\PD w b o xs/\xs.length<=5864062014805
theorem BM.keep {w w':World}{v:Value}{xs:Jb}(h:BM w v xs) (e:Below w.heap.size w w'):BM w' v xs:=by
 obtain⟨a,c,b,o,g,d,f,l⟩:=h;exact⟨a,c,b,o,g,d,f.keep e,l⟩
theorem AK {α:Type}{xs:List α}{k:Nat}(h:k < xs.length) (d:α):xs.getD k d=xs[k]:=by simp[h]
theorem BY {α:Type}{xs:List α}{k:Nat}(h:k < xs.length) (d:α):xs.take (k+1)=xs.take k ++ [xs.getD k d]:=by
 rw[List.take_succ_eq_append_getElem h,AK h]
theorem OC {α:Type}{xs:List α}{k:Nat}(h:k < xs.length) (d:α):xs.drop k=xs.getD k d::xs.drop (k+1):=by
 rw[AK h,List.drop_eq_getElem_cons h]
theorem LC {a b:Bool}(h:a=b):Ending.returned (.bool a) = .returned (.bool b):=by rw[h]
theorem AM {k:IntKind}{a b:Int}(h:a=b):Ending.returned (.int k a) = .returned (.int k b):=by rw[h]
theorem AB {α : Sort _}(e : α) : ∃x,e = x:=⟨e,rfl⟩
theorem AF {α : Sort _}(e : α) : ∃x,x = e:=⟨e,rfl⟩
theorem qH {p : Prop}(h : p) : Hid p:=h
end Go.Proofs.YtcnedkkcgdkioaaGreat
namespace Go.Proofs.YtcnedkkcgdkioaaGreat
open Go.RowKit Go.ChangeShapes Go.WideShapes Go.ChangeAt Go.Deep Go.WideElems
section
variable {H:Type} {enc:TypeId × Value->H} {P:Program}
theorem dZ (l:laidOutB P=true) {W W':World}{f:Nat->Bool}:∀ {c:List TypeId}{vs:List Value}{e:List (DataW H)}{s:List MemPlace},
  (∀t∈c,P.readableRec t=true/\t < P.types.size)->DataW.TrodAll enc P W 0 (fun _=>true) true c vs e s->(∀p∈s,W.sameAt W' p)->(∀p∈s,f p.block=true)->DataW.TrodAll enc P W' 0 f true c vs e s
 | [],[],[],_,_,h,_,_=>h
 | [],[],_::_,_,_,h,_,_=>h.elim
 | [],_::_,_,_,_,h,_,_=>h.elim
 | _::_,[],_,_,_,h,_,_=>h.elim
 | _::_,_::_,[],_,_,h,_,_=>h.elim
 | t::c,v::vs,d::e,s,hr,h,hsame,hs=>by
  obtain⟨p,q,g,i,rfl⟩:=h;have b:=hr t (by simp)
  exact⟨p,q,Trod_stays l b.1 b.2 g (fun x a=>hsame x (by simp[a])) (fun x a=>hs x (by simp[a])),
   dZ l (fun t b=>hr t (by simp[b])) i (fun x a=>hsame x (by simp[a])) (fun x a=>hs x (by simp[a])),rfl⟩
theorem TH {f:Func}{s:ChangeSpec}{W W':World}{args:Array Value}{d i:List (DataW H)}{e:List MemPlace}(I:laidOutB P=true) (m:TypeId) (R:P.underlying m=some .bool) (N:f.resultTypes = #[m]) (z:s.vars = [])
  (K:f.params.toList.all (fun t=>P.readableRec t && decide (t < P.types.size))=true)
  (hs:∀d:List (DataW H),d.length=f.params.size->s.fn H d = { results:=[.lit (.bool true)],args:=d })
  (j:DataW.Whole enc P f.params.toList s.vars false W args.toList d i e) (o:Below W.heap.size W W') :
  s.post enc P f false true false false W args (.bool true) W':=by
 have u:∀p∈e,p.block < W.heap.size:=fun p l=>j.lt p l;have J:∀p∈e,(fun b=>decide (b < W.heap.size)) p.block=true:=fun p l=>by simpa using u p l
 have C:=j;obtain⟨p,q,A,V,y,T,S⟩:=j
 have G:i = []/\q = []:=by
  rw[z] at V;cases i with
  | nil=>exact⟨rfl,V⟩
  | cons=>exact V.elim
 obtain⟨rfl,rfl⟩:=G;rw[List.append_nil] at y;subst y
 have F:d.length=f.params.size:=by
  have:=(Go.trodAll_length A).2
  simpa using this
 have c:=hs (d ++ []) (by simpa using F);rw[List.append_nil] at c
 have L:∀t∈f.params.toList,P.readableRec t=true/\t < P.types.size:=fun t Q=>by
  have:=List.all_eq_true.1 K t Q
  simpa using this
 have M:∀(b:Nat) (a:Nat->Bool) (r:Bool),DataW.TrodAll enc P W' b a r [m] [.bool true] [.lit (.bool true)] []:=fun b a r=>trodAll_cons_mk (shut_bool R _) trodAll_mk0
 have D:∀a:Nat->Bool,(∀x∈e,a x.block=true)->DataW.TrodAll enc P W' 0 a true f.params.toList args.toList d e:=fun a O=>
  dZ I L A (fun x g=>o.same (u x g)) O
 refine⟨d,[],e,[],e,[],C,?_,?_,?_,?_,fun h=>by cases h⟩
 ·rw[N,List.append_nil,c];exact M _ _ _
 ·rw[List.append_nil,c];exact D _ J
 ·rw[List.append_nil,c,z];exact rfl
 ·exact World.keptBut_mono (fun x g=>⟨g,.inr (.inl g)⟩) (o.frame (· ∈ e))
theorem FC {w:World}{a:Addr}{v:Value}(h:w.cell? a=some v):a=⟨a.block,a.off,none⟩:=by
 unfold World.cell? at h;split at h
 ·split at h
  ·cases h
  ·rename_i c
   cases a with
   | mk b o s=>
    cases s with
    | none=>rfl
    | some x=>simp at c
 ·cases h
theorem ZN {w:World}{t e:TypeId}{v:Value}{d:DataW H}{M:List MemPlace}(q:P.underlying t=some (.slice e)) (F:P.underlying e=some (.int .i64)) (C:P.cellsOf e=1) (A:P.bytesOf e=8)
  {u:Nat} (h:DataW.trod enc P w 0 (fun _=>true) true u t [v]=some (d,M)) (K:∀n∈d.weights P t,n<=reachBytes):∃xs,AR w v xs:=by
 rcases open_slice1 q C h with⟨c,f⟩|⟨a,l,r,m,n,V,D,N,c,_,Q,R,p,f,L⟩
 ·obtain rfl:v = .slice none 0 0:=by simpa using c
  exact⟨[],AR.nil _ _ _⟩
 ·obtain rfl:v = .slice (some a) l r:=by simpa using c
  simp only[if_true] at p;subst p;obtain⟨rfl,_⟩:=Prod.mk.injEq ..▸f;have J:=K ((l+(m - l)) * 8) (by simp[DataW.weights,q,A]);unfold reachBytes at J
  have x:∀i,i < l->∃k,w.cell? (a.add i)=some (.int .i64 k):=fun i O=>by
   obtain⟨s,y⟩:=L i (by omega);obtain⟨k,b,_⟩:=DataW.trod_int F y;obtain b:V i = .int .i64 k:=(by simpa using b);exact⟨k,by rw[s,b]⟩
  have I:l<=17592186044416:=by omega
  refine⟨(List.range l).map (fun i=>match w.cell? (a.add i) with|some (.int _ k)=>k|_=>0),some a,m,a.block,a.off,by simp,fun z=>?_,fun j G=>?_,by simpa using I⟩
  ·obtain⟨k,b⟩:=x 0 (by simpa using z);rw[show a.add 0=a by simp[Addr.add]] at b;rw[<-FC b]
  ·have g:j < l:=(by simpa using G);obtain⟨S,o⟩:=x 0 (by omega);rw[show a.add 0=a by simp[Addr.add]] at o;obtain⟨k,b⟩:=x j g
   have e:a.add j=⟨a.block,a.off+j,none⟩:=by
    have:=FC o
    rw[this];exact add_plain _ _ _
   rw[<-e,b];simp[g,b]
theorem TD {w:World}{t e q:TypeId}{v:Value}{d:DataW H}{Z:List MemPlace}(r:P.underlying t=some (.slice e)) (S:P.underlying e=some (.slice q)) (U:P.underlying q=some (.int .i64)) (Q:P.cellsOf e=1) (O:P.bytesOf e=24) (R:P.cellsOf q=1) (N:P.bytesOf q=8)
  {J:Nat} (h:DataW.trod enc P w 0 (fun _=>true) true J t [v]=some (d,Z)) (C:∀n∈d.weights P t,n<=reachBytes):∃xs,BM w v xs:=by
 rcases open_slice1 r Q h with⟨o,s⟩|⟨a,b,G,m,n,V,D,Pl,o,_,hl,hm,A,s,c⟩
 ·obtain rfl:v = .slice none 0 0:=by simpa using o
  exact⟨[],none,0,0,0,rfl,by simp,by intro j p;simp at p,by simp⟩
 ·obtain rfl:v = .slice (some a) b G:=by simpa using o
  simp only[if_true] at A;subst A;obtain⟨rfl,_⟩:=Prod.mk.injEq ..▸s;have W:=C ((b+(m - b)) * 24) (by simp[DataW.weights,r,O]);unfold reachBytes at W
  have F:∀i,i < b->∃xs,AR w (V i) xs:=fun i f=>by
   obtain⟨g1,K⟩:=c i (by omega);refine ZN S U R N K fun n g=>C n ?_;simp only[DataW.weights,r,List.mem_cons,List.mem_append];right;left
   have:∀ {l:List (DataW H)} {x:DataW H},x∈l->∀n∈x.weights P e,n∈DataW.weightsAll P e l:=by
    intro l;induction l with
    | nil=>intro x c;cases c
    | cons a5 a4 Y=>
     intro x c n g;simp only[DataW.weightsAll,List.mem_append];rcases List.mem_cons.1 c with rfl|c
     ·exact .inl g
     ·exact .inr (Y c n g)
   exact this (List.mem_map_of_mem (List.mem_range.2 f)) n g
  have T:b<=5864062014805:=by omega
  obtain⟨X,M⟩:∃X:Nat->List Int,∀i,i < b->AR w (V i) (X i):=⟨fun i=>if h:i < b then (F i h).choose else [],fun i f=>by simp only[f,dif_pos];exact(F i f).choose_spec⟩;refine⟨(List.range b).map X,some a,m,a.block,a.off,by simp,fun L=>?_,fun j p=>?_,by simpa using T⟩
  ·have y:=(c 0 (by have:0 < b:=(by simpa using L);omega)).1;rw[show a.add 0=a by simp[Addr.add]] at y;rw[<-FC y]
  ·have u:j < b:=(by simpa using p);have z:=(c 0 (by omega)).1;rw[show a.add 0=a by simp[Addr.add]] at z
   have I:a.add j=⟨a.block,a.off+j,none⟩:=by
    rw[FC z];exact add_plain _ _ _
   refine⟨V j,by rw[<-I];exact(c j (by omega)).1,?_⟩;have:((List.range b).map X).getD j []=X j:=by simp[u]
   rw[this];exact M j u
end
end Go.Proofs.YtcnedkkcgdkioaaGreat
namespace Go.Proofs.YtcnedkkcgdkioaaGreat
open Go.RowKit
def RL (P:Program) (T E:TypeId) (z:Value) (bytes:Nat):Prop:=
 P.underlying T=some (.slice E)/\(P.info? E).map (fun i=>(i.zero,i.size,i.bytes))=some (some z,1,bytes)/\z.cells = #[z]
theorem XT:RL Tryz.prog 48 3 (.int .i64 0) 8:=⟨by kernel_rfl,by kernel_rfl,rfl⟩
theorem YT {w w':World}{o:Obj}{row:Option Nat}(h:(w.alloc o).grownBy w' row):w.grownBy w' row:=
 (World.grownBy_alloc w o row).trans h
theorem vB {P:Program}{T E:TypeId}{z:Value}{bytes:Nat}(b:RL P T E z bytes) (g:bytes<=64) {w0:World}{y:Value}{t:TypeId}
  {p:Array Oper} {r:List Oper} {o:Oper} {a:Act} {Q:Exit->Act->World->Prop} (i:o.guard=none) (s x:Operand)
  (m:o.op = .call { callee:=.builtin .append,args:=#[s,x],argTypes:=#[T,T] })
  {B:Nat} {v:Value} {n:Nat} {xs:List Value} (hs:a.eval s=v) (d:w0.ownsRow B E 1 v n xs) (q:a.eval x = .slice (some ⟨w0.heap.size,0,none⟩) 1 1)
  (u:y.oneCell'=true) (G:n<=1000000000000) (f:B<=w0.heap.size)
  (h:∀v' w',w'.ownsRow B E 1 v' (n+1) (xs ++ [y])->w0.grownBy w' v.ownBlock->Below B w0 w'->wpList P p Q r (a.put o.dst v') w') :
  wpList P p Q (o::r) a (w0.alloc (.cells #[y] t)):=by
 obtain⟨F,j,A,C,D⟩:=info_parts b.2.1;refine wpList_append_own (w0.alloc (.cells #[y] t)) i s x T m B E F z 1 bytes b.1 j A C D (by rw[b.2.2];rfl) (by decide) v n xs hs (d.alloc _) ⟨w0.heap.size,0,none⟩ 1 1 [y] q rfl (cell_one_new _ _ _) (by simpa using u) (by unfold maxLen;omega) ?_ (by simp;omega) fun v' w' e c _=>?_
 ·have:(n+1) * bytes<=1000000000001 * 64:=Nat.mul_le_mul (by omega) g
  omega
 ·refine h v' w' e (YT c) ?_;exact((wB B w0).alloc f _).grown c (by simp;omega) (fun k l=>(d.lt k l).1)
theorem vI {P:Program}{T E:TypeId}{z:Value}{bytes:Nat}(b:RL P T E z bytes) (y:bytes<=64) {w:World}
  {p:Array Oper} {r:List Oper} {o:Oper} {a:Act} {Q:Exit->Act->World->Prop} (i:o.guard=none) (l c:Operand)
  (t:o.op = .makeSlice T l c) (n:Nat) (q:a.eval l = .int .i64 (n:Int)) (g:a.eval c = .int .i64 (n:Int)) (s:n<=1000000000000) {B:Nat} (f:B<=w.heap.size)
  (h:∀w',w'.ownsRow B E 1 (.slice (some ⟨w.heap.size,0,none⟩) n n) n (List.replicate n z)->w.grownBy w' none->Below w.heap.size w w'->wpList P p Q r (a.put o.dst (.slice (some ⟨w.heap.size,0,none⟩) n n)) w') :
  wpList P p Q (o::r) a w:=by
 obtain⟨C,j,u,x,A⟩:=info_parts b.2.1;have D:bytes * n<=64 * 1000000000000:=Nat.mul_le_mul y s;refine wpList_make_full w i l c T t B E C z 1 b.1 j u x .i64 .i64 _ _ n q g rfl rfl (by rw[A];omega) (by unfold maxLen;omega) f fun w' d e=>?_;rw[b.2.2,Nat.mul_one,toList_madeCells_one] at d;exact h w' d e ((wB w.heap.size w).grown e (wC _) (fun k m=>by cases m))
def OI (w:World) (B:Nat) (v:Value) (n:Nat) (xs:List Int):Prop:=w.ownsRow B 3 1 v n (xs.map (Value.int .i64))
theorem OI.length {w:World}{B:Nat}{v:Value}{n:Nat}{xs:List Int}(h:OI w B v n xs):xs.length=n:=by have:=h.1;simpa using this
theorem OI.keep {w w':World}{B:Nat}{v:Value}{n:Nat}{xs:List Int}(h:OI w B v n xs) (i:Below w.heap.size w w'):OI w' B v n xs:=by
 refine⟨h.1,?_⟩;rcases h.2 with b|⟨g,c,u,d,e,a,f⟩
 ·exact .inl b
 ·exact .inr ⟨g,c,u,d,e,(i.block g (wD.1 a).1).trans a,f⟩
theorem OI.base {w:World}{B B':Nat}{v:Value}{n:Nat}{xs:List Int}(h:OI w B v n xs) (f:B'<=B):OI w B' v n xs:=by
 refine⟨h.1,?_⟩;rcases h.2 with a|⟨g,c,u,b,e,d⟩
 ·exact .inl a
 ·exact .inr ⟨g,c,u,b,by omega,d⟩
theorem OI.shape {w:World}{B:Nat}{v:Value}{n:Nat}{xs:List Int}(h:OI w B v n xs):∃a c,v = .slice a n c:=by
 rcases h.2 with⟨rfl,rfl⟩|⟨g,p,u,rfl,_⟩
 ·exact⟨_,_,rfl⟩
 ·exact⟨_,_,rfl⟩
theorem OI.nil (w:World) (B:Nat):OI w B (.slice none 0 0) 0 []:=World.ownsRow_nil w B 3 1
theorem OI.store {w:World}{B g n cap:Nat}{xs:List Int}(h:OI w B (.slice (some ⟨g,0,none⟩) n cap) n xs) (j:Nat) (y:Int) :
  OI (w.setCell ⟨g,j,none⟩ (.int .i64 y)) B (.slice (some ⟨g,0,none⟩) n cap) n (xs.set j y)/\w.grownBy (w.setCell ⟨g,j,none⟩ (.int .i64 y)) (some g):=by
 have:=World.ownsRow.stored h j (.int .i64 y)
 unfold OI;rw[List.map_set];exact this
theorem OI.cell {w:World}{B g n cap:Nat}{xs:List Int}(h:OI w B (.slice (some ⟨g,0,none⟩) n cap) n xs) {j:Nat}(a:j < n):w.cell? ⟨g,j,none⟩=some (.int .i64 (xs.getD j 0)):=by
 have l:=h.length;rw[World.ownsRow.cellAt h j (by omega)];simp[show j < xs.length by omega]
theorem OI.free {w:World}{B g n cap:Nat}{xs:List Int}(h:OI w B (.slice (some ⟨g,0,none⟩) n cap) n xs) (j:Nat):w.frozen? ⟨g,j,none⟩=false:=World.ownsRow.frozenAt h j
theorem RJ {w0:World}{y:Int}{t:TypeId}{p:Array Oper}{r:List Oper}{o:Oper}{a:Act}{Q:Exit->Act->World->Prop}(g:o.guard=none) (s x:Operand)
  (i:o.op = .call { callee:=.builtin .append,args:=#[s,x],argTypes:=#[48,48] })
  {B:Nat} {v:Value} {n:Nat} {xs:List Int} (hs:a.eval s=v) (j:OI w0 B v n xs) (l:a.eval x = .slice (some ⟨w0.heap.size,0,none⟩) 1 1)
  (f:n<=1000000000000) (e:B<=w0.heap.size)
  (h:∀v' w',OI w' B v' (n+1) (xs ++ [y])->w0.grownBy w' v.ownBlock->Below B w0 w'->wpList Tryz.prog p Q r (a.put o.dst v') w') :
  wpList Tryz.prog p Q (o::r) a (w0.alloc (.cells #[.int .i64 y] t)):=
 vB XT (by decide) g s x i hs j l rfl f e fun v' w' b c d=>h v' w' (by unfold OI;rw[List.map_append];exact b) c d
theorem VF {w:World}{p:Array Oper}{r:List Oper}{o:Oper}{a:Act}{Q:Exit->Act->World->Prop}(i:o.guard=none) (l c:Operand)
  (q:o.op = .makeSlice 48 l c) (n:Nat) (j:a.eval l = .int .i64 (n:Int)) (g:a.eval c = .int .i64 (n:Int)) (m:n<=1000000000000) {B:Nat} (f:B<=w.heap.size)
  (h:∀w',OI w' B (.slice (some ⟨w.heap.size,0,none⟩) n n) n (List.replicate n 0)->w.grownBy w' none->Below w.heap.size w w'->wpList Tryz.prog p Q r (a.put o.dst (.slice (some ⟨w.heap.size,0,none⟩) n n)) w') :
  wpList Tryz.prog p Q (o::r) a w:=
 vI XT (by decide) i l c q n j g m f fun w' b d e=>h w' (by unfold OI;rw[List.map_replicate];exact b) d e
def CK (k:Nat) (w:World) (b o:Nat) (xs:Jb):Prop:=∀j,j < xs.length->(xs.getD j []).length=k/\CI w b (o+j * k) (xs.getD j [])
theorem CK.keep {k:Nat}{w w':World}{b o:Nat}{xs:Jb}(h:CK k w b o xs) (c:Below w.heap.size w w'):CK k w' b o xs:=
 fun j a=>⟨(h j a).1,(h j a).2.keep c⟩
def KS (k:Nat) (w:World) (v:Value) (xs:Jb):Prop:=
 ∃a c b o,v = .slice a xs.length c/\(0 < xs.length->a=some ⟨b,o,none⟩)/\CK k w b o xs/\xs.length<=2199023255552
theorem KS.keep {k:Nat}{w w':World}{v:Value}{xs:Jb}(h:KS k w v xs) (e:Below w.heap.size w w'):KS k w' v xs:=by
 obtain⟨a,c,b,o,g,d,f,l⟩:=h;exact⟨a,c,b,o,g,d,f.keep e,l⟩
theorem KS.shape {k:Nat}{w:World}{v:Value}{xs:Jb}(h:KS k w v xs):∃a c,v = .slice a xs.length c:=by
 obtain⟨a,c,_,_,b,_⟩:=h;exact⟨a,c,b⟩
theorem KS.nil (k:Nat) (w:World) (a:Option Addr) (c:Nat):KS k w (.slice a 0 c) []:=⟨a,c,0,0,rfl,by simp,by intro j h;simp at h,by simp⟩
def LH (k:Nat) (w:World) (b o:Nat) (xs:Jc):Prop:=∀j,j < xs.length->∃u,w.cell? ⟨b,o+j,none⟩=some u/\KS k w u (xs.getD j [])
theorem LH.keep {k:Nat}{w w':World}{b o:Nat}{xs:Jc}(h:LH k w b o xs) (a:Below w.heap.size w w'):LH k w' b o xs:=
 fun j e=>let ⟨u,c,d⟩:=h j e;⟨u,AC a c,d.keep a⟩
def BT (k:Nat) (w:World) (v:Value) (xs:Jc):Prop:=
 ∃a c b o,v = .slice a xs.length c/\(0 < xs.length->a=some ⟨b,o,none⟩)/\LH k w b o xs/\xs.length<=5864062014805
theorem BT.keep {k:Nat}{w w':World}{v:Value}{xs:Jc}(h:BT k w v xs) (e:Below w.heap.size w w'):BT k w' v xs:=by
 obtain⟨a,c,b,o,g,d,f,l⟩:=h;exact⟨a,c,b,o,g,d,f.keep e,l⟩
theorem BT.shape {k:Nat}{w:World}{v:Value}{xs:Jc}(h:BT k w v xs):∃a c,v = .slice a xs.length c:=by
 obtain⟨a,c,_,_,b,_⟩:=h;exact⟨a,c,b⟩
theorem CT {x:List Int}(h:x.length=8):∃a b c d e f g i,x = [a,b,c,d,e,f,g,i]:=by
 match x,h with
 | [a,b,c,d,e,f,g,i],_=>exact⟨a,b,c,d,e,f,g,i,rfl⟩
theorem LD {x:List Int}(h:x.length=7):∃a b c d e f g,x = [a,b,c,d,e,f,g]:=by
 match x,h with
 | [a,b,c,d,e,f,g],_=>exact⟨a,b,c,d,e,f,g,rfl⟩
theorem vX {x:List Int}(h:x.length=6):∃a b c d e f,x = [a,b,c,d,e,f]:=by
 match x,h with
 | [a,b,c,d,e,f],_=>exact⟨a,b,c,d,e,f,rfl⟩
theorem CI.all8 {w:World}{b o:Nat}{x a c d e f g i:Int}(h:CI w b o [x,a,c,d,e,f,g,i]) :
  w.cell? ⟨b,o,none⟩=some (.int .i64 x)/\w.cell? ⟨b,o+1,none⟩=some (.int .i64 a)/\w.cell? ⟨b,o+2,none⟩=some (.int .i64 c)/\w.cell? ⟨b,o+3,none⟩=some (.int .i64 d)/\
  w.cell? ⟨b,o+4,none⟩=some (.int .i64 e)/\w.cell? ⟨b,o+5,none⟩=some (.int .i64 f)/\w.cell? ⟨b,o+6,none⟩=some (.int .i64 g)/\w.cell? ⟨b,o+7,none⟩=some (.int .i64 i):=
 ⟨h 0 (by simp),h 1 (by simp),h 2 (by simp),h 3 (by simp),h 4 (by simp),h 5 (by simp),h 6 (by simp),h 7 (by simp)⟩
theorem CI.all7 {w:World}{b o:Nat}{x a c d e f g:Int}(h:CI w b o [x,a,c,d,e,f,g]) :
  w.cell? ⟨b,o,none⟩=some (.int .i64 x)/\w.cell? ⟨b,o+1,none⟩=some (.int .i64 a)/\w.cell? ⟨b,o+2,none⟩=some (.int .i64 c)/\w.cell? ⟨b,o+3,none⟩=some (.int .i64 d)/\
  w.cell? ⟨b,o+4,none⟩=some (.int .i64 e)/\w.cell? ⟨b,o+5,none⟩=some (.int .i64 f)/\w.cell? ⟨b,o+6,none⟩=some (.int .i64 g):=
 ⟨h 0 (by simp),h 1 (by simp),h 2 (by simp),h 3 (by simp),h 4 (by simp),h 5 (by simp),h 6 (by simp)⟩
end Go.Proofs.YtcnedkkcgdkioaaGreat
namespace Go.Proofs.YtcnedkkcgdkioaaGreat
open Go.RowKit
def AE (E:TypeId) (w w':World):Prop:=∀(k:Nat) (c:Array Value) (t:TypeId),w.heap[k]? = some (.cells c t)->t ≠ E->w'.heap[k]? = w.heap[k]?
theorem AE.below {E:TypeId}{w w':World}(h:Below w.heap.size w w'):AE E w w':=fun k _ _ a _=>h.block k (wD.1 a).1
theorem AE.refl (E:TypeId) (w:World):AE E w w:=fun _ _ _ _ _=>rfl
theorem AE.trans {E:TypeId}{a b c:World}(h:AE E a b) (g:AE E b c):AE E a c:=fun k s t d e=>by
 have:=h k s t d e
 rw[d] at this;exact(g k s t this e).trans (this.trans d.symm)
theorem AE.grown {E:TypeId}{w w':World}{row:Option Nat}(h:w.grownBy w' row) (r:∀g,row=some g->∃cs,w.heap[g]? = some (.cells cs E)):AE E w w':=fun k cs t b c=>by
 refine h.block k (wD.1 b).1 fun e=>?_;obtain⟨s,a⟩:=r k e.symm;rw[b] at a;simp at a
 exact c a.2
theorem EY {w:World}{B:Nat}{E:TypeId}{k:Nat}{v:Value}{n:Nat}{xs:List Value}(h:w.ownsRow B E k v n xs):∀g,v.ownBlock=some g->∃cs,w.heap[g]? = some (.cells cs E):=by
 intro g a;rcases h.2 with⟨rfl,_⟩|⟨d,c,u,rfl,_,b,_⟩
 ·cases a
 ·simp only[Value.ownBlock,Option.some.injEq] at a;subst a;exact⟨_,b⟩
theorem AE.own {E:TypeId}{w w':World}{B k:Nat}{v:Value}{n:Nat}{xs:List Value}(h:w.ownsRow B E k v n xs) (g:w.grownBy w' v.ownBlock):AE E w w':=AE.grown g (EY h)
theorem bJ {E E':TypeId}{w w':World}{B k:Nat}{v:Value}{n:Nat}{xs:List Value}(h:w.ownsRow B E k v n xs) (i:E ≠ E') (x:AE E' w w'):w'.ownsRow B E k v n xs:=by
 refine⟨h.1,?_⟩;rcases h.2 with b|⟨g,p,c,d,e,a,f⟩
 ·exact .inl b
 ·exact .inr ⟨g,p,c,d,e,(x g c E a i).trans a,f⟩
section
variable {α:Type}
def AA (E:TypeId) (k:Nat) (El:World->List Value->α->Prop) (w:World) (B:Nat) (v:Value) (n:Nat) (xs:List α):Prop:=
 ∃s,w.ownsRow B E k v n s/\xs.length=n/\(∀u∈s,u.oneCell'=true)/\∀j x,xs[j]? = some x->El w ((s.drop (j * k)).take k) x
def CP (E:TypeId) (El:World->List Value->α->Prop):Prop:=∀w w' c x,El w c x->AE E w w'->El w' c x
variable {E:TypeId} {k:Nat} {El:World->List Value->α->Prop} {w w':World} {B n:Nat} {v:Value} {xs:List α}
theorem AA.length (h:AA E k El w B v n xs):xs.length=n:=by obtain⟨_,_,h,_⟩:=h;exact h
theorem AA.keep (S:CP E El) (h:AA E k El w B v n xs) (b:Below w.heap.size w w'):AA E k El w' B v n xs:=by
 obtain⟨s,a,e,f,i⟩:=h;refine⟨s,⟨a.1,?_⟩,e,f,fun j x l=>S _ _ _ _ (i j x l) (AE.below b)⟩;rcases a.2 with d|⟨g,p,u,m,o,c,q⟩
 ·exact .inl d
 ·exact .inr ⟨g,p,u,m,o,(b.block g (wD.1 c).1).trans c,q⟩
theorem AA.base {B':Nat}(h:AA E k El w B v n xs) (j:B'<=B):AA E k El w B' v n xs:=by
 obtain⟨s,⟨b,d⟩,e⟩:=h;refine⟨s,⟨b,?_⟩,e⟩;rcases d with a|⟨g,c,u,f,l,i⟩
 ·exact .inl a
 ·exact .inr ⟨g,c,u,f,by omega,i⟩
theorem AA.shape (h:AA E k El w B v n xs):∃a c,v = .slice a n c:=by
 obtain⟨s,b,_⟩:=h;rcases b.2 with⟨rfl,rfl⟩|⟨g,p,u,rfl,_⟩
 ·exact⟨_,_,rfl⟩
 ·exact⟨_,_,rfl⟩
theorem AA.nil (w:World) (B:Nat):AA E k El w B (.slice none 0 0) 0 []:=⟨[],World.ownsRow_nil w B E k,rfl,by simp,by simp⟩
theorem AA.other {E':TypeId}(S:CP E' El) (h:AA E k El w B v n xs) (g:E ≠ E') (a:AE E' w w'):AA E k El w' B v n xs:=by
 obtain⟨s,b,c,d,e⟩:=h;exact⟨s,bJ b g a,c,d,fun j x f=>S _ _ _ _ (e j x f) a⟩
theorem AA.grown {row:Option Nat}(S:CP E El) (h:AA E k El w B v n xs) (a:w.grownBy w' row) (r:∀g,row=some g->∃cs,w.heap[g]? = some (.cells cs E)) (i:v.ownBlock=none\/v.ownBlock ≠ row):AA E k El w' B v n xs:=by
 obtain⟨s,b,c,d,e⟩:=h;exact⟨s,b.kept a i,c,d,fun j x f=>S _ _ _ _ (e j x f) (AE.grown a r)⟩
theorem AA.cells {g cap:Nat}(h:AA E k El w B (.slice (some ⟨g,0,none⟩) n cap) n xs) {j:Nat}{x:α}(c:xs[j]? = some x) :
  ∃cs,cs.length=k/\El w cs x/\∀i u,cs[i]? = some u->w.cell? ⟨g,j * k+i,none⟩=some u:=by
 obtain⟨s,b,d,l,e⟩:=h;have f:j < n:=by rw[<-d];exact(List.getElem?_eq_some_iff.1 c).1
 have m:j * k+k<=n * k:=by rw[<-Nat.succ_mul];exact Nat.mul_le_mul_right _ f
 have o:s.length=n * k:=b.1;refine⟨_,?_,e j x c,fun i u a=>?_⟩
 ·rw[List.length_take,List.length_drop];omega
 ·rw[List.getElem?_take] at a;split at a
  ·rw[List.getElem?_drop] at a;rw[World.ownsRow.cellAt b (j * k+i) (by omega)];exact a
  ·cases a
theorem AA.form (h:AA E k El w B v n xs) (d:0 < n):∃g cap,v = .slice (some ⟨g,0,none⟩) n cap/\B<=g:=by
 obtain⟨s,a,_⟩:=h;rcases a.2 with⟨_,rfl⟩|⟨g,cap,c,rfl,b,_⟩
 ·omega
 ·exact⟨g,cap,rfl,b⟩
def EA (P:Program) (T E:TypeId) (z:Value) (k bytes:Nat):Prop:=
 P.underlying T=some (.slice E)/\(P.info? E).map (fun i=>(i.zero,i.size,i.bytes))=some (some z,k,bytes)/\z.cells.size=k
theorem FH {P:Program}{T:TypeId}{z:Value}{bytes:Nat}(e:EA P T E z k bytes) (G:bytes<=128) (f:0 < k) (S:CP E El) {w0:World}{cs:Array Value}{t:TypeId}{x:α}
  {q:Array Oper} {r:List Oper} {o:Oper} {a:Act} {Q:Exit->Act->World->Prop} (J:o.guard=none) (s y:Operand)
  (N:o.op = .call { callee:=.builtin .append,args:=#[s,y],argTypes:=#[T,T] })
  (hs:a.eval s=v) (O:AA E k El w0 B v n xs) {A:Nat} (V:a.eval y = .slice (some ⟨A,0,none⟩) 1 1) (R:A=w0.heap.size)
  (m:cs.size=k) (l:∀u∈cs.toList,u.oneCell'=true) (F:El w0 cs.toList x) (hn:n<=1000000000000) (D:B<=w0.heap.size)
  (h:∀v' w',AA E k El w' B v' (n+1) (xs ++ [x])->w0.grownBy w' v.ownBlock->Below B w0 w'->AE E w0 w'->wpList P q Q r (a.put o.dst v') w') :
  wpList P q Q (o::r) a (w0.alloc (.cells cs t)):=by
 obtain⟨i0,K,W,Y,Z⟩:=info_parts e.2.1;obtain⟨g,d,k2,k3,k4⟩:=O;subst R
 have I:∀j u,cs.toList[j]? = some u->(w0.alloc (.cells cs t)).cell? ((⟨w0.heap.size,0,none⟩:Addr).add j)=some u:=by
  intro j u b;rw[show(⟨w0.heap.size,0,none⟩:Addr).add j=⟨w0.heap.size,j,none⟩ by(simp[Addr.add];try omega),cell_of_row _ _ j _ _ _ (wE w0 _)];simpa using b
 refine wpList_append_own (w0.alloc (.cells cs t)) J s y T N B E i0 z k bytes e.1 K W Y Z e.2.2 f v n g hs (d.alloc _) ⟨w0.heap.size,0,none⟩ 1 1 cs.toList V (by simpa using m) I l (by unfold maxLen;omega) ?_ (by simp;omega) fun v' w' C i _=>?_
 ·have:(n+1) * bytes<=1000000000001 * 128:=Nat.mul_le_mul (by omega) G
  omega
 ·have p:w0.grownBy w' v.ownBlock:=YT i;have X:AE E w0 w':=AE.own d p;have U:g.length=n * k:=d.1;refine h v' w' ⟨g++cs.toList,C,by simp[k2],?_,fun j x' b=>?_⟩ p (((wB B w0).alloc D _).grown i (by simp;omega) (fun k f=>(d.lt k f).1)) X
  ·intro u c;rcases List.mem_append.1 c with c|c
   ·exact k3 u c
   ·exact l u c
  ·by_cases M:j < n
   ·rw[List.getElem?_append_left (by omega)] at b;have a5:j * k+k<=n * k:=(by rw[<-Nat.succ_mul];exact Nat.mul_le_mul_right _ M);rw[List.drop_append_of_le_length (by omega),List.take_append_of_le_length (by rw[List.length_drop];omega)];exact S _ _ _ _ (k4 j x' b) X
   ·rw[List.getElem?_append_right (by omega)] at b
    have L:j - xs.length=0:=by
     have:=(List.getElem?_eq_some_iff.1 b).1
     simpa using this
    rw[L] at b;simp only[List.getElem?_cons_zero,Option.some.injEq] at b;subst b;obtain rfl:j=n:=(by omega);rw[<-U,List.drop_left,List.take_of_length_le (by simp[m])];exact S _ _ _ _ F X
end
end Go.Proofs.YtcnedkkcgdkioaaGreat
namespace Go.Proofs.YtcnedkkcgdkioaaGreat
open Go.RowKit
structure AV (D:Nat->Prop) (W W':World):Prop where
 os:W'.os=W.os
 tape:W'.tape=W.tape
 output:W'.output=W.output
 size:W.heap.size<=W'.heap.size
 same:∀k,k < W.heap.size->¬D k->W'.heap[k]? = W.heap[k]?
def Gr (D:Nat->Prop) (W:World) (a:Nat->Prop):Prop:=∀k,a k->D k\/W.heap.size<=k
def Bd (D:Nat->Prop) (W:World):Prop:=∀k,D k->k < W.heap.size
theorem AV.refl (D:Nat->Prop) (W:World):AV D W W:=⟨rfl,rfl,rfl,wC _,fun _ _ _=>rfl⟩
theorem AV.trans {D b:Nat->Prop}{A B C:World}(h:AV D A B) (k:AV b B C) (g:Gr D A b):AV D A C:=
 ⟨k.os.trans h.os,k.tape.trans h.tape,k.output.trans h.output,wI h.size k.size,fun i c d=>
  (k.same i (Nat.lt_of_lt_of_le c h.size) (fun a=>by rcases g i a with a|a;exact d a;omega)).trans (h.same i c d)⟩
theorem AV.mono {D a:Nat->Prop}{A B:World}(h:AV D A B) (d:∀k,D k->a k):AV a A B:=
 ⟨h.os,h.tape,h.output,h.size,fun k c e=>h.same k c (fun b=>e (d k b))⟩
theorem AV.below {D:Nat->Prop}{A B:World}(h:AV D A B) {n:Nat}(c:n<=A.heap.size) (d:∀k,D k->n<=k):Below n A B:=
 ⟨h.os,h.tape,h.output,h.size,fun k b=>h.same k (by omega) (fun a=>by have:=d k a;omega)⟩
theorem AV.of_below {D:Nat->Prop}{A B:World}(h:Below A.heap.size A B):AV D A B:=⟨h.os,h.tape,h.output,h.size,fun k a _=>h.block k a⟩
theorem AV.thenBelow {D:Nat->Prop}{A B C:World}(h:AV D A B) (k:Below A.heap.size B C):AV D A C:=
 ⟨k.os.trans h.os,k.tape.trans h.tape,k.output.trans h.output,wI h.size k.size,fun i a d=>(k.block i a).trans (h.same i a d)⟩
theorem AV.setCell {D:Nat->Prop}{A B:World}(h:AV D A B) {p:Addr}(b:D p.block) (u:Value):AV D A (B.setCell p u):=
 ⟨h.os,h.tape,h.output,by simpa [World.setCell] using h.size,fun i a d=>(Below.heap_setCell B p u i (fun e=>d (e▸b))).trans (h.same i a d)⟩
theorem AV.cell {D:Nat->Prop}{A B:World}(h:AV D A B) {p:Addr}{v:Value}(a : ¬D p.block) (c:A.cell? p=some v):B.cell? p=some v:=
 (World.cell?_of_block (h.same p.block (World.block_lt_of_cell? A p c) a)).trans c
theorem AV.drewN {D:Nat->Prop}{A B:World}(h:AV D A B) (n:Nat):AV D A (B.drewN n):=⟨h.os,h.tape,h.output,h.size,h.same⟩
theorem IG {B:Nat}{w W:World}(h:Below B w W) {d:Nat}(a:B<=d) (o:Obj):Below B w (W.putObj d o):=
 h.trans ⟨rfl,rfl,rfl,by simp,fun k b=>World.putObj_heap_other (by omega)⟩
theorem Gr.refl (D:Nat->Prop) (W:World):Gr D W D:=fun _ h=>.inl h
theorem Gr.trans {D b c:Nat->Prop}{A B:World}(h:Gr D A b) (k:Gr b B c) (hs:A.heap.size<=B.heap.size):Gr D A c:=fun i d=>by
 rcases k i d with a|a
 ·exact h i a
 ·exact .inr (wI hs a)
theorem AV.putObj {D:Nat->Prop}{W:World}{l:Nat}(a:D l) (o:Obj):AV D W (W.putObj l o):=
 ⟨rfl,rfl,rfl,by simp,fun k _ h=>World.putObj_heap_other (fun e=>h (e▸a))⟩
def GX {α:Type}(J:List α->(Nat->Prop)->World->Prop):Prop:=
 ∀p D W a,J p D W->W.heap.size<=a.heap.size->(∀k,D k->a.heap[k]? = W.heap[k]?)->J p D a
def RN {α:Type}(P:Program) (g:Nat) (lb:Array Value) (enc:α->Array Value) (R:List α->α->World->Prop) (S h:List α->Prop) (N:Nat) (C:Nat->Prop) (w0:World):Prop:=
 ∀(l:Nat) (J f:List α->(Nat->Prop)->World->Prop) (D:Nat->Prop) (W:World),Below w0.heap.size w0 W->Bd D W->(∀k,D k->¬C k)->GX J->GX f->
  (∀p x d c,J p d c->Bd d c->AV D W c->Gr D W d->R p x c->p.length < N->YieldAt Fence.wide 0 P l (enc x) c fun e b=>
   ∃a,AV d c b/\Gr d c a/\Bd a b/\((e = .returned (.bool true)/\J (p ++ [x]) a b)\/(e = .returned (.bool false)/\f (p ++ [x]) a b)))->
  J [] D W->
  CallsIn Fence.wide 0 P g (#[.func (.yield l) #[] #[]]++lb) W fun e b=>(∃v,e = .returned v)/\
   ∃a,AV D W b/\Gr D W a/\Bd a b/\((∃xs,S xs/\J xs a b)\/(∃p,h p/\f p a b))
def VX {α:Type}(I:List α->(Nat->Prop)->World->Prop) (x:Code->List α->(Nat->Prop)->World->Prop) (xs:List α) (D:Nat->Prop) (W:World):Exit->Act->World->Prop
 | .normal,_,W'=>∃a,AV D W W'/\Gr D W a/\Bd a W'/\I xs a W'
 | .ret,_,W'=>∃a,AV D W W'/\Gr D W a/\Bd a W'/\x .ret xs a W'
 | .exit id,_,W'=>∃a,AV D W W'/\Gr D W a/\Bd a W'/\x (.exit id) xs a W'
 | .goto t,_,W'=>∃a,AV D W W'/\Gr D W a/\Bd a W'/\x (.goto t) xs a W'
 | .panic _,_,_=>False
 | .outgrown,_,_=>False
theorem vE {P:Program}{α:Type}{g:Operand}{ps:Array Tmp}{assign body:Code}{c2:Exit->Act->World->Prop}{a:Act}{w:World}
  {gf:Nat} {lb:Array Value} (hg:a.eval g = .func (.func gf) #[] lb) (eg:∀args w,(callFunc gf args).run P w = .ok (.enter gf args) w)
  {enc:α->Array Value} {R:List α->α->World->Prop} {S Sp:List α->Prop} {N:Nat} {C:Nat->Prop} {w0:World} (i1:RN P gf lb enc R S Sp N C w0)
  (d1:Below w0.heap.size w0 w) (i0:∀x,(enc x).size=ps.size) (hR:∀i x W k r o,R i x W->W.heap[k]? = some (.loop r)->R i x (W.putObj k o))
  (I:List α->(Nat->Prop)->World->Prop) (Ix:Code->List α->(Nat->Prop)->World->Prop) (hI:GX I) (b5:∀c,GX (Ix c))
  (q:Nat->Prop) (b3:Bd q w) (hC:∀k,q k->¬C k) (f1:Bd C w) (h0:I [] q w) (c9:α->Act)
  (g9:∀(l:Nat) (x:α) (W:World) (K:Act->World->Prop),K (c9 x) W->
   assign.wpIn (Fence.wide.inRound l) 0 P (Exit.then K (fun _ _ _=>False)) { tmps:=(ps.zip (enc x)).foldl (fun t (p,v)=>t.setIfInBounds p v) a.tmps,defers:=[] } W)
  (g':∀(l:Nat) (i:List α) (x:α) (D:Nat->Prop) (W:World),I i D W->Bd D W->AV q w W->Gr q w D->R i x W->i.length < N->body.wpIn (Fence.wide.inRound l) 0 P (VX I Ix (i ++ [x]) D W) (c9 x) W)
  (h4:∀(d:Nat) (xs:List α) (D:Nat->Prop) (W:World),S xs->I xs D W->AV q w W->Gr q w D->w.heap.size<=d->¬D d->W.heap[d]? = some (.deferred (some []))->c2 .normal { a with defers:={ target:=.collected d,args:=#[] }::a.defers } W)
  (i2:∀(d:Nat) (c:Code) (i:List α) (D:Nat->Prop) (W:World),Sp i->Ix c i D W->AV q w W->Gr q w D->w.heap.size<=d->¬D d->W.heap[d]? = some (.deferred (some []))->c.wpIn Fence.wide 0 P c2 { a with defers:={ target:=.collected d,args:=#[] }::a.defers } W) :
  (Code.rangeFunc g ps assign body).wpIn Fence.wide 0 P c2 a w:=by
 refine wpIn_rangeFunc fun c' _=>?_;obtain⟨d,hd⟩:=AF (w.heap.size);obtain⟨l,hl⟩:=AF (w.heap.size+1);obtain⟨s,U⟩:∃s:LoopState->Option Code->Loop,s=fun st pe=>{ state:=st,pending:=pe,fn:=c',tmps:=a.tmps,params:=ps,assign:=assign,body:=body,defers:=d }:=⟨_,rfl⟩;obtain⟨y,b0⟩:=AB ((w.alloc (.deferred (some []))).alloc (.loop (s .ready none)));have i':y.heap.size=w.heap.size+2:=by rw[<-b0];simp
 have d6:∀k,k < w.heap.size->y.heap[k]? = w.heap[k]?:=fun k b=>by
  rw[<-b0];exact(Below.heap_alloc _ _ _ (by simp;omega)).trans (Below.heap_alloc _ _ _ b)
 have h6:y.heap[l]? = some (.loop (s .ready none)):=by
  rw[<-b0,hl];have:=World.alloc_heap_new (w.alloc (.deferred (some []))) (.loop (s .ready none));rwa [World.size_alloc] at this
 have h1:y.heap[d]? = some (.deferred (some [])):=by
  rw[<-b0,hd];exact(Below.heap_alloc _ _ _ (by simp)).trans (World.alloc_heap_new w _)
 have b1:Below w.heap.size w y:=by rw[<-b0];exact((wB _ _).alloc (wC _) _).alloc (by simp) _
 have g0 : ¬q l:=fun h=>by have:=b3 l h;omega
 have f' : ¬q d:=fun h=>by have:=b3 d h;omega
 -- what the caller's data and the two blocks of the statement's own are
 let c6:List α->(Nat->Prop)->World->Prop:=fun i D W=>∃E,I i E W/\Bd E W/\Gr q w E/\¬E l/\¬E d/\(∀k,D k↔E k\/k=l\/k=d)/\
  W.heap[l]? = some (.loop (s .ready none))/\W.heap[d]? = some (.deferred (some []))
 let Jx:List α->(Nat->Prop)->World->Prop:=fun i D W=>∃c E,Ix c i E W/\Bd E W/\Gr q w E/\¬E l/\¬E d/\(∀k,D k↔E k\/k=l\/k=d)/\
  W.heap[l]? = some (.loop (s .done (some c)))/\W.heap[d]? = some (.deferred (some []))
 have hJ:GX c6:=by
  rintro i D W W' ⟨E,Q,h2,M,L,O,m,z,T⟩ hs b;refine⟨E,hI i E W W' Q hs (fun k a9=>b k ((m k).2 (.inl a9))),fun k a9=>Nat.lt_of_lt_of_le (h2 k a9) hs,M,L,O,m,(b l ((m l).2 (.inr (.inl rfl)))).trans z,(b d ((m d).2 (.inr (.inr rfl)))).trans T⟩
 have g2:GX Jx:=by
  rintro i D W W' ⟨c,E,Q,h2,M,L,O,m,z,T⟩ hs b;refine⟨c,E,b5 c i E W W' Q hs (fun k a9=>b k ((m k).2 (.inl a9))),fun k a9=>Nat.lt_of_lt_of_le (h2 k a9) hs,M,L,O,m,(b l ((m l).2 (.inr (.inl rfl)))).trans z,(b d ((m d).2 (.inr (.inr rfl)))).trans T⟩
 let D1:Nat->Prop:=fun k=>q k\/k=l\/k=d
 have f4:Bd D1 y:=fun k b=>by
  rcases b with h|rfl|rfl
  ·have:=b3 k h;omega
  ·omega
  ·omega
 have c5:∀ {W:World},AV D1 y W->AV q w W:=fun {W} h=>
  ⟨h.os.trans b1.os,h.tape.trans b1.tape,h.output.trans b1.output,wI b1.size h.size,fun k b hn=>
   (h.same k (by omega) (fun hh=>by rcases hh with hh|rfl|rfl;exact hn hh;omega;omega)).trans (d6 k b)⟩
 refine⟨l,[{ target:=.collected d,args:=#[] }],y,{ target:=.fn (.func gf) lb,args:=#[.func (.yield l) #[] #[]] },y,gf,#[.func (.yield l) #[] #[]]++lb,y,?_,?_,?_,?_,?_,?_⟩
 ·rw[<-b0,U,hl,hd];exact run_enterLoop_outer _ _ _ _ _
 ·simp only[resolve,hg];simp[go_sem]
 ·intro i8 i9;trivial
 ·simp[invoke,go_sem,eg]
 ·intro h;simp[Fence.wide] at h
 refine(i1 l c6 Jx D1 y (d1.trans (b1.mono d1.size)) f4 ?_ hJ g2 ?_ ?_).mono ?_
 ·intro k b d3;have:=f1 k d3
  rcases b with h|rfl|rfl
  ·exact hC k h d3
  ·omega
  ·omega
 ·-- a round
  rintro i x D W ⟨E,Q,h2,M,L,O,m,z,T⟩ e' b6 c0 g4 h9;have h8:l < W.heap.size:=(wD.1 z).1;have hy:=run_yield (P:=P) (args:=enc x) z (by rw[U];exact i0 x);rw[U] at hy;refine⟨c',_,assign,body,hy,roundIn_of_wpIn trivial (g9 l x W _ ⟨_,run_beginRound z (by rw[U]),?_⟩)⟩;obtain⟨W2,a8⟩:∃W2,W2=W.putObj l (.loop { s .ready none with state:=.busy }):=⟨_,rfl⟩;have g7:W2.heap[l]? = some (.loop { s .ready none with state:=.busy }):=by rw[a8];exact World.putObj_heap_same h8
  have gO:∀k,k ≠ l->W2.heap[k]? = W.heap[k]?:=fun k b=>by rw[a8];exact World.putObj_heap_other b
  have gS:W2.heap.size=W.heap.size:=by rw[a8];simp
  have g8:W2.heap[d]? = some (.deferred (some [])):=(gO d (by omega)).trans T;have gI:I i E W2:=hI i E W W2 Q (by omega) (fun k b=>gO k (fun e=>L (e▸b)));have e6:AV D1 y W2:=b6.trans (by rw[a8];exact AV.putObj (D:=D) ((m l).2 (.inr (.inl rfl))) _) c0;have gR:R i x W2:=by rw[a8];exact hR i x W l _ _ g4 z
  rw[<-a8];refine wpIn_mono (g' l i x E W2 gI (fun k b=>by rw[gS];exact h2 k b) (c5 e6) M gR h9) ?_;-- what stands when the body has ended
  have b':∀(u:Option Code) (j:World) (f:Nat->Prop),AV E W2 j->Gr E W2 f->Bd f j->
    (Instr.endRound l u).run P j = .ok (.bool u.isNone) (j.putObj l (.loop (s (if u.isNone then .ready else .done) u)))/\
    AV D W (j.putObj l (.loop (s (if u.isNone then .ready else .done) u)))/\Gr D W (fun k=>f k\/k=l\/k=d)/\
    Bd (fun k=>f k\/k=l\/k=d) (j.putObj l (.loop (s (if u.isNone then .ready else .done) u)))/\¬f l/\¬f d/\Gr q w f/\
    (j.putObj l (.loop (s (if u.isNone then .ready else .done) u))).heap[l]? = some (.loop (s (if u.isNone then .ready else .done) u))/\
    (j.putObj l (.loop (s (if u.isNone then .ready else .done) u))).heap[d]? = some (.deferred (some []))/\
    (∀k,f k->(j.putObj l (.loop (s (if u.isNone then .ready else .done) u))).heap[k]? = j.heap[k]?):=by
   intro u j f A F V;have h3:d < W2.heap.size:=(by omega);have d5:=(A.same l (by omega) L).trans g7;have h7:l < j.heap.size:=(wD.1 d5).1;have nl : ¬f l:=fun h=>by rcases F l h with J|J;exact L J;omega
   have nd : ¬f d:=fun h=>by rcases F d h with J|J;exact O J;omega
   have X:=run_endRound (P:=P) u d5;refine⟨by rw[U] at X|-;exact X,?_,?_,?_,nl,nd,?_,World.putObj_heap_same h7,(World.putObj_heap_other (by omega)).trans ((A.same d h3 O).trans g8),fun k b=>World.putObj_heap_other (fun e=>nl (e▸b))⟩
   ·have e1:AV D W W2:=(by rw[a8];exact AV.putObj (D:=D) ((m l).2 (.inr (.inl rfl))) _);have e2:AV D W2 j:=A.mono fun k b=>(m k).2 (.inl b);exact(e1.trans e2 (Gr.refl _ _)).trans (AV.putObj (D:=D) ((m l).2 (.inr (.inl rfl))) _) (Gr.refl _ _)
   ·intro k b;rcases b with h|rfl|rfl
    ·rcases F k h with J|J
     ·exact .inl ((m k).2 (.inl J))
     ·exact .inr (by omega)
    ·exact .inl ((m k).2 (.inr (.inl rfl)))
    ·exact .inl ((m k).2 (.inr (.inr rfl)))
   ·intro k b;rw[World.putObj_size];rcases b with h|rfl|rfl
    ·exact V k h
    ·omega
    ·have:=A.size;omega
   ·intro k b;rcases F k b with J|J
    ·exact M k J
    ·right;have:=b6.size;omega
  rintro e a3 j hp;cases e with
  | normal=>
   obtain⟨f,A,F,V,k4⟩:=hp;obtain⟨Y,f2,f3,G,f5,f6,f7,f8,f9,Z⟩:=b' none j f A F V;exact⟨_,_,Y,_,f2,f3,G,.inl ⟨rfl,f,hI _ f j _ k4 (by rw[World.putObj_size];exact wC _) Z,fun k b=>G k (.inl b),f7,f5,f6,fun _=>Iff.rfl,f8,f9⟩⟩
  | ret=>
   obtain⟨f,A,F,V,k4⟩:=hp;obtain⟨Y,f2,f3,G,f5,f6,f7,f8,f9,Z⟩:=b' (some .ret) j f A F V;exact⟨_,_,Y,_,f2,f3,G,.inr ⟨rfl,_,f,b5 _ _ f j _ k4 (by rw[World.putObj_size];exact wC _) Z,fun k b=>G k (.inl b),f7,f5,f6,fun _=>Iff.rfl,f8,f9⟩⟩
  | exit id=>
   obtain⟨f,A,F,V,k4⟩:=hp;obtain⟨Y,f2,f3,G,f5,f6,f7,f8,f9,Z⟩:=b' (some (.exit id)) j f A F V;exact⟨_,_,Y,_,f2,f3,G,.inr ⟨rfl,_,f,b5 _ _ f j _ k4 (by rw[World.putObj_size];exact wC _) Z,fun k b=>G k (.inl b),f7,f5,f6,fun _=>Iff.rfl,f8,f9⟩⟩
  | goto t=>
   obtain⟨f,A,F,V,k4⟩:=hp;obtain⟨Y,f2,f3,G,f5,f6,f7,f8,f9,Z⟩:=b' (some (.goto t)) j f A F V;exact⟨_,_,Y,_,f2,f3,G,.inr ⟨rfl,_,f,b5 _ _ f j _ k4 (by rw[World.putObj_size];exact wC _) Z,fun k b=>G k (.inl b),f7,f5,f6,fun _=>Iff.rfl,f8,f9⟩⟩
  | panic ch=>exact hp.elim
  | outgrown=>exact hp.elim
 ·refine⟨q,hI [] q w y h0 b1.size (fun k b=>d6 k (b3 k b)),fun k b=>by have:=b3 k b;omega,Gr.refl _ _,g0,f',fun _=>Iff.rfl,h6,h1⟩
 ·-- behind the iterator
  rintro e W2 ⟨⟨v,rfl⟩,D,b6,c0,e',(⟨xs,hS,E,Q,h2,M,L,O,m,z,T⟩|⟨i,g6,c,E,Q,h2,M,L,O,m,z,T⟩)⟩
  ·have X:=run_endLoop (P:=P) z (by rw[U];simp);rw[U] at X;refine⟨none,_,X,h4 d xs E _ hS (hI _ E W2 _ Q (by simp) fun k b=>World.putObj_heap_other (fun e=>L (e▸b))) ?_ M (by omega) O ((World.putObj_heap_other (by omega)).trans T)⟩;exact c5 (b6.trans (AV.putObj (D:=D) ((m l).2 (.inr (.inl rfl))) _) c0)
  ·have X:=run_endLoop (P:=P) z (by rw[U];simp);rw[U] at X;refine⟨some c,_,X,i2 d c i E _ g6 (b5 c _ E W2 _ Q (by simp) fun k b=>World.putObj_heap_other (fun e=>L (e▸b))) ?_ M (by omega) O ((World.putObj_heap_other (by omega)).trans T)⟩;exact c5 (b6.trans (AV.putObj (D:=D) ((m l).2 (.inr (.inl rfl))) _) c0)
end Go.Proofs.YtcnedkkcgdkioaaGreat

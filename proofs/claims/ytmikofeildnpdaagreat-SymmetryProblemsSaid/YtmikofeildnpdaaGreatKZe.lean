/- Texts of this claim, put together: Own QA Own2. -/
import Derived.Test.YtmikofeildnpdaaGreatKZa
import Derived.Maps.AppendAt
import Derived.Laws.AppendOwnNone

set_option maxRecDepth 100000
set_option maxHeartbeats 12800000
namespace Go.Proofs.YtmikofeildnpdaaGreat
open Go.RowKit
def ElemOK (P:Program) (T E:TypeId) (z:Value) (bytes:Nat):Prop:=
 P.underlying T=some (.slice E)∧(P.info? E).map (fun i=>(i.zero,i.size,i.bytes))=some (some z,1,bytes)∧z.cells = #[z]
theorem elemInt:ElemOK Tryz.prog 25 3 (.int .i64 0) 8:=⟨by kernel_rfl,by kernel_rfl,rfl⟩
theorem grownBy_alloc_trans {w w':World}{o:Obj}{row:Option Nat}(h:(w.alloc o).grownBy w' row):w.grownBy w' row:=
 (World.grownBy_alloc w o row).trans h
theorem wpApp1 {P:Program}{T E:TypeId}{z:Value}{bytes:Nat}(hE:ElemOK P T E z bytes) (hby:bytes≤64) {w0:World}{y:Value}{t:TypeId}
  {ops:Array Oper} {rest:List Oper} {o:Oper} {a:Act} {Q:Exit→Act→World→Prop} (hgd:o.guard=none) (s x:Operand)
  (ho:o.op = .call { callee:=.builtin .append,args:=#[s,x],argTypes:=#[T,T] })
  {B:Nat} {v:Value} {n:Nat} {xs:List Value} (hs:a.eval s=v) (hown:w0.ownsRow B E 1 v n xs) (hx:a.eval x = .slice (some ⟨w0.heap.size,0,none⟩) 1 1)
  (hy:y.oneCell'=true) (hn:n≤1000000000000) (hB:B≤w0.heap.size)
  (h:∀v' w',w'.ownsRow B E 1 v' (n+1) (xs ++ [y])→w0.grownBy w' v.ownBlock→Below B w0 w'→wpList P ops Q rest (a.put o.dst v') w') :
  wpList P ops Q (o::rest) a (w0.alloc (.cells #[y] t)):=by
 obtain⟨i0,hi,hz0,hz1,hz2⟩:=info_parts hE.2.1;refine wpList_append_own (w0.alloc (.cells #[y] t)) hgd s x T ho B E i0 z 1 bytes hE.1 hi hz0 hz1 hz2 (by rw[hE.2.2];rfl) (by decide) v n xs hs (hown.alloc _) ⟨w0.heap.size,0,none⟩ 1 1 [y] hx rfl (cell_one_new _ _ _) (by simpa using hy) (by unfold maxLen;omega) ?_ (by simp;omega) fun v' w' h1 h2 _=>?_
 ·have:(n+1) * bytes≤1000000000001 * 64:=Nat.mul_le_mul (by omega) hby
  omega
 ·refine h v' w' h1 (grownBy_alloc_trans h2) ?_;exact((Below.refl B w0).alloc hB _).grown h2 (by simp;omega) (fun k hk=>(hown.lt k hk).1)
theorem wpMake {P:Program}{T E:TypeId}{z:Value}{bytes:Nat}(hE:ElemOK P T E z bytes) (hby:bytes≤64) {w:World}
  {ops:Array Oper} {rest:List Oper} {o:Oper} {a:Act} {Q:Exit→Act→World→Prop} (hgd:o.guard=none) (l c:Operand)
  (ho:o.op = .makeSlice T l c) (n:Nat) (hl:a.eval l = .int .i64 (n:Int)) (hc:a.eval c = .int .i64 (n:Int)) (hn:n≤1000000000000) {B:Nat} (hB:B≤w.heap.size)
  (h:∀w',w'.ownsRow B E 1 (.slice (some ⟨w.heap.size,0,none⟩) n n) n (List.replicate n z)→w.grownBy w' none→Below w.heap.size w w'→wpList P ops Q rest (a.put o.dst (.slice (some ⟨w.heap.size,0,none⟩) n n)) w') :
  wpList P ops Q (o::rest) a w:=by
 obtain⟨i0,hi,hz0,hz1,hz2⟩:=info_parts hE.2.1;have hmul:bytes * n≤64 * 1000000000000:=Nat.mul_le_mul hby hn;refine wpList_make_full w hgd l c T ho B E i0 z 1 hE.1 hi hz0 hz1 .i64 .i64 _ _ n hl hc rfl rfl (by rw[hz2];omega) (by unfold maxLen;omega) hB fun w' h1 h2=>?_;rw[hE.2.2,Nat.mul_one,toList_madeCells_one] at h1;exact h w' h1 h2 ((Below.refl w.heap.size w).grown h2 (Nat.le_refl _) (fun k hk=>by cases hk))
def OI (w:World) (B:Nat) (v:Value) (n:Nat) (xs:List Int):Prop:=w.ownsRow B 3 1 v n (xs.map (Value.int .i64))
theorem OI.length {w:World}{B:Nat}{v:Value}{n:Nat}{xs:List Int}(h:OI w B v n xs):xs.length=n:=by have:=h.1;simpa using this
theorem OI.keep {w w':World}{B:Nat}{v:Value}{n:Nat}{xs:List Int}(h:OI w B v n xs) (hb:Below w.heap.size w w'):OI w' B v n xs:=by
 refine⟨h.1,?_⟩;rcases h.2 with h'|⟨g,cap,cur,h1,h2,h3,h4⟩
 ·exact .inl h'
 ·exact .inr ⟨g,cap,cur,h1,h2,(hb.block g (Array.getElem?_eq_some_iff.1 h3).1).trans h3,h4⟩
theorem OI.base {w:World}{B B':Nat}{v:Value}{n:Nat}{xs:List Int}(h:OI w B v n xs) (hb:B'≤B):OI w B' v n xs:=by
 refine⟨h.1,?_⟩;rcases h.2 with h'|⟨g,cap,cur,h1,h2,h3⟩
 ·exact .inl h'
 ·exact .inr ⟨g,cap,cur,h1,by omega,h3⟩
theorem OI.shape {w:World}{B:Nat}{v:Value}{n:Nat}{xs:List Int}(h:OI w B v n xs):∃a c,v = .slice a n c:=by
 rcases h.2 with⟨rfl,rfl⟩|⟨g,cap,cur,rfl,_⟩
 ·exact⟨_,_,rfl⟩
 ·exact⟨_,_,rfl⟩
theorem OI.nil (w:World) (B:Nat):OI w B (.slice none 0 0) 0 []:=World.ownsRow_nil w B 3 1
theorem OI.ints {w:World}{B:Nat}{v:Value}{n:Nat}{xs:List Int}(h:OI w B v n xs) (hn:n≤17592186044416):Ints w v xs:=by
 obtain rfl:=h.length;rcases h.2 with⟨rfl,h'⟩|⟨g,cap,cur,rfl,h2,h3,h4,h5,h6,h7⟩
 ·obtain rfl:xs = []:=List.length_eq_zero_iff.1 h';exact Ints.nil _ _ _
 ·refine⟨_,cap,g,0,rfl,fun _=>rfl,fun j hj=>?_,hn⟩;rw[Nat.zero_add,cell_of_row w g j cur 3 (0,0) h3];have:(cur.toList.take (xs.length * 1))[j]? = some (Value.int .i64 (xs.getD j 0)):=by rw[h7];simp[hj]
  rw[List.getElem?_take,if_pos (by omega)] at this;simpa using this
theorem OI.store {w:World}{B g n cap:Nat}{xs:List Int}(h:OI w B (.slice (some ⟨g,0,none⟩) n cap) n xs) (j:Nat) (y:Int) :
  OI (w.setCell ⟨g,j,none⟩ (.int .i64 y)) B (.slice (some ⟨g,0,none⟩) n cap) n (xs.set j y)∧w.grownBy (w.setCell ⟨g,j,none⟩ (.int .i64 y)) (some g):=by
 have:=World.ownsRow.stored h j (.int .i64 y)
 unfold OI;rw[List.map_set];exact this
theorem OI.cell {w:World}{B g n cap:Nat}{xs:List Int}(h:OI w B (.slice (some ⟨g,0,none⟩) n cap) n xs) {j:Nat}(hj:j < n):w.cell? ⟨g,j,none⟩=some (.int .i64 (xs.getD j 0)):=by
 have hl:=h.length;rw[World.ownsRow.cellAt h j (by omega)];simp[show j < xs.length by omega]
theorem OI.free {w:World}{B g n cap:Nat}{xs:List Int}(h:OI w B (.slice (some ⟨g,0,none⟩) n cap) n xs) (j:Nat):w.frozen? ⟨g,j,none⟩=false:=World.ownsRow.frozenAt h j
theorem wpAppI {w0:World}{y:Int}{t:TypeId}{ops:Array Oper}{rest:List Oper}{o:Oper}{a:Act}{Q:Exit→Act→World→Prop}(hgd:o.guard=none) (s x:Operand)
  (ho:o.op = .call { callee:=.builtin .append,args:=#[s,x],argTypes:=#[25,25] })
  {B:Nat} {v:Value} {n:Nat} {xs:List Int} (hs:a.eval s=v) (hown:OI w0 B v n xs) (hx:a.eval x = .slice (some ⟨w0.heap.size,0,none⟩) 1 1)
  (hn:n≤1000000000000) (hB:B≤w0.heap.size)
  (h:∀v' w',OI w' B v' (n+1) (xs ++ [y])→w0.grownBy w' v.ownBlock→Below B w0 w'→wpList Tryz.prog ops Q rest (a.put o.dst v') w') :
  wpList Tryz.prog ops Q (o::rest) a (w0.alloc (.cells #[.int .i64 y] t)):=
 wpApp1 elemInt (by decide) hgd s x ho hs hown hx rfl hn hB fun v' w' h1 h2 h3=>h v' w' (by unfold OI;rw[List.map_append];exact h1) h2 h3
theorem wpMakeI {w:World}{ops:Array Oper}{rest:List Oper}{o:Oper}{a:Act}{Q:Exit→Act→World→Prop}(hgd:o.guard=none) (l c:Operand)
  (ho:o.op = .makeSlice 25 l c) (n:Nat) (hl:a.eval l = .int .i64 (n:Int)) (hc:a.eval c = .int .i64 (n:Int)) (hn:n≤1000000000000) {B:Nat} (hB:B≤w.heap.size)
  (h:∀w',OI w' B (.slice (some ⟨w.heap.size,0,none⟩) n n) n (List.replicate n 0)→w.grownBy w' none→Below w.heap.size w w'→wpList Tryz.prog ops Q rest (a.put o.dst (.slice (some ⟨w.heap.size,0,none⟩) n n)) w') :
  wpList Tryz.prog ops Q (o::rest) a w:=
 wpMake elemInt (by decide) hgd l c ho n hl hc hn hB fun w' h1 h2 h3=>h w' (by unfold OI;rw[List.map_replicate];exact h1) h2 h3
end Go.Proofs.YtmikofeildnpdaaGreat
namespace Go.Proofs.YtmikofeildnpdaaGreat
section
variable {κ:Type} [DecidableEq κ]
def dd:List κ→List κ→List κ
 | seen,[]=>seen
 | seen,k::r=>dd (if k∈seen then seen else seen ++ [k]) r
def lblGo:List κ→List κ→List Nat
 | _,[]=>[]
 | seen,k::r=>seen.idxOf k::lblGo (if k∈seen then seen else seen ++ [k]) r
def lbl (ks:List κ):List Nat:=lblGo [] ks
end
section
variable {κ κ':Type} [DecidableEq κ] [DecidableEq κ']
end
end Go.Proofs.YtmikofeildnpdaaGreat
namespace Go.Proofs.YtmikofeildnpdaaGreat
open Go.RowKit
theorem elemSl:ElemOK Tryz.prog 39 25 (.slice none 0 0) 24:=⟨by kernel_rfl,by kernel_rfl,rfl⟩
def SrcOf (w:World) (u:Value) (news:List Value):Prop:=
 (u = .slice none 0 0∧news = [])∨∃ad c,u = .slice (some ad) news.length c∧(∀j x,news[j]? = some x→w.cell? (ad.add j)=some x)∧∀x∈news,x.oneCell'=true
theorem SrcOf.own {w:World}{B:Nat}{E:TypeId}{v:Value}{n:Nat}{vs:List Value}(h:w.ownsRow B E 1 v n vs) (h1:∀x∈vs,x.oneCell'=true):SrcOf w v vs:=by
 rcases h.2 with⟨h',hn⟩|⟨g,cap,cur,hv,hb,hg,hr⟩
 ·exact .inl ⟨h',List.length_eq_zero_iff.1 (by have:=h.1;omega)⟩
 ·have hl:vs.length=n:=by have:=h.1;omega
  refine .inr ⟨⟨g,0,none⟩,cap,by rw[hv,hl],?_,h1⟩;exact h.cells (g:=g) (by rw[hv];rfl)
theorem wpAppMany {P:Program}{T E:TypeId}{z:Value}{bytes:Nat}(hE:ElemOK P T E z bytes) (hby:bytes≤64) {w:World}
  {ops:Array Oper} {rest:List Oper} {o:Oper} {a:Act} {Q:Exit→Act→World→Prop} (hgd:o.guard=none) (s x:Operand)
  (ho:o.op = .call { callee:=.builtin .append,args:=#[s,x],argTypes:=#[T,T] })
  {B:Nat} {v:Value} {n:Nat} {xs:List Value} (hs:a.eval s=v) (hown:w.ownsRow B E 1 v n xs) {u:Value} {news:List Value} (hx:a.eval x=u) (hsrc:SrcOf w u news)
  (hn:n+news.length≤1000000000000) (hB:B≤w.heap.size)
  (h:∀v' w',w'.ownsRow B E 1 v' (n+news.length) (xs++news)→w.grownBy w' v.ownBlock→Below B w w'→wpList P ops Q rest (a.put o.dst v') w') :
  wpList P ops Q (o::rest) a w:=by
 obtain⟨i0,hi,hz0,hz1,hz2⟩:=info_parts hE.2.1;rcases hsrc with⟨rfl,rfl⟩|⟨ad,c,rfl,hc,h1⟩
 ·refine wpList_append_own_none hgd s x T ho B E i0 1 hE.1 hi v n xs hs hown hx ?_;exact h v w (by simpa using hown) (World.grownBy.refl _ _) (Below.refl _ _)
 ·refine wpList_append_own w hgd s x T ho B E i0 z 1 bytes hE.1 hi hz0 hz1 hz2 (by rw[hE.2.2];rfl) (by decide) v n xs hs hown ad news.length c news hx (by omega) hc h1 (by unfold maxLen;omega) ?_ hB fun v' w' h1 h2 _=>?_
  ·have:(n+news.length) * bytes≤1000000000000 * 64:=Nat.mul_le_mul hn hby
   omega
  ·exact h v' w' h1 h2 ((Below.refl B w).grown h2 hB (fun k hk=>(hown.lt k hk).1))
theorem OI.otherO {w w':World}{B B':Nat}{u v:Value}{n k:Nat}{xs:List Int}{vs:List Value}(h:OI w B u n xs) (ho:w.ownsRow B' 25 1 v k vs) (hg:w.grownBy w' v.ownBlock):OI w' B u n xs:=by
 refine⟨h.1,?_⟩;rcases h.2 with h'|⟨g,cap,cur,h1,h2,h3,h4⟩
 ·exact .inl h'
 ·refine .inr ⟨g,cap,cur,h1,h2,(hg.block g (Array.getElem?_eq_some_iff.1 h3).1 ?_).trans h3,h4⟩;intro e;rcases ho.2 with⟨rfl,_⟩|⟨g',cap',cur',rfl,_,h5,_⟩
  ·cases e
  ·simp only[Value.ownBlock,Option.some.injEq] at e;subst e;rw[h3] at h5;simp at h5
def OII (w:World) (B:Nat) (v:Value) (n:Nat) (xss:List (List Int)):Prop:=
 ∃vs,w.ownsRow B 25 1 v n vs∧xss.length=n∧(∀x∈vs,x.oneCell'=true)∧∀j,j < n→OI w 0 (vs.getD j undef) (xss.getD j []).length (xss.getD j [])
theorem OII.length {w:World}{B:Nat}{v:Value}{n:Nat}{xss:List (List Int)}(h:OII w B v n xss):xss.length=n:=by obtain⟨_,_,h,_⟩:=h;exact h
theorem ownsRow_keep {w w':World}{B:Nat}{E:TypeId}{v:Value}{n:Nat}{xs:List Value}(h:w.ownsRow B E 1 v n xs) (hb:Below w.heap.size w w'):w'.ownsRow B E 1 v n xs:=by
 refine⟨h.1,?_⟩;rcases h.2 with h'|⟨g,cap,cur,h1,h2,h3,h4⟩
 ·exact .inl h'
 ·exact .inr ⟨g,cap,cur,h1,h2,(hb.block g (Array.getElem?_eq_some_iff.1 h3).1).trans h3,h4⟩
theorem ownsRow_base {w:World}{B B':Nat}{E:TypeId}{v:Value}{n:Nat}{xs:List Value}(h:w.ownsRow B E 1 v n xs) (hb:B'≤B):w.ownsRow B' E 1 v n xs:=by
 refine⟨h.1,?_⟩;rcases h.2 with h'|⟨g,cap,cur,h1,h2,h3⟩
 ·exact .inl h'
 ·exact .inr ⟨g,cap,cur,h1,by omega,h3⟩
theorem OII.keep {w w':World}{B:Nat}{v:Value}{n:Nat}{xss:List (List Int)}(h:OII w B v n xss) (hb:Below w.heap.size w w'):OII w' B v n xss:=by
 obtain⟨vs,h1,h2,h4,h3⟩:=h;exact⟨vs,ownsRow_keep h1 hb,h2,h4,fun j hj=>(h3 j hj).keep hb⟩
theorem OII.base {w:World}{B B':Nat}{v:Value}{n:Nat}{xss:List (List Int)}(h:OII w B v n xss) (hb:B'≤B):OII w B' v n xss:=by
 obtain⟨vs,h1,h2⟩:=h;exact⟨vs,ownsRow_base h1 hb,h2⟩
theorem OII.nil (w:World) (B:Nat):OII w B (.slice none 0 0) 0 []:=⟨[],World.ownsRow_nil w B 25 1,rfl,by simp,by simp⟩
theorem OII.intss {w:World}{B:Nat}{v:Value}{n:Nat}{xss:List (List Int)}(h:OII w B v n xss) (hn:n≤5864062014805) (hl:∀x∈xss,x.length≤17592186044416):Intss w v xss:=by
 obtain⟨vs,h1,rfl,_,h3⟩:=h;have hvl:vs.length=xss.length:=by have:=h1.1;omega
 rcases h1.2 with⟨rfl,h'⟩|⟨g,cap,cur,rfl,h2,h4,h5,h6,h7,h8⟩
 ·obtain rfl:xss = []:=List.length_eq_zero_iff.1 h';exact⟨none,0,0,0,rfl,by simp,by intro j hj;simp at hj,by simp⟩
 ·refine⟨_,cap,g,0,rfl,fun _=>rfl,fun j hj=>⟨vs.getD j undef,?_,(h3 j hj).ints ?_⟩,hn⟩
  ·rw[Nat.zero_add,cell_of_row w g j cur 25 (0,0) h4];have:(cur.toList.take (xss.length * 1))[j]? = some (vs.getD j undef):=by rw[h8];simp[show j < vs.length by omega]
   rw[List.getElem?_take,if_pos (by omega)] at this;simpa using this
  ·rw[getD_eq hj];exact hl _ (List.getElem_mem hj)
theorem getD_append_left' {α:Type}{xs ys:List α}{j:Nat}(h:j < xs.length) (d:α):(xs++ys).getD j d=xs.getD j d:=by
 simp[List.getElem?_append_left h]
theorem getD_append_right' {α:Type}{xs ys:List α}{j:Nat}(h:xs.length≤j) (d:α):(xs++ys).getD j d=ys.getD (j - xs.length) d:=by
 simp[List.getElem?_append_right h]
theorem wpApp1S {w0:World}{u:Value}{x:List Int}{t:TypeId}{ops:Array Oper}{rest:List Oper}{o:Oper}{a:Act}{Q:Exit→Act→World→Prop}(hgd:o.guard=none) (s y:Operand)
  (ho:o.op = .call { callee:=.builtin .append,args:=#[s,y],argTypes:=#[39,39] })
  {B:Nat} {v:Value} {n:Nat} {xss:List (List Int)} (hs:a.eval s=v) (hown:OII w0 B v n xss) (hx:a.eval y = .slice (some ⟨w0.heap.size,0,none⟩) 1 1)
  (hu:OI w0 0 u x.length x) (hu1:u.oneCell'=true) (hn:n≤1000000000000) (hB:B≤w0.heap.size)
  (h:∀v' w',OII w' B v' (n+1) (xss ++ [x])→Below B w0 w'→(∀B' u' n' x',OI w0 B' u' n' x'→OI w' B' u' n' x')→wpList Tryz.prog ops Q rest (a.put o.dst v') w') :
  wpList Tryz.prog ops Q (o::rest) a (w0.alloc (.cells #[u] t)):=by
 obtain⟨vs,h1,h2,h4,h3⟩:=hown;have hvl:vs.length=n:=by have:=h1.1;omega
 refine wpApp1 elemSl (by decide) hgd s y ho hs h1 hx hu1 hn hB fun v' w' k1 k2 k3=>?_;have ki:∀B' u' n' x',OI w0 B' u' n' x'→OI w' B' u' n' x':=fun B' u' n' x' hh=>hh.otherO h1 k2;refine h v' w' ⟨vs ++ [u],k1,by simp[h2],?_,fun j hj=>?_⟩ k3 ki
 ·intro y hy;rcases List.mem_append.1 hy with hy|hy
  ·exact h4 y hy
  ·rw[List.mem_singleton.1 hy];exact hu1
 ·by_cases hjn:j < n
  ·rw[getD_append_left' (by omega),getD_append_left' (by omega)];exact ki _ _ _ _ (h3 j hjn)
  ·obtain rfl:j=n:=(by omega);rw[getD_append_right' (by omega),getD_append_right' (by omega),hvl,h2,Nat.sub_self];exact ki _ _ _ _ hu
theorem wpAppManyS {w:World}{ops:Array Oper}{rest:List Oper}{o:Oper}{a:Act}{Q:Exit→Act→World→Prop}(hgd:o.guard=none) (s y:Operand)
  (ho:o.op = .call { callee:=.builtin .append,args:=#[s,y],argTypes:=#[39,39] })
  {B B2:Nat} {v v2:Value} {n m:Nat} {xss yss:List (List Int)} (hs:a.eval s=v) (hown:OII w B v n xss) (hx:a.eval y=v2) (hsrc:OII w B2 v2 m yss)
  (hn:n+m≤1000000000000) (hB:B≤w.heap.size)
  (h:∀v' w',OII w' B v' (n+m) (xss++yss)→Below B w w'→(∀B' u' n' x',OI w B' u' n' x'→OI w' B' u' n' x')→wpList Tryz.prog ops Q rest (a.put o.dst v') w') :
  wpList Tryz.prog ops Q (o::rest) a w:=by
 obtain⟨vs,h1,h2,h4,h3⟩:=hown;obtain⟨us,g1,g2,g4,g3⟩:=hsrc;have hvl:vs.length=n:=by have:=h1.1;omega
 obtain rfl:us.length=m:=by have:=g1.1;omega
 refine wpAppMany elemSl (by decide) hgd s y ho hs h1 hx (SrcOf.own g1 g4) hn hB fun v' w' k1 k2 k3=>?_;have ki:∀B' u' n' x',OI w B' u' n' x'→OI w' B' u' n' x':=fun B' u' n' x' hh=>hh.otherO h1 k2;refine h v' w' ⟨vs++us,k1,by simp[h2,g2],?_,fun j hj=>?_⟩ k3 ki
 ·intro y hy;rcases List.mem_append.1 hy with hy|hy
  ·exact h4 y hy
  ·exact g4 y hy
 ·by_cases hjn:j < n
  ·rw[getD_append_left' (by omega),getD_append_left' (by omega)];exact ki _ _ _ _ (h3 j hjn)
  ·rw[getD_append_right' (by omega),getD_append_right' (by omega),hvl,h2];exact ki _ _ _ _ (g3 (j - n) (by omega))
theorem oneCell_slice {w:World}{B:Nat}{v:Value}{n:Nat}{xs:List Int}(h:OI w B v n xs):v.oneCell'=true:=by
 rcases h.2 with⟨rfl,_⟩|⟨g,cap,cur,rfl,_⟩<;>rfl
theorem ints_oneCell (xs:List Int):∀x∈xs.map (Value.int .i64),x.oneCell'=true:=by
 intro x hx;obtain⟨y,_,rfl⟩:=List.mem_map.1 hx;rfl
theorem wpAppManyI {w:World}{ops:Array Oper}{rest:List Oper}{o:Oper}{a:Act}{Q:Exit→Act→World→Prop}(hgd:o.guard=none) (s x:Operand)
  (ho:o.op = .call { callee:=.builtin .append,args:=#[s,x],argTypes:=#[25,25] })
  {B B2:Nat} {v v2:Value} {n m:Nat} {xs ys:List Int} (hs:a.eval s=v) (hown:OI w B v n xs) (hx:a.eval x=v2) (hsrc:OI w B2 v2 m ys)
  (hn:n+m≤1000000000000) (hB:B≤w.heap.size)
  (h:∀v' w',OI w' B v' (n+m) (xs++ys)→w.grownBy w' v.ownBlock→Below B w w'→wpList Tryz.prog ops Q rest (a.put o.dst v') w') :
  wpList Tryz.prog ops Q (o::rest) a w:=by
 obtain rfl:=hsrc.length;refine wpAppMany elemInt (by decide) hgd s x ho hs hown hx (SrcOf.own hsrc (ints_oneCell ys)) (by simpa using hn) hB fun v' w' k1 k2 k3=>h v' w' ?_ k2 k3;unfold OI;rw[List.map_append];simpa using k1
end Go.Proofs.YtmikofeildnpdaaGreat

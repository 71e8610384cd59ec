/- Texts of this claim, put together: Lib Rl Own KL OX It. -/
import Derived.Test.YtcnedkkcgdkioaaGreatProg
import Derived.WalkKit
import Derived.WalkSpells
import Derived.WalkLawsBesides
import Derived.Deep.QuietTactic
import Derived.BigQuiet
import Derived.Lib.Hide
import Derived.ProofKit
import Derived.OpenShut
import Derived.Deep.DeepHandedRow
import Derived.Deep.Slices
import Derived.SizedLaws
import Derived.WideKeyArgs
import Derived.OpenVars
import Derived.ChangeCalls
import Derived.Maps.AppendAt
import Derived.Laws.AppendOwnNone
import Derived.RangeFuncNested
import Derived.RangeFuncBound
import Derived.RangeFuncCalls
import Derived.RangeFuncLeaves

set_option maxRecDepth 100000
set_option maxHeartbeats 12800000
namespace Go.Proofs.YtcnedkkcgdkioaaGreat
open Go.RowKit
abbrev Jb:=List (List Int)
abbrev Jc:=List Jb
def Qt (w w':World):Prop:=∃n,w'=w.drewN n
theorem Qt.refl (w:World):Qt w w:=⟨0,rfl⟩
theorem Qt.mk' (w:World) (n:Nat):Qt w (w.drewN n):=⟨n,rfl⟩
theorem Qt.trans {a b c:World}(h:Qt a b) (k:Qt b c):Qt a c:=by
 obtain⟨n,rfl⟩:=h;obtain⟨m,rfl⟩:=k;exact⟨n+m,by simp⟩
theorem Qt.below {a b:World}(h:Qt a b):Below a.heap.size a b:=by
 obtain⟨n,rfl⟩:=h;exact below_drewN (Below.refl _ _) n
theorem bt {a b c:World}{B:Nat}(h:Below B a b) (k:Below b.heap.size b c) (hB:B<=b.heap.size):Below B a c:=h.trans (k.mono hB)
theorem btt {a b c:World}(h:Below a.heap.size a b) (k:Below b.heap.size b c):Below a.heap.size a c:=h.trans (k.mono h.size)
theorem cell_kept {w w':World}(h:Below w.heap.size w w') {p:Addr}{v:Value}(hc:w.cell? p=some v):w'.cell? p=some v:=
 (h.cell (World.block_lt_of_cell? w p hc)).trans hc
def CI (w:World) (b off:Nat) (xs:List Int):Prop:=∀j,j < xs.length->w.cell? ⟨b,off+j,none⟩=some (.int .i64 (xs.getD j 0))
theorem CI.keep {w w':World}{b off:Nat}{xs:List Int}(h:CI w b off xs) (hb:Below w.heap.size w w'):CI w' b off xs:=fun j hj=>cell_kept hb (h j hj)
def Ints (w:World) (v:Value) (xs:List Int):Prop:=
 ∃a c b off,v = .slice a xs.length c/\(0 < xs.length->a=some ⟨b,off,none⟩)/\CI w b off xs/\xs.length<=17592186044416
theorem Ints.keep {w w':World}{v:Value}{xs:List Int}(h:Ints w v xs) (hb:Below w.heap.size w w'):Ints w' v xs:=by
 obtain⟨a,c,b,off,hv,ha,hc,hl⟩:=h;exact⟨a,c,b,off,hv,ha,hc.keep hb,hl⟩
theorem Ints.nil (w:World) (a:Option Addr) (c:Nat):Ints w (.slice a 0 c) []:=⟨a,c,0,0,rfl,by simp,by intro j hj;simp at hj,by simp⟩
def CII (w:World) (b off:Nat) (xs:Jb):Prop:=∀j,j < xs.length->∃u,w.cell? ⟨b,off+j,none⟩=some u/\Ints w u (xs.getD j [])
theorem CII.keep {w w':World}{b off:Nat}{xs:Jb}(h:CII w b off xs) (hb:Below w.heap.size w w'):CII w' b off xs:=
 fun j hj=>let ⟨u,h1,h2⟩:=h j hj;⟨u,cell_kept hb h1,h2.keep hb⟩
def Intss (w:World) (v:Value) (xs:Jb):Prop:=
 ∃a c b off,v = .slice a xs.length c/\(0 < xs.length->a=some ⟨b,off,none⟩)/\CII w b off xs/\xs.length<=5864062014805
theorem Intss.keep {w w':World}{v:Value}{xs:Jb}(h:Intss w v xs) (hb:Below w.heap.size w w'):Intss w' v xs:=by
 obtain⟨a,c,b,off,hv,ha,hc,hl⟩:=h;exact⟨a,c,b,off,hv,ha,hc.keep hb,hl⟩
theorem getD_eq {α:Type}{xs:List α}{k:Nat}(h:k < xs.length) (d:α):xs.getD k d=xs[k]:=by simp[h]
theorem take_snoc {α:Type}{xs:List α}{k:Nat}(h:k < xs.length) (d:α):xs.take (k+1)=xs.take k ++ [xs.getD k d]:=by
 rw[List.take_succ_eq_append_getElem h,getD_eq h]
theorem drop_cons {α:Type}{xs:List α}{k:Nat}(h:k < xs.length) (d:α):xs.drop k=xs.getD k d::xs.drop (k+1):=by
 rw[getD_eq h,List.drop_eq_getElem_cons h]
theorem ret_bool {a b:Bool}(h:a=b):Ending.returned (.bool a) = .returned (.bool b):=by rw[h]
theorem ret_int {k:IntKind}{a b:Int}(h:a=b):Ending.returned (.int k a) = .returned (.int k b):=by rw[h]
theorem exE {α : Sort _}(e : α) : ∃x,e = x:=⟨e,rfl⟩
theorem exF {α : Sort _}(e : α) : ∃x,x = e:=⟨e,rfl⟩
theorem qH {p : Prop}(h : p) : Hid p:=h
end Go.Proofs.YtcnedkkcgdkioaaGreat
namespace Go.Proofs.YtcnedkkcgdkioaaGreat
open Go.RowKit Go.ChangeShapes Go.WideShapes Go.ChangeAt Go.Deep Go.WideElems
section
variable {H:Type} {enc:TypeId × Value->H} {P:Program}
theorem trodAll_stays (hl:laidOutB P=true) {W W':World}{sp':Nat->Bool}:∀ {ts:List TypeId}{vs:List Value}{ds:List (DataW H)}{ps:List MemPlace},
  (∀t∈ts,P.readableRec t=true/\t < P.types.size)->DataW.TrodAll enc P W 0 (fun _=>true) true ts vs ds ps->(∀p∈ps,W.sameAt W' p)->(∀p∈ps,sp' p.block=true)->DataW.TrodAll enc P W' 0 sp' true ts vs ds ps
 | [],[],[],_,_,h,_,_=>h
 | [],[],_::_,_,_,h,_,_=>h.elim
 | [],_::_,_,_,_,h,_,_=>h.elim
 | _::_,[],_,_,_,h,_,_=>h.elim
 | _::_,_::_,[],_,_,h,_,_=>h.elim
 | t::ts,v::vs,d::ds,ps,hr,h,hsame,hs=>by
  obtain⟨p,q,h1,h2,rfl⟩:=h;have ht:=hr t (by simp)
  exact⟨p,q,Trod_stays hl ht.1 ht.2 h1 (fun x hx=>hsame x (by simp[hx])) (fun x hx=>hs x (by simp[hx])),
   trodAll_stays hl (fun t ht=>hr t (by simp[ht])) h2 (fun x hx=>hsame x (by simp[hx])) (fun x hx=>hs x (by simp[hx])),rfl⟩
theorem law_post {f:Func}{s:ChangeSpec}{W W':World}{args:Array Value}{ds gs:List (DataW H)}{before:List MemPlace}(hl:laidOutB P=true) (tb:TypeId) (htb:P.underlying tb=some .bool) (hrt:f.resultTypes = #[tb]) (hv:s.vars = [])
  (hr:f.params.toList.all (fun t=>P.readableRec t && decide (t < P.types.size))=true)
  (hs:∀ds:List (DataW H),ds.length=f.params.size->s.fn H ds = { results:=[.lit (.bool true)],args:=ds })
  (hW:DataW.Whole enc P f.params.toList s.vars false W args.toList ds gs before) (hb:Below W.heap.size W W') :
  s.post enc P f false true false false W args (.bool true) W':=by
 have hlt:∀p∈before,p.block < W.heap.size:=fun p hp=>hW.lt p hp;have hold:∀p∈before,(fun b=>decide (b < W.heap.size)) p.block=true:=fun p hp=>by simpa using hlt p hp
 have hW0:=hW;obtain⟨p,q,hA,hV,hpq,hz,hn⟩:=hW
 have hg:gs = []/\q = []:=by
  rw[hv] at hV;cases gs with
  | nil=>exact⟨rfl,hV⟩
  | cons=>exact hV.elim
 obtain⟨rfl,rfl⟩:=hg;rw[List.append_nil] at hpq;subst hpq
 have hdl:ds.length=f.params.size:=by
  have:=(Go.trodAll_length hA).2
  simpa using this
 have hfn:=hs (ds ++ []) (by simpa using hdl);rw[List.append_nil] at hfn
 have hr':∀t∈f.params.toList,P.readableRec t=true/\t < P.types.size:=fun t ht=>by
  have:=List.all_eq_true.1 hr t ht
  simpa using this
 have hres:∀(b:Nat) (sp:Nat->Bool) (hd:Bool),DataW.TrodAll enc P W' b sp hd [tb] [.bool true] [.lit (.bool true)] []:=fun b sp hd=>trodAll_cons_mk (shut_bool htb _) trodAll_mk0
 have hargs:∀sp:Nat->Bool,(∀x∈before,sp x.block=true)->DataW.TrodAll enc P W' 0 sp true f.params.toList args.toList ds before:=fun sp hsp=>
  trodAll_stays hl hr' hA (fun x hx=>hb.same (hlt x hx)) hsp
 refine⟨ds,[],before,[],before,[],hW0,?_,?_,?_,?_,fun h=>by cases h⟩
 ·rw[hrt,List.append_nil,hfn];exact hres _ _ _
 ·rw[List.append_nil,hfn];exact hargs _ hold
 ·rw[List.append_nil,hfn,hv];exact rfl
 ·exact World.keptBut_mono (fun x hx=>⟨hx,.inr (.inl hx)⟩) (hb.frame (· ∈ before))
theorem addr_spot {w:World}{a:Addr}{v:Value}(h:w.cell? a=some v):a=⟨a.block,a.off,none⟩:=by
 unfold World.cell? at h;split at h
 ·split at h
  ·cases h
  ·rename_i hs
   cases a with
   | mk b o s=>
    cases s with
    | none=>rfl
    | some x=>simp at hs
 ·cases h
theorem ints_of_trod {w:World}{t e:TypeId}{v:Value}{d:DataW H}{ps:List MemPlace}(ht:P.underlying t=some (.slice e)) (he:P.underlying e=some (.int .i64)) (hc:P.cellsOf e=1) (hby:P.bytesOf e=8)
  {fuel:Nat} (h:DataW.trod enc P w 0 (fun _=>true) true fuel t [v]=some (d,ps)) (hw:∀n∈d.weights P t,n<=reachBytes):∃xs,Ints w v xs:=by
 rcases open_slice1 ht hc h with⟨h1,h2⟩|⟨a,len,cap,m,n,V,D,Pl,h1,_,hl,hm,hmm,h2,hx⟩
 ·obtain rfl:v = .slice none 0 0:=by simpa using h1
  exact⟨[],Ints.nil _ _ _⟩
 ·obtain rfl:v = .slice (some a) len cap:=by simpa using h1
  simp only[if_true] at hmm;subst hmm;obtain⟨rfl,_⟩:=Prod.mk.injEq ..▸h2;have hsz:=hw ((len+(m - len)) * 8) (by simp[DataW.weights,ht,hby]);unfold reachBytes at hsz
  have hxs:∀i,i < len->∃k,w.cell? (a.add i)=some (.int .i64 k):=fun i hi=>by
   obtain⟨g1,g2⟩:=hx i (by omega);obtain⟨k,hk,_⟩:=DataW.trod_int he g2;obtain hk:V i = .int .i64 k:=(by simpa using hk);exact⟨k,by rw[g1,hk]⟩
  have hlen:len<=17592186044416:=by omega
  refine⟨(List.range len).map (fun i=>match w.cell? (a.add i) with|some (.int _ k)=>k|_=>0),some a,m,a.block,a.off,by simp,fun h0=>?_,fun j hj=>?_,by simpa using hlen⟩
  ·obtain⟨k,hk⟩:=hxs 0 (by simpa using h0);rw[show a.add 0=a by simp[Addr.add]] at hk;rw[<-addr_spot hk]
  ·have hj':j < len:=(by simpa using hj);obtain⟨k0,hk0⟩:=hxs 0 (by omega);rw[show a.add 0=a by simp[Addr.add]] at hk0;obtain⟨k,hk⟩:=hxs j hj'
   have e:a.add j=⟨a.block,a.off+j,none⟩:=by
    have:=addr_spot hk0
    rw[this];exact add_plain _ _ _
   rw[<-e,hk];simp[hj',hk]
theorem intss_of_trod {w:World}{t e q:TypeId}{v:Value}{d:DataW H}{ps:List MemPlace}(ht:P.underlying t=some (.slice e)) (he:P.underlying e=some (.slice q)) (hq:P.underlying q=some (.int .i64)) (hc:P.cellsOf e=1) (hby:P.bytesOf e=24) (hcq:P.cellsOf q=1) (hbq:P.bytesOf q=8)
  {fuel:Nat} (h:DataW.trod enc P w 0 (fun _=>true) true fuel t [v]=some (d,ps)) (hw:∀n∈d.weights P t,n<=reachBytes):∃xs,Intss w v xs:=by
 rcases open_slice1 ht hc h with⟨h1,h2⟩|⟨a,len,cap,m,n,V,D,Pl,h1,_,hl,hm,hmm,h2,hx⟩
 ·obtain rfl:v = .slice none 0 0:=by simpa using h1
  exact⟨[],none,0,0,0,rfl,by simp,by intro j hj;simp at hj,by simp⟩
 ·obtain rfl:v = .slice (some a) len cap:=by simpa using h1
  simp only[if_true] at hmm;subst hmm;obtain⟨rfl,_⟩:=Prod.mk.injEq ..▸h2;have hsz:=hw ((len+(m - len)) * 24) (by simp[DataW.weights,ht,hby]);unfold reachBytes at hsz
  have hxs:∀i,i < len->∃xs,Ints w (V i) xs:=fun i hi=>by
   obtain⟨g1,g2⟩:=hx i (by omega);refine ints_of_trod he hq hcq hbq g2 fun n hn=>hw n ?_;simp only[DataW.weights,ht,List.mem_cons,List.mem_append];right;left
   have:∀ {l:List (DataW H)} {x:DataW H},x∈l->∀n∈x.weights P e,n∈DataW.weightsAll P e l:=by
    intro l;induction l with
    | nil=>intro x hx;cases hx
    | cons y r ih=>
     intro x hx n hn;simp only[DataW.weightsAll,List.mem_append];rcases List.mem_cons.1 hx with rfl|hx
     ·exact .inl hn
     ·exact .inr (ih hx n hn)
   exact this (List.mem_map_of_mem (List.mem_range.2 hi)) n hn
  have hlen:len<=5864062014805:=by omega
  obtain⟨X,hX⟩:∃X:Nat->List Int,∀i,i < len->Ints w (V i) (X i):=⟨fun i=>if h:i < len then (hxs i h).choose else [],fun i hi=>by simp only[hi,dif_pos];exact(hxs i hi).choose_spec⟩;refine⟨(List.range len).map X,some a,m,a.block,a.off,by simp,fun h0=>?_,fun j hj=>?_,by simpa using hlen⟩
  ·have hk:=(hx 0 (by have:0 < len:=(by simpa using h0);omega)).1;rw[show a.add 0=a by simp[Addr.add]] at hk;rw[<-addr_spot hk]
  ·have hj':j < len:=(by simpa using hj);have hk0:=(hx 0 (by omega)).1;rw[show a.add 0=a by simp[Addr.add]] at hk0
   have e1:a.add j=⟨a.block,a.off+j,none⟩:=by
    rw[addr_spot hk0];exact add_plain _ _ _
   refine⟨V j,by rw[<-e1];exact(hx j (by omega)).1,?_⟩;have:((List.range len).map X).getD j []=X j:=by simp[hj']
   rw[this];exact hX j hj'
end
end Go.Proofs.YtcnedkkcgdkioaaGreat
namespace Go.Proofs.YtcnedkkcgdkioaaGreat
open Go.RowKit
def ElemOK (P:Program) (T E:TypeId) (z:Value) (bytes:Nat):Prop:=
 P.underlying T=some (.slice E)/\(P.info? E).map (fun i=>(i.zero,i.size,i.bytes))=some (some z,1,bytes)/\z.cells = #[z]
theorem elemInt:ElemOK Tryz.prog 48 3 (.int .i64 0) 8:=⟨by kernel_rfl,by kernel_rfl,rfl⟩
theorem grownBy_alloc_trans {w w':World}{o:Obj}{row:Option Nat}(h:(w.alloc o).grownBy w' row):w.grownBy w' row:=
 (World.grownBy_alloc w o row).trans h
theorem wpApp1 {P:Program}{T E:TypeId}{z:Value}{bytes:Nat}(hE:ElemOK P T E z bytes) (hby:bytes<=64) {w0:World}{y:Value}{t:TypeId}
  {ops:Array Oper} {rest:List Oper} {o:Oper} {a:Act} {Q:Exit->Act->World->Prop} (hgd:o.guard=none) (s x:Operand)
  (ho:o.op = .call { callee:=.builtin .append,args:=#[s,x],argTypes:=#[T,T] })
  {B:Nat} {v:Value} {n:Nat} {xs:List Value} (hs:a.eval s=v) (hown:w0.ownsRow B E 1 v n xs) (hx:a.eval x = .slice (some ⟨w0.heap.size,0,none⟩) 1 1)
  (hy:y.oneCell'=true) (hn:n<=1000000000000) (hB:B<=w0.heap.size)
  (h:∀v' w',w'.ownsRow B E 1 v' (n+1) (xs ++ [y])->w0.grownBy w' v.ownBlock->Below B w0 w'->wpList P ops Q rest (a.put o.dst v') w') :
  wpList P ops Q (o::rest) a (w0.alloc (.cells #[y] t)):=by
 obtain⟨i0,hi,hz0,hz1,hz2⟩:=info_parts hE.2.1;refine wpList_append_own (w0.alloc (.cells #[y] t)) hgd s x T ho B E i0 z 1 bytes hE.1 hi hz0 hz1 hz2 (by rw[hE.2.2];rfl) (by decide) v n xs hs (hown.alloc _) ⟨w0.heap.size,0,none⟩ 1 1 [y] hx rfl (cell_one_new _ _ _) (by simpa using hy) (by unfold maxLen;omega) ?_ (by simp;omega) fun v' w' h1 h2 _=>?_
 ·have:(n+1) * bytes<=1000000000001 * 64:=Nat.mul_le_mul (by omega) hby
  omega
 ·refine h v' w' h1 (grownBy_alloc_trans h2) ?_;exact((Below.refl B w0).alloc hB _).grown h2 (by simp;omega) (fun k hk=>(hown.lt k hk).1)
theorem wpMake {P:Program}{T E:TypeId}{z:Value}{bytes:Nat}(hE:ElemOK P T E z bytes) (hby:bytes<=64) {w:World}
  {ops:Array Oper} {rest:List Oper} {o:Oper} {a:Act} {Q:Exit->Act->World->Prop} (hgd:o.guard=none) (l c:Operand)
  (ho:o.op = .makeSlice T l c) (n:Nat) (hl:a.eval l = .int .i64 (n:Int)) (hc:a.eval c = .int .i64 (n:Int)) (hn:n<=1000000000000) {B:Nat} (hB:B<=w.heap.size)
  (h:∀w',w'.ownsRow B E 1 (.slice (some ⟨w.heap.size,0,none⟩) n n) n (List.replicate n z)->w.grownBy w' none->Below w.heap.size w w'->wpList P ops Q rest (a.put o.dst (.slice (some ⟨w.heap.size,0,none⟩) n n)) w') :
  wpList P ops Q (o::rest) a w:=by
 obtain⟨i0,hi,hz0,hz1,hz2⟩:=info_parts hE.2.1;have hmul:bytes * n<=64 * 1000000000000:=Nat.mul_le_mul hby hn;refine wpList_make_full w hgd l c T ho B E i0 z 1 hE.1 hi hz0 hz1 .i64 .i64 _ _ n hl hc rfl rfl (by rw[hz2];omega) (by unfold maxLen;omega) hB fun w' h1 h2=>?_;rw[hE.2.2,Nat.mul_one,toList_madeCells_one] at h1;exact h w' h1 h2 ((Below.refl w.heap.size w).grown h2 (Nat.le_refl _) (fun k hk=>by cases hk))
def OI (w:World) (B:Nat) (v:Value) (n:Nat) (xs:List Int):Prop:=w.ownsRow B 3 1 v n (xs.map (Value.int .i64))
theorem OI.length {w:World}{B:Nat}{v:Value}{n:Nat}{xs:List Int}(h:OI w B v n xs):xs.length=n:=by have:=h.1;simpa using this
theorem OI.keep {w w':World}{B:Nat}{v:Value}{n:Nat}{xs:List Int}(h:OI w B v n xs) (hb:Below w.heap.size w w'):OI w' B v n xs:=by
 refine⟨h.1,?_⟩;rcases h.2 with h'|⟨g,cap,cur,h1,h2,h3,h4⟩
 ·exact .inl h'
 ·exact .inr ⟨g,cap,cur,h1,h2,(hb.block g (Array.getElem?_eq_some_iff.1 h3).1).trans h3,h4⟩
theorem OI.base {w:World}{B B':Nat}{v:Value}{n:Nat}{xs:List Int}(h:OI w B v n xs) (hb:B'<=B):OI w B' v n xs:=by
 refine⟨h.1,?_⟩;rcases h.2 with h'|⟨g,cap,cur,h1,h2,h3⟩
 ·exact .inl h'
 ·exact .inr ⟨g,cap,cur,h1,by omega,h3⟩
theorem OI.shape {w:World}{B:Nat}{v:Value}{n:Nat}{xs:List Int}(h:OI w B v n xs):∃a c,v = .slice a n c:=by
 rcases h.2 with⟨rfl,rfl⟩|⟨g,cap,cur,rfl,_⟩
 ·exact⟨_,_,rfl⟩
 ·exact⟨_,_,rfl⟩
theorem OI.nil (w:World) (B:Nat):OI w B (.slice none 0 0) 0 []:=World.ownsRow_nil w B 3 1
theorem OI.store {w:World}{B g n cap:Nat}{xs:List Int}(h:OI w B (.slice (some ⟨g,0,none⟩) n cap) n xs) (j:Nat) (y:Int) :
  OI (w.setCell ⟨g,j,none⟩ (.int .i64 y)) B (.slice (some ⟨g,0,none⟩) n cap) n (xs.set j y)/\w.grownBy (w.setCell ⟨g,j,none⟩ (.int .i64 y)) (some g):=by
 have:=World.ownsRow.stored h j (.int .i64 y)
 unfold OI;rw[List.map_set];exact this
theorem OI.cell {w:World}{B g n cap:Nat}{xs:List Int}(h:OI w B (.slice (some ⟨g,0,none⟩) n cap) n xs) {j:Nat}(hj:j < n):w.cell? ⟨g,j,none⟩=some (.int .i64 (xs.getD j 0)):=by
 have hl:=h.length;rw[World.ownsRow.cellAt h j (by omega)];simp[show j < xs.length by omega]
theorem OI.free {w:World}{B g n cap:Nat}{xs:List Int}(h:OI w B (.slice (some ⟨g,0,none⟩) n cap) n xs) (j:Nat):w.frozen? ⟨g,j,none⟩=false:=World.ownsRow.frozenAt h j
theorem wpAppI {w0:World}{y:Int}{t:TypeId}{ops:Array Oper}{rest:List Oper}{o:Oper}{a:Act}{Q:Exit->Act->World->Prop}(hgd:o.guard=none) (s x:Operand)
  (ho:o.op = .call { callee:=.builtin .append,args:=#[s,x],argTypes:=#[48,48] })
  {B:Nat} {v:Value} {n:Nat} {xs:List Int} (hs:a.eval s=v) (hown:OI w0 B v n xs) (hx:a.eval x = .slice (some ⟨w0.heap.size,0,none⟩) 1 1)
  (hn:n<=1000000000000) (hB:B<=w0.heap.size)
  (h:∀v' w',OI w' B v' (n+1) (xs ++ [y])->w0.grownBy w' v.ownBlock->Below B w0 w'->wpList Tryz.prog ops Q rest (a.put o.dst v') w') :
  wpList Tryz.prog ops Q (o::rest) a (w0.alloc (.cells #[.int .i64 y] t)):=
 wpApp1 elemInt (by decide) hgd s x ho hs hown hx rfl hn hB fun v' w' h1 h2 h3=>h v' w' (by unfold OI;rw[List.map_append];exact h1) h2 h3
theorem wpMakeI {w:World}{ops:Array Oper}{rest:List Oper}{o:Oper}{a:Act}{Q:Exit->Act->World->Prop}(hgd:o.guard=none) (l c:Operand)
  (ho:o.op = .makeSlice 48 l c) (n:Nat) (hl:a.eval l = .int .i64 (n:Int)) (hc:a.eval c = .int .i64 (n:Int)) (hn:n<=1000000000000) {B:Nat} (hB:B<=w.heap.size)
  (h:∀w',OI w' B (.slice (some ⟨w.heap.size,0,none⟩) n n) n (List.replicate n 0)->w.grownBy w' none->Below w.heap.size w w'->wpList Tryz.prog ops Q rest (a.put o.dst (.slice (some ⟨w.heap.size,0,none⟩) n n)) w') :
  wpList Tryz.prog ops Q (o::rest) a w:=
 wpMake elemInt (by decide) hgd l c ho n hl hc hn hB fun w' h1 h2 h3=>h w' (by unfold OI;rw[List.map_replicate];exact h1) h2 h3
def CK (k:Nat) (w:World) (b off:Nat) (xs:Jb):Prop:=∀j,j < xs.length->(xs.getD j []).length=k/\CI w b (off+j * k) (xs.getD j [])
theorem CK.keep {k:Nat}{w w':World}{b off:Nat}{xs:Jb}(h:CK k w b off xs) (hb:Below w.heap.size w w'):CK k w' b off xs:=
 fun j hj=>⟨(h j hj).1,(h j hj).2.keep hb⟩
def KS (k:Nat) (w:World) (v:Value) (xs:Jb):Prop:=
 ∃a c b off,v = .slice a xs.length c/\(0 < xs.length->a=some ⟨b,off,none⟩)/\CK k w b off xs/\xs.length<=2199023255552
theorem KS.keep {k:Nat}{w w':World}{v:Value}{xs:Jb}(h:KS k w v xs) (hb:Below w.heap.size w w'):KS k w' v xs:=by
 obtain⟨a,c,b,off,hv,ha,hc,hl⟩:=h;exact⟨a,c,b,off,hv,ha,hc.keep hb,hl⟩
theorem KS.shape {k:Nat}{w:World}{v:Value}{xs:Jb}(h:KS k w v xs):∃a c,v = .slice a xs.length c:=by
 obtain⟨a,c,_,_,hv,_⟩:=h;exact⟨a,c,hv⟩
theorem KS.nil (k:Nat) (w:World) (a:Option Addr) (c:Nat):KS k w (.slice a 0 c) []:=⟨a,c,0,0,rfl,by simp,by intro j hj;simp at hj,by simp⟩
def CKK (k:Nat) (w:World) (b off:Nat) (xs:Jc):Prop:=∀j,j < xs.length->∃u,w.cell? ⟨b,off+j,none⟩=some u/\KS k w u (xs.getD j [])
theorem CKK.keep {k:Nat}{w w':World}{b off:Nat}{xs:Jc}(h:CKK k w b off xs) (hb:Below w.heap.size w w'):CKK k w' b off xs:=
 fun j hj=>let ⟨u,h1,h2⟩:=h j hj;⟨u,cell_kept hb h1,h2.keep hb⟩
def KSS (k:Nat) (w:World) (v:Value) (xs:Jc):Prop:=
 ∃a c b off,v = .slice a xs.length c/\(0 < xs.length->a=some ⟨b,off,none⟩)/\CKK k w b off xs/\xs.length<=5864062014805
theorem KSS.keep {k:Nat}{w w':World}{v:Value}{xs:Jc}(h:KSS k w v xs) (hb:Below w.heap.size w w'):KSS k w' v xs:=by
 obtain⟨a,c,b,off,hv,ha,hc,hl⟩:=h;exact⟨a,c,b,off,hv,ha,hc.keep hb,hl⟩
theorem KSS.shape {k:Nat}{w:World}{v:Value}{xs:Jc}(h:KSS k w v xs):∃a c,v = .slice a xs.length c:=by
 obtain⟨a,c,_,_,hv,_⟩:=h;exact⟨a,c,hv⟩
theorem eight {x:List Int}(h:x.length=8):∃a b c d e f g i,x = [a,b,c,d,e,f,g,i]:=by
 match x,h with
 | [a,b,c,d,e,f,g,i],_=>exact⟨a,b,c,d,e,f,g,i,rfl⟩
theorem seven {x:List Int}(h:x.length=7):∃a b c d e f g,x = [a,b,c,d,e,f,g]:=by
 match x,h with
 | [a,b,c,d,e,f,g],_=>exact⟨a,b,c,d,e,f,g,rfl⟩
theorem six {x:List Int}(h:x.length=6):∃a b c d e f,x = [a,b,c,d,e,f]:=by
 match x,h with
 | [a,b,c,d,e,f],_=>exact⟨a,b,c,d,e,f,rfl⟩
theorem CI.all8 {w:World}{b o:Nat}{x0 x1 x2 x3 x4 x5 x6 x7:Int}(h:CI w b o [x0,x1,x2,x3,x4,x5,x6,x7]) :
  w.cell? ⟨b,o,none⟩=some (.int .i64 x0)/\w.cell? ⟨b,o+1,none⟩=some (.int .i64 x1)/\w.cell? ⟨b,o+2,none⟩=some (.int .i64 x2)/\w.cell? ⟨b,o+3,none⟩=some (.int .i64 x3)/\
  w.cell? ⟨b,o+4,none⟩=some (.int .i64 x4)/\w.cell? ⟨b,o+5,none⟩=some (.int .i64 x5)/\w.cell? ⟨b,o+6,none⟩=some (.int .i64 x6)/\w.cell? ⟨b,o+7,none⟩=some (.int .i64 x7):=
 ⟨h 0 (by simp),h 1 (by simp),h 2 (by simp),h 3 (by simp),h 4 (by simp),h 5 (by simp),h 6 (by simp),h 7 (by simp)⟩
theorem CI.all7 {w:World}{b o:Nat}{x0 x1 x2 x3 x4 x5 x6:Int}(h:CI w b o [x0,x1,x2,x3,x4,x5,x6]) :
  w.cell? ⟨b,o,none⟩=some (.int .i64 x0)/\w.cell? ⟨b,o+1,none⟩=some (.int .i64 x1)/\w.cell? ⟨b,o+2,none⟩=some (.int .i64 x2)/\w.cell? ⟨b,o+3,none⟩=some (.int .i64 x3)/\
  w.cell? ⟨b,o+4,none⟩=some (.int .i64 x4)/\w.cell? ⟨b,o+5,none⟩=some (.int .i64 x5)/\w.cell? ⟨b,o+6,none⟩=some (.int .i64 x6):=
 ⟨h 0 (by simp),h 1 (by simp),h 2 (by simp),h 3 (by simp),h 4 (by simp),h 5 (by simp),h 6 (by simp)⟩
end Go.Proofs.YtcnedkkcgdkioaaGreat
namespace Go.Proofs.YtcnedkkcgdkioaaGreat
open Go.RowKit
def KeepX (E:TypeId) (w w':World):Prop:=∀(k:Nat) (cs:Array Value) (t:TypeId),w.heap[k]? = some (.cells cs t)->t ≠ E->w'.heap[k]? = w.heap[k]?
theorem KeepX.below {E:TypeId}{w w':World}(h:Below w.heap.size w w'):KeepX E w w':=fun k _ _ hk _=>h.block k (Array.getElem?_eq_some_iff.1 hk).1
theorem KeepX.refl (E:TypeId) (w:World):KeepX E w w:=fun _ _ _ _ _=>rfl
theorem KeepX.trans {E:TypeId}{a b c:World}(h:KeepX E a b) (g:KeepX E b c):KeepX E a c:=fun k cs t hk ht=>by
 have:=h k cs t hk ht
 rw[hk] at this;exact(g k cs t this ht).trans (this.trans hk.symm)
theorem KeepX.grown {E:TypeId}{w w':World}{row:Option Nat}(h:w.grownBy w' row) (hr:∀g,row=some g->∃cs,w.heap[g]? = some (.cells cs E)):KeepX E w w':=fun k cs t hk ht=>by
 refine h.block k (Array.getElem?_eq_some_iff.1 hk).1 fun e=>?_;obtain⟨cs',hg⟩:=hr k e.symm;rw[hk] at hg;simp at hg
 exact ht hg.2
theorem ownsRow_ty {w:World}{B:Nat}{E:TypeId}{k:Nat}{v:Value}{n:Nat}{xs:List Value}(h:w.ownsRow B E k v n xs):∀g,v.ownBlock=some g->∃cs,w.heap[g]? = some (.cells cs E):=by
 intro g hg;rcases h.2 with⟨rfl,_⟩|⟨g',cap,cur,rfl,_,h3,_⟩
 ·cases hg
 ·simp only[Value.ownBlock,Option.some.injEq] at hg;subst hg;exact⟨_,h3⟩
theorem KeepX.own {E:TypeId}{w w':World}{B k:Nat}{v:Value}{n:Nat}{xs:List Value}(h:w.ownsRow B E k v n xs) (hg:w.grownBy w' v.ownBlock):KeepX E w w':=KeepX.grown hg (ownsRow_ty h)
theorem ownsRow_X {E E':TypeId}{w w':World}{B k:Nat}{v:Value}{n:Nat}{xs:List Value}(h:w.ownsRow B E k v n xs) (hne:E ≠ E') (hx:KeepX E' w w'):w'.ownsRow B E k v n xs:=by
 refine⟨h.1,?_⟩;rcases h.2 with h'|⟨g,cap,cur,h1,h2,h3,h4⟩
 ·exact .inl h'
 ·exact .inr ⟨g,cap,cur,h1,h2,(hx g cur E h3 hne).trans h3,h4⟩
section
variable {α:Type}
def OwX (E:TypeId) (k:Nat) (El:World->List Value->α->Prop) (w:World) (B:Nat) (v:Value) (n:Nat) (xs:List α):Prop:=
 ∃vs,w.ownsRow B E k v n vs/\xs.length=n/\(∀u∈vs,u.oneCell'=true)/\∀j x,xs[j]? = some x->El w ((vs.drop (j * k)).take k) x
def Stab (E:TypeId) (El:World->List Value->α->Prop):Prop:=∀w w' cs x,El w cs x->KeepX E w w'->El w' cs x
variable {E:TypeId} {k:Nat} {El:World->List Value->α->Prop} {w w':World} {B n:Nat} {v:Value} {xs:List α}
theorem OwX.length (h:OwX E k El w B v n xs):xs.length=n:=by obtain⟨_,_,h,_⟩:=h;exact h
theorem OwX.keep (hS:Stab E El) (h:OwX E k El w B v n xs) (hb:Below w.heap.size w w'):OwX E k El w' B v n xs:=by
 obtain⟨vs,h1,h2,h3,h4⟩:=h;refine⟨vs,⟨h1.1,?_⟩,h2,h3,fun j x hj=>hS _ _ _ _ (h4 j x hj) (KeepX.below hb)⟩;rcases h1.2 with h'|⟨g,cap,cur,k1,k2,k3,k4⟩
 ·exact .inl h'
 ·exact .inr ⟨g,cap,cur,k1,k2,(hb.block g (Array.getElem?_eq_some_iff.1 k3).1).trans k3,k4⟩
theorem OwX.base {B':Nat}(h:OwX E k El w B v n xs) (hb:B'<=B):OwX E k El w B' v n xs:=by
 obtain⟨vs,⟨h0,h1⟩,h2⟩:=h;refine⟨vs,⟨h0,?_⟩,h2⟩;rcases h1 with h'|⟨g,cap,cur,k1,k2,k3⟩
 ·exact .inl h'
 ·exact .inr ⟨g,cap,cur,k1,by omega,k3⟩
theorem OwX.shape (h:OwX E k El w B v n xs):∃a c,v = .slice a n c:=by
 obtain⟨vs,h1,_⟩:=h;rcases h1.2 with⟨rfl,rfl⟩|⟨g,cap,cur,rfl,_⟩
 ·exact⟨_,_,rfl⟩
 ·exact⟨_,_,rfl⟩
theorem OwX.nil (w:World) (B:Nat):OwX E k El w B (.slice none 0 0) 0 []:=⟨[],World.ownsRow_nil w B E k,rfl,by simp,by simp⟩
theorem OwX.other {E':TypeId}(hS:Stab E' El) (h:OwX E k El w B v n xs) (hne:E ≠ E') (hx:KeepX E' w w'):OwX E k El w' B v n xs:=by
 obtain⟨vs,h1,h2,h3,h4⟩:=h;exact⟨vs,ownsRow_X h1 hne hx,h2,h3,fun j x hj=>hS _ _ _ _ (h4 j x hj) hx⟩
theorem OwX.grown {row:Option Nat}(hS:Stab E El) (h:OwX E k El w B v n xs) (hg:w.grownBy w' row) (hr:∀g,row=some g->∃cs,w.heap[g]? = some (.cells cs E)) (hne:v.ownBlock=none\/v.ownBlock ≠ row):OwX E k El w' B v n xs:=by
 obtain⟨vs,h1,h2,h3,h4⟩:=h;exact⟨vs,h1.kept hg hne,h2,h3,fun j x hj=>hS _ _ _ _ (h4 j x hj) (KeepX.grown hg hr)⟩
theorem OwX.cells {g cap:Nat}(h:OwX E k El w B (.slice (some ⟨g,0,none⟩) n cap) n xs) {j:Nat}{x:α}(hj:xs[j]? = some x) :
  ∃cs,cs.length=k/\El w cs x/\∀i u,cs[i]? = some u->w.cell? ⟨g,j * k+i,none⟩=some u:=by
 obtain⟨vs,h1,h2,h3,h4⟩:=h;have hjn:j < n:=by rw[<-h2];exact(List.getElem?_eq_some_iff.1 hj).1
 have hle:j * k+k<=n * k:=by rw[<-Nat.succ_mul];exact Nat.mul_le_mul_right _ hjn
 have hvl:vs.length=n * k:=h1.1;refine⟨_,?_,h4 j x hj,fun i u hi=>?_⟩
 ·rw[List.length_take,List.length_drop];omega
 ·rw[List.getElem?_take] at hi;split at hi
  ·rw[List.getElem?_drop] at hi;rw[World.ownsRow.cellAt h1 (j * k+i) (by omega)];exact hi
  ·cases hi
theorem OwX.form (h:OwX E k El w B v n xs) (hn:0 < n):∃g cap,v = .slice (some ⟨g,0,none⟩) n cap/\B<=g:=by
 obtain⟨vs,h1,_⟩:=h;rcases h1.2 with⟨_,rfl⟩|⟨g,cap,cur,rfl,hb,_⟩
 ·omega
 ·exact⟨g,cap,rfl,hb⟩
def ElemK (P:Program) (T E:TypeId) (z:Value) (k bytes:Nat):Prop:=
 P.underlying T=some (.slice E)/\(P.info? E).map (fun i=>(i.zero,i.size,i.bytes))=some (some z,k,bytes)/\z.cells.size=k
theorem wpAppX {P:Program}{T:TypeId}{z:Value}{bytes:Nat}(hE:ElemK P T E z k bytes) (hby:bytes<=128) (hk:0 < k) (hS:Stab E El) {w0:World}{cs:Array Value}{t:TypeId}{x:α}
  {ops:Array Oper} {rest:List Oper} {o:Oper} {a:Act} {Q:Exit->Act->World->Prop} (hgd:o.guard=none) (s y:Operand)
  (ho:o.op = .call { callee:=.builtin .append,args:=#[s,y],argTypes:=#[T,T] })
  (hs:a.eval s=v) (hown:OwX E k El w0 B v n xs) {sz:Nat} (hx:a.eval y = .slice (some ⟨sz,0,none⟩) 1 1) (hsz:sz=w0.heap.size)
  (hcs:cs.size=k) (hc1:∀u∈cs.toList,u.oneCell'=true) (hEl:El w0 cs.toList x) (hn:n<=1000000000000) (hB:B<=w0.heap.size)
  (h:∀v' w',OwX E k El w' B v' (n+1) (xs ++ [x])->w0.grownBy w' v.ownBlock->Below B w0 w'->KeepX E w0 w'->wpList P ops Q rest (a.put o.dst v') w') :
  wpList P ops Q (o::rest) a (w0.alloc (.cells cs t)):=by
 obtain⟨i0,hi,hz0,hz1,hz2⟩:=info_parts hE.2.1;obtain⟨vs,k1,k2,k3,k4⟩:=hown;subst hsz
 have hcl:∀j u,cs.toList[j]? = some u->(w0.alloc (.cells cs t)).cell? ((⟨w0.heap.size,0,none⟩:Addr).add j)=some u:=by
  intro j u hj;rw[show(⟨w0.heap.size,0,none⟩:Addr).add j=⟨w0.heap.size,j,none⟩ by(simp[Addr.add];try omega),cell_of_row _ _ j _ _ _ (heap_alloc_new w0 _)];simpa using hj
 refine wpList_append_own (w0.alloc (.cells cs t)) hgd s y T ho B E i0 z k bytes hE.1 hi hz0 hz1 hz2 hE.2.2 hk v n vs hs (k1.alloc _) ⟨w0.heap.size,0,none⟩ 1 1 cs.toList hx (by simpa using hcs) hcl hc1 (by unfold maxLen;omega) ?_ (by simp;omega) fun v' w' h1 h2 _=>?_
 ·have:(n+1) * bytes<=1000000000001 * 128:=Nat.mul_le_mul (by omega) hby
  omega
 ·have hg:w0.grownBy w' v.ownBlock:=grownBy_alloc_trans h2;have hX:KeepX E w0 w':=KeepX.own k1 hg;have hvl:vs.length=n * k:=k1.1;refine h v' w' ⟨vs++cs.toList,h1,by simp[k2],?_,fun j x' hj=>?_⟩ hg (((Below.refl B w0).alloc hB _).grown h2 (by simp;omega) (fun k hk=>(k1.lt k hk).1)) hX
  ·intro u hu;rcases List.mem_append.1 hu with hu|hu
   ·exact k3 u hu
   ·exact hc1 u hu
  ·by_cases hjn:j < n
   ·rw[List.getElem?_append_left (by omega)] at hj;have hle:j * k+k<=n * k:=(by rw[<-Nat.succ_mul];exact Nat.mul_le_mul_right _ hjn);rw[List.drop_append_of_le_length (by omega),List.take_append_of_le_length (by rw[List.length_drop];omega)];exact hS _ _ _ _ (k4 j x' hj) hX
   ·rw[List.getElem?_append_right (by omega)] at hj
    have hj0:j - xs.length=0:=by
     have:=(List.getElem?_eq_some_iff.1 hj).1
     simpa using this
    rw[hj0] at hj;simp only[List.getElem?_cons_zero,Option.some.injEq] at hj;subst hj;obtain rfl:j=n:=(by omega);rw[<-hvl,List.drop_left,List.take_of_length_le (by simp[hcs])];exact hS _ _ _ _ hEl hX
end
end Go.Proofs.YtcnedkkcgdkioaaGreat
namespace Go.Proofs.YtcnedkkcgdkioaaGreat
open Go.RowKit
structure Only (D:Nat->Prop) (W W':World):Prop where
 os:W'.os=W.os
 tape:W'.tape=W.tape
 output:W'.output=W.output
 size:W.heap.size<=W'.heap.size
 same:∀k,k < W.heap.size->¬D k->W'.heap[k]? = W.heap[k]?
def Gr (D:Nat->Prop) (W:World) (D':Nat->Prop):Prop:=∀k,D' k->D k\/W.heap.size<=k
def Bd (D:Nat->Prop) (W:World):Prop:=∀k,D k->k < W.heap.size
theorem Only.refl (D:Nat->Prop) (W:World):Only D W W:=⟨rfl,rfl,rfl,Nat.le_refl _,fun _ _ _=>rfl⟩
theorem Only.trans {D D':Nat->Prop}{A B C:World}(h:Only D A B) (k:Only D' B C) (hg:Gr D A D'):Only D A C:=
 ⟨k.os.trans h.os,k.tape.trans h.tape,k.output.trans h.output,Nat.le_trans h.size k.size,fun i hi hd=>
  (k.same i (Nat.lt_of_lt_of_le hi h.size) (fun h'=>by rcases hg i h' with h'|h';exact hd h';omega)).trans (h.same i hi hd)⟩
theorem Only.mono {D D':Nat->Prop}{A B:World}(h:Only D A B) (hd:∀k,D k->D' k):Only D' A B:=
 ⟨h.os,h.tape,h.output,h.size,fun k hk hn=>h.same k hk (fun h'=>hn (hd k h'))⟩
theorem Only.below {D:Nat->Prop}{A B:World}(h:Only D A B) {n:Nat}(hn:n<=A.heap.size) (hd:∀k,D k->n<=k):Below n A B:=
 ⟨h.os,h.tape,h.output,h.size,fun k hk=>h.same k (by omega) (fun h'=>by have:=hd k h';omega)⟩
theorem Only.of_below {D:Nat->Prop}{A B:World}(h:Below A.heap.size A B):Only D A B:=⟨h.os,h.tape,h.output,h.size,fun k hk _=>h.block k hk⟩
theorem Only.thenBelow {D:Nat->Prop}{A B C:World}(h:Only D A B) (k:Below A.heap.size B C):Only D A C:=
 ⟨k.os.trans h.os,k.tape.trans h.tape,k.output.trans h.output,Nat.le_trans h.size k.size,fun i hi hd=>(k.block i hi).trans (h.same i hi hd)⟩
theorem Only.setCell {D:Nat->Prop}{A B:World}(h:Only D A B) {p:Addr}(hp:D p.block) (u:Value):Only D A (B.setCell p u):=
 ⟨h.os,h.tape,h.output,by simpa [World.setCell] using h.size,fun i hi hd=>(Below.heap_setCell B p u i (fun e=>hd (e▸hp))).trans (h.same i hi hd)⟩
theorem Only.cell {D:Nat->Prop}{A B:World}(h:Only D A B) {p:Addr}{v:Value}(hp : ¬D p.block) (hc:A.cell? p=some v):B.cell? p=some v:=
 (World.cell?_of_block (h.same p.block (World.block_lt_of_cell? A p hc) hp)).trans hc
theorem Only.drewN {D:Nat->Prop}{A B:World}(h:Only D A B) (n:Nat):Only D A (B.drewN n):=⟨h.os,h.tape,h.output,h.size,h.same⟩
theorem below_putObj {B:Nat}{w W:World}(h:Below B w W) {d:Nat}(hd:B<=d) (o:Obj):Below B w (W.putObj d o):=
 h.trans ⟨rfl,rfl,rfl,by simp,fun k hk=>World.putObj_heap_other (by omega)⟩
theorem Gr.refl (D:Nat->Prop) (W:World):Gr D W D:=fun _ h=>.inl h
theorem Gr.trans {D D' D'':Nat->Prop}{A B:World}(h:Gr D A D') (k:Gr D' B D'') (hs:A.heap.size<=B.heap.size):Gr D A D'':=fun i hi=>by
 rcases k i hi with h'|h'
 ·exact h i h'
 ·exact .inr (Nat.le_trans hs h')
theorem Only.putObj {D:Nat->Prop}{W:World}{l:Nat}(hl:D l) (o:Obj):Only D W (W.putObj l o):=
 ⟨rfl,rfl,rfl,by simp,fun k _ hk=>World.putObj_heap_other (fun e=>hk (e▸hl))⟩
def Stable {α:Type}(J:List α->(Nat->Prop)->World->Prop):Prop:=
 ∀pre D W W',J pre D W->W.heap.size<=W'.heap.size->(∀k,D k->W'.heap[k]? = W.heap[k]?)->J pre D W'
def SeqOK {α:Type}(P:Program) (g:Nat) (lb:Array Value) (enc:α->Array Value) (R:List α->α->World->Prop) (S Sp:List α->Prop) (N:Nat) (C:Nat->Prop) (w0:World):Prop:=
 ∀(l:Nat) (J Jx:List α->(Nat->Prop)->World->Prop) (D:Nat->Prop) (W:World),Below w0.heap.size w0 W->Bd D W->(∀k,D k->¬C k)->Stable J->Stable Jx->
  (∀pre x D1 W1,J pre D1 W1->Bd D1 W1->Only D W W1->Gr D W D1->R pre x W1->pre.length < N->YieldAt Fence.wide 0 P l (enc x) W1 fun e W'=>
   ∃D',Only D1 W1 W'/\Gr D1 W1 D'/\Bd D' W'/\((e = .returned (.bool true)/\J (pre ++ [x]) D' W')\/(e = .returned (.bool false)/\Jx (pre ++ [x]) D' W')))->
  J [] D W->
  CallsIn Fence.wide 0 P g (#[.func (.yield l) #[] #[]]++lb) W fun e W'=>(∃v,e = .returned v)/\
   ∃D',Only D W W'/\Gr D W D'/\Bd D' W'/\((∃xs,S xs/\J xs D' W')\/(∃pre,Sp pre/\Jx pre D' W'))
def bodyQ {α:Type}(I:List α->(Nat->Prop)->World->Prop) (Ix:Code->List α->(Nat->Prop)->World->Prop) (xs:List α) (D:Nat->Prop) (W:World):Exit->Act->World->Prop
 | .normal,_,W'=>∃D',Only D W W'/\Gr D W D'/\Bd D' W'/\I xs D' W'
 | .ret,_,W'=>∃D',Only D W W'/\Gr D W D'/\Bd D' W'/\Ix .ret xs D' W'
 | .exit id,_,W'=>∃D',Only D W W'/\Gr D W D'/\Bd D' W'/\Ix (.exit id) xs D' W'
 | .goto t,_,W'=>∃D',Only D W W'/\Gr D W D'/\Bd D' W'/\Ix (.goto t) xs D' W'
 | .panic _,_,_=>False
 | .outgrown,_,_=>False
theorem wpIn_rf {P:Program}{α:Type}{g:Operand}{ps:Array Tmp}{assign body:Code}{Q:Exit->Act->World->Prop}{a:Act}{w:World}
  {gf:Nat} {lb:Array Value} (hg:a.eval g = .func (.func gf) #[] lb) (eg:∀args w,(callFunc gf args).run P w = .ok (.enter gf args) w)
  {enc:α->Array Value} {R:List α->α->World->Prop} {S Sp:List α->Prop} {N:Nat} {C:Nat->Prop} {w0:World} (hseq:SeqOK P gf lb enc R S Sp N C w0)
  (hb0:Below w0.heap.size w0 w) (hps:∀x,(enc x).size=ps.size) (hR:∀pre x W k r o,R pre x W->W.heap[k]? = some (.loop r)->R pre x (W.putObj k o))
  (I:List α->(Nat->Prop)->World->Prop) (Ix:Code->List α->(Nat->Prop)->World->Prop) (hI:Stable I) (hIx:∀c,Stable (Ix c))
  (D0:Nat->Prop) (hD0:Bd D0 w) (hC:∀k,D0 k->¬C k) (hC':Bd C w) (h0:I [] D0 w) (a₁:α->Act)
  (hassign:∀(l:Nat) (x:α) (W:World) (K:Act->World->Prop),K (a₁ x) W->
   assign.wpIn (Fence.wide.inRound l) 0 P (Exit.then K (fun _ _ _=>False)) { tmps:=(ps.zip (enc x)).foldl (fun t (p,v)=>t.setIfInBounds p v) a.tmps,defers:=[] } W)
  (hbody:∀(l:Nat) (pre:List α) (x:α) (D:Nat->Prop) (W:World),I pre D W->Bd D W->Only D0 w W->Gr D0 w D->R pre x W->pre.length < N->body.wpIn (Fence.wide.inRound l) 0 P (bodyQ I Ix (pre ++ [x]) D W) (a₁ x) W)
  (hdone:∀(d:Nat) (xs:List α) (D:Nat->Prop) (W:World),S xs->I xs D W->Only D0 w W->Gr D0 w D->w.heap.size<=d->¬D d->W.heap[d]? = some (.deferred (some []))->Q .normal { a with defers:={ target:=.collected d,args:=#[] }::a.defers } W)
  (hstop:∀(d:Nat) (c:Code) (pre:List α) (D:Nat->Prop) (W:World),Sp pre->Ix c pre D W->Only D0 w W->Gr D0 w D->w.heap.size<=d->¬D d->W.heap[d]? = some (.deferred (some []))->c.wpIn Fence.wide 0 P Q { a with defers:={ target:=.collected d,args:=#[] }::a.defers } W) :
  (Code.rangeFunc g ps assign body).wpIn Fence.wide 0 P Q a w:=by
 refine wpIn_rangeFunc fun fn _=>?_;obtain⟨d,hd⟩:=exF (w.heap.size);obtain⟨l,hl⟩:=exF (w.heap.size+1);obtain⟨rec,hrec⟩:∃rec:LoopState->Option Code->Loop,rec=fun st pe=>{ state:=st,pending:=pe,fn:=fn,tmps:=a.tmps,params:=ps,assign:=assign,body:=body,defers:=d }:=⟨_,rfl⟩;obtain⟨W1,hW1⟩:=exE ((w.alloc (.deferred (some []))).alloc (.loop (rec .ready none)));have hs1:W1.heap.size=w.heap.size+2:=by rw[<-hW1];simp
 have hold:∀k,k < w.heap.size->W1.heap[k]? = w.heap[k]?:=fun k hk=>by
  rw[<-hW1];exact(Below.heap_alloc _ _ _ (by simp;omega)).trans (Below.heap_alloc _ _ _ hk)
 have hl1:W1.heap[l]? = some (.loop (rec .ready none)):=by
  rw[<-hW1,hl];have:=World.alloc_heap_new (w.alloc (.deferred (some []))) (.loop (rec .ready none));rwa [World.size_alloc] at this
 have hd1:W1.heap[d]? = some (.deferred (some [])):=by
  rw[<-hW1,hd];exact(Below.heap_alloc _ _ _ (by simp)).trans (World.alloc_heap_new w _)
 have hbW:Below w.heap.size w W1:=by rw[<-hW1];exact((Below.refl _ _).alloc (Nat.le_refl _) _).alloc (by simp) _
 have hDl : ¬D0 l:=fun h=>by have:=hD0 l h;omega
 have hDd : ¬D0 d:=fun h=>by have:=hD0 d h;omega
 -- what the caller's data and the two blocks of the statement's own are
 let J:List α->(Nat->Prop)->World->Prop:=fun pre D W=>∃E,I pre E W/\Bd E W/\Gr D0 w E/\¬E l/\¬E d/\(∀k,D k↔E k\/k=l\/k=d)/\
  W.heap[l]? = some (.loop (rec .ready none))/\W.heap[d]? = some (.deferred (some []))
 let Jx:List α->(Nat->Prop)->World->Prop:=fun pre D W=>∃c E,Ix c pre E W/\Bd E W/\Gr D0 w E/\¬E l/\¬E d/\(∀k,D k↔E k\/k=l\/k=d)/\
  W.heap[l]? = some (.loop (rec .done (some c)))/\W.heap[d]? = some (.deferred (some []))
 have hJ:Stable J:=by
  rintro pre D W W' ⟨E,h1,h2,h3,h4,h5,h6,h7,h8⟩ hs hk;refine⟨E,hI pre E W W' h1 hs (fun k hkE=>hk k ((h6 k).2 (.inl hkE))),fun k hkE=>Nat.lt_of_lt_of_le (h2 k hkE) hs,h3,h4,h5,h6,(hk l ((h6 l).2 (.inr (.inl rfl)))).trans h7,(hk d ((h6 d).2 (.inr (.inr rfl)))).trans h8⟩
 have hJx:Stable Jx:=by
  rintro pre D W W' ⟨c,E,h1,h2,h3,h4,h5,h6,h7,h8⟩ hs hk;refine⟨c,E,hIx c pre E W W' h1 hs (fun k hkE=>hk k ((h6 k).2 (.inl hkE))),fun k hkE=>Nat.lt_of_lt_of_le (h2 k hkE) hs,h3,h4,h5,h6,(hk l ((h6 l).2 (.inr (.inl rfl)))).trans h7,(hk d ((h6 d).2 (.inr (.inr rfl)))).trans h8⟩
 let D1:Nat->Prop:=fun k=>D0 k\/k=l\/k=d
 have hD1:Bd D1 W1:=fun k hk=>by
  rcases hk with h|rfl|rfl
  ·have:=hD0 k h;omega
  ·omega
  ·omega
 have hwW:∀ {W:World},Only D1 W1 W->Only D0 w W:=fun {W} h=>
  ⟨h.os.trans hbW.os,h.tape.trans hbW.tape,h.output.trans hbW.output,Nat.le_trans hbW.size h.size,fun k hk hn=>
   (h.same k (by omega) (fun hh=>by rcases hh with hh|rfl|rfl;exact hn hh;omega;omega)).trans (hold k hk)⟩
 refine⟨l,[{ target:=.collected d,args:=#[] }],W1,{ target:=.fn (.func gf) lb,args:=#[.func (.yield l) #[] #[]] },W1,gf,#[.func (.yield l) #[] #[]]++lb,W1,?_,?_,?_,?_,?_,?_⟩
 ·rw[<-hW1,hrec,hl,hd];exact run_enterLoop_outer _ _ _ _ _
 ·simp only[resolve,hg];simp[go_sem]
 ·intro f' hf';trivial
 ·simp[invoke,go_sem,eg]
 ·intro h;simp[Fence.wide] at h
 refine(hseq l J Jx D1 W1 (hb0.trans (hbW.mono hb0.size)) hD1 ?_ hJ hJx ?_ ?_).mono ?_
 ·intro k hk hkC;have:=hC' k hkC
  rcases hk with h|rfl|rfl
  ·exact hC k h hkC
  ·omega
  ·omega
 ·-- a round
  rintro pre x D W ⟨E,h1,h2,h3,h4,h5,h6,h7,h8⟩ hBd hOn hGr hRx hlen;have hlW:l < W.heap.size:=(Array.getElem?_eq_some_iff.1 h7).1;have hy:=run_yield (P:=P) (args:=enc x) h7 (by rw[hrec];exact hps x);rw[hrec] at hy;refine⟨fn,_,assign,body,hy,roundIn_of_wpIn trivial (hassign l x W _ ⟨_,run_beginRound h7 (by rw[hrec]),?_⟩)⟩;obtain⟨W2,hW2⟩:∃W2,W2=W.putObj l (.loop { rec .ready none with state:=.busy }):=⟨_,rfl⟩;have g7:W2.heap[l]? = some (.loop { rec .ready none with state:=.busy }):=by rw[hW2];exact World.putObj_heap_same hlW
  have gO:∀k,k ≠ l->W2.heap[k]? = W.heap[k]?:=fun k hk=>by rw[hW2];exact World.putObj_heap_other hk
  have gS:W2.heap.size=W.heap.size:=by rw[hW2];simp
  have g8:W2.heap[d]? = some (.deferred (some [])):=(gO d (by omega)).trans h8;have gI:I pre E W2:=hI pre E W W2 h1 (by omega) (fun k hk=>gO k (fun e=>h4 (e▸hk)));have gOn:Only D1 W1 W2:=hOn.trans (by rw[hW2];exact Only.putObj (D:=D) ((h6 l).2 (.inr (.inl rfl))) _) hGr;have gR:R pre x W2:=by rw[hW2];exact hR pre x W l _ _ hRx h7
  rw[<-hW2];refine wpIn_mono (hbody l pre x E W2 gI (fun k hk=>by rw[gS];exact h2 k hk) (hwW gOn) h3 gR hlen) ?_;-- what stands when the body has ended
  have fin:∀(jump:Option Code) (W3:World) (E':Nat->Prop),Only E W2 W3->Gr E W2 E'->Bd E' W3->
    (Instr.endRound l jump).run P W3 = .ok (.bool jump.isNone) (W3.putObj l (.loop (rec (if jump.isNone then .ready else .done) jump)))/\
    Only D W (W3.putObj l (.loop (rec (if jump.isNone then .ready else .done) jump)))/\Gr D W (fun k=>E' k\/k=l\/k=d)/\
    Bd (fun k=>E' k\/k=l\/k=d) (W3.putObj l (.loop (rec (if jump.isNone then .ready else .done) jump)))/\¬E' l/\¬E' d/\Gr D0 w E'/\
    (W3.putObj l (.loop (rec (if jump.isNone then .ready else .done) jump))).heap[l]? = some (.loop (rec (if jump.isNone then .ready else .done) jump))/\
    (W3.putObj l (.loop (rec (if jump.isNone then .ready else .done) jump))).heap[d]? = some (.deferred (some []))/\
    (∀k,E' k->(W3.putObj l (.loop (rec (if jump.isNone then .ready else .done) jump))).heap[k]? = W3.heap[k]?):=by
   intro jump W3 E' k1 k2 k3;have hdW:d < W2.heap.size:=(by omega);have hl3:=(k1.same l (by omega) h4).trans g7;have hl3':l < W3.heap.size:=(Array.getElem?_eq_some_iff.1 hl3).1;have nl : ¬E' l:=fun h=>by rcases k2 l h with h'|h';exact h4 h';omega
   have nd : ¬E' d:=fun h=>by rcases k2 d h with h'|h';exact h5 h';omega
   have hend:=run_endRound (P:=P) jump hl3;refine⟨by rw[hrec] at hend|-;exact hend,?_,?_,?_,nl,nd,?_,World.putObj_heap_same hl3',(World.putObj_heap_other (by omega)).trans ((k1.same d hdW h5).trans g8),fun k hk=>World.putObj_heap_other (fun e=>nl (e▸hk))⟩
   ·have e1:Only D W W2:=(by rw[hW2];exact Only.putObj (D:=D) ((h6 l).2 (.inr (.inl rfl))) _);have e2:Only D W2 W3:=k1.mono fun k hk=>(h6 k).2 (.inl hk);exact(e1.trans e2 (Gr.refl _ _)).trans (Only.putObj (D:=D) ((h6 l).2 (.inr (.inl rfl))) _) (Gr.refl _ _)
   ·intro k hk;rcases hk with h|rfl|rfl
    ·rcases k2 k h with h'|h'
     ·exact .inl ((h6 k).2 (.inl h'))
     ·exact .inr (by omega)
    ·exact .inl ((h6 k).2 (.inr (.inl rfl)))
    ·exact .inl ((h6 k).2 (.inr (.inr rfl)))
   ·intro k hk;rw[World.putObj_size];rcases hk with h|rfl|rfl
    ·exact k3 k h
    ·omega
    ·have:=k1.size;omega
   ·intro k hk;rcases k2 k hk with h'|h'
    ·exact h3 k h'
    ·right;have:=hOn.size;omega
  rintro e a3 W3 hp;cases e with
  | normal=>
   obtain⟨E',k1,k2,k3,k4⟩:=hp;obtain⟨f1,f2,f3,f4,f5,f6,f7,f8,f9,f10⟩:=fin none W3 E' k1 k2 k3;exact⟨_,_,f1,_,f2,f3,f4,.inl ⟨rfl,E',hI _ E' W3 _ k4 (by rw[World.putObj_size];exact Nat.le_refl _) f10,fun k hk=>f4 k (.inl hk),f7,f5,f6,fun _=>Iff.rfl,f8,f9⟩⟩
  | ret=>
   obtain⟨E',k1,k2,k3,k4⟩:=hp;obtain⟨f1,f2,f3,f4,f5,f6,f7,f8,f9,f10⟩:=fin (some .ret) W3 E' k1 k2 k3;exact⟨_,_,f1,_,f2,f3,f4,.inr ⟨rfl,_,E',hIx _ _ E' W3 _ k4 (by rw[World.putObj_size];exact Nat.le_refl _) f10,fun k hk=>f4 k (.inl hk),f7,f5,f6,fun _=>Iff.rfl,f8,f9⟩⟩
  | exit id=>
   obtain⟨E',k1,k2,k3,k4⟩:=hp;obtain⟨f1,f2,f3,f4,f5,f6,f7,f8,f9,f10⟩:=fin (some (.exit id)) W3 E' k1 k2 k3;exact⟨_,_,f1,_,f2,f3,f4,.inr ⟨rfl,_,E',hIx _ _ E' W3 _ k4 (by rw[World.putObj_size];exact Nat.le_refl _) f10,fun k hk=>f4 k (.inl hk),f7,f5,f6,fun _=>Iff.rfl,f8,f9⟩⟩
  | goto t=>
   obtain⟨E',k1,k2,k3,k4⟩:=hp;obtain⟨f1,f2,f3,f4,f5,f6,f7,f8,f9,f10⟩:=fin (some (.goto t)) W3 E' k1 k2 k3;exact⟨_,_,f1,_,f2,f3,f4,.inr ⟨rfl,_,E',hIx _ _ E' W3 _ k4 (by rw[World.putObj_size];exact Nat.le_refl _) f10,fun k hk=>f4 k (.inl hk),f7,f5,f6,fun _=>Iff.rfl,f8,f9⟩⟩
  | panic ch=>exact hp.elim
  | outgrown=>exact hp.elim
 ·refine⟨D0,hI [] D0 w W1 h0 hbW.size (fun k hk=>hold k (hD0 k hk)),fun k hk=>by have:=hD0 k hk;omega,Gr.refl _ _,hDl,hDd,fun _=>Iff.rfl,hl1,hd1⟩
 ·-- behind the iterator
  rintro e W2 ⟨⟨v,rfl⟩,D,hOn,hGr,hBd,(⟨xs,hS,E,h1,h2,h3,h4,h5,h6,h7,h8⟩|⟨pre,hSp,c,E,h1,h2,h3,h4,h5,h6,h7,h8⟩)⟩
  ·have hend:=run_endLoop (P:=P) h7 (by rw[hrec];simp);rw[hrec] at hend;refine⟨none,_,hend,hdone d xs E _ hS (hI _ E W2 _ h1 (by simp) fun k hk=>World.putObj_heap_other (fun e=>h4 (e▸hk))) ?_ h3 (by omega) h5 ((World.putObj_heap_other (by omega)).trans h8)⟩;exact hwW (hOn.trans (Only.putObj (D:=D) ((h6 l).2 (.inr (.inl rfl))) _) hGr)
  ·have hend:=run_endLoop (P:=P) h7 (by rw[hrec];simp);rw[hrec] at hend;refine⟨some c,_,hend,hstop d c pre E _ hSp (hIx c _ E W2 _ h1 (by simp) fun k hk=>World.putObj_heap_other (fun e=>h4 (e▸hk))) ?_ h3 (by omega) h5 ((World.putObj_heap_other (by omega)).trans h8)⟩;exact hwW (hOn.trans (Only.putObj (D:=D) ((h6 l).2 (.inr (.inl rfl))) _) hGr)
end Go.Proofs.YtcnedkkcgdkioaaGreat

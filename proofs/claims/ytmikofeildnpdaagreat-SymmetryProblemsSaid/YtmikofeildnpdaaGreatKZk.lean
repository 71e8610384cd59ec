/- Texts of this claim, put together: C0 C2 E2 E3 P0 RQ RW SE SE2. -/
import Derived.Test.YtmikofeildnpdaaGreatKZi
import Derived.Test.YtmikofeildnpdaaGreatKZh
import Derived.Shelf.Strings.Builder1
import Derived.Test.YtmikofeildnpdaaGreatKZg
import Derived.Deep.LoopGhost
import Derived.OwnWalkIn
import Derived.RangeFuncBox

set_option maxRecDepth 100000
set_option maxHeartbeats 12800000
namespace Go.Proofs.YtmikofeildnpdaaGreat
open Go.RowKit Go.ChangeMaps Go.MapKept Go.WideMaps
def mvTo (m:List Int):Nat:=(m.getD 7 0).toNat
def rdOf (m:List Int):List Int:=m.take 7
section
variable {κ:Type} [DecidableEq κ] {P:Program} {K E M:TypeId} {kv:κ→Value} {S:κ→Prop} {seen:List κ} {x:κ} {w:World} {b:Nat}
end
end Go.Proofs.YtmikofeildnpdaaGreat
namespace Go.Proofs.YtmikofeildnpdaaGreat
open Go.RowKit Go.ChangeMaps Go.MapKept
theorem wp_region_qtail {P:Program}{id:Nat}{Q:Exit→Act→World→Prop}{a:Act}{w:World}{l:List Oper}(n:Nat) (hm:P.follows .mixedOrders=true) (hB:qtB n l=true) (hg:noGuard l=true)
  (hQ : ¬LetsOut Q) (h:∀ops',wpQuiet P ops' (fun w'=>∃k,w'=w.drewN k) (fun a'=>∀k,wpList P l.toArray Q (l.drop n) a' (w.drewN k)) (l.take n) a) :
  (Code.region id l.toArray true).wp P Q a w:=
 wp_region_any hm (any_qtail n hB hg (h _) hQ)
open Go.RowKit Go.ChangeMaps Go.MapKept
theorem OwX.storeI {E:TypeId}{k:Nat}{w:World}{B g n cap:Nat}{xs:List (List Int)}(h:OwX E k EI w B (.slice (some ⟨g,0,none⟩) n cap) n xs) {j i:Nat}(hj:j < n) (hi:i < k) (y:Int) :
  OwX E k EI (w.setCell ⟨g,j * k+i,none⟩ (.int .i64 y)) B (.slice (some ⟨g,0,none⟩) n cap) n (xs.set j ((xs.getD j []).set i y))∧w.grownBy (w.setCell ⟨g,j * k+i,none⟩ (.int .i64 y)) (some g):=by
 obtain⟨vs,h1,h2,h3,h4⟩:=h;obtain⟨s1,s2⟩:=World.ownsRow.stored h1 (j * k+i) (.int .i64 y);refine⟨⟨_,s1,by simp[h2],fun u hu=>?_,fun j' x hj'=>?_⟩,s2⟩
 ·rcases List.mem_or_eq_of_mem_set hu with hu|rfl
  ·exact h3 u hu
  ·rfl
 ·show _=_;have hjx:xs[j]? = some (xs.getD j []):=by rw[getD_eq (by omega)];exact List.getElem?_eq_some_iff.2 ⟨by omega,rfl⟩
  have hjl:j' < xs.length:=by have:=(List.getElem?_eq_some_iff.1 hj').1;simpa using this
  rw[List.drop_set];by_cases hjj:j'=j
  ·subst hjj;rw[List.getElem?_set_self (by omega)] at hj';simp only[Option.some.injEq] at hj';rw[if_neg (by omega),show j' * k+i - j' * k=i by omega,List.take_set,h4 j' _ hjx,←hj',List.map_set]
  ·rw[List.getElem?_set_ne (by omega)] at hj';rw[←h4 j' x hj'];by_cases hlt:j * k+i < j' * k
   ·rw[if_pos hlt]
   ·rw[if_neg hlt,List.take_set,List.set_eq_of_length_le];rw[List.length_take]
    have:k≤j * k+i - j' * k:=by
     have hle:j' < j:=by
      rcases Nat.lt_or_ge j' j with h|h
      ·exact h
      ·have h5:j < j':=(by omega);have h6:(j+1) * k≤j' * k:=Nat.mul_le_mul_right _ h5;rw[Nat.succ_mul] at h6;omega
     have h6:(j'+1) * k≤j * k:=Nat.mul_le_mul_right _ hle;rw[Nat.succ_mul] at h6;omega
    omega
theorem OwX.intCells {E:TypeId}{k:Nat}{w:World}{B g n cap:Nat}{xs:List (List Int)}(h:OwX E k EI w B (.slice (some ⟨g,0,none⟩) n cap) n xs) {j:Nat}(hj:j < n):(xs.getD j []).length=k∧CI w g (j * k) (xs.getD j []):=by
 have hl:=h.length;obtain⟨cs,h1,h2,h3⟩:=h.cells (x:=xs.getD j []) (j:=j) (by rw[getD_eq (by omega)];exact List.getElem?_eq_some_iff.2 ⟨by omega,rfl⟩);have h2:cs=(xs.getD j []).map (Value.int .i64):=h2;have h1':=h1;rw[h2,List.length_map] at h1';refine⟨h1',fun i hi=>h3 i _ ?_⟩;rw[h2,List.getElem?_map,List.getElem?_eq_some_iff.2 ⟨hi,rfl⟩,getD_eq hi];rfl
theorem OwX.frozen {α:Type}{E:TypeId}{k:Nat}{El:World→List Value→α→Prop}{w:World}{B g n cap:Nat}{xs:List α}(h:OwX E k El w B (.slice (some ⟨g,0,none⟩) n cap) n xs) (j:Nat):w.frozen? ⟨g,j,none⟩=false:=by
 obtain⟨vs,h1,_⟩:=h;exact World.ownsRow.frozenAt h1 j
theorem OwX.ks {E:TypeId}{k:Nat}{w:World}{B n:Nat}{v:Value}{xs:List (List Int)}(h:OwX E k EI w B v n xs) (hn:n≤2199023255552):KS k w v xs:=by
 obtain rfl:=h.length;rcases Nat.eq_zero_or_pos xs.length with h0|h0
 ·obtain⟨a,c,rfl⟩:=h.shape;obtain rfl:=List.length_eq_zero_iff.1 h0;exact KS.nil k w a c
 ·obtain⟨g,cap,rfl,_⟩:=h.form h0;refine⟨_,cap,g,0,rfl,fun _=>rfl,fun j hj=>?_,hn⟩;rw[Nat.zero_add];exact h.intCells hj
def ESt (w:World) (cs:List Value) (x:List (List Int)):Prop:=∃u,cs = [u]∧OwX 100 8 EI w 0 u x.length x
theorem ESt.stab {E:TypeId}(h:100 ≠ E):Stab E ESt:=fun _ _ _ _ ⟨u,h1,h2⟩ hx=>⟨u,h1,h2.other (EI.stab _) h hx⟩
theorem elemSt:ElemK Tryz.prog 22 98 (.slice none 0 0) 1 24:=⟨by kernel_rfl,by kernel_rfl,rfl⟩
theorem OwX.kss {E:TypeId}{w:World}{B n:Nat}{v:Value}{xs:List (List (List Int))}(h:OwX E 1 ESt w B v n xs) (hn:n≤5864062014805) (hl:∀x∈xs,x.length≤2199023255552):KSS 8 w v xs:=by
 obtain rfl:=h.length;rcases Nat.eq_zero_or_pos xs.length with h0|h0
 ·obtain⟨a,c,rfl⟩:=h.shape;obtain rfl:=List.length_eq_zero_iff.1 h0;exact⟨a,c,0,0,rfl,by simp,by intro j hj;simp at hj,by simp⟩
 ·obtain⟨g,cap,rfl,_⟩:=h.form h0;refine⟨_,cap,g,0,rfl,fun _=>rfl,fun j hj=>?_,hn⟩;have hx:xs[j]? = some (xs.getD j []):=by rw[getD_eq hj];exact List.getElem?_eq_some_iff.2 ⟨hj,rfl⟩
  obtain⟨cs,h1,⟨u,h2,h3⟩,h4⟩:=h.cells hx;refine⟨u,?_,h3.ks (hl _ (List.mem_of_getElem? hx))⟩;have:=h4 0 u (by rw[h2];rfl)
  rw[Nat.mul_one,Nat.add_zero] at this;rw[Nat.zero_add];exact this
def OwAdv (w:World) (v:Value) (n:Int) (ss:List (List (List Int))):Prop:=
 ∃sv,v = .agg #[.int .i64 n,sv]∧OwX 98 1 ESt w 0 sv ss.length ss∧ss.length≤5864062014805∧∀x∈ss,x.length≤2199023255552
theorem OwAdv.adv {w:World}{v:Value}{n:Int}{ss:List (List (List Int))}(h:OwAdv w v n ss):AdvV w v n ss:=by
 obtain⟨sv,h1,h2,h3,h4⟩:=h;exact⟨sv,h1,h2.kss h3 h4⟩
theorem OwAdv.keep {w w':World}{v:Value}{n:Int}{ss:List (List (List Int))}(h:OwAdv w v n ss) (hb:Below w.heap.size w w'):OwAdv w' v n ss:=by
 obtain⟨sv,h1,h2,h3⟩:=h;exact⟨sv,h1,h2.keep (ESt.stab (by decide)) hb,h3⟩
theorem KeepX.setCell {E:TypeId}{w:World}{p:Addr}{cs:Array Value}(h:w.heap[p.block]? = some (.cells cs E)) (v:Value):KeepX E w (w.setCell p v):=fun k cs' t hk ht=>by
 refine Below.heap_setCell _ _ _ _ fun e=>?_;subst e;rw[h] at hk;injection hk with hk;injection hk with _ hk;exact ht hk.symm
theorem mem_movesN {ss:List (List (List Int))}{ms:List (List Int)}(h:ms∈ss):ms.length≤movesN ss:=by
 obtain⟨a,b,rfl⟩:=List.append_of_mem h;rw[movesN_app,show ms::b = [ms]++b from rfl,movesN_app];have:movesN [ms]=ms.length:=by simp[movesN]
 omega
open Go.RowKit Go.ChangeMaps Go.MapKept
theorem row_free {w:World}{b:Nat}{cs:Array Value}{t:TypeId}(h:w.heap[b]? = some (.cells cs t)) (j:Nat):w.frozen? ⟨b,j,none⟩=false:=by simp[World.frozen?,h]
end Go.Proofs.YtmikofeildnpdaaGreat
namespace Go.Proofs.YtmikofeildnpdaaGreat
section
variable {κ κ':Type} [DecidableEq κ] [DecidableEq κ']
end
def sig (out:List Nat) (ms:List (List Int)):List (List Int × Nat):=ms.map fun m=>(rdOf m,out.getD (mvTo m) 0)
def sigs (ss:List (List (List Int))) (out:List Nat):List (List (List Int × Nat)):=ss.map (sig out)
def stL (ss:List (List (List Int))):Nat→List Nat
 | 0=>List.replicate ss.length 0
 | k+1=>lbl (sigs ss (stL ss k))
def part (ss:List (List (List Int))):List Nat:=stL ss ss.length
end Go.Proofs.YtmikofeildnpdaaGreat
namespace Go.Proofs.YtmikofeildnpdaaGreat
open Go.RowKit
theorem any_ctail {P:Program}{C:World→Prop}{Q:Exit→Act→World→Prop}{a:Act}{w:World}{l:List Oper}(n:Nat) (hB:qtB n l=true) (hg:noGuard l=true) (hC:C w.drew)
  (h:wpQuiet P (maskLast n l).toArray C (fun a'=>∀w',C w'→wpList P l.toArray Q (l.drop n) a' w') (l.take n) a) (hQ : ¬LetsOut Q) :
  wpAny P .any l.toArray Q l.toArray.size (Array.replicate l.toArray.size false) a w.drew:=by
 simp only[qtB,Bool.and_eq_true,decide_eq_true_eq] at hB;obtain⟨⟨⟨⟨hlen,hs⟩,hb⟩,hlex⟩,_⟩:=hB
 have hback:∀(i:Nat) (o:Oper),l[i]? = some o→∀e∈o.after,e.on < i:=by
  intro i o ho e he;have:=List.all_eq_true.1 hb i (List.mem_range.2 (List.getElem?_eq_some_iff.1 ho).1)
  rw[ho] at this;simp only at this
  exact of_decide_eq_true (Array.all_eq_true'.1 this e he)
 have hlt:n < l.length:=by omega
 have hlast:l[n]? = some l[n]:=List.getElem?_eq_getElem hlt;have hdrop:l.drop n = [l[n]]:=by rw[List.drop_eq_getElem_cons hlt,List.drop_eq_nil_of_le (by omega)]
 have hgl:l[n].guard=none:=noGuard_get hg hlast
 have start:HeadInv .any l.toArray n (Array.replicate l.toArray.size false):=
  ⟨by simp,fun j oj _ hh=>(by rw[getD_replicate_false] at hh;cases hh),fun t _ ht=>getD_in (by simpa using ht) (getD_replicate_false _ _)⟩
 refine any_of_quiet_last (C:=C) (Qa:=fun a'=>∀w',C w'→wpList P l.toArray Q (l.drop n) a' w') hlen hlast hgl hs hback ?_ ?_ _ _ _ _ start hC ?_ (by simp;omega)
 ·intro a w' hw hh;have h1:=hh w' hw;rw[hdrop] at h1;unfold wpList at h1;rw[if_pos (by simp[Region.wanted,hgl])] at h1;exact Oper.wp_mono (fun a w hh=>hh) (h1.resolve_right (fun hh=>hQ hh.2))
 ·intro i o ho tmps;simp[Region.wanted,noGuard_get hg ho]
 ·simp only[Region.lexB,Bool.and_eq_true] at hlex;have hml:(maskLast n l)=l.take n ++ [mask l[n]]:=by rw[maskLast,hdrop];rfl
  have hw:wpQuiet P (maskLast n l).toArray C (fun a'=>∀w',C w'→wpList P l.toArray Q (l.drop n) a' w') (maskLast n l) a:=by
   conv=>arg 5;rw[hml]
   refine wpQuiet_append ?_;refine wpQuiet_mono' ?_ h;intro a' hh;unfold wpQuiet;rw[if_pos (by simp[Region.wanted,mask])];exact⟨undef,fun w' _=>⟨rfl,rfl⟩,hh⟩
  have:=wpAnyQ_lex (C:=C) (md:=.any) hlex.1 (maskLast n l) 0 (Array.replicate (maskLast n l).toArray.size false) a (by simp) (by simpa using hlex.2) hw
  simpa [maskLast_length] using this
theorem wp_region_btail {P:Program}{id:Nat}{Q:Exit→Act→World→Prop}{a:Act}{w:World}{l:List Oper}(n:Nat) (hm:P.follows .mixedOrders=true) (hB:qtB n l=true) (hg:noGuard l=true)
  (hQ : ¬LetsOut Q) (h:∀ops',wpQuiet P ops' (Below w.heap.size w) (fun a'=>∀w',Below w.heap.size w w'→wpList P l.toArray Q (l.drop n) a' w') (l.take n) a) :
  (Code.region id l.toArray true).wp P Q a w:=
 wp_region_any hm (any_ctail n hB hg (below_drewN (Below.refl _ w) 1) (h _) hQ)
theorem wp_region_ball {P:Program}{id:Nat}{Q:Exit→Act→World→Prop}{a:Act}{w:World}{l:List Oper}(hm:P.follows .mixedOrders=true) (hB:Region.lexB .any l.toArray=true)
  (h:wpQuiet P l.toArray (Below w.heap.size w) (fun a'=>∀w',Below w.heap.size w w'→Q .normal a' w') l a) :
  (Code.region id l.toArray true).wp P Q a w:=
 wp_region_quiet (C:=Below w.heap.size w) hm hB (below_drewN (Below.refl _ w) 1) (by simpa using h)
structure WQ (P:Program) (ops:Array Oper) (C:World→Prop) (Q:Act→Prop) (l:List Oper) (a:Act):Prop where
 out:wpQuiet P ops C Q l a
theorem WQ.nil {P:Program}{ops:Array Oper}{C:World→Prop}{Q:Act→Prop}{a:Act}(h:Q a):WQ P ops C Q [] a:=⟨wpQuiet_nil h⟩
theorem WQ.step {P:Program}{ops:Array Oper}{C:World→Prop}{Q:Act→Prop}{a:Act}{o:Oper}{rest:List Oper}
  (h:∀K:Act→Prop,(∀a,WQ P ops C Q rest a→K a)→if Region.wanted o (yielded ops a.tmps) then o.quiet P a C K else K (a.put o.dst undef)):WQ P ops C Q (o::rest) a:=
 ⟨wpQuiet_step fun K hK=>h K fun a hq=>hK a hq.out⟩
theorem wp_region_bw {P:Program}{id:Nat}{Q:Exit→Act→World→Prop}{a:Act}{w:World}{l:List Oper}(hm:P.follows .mixedOrders=true) (hB:Region.lexB .any l.toArray=true)
  (h:WQ P l.toArray (Below w.heap.size w) (fun a'=>∀w',Below w.heap.size w w'→Q .normal a' w') l a) :
  (Code.region id l.toArray true).wp P Q a w:=wp_region_ball hm hB h.out
theorem boxL2 {w:World}{b:Nat}{t:TypeId}{u0 u1:Value}(h:w.heap[b]? = some (.cells #[u0,u1] t)) :
  w.cell? ⟨b,0,none⟩=some u0∧w.cell? ⟨b,1,none⟩=some u1:=
 ⟨box_cell h rfl,box_cell h rfl⟩
theorem boxL3 {w:World}{b:Nat}{t:TypeId}{u0 u1 u2:Value}(h:w.heap[b]? = some (.cells #[u0,u1,u2] t)) :
  w.cell? ⟨b,0,none⟩=some u0∧w.cell? ⟨b,1,none⟩=some u1∧w.cell? ⟨b,2,none⟩=some u2:=
 ⟨box_cell h rfl,box_cell h rfl,box_cell h rfl⟩
theorem boxL4 {w:World}{b:Nat}{t:TypeId}{u0 u1 u2 u3:Value}(h:w.heap[b]? = some (.cells #[u0,u1,u2,u3] t)) :
  w.cell? ⟨b,0,none⟩=some u0∧w.cell? ⟨b,1,none⟩=some u1∧w.cell? ⟨b,2,none⟩=some u2∧w.cell? ⟨b,3,none⟩=some u3:=
 ⟨box_cell h rfl,box_cell h rfl,box_cell h rfl,box_cell h rfl⟩
theorem boxL6 {w:World}{b:Nat}{t:TypeId}{u0 u1 u2 u3 u4 u5:Value}(h:w.heap[b]? = some (.cells #[u0,u1,u2,u3,u4,u5] t)) :
  w.cell? ⟨b,0,none⟩=some u0∧w.cell? ⟨b,1,none⟩=some u1∧w.cell? ⟨b,2,none⟩=some u2∧w.cell? ⟨b,3,none⟩=some u3∧w.cell? ⟨b,4,none⟩=some u4∧w.cell? ⟨b,5,none⟩=some u5:=
 ⟨box_cell h rfl,box_cell h rfl,box_cell h rfl,box_cell h rfl,box_cell h rfl,box_cell h rfl⟩
theorem boxL7 {w:World}{b:Nat}{t:TypeId}{u0 u1 u2 u3 u4 u5 u6:Value}(h:w.heap[b]? = some (.cells #[u0,u1,u2,u3,u4,u5,u6] t)) :
  w.cell? ⟨b,0,none⟩=some u0∧w.cell? ⟨b,1,none⟩=some u1∧w.cell? ⟨b,2,none⟩=some u2∧w.cell? ⟨b,3,none⟩=some u3∧w.cell? ⟨b,4,none⟩=some u4∧w.cell? ⟨b,5,none⟩=some u5∧w.cell? ⟨b,6,none⟩=some u6:=
 ⟨box_cell h rfl,box_cell h rfl,box_cell h rfl,box_cell h rfl,box_cell h rfl,box_cell h rfl,box_cell h rfl⟩
theorem boxL8 {w:World}{b:Nat}{t:TypeId}{u0 u1 u2 u3 u4 u5 u6 u7:Value}(h:w.heap[b]? = some (.cells #[u0,u1,u2,u3,u4,u5,u6,u7] t)) :
  w.cell? ⟨b,0,none⟩=some u0∧w.cell? ⟨b,1,none⟩=some u1∧w.cell? ⟨b,2,none⟩=some u2∧w.cell? ⟨b,3,none⟩=some u3∧w.cell? ⟨b,4,none⟩=some u4∧w.cell? ⟨b,5,none⟩=some u5∧w.cell? ⟨b,6,none⟩=some u6∧w.cell? ⟨b,7,none⟩=some u7:=
 ⟨box_cell h rfl,box_cell h rfl,box_cell h rfl,box_cell h rfl,box_cell h rfl,box_cell h rfl,box_cell h rfl,box_cell h rfl⟩
theorem boxL9 {w:World}{b:Nat}{t:TypeId}{u0 u1 u2 u3 u4 u5 u6 u7 u8:Value}(h:w.heap[b]? = some (.cells #[u0,u1,u2,u3,u4,u5,u6,u7,u8] t)) :
  w.cell? ⟨b,0,none⟩=some u0∧w.cell? ⟨b,1,none⟩=some u1∧w.cell? ⟨b,2,none⟩=some u2∧w.cell? ⟨b,3,none⟩=some u3∧w.cell? ⟨b,4,none⟩=some u4∧w.cell? ⟨b,5,none⟩=some u5∧w.cell? ⟨b,6,none⟩=some u6∧w.cell? ⟨b,7,none⟩=some u7∧w.cell? ⟨b,8,none⟩=some u8:=
 ⟨box_cell h rfl,box_cell h rfl,box_cell h rfl,box_cell h rfl,box_cell h rfl,box_cell h rfl,box_cell h rfl,box_cell h rfl,box_cell h rfl⟩
theorem freeL2 {w:World}{b:Nat}{t:TypeId}{cs:Array Value}(h:w.heap[b]? = some (.cells cs t)):w.frozen? ⟨b,0,none⟩=false∧w.frozen? ⟨b,1,none⟩=false:=by
 simp[World.frozen?,h]
theorem freeL3 {w:World}{b:Nat}{t:TypeId}{cs:Array Value}(h:w.heap[b]? = some (.cells cs t)):w.frozen? ⟨b,0,none⟩=false∧w.frozen? ⟨b,1,none⟩=false∧w.frozen? ⟨b,2,none⟩=false:=by
 simp[World.frozen?,h]
theorem freeL4 {w:World}{b:Nat}{t:TypeId}{cs:Array Value}(h:w.heap[b]? = some (.cells cs t)):w.frozen? ⟨b,0,none⟩=false∧w.frozen? ⟨b,1,none⟩=false∧w.frozen? ⟨b,2,none⟩=false∧w.frozen? ⟨b,3,none⟩=false:=by
 simp[World.frozen?,h]
theorem freeL6 {w:World}{b:Nat}{t:TypeId}{cs:Array Value}(h:w.heap[b]? = some (.cells cs t)):w.frozen? ⟨b,0,none⟩=false∧w.frozen? ⟨b,1,none⟩=false∧w.frozen? ⟨b,2,none⟩=false∧w.frozen? ⟨b,3,none⟩=false∧w.frozen? ⟨b,4,none⟩=false∧w.frozen? ⟨b,5,none⟩=false:=by
 simp[World.frozen?,h]
theorem freeL7 {w:World}{b:Nat}{t:TypeId}{cs:Array Value}(h:w.heap[b]? = some (.cells cs t)):w.frozen? ⟨b,0,none⟩=false∧w.frozen? ⟨b,1,none⟩=false∧w.frozen? ⟨b,2,none⟩=false∧w.frozen? ⟨b,3,none⟩=false∧w.frozen? ⟨b,4,none⟩=false∧w.frozen? ⟨b,5,none⟩=false∧w.frozen? ⟨b,6,none⟩=false:=by
 simp[World.frozen?,h]
theorem freeL8 {w:World}{b:Nat}{t:TypeId}{cs:Array Value}(h:w.heap[b]? = some (.cells cs t)):w.frozen? ⟨b,0,none⟩=false∧w.frozen? ⟨b,1,none⟩=false∧w.frozen? ⟨b,2,none⟩=false∧w.frozen? ⟨b,3,none⟩=false∧w.frozen? ⟨b,4,none⟩=false∧w.frozen? ⟨b,5,none⟩=false∧w.frozen? ⟨b,6,none⟩=false∧w.frozen? ⟨b,7,none⟩=false:=by
 simp[World.frozen?,h]
theorem storeEnd3 {w:World}{b:Nat}{t:TypeId}{x0 x1 x2 u0 u1 u2:Value}{G:Prop}(h:w.heap[b]? = some (.cells #[x0,x1,x2] t))
  (k:∀W,W=(((w.setCell ⟨b,0,none⟩ u0).setCell ⟨b,1,none⟩ u1).setCell ⟨b,2,none⟩ u2)→(∀(B:Nat) (w0:World),B≤b→Below B w0 w→Below B w0 W)→KeepX t w W→W.heap[b]? = some (.cells #[u0,u1,u2] t)→
   W.cell? ⟨b,0,none⟩=some u0→W.cell? ⟨b,1,none⟩=some u1→W.cell? ⟨b,2,none⟩=some u2→G):G:=by
 obtain⟨W0,e0⟩:=exF (w.setCell ⟨b,0,none⟩ u0);have h0:W0.heap[b]? = some (.cells #[u0,x1,x2] t):=by rw[e0];exact heap_setCell_same w b 0 _ t u0 h
 have k0:KeepX t w W0:=by rw[e0];exact KeepX.trans (KeepX.refl t w) (KeepX.setCell (p:=⟨b,0,none⟩) h u0)
 have b0:∀(B:Nat) (w0:World),B≤b→Below B w0 w→Below B w0 W0:=fun B w0 hB hw=>by rw[e0];exact(hw).setCell (p:=⟨b,0,none⟩) hB _
 obtain⟨W1,e1⟩:=exF (W0.setCell ⟨b,1,none⟩ u1);have h1:W1.heap[b]? = some (.cells #[u0,u1,x2] t):=by rw[e1];exact heap_setCell_same W0 b 1 _ t u1 h0
 have k1:KeepX t w W1:=by rw[e1];exact KeepX.trans k0 (KeepX.setCell (p:=⟨b,1,none⟩) h0 u1)
 have b1:∀(B:Nat) (w0:World),B≤b→Below B w0 w→Below B w0 W1:=fun B w0 hB hw=>by rw[e1];exact(b0 B w0 hB hw).setCell (p:=⟨b,1,none⟩) hB _
 obtain⟨W2,e2⟩:=exF (W1.setCell ⟨b,2,none⟩ u2);have h2:W2.heap[b]? = some (.cells #[u0,u1,u2] t):=by rw[e2];exact heap_setCell_same W1 b 2 _ t u2 h1
 have k2:KeepX t w W2:=by rw[e2];exact KeepX.trans k1 (KeepX.setCell (p:=⟨b,2,none⟩) h1 u2)
 have b2:∀(B:Nat) (w0:World),B≤b→Below B w0 w→Below B w0 W2:=fun B w0 hB hw=>by rw[e2];exact(b1 B w0 hB hw).setCell (p:=⟨b,2,none⟩) hB _
 exact k W2 (by rw[e2,e1,e0]) b2 k2 h2 (box_cell h2 rfl) (box_cell h2 rfl) (box_cell h2 rfl)
theorem storeEnd4 {w:World}{b:Nat}{t:TypeId}{x0 x1 x2 x3 u0 u1 u2 u3:Value}{G:Prop}(h:w.heap[b]? = some (.cells #[x0,x1,x2,x3] t))
  (k:∀W,W=((((w.setCell ⟨b,0,none⟩ u0).setCell ⟨b,1,none⟩ u1).setCell ⟨b,2,none⟩ u2).setCell ⟨b,3,none⟩ u3)→(∀(B:Nat) (w0:World),B≤b→Below B w0 w→Below B w0 W)→KeepX t w W→W.heap[b]? = some (.cells #[u0,u1,u2,u3] t)→
   W.cell? ⟨b,0,none⟩=some u0→W.cell? ⟨b,1,none⟩=some u1→W.cell? ⟨b,2,none⟩=some u2→W.cell? ⟨b,3,none⟩=some u3→G):G:=by
 obtain⟨W0,e0⟩:=exF (w.setCell ⟨b,0,none⟩ u0);have h0:W0.heap[b]? = some (.cells #[u0,x1,x2,x3] t):=by rw[e0];exact heap_setCell_same w b 0 _ t u0 h
 have k0:KeepX t w W0:=by rw[e0];exact KeepX.trans (KeepX.refl t w) (KeepX.setCell (p:=⟨b,0,none⟩) h u0)
 have b0:∀(B:Nat) (w0:World),B≤b→Below B w0 w→Below B w0 W0:=fun B w0 hB hw=>by rw[e0];exact(hw).setCell (p:=⟨b,0,none⟩) hB _
 obtain⟨W1,e1⟩:=exF (W0.setCell ⟨b,1,none⟩ u1);have h1:W1.heap[b]? = some (.cells #[u0,u1,x2,x3] t):=by rw[e1];exact heap_setCell_same W0 b 1 _ t u1 h0
 have k1:KeepX t w W1:=by rw[e1];exact KeepX.trans k0 (KeepX.setCell (p:=⟨b,1,none⟩) h0 u1)
 have b1:∀(B:Nat) (w0:World),B≤b→Below B w0 w→Below B w0 W1:=fun B w0 hB hw=>by rw[e1];exact(b0 B w0 hB hw).setCell (p:=⟨b,1,none⟩) hB _
 obtain⟨W2,e2⟩:=exF (W1.setCell ⟨b,2,none⟩ u2);have h2:W2.heap[b]? = some (.cells #[u0,u1,u2,x3] t):=by rw[e2];exact heap_setCell_same W1 b 2 _ t u2 h1
 have k2:KeepX t w W2:=by rw[e2];exact KeepX.trans k1 (KeepX.setCell (p:=⟨b,2,none⟩) h1 u2)
 have b2:∀(B:Nat) (w0:World),B≤b→Below B w0 w→Below B w0 W2:=fun B w0 hB hw=>by rw[e2];exact(b1 B w0 hB hw).setCell (p:=⟨b,2,none⟩) hB _
 obtain⟨W3,e3⟩:=exF (W2.setCell ⟨b,3,none⟩ u3);have h3:W3.heap[b]? = some (.cells #[u0,u1,u2,u3] t):=by rw[e3];exact heap_setCell_same W2 b 3 _ t u3 h2
 have k3:KeepX t w W3:=by rw[e3];exact KeepX.trans k2 (KeepX.setCell (p:=⟨b,3,none⟩) h2 u3)
 have b3:∀(B:Nat) (w0:World),B≤b→Below B w0 w→Below B w0 W3:=fun B w0 hB hw=>by rw[e3];exact(b2 B w0 hB hw).setCell (p:=⟨b,3,none⟩) hB _
 exact k W3 (by rw[e3,e2,e1,e0]) b3 k3 h3 (box_cell h3 rfl) (box_cell h3 rfl) (box_cell h3 rfl) (box_cell h3 rfl)
theorem storeEnd6 {w:World}{b:Nat}{t:TypeId}{x0 x1 x2 x3 x4 x5 u0 u1 u2 u3 u4 u5:Value}{G:Prop}(h:w.heap[b]? = some (.cells #[x0,x1,x2,x3,x4,x5] t))
  (k:∀W,W=((((((w.setCell ⟨b,0,none⟩ u0).setCell ⟨b,1,none⟩ u1).setCell ⟨b,2,none⟩ u2).setCell ⟨b,3,none⟩ u3).setCell ⟨b,4,none⟩ u4).setCell ⟨b,5,none⟩ u5)→(∀(B:Nat) (w0:World),B≤b→Below B w0 w→Below B w0 W)→KeepX t w W→W.heap[b]? = some (.cells #[u0,u1,u2,u3,u4,u5] t)→
   W.cell? ⟨b,0,none⟩=some u0→W.cell? ⟨b,1,none⟩=some u1→W.cell? ⟨b,2,none⟩=some u2→W.cell? ⟨b,3,none⟩=some u3→W.cell? ⟨b,4,none⟩=some u4→W.cell? ⟨b,5,none⟩=some u5→G):G:=by
 obtain⟨W0,e0⟩:=exF (w.setCell ⟨b,0,none⟩ u0);have h0:W0.heap[b]? = some (.cells #[u0,x1,x2,x3,x4,x5] t):=by rw[e0];exact heap_setCell_same w b 0 _ t u0 h
 have k0:KeepX t w W0:=by rw[e0];exact KeepX.trans (KeepX.refl t w) (KeepX.setCell (p:=⟨b,0,none⟩) h u0)
 have b0:∀(B:Nat) (w0:World),B≤b→Below B w0 w→Below B w0 W0:=fun B w0 hB hw=>by rw[e0];exact(hw).setCell (p:=⟨b,0,none⟩) hB _
 obtain⟨W1,e1⟩:=exF (W0.setCell ⟨b,1,none⟩ u1);have h1:W1.heap[b]? = some (.cells #[u0,u1,x2,x3,x4,x5] t):=by rw[e1];exact heap_setCell_same W0 b 1 _ t u1 h0
 have k1:KeepX t w W1:=by rw[e1];exact KeepX.trans k0 (KeepX.setCell (p:=⟨b,1,none⟩) h0 u1)
 have b1:∀(B:Nat) (w0:World),B≤b→Below B w0 w→Below B w0 W1:=fun B w0 hB hw=>by rw[e1];exact(b0 B w0 hB hw).setCell (p:=⟨b,1,none⟩) hB _
 obtain⟨W2,e2⟩:=exF (W1.setCell ⟨b,2,none⟩ u2);have h2:W2.heap[b]? = some (.cells #[u0,u1,u2,x3,x4,x5] t):=by rw[e2];exact heap_setCell_same W1 b 2 _ t u2 h1
 have k2:KeepX t w W2:=by rw[e2];exact KeepX.trans k1 (KeepX.setCell (p:=⟨b,2,none⟩) h1 u2)
 have b2:∀(B:Nat) (w0:World),B≤b→Below B w0 w→Below B w0 W2:=fun B w0 hB hw=>by rw[e2];exact(b1 B w0 hB hw).setCell (p:=⟨b,2,none⟩) hB _
 obtain⟨W3,e3⟩:=exF (W2.setCell ⟨b,3,none⟩ u3);have h3:W3.heap[b]? = some (.cells #[u0,u1,u2,u3,x4,x5] t):=by rw[e3];exact heap_setCell_same W2 b 3 _ t u3 h2
 have k3:KeepX t w W3:=by rw[e3];exact KeepX.trans k2 (KeepX.setCell (p:=⟨b,3,none⟩) h2 u3)
 have b3:∀(B:Nat) (w0:World),B≤b→Below B w0 w→Below B w0 W3:=fun B w0 hB hw=>by rw[e3];exact(b2 B w0 hB hw).setCell (p:=⟨b,3,none⟩) hB _
 obtain⟨W4,e4⟩:=exF (W3.setCell ⟨b,4,none⟩ u4);have h4:W4.heap[b]? = some (.cells #[u0,u1,u2,u3,u4,x5] t):=by rw[e4];exact heap_setCell_same W3 b 4 _ t u4 h3
 have k4:KeepX t w W4:=by rw[e4];exact KeepX.trans k3 (KeepX.setCell (p:=⟨b,4,none⟩) h3 u4)
 have b4:∀(B:Nat) (w0:World),B≤b→Below B w0 w→Below B w0 W4:=fun B w0 hB hw=>by rw[e4];exact(b3 B w0 hB hw).setCell (p:=⟨b,4,none⟩) hB _
 obtain⟨W5,e5⟩:=exF (W4.setCell ⟨b,5,none⟩ u5);have h5:W5.heap[b]? = some (.cells #[u0,u1,u2,u3,u4,u5] t):=by rw[e5];exact heap_setCell_same W4 b 5 _ t u5 h4
 have k5:KeepX t w W5:=by rw[e5];exact KeepX.trans k4 (KeepX.setCell (p:=⟨b,5,none⟩) h4 u5)
 have b5:∀(B:Nat) (w0:World),B≤b→Below B w0 w→Below B w0 W5:=fun B w0 hB hw=>by rw[e5];exact(b4 B w0 hB hw).setCell (p:=⟨b,5,none⟩) hB _
 exact k W5 (by rw[e5,e4,e3,e2,e1,e0]) b5 k5 h5 (box_cell h5 rfl) (box_cell h5 rfl) (box_cell h5 rfl) (box_cell h5 rfl) (box_cell h5 rfl) (box_cell h5 rfl)
theorem storeEnd7 {w:World}{b:Nat}{t:TypeId}{x0 x1 x2 x3 x4 x5 x6 u0 u1 u2 u3 u4 u5 u6:Value}{G:Prop}(h:w.heap[b]? = some (.cells #[x0,x1,x2,x3,x4,x5,x6] t))
  (k:∀W,W=(((((((w.setCell ⟨b,0,none⟩ u0).setCell ⟨b,1,none⟩ u1).setCell ⟨b,2,none⟩ u2).setCell ⟨b,3,none⟩ u3).setCell ⟨b,4,none⟩ u4).setCell ⟨b,5,none⟩ u5).setCell ⟨b,6,none⟩ u6)→(∀(B:Nat) (w0:World),B≤b→Below B w0 w→Below B w0 W)→KeepX t w W→W.heap[b]? = some (.cells #[u0,u1,u2,u3,u4,u5,u6] t)→
   W.cell? ⟨b,0,none⟩=some u0→W.cell? ⟨b,1,none⟩=some u1→W.cell? ⟨b,2,none⟩=some u2→W.cell? ⟨b,3,none⟩=some u3→W.cell? ⟨b,4,none⟩=some u4→W.cell? ⟨b,5,none⟩=some u5→W.cell? ⟨b,6,none⟩=some u6→G):G:=by
 obtain⟨W0,e0⟩:=exF (w.setCell ⟨b,0,none⟩ u0);have h0:W0.heap[b]? = some (.cells #[u0,x1,x2,x3,x4,x5,x6] t):=by rw[e0];exact heap_setCell_same w b 0 _ t u0 h
 have k0:KeepX t w W0:=by rw[e0];exact KeepX.trans (KeepX.refl t w) (KeepX.setCell (p:=⟨b,0,none⟩) h u0)
 have b0:∀(B:Nat) (w0:World),B≤b→Below B w0 w→Below B w0 W0:=fun B w0 hB hw=>by rw[e0];exact(hw).setCell (p:=⟨b,0,none⟩) hB _
 obtain⟨W1,e1⟩:=exF (W0.setCell ⟨b,1,none⟩ u1);have h1:W1.heap[b]? = some (.cells #[u0,u1,x2,x3,x4,x5,x6] t):=by rw[e1];exact heap_setCell_same W0 b 1 _ t u1 h0
 have k1:KeepX t w W1:=by rw[e1];exact KeepX.trans k0 (KeepX.setCell (p:=⟨b,1,none⟩) h0 u1)
 have b1:∀(B:Nat) (w0:World),B≤b→Below B w0 w→Below B w0 W1:=fun B w0 hB hw=>by rw[e1];exact(b0 B w0 hB hw).setCell (p:=⟨b,1,none⟩) hB _
 obtain⟨W2,e2⟩:=exF (W1.setCell ⟨b,2,none⟩ u2);have h2:W2.heap[b]? = some (.cells #[u0,u1,u2,x3,x4,x5,x6] t):=by rw[e2];exact heap_setCell_same W1 b 2 _ t u2 h1
 have k2:KeepX t w W2:=by rw[e2];exact KeepX.trans k1 (KeepX.setCell (p:=⟨b,2,none⟩) h1 u2)
 have b2:∀(B:Nat) (w0:World),B≤b→Below B w0 w→Below B w0 W2:=fun B w0 hB hw=>by rw[e2];exact(b1 B w0 hB hw).setCell (p:=⟨b,2,none⟩) hB _
 obtain⟨W3,e3⟩:=exF (W2.setCell ⟨b,3,none⟩ u3);have h3:W3.heap[b]? = some (.cells #[u0,u1,u2,u3,x4,x5,x6] t):=by rw[e3];exact heap_setCell_same W2 b 3 _ t u3 h2
 have k3:KeepX t w W3:=by rw[e3];exact KeepX.trans k2 (KeepX.setCell (p:=⟨b,3,none⟩) h2 u3)
 have b3:∀(B:Nat) (w0:World),B≤b→Below B w0 w→Below B w0 W3:=fun B w0 hB hw=>by rw[e3];exact(b2 B w0 hB hw).setCell (p:=⟨b,3,none⟩) hB _
 obtain⟨W4,e4⟩:=exF (W3.setCell ⟨b,4,none⟩ u4);have h4:W4.heap[b]? = some (.cells #[u0,u1,u2,u3,u4,x5,x6] t):=by rw[e4];exact heap_setCell_same W3 b 4 _ t u4 h3
 have k4:KeepX t w W4:=by rw[e4];exact KeepX.trans k3 (KeepX.setCell (p:=⟨b,4,none⟩) h3 u4)
 have b4:∀(B:Nat) (w0:World),B≤b→Below B w0 w→Below B w0 W4:=fun B w0 hB hw=>by rw[e4];exact(b3 B w0 hB hw).setCell (p:=⟨b,4,none⟩) hB _
 obtain⟨W5,e5⟩:=exF (W4.setCell ⟨b,5,none⟩ u5);have h5:W5.heap[b]? = some (.cells #[u0,u1,u2,u3,u4,u5,x6] t):=by rw[e5];exact heap_setCell_same W4 b 5 _ t u5 h4
 have k5:KeepX t w W5:=by rw[e5];exact KeepX.trans k4 (KeepX.setCell (p:=⟨b,5,none⟩) h4 u5)
 have b5:∀(B:Nat) (w0:World),B≤b→Below B w0 w→Below B w0 W5:=fun B w0 hB hw=>by rw[e5];exact(b4 B w0 hB hw).setCell (p:=⟨b,5,none⟩) hB _
 obtain⟨W6,e6⟩:=exF (W5.setCell ⟨b,6,none⟩ u6);have h6:W6.heap[b]? = some (.cells #[u0,u1,u2,u3,u4,u5,u6] t):=by rw[e6];exact heap_setCell_same W5 b 6 _ t u6 h5
 have k6:KeepX t w W6:=by rw[e6];exact KeepX.trans k5 (KeepX.setCell (p:=⟨b,6,none⟩) h5 u6)
 have b6:∀(B:Nat) (w0:World),B≤b→Below B w0 w→Below B w0 W6:=fun B w0 hB hw=>by rw[e6];exact(b5 B w0 hB hw).setCell (p:=⟨b,6,none⟩) hB _
 exact k W6 (by rw[e6,e5,e4,e3,e2,e1,e0]) b6 k6 h6 (box_cell h6 rfl) (box_cell h6 rfl) (box_cell h6 rfl) (box_cell h6 rfl) (box_cell h6 rfl) (box_cell h6 rfl) (box_cell h6 rfl)
theorem storeEnd8 {w:World}{b:Nat}{t:TypeId}{x0 x1 x2 x3 x4 x5 x6 x7 u0 u1 u2 u3 u4 u5 u6 u7:Value}{G:Prop}(h:w.heap[b]? = some (.cells #[x0,x1,x2,x3,x4,x5,x6,x7] t))
  (k:∀W,W=((((((((w.setCell ⟨b,0,none⟩ u0).setCell ⟨b,1,none⟩ u1).setCell ⟨b,2,none⟩ u2).setCell ⟨b,3,none⟩ u3).setCell ⟨b,4,none⟩ u4).setCell ⟨b,5,none⟩ u5).setCell ⟨b,6,none⟩ u6).setCell ⟨b,7,none⟩ u7)→(∀(B:Nat) (w0:World),B≤b→Below B w0 w→Below B w0 W)→KeepX t w W→W.heap[b]? = some (.cells #[u0,u1,u2,u3,u4,u5,u6,u7] t)→
   W.cell? ⟨b,0,none⟩=some u0→W.cell? ⟨b,1,none⟩=some u1→W.cell? ⟨b,2,none⟩=some u2→W.cell? ⟨b,3,none⟩=some u3→W.cell? ⟨b,4,none⟩=some u4→W.cell? ⟨b,5,none⟩=some u5→W.cell? ⟨b,6,none⟩=some u6→W.cell? ⟨b,7,none⟩=some u7→G):G:=by
 obtain⟨W0,e0⟩:=exF (w.setCell ⟨b,0,none⟩ u0);have h0:W0.heap[b]? = some (.cells #[u0,x1,x2,x3,x4,x5,x6,x7] t):=by rw[e0];exact heap_setCell_same w b 0 _ t u0 h
 have k0:KeepX t w W0:=by rw[e0];exact KeepX.trans (KeepX.refl t w) (KeepX.setCell (p:=⟨b,0,none⟩) h u0)
 have b0:∀(B:Nat) (w0:World),B≤b→Below B w0 w→Below B w0 W0:=fun B w0 hB hw=>by rw[e0];exact(hw).setCell (p:=⟨b,0,none⟩) hB _
 obtain⟨W1,e1⟩:=exF (W0.setCell ⟨b,1,none⟩ u1);have h1:W1.heap[b]? = some (.cells #[u0,u1,x2,x3,x4,x5,x6,x7] t):=by rw[e1];exact heap_setCell_same W0 b 1 _ t u1 h0
 have k1:KeepX t w W1:=by rw[e1];exact KeepX.trans k0 (KeepX.setCell (p:=⟨b,1,none⟩) h0 u1)
 have b1:∀(B:Nat) (w0:World),B≤b→Below B w0 w→Below B w0 W1:=fun B w0 hB hw=>by rw[e1];exact(b0 B w0 hB hw).setCell (p:=⟨b,1,none⟩) hB _
 obtain⟨W2,e2⟩:=exF (W1.setCell ⟨b,2,none⟩ u2);have h2:W2.heap[b]? = some (.cells #[u0,u1,u2,x3,x4,x5,x6,x7] t):=by rw[e2];exact heap_setCell_same W1 b 2 _ t u2 h1
 have k2:KeepX t w W2:=by rw[e2];exact KeepX.trans k1 (KeepX.setCell (p:=⟨b,2,none⟩) h1 u2)
 have b2:∀(B:Nat) (w0:World),B≤b→Below B w0 w→Below B w0 W2:=fun B w0 hB hw=>by rw[e2];exact(b1 B w0 hB hw).setCell (p:=⟨b,2,none⟩) hB _
 obtain⟨W3,e3⟩:=exF (W2.setCell ⟨b,3,none⟩ u3);have h3:W3.heap[b]? = some (.cells #[u0,u1,u2,u3,x4,x5,x6,x7] t):=by rw[e3];exact heap_setCell_same W2 b 3 _ t u3 h2
 have k3:KeepX t w W3:=by rw[e3];exact KeepX.trans k2 (KeepX.setCell (p:=⟨b,3,none⟩) h2 u3)
 have b3:∀(B:Nat) (w0:World),B≤b→Below B w0 w→Below B w0 W3:=fun B w0 hB hw=>by rw[e3];exact(b2 B w0 hB hw).setCell (p:=⟨b,3,none⟩) hB _
 obtain⟨W4,e4⟩:=exF (W3.setCell ⟨b,4,none⟩ u4);have h4:W4.heap[b]? = some (.cells #[u0,u1,u2,u3,u4,x5,x6,x7] t):=by rw[e4];exact heap_setCell_same W3 b 4 _ t u4 h3
 have k4:KeepX t w W4:=by rw[e4];exact KeepX.trans k3 (KeepX.setCell (p:=⟨b,4,none⟩) h3 u4)
 have b4:∀(B:Nat) (w0:World),B≤b→Below B w0 w→Below B w0 W4:=fun B w0 hB hw=>by rw[e4];exact(b3 B w0 hB hw).setCell (p:=⟨b,4,none⟩) hB _
 obtain⟨W5,e5⟩:=exF (W4.setCell ⟨b,5,none⟩ u5);have h5:W5.heap[b]? = some (.cells #[u0,u1,u2,u3,u4,u5,x6,x7] t):=by rw[e5];exact heap_setCell_same W4 b 5 _ t u5 h4
 have k5:KeepX t w W5:=by rw[e5];exact KeepX.trans k4 (KeepX.setCell (p:=⟨b,5,none⟩) h4 u5)
 have b5:∀(B:Nat) (w0:World),B≤b→Below B w0 w→Below B w0 W5:=fun B w0 hB hw=>by rw[e5];exact(b4 B w0 hB hw).setCell (p:=⟨b,5,none⟩) hB _
 obtain⟨W6,e6⟩:=exF (W5.setCell ⟨b,6,none⟩ u6);have h6:W6.heap[b]? = some (.cells #[u0,u1,u2,u3,u4,u5,u6,x7] t):=by rw[e6];exact heap_setCell_same W5 b 6 _ t u6 h5
 have k6:KeepX t w W6:=by rw[e6];exact KeepX.trans k5 (KeepX.setCell (p:=⟨b,6,none⟩) h5 u6)
 have b6:∀(B:Nat) (w0:World),B≤b→Below B w0 w→Below B w0 W6:=fun B w0 hB hw=>by rw[e6];exact(b5 B w0 hB hw).setCell (p:=⟨b,6,none⟩) hB _
 obtain⟨W7,e7⟩:=exF (W6.setCell ⟨b,7,none⟩ u7);have h7:W7.heap[b]? = some (.cells #[u0,u1,u2,u3,u4,u5,u6,u7] t):=by rw[e7];exact heap_setCell_same W6 b 7 _ t u7 h6
 have k7:KeepX t w W7:=by rw[e7];exact KeepX.trans k6 (KeepX.setCell (p:=⟨b,7,none⟩) h6 u7)
 have b7:∀(B:Nat) (w0:World),B≤b→Below B w0 w→Below B w0 W7:=fun B w0 hB hw=>by rw[e7];exact(b6 B w0 hB hw).setCell (p:=⟨b,7,none⟩) hB _
 exact k W7 (by rw[e7,e6,e5,e4,e3,e2,e1,e0]) b7 k7 h7 (box_cell h7 rfl) (box_cell h7 rfl) (box_cell h7 rfl) (box_cell h7 rfl) (box_cell h7 rfl) (box_cell h7 rfl) (box_cell h7 rfl) (box_cell h7 rfl)
theorem storeEnd2 {w:World}{b:Nat}{t:TypeId}{x0 x1 u0 u1:Value}{G:Prop}(h:w.heap[b]? = some (.cells #[x0,x1] t))
  (k:∀W,W=((w.setCell ⟨b,0,none⟩ u0).setCell ⟨b,1,none⟩ u1)→(∀(B:Nat) (w0:World),B≤b→Below B w0 w→Below B w0 W)→KeepX t w W→W.heap[b]? = some (.cells #[u0,u1] t)→
   W.cell? ⟨b,0,none⟩=some u0→W.cell? ⟨b,1,none⟩=some u1→G):G:=by
 obtain⟨W0,e0⟩:=exF (w.setCell ⟨b,0,none⟩ u0);have h0:W0.heap[b]? = some (.cells #[u0,x1] t):=by rw[e0];exact heap_setCell_same w b 0 _ t u0 h
 have k0:KeepX t w W0:=by rw[e0];exact KeepX.trans (KeepX.refl t w) (KeepX.setCell (p:=⟨b,0,none⟩) h u0)
 have b0:∀(B:Nat) (w0:World),B≤b→Below B w0 w→Below B w0 W0:=fun B w0 hB hw=>by rw[e0];exact(hw).setCell (p:=⟨b,0,none⟩) hB _
 obtain⟨W1,e1⟩:=exF (W0.setCell ⟨b,1,none⟩ u1);have h1:W1.heap[b]? = some (.cells #[u0,u1] t):=by rw[e1];exact heap_setCell_same W0 b 1 _ t u1 h0
 have k1:KeepX t w W1:=by rw[e1];exact KeepX.trans k0 (KeepX.setCell (p:=⟨b,1,none⟩) h0 u1)
 have b1:∀(B:Nat) (w0:World),B≤b→Below B w0 w→Below B w0 W1:=fun B w0 hB hw=>by rw[e1];exact(b0 B w0 hB hw).setCell (p:=⟨b,1,none⟩) hB _
 exact k W1 (by rw[e1,e0]) b1 k1 h1 (box_cell h1 rfl) (box_cell h1 rfl)
end Go.Proofs.YtmikofeildnpdaaGreat

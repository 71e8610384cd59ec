/- Texts of this claim, put together: QS CL CS GC QE RC K0 ZB L1 IT YR1. -/
import Derived.Test.YtmikofeildnpdaaGreatKZn
import Derived.Laws.EntriesVeiled
import Derived.Laws.CopyRow

set_option maxRecDepth 100000
set_option maxHeartbeats 12800000
namespace Go.Proofs.YtmikofeildnpdaaGreat
def bkK {α:Type}(cmp:α→α→Int) (d x:α) (l:List α):Nat→Nat
 | 0=>0
 | k+1=>if cmp x (l.getD k d) < 0 then bkK cmp d x l k else k+1
def insB {α:Type}(cmp:α→α→Int) (d x:α) (l:List α):List α:=l.take (bkK cmp d x l l.length)++x::l.drop (bkK cmp d x l l.length)
def srtB {α:Type}(cmp:α→α→Int) (d:α) (l:List α):List α:=l.foldl (fun o x=>insB cmp d x o) []
structure WeakO {α:Type} (cmp:α→α→Int):Prop where
 asymm:∀a b,cmp a b < 0→¬cmp b a < 0
 ntrans:∀a b c,¬cmp a b < 0→¬cmp b c < 0→¬cmp a c < 0
def SrtG {α:Type}(cmp:α→α→Int) (l:List α):Prop:=l.Pairwise fun a b=>¬cmp b a < 0
section
variable {α:Type} {cmp:α→α→Int} {d x:α}
theorem bkK_le (l:List α):∀k,bkK cmp d x l k≤k
 | 0=>Nat.le_refl _
 | k+1=>by
  rw[bkK];split
  ·have:=bkK_le l k;omega
  ·exact Nat.le_refl _
theorem bkK_gt (l:List α):∀k j,bkK cmp d x l k≤j→j < k→cmp x (l.getD j d) < 0
 | 0,_,_,h=>absurd h (by omega)
 | k+1,j,h1,h2=>by
  rw[bkK] at h1;split at h1
  ·rename_i h
   by_cases e:j=k
   ·subst e;exact h
   ·exact bkK_gt l k j h1 (by omega)
  ·omega
theorem bkK_at (l:List α):∀k p,bkK cmp d x l k=p+1→¬cmp x (l.getD p d) < 0
 | 0,p,h=>by rw[bkK] at h;omega
 | k+1,p,h=>by
  rw[bkK] at h;split at h
  ·exact bkK_at l k p h
  ·rename_i h1
   obtain rfl:k=p:=(by omega);exact h1
theorem insB_perm (l:List α):(insB cmp d x l).Perm (x::l):=by
 unfold insB;refine List.perm_middle.trans ?_;rw[List.take_append_drop]
theorem insB_sorted (hO:WeakO cmp) {l:List α}(h:SrtG cmp l):SrtG cmp (insB cmp d x l):=by
 obtain⟨K,hK⟩:=exE (bkK cmp d x l l.length);have hKl:K≤l.length:=by rw[←hK];exact bkK_le l l.length
 unfold insB;rw[hK]
 have hlo:∀a∈l.take K,¬cmp x a < 0:=fun a ha=>by
  obtain⟨i,hi,rfl⟩:=List.mem_iff_getElem.1 ha;rw[List.length_take] at hi;obtain⟨p,rfl⟩:∃p,K=p+1:=⟨K - 1,by omega⟩;have h1:=bkK_at l l.length p hK;rw[List.getElem_take];rw[List.getD_eq_getElem?_getD,List.getElem?_eq_getElem (by omega)] at h1;by_cases e:i=p
  ·subst e;exact h1
  ·exact hO.ntrans _ _ _ h1 ((List.pairwise_iff_getElem.1 h) i p (by omega) (by omega) (by omega))
 have hhi:∀b∈l.drop K,cmp x b < 0:=fun b hb=>by
  obtain⟨i,hi,rfl⟩:=List.mem_iff_getElem.1 hb;rw[List.length_drop] at hi;have:=bkK_gt (cmp:=cmp) (d:=d) (x:=x) l l.length (K+i) (by rw[hK];omega) (by omega)
  rw[List.getElem_drop];rwa [List.getD_eq_getElem?_getD,List.getElem?_eq_getElem (by omega)] at this
 rw[SrtG,List.pairwise_append,List.pairwise_cons];refine⟨List.Pairwise.sublist (List.take_sublist _ _) h,⟨fun b hb=>hO.asymm _ _ (hhi b hb),List.Pairwise.sublist (List.drop_sublist _ _) h⟩,fun a ha b hb=>?_⟩;rcases List.mem_cons.1 hb with rfl|hb
 ·exact hlo a ha
 ·intro hc;exact hO.ntrans _ _ _ (hO.asymm _ _ (hhi b hb)) (hlo a ha) hc
theorem srtB_go (hO:WeakO cmp):∀(l o:List α),SrtG cmp o→(l.foldl (fun o x=>insB cmp d x o) o).Perm (o++l)∧SrtG cmp (l.foldl (fun o x=>insB cmp d x o) o)
 | [],o,h=>⟨by simp,h⟩
 | x::l,o,h=>by
  obtain⟨h1,h2⟩:=srtB_go hO l (insB cmp d x o) (insB_sorted hO h);rw[List.foldl_cons];refine⟨h1.trans ?_,h2⟩;refine((insB_perm o).append_right l).trans ?_;exact List.perm_middle.symm
theorem srtB_perm (hO:WeakO cmp) (l:List α):(srtB cmp d l).Perm l:=by
 have:=(srtB_go (d:=d) hO l [] (by simp[SrtG])).1
 simpa [srtB] using this
theorem srtB_sorted (hO:WeakO cmp) (l:List α):SrtG cmp (srtB cmp d l):=(srtB_go (d:=d) hO l [] (by simp[SrtG])).2
theorem srtB_uniq (hO:WeakO cmp) {l m:List α}(hp:m.Perm l) (hs:SrtG cmp m) (ha:∀a∈l,∀b∈l,¬cmp a b < 0→¬cmp b a < 0→a=b):m=srtB cmp d l:=by
 refine List.Perm.eq_of_pairwise (le:=fun a b=>¬cmp b a < 0) (fun a b h1 h2 h3 h4=>?_) hs (srtB_sorted hO l) (hp.trans (srtB_perm hO l).symm);exact ha a (hp.mem_iff.1 h1) b ((srtB_perm hO l).mem_iff.1 h2) h4 h3
theorem srtB_len (hO:WeakO cmp) (l:List α):(srtB cmp d l).length=l.length:=(srtB_perm hO l).length_eq
theorem srtB_mem (hO:WeakO cmp) (l:List α) {z:α}:z∈srtB cmp d l↔z∈l:=(srtB_perm hO l).mem_iff
end
theorem weakL:WeakO cmpL:=⟨cmpL_asymm,cmpL_ntrans⟩
theorem cmpL_anti {a b:List Int}(h1 : ¬cmpL a b < 0) (h2 : ¬cmpL b a < 0):a=b:=by
 rcases cmpL_total a b with h|h|h
 ·exact absurd h h1
 ·exact h
 ·exact absurd h h2
def cmpM (m m':List Int):Int:=cmpL (rdOf m) (rdOf m')
theorem weakM:WeakO cmpM:=⟨fun _ _ h=>cmpL_asymm _ _ h,fun _ _ _ h k=>cmpL_ntrans _ _ _ h k⟩
end Go.Proofs.YtmikofeildnpdaaGreat
namespace Go.Proofs.YtmikofeildnpdaaGreat
open Go.RowKit
theorem chunks_eq {α:Type}{k:Nat}:∀(n:Nat) (a b:List α),a.length=n * k→b.length=n * k→(∀j,j < n→(a.drop (j * k)).take k=(b.drop (j * k)).take k)→a=b
 | 0,a,b,ha,hb,_=>by
  rw[Nat.zero_mul] at ha hb;rw[List.length_eq_zero_iff.1 ha,List.length_eq_zero_iff.1 hb]
 | n+1,a,b,ha,hb,h=>by
  rw[Nat.succ_mul] at ha hb;rw[←List.take_append_drop k a,←List.take_append_drop k b];have h0:=h 0 (by omega);rw[Nat.zero_mul,List.drop_zero,List.drop_zero] at h0;rw[h0,chunks_eq (k:=k) n (a.drop k) (b.drop k) (by rw[List.length_drop];omega) (by rw[List.length_drop];omega) fun j hj=>?_];have:=h (j+1) (by omega)
  rw[Nat.succ_mul,Nat.add_comm (j * k) k] at this;rwa [List.drop_drop,List.drop_drop]
theorem OwX.lens {E:TypeId}{k:Nat}{w:World}{B n:Nat}{v:Value}{xs:List (List Int)}(h:OwX E k EI w B v n xs):∀x∈xs,x.length=k:=fun x hx=>by
 obtain⟨vs,h1,h2,h3,h4⟩:=h;obtain⟨j,hj,rfl⟩:=List.getElem_of_mem hx;have he:(vs.drop (j * k)).take k=xs[j].map (Value.int .i64):=h4 j _ (List.getElem?_eq_getElem hj);have hvl:vs.length=n * k:=h1.1;have hle:j * k+k≤n * k:=by rw[←Nat.succ_mul];exact Nat.mul_le_mul_right _ (by omega)
 have:=congrArg List.length he
 rw[List.length_take,List.length_drop,List.length_map] at this;omega
theorem OwX.flatV {E:TypeId}{k:Nat}{w:World}{B n:Nat}{v:Value}{xs:List (List Int)}(h:OwX E k EI w B v n xs):w.ownsRow B E k v n (xs.flatten.map (Value.int .i64)):=by
 have hl:=h.lens;obtain⟨vs,h1,h2,h3,h4⟩:=h;have hvl:vs.length=n * k:=h1.1
 have:vs=xs.flatten.map (Value.int .i64):=by
  refine chunks_eq n _ _ hvl (by rw[List.length_map,flat_len hl,h2]) fun j hj=>?_;have hx:xs[j]? = some xs[j]:=List.getElem?_eq_getElem (by omega);have he:(vs.drop (j * k)).take k=xs[j].map (Value.int .i64):=h4 j _ hx;rw[he,←List.map_drop,←List.map_take,flat_get hl hx]
 rw[←this];exact h1
theorem run_appXs {P:Program}{T E ty:TypeId}{z:Value}{k bytes:Nat}(hE:ElemK P T E z k bytes) (hby:bytes≤128) (hk:0 < k) {w:World}{B n:Nat}{v:Value}{xs ys:List (List Int)}
  (hown:OwX E k EI w B v n xs) {ya:Option Addr} {yc:Nat} (hy:KS k w (.slice ya ys.length yc) ys) (hz:ya=none→yc=0) (hn:n+ys.length≤1000000) (hB:B≤w.heap.size) :
  ∃v' w',(Builtin.append_ #[T,T] ty #[v,.slice ya ys.length yc]).run P w = .ok v' w'∧OwX E k EI w' B v' (n+ys.length) (xs++ys)∧w.grownBy w' v.ownBlock∧Below B w w'∧KeepX E w w':=by
 obtain⟨i0,hi,hz0,hz1,hz2⟩:=info_parts hE.2.1;have hfl:=hown.flatV;have hlx:=hown.lens;have hxn:=hown.length;obtain⟨a',c',b,off,he,ha,hc,_⟩:=hy;injection he with he1 he2 he3;subst he1 he3;have hly:=KS.lens hc
 have hlens:∀x∈xs++ys,x.length=k:=fun x hx=>by
  rcases List.mem_append.1 hx with h|h
  ·exact hlx x h
  ·exact hly x h
 cases ya with
 | none=>
  obtain rfl:=hz rfl
  have h0:ys.length=0:=by
   rcases Nat.eq_zero_or_pos ys.length with h|h
   ·exact h
   ·cases ha h
  obtain rfl:=List.length_eq_zero_iff.1 h0;exact⟨v,w,run_append_owned_none (P:=P) (w:=w) B T ty E i0 k hE.1 hi v n _ hfl,by rw[List.append_nil];exact hown,⟨rfl,rfl,rfl,Nat.le_refl _,fun _ _ _=>rfl⟩,Below.refl _ _,KeepX.below (Below.refl _ _)⟩
 | some ad=>
  have hnews:∀j u,(ys.flatten.map (Value.int .i64))[j]? = some u→w.cell? (ad.add j)=some u:=fun j u hj=>by
   have hpos:0 < ys.length:=by
    rcases Nat.eq_zero_or_pos ys.length with h|h
    ·rw[List.length_eq_zero_iff.1 h] at hj;simp at hj
    ·exact h
   have:=ha hpos
   injection this with this;subst this;rw[Addr.add_lit];exact KS.flat hc j u hj
  have hone:∀u∈ys.flatten.map (Value.int .i64),u.oneCell'=true:=fun u hu=>by
   obtain⟨i,_,rfl⟩:=List.mem_map.1 hu;rfl
  have hbd:(n+ys.length) * bytes≤140737488355328:=by
   have:(n+ys.length) * bytes≤1000000 * 128:=Nat.mul_le_mul hn hby
   omega
  obtain⟨v',w',hr,h1,hg,_,_⟩:=run_append_own_at (P:=P) w B T ty E i0 z k bytes hE.1 hi hz0 hz1 hz2 hE.2.2 hk v n _ hfl ad ys.length yc (ys.flatten.map (Value.int .i64)) (by rw[List.length_map,flat_len hly]) hnews hone (by unfold maxLen;omega) hbd hB;refine⟨v',w',hr,OwX.ofFlat (by rw[List.flatten_append,List.map_append];exact h1) hlens (by rw[List.length_append,hxn]),hg,(Below.refl B w).grown hg hB (fun k hk=>(hfl.lt k hk).1),KeepX.own hfl hg⟩
theorem wpList_appXs {P:Program}{T E:TypeId}{z:Value}{k bytes:Nat}(hE:ElemK P T E z k bytes) (hby:bytes≤128) (hk:0 < k) {w:World}{ops:Array Oper}{rest:List Oper}{o:Oper}{a:Act}{Q:Exit→Act→World→Prop}(hgd:o.guard=none) (s y:Operand)
  (ho:o.op = .call { callee:=.builtin .append,args:=#[s,y],argTypes:=#[T,T] }) {B n:Nat} {v:Value} {xs ys:List (List Int)} (hs:a.eval s=v)
  (hown:OwX E k EI w B v n xs) {ya:Option Addr} {yc m:Nat} (hx:a.eval y = .slice ya m yc) (hm:m=ys.length) (hy:KS k w (.slice ya ys.length yc) ys) (hz:ya=none→yc=0) (hn:n+ys.length≤1000000) (hB:B≤w.heap.size)
  (h:∀v' w',OwX E k EI w' B v' (n+ys.length) (xs++ys)→w.grownBy w' v.ownBlock→Below B w w'→KeepX E w w'→wpList P ops Q rest (a.put o.dst v') w'):wpList P ops Q (o::rest) a w:=by
 subst hm;refine wpList_plain hgd fun K hK=>?_;obtain⟨v',w',hr,h2,h3,h4,h5⟩:=run_appXs (P:=P) (ty:=o.type) hE hby hk hown hy hz hn hB;unfold Oper.wp execOp;simp only[ho,resolve,invoke,builtin,Sem.run_bind,Sem.run_pure,Result.andThen_ok,List.map_toArray,List.map_cons,List.map_nil,hs,hx,hr];exact hK _ _ (h v' w' h2 h3 h4 h5)
theorem OwX.cap {α:Type}{E:TypeId}{k:Nat}{El:World→List Value→α→Prop}{w:World}{B n m c:Nat}{a:Option Addr}{xs:List α}(h:OwX E k El w B (.slice a m c) n xs):n≤c:=by
 obtain⟨vs,h1,_⟩:=h;rcases h1.2 with⟨he,h0⟩|⟨g,cap,cur,he,_,_,hc,_⟩
 ·omega
 ·injection he with _ _ e3;subst e3;exact hc
theorem OwX.nilc {α:Type}{E:TypeId}{k:Nat}{El:World→List Value→α→Prop}{w:World}{B n m c:Nat}{a:Option Addr}{xs:List α}(h:OwX E k El w B (.slice a m c) n xs):a=none→c=0∧xs.length=0:=fun ha=>by
 obtain⟨vs,h1,h2,_⟩:=h;rcases h1.2 with⟨he,h0⟩|⟨g,cap,cur,he,_⟩
 ·injection he with _ e2 e3;exact⟨e3,by omega⟩
 ·injection he with e1 _ _;rw[ha] at e1;cases e1
theorem KS.front {k:Nat}{w:World}{a:Option Addr}{c:Nat}{xs:List (List Int)}(h:KS k w (.slice a xs.length c) xs) (m:Nat) (hm:m≤xs.length):KS k w (.slice a (xs.take m).length c) (xs.take m):=by
 obtain⟨a',c',b,off,he,ha,hc,hl⟩:=h;injection he with he1 _ he3;subst he1 he3;refine⟨a,c,b,off,rfl,fun h=>ha (by rw[List.length_take] at h;omega),fun j hj=>?_,by rw[List.length_take];omega⟩;rw[List.length_take] at hj;have:=hc j (by omega)
 rwa [show(xs.take m).getD j []=xs.getD j [] by rw[List.getD_eq_getElem?_getD,List.getElem?_take,if_pos (by omega),←List.getD_eq_getElem?_getD]]
theorem KS.back {k:Nat}{w:World}{b off c:Nat}{xs:List (List Int)}(h:KS k w (.slice (some ⟨b,off,none⟩) xs.length c) xs) (m:Nat) (hm:m≤xs.length) (c':Nat) (ad:Option Addr) (had:m < xs.length→ad=some ⟨b,off+m * k,none⟩):KS k w (.slice ad (xs.drop m).length c') (xs.drop m):=by
 obtain⟨a',c1,b',off',he,ha,hc,hl⟩:=h;injection he with he1 _ he3;refine⟨ad,c',b,off+m * k,rfl,fun h=>had (by rw[List.length_drop] at h;omega),fun j hj=>?_,by rw[List.length_drop];omega⟩;rw[List.length_drop] at hj;have h2:=ha (by omega);rw[←he1] at h2;injection h2 with h2;injection h2 with hb ho;subst hb ho;have:=hc (m+j) (by omega)
 rw[show(xs.drop m).getD j []=xs.getD (m+j) [] by rw[List.getD_eq_getElem?_getD,List.getElem?_drop,←List.getD_eq_getElem?_getD],show off+m * k+j * k=off+(m+j) * k by rw[Nat.add_mul];omega];exact this
theorem OwX.rest {E:TypeId}{k:Nat}{w:World}{B n c:Nat}{a:Option Addr}{xs:List (List Int)}(h:OwX E k EI w B (.slice a n c) n xs) (hn:n≤2199023255552) {m:Nat}(hm:m≤n) :
  KS k w (.slice (if c=m then a else a.map (fun p:Addr=>p.add (m * k))) (xs.drop m).length (c - m)) (xs.drop m)∧((if c=m then a else a.map (fun p:Addr=>p.add (m * k)))=none→c - m=0):=by
 have hc:=h.cap;have hz:=h.nilc;have hl:=h.length;subst hl;have hks:=h.ks hn;constructor
 ·cases a with
  | none=>
   obtain⟨_,h0⟩:=hz rfl;obtain rfl:=List.length_eq_zero_iff.1 h0;rw[List.drop_nil];exact KS.nil _ _ _ _
  | some ad=>
   obtain⟨a',c',b,off,he,ha,hcs,_⟩:=id hks;injection he with he1 _ he3;rcases Nat.eq_zero_or_pos xs.length with h0|h0
   ·obtain rfl:=List.length_eq_zero_iff.1 h0;rw[List.drop_nil];exact KS.nil _ _ _ _
   ·have:=ha h0
    rw[←he1] at this;injection this with this;subst this;refine hks.back m hm _ _ fun hlt=>?_;rw[if_neg (by omega)];show some (Addr.add _ _)=_;rw[Addr.add_lit]
 ·intro h1;cases a with
  | none=>obtain⟨h2,_⟩:=hz rfl;omega
  | some ad=>
   split at h1
   ·cases h1
   ·cases h1
def OB (w:World) (B:Nat) (v:Value) (n:Nat) (xs:List Bool):Prop:=w.ownsRow B 4 1 v n (xs.map Value.bool)
theorem OB.length {w:World}{B:Nat}{v:Value}{n:Nat}{xs:List Bool}(h:OB w B v n xs):xs.length=n:=by have:=h.1;simpa using this
theorem OB.store {w:World}{B g n cap:Nat}{xs:List Bool}(h:OB w B (.slice (some ⟨g,0,none⟩) n cap) n xs) (j:Nat) (y:Bool) :
  OB (w.setCell ⟨g,j,none⟩ (.bool y)) B (.slice (some ⟨g,0,none⟩) n cap) n (xs.set j y):=by
 have:=(World.ownsRow.stored h j (.bool y)).1
 unfold OB;rw[List.map_set];exact this
end Go.Proofs.YtmikofeildnpdaaGreat
namespace Go.Proofs.YtmikofeildnpdaaGreat
section
variable {ss:List (List (List Int))}
theorem toI_some {r:List Int}:∀ {x:List (List Int)},0≤toI r x→∃m∈x,rdOf m=r∧toI r x=m.getD 7 0
 | [],h=>by simp[toI] at h
 | a::x,h=>by
  rw[toI] at h⊢;by_cases e:rdOf a=r
  ·rw[if_pos e];exact⟨a,by simp,e,rfl⟩
  ·rw[if_neg e] at h⊢;obtain⟨m,h1,h2,h3⟩:=toI_some h;exact⟨m,by simp[h1],h2,h3⟩
theorem alw_cons_some {r:List Int}{w:List (List Int)}{s:Nat}(h:alw ss (r::w) s):∃m∈ss.getD s [],rdOf m=r∧alw ss w (mvTo m):=by
 obtain⟨m,h1,h2,h3⟩:=toI_some h.1;refine⟨m,h1,h2,?_⟩;have h4:=h.2;rw[h3] at h4;exact h4
theorem alw_cons_mem (hA:∀s∈ss,AscL (s.map rdOf)) (hM:LeadOK ss) {m:List Int}{w:List (List Int)}{s:Nat}(hm:m∈ss.getD s []):alw ss (rdOf m::w) s↔alw ss w (mvTo m):=by
 have hs:s < ss.length:=by
  rcases Nat.lt_or_ge s ss.length with h|h
  ·exact h
  ·rw[List.getD_eq_getElem?_getD,List.getElem?_eq_none h] at hm;cases hm
 have hin:ss.getD s []∈ss:=by rw[getD_eq hs];exact List.getElem_mem hs
 have h1:=toI_mem (hA _ hin) hm;have h2:=(hM _ hin m hm).1;rw[alw,h1];exact⟨fun h=>h.2,fun h=>⟨h2,h⟩⟩
end
end Go.Proofs.YtmikofeildnpdaaGreat
namespace Go.Proofs.YtmikofeildnpdaaGreat
theorem getD_app2 {α:Type}{l t:List α}{j:Nat}{d:α}(h:j < l.length):(l++t).getD j d=l.getD j d:=by
 rw[List.getD_eq_getElem?_getD,List.getD_eq_getElem?_getD,List.getElem?_append_left h]
section
variable {aa bb:List (List (List Int))}
structure WfS (ss:List (List (List Int))):Prop where
 asc:∀s∈ss,AscL (s.map rdOf)
 lead:LeadOK ss
 pos:0 < ss.length
abbrev Pq:=List (Nat × Nat)
def pushP (Q:Pq) (y:Nat × Nat):Pq:=if y∈Q then Q else Q ++ [y]
def fsIn (aa:List (List (List Int))) (t:Nat) (k:Pq→Option Bool):List (List Int)→Pq→Option Bool
 | [],Q=>k Q
 | m::ms,Q=>if toI (rdOf m) (aa.getD t []) < 0 then some true else fsIn aa t k ms (pushP Q (mvTo m,(toI (rdOf m) (aa.getD t [])).toNat))
def fsGo (aa bb:List (List (List Int))):Nat→Nat→Pq→Option Bool
 | 0,_,_=>none
 | f+1,n,Q=>if n < Q.length then fsIn aa (Q.getD n (0,0)).2 (fsGo aa bb f (n+1)) (bb.getD (Q.getD n (0,0)).1 []) Q else some false
def esIn (k:Pq→Option Bool):List (List Int)→List (List Int)→Pq→Option Bool
 | [],[],Q=>k Q
 | m::ms,m'::ms',Q=>if rdOf m=rdOf m' then esIn k ms ms' (pushP Q (mvTo m,mvTo m')) else some true
 | [],_::_,_=>some true
 | _::_,[],_=>some true
def esGo (aa bb:List (List (List Int))):Nat→Nat→Pq→Option Bool
 | 0,_,_=>none
 | f+1,n,Q=>if n < Q.length then esIn (esGo aa bb f (n+1)) (aa.getD (Q.getD n (0,0)).1 []) (bb.getD (Q.getD n (0,0)).2 []) Q else some false
theorem pushP_pre (Q:Pq) (y:Nat × Nat):∃T,pushP Q y=Q++T:=by
 unfold pushP;split
 ·exact⟨[],by simp⟩
 ·exact⟨[y],rfl⟩
theorem pushP_mem {Q:Pq}{x y:Nat × Nat}:x∈pushP Q y↔x∈Q∨x=y:=by
 unfold pushP;split
 ·rename_i h
  exact⟨.inl,fun h'=>h'.elim id fun e=>e▸h⟩
 ·rw[List.mem_append,List.mem_singleton]
theorem pushP_nodup {Q:Pq}{y:Nat × Nat}(h:Q.Nodup):(pushP Q y).Nodup:=by
 unfold pushP;split
 ·exact h
 ·rename_i hn
  rw[List.nodup_append];exact⟨h,by simp,fun a ha b hb e=>by rw[List.mem_singleton] at hb;subst hb;subst e;exact hn ha⟩
theorem stIn {ss:List (List (List Int))}{s:Nat}{m:List Int}(h:m∈ss.getD s []):ss.getD s []∈ss∧s < ss.length:=by
 have hs:s < ss.length:=by
  rcases Nat.lt_or_ge s ss.length with h1|h1
  ·exact h1
  ·rw[List.getD_eq_getElem?_getD,List.getElem?_eq_none h1] at h;cases h
 exact⟨by rw[getD_eq hs];exact List.getElem_mem hs,hs⟩
theorem WfS.to {ss:List (List (List Int))}(h:WfS ss) {s:Nat}{m:List Int}(hm:m∈ss.getD s []):mvTo m < ss.length:=by
 obtain⟨h1,_⟩:=stIn hm;have:=h.lead _ h1 m hm
 rw[mvTo];omega
theorem WfS.toLt {ss:List (List (List Int))}(h:WfS ss) {s:Nat}{r:List Int}(hr : ¬toI r (ss.getD s []) < 0):(toI r (ss.getD s [])).toNat < ss.length:=by
 have hin:=(toI_in (r:=r) (x:=ss.getD s []) fun m hm=>(h.lead _ (stIn hm).1 m hm).1).1 (by omega);obtain⟨m,hm,rfl⟩:=List.mem_map.1 hin;rw[toI_mem (h.asc _ (stIn hm).1) hm];exact h.to hm
def ClF (aa bb:List (List (List Int))) (Q:Pq) (p:Nat × Nat):Prop:=∀m∈bb.getD p.1 [],0≤toI (rdOf m) (aa.getD p.2 [])∧(mvTo m,(toI (rdOf m) (aa.getD p.2 [])).toNat)∈Q
def ClE (aa bb:List (List (List Int))) (Q:Pq) (p:Nat × Nat):Prop:=(aa.getD p.1 []).map rdOf=(bb.getD p.2 []).map rdOf∧∀i,i < (aa.getD p.1 []).length→(mvTo ((aa.getD p.1 []).getD i []),mvTo ((bb.getD p.2 []).getD i []))∈Q
inductive ReP (aa bb:List (List (List Int))):Nat × Nat→Prop
 | zero:ReP aa bb (0,0)
 | step {s t:Nat} {m m':List Int}:ReP aa bb (s,t)→m∈aa.getD s []→m'∈bb.getD t []→rdOf m=rdOf m'→ReP aa bb (mvTo m,mvTo m')
theorem ReP.word (ha:WfS aa) (hb:WfS bb) {p:Nat × Nat}(h:ReP aa bb p):∃u:List (List Int),∀w,(alw aa (u++w) 0↔alw aa w p.1)∧(alw bb (u++w) 0↔alw bb w p.2):=by
 induction h with
 | zero=>exact⟨[],fun w=>⟨Iff.rfl,Iff.rfl⟩⟩
 | @step s t m m' _ hm hm' e ih=>
  obtain⟨u,hu⟩:=ih;refine⟨u ++ [rdOf m],fun w=>?_⟩;rw[List.append_assoc];constructor
  ·rw[(hu _).1];exact alw_cons_mem ha.asc ha.lead hm
  ·rw[(hu _).2,e];exact alw_cons_mem hb.asc hb.lead hm'
theorem fsIn_spec (hb:WfS bb) (ha:WfS aa) {s t:Nat}{k:Pq→Option Bool}:∀(ms:List (List Int)) (Q:Pq) {R:Bool},(∀m∈ms,m∈bb.getD s [])→(ReP aa bb (t,s))→(∀p∈Q,ReP aa bb (p.2,p.1))→fsIn aa t k ms Q=some R→
  (R=true→(∃m∈ms,toI (rdOf m) (aa.getD t []) < 0)∨∃T,(∀p∈Q++T,ReP aa bb (p.2,p.1))∧k (Q++T)=some true)∧
  (R=false→∃T,(∀p∈Q++T,ReP aa bb (p.2,p.1))∧k (Q++T)=some false∧∀m∈ms,0≤toI (rdOf m) (aa.getD t [])∧(mvTo m,(toI (rdOf m) (aa.getD t [])).toNat)∈Q++T)
 | [],Q,R,_,_,hQ,h=>by
  rw[fsIn] at h;refine⟨fun e=>.inr ⟨[],by simpa using hQ,by rw[List.append_nil,h,e]⟩,fun e=>⟨[],by simpa using hQ,by rw[List.append_nil,h,e],fun m hm=>by cases hm⟩⟩
 | m::ms,Q,R,hm,hr,hQ,h=>by
  rw[fsIn] at h;split at h
  ·rename_i hlt
   injection h with h;subst h;exact⟨fun _=>.inl ⟨m,by simp,hlt⟩,fun e=>by cases e⟩
  ·rename_i hlt
   obtain⟨T0,hT0⟩:=pushP_pre Q (mvTo m,(toI (rdOf m) (aa.getD t [])).toNat);have hmm:=hm m (by simp);have hin:=(toI_in (r:=rdOf m) (x:=aa.getD t []) fun x hx=>(ha.lead _ (stIn hx).1 x hx).1).1 (by omega);obtain⟨m',hm',he⟩:=List.mem_map.1 hin;have hto:toI (rdOf m) (aa.getD t [])=m'.getD 7 0:=by rw[←he];exact toI_mem (ha.asc _ (stIn hm').1) hm'
   have hnew:ReP aa bb ((toI (rdOf m) (aa.getD t [])).toNat,mvTo m):=by
    rw[hto];exact ReP.step hr hm' hmm he
   have hQ':∀p∈pushP Q (mvTo m,(toI (rdOf m) (aa.getD t [])).toNat),ReP aa bb (p.2,p.1):=fun p hp=>by
    rcases pushP_mem.1 hp with hp|rfl
    ·exact hQ p hp
    ·exact hnew
   obtain⟨i1,i2⟩:=fsIn_spec hb ha ms _ (fun x hx=>hm x (by simp[hx])) hr hQ' h;rw[hT0] at i1 i2;refine⟨fun e=>?_,fun e=>?_⟩
   ·rcases i1 e with⟨x,hx,h1⟩|⟨T,h1,h2⟩
    ·exact .inl ⟨x,by simp[hx],h1⟩
    ·exact .inr ⟨T0++T,by rw[←List.append_assoc];exact h1,by rw[←List.append_assoc];exact h2⟩
   ·obtain⟨T,h1,h2,h3⟩:=i2 e;refine⟨T0++T,by rw[←List.append_assoc];exact h1,by rw[←List.append_assoc];exact h2,fun x hx=>?_⟩;rw[←List.append_assoc];rcases List.mem_cons.1 hx with rfl|hx
    ·refine⟨by omega,List.mem_append_left _ ?_⟩;rw[←hT0];exact pushP_mem.2 (.inr rfl)
    ·exact h3 x hx
theorem fsGo_spec (hb:WfS bb) (ha:WfS aa):∀(f n:Nat) (Q:Pq) {R:Bool},(∀p∈Q,ReP aa bb (p.2,p.1))→n≤Q.length→fsGo aa bb f n Q=some R→
  (R=true→∃s t m,ReP aa bb (t,s)∧m∈bb.getD s []∧toI (rdOf m) (aa.getD t []) < 0)∧
  (R=false→∃T,∀i,n≤i→i < (Q++T).length→ClF aa bb (Q++T) ((Q++T).getD i (0,0)))
 | 0,_,_,_,_,_,h=>by cases h
 | f+1,n,Q,R,hQ,hn,h=>by
  rw[fsGo] at h;split at h
  ·rename_i hlt
   have hp:Q.getD n (0,0)∈Q:=(by rw[getD_eq hlt];exact List.getElem_mem hlt);obtain⟨i1,i2⟩:=fsIn_spec hb ha _ Q (fun m hm=>hm) (hQ _ hp) hQ h;refine⟨fun e=>?_,fun e=>?_⟩
   ·rcases i1 e with⟨m,hm,h1⟩|⟨T,h1,h2⟩
    ·exact⟨_,_,m,hQ _ hp,hm,h1⟩
    ·exact(fsGo_spec hb ha f (n+1) (Q++T) h1 (by rw[List.length_append];omega) h2).1 rfl
   ·obtain⟨T,h1,h2,h3⟩:=i2 e;obtain⟨U,hU⟩:=(fsGo_spec hb ha f (n+1) (Q++T) h1 (by rw[List.length_append];omega) h2).2 rfl;refine⟨T++U,fun i hi1 hi2=>?_⟩;rw[←List.append_assoc] at hi2⊢;by_cases e:i=n
    ·subst e;intro m hm;rw[List.append_assoc,getD_app2 hlt] at hm⊢;obtain⟨q1,q2⟩:=h3 m hm;exact⟨q1,by rw[←List.append_assoc];exact List.mem_append_left _ q2⟩
    ·exact hU i (by omega) hi2
  ·injection h with h;subst h;exact⟨fun e=>(by cases e),fun _=>⟨[],fun i h1 h2=>absurd h2 (by rw[List.append_nil];omega)⟩⟩
theorem clF_alw (hb:WfS bb) {Q:Pq}(hQ:∀p∈Q,ClF aa bb Q p):∀(w:List (List Int)) (p:Nat × Nat),p∈Q→alw bb w p.1→alw aa w p.2
 | [],_,_,_=>trivial
 | r::w,p,hp,h=>by
  obtain⟨m,hm,rfl,h2⟩:=alw_cons_some h;obtain⟨q1,q2⟩:=hQ p hp m hm;exact⟨q1,clF_alw hb hQ w _ q2 h2⟩
def inW (aa bb:List (List (List Int))):Prop:=∀w,alw bb w 0→alw aa w 0
def eqW (aa bb:List (List (List Int))):Prop:=∀w,alw aa w 0↔alw bb w 0
theorem fs_iff (hb:WfS bb) (ha:WfS aa) {f:Nat}{R:Bool}(h:fsGo aa bb f 0 [(0,0)]=some R):R=false↔inW aa bb:=by
 obtain⟨h1,h2⟩:=fsGo_spec hb ha f 0 [(0,0)] (fun p hp=>by rw[List.mem_singleton] at hp;subst hp;exact .zero) (Nat.zero_le _) h;constructor
 ·intro e w hw;obtain⟨T,hT⟩:=h2 e;refine clF_alw hb (Q:=[(0,0)]++T) (fun p hp=>?_) w (0,0) (by simp) hw;obtain⟨i,hi,rfl⟩:=List.mem_iff_getElem.1 hp;have:=hT i (Nat.zero_le _) hi
  rwa [getD_eq hi] at this
 ·intro hi;cases R with
  | false=>rfl
  | true=>
   obtain⟨s,t,m,hr,hm,hlt⟩:=h1 rfl;obtain⟨u,hu⟩:=hr.word ha hb;have:=(hu [rdOf m]).1.1 (hi _ ((hu [rdOf m]).2.2 ((alw_cons_mem hb.asc hb.lead hm).2 trivial)))
   exact absurd this.1 (by show ¬_≤toI (rdOf m) (aa.getD t []);omega)
theorem esIn_spec {s t:Nat}{k:Pq→Option Bool}:∀(x y:List (List Int)) (Q:Pq) {R:Bool},(∀m∈x,m∈aa.getD s [])→(∀m∈y,m∈bb.getD t [])→ReP aa bb (s,t)→(∀p∈Q,ReP aa bb p)→esIn k x y Q=some R→
  (R=true→x.map rdOf ≠ y.map rdOf∨∃T,(∀p∈Q++T,ReP aa bb p)∧k (Q++T)=some true)∧
  (R=false→∃T,(∀p∈Q++T,ReP aa bb p)∧k (Q++T)=some false∧x.map rdOf=y.map rdOf∧∀i,i < x.length→(mvTo (x.getD i []),mvTo (y.getD i []))∈Q++T)
 | [],[],Q,R,_,_,_,hQ,h=>by
  rw[esIn] at h;exact⟨fun e=>.inr ⟨[],by simpa using hQ,by rw[List.append_nil,h,e]⟩,fun e=>⟨[],by simpa using hQ,by rw[List.append_nil,h,e],rfl,fun i hi=>absurd hi (Nat.not_lt_zero _)⟩⟩
 | [],m'::y,Q,R,_,_,_,_,h=>by
  rw[esIn] at h;injection h with h;subst h;exact⟨fun _=>.inl (by simp),fun e=>by cases e⟩
 | m::x,[],Q,R,_,_,_,_,h=>by
  rw[esIn] at h;injection h with h;subst h;exact⟨fun _=>.inl (by simp),fun e=>by cases e⟩
 | m::x,m'::y,Q,R,hx,hy,hr,hQ,h=>by
  rw[esIn] at h;split at h
  ·rename_i he
   obtain⟨T0,hT0⟩:=pushP_pre Q (mvTo m,mvTo m')
   have hQ':∀p∈pushP Q (mvTo m,mvTo m'),ReP aa bb p:=fun p hp=>by
    rcases pushP_mem.1 hp with hp|rfl
    ·exact hQ p hp
    ·exact ReP.step hr (hx m (by simp)) (hy m' (by simp)) he
   obtain⟨i1,i2⟩:=esIn_spec x y _ (fun z hz=>hx z (by simp[hz])) (fun z hz=>hy z (by simp[hz])) hr hQ' h;rw[hT0] at i1 i2;refine⟨fun e=>?_,fun e=>?_⟩
   ·rcases i1 e with h1|⟨T,h1,h2⟩
    ·refine .inl fun h3=>h1 ?_;rw[List.map_cons,List.map_cons] at h3;injection h3
    ·exact .inr ⟨T0++T,by rw[←List.append_assoc];exact h1,by rw[←List.append_assoc];exact h2⟩
   ·obtain⟨T,h1,h2,h3,h4⟩:=i2 e;refine⟨T0++T,by rw[←List.append_assoc];exact h1,by rw[←List.append_assoc];exact h2,by rw[List.map_cons,List.map_cons,he,h3],fun i hi=>?_⟩;rw[←List.append_assoc];cases i with
    | zero=>exact List.mem_append_left _ (by rw[←hT0];exact pushP_mem.2 (.inr rfl))
    | succ i=>exact h4 i (by simpa using hi)
  ·rename_i he
   injection h with h;subst h;refine⟨fun _=>.inl fun h3=>he ?_,fun e=>by cases e⟩;rw[List.map_cons,List.map_cons] at h3;injection h3
theorem esGo_spec:∀(f n:Nat) (Q:Pq) {R:Bool},(∀p∈Q,ReP aa bb p)→n≤Q.length→esGo aa bb f n Q=some R→
  (R=true→∃s t,ReP aa bb (s,t)∧(aa.getD s []).map rdOf ≠ (bb.getD t []).map rdOf)∧
  (R=false→∃T,∀i,n≤i→i < (Q++T).length→ClE aa bb (Q++T) ((Q++T).getD i (0,0)))
 | 0,_,_,_,_,_,h=>by cases h
 | f+1,n,Q,R,hQ,hn,h=>by
  rw[esGo] at h;split at h
  ·rename_i hlt
   have hp:Q.getD n (0,0)∈Q:=(by rw[getD_eq hlt];exact List.getElem_mem hlt);obtain⟨i1,i2⟩:=esIn_spec (s:=(Q.getD n (0,0)).1) (t:=(Q.getD n (0,0)).2) _ _ Q (fun m hm=>hm) (fun m hm=>hm) (hQ _ hp) hQ h;refine⟨fun e=>?_,fun e=>?_⟩
   ·rcases i1 e with h1|⟨T,h1,h2⟩
    ·exact⟨_,_,hQ _ hp,h1⟩
    ·exact(esGo_spec f (n+1) (Q++T) h1 (by rw[List.length_append];omega) h2).1 rfl
   ·obtain⟨T,h1,h2,h3,h4⟩:=i2 e;obtain⟨U,hU⟩:=(esGo_spec f (n+1) (Q++T) h1 (by rw[List.length_append];omega) h2).2 rfl;refine⟨T++U,fun i hi1 hi2=>?_⟩;rw[←List.append_assoc] at hi2⊢;by_cases e:i=n
    ·subst e;rw[List.append_assoc,getD_app2 hlt];exact⟨h3,fun i hi=>by rw[←List.append_assoc];exact List.mem_append_left _ (h4 i hi)⟩
    ·exact hU i (by omega) hi2
  ·injection h with h;subst h;exact⟨fun e=>(by cases e),fun _=>⟨[],fun i h1 h2=>absurd h2 (by rw[List.append_nil];omega)⟩⟩
theorem clE_alw (ha:WfS aa) (hb:WfS bb) {Q:Pq}(hQ:∀p∈Q,ClE aa bb Q p):∀(w:List (List Int)) (p:Nat × Nat),p∈Q→(alw aa w p.1↔alw bb w p.2)
 | [],_,_=>Iff.rfl
 | r::w,p,hp=>by
  obtain⟨h1,h2⟩:=hQ p hp;have hlen:(aa.getD p.1 []).length=(bb.getD p.2 []).length:=by have:=congrArg List.length h1;simpa using this
  have hat:∀i,(hi:i < (aa.getD p.1 []).length)→rdOf ((aa.getD p.1 [])[i])=rdOf ((bb.getD p.2 [])[i]'(by omega)):=fun i hi=>by
   have:=congrArg (fun l=>l[i]?) h1
   simp only[List.getElem?_map] at this;rw[List.getElem?_eq_getElem hi,List.getElem?_eq_getElem (show i < (bb.getD p.2 []).length by omega)] at this;simpa using this
  have key:∀i,(hi:i < (aa.getD p.1 []).length)→(alw aa w (mvTo ((aa.getD p.1 [])[i]))↔alw bb w (mvTo ((bb.getD p.2 [])[i]'(by omega)))):=fun i hi=>by
   have:=h2 i hi
   rw[getD_eq hi,getD_eq (show i < (bb.getD p.2 []).length by omega)] at this;exact clE_alw ha hb hQ w _ this
  constructor
  ·intro h;obtain⟨m,hm,rfl,h3⟩:=alw_cons_some h;obtain⟨i,hi,rfl⟩:=List.mem_iff_getElem.1 hm;rw[hat i hi];exact(alw_cons_mem hb.asc hb.lead (List.getElem_mem _)).2 ((key i hi).1 h3)
  ·intro h;obtain⟨m,hm,rfl,h3⟩:=alw_cons_some h;obtain⟨i,hi,rfl⟩:=List.mem_iff_getElem.1 hm;have hi':i < (aa.getD p.1 []).length:=(by omega);rw[←hat i hi'];exact(alw_cons_mem ha.asc ha.lead (List.getElem_mem _)).2 ((key i hi').2 h3)
theorem es_iff (hb:WfS bb) (ha:WfS aa) {f:Nat}{R:Bool}(h:esGo aa bb f 0 [(0,0)]=some R):R=false↔eqW aa bb:=by
 obtain⟨h1,h2⟩:=esGo_spec f 0 [(0,0)] (fun p hp=>by rw[List.mem_singleton] at hp;subst hp;exact .zero) (Nat.zero_le _) h;constructor
 ·intro e w;obtain⟨T,hT⟩:=h2 e;refine clE_alw ha hb (Q:=[(0,0)]++T) (fun p hp=>?_) w (0,0) (by simp);obtain⟨i,hi,rfl⟩:=List.mem_iff_getElem.1 hp;have:=hT i (Nat.zero_le _) hi
  rwa [getD_eq hi] at this
 ·intro hi;cases R with
  | false=>rfl
  | true=>
   obtain⟨s,t,hr,hne⟩:=h1 rfl;obtain⟨u,hu⟩:=hr.word ha hb;refine absurd ?_ hne
   have asc:∀ {ss:List (List (List Int))},WfS ss→∀s,AscL ((ss.getD s []).map rdOf):=fun {ss} h s=>by
    rcases Nat.lt_or_ge s ss.length with h1|h1
    ·exact h.asc _ (by rw[getD_eq h1];exact List.getElem_mem h1)
    ·rw[List.getD_eq_getElem?_getD,List.getElem?_eq_none h1];exact List.Pairwise.nil
   refine asc_unique (asc ha s) (asc hb t) fun r=>?_;have h3:alw aa [r] s↔alw bb [r] t:=((hu [r]).1.symm.trans (hi _)).trans (hu [r]).2;simp only[alw,and_true] at h3;rw[toI_in fun m hm=>(ha.lead _ (stIn hm).1 m hm).1,toI_in fun m hm=>(hb.lead _ (stIn hm).1 m hm).1] at h3;exact h3
theorem nat_nodup:∀(n:Nat) (l:List Nat),l.Nodup→(∀k∈l,k < n)→l.length≤n
 | 0,[],_,_=>Nat.le_refl _
 | 0,a::_,_,h=>absurd (h a (by simp)) (by omega)
 | n+1,l,h1,h2=>by
  have h3:=nat_nodup n (l.erase n) (h1.erase _) fun k hk=>by
   have e:=h2 k (List.mem_of_mem_erase hk);have:k ≠ n:=fun e=>by subst e;exact(List.Nodup.not_mem_erase h1) hk
   omega
  rw[List.length_erase] at h3;split at h3<;>omega
def PqOK (A B:Nat) (Q:Pq):Prop:=Q.Nodup∧∀p∈Q,p.1 < A∧p.2 < B
theorem PqOK.len {A B:Nat}{Q:Pq}(h:PqOK A B Q):Q.length≤A * B:=by
 obtain⟨h1,h2⟩:=h
 have hn:(Q.map fun p=>p.1 * B+p.2).Nodup:=by
  rw[List.Nodup,List.pairwise_map];refine List.Pairwise.imp_of_mem (fun {a b} ha hb hab e=>hab ?_) h1;obtain⟨_,a2⟩:=h2 a ha;obtain⟨_,b2⟩:=h2 b hb
  have e1:a.2=b.2:=by
   have:=congrArg (· % B) e
   simpa [Nat.mul_comm,Nat.mul_add_mod,Nat.mod_eq_of_lt a2,Nat.mod_eq_of_lt b2] using this
  have e2:a.1=b.1:=Nat.eq_of_mul_eq_mul_right (by omega) (by omega:a.1 * B=b.1 * B);exact Prod.ext e2 e1
 have hlt:∀k∈Q.map (fun p=>p.1 * B+p.2),k < A * B:=fun k hk=>by
  obtain⟨p,hp,rfl⟩:=List.mem_map.1 hk;obtain⟨p1,p2⟩:=h2 p hp
  calc p.1 * B+p.2 < p.1 * B+B:=by omega
   _=(p.1+1) * B:=by rw[Nat.succ_mul]
   _≤A * B:=Nat.mul_le_mul_right _ p1
 have:=(nat_nodup _ _ hn hlt)
 rwa [List.length_map] at this
theorem PqOK.push {A B:Nat}{Q:Pq}(h:PqOK A B Q) {y:Nat × Nat}(h1:y.1 < A) (h2:y.2 < B):PqOK A B (pushP Q y):=
 ⟨pushP_nodup h.1,fun p hp=>by
  rcases pushP_mem.1 hp with hp|rfl
  ·exact h.2 p hp
  ·exact⟨h1,h2⟩⟩
theorem fsIn_some (ha:WfS aa) (hb:WfS bb) {s t:Nat}{k:Pq→Option Bool}:∀(ms:List (List Int)) (Q:Pq),(∀m∈ms,m∈bb.getD s [])→PqOK bb.length aa.length Q→(∀Q',PqOK bb.length aa.length Q'→Q.length≤Q'.length→∃R,k Q'=some R)→∃R,fsIn aa t k ms Q=some R
 | [],Q,_,hQ,hk=>by rw[fsIn];exact hk Q hQ (Nat.le_refl _)
 | m::ms,Q,hm,hQ,hk=>by
  rw[fsIn];split
  ·exact⟨true,rfl⟩
  ·rename_i hlt
   obtain⟨T,hT⟩:=pushP_pre Q (mvTo m,(toI (rdOf m) (aa.getD t [])).toNat);refine fsIn_some ha hb ms _ (fun x hx=>hm x (by simp[hx])) (hQ.push (hb.to (hm m (by simp))) (ha.toLt hlt)) fun Q' h1 h2=>hk Q' h1 ?_;rw[hT,List.length_append] at h2;omega
theorem fsGo_some (ha:WfS aa) (hb:WfS bb):∀(f n:Nat) (Q:Pq),PqOK bb.length aa.length Q→bb.length * aa.length+1≤n+f→n≤Q.length→∃R,fsGo aa bb f n Q=some R
 | 0,n,Q,hQ,h,hn=>by have:=hQ.len;omega
 | f+1,n,Q,hQ,h,hn=>by
  rw[fsGo];split
  ·exact fsIn_some ha hb _ Q (fun m hm=>hm) hQ fun Q' h1 h2=>fsGo_some ha hb f (n+1) Q' h1 (by omega) (by omega)
  ·exact⟨false,rfl⟩
theorem esIn_some (ha:WfS aa) (hb:WfS bb) {s t:Nat}{k:Pq→Option Bool}:∀(x y:List (List Int)) (Q:Pq),(∀m∈x,m∈aa.getD s [])→(∀m∈y,m∈bb.getD t [])→PqOK aa.length bb.length Q→(∀Q',PqOK aa.length bb.length Q'→Q.length≤Q'.length→∃R,k Q'=some R)→∃R,esIn k x y Q=some R
 | [],[],Q,_,_,hQ,hk=>by rw[esIn];exact hk Q hQ (Nat.le_refl _)
 | [],_::_,_,_,_,_,_=>⟨true,rfl⟩
 | _::_,[],_,_,_,_,_=>⟨true,rfl⟩
 | m::x,m'::y,Q,hx,hy,hQ,hk=>by
  rw[esIn];split
  ·obtain⟨T,hT⟩:=pushP_pre Q (mvTo m,mvTo m');refine esIn_some ha hb x y _ (fun z hz=>hx z (by simp[hz])) (fun z hz=>hy z (by simp[hz])) (hQ.push (ha.to (hx m (by simp))) (hb.to (hy m' (by simp)))) fun Q' h1 h2=>hk Q' h1 ?_;rw[hT,List.length_append] at h2;omega
  ·exact⟨true,rfl⟩
theorem esGo_some (ha:WfS aa) (hb:WfS bb):∀(f n:Nat) (Q:Pq),PqOK aa.length bb.length Q→aa.length * bb.length+1≤n+f→n≤Q.length→∃R,esGo aa bb f n Q=some R
 | 0,n,Q,hQ,h,hn=>by have:=hQ.len;omega
 | f+1,n,Q,hQ,h,hn=>by
  rw[esGo];split
  ·exact esIn_some ha hb _ _ Q (fun m hm=>hm) (fun m hm=>hm) hQ fun Q' h1 h2=>esGo_some ha hb f (n+1) Q' h1 (by omega) (by omega)
  ·exact⟨false,rfl⟩
end
end Go.Proofs.YtmikofeildnpdaaGreat
namespace Go.Proofs.YtmikofeildnpdaaGreat
open Go.RowKit
theorem cmpM_trans {a b c:List Int}(h:cmpM a b < 0) (k:cmpM b c < 0):cmpM a c < 0:=cmpL_trans _ _ _ h k
theorem moveCompareG (n h0 h1 h2 h3 h4 f t m g0 g1 g2 g3 g4 g s:Int) (w:World):Calls Tryz.prog 100 #[.agg #[.int .i64 n,.int .i64 h0,.int .i64 h1,.int .i64 h2,.int .i64 h3,.int .i64 h4,.int .i64 f,.int .i64 t],.agg #[.int .i64 m,.int .i64 g0,.int .i64 g1,.int .i64 g2,.int .i64 g3,.int .i64 g4,.int .i64 g,.int .i64 s]] w fun e w'=>e = .returned (.int .i64 (cmpM [n,h0,h1,h2,h3,h4,f,t] [m,g0,g1,g2,g3,g4,g,s]))∧Below w.heap.size w w'∧w.drawn≤w'.drawn:=by
 have HR:=qH (fun W=>roundCompareG n h0 h1 h2 h3 h4 f m g0 g1 g2 g3 g4 g W);have hb:Below w.heap.size w ((w.alloc (.cells #[.int .i64 n,.int .i64 h0,.int .i64 h1,.int .i64 h2,.int .i64 h3,.int .i64 h4,.int .i64 f,.int .i64 t] 100)).alloc (.cells #[.int .i64 m,.int .i64 g0,.int .i64 g1,.int .i64 g2,.int .i64 g3,.int .i64 g4,.int .i64 g,.int .i64 s] 100)):=((Below.refl _ _).alloc (Nat.le_refl _) _).alloc (by simp) _;have hE:=qH (show cmpM [n,h0,h1,h2,h3,h4,f,t] [m,g0,g1,g2,g3,g4,g,s]=cmpL [n,h0,h1,h2,h3,h4,f] [m,g0,g1,g2,g3,g4,g] from rfl);go_enter Tryz.func100, Tryz.ntmps100
 go_wp2_with fail
 refine(HR.out _).mono ?_;rintro e w1 ⟨rfl,hb1,hd1⟩;go_wp2;go_ret;exact⟨ret_int hE.out.symm,bt hb hb1 hb.size,hd1⟩
open Go.Shelf Go.Lib Go.Sort
def M8:Type:={ x:List Int // x.length=8 }
instance:Inhabited M8:=⟨⟨[0,0,0,0,0,0,0,0],rfl⟩⟩
def M8.enc (x:M8):List Value:=x.1.map (Value.int .i64)
def M8.cf (x y:M8):Int:=cmpM x.1 y.1
theorem M8.len (x:M8):x.enc.length=8:=by rw[M8.enc,List.length_map];exact x.2
theorem M8.one (x:M8):∀v∈x.enc,v.oneCell'=true:=fun v hv=>by
 obtain⟨i,_,rfl⟩:=List.mem_map.1 hv;rfl
theorem M8.swo:SWO (ltOf M8.cf) where
 irrefl _:=decide_eq_false fun h=>weakM.asymm _ _ h h
 trans _ _ _ h1 h2:=decide_eq_true (cmpM_trans (of_decide_eq_true h1) (of_decide_eq_true h2))
 ntrans _ _ _ h1 h2:=decide_eq_false (weakM.ntrans _ _ _ (of_decide_eq_false h1) (of_decide_eq_false h2))
theorem M8.lays (blk off size:Nat) (w:World):CmpLays Tryz.prog 100 #[] M8.enc 8 M8.cf blk off size w:=by
 rintro m os dk _ ⟨x,hx⟩ ⟨y,hy⟩;obtain⟨x0,x1,x2,x3,x4,x5,x6,x7,rfl⟩:=eight hx;obtain⟨y0,y1,y2,y3,y4,y5,y6,y7,rfl⟩:=eight hy;exact(moveCompareG x0 x1 x2 x3 x4 x5 x6 x7 y0 y1 y2 y3 y4 y5 y6 y7 _).mono fun _ _ ⟨he,hb,hd⟩=>⟨he,grown_of hb hd⟩
theorem flat_M8 (d:Array M8) (j:Nat) (hj:j < d.size):((flatK M8.enc 8 d).toList.drop (j * 8)).take 8=(d[j]!).1.map (Value.int .i64):=by
 have h8:(d[j]!).1.length=8:=(d[j]!).2;apply List.ext_getElem?
 intro k;rw[List.getElem?_take];by_cases hk:k < 8
 ·have hle:j * 8+8≤d.size * 8:=by rw[←Nat.succ_mul];exact Nat.mul_le_mul_right _ hj
  rw[if_pos hk,List.getElem?_drop,Array.getElem?_toList,Array.getElem?_eq_getElem (by rw[size_flatK];omega)];have:=get_flatK M8.enc 8 d (j * 8+k) (by omega)
  rw[getElem!_pos _ _ (by rw[size_flatK];omega)] at this;rw[this,show(j * 8+k) / 8=j by omega,show(j * 8+k) % 8=k by omega];have hl:=M8.len d[j]!;rw[getElem!_pos _ k (by omega)];show some _=(M8.enc d[j]!)[k]?;rw[List.getElem?_eq_getElem (by omega)]
 ·rw[if_neg hk,List.getElem?_eq_none (by simp;omega)]
def SortOutM (w:World) (B:Nat) (v:Value) (n:Nat) (xs:List (List Int)) (e:Ending) (w':World):Prop:=
 e = .returned (.tuple #[])∧∃ys,ys.Perm xs∧ys.Pairwise (fun a b=>¬cmpM b a < 0)∧OwX 100 8 EI w' B v n ys∧Go.RowKit.Below B w w'∧KeepX 100 w w'
theorem sortMvs {w:World}{B g n cap:Nat}{xs:List (List Int)}(h:OwX 100 8 EI w B (.slice (some ⟨g,0,none⟩) n cap) n xs) (hn:n≤1000000) :
  Calls Tryz.prog 99 #[.slice (some ⟨g,0,none⟩) n cap,.func (.func 100) #[] #[]] w (SortOutM w B (.slice (some ⟨g,0,none⟩) n cap) n xs):=by
 have hl:=h.length;have h8:∀j,j < n→(xs.getD j []).length=8:=fun j hj=>(h.intCells hj).1;have hci:∀j,j < n→CI w g (j * 8) (xs.getD j []):=fun j hj=>(h.intCells hj).2;have hfz:∀j,w.frozen? ⟨g,j,none⟩=false:=fun j=>h.frozen j;obtain⟨ws,h1,_⟩:=h;rcases h1.2 with⟨h0,_⟩|⟨g',cap',cur,he,hB,hg,hc1,hc2,hc3,hc4⟩
 ·cases h0
 ·injection he with he1 he2 he3;injection he1 with he1;injection he1 with he1;subst he1 he3;let mk:Fin n→M8:=fun j=>⟨xs.getD j [],h8 j j.2⟩
  obtain⟨d,hd⟩:=exF (Array.ofFn mk);have hds:d.size=n:=by rw[hd];simp
  have hdj:∀j (hj:j < n),d[j]! = mk ⟨j,hj⟩:=fun j hj=>by rw[getElem!_pos d j (by omega)];simp[hd]
  have hH:HoldsK M8.enc 8 w g 0 d:=by
   intro t ht;rw[size_flatK,hds] at ht;have htj:t / 8 < n:=(by rw[Nat.div_lt_iff_lt_mul (by decide)];exact ht);have hm:t % 8 < 8:=Nat.mod_lt _ (by decide);constructor
   ·rw[get_flatK _ _ _ _ (by rw[hds];exact ht),hdj _ htj];have:=hci (t / 8) htj (t % 8) (by rw[h8 _ htj];exact hm)
    rw[show t / 8 * 8+t % 8=0+t by rw[Nat.mul_comm,Nat.div_add_mod,Nat.zero_add]] at this;rw[this];show some _=some (id ((xs.getD (t / 8) []).map (Value.int .i64))[t % 8]!);have hl8:=h8 _ htj;rw[getElem!_pos _ _ (by rw[List.length_map,hl8];exact hm),List.getElem_map,getD_eq (by rw[hl8];exact hm)];rfl
   ·rw[Nat.zero_add];exact hfz t
  have hgl:=(Array.getElem?_eq_some_iff.1 hg).1;have eg:∀args w,(callFunc 100 args).run Tryz.prog w = .ok (.enter 100 args) w:=enters_of Tryz.func100 (by kernel_rfl) rfl;have hS:=AnyQ.slices_SortFunc Tryz.sortMv 8 Tryz.isAgg100 Tryz.sizeOf100 M8.enc M8.len M8.one M8.cf M8.swo 100 #[] g 0 cap d w eg (M8.lays g 0 d.size w) hH hgl (by omega);rw[hds] at hS;change Calls Tryz.prog 99 _ _ _ at hS;refine hS.mono ?_;rintro e w' ⟨rfl,d',m,os,hp,hs,rfl⟩;obtain⟨hp1,_,hp2⟩:=hp;rw[hds] at hp1;have e1:d'.extract 0 n=d':=by rw[←hp1];simp
  have e2:d.extract 0 n=d:=by rw[←hds];simp
  rw[e1,e2] at hp2
  have ex:d.toList.map (fun x:M8=>x.1)=xs:=by
   apply List.ext_getElem
   ·simp[hds,hl]
   ·intro j hj1 hj2;simp only[List.getElem_map,Array.getElem_toList];have:=hdj j (by omega)
    rw[getElem!_pos d j (by omega)] at this;rw[this];exact getD_eq hj2 []
  have hfs:(flatK M8.enc 8 d').size=n * 8:=by rw[size_flatK,hp1]
  have hcs:n * 8≤cur.size:=by rw[hc3];exact Nat.mul_le_mul_right _ hc1
  have hW:sortWorldK M8.enc 8 w g 0 m d' os=sortWorld id w g 0 m (flatK M8.enc 8 d') os:=rfl;rw[hW];refine⟨rfl,d'.toList.map (fun x:M8=>x.1),?_,?_,⟨(flatK M8.enc 8 d').toList,⟨by rw[Array.length_toList,hfs],.inr ⟨g,cap,putCells id 0 (flatK M8.enc 8 d') cur,rfl,hB,heap_sortWorld_same 0 m _ os hg,hc1,hc2,by simpa [putCells] using hc3,?_⟩⟩,by simp[hp1],?_,?_⟩,below_sortWorld m _ os hB hgl,?_⟩
  ·rw[←ex];exact hp2.map _
  ·rw[List.pairwise_map,List.pairwise_iff_getElem];intro i j hi hj hij;simp only[Array.length_toList] at hi hj;have:=hs i j (Nat.zero_le _) hij (by omega)
   rw[getElem!_pos d' i hi,getElem!_pos d' j hj] at this;exact of_decide_eq_false this
  ·have:=putCells_take id (flatK M8.enc 8 d') cur (by omega)
   rw[hfs] at this;rw[this,List.map_id]
  ·intro u hu;obtain⟨t,ht,rfl⟩:=List.getElem_of_mem hu;rw[Array.length_toList,hfs] at ht;have:=get_flatK M8.enc 8 d' t (by rw[hp1];exact ht)
   rw[getElem!_pos _ _ (by omega)] at this;rw[Array.getElem_toList,this];have hl8:=M8.len d'[t / 8]!;rw[getElem!_pos _ _ (by rw[hl8];exact Nat.mod_lt _ (by decide))];exact M8.one _ _ (List.getElem_mem _)
  ·intro j x hj;rw[List.getElem?_map] at hj
   have hjl:j < d'.size:=by
    rcases Nat.lt_or_ge j d'.size with h|h
    ·exact h
    ·rw[List.getElem?_eq_none (by simpa using h)] at hj;cases hj
   show _=_;rw[flat_M8 d' j hjl];rw[Array.getElem?_toList,Array.getElem?_eq_getElem hjl] at hj;simp only[Option.map_some,Option.some.injEq] at hj;rw[getElem!_pos d' j hjl,hj]
  ·intro k cs t hk ht;refine heap_sortWorld_other _ _ _ _ (fun e=>?_) (Array.getElem?_eq_some_iff.1 hk).1;subst e;rw[hg] at hk;injection hk with hk;injection hk with _ hk;exact ht hk.symm
def RowRd (w:World) (B:Nat) (v:Value) (n:Nat) (xs:List (List Int)):Prop:=w.ownsRow B 87 7 v n (xs.flatten.map (Value.int .i64))
theorem wpList_appRds {w:World}{ops:Array Oper}{rest:List Oper}{o:Oper}{a:Act}{Q:Exit→Act→World→Prop}(hgd:o.guard=none) (s y:Operand)
  (ho:o.op = .call { callee:=.builtin .append,args:=#[s,y],argTypes:=#[78,78] }) {B n:Nat} {v:Value} {xs:List (List Int)} (hs:a.eval s=v)
  (hown:RowRd w B v n xs) {ys:List (List Int)} {ya:Addr} {yc:Nat} (hx:a.eval y = .slice (some ya) ys.length yc)
  (hy:KS 7 w (.slice (some ya) ys.length yc) ys) (hy0:0 < ys.length) (hn:n+ys.length≤1000000) (hB:B≤w.heap.size)
  (h:∀v' w',RowRd w' B v' (n+ys.length) (xs++ys)→w.grownBy w' v.ownBlock→Below B w w'→wpList Tryz.prog ops Q rest (a.put o.dst v') w') :
  wpList Tryz.prog ops Q (o::rest) a w:=by
 obtain⟨i0,hi,hz0,hz1,hz2⟩:=info_parts elemRd.2.1;obtain⟨a',c',b,off,he,ha,hc,_⟩:=hy;have hlens:=KS.lens hc;injection he with he1 he2 he3;have ha':=ha hy0;rw[←he1] at ha';injection ha' with ha';subst ha';refine wpList_append_own w hgd s y 78 ho B 87 i0 _ 7 56 elemRd.1 hi hz0 hz1 hz2 elemRd.2.2 (by decide) v n _ hs hown ⟨b,off,none⟩ ys.length yc (ys.flatten.map (Value.int .i64)) hx (by rw[List.length_map,flat_len hlens]) ?_ ?_ (by unfold maxLen;omega) (by omega) hB fun v' w' h1 h2 _=>?_
 ·intro j u hj;rw[Addr.add_lit];exact KS.flat hc j u hj
 ·intro u hu;obtain⟨i,_,rfl⟩:=List.mem_map.1 hu;rfl
 ·refine h v' w' (by unfold RowRd;rw[List.flatten_append,List.map_append];exact h1) h2 ((Below.refl B w).grown h2 hB (fun k hk=>(World.ownsRow.lt hown k hk).1))
theorem longerC {w:World}{wv:Value}{wd:List (List Int)}(h:KS 7 w wv wd) (hnil:wd = []→wv = .slice none 0 0) (hl:wd.length≤100000) (r0 r1 r2 r3 r4 r5 r6:Int) :
  Calls Tryz.prog 214 #[wv,.agg #[.int .i64 r0,.int .i64 r1,.int .i64 r2,.int .i64 r3,.int .i64 r4,.int .i64 r5,.int .i64 r6]] w fun e w'=>∃u,e = .returned u∧OwX 87 7 EI w' w.heap.size u (wd.length+1) (wd ++ [[r0,r1,r2,r3,r4,r5,r6]])∧Below w.heap.size w w':=by
 have hc7:∀u∈(#[.int .i64 r0,.int .i64 r1,.int .i64 r2,.int .i64 r3,.int .i64 r4,.int .i64 r5,.int .i64 r6]:Array Value).toList,u.oneCell'=true:=fun u hu=>by
  simp only[List.mem_cons,List.not_mem_nil,or_false] at hu;rcases hu with rfl|rfl|rfl|rfl|rfl|rfl|rfl<;>rfl
 obtain⟨W1,hW1⟩:=exF (w.alloc (.cells #[.int .i64 r0,.int .i64 r1,.int .i64 r2,.int .i64 r3,.int .i64 r4,.int .i64 r5,.int .i64 r6] 87));have hb1:Below w.heap.size w W1:=by rw[hW1];exact(Below.refl _ _).alloc (Nat.le_refl _) _
 have hrb:W1.heap[w.heap.size]? = some (.cells #[.int .i64 r0,.int .i64 r1,.int .i64 r2,.int .i64 r3,.int .i64 r4,.int .i64 r5,.int .i64 r6] 87):=by rw[hW1];exact heap_alloc_new _ _
 have hbx:=(box7CI hrb).all7;simp only[Nat.zero_add] at hbx;obtain⟨c0,c1,c2,c3,c4,c5,c6⟩:=hbx;by_cases h0:wd = []
 ·obtain rfl:=hnil h0;subst h0;have hown:OwX 87 7 EI W1 w.heap.size (.slice none 0 0) 0 []:=OwX.nil _ _;have hEI:EI W1 [.int .i64 r0,.int .i64 r1,.int .i64 r2,.int .i64 r3,.int .i64 r4,.int .i64 r5,.int .i64 r6] [r0,r1,r2,r3,r4,r5,r6]:=rfl
  have hrun:∀ty,(Builtin.append_ #[78,78] ty #[.slice none 0 0,.slice none 0 0]).run Tryz.prog W1 = .ok (.slice none 0 0) W1:=fun ty=>by
   obtain⟨i0,hi,hz0,hz1,hz2⟩:=info_parts elemRd.2.1;simp[Builtin.append_,run_underlying elemRd.1,sizeOf,typeInfo,hi,Builtin.lenOf,Builtin.firstCells]
  go_enter Tryz.func214, Tryz.ntmps214
  go_wp2_with (first
   | (at_builtin;rw[←hW1];replace hW1:=qH hW1;refine wpList_plain rfl fun _ hK=>Lib.wp_append_run W1 _ _ 78 78 rfl (.slice none 0 0) (.slice none 0 0) rfl rfl _ W1 (hrun _) (hK _ _ ?_))
   | (at_builtin;refine wpAppX elemRd (by decide) (by decide) (EI.stab _) rfl _ _ rfl rfl hown rfl rfl rfl hc7 hEI (by decide) hb1.size ?_;intro v' w2 hrow hgr hbl hx))
  go_ret;exact⟨_,rfl,hrow,hb1.trans hbl⟩
 ·have hpos:0 < wd.length:=by
   cases wd with
   | nil=>exact absurd rfl h0
   | cons _ _=>simp
  have hlens:∀x∈wd,x.length=7:=by obtain⟨_,_,_,_,_,_,hc,_⟩:=h;exact KS.lens hc
  have hk:=h.keep hb1;obtain⟨a,c,b,off,rfl,ha,_⟩:=h;obtain rfl:=ha hpos;have hown:RowRd W1 W1.heap.size (.slice none 0 0) 0 []:=World.ownsRow_nil _ _ _ _;have hl0:0+wd.length≤1000000:=by omega
  have hn1:wd.length≤1000000000000:=by omega
  have hk':=qH hk;clear hk;go_enter Tryz.func214, Tryz.ntmps214
  go_wp2_with (at_builtin;rw[←hW1];replace hW1:=qH hW1;refine wpList_appRds rfl _ _ rfl rfl hown rfl hk'.out hpos hl0 (Nat.le_refl _) ?_)
  intro v' w2 hrow _ hb2;have hrow2:OwX 87 7 EI w2 W1.heap.size v' wd.length wd:=OwX.ofFlat hrow hlens rfl;obtain⟨va,vc,hv'⟩:=hrow2.shape;subst hv';have d0:=cell_kept hb2 c0;have d1:=cell_kept hb2 c1;have d2:=cell_kept hb2 c2;have d3:=cell_kept hb2 c3;have d4:=cell_kept hb2 c4;have d5:=cell_kept hb2 c5;have d6:=cell_kept hb2 c6;have hEI:EI w2 [.int .i64 r0,.int .i64 r1,.int .i64 r2,.int .i64 r3,.int .i64 r4,.int .i64 r5,.int .i64 r6] [r0,r1,r2,r3,r4,r5,r6]:=rfl;clear hrow;go_wp2_with (at_builtin;refine wpAppX elemRd (by decide) (by decide) (EI.stab _) rfl _ _ rfl rfl hrow2 rfl rfl rfl hc7 hEI hn1 hb2.size ?_)
  intro v3 w3 hrow3 _ hb3 _;have hfin:=hrow3.base (B':=w.heap.size) hb1.size;clear hrow2 hrow3;go_wp2;go_ret;exact⟨_,rfl,hfin,bt hb1 (hb2.trans hb3) hb1.size⟩
theorem eqP2 (d:Nat) (a b a' b':Int) (w:World):(Op.equalIn (d+2) 93 (.agg #[.int .i64 a,.int .i64 b]) (.agg #[.int .i64 a',.int .i64 b'])).run Tryz.prog w = .ok (decide (a=a') && decide (b=b')) w:=by
 have u3:=Tryz.underlying3;have a3:=Tryz.isAgg3;have z3:=Tryz.sizeOf3;rw[show d+2=(d+1)+1 from rfl,Op.equalIn];simp only[Sem.run_bind,run_underlying (P:=Tryz.prog) (show Tryz.prog.underlying 93=some (.array 2 3) by kernel_rfl),Result.andThen_ok];simp only[Std.Legacy.Range.forIn_eq_forIn_range',Std.Legacy.Range.size,Nat.sub_zero,Nat.add_sub_cancel,Nat.div_one,List.range'_succ,List.range'_zero,List.forIn_cons,List.forIn_nil];go_simp;by_cases h1:a=a'<;>by_cases h2:b=b'<;>simp[h1,h2]
@[go_sem high] theorem eqP2' (a b a' b':Int) (w:World):(Op.equalIn 10000 93 (.agg #[.int .i64 a,.int .i64 b]) (.agg #[.int .i64 a',.int .i64 b'])).run Tryz.prog w = .ok (decide (a=a') && decide (b=b')) w:=eqP2 9998 a b a' b' w
theorem elemNd20:ElemK Tryz.prog 228 248 (.agg #[.int .i64 0,.int .i64 0,.slice none 0 0]) 3 40:=⟨by kernel_rfl,by kernel_rfl,rfl⟩
theorem hasNd {w:World}{v:Value}{B:Nat}{Q:List It}(h:OwX 248 3 EIt w B v Q.length Q) (hl:Q.length≤1000000) (s t:Nat) :
  Calls Tryz.prog 216 #[v,.agg #[.int .i64 (s:Int),.int .i64 (t:Int)]] w fun e w'=>e = .returned (.bool (decide ((s,t)∈Q.map Prod.fst)))∧Below w.heap.size w w':=by
 obtain⟨a,c,rfl⟩:=h.shape;obtain⟨R,hR⟩:=exE (decide ((s,t)∈Q.map Prod.fst));rw[hR]
 have hyes:Hid (∀i,i < Q.length→(Q.getD i ((0,0),[])).1=(s,t)→R=true):=fun i hi he=>by
  rw[←hR];refine decide_eq_true ?_;rw[←he,getD_eq hi];exact List.mem_map_of_mem (List.getElem_mem hi)
 have hno:Hid ((∀i,i < Q.length→(Q.getD i ((0,0),[])).1 ≠ (s,t))→R=false):=fun hn=>by
  rw[←hR];refine decide_eq_false fun hm=>?_;obtain⟨x,hx,he⟩:=List.mem_map.1 hm;obtain⟨i,hi,rfl⟩:=List.getElem_of_mem hx;exact hn i hi (by rw[getD_eq hi];exact he)
 obtain⟨W1,hW1⟩:=exF (w.alloc (.cells #[.int .i64 (s:Int),.int .i64 (t:Int)] 93));have hb1:Below w.heap.size w W1:=by rw[hW1];exact(Below.refl _ _).alloc (Nat.le_refl _) _
 have hm1:W1.heap[w.heap.size]? = some (.cells #[.int .i64 (s:Int),.int .i64 (t:Int)] 93):=by rw[hW1];exact heap_alloc_new _ _
 have hh:=qH (OwX.keep (EIt.stab (by decide)) h hb1);have hcl:=qH (fun(g cap:Nat) (h:OwX 248 3 EIt W1 B (.slice (some ⟨g,0,none⟩) Q.length cap) Q.length Q) (j:Nat) (hj:j < Q.length)=>h.cells (j:=j) (x:=Q.getD j ((0,0),[])) (by rw[getD_eq hj];exact List.getElem?_eq_some_iff.2 ⟨hj,rfl⟩));have h00:Hid (∀j,j < 0→(Q.getD j ((0,0),[])).1 ≠ (s,t)):=fun j hj=>absurd hj (Nat.not_lt_zero _);have hmx : Tryz.prog.follows .mixedOrders=true:=by kernel_rfl
 obtain⟨z0,z1⟩:=boxL2 hm1;clear h hR;go_enter Tryz.func216, Tryz.ntmps216
 go_wp2_with fail
 rw[←hW1];replace hW1:=qH hW1;have hq1:Hid (Qt W1 W1):=Qt.refl _;go_loopw [5] (fun iv wr=>∃i:Nat,iv = .int .i64 i∧i≤Q.length∧Hid (∀j,j < i→(Q.getD j ((0,0),[])).1 ≠ (s,t))∧Hid (Qt W1 wr)) (fun iv _=>Q.length - (intOf iv).toNat)
 case atStart=>exact⟨0,rfl,by omega,h00,hq1⟩
 case round=>
  clear h00 hq1;obtain⟨i,rfl,hi,hn,hq⟩:=hrel;by_cases hlt:i < Q.length
  ·obtain⟨g,cap,he,_⟩:=hh.out.form (by omega);obtain⟨rfl,rfl⟩:a=some ⟨g,0,none⟩∧c=cap:=(by injection he with h1 h2 h3;exact⟨h1,h3⟩);obtain⟨cs,hcs,⟨u,hu,_⟩,hcc⟩:=hcl.out g c hh.out i hlt;subst hu;obtain⟨⟨⟨p,q⟩,wd⟩,hx⟩:∃x,Q.getD i ((0,0),[])=x:=⟨_,rfl⟩;rw[hx] at hcc;have c0:wr.cell? ⟨g,i * 3,none⟩=some (.int .i64 (p:Int)):=cell_kept hq.out.below (hcc 0 _ rfl);have c1:wr.cell? ⟨g,i * 3+1,none⟩=some (.int .i64 (q:Int)):=cell_kept hq.out.below (hcc 1 _ rfl);have y0:=cell_kept hq.out.below z0;have y1:=cell_kept hq.out.below z1;have hix:(i:Int) < (Q.length:Int):=by omega
   have hn2:Hid ((p,q) ≠ (s,t)→∀j,j < i+1→(Q.getD j ((0,0),[])).1 ≠ (s,t)):=fun hne j hj=>by
    rcases Nat.lt_or_ge j i with h|h
    ·exact hn.out j h
    ·obtain rfl:j=i:=(by omega);rw[hx];exact hne
   have hy2:Hid ((p,q)=(s,t)→R=true):=fun he=>hyes.out i hlt (by rw[hx];exact he)
   have hE:(decide ((p:Int)=(s:Int)) && decide ((q:Int)=(t:Int)))=decide ((p,q)=(s,t)):=by
    rw[Bool.eq_iff_iff,Bool.and_eq_true,decide_eq_true_iff,decide_eq_true_iff,decide_eq_true_iff,Prod.mk.injEq];omega
   clear hcc hcs hx he hn z0 z1;obtain⟨E,hE2⟩:∃E,decide ((p,q)=(s,t))=E:=⟨_,rfl⟩;rw[hE2] at hE;cases E with
   | true=>
    have hRt:=qH (hy2.out (of_decide_eq_true hE2));clear hy2 hn2 hE2;go_wp2_with fail
    go_quiet (fail)
    go_wp2;go_ret;exact⟨by rw[hRt.out];rfl,bt hb1 (by first|exact hq.out.below|exact below_drewN hq.out.below _|exact(hq.out.trans ⟨_,rfl⟩).below) hb1.size⟩
   | false=>
    have hn3:=qH (hn2.out (of_decide_eq_false hE2));clear hy2 hn2 hE2;go_wp2_with fail
    go_quiet (fail)
    go_wp2;go_roundw
    case rel=>exact⟨i+1,by go_num,hlt,hn3,hq.out.trans ⟨_,rfl⟩⟩
    case measure=>simp[intOf];omega
  ·have hRf:=qH (hno.out fun j hj=>hn.out j (by omega));clear hn hno hyes;go_wp2;go_ret;exact⟨by rw[hRf.out];rfl,bt hb1 hq.out.below hb1.size⟩
def EItN (w:World) (cs:List Value) (x:It):Prop:=∃u,cs = [.int .i64 (x.1.1:Int),.int .i64 (x.1.2:Int),u]∧OwX 87 7 EI w 0 u x.2.length x.2∧(x.2 = []→u = .slice none 0 0)
attribute [local go_sem] Oper.semAt_some
abbrev Stp:=List Int × Int × Int
def stpIn (k:List (List Int)→List Stp) (m:List Int):List (List Int)→List Stp
 | []=>(rdOf m,m.getD 7 0,-1)::k []
 | m'::ys=>if cmpL (rdOf m) (rdOf m') < 0 then (rdOf m,m.getD 7 0,-1)::k (m'::ys) else if cmpL (rdOf m) (rdOf m')=0 then (rdOf m',m.getD 7 0,m'.getD 7 0)::k ys else (rdOf m',-1,m'.getD 7 0)::stpIn k m ys
def stp:List (List Int)→List (List Int)→List Stp
 | [],ys=>ys.map fun m'=>(rdOf m',-1,m'.getD 7 0)
 | m::xs,ys=>stpIn (stp xs) m ys
theorem stp_nil (m':List Int) (ys:List (List Int)):stp [] (m'::ys)=(rdOf m',-1,m'.getD 7 0)::stp [] ys:=rfl
theorem stp_cons (m:List Int) (xs:List (List Int)):stp (m::xs) []=(rdOf m,m.getD 7 0,-1)::stp xs []:=rfl
theorem stp_lt {m m':List Int}{xs ys:List (List Int)}(h:cmpL (rdOf m) (rdOf m') < 0):stp (m::xs) (m'::ys)=(rdOf m,m.getD 7 0,-1)::stp xs (m'::ys):=by rw[stp,stpIn,if_pos h]
theorem stp_eq {m m':List Int}{xs ys:List (List Int)}(h:cmpL (rdOf m) (rdOf m')=0):stp (m::xs) (m'::ys)=(rdOf m',m.getD 7 0,m'.getD 7 0)::stp xs ys:=by rw[stp,stpIn,if_neg (by omega),if_pos h]
theorem stp_gt {m m':List Int}{xs ys:List (List Int)}(h:0 < cmpL (rdOf m) (rdOf m')):stp (m::xs) (m'::ys)=(rdOf m',-1,m'.getD 7 0)::stp (m::xs) ys:=by rw[stp,stpIn,if_neg (by omega),if_neg (by omega)];rfl
theorem stp_len:∀ {xs ys:List (List Int)}{x:Stp},(∀m∈xs,m.length=8)→(∀m∈ys,m.length=8)→x∈stp xs ys→x.1.length=7
 | [],ys,x,_,hy,h=>by
  obtain⟨m,hm,rfl⟩:=List.mem_map.1 h;show(m.take 7).length=7
  rw[List.length_take,hy m hm];rfl
 | m::xs,ys,x,hx,hy,h=>by
  have hm:(rdOf m).length=7:=by rw[rdOf,List.length_take,hx m (by simp)];rfl
  have go:∀ys,(∀m∈ys,m.length=8)→x∈stpIn (stp xs) m ys→x.1.length=7:=by
   intro ys;induction ys with
   | nil=>
    intro hy h;rw[stpIn] at h;rcases List.mem_cons.1 h with rfl|h
    ·exact hm
    ·exact stp_len (fun z hz=>hx z (by simp[hz])) hy h
   | cons m' ys ih=>
    intro hy h;have hm':(rdOf m').length=7:=(by rw[rdOf,List.length_take,hy m' (by simp)];rfl);rw[stpIn] at h;split at h
    ·rcases List.mem_cons.1 h with rfl|h
     ·exact hm
     ·exact stp_len (fun z hz=>hx z (by simp[hz])) hy h
    ·split at h
     ·rcases List.mem_cons.1 h with rfl|h
      ·exact hm'
      ·exact stp_len (fun z hz=>hx z (by simp[hz])) (fun z hz=>hy z (by simp[hz])) h
     ·rcases List.mem_cons.1 h with rfl|h
      ·exact hm'
      ·exact ih (fun z hz=>hy z (by simp[hz])) h
  exact go ys hy h
def spEnc (x:Stp):Array Value:=#[.agg ((x.1 ++ [x.2.1,x.2.2]).map (Value.int .i64)).toArray]
def spR (L pre:List Stp) (x:Stp) (_:World):Prop:=∃r,pre++x::r=L
theorem stepsC {w:World}{xa ya:Option Addr}{xn xc yn yc:Nat} :
  Calls Tryz.prog 123 #[.slice xa xn xc,.slice ya yn yc] w fun e w'=>e = .returned (.func (.func 176) #[] #[.pointer (some ⟨w.heap.size,0,none⟩),.pointer (some ⟨w.heap.size+1,0,none⟩)])∧w'=(w.alloc (.cells #[.slice xa xn xc] 98)).alloc (.cells #[.slice ya yn yc] 98):=by
 go_enter Tryz.func123, Tryz.ntmps123
 go_wp2;go_ret;exact⟨rfl,rfl⟩
theorem KSC.nl {w:World}{v:Value}(h:KSC 8 w v []):∃a c,v = .slice a 0 c:=by
 obtain⟨a,c,_,_,h1,_⟩:=h;exact⟨a,c,h1⟩
theorem KSC.hd8 {w:World}{v:Value}{x:List Int}{xs:List (List Int)}(h:KSC 8 w v (x::xs)):∃b off c x0 x1 x2 x3 x4 x5 x6 x7,v = .slice (some ⟨b,off,none⟩) (xs.length+1) c∧x = [x0,x1,x2,x3,x4,x5,x6,x7]∧xs.length+1≤c∧
  (w.cell? ⟨b,off,none⟩=some (.int .i64 x0)∧w.cell? ⟨b,off+1,none⟩=some (.int .i64 x1)∧w.cell? ⟨b,off+2,none⟩=some (.int .i64 x2)∧w.cell? ⟨b,off+3,none⟩=some (.int .i64 x3)∧
  w.cell? ⟨b,off+4,none⟩=some (.int .i64 x4)∧w.cell? ⟨b,off+5,none⟩=some (.int .i64 x5)∧w.cell? ⟨b,off+6,none⟩=some (.int .i64 x6)∧w.cell? ⟨b,off+7,none⟩=some (.int .i64 x7))∧
  ∃tp:Option Addr,(if c=1 then some (⟨b,off,none⟩:Addr) else some ⟨b,off+8,none⟩)=tp∧KSC 8 w (.slice tp (xs.length+1 - 1) (c - 1)) xs:=by
 have h':=h;obtain⟨a,c,b,off,rfl,h2,h3,_,h5⟩:=h;obtain rfl:=h2 (by simp);obtain⟨h8,hi⟩:=h3 0 (by simp);rw[List.getD_cons_zero] at h8 hi;rw[Nat.zero_mul,Nat.add_zero] at hi;obtain⟨x0,x1,x2,x3,x4,x5,x6,x7,rfl⟩:=eight h8;obtain⟨c0,c1,c2,c3,c4,c5,c6,c7⟩:=hi.all8;exact⟨b,off,c,x0,x1,x2,x3,x4,x5,x6,x7,rfl,rfl,by simpa using h5,⟨c0,c1,c2,c3,c4,c5,c6,c7⟩,_,rfl,h'.tl⟩
theorem Only.cells8 {D:Nat→Prop}{A B:World}(h:Only D A B) {b off:Nat}(hb : ¬D b) {x0 x1 x2 x3 x4 x5 x6 x7:Int}(q:A.cell? ⟨b,off,none⟩=some (.int .i64 x0)∧A.cell? ⟨b,off+1,none⟩=some (.int .i64 x1)∧A.cell? ⟨b,off+2,none⟩=some (.int .i64 x2)∧A.cell? ⟨b,off+3,none⟩=some (.int .i64 x3)∧
  A.cell? ⟨b,off+4,none⟩=some (.int .i64 x4)∧A.cell? ⟨b,off+5,none⟩=some (.int .i64 x5)∧A.cell? ⟨b,off+6,none⟩=some (.int .i64 x6)∧A.cell? ⟨b,off+7,none⟩=some (.int .i64 x7)) :
  B.cell? ⟨b,off,none⟩=some (.int .i64 x0)∧B.cell? ⟨b,off+1,none⟩=some (.int .i64 x1)∧B.cell? ⟨b,off+2,none⟩=some (.int .i64 x2)∧B.cell? ⟨b,off+3,none⟩=some (.int .i64 x3)∧
  B.cell? ⟨b,off+4,none⟩=some (.int .i64 x4)∧B.cell? ⟨b,off+5,none⟩=some (.int .i64 x5)∧B.cell? ⟨b,off+6,none⟩=some (.int .i64 x6)∧B.cell? ⟨b,off+7,none⟩=some (.int .i64 x7):=by
 obtain⟨q0,q1,q2,q3,q4,q5,q6,q7⟩:=q;exact⟨h.cell (p:=⟨b,_,none⟩) hb q0,h.cell (p:=⟨b,_,none⟩) hb q1,h.cell (p:=⟨b,_,none⟩) hb q2,h.cell (p:=⟨b,_,none⟩) hb q3,h.cell (p:=⟨b,_,none⟩) hb q4,h.cell (p:=⟨b,_,none⟩) hb q5,h.cell (p:=⟨b,_,none⟩) hb q6,h.cell (p:=⟨b,_,none⟩) hb q7⟩
theorem stepsSeq {wz w0:World}{bx by':Nat}{vx vy:Value}{xs ys:List (List Int)}(hz:Below wz.heap.size wz w0) (hx:KSC 8 wz vx xs) (hy:KSC 8 wz vy ys) (k1:w0.heap[bx]? = some (.cells #[vx] 98)) (k2:w0.heap[by']? = some (.cells #[vy] 98)) (g1:wz.heap.size≤bx) (g2:wz.heap.size≤by') (hne:bx ≠ by') (hl:xs.length+ys.length≤100000) :
  SeqOS Tryz.prog 176 #[.pointer (some ⟨bx,0,none⟩),.pointer (some ⟨by',0,none⟩)] spEnc (spR (stp xs ys)) (fun l=>l=stp xs ys) (fun _=>True) 1000000 (fun k=>k < wz.heap.size) (fun k=>k=bx∨k=by') w0:=by
 intro l J Jx D W hB hD hDC hJ hJx hY h0
 have hAn:∀k,k < wz.heap.size→¬(D k∨k=bx∨k=by'):=fun k hk h=>by
  rcases h with h|h|h
  ·exact(hDC k h).1 hk
  ·omega
  ·omega
 have hDx : ¬D bx:=fun h=>(hDC _ h).2 (.inl rfl);have hDy : ¬D by':=fun h=>(hDC _ h).2 (.inr rfl)
 have hbl1:=(Array.getElem?_eq_some_iff.1 k1).1;have hbl2:=(Array.getElem?_eq_some_iff.1 k2).1;replace k1:=(hB.block bx hbl1).trans k1;replace k2:=(hB.block by' hbl2).trans k2;have hzW:Below wz.heap.size wz W:=bt hz hB hz.size;have hs0:=hB.size;replace hJ:=qH hJ;replace hJx:=qH hJx;replace hY:=qH hY;show CallsIn Fence.wide 0 Tryz.prog 176 #[.func (.yield l) #[] #[],.pointer (some ⟨bx,0,none⟩),.pointer (some ⟨by',0,none⟩)] W _;refine callsIn_of_wp Tryz.func176 rfl trivial ?_
 simp only[Tryz.ntmps176,List.size_toArray,List.length_cons,List.length_nil,Nat.reduceAdd,Nat.reduceSub,Array.replicate_succ,
   Array.replicate_zero,List.push_toArray,List.append_toArray,List.nil_append,List.cons_append]
 obtain⟨L,hL⟩:=exE (stp xs ys);rw[hL] at hY⊢;have hL0:Hid ([]++stp xs ys=L):=by show _=_;rw[List.nil_append];exact hL
 clear hL;obtain⟨N,hN⟩:=exE (xs.length+ys.length);have hOn0:Only (fun k=>D k∨k=bx∨k=by') W W:=Only.refl _ _;have hGr0:Gr D W D:=Gr.refl _ _;have hxh:=qH hx;have hyh:=qH hy;replace hN:=qH hN;clear hx hy hB hz;gi_wp2;gi_loopg [] N (fun f wr=>∃(pre:List Stp) (D1:Nat→Prop) (vx vy:Value) (xl yl:List (List Int)),J pre D1 wr∧Bd D1 wr∧Only (fun k=>D k∨k=bx∨k=by') W wr∧Gr D W D1∧wr.heap[bx]? = some (.cells #[vx] 98)∧wr.heap[by']? = some (.cells #[vy] 98)∧Hid (KSC 8 wz vx xl)∧Hid (KSC 8 wz vy yl)∧pre.length+f≤100000∧Hid (xl.length+yl.length=f)∧Hid (pre++stp xl yl=L))
 case atStart=>exact⟨[],D,vx,vy,xs,ys,h0,hD,hOn0,hGr0,k1,k2,hxh,hyh,by have:=hN.out;simp;omega,hN,hL0⟩
 case round=>
  clear h0 hOn0 hGr0 hL0 k1 k2 hxh hyh hN;obtain⟨pre,D1,vx,vy,xl,yl,hJk,hBk,hOn,hGr,k1,k2,hx,hy,hpl,hfl,hp⟩:=hrel;have c1:=cell_of_one k1;have c2:=cell_of_one k2;rcases xl with _|⟨x,xl⟩
  ·rcases yl with _|⟨y,yl⟩
   ·obtain⟨xa,xc,rfl⟩:=hx.out.nl;obtain⟨ya,yc,rfl⟩:=hy.out.nl;have hpe:Hid (pre=L):=(by show _=_;have:=hp.out;simpa [stp] using this);clear hx hy hp hfl hY;gi_wp2;refine bodyPost_end (results_none rfl _ _ _) rfl ?_;exact⟨⟨_,rfl⟩,D1,hOn,hGr,hBk,.inl ⟨_,hpe.out,hJk⟩⟩
   ·obtain⟨xa,xc,rfl⟩:=hx.out.nl;obtain⟨nb,no,yc,y0,y1,y2,y3,y4,y5,y6,y7,rfl,rfl,hyc,hr,tq,hjf,hyt⟩:=hy.out.hd8;have hnz:nb < wz.heap.size:=World.block_lt_of_cell? wz _ hr.1;have hnD:=hAn nb hnz;have hrW:=hOn.cells8 hnD (Only.cells8 (D:=fun _=>False) (Only.of_below hzW) (fun h=>h) hr);have hm1:(0:Int) < ((yl.length+1:Nat):Int):=(by omega);have hm1n:0 < yl.length+1:=(by omega);replace hyt:=qH hyt;replace hjf:=qH hjf;clear hy hr;replace hp:Hid (pre++([y0,y1,y2,y3,y4,y5,y6],-1,y7)::stp [] yl=L):=(by have:=hp.out;rw[stp_nil] at this;exact this);refine wpIn_wide.2 ?_;go_upto_region 11 with fail
    obtain⟨WA,hWA⟩:=exF (wr.alloc (.cells #[.int .i64 0,.int .i64 0,.int .i64 0,.int .i64 0,.int .i64 0,.int .i64 0,.int .i64 0,.int .i64 (-1),.int .i64 (-1)] 134));have hbA:Below wr.heap.size wr WA:=(by rw[hWA];exact(Below.refl _ wr).alloc (Nat.le_refl _) _);have kb:WA.heap[wr.heap.size]? = some (stB 0 0 0 0 0 0 0 (-1) (-1)):=(by rw[hWA];exact heap_alloc_new _ _);have hl1:=(Array.getElem?_eq_some_iff.1 k1).1;have hl2:=(Array.getElem?_eq_some_iff.1 k2).1;have j1:=(hbA.block bx hl1).trans k1;have j2:=(hbA.block by' hl2).trans k2;have hbn:wr.heap.size ≠ bx:=(by omega);have hbn':wr.heap.size ≠ by':=by omega
    have hS0:Only (fun k=>k=wr.heap.size∨k=bx∨k=by') WA WA:=Only.refl _ _;rw[←hWA];replace hWA:=qH hWA;obtain⟨p0,p1,p2,p3,p4,p5,p6,p7⟩:=(hS0).cells8 (b:=nb) (by have:=hbA.size;have:=hOn.size;omega) (Only.cells8 (D:=fun _=>False) (Only.of_below hbA) (fun h=>h) hrW);refine regStep11 (b:=wr.heap.size) (bx:=by') kb j2 hbn' (by omega) p0 p1 p2 p3 p4 p5 p6 p7 hm1n hyc hjf.out ?_;intro _ _ _ WC ⟨hG1,hG2,hG3⟩ _ _ _;have kbC:WC.heap[wr.heap.size]? = some (stB y0 y1 y2 y3 y4 y5 y6 (-1) y7):=hG2;have jC2:WC.heap[by']? = some (.cells #[.slice tq (yl.length+1 - 1) (yc - 1)] 98):=hG3;have jC1:=(hG1.same bx (by have:=hbA.size;have:=(hS0).size;omega) (fun h=>by rcases h with h|h<;>omega)).trans j1;have hSC:Only (fun k=>k=wr.heap.size∨k=bx∨k=by') WA WC:=(hS0).trans (hG1.mono fun k h=>h.elim .inl fun h=>.inr (.inr h)) (Gr.refl _ _);clear hG1 hG2 hG3 p0 p1 p2 p3 p4 p5 p6 p7;obtain⟨⟨z0,z1,z2,z3,z4,z5,z6⟩,z7,z8⟩:=stB.cells kbC;go_upto_region 12 with fail
    refine(wpIn_wide (n:=0)).1 ?_;have hnD1x : ¬D1 bx:=fun h=>(hGr bx h).elim hDx fun h=>by omega
    have hnD1y : ¬D1 by':=fun h=>(hGr by' h).elim hDy fun h=>by omega
    have hOn2:Only (fun k=>D k∨k=bx∨k=by') W WC:=⟨(hSC).os.trans (hbA.os.trans hOn.os),(hSC).tape.trans (hbA.tape.trans hOn.tape),(hSC).output.trans (hbA.output.trans hOn.output),Nat.le_trans hOn.size (Nat.le_trans hbA.size (hSC).size),fun k hk hn=>((hSC).same k (by have:=hOn.size;have:=hbA.size;omega) (fun h=>h.elim (fun h=>by have:=hOn.size;omega) fun h=>hn (.inr h))).trans ((hbA.block k (by have:=hOn.size;omega)).trans (hOn.same k hk hn))⟩;have hBk2:Bd D1 WC:=fun k hk=>Nat.lt_of_lt_of_le (hBk k hk) (Nat.le_trans hbA.size (hSC).size);have hJk2:=hJ.out _ _ _ WC hJk (Nat.le_trans hbA.size (hSC).size) (fun k hk=>((hSC).same k (by have:=hBk k hk;have:=hbA.size;omega) (fun h=>by rcases h with h|h|h;have:=hBk k hk;omega;exact hnD1x (h▸hk);exact hnD1y (h▸hk))).trans (hbA.block k (hBk k hk)));have hlen:pre.length < 1000000:=(by omega);have hRx:spR L pre ([y0,y1,y2,y3,y4,y5,y6],-1,y7) WC:=⟨_,hp.out⟩;have hl1:=(Array.getElem?_eq_some_iff.1 jC1).1;have hl2:=(Array.getElem?_eq_some_iff.1 jC2).1;obtain⟨fn,tmps,assign,body,hyy,hR⟩:=hY.out pre ([y0,y1,y2,y3,y4,y5,y6],-1,y7) D1 _ hJk2 hBk2 hOn2 hGr hRx hlen;simp only[spEnc,List.cons_append,List.nil_append,List.map_cons,List.map_nil] at hyy hR;replace hR:=qH hR;have hj1:=qH jC1;have hj2:=qH jC2;clear hJk hJk2 hRx hOn hBk k1 k2 j1 j2 kb hbA hY hS0 c1 c2 jC1 jC2 kbC hSC;gi_wp2;refine⟨rfl,hR.out.mono ?_⟩;rintro e W' ⟨D',hO',hG',hB',(⟨rfl,hJ'⟩|⟨rfl,hJ'⟩)⟩
    ·have hOn3:=hOn2.trans (hO'.or (Wr:=fun k=>k=bx∨k=by')) hGr.or;have hGr3:=hGr.trans hG' hOn2.size;have m1:=(hO'.same bx hl1 hnD1x).trans hj1.out;have m2:=(hO'.same by' hl2 hnD1y).trans hj2.out;clear hyy hR z0 z1 z2 z3 z4 z5 z6 z7 z8;gi_wp2;go_wp2_with fail
     first|go_roundg (([]:List (List Int)).length+yl.length)|gi_roundg (([]:List (List Int)).length+yl.length)
     case measure=>have:=hfl.out;simp only[List.length_cons,List.length_nil] at this⊢;omega
     case rel=>exact⟨pre ++ [([y0,y1,y2,y3,y4,y5,y6],-1,y7)],D',_,_,([]:List (List Int)),yl,hJ',hB',hOn3,hGr3,m1,m2,hx,hyt,by have:=hfl.out;simp only[List.length_append,List.length_cons,List.length_nil] at this hpl⊢;omega,rfl,by show _=_;rw[List.append_assoc];exact hp.out⟩
    ·gi_wp2;go_wp2_with fail
     refine bodyPost_ret (results_none rfl _ _ _) rfl ?_;exact⟨⟨_,rfl⟩,D',hOn2.trans (hO'.or (Wr:=fun k=>k=bx∨k=by')) hGr.or,hGr.trans hG' hOn2.size,hB',.inr ⟨_,trivial,hJ'⟩⟩
  ·rcases yl with _|⟨y,yl⟩
   ·obtain⟨ya,yc,rfl⟩:=hy.out.nl;obtain⟨mb,mo,xc,x0,x1,x2,x3,x4,x5,x6,x7,rfl,rfl,hxc,hq,tp,hif,hxt⟩:=hx.out.hd8;have hmz:mb < wz.heap.size:=World.block_lt_of_cell? wz _ hq.1;have hmD:=hAn mb hmz;have hqW:=hOn.cells8 hmD (Only.cells8 (D:=fun _=>False) (Only.of_below hzW) (fun h=>h) hq);have hn1:(0:Int) < ((xl.length+1:Nat):Int):=(by omega);have hn1n:0 < xl.length+1:=(by omega);replace hxt:=qH hxt;replace hif:=qH hif;clear hx hq;replace hp:Hid (pre++([x0,x1,x2,x3,x4,x5,x6],x7,-1)::stp xl []=L):=(by have:=hp.out;rw[stp_cons] at this;exact this);refine wpIn_wide.2 ?_;go_upto_region 9 with fail
    obtain⟨WA,hWA⟩:=exF (wr.alloc (.cells #[.int .i64 0,.int .i64 0,.int .i64 0,.int .i64 0,.int .i64 0,.int .i64 0,.int .i64 0,.int .i64 (-1),.int .i64 (-1)] 134));have hbA:Below wr.heap.size wr WA:=(by rw[hWA];exact(Below.refl _ wr).alloc (Nat.le_refl _) _);have kb:WA.heap[wr.heap.size]? = some (stB 0 0 0 0 0 0 0 (-1) (-1)):=(by rw[hWA];exact heap_alloc_new _ _);have hl1:=(Array.getElem?_eq_some_iff.1 k1).1;have hl2:=(Array.getElem?_eq_some_iff.1 k2).1;have j1:=(hbA.block bx hl1).trans k1;have j2:=(hbA.block by' hl2).trans k2;have hbn:wr.heap.size ≠ bx:=(by omega);have hbn':wr.heap.size ≠ by':=by omega
    have hS0:Only (fun k=>k=wr.heap.size∨k=bx∨k=by') WA WA:=Only.refl _ _;rw[←hWA];replace hWA:=qH hWA;obtain⟨p0,p1,p2,p3,p4,p5,p6,p7⟩:=(hS0).cells8 (b:=mb) (by have:=hbA.size;have:=hOn.size;omega) (Only.cells8 (D:=fun _=>False) (Only.of_below hbA) (fun h=>h) hqW);refine regStep9 (b:=wr.heap.size) (bx:=bx) kb j1 hbn (by omega) p0 p1 p2 p3 p4 p5 p6 p7 hn1n hxc hif.out ?_;intro _ _ _ WB ⟨hG1,hG2,hG3⟩ _ _ _;have kbB:WB.heap[wr.heap.size]? = some (stB x0 x1 x2 x3 x4 x5 x6 x7 (-1)):=hG2;have jB1:WB.heap[bx]? = some (.cells #[.slice tp (xl.length+1 - 1) (xc - 1)] 98):=hG3;have jB2:=(hG1.same by' (by have:=hbA.size;have:=(hS0).size;omega) (fun h=>by rcases h with h|h<;>omega)).trans j2;have hSB:Only (fun k=>k=wr.heap.size∨k=bx∨k=by') WA WB:=(hS0).trans (hG1.mono fun k h=>h.elim .inl fun h=>.inr (.inl h)) (Gr.refl _ _);clear hG1 hG2 hG3 p0 p1 p2 p3 p4 p5 p6 p7;obtain⟨⟨z0,z1,z2,z3,z4,z5,z6⟩,z7,z8⟩:=stB.cells kbB;go_upto_region 12 with fail
    refine(wpIn_wide (n:=0)).1 ?_;have hnD1x : ¬D1 bx:=fun h=>(hGr bx h).elim hDx fun h=>by omega
    have hnD1y : ¬D1 by':=fun h=>(hGr by' h).elim hDy fun h=>by omega
    have hOn2:Only (fun k=>D k∨k=bx∨k=by') W WB:=⟨(hSB).os.trans (hbA.os.trans hOn.os),(hSB).tape.trans (hbA.tape.trans hOn.tape),(hSB).output.trans (hbA.output.trans hOn.output),Nat.le_trans hOn.size (Nat.le_trans hbA.size (hSB).size),fun k hk hn=>((hSB).same k (by have:=hOn.size;have:=hbA.size;omega) (fun h=>h.elim (fun h=>by have:=hOn.size;omega) fun h=>hn (.inr h))).trans ((hbA.block k (by have:=hOn.size;omega)).trans (hOn.same k hk hn))⟩;have hBk2:Bd D1 WB:=fun k hk=>Nat.lt_of_lt_of_le (hBk k hk) (Nat.le_trans hbA.size (hSB).size);have hJk2:=hJ.out _ _ _ WB hJk (Nat.le_trans hbA.size (hSB).size) (fun k hk=>((hSB).same k (by have:=hBk k hk;have:=hbA.size;omega) (fun h=>by rcases h with h|h|h;have:=hBk k hk;omega;exact hnD1x (h▸hk);exact hnD1y (h▸hk))).trans (hbA.block k (hBk k hk)));have hlen:pre.length < 1000000:=(by omega);have hRx:spR L pre ([x0,x1,x2,x3,x4,x5,x6],x7,-1) WB:=⟨_,hp.out⟩;have hl1:=(Array.getElem?_eq_some_iff.1 jB1).1;have hl2:=(Array.getElem?_eq_some_iff.1 jB2).1;obtain⟨fn,tmps,assign,body,hyy,hR⟩:=hY.out pre ([x0,x1,x2,x3,x4,x5,x6],x7,-1) D1 _ hJk2 hBk2 hOn2 hGr hRx hlen;simp only[spEnc,List.cons_append,List.nil_append,List.map_cons,List.map_nil] at hyy hR;replace hR:=qH hR;have hj1:=qH jB1;have hj2:=qH jB2;clear hJk hJk2 hRx hOn hBk k1 k2 j1 j2 kb hbA hY hS0 c1 c2 jB1 jB2 kbB hSB;gi_wp2;refine⟨rfl,hR.out.mono ?_⟩;rintro e W' ⟨D',hO',hG',hB',(⟨rfl,hJ'⟩|⟨rfl,hJ'⟩)⟩
    ·have hOn3:=hOn2.trans (hO'.or (Wr:=fun k=>k=bx∨k=by')) hGr.or;have hGr3:=hGr.trans hG' hOn2.size;have m1:=(hO'.same bx hl1 hnD1x).trans hj1.out;have m2:=(hO'.same by' hl2 hnD1y).trans hj2.out;clear hyy hR z0 z1 z2 z3 z4 z5 z6 z7 z8;gi_wp2;go_wp2_with fail
     first|go_roundg (xl.length+([]:List (List Int)).length)|gi_roundg (xl.length+([]:List (List Int)).length)
     case measure=>have:=hfl.out;simp only[List.length_cons,List.length_nil] at this⊢;omega
     case rel=>exact⟨pre ++ [([x0,x1,x2,x3,x4,x5,x6],x7,-1)],D',_,_,xl,([]:List (List Int)),hJ',hB',hOn3,hGr3,m1,m2,hxt,hy,by have:=hfl.out;simp only[List.length_append,List.length_cons,List.length_nil] at this hpl⊢;omega,rfl,by show _=_;rw[List.append_assoc];exact hp.out⟩
    ·gi_wp2;go_wp2_with fail
     refine bodyPost_ret (results_none rfl _ _ _) rfl ?_;exact⟨⟨_,rfl⟩,D',hOn2.trans (hO'.or (Wr:=fun k=>k=bx∨k=by')) hGr.or,hGr.trans hG' hOn2.size,hB',.inr ⟨_,trivial,hJ'⟩⟩
   ·have hyk:=hy;have hxk:=hx;obtain⟨mb,mo,xc,x0,x1,x2,x3,x4,x5,x6,x7,rfl,rfl,hxc,hq,tp,hif,hxt⟩:=hx.out.hd8;have hmz:mb < wz.heap.size:=World.block_lt_of_cell? wz _ hq.1;have hmD:=hAn mb hmz;have hqW:=hOn.cells8 hmD (Only.cells8 (D:=fun _=>False) (Only.of_below hzW) (fun h=>h) hq);have hn1:(0:Int) < ((xl.length+1:Nat):Int):=(by omega);have hn1n:0 < xl.length+1:=(by omega);replace hxt:=qH hxt;replace hif:=qH hif;clear hx hq;obtain⟨nb,no,yc,y0,y1,y2,y3,y4,y5,y6,y7,rfl,rfl,hyc,hr,tq,hjf,hyt⟩:=hy.out.hd8;have hnz:nb < wz.heap.size:=World.block_lt_of_cell? wz _ hr.1;have hnD:=hAn nb hnz;have hrW:=hOn.cells8 hnD (Only.cells8 (D:=fun _=>False) (Only.of_below hzW) (fun h=>h) hr);have hm1:(0:Int) < ((yl.length+1:Nat):Int):=(by omega);have hm1n:0 < yl.length+1:=(by omega);replace hyt:=qH hyt;replace hjf:=qH hjf;clear hy hr;have hqW2:=hqW;obtain⟨p0,p1,p2,p3,p4,p5,p6,p7⟩:=hqW2;have hrW2:=hrW;obtain⟨q0,q1,q2,q3,q4,q5,q6,q7⟩:=hrW2;have HC:=fun W=>roundCompare x0 x1 x2 x3 x4 x5 x6 y0 y1 y2 y3 y4 y5 y6 W;obtain⟨C,hC⟩:=exE (cmpL [x0,x1,x2,x3,x4,x5,x6] [y0,y1,y2,y3,y4,y5,y6]);simp only[hC] at HC;replace HC:=qH HC;refine wpIn_wide.2 ?_;go_wp2_with fail
    go_still_tail 8,(by kernel_rfl)
    change wpList _ _ _ _ _ wr.drew;go_wp2_with fail
    refine(HC.out _).mono ?_;rintro e w1 ⟨rfl,hb1⟩;replace hb1:=below_of_drew hb1;have hJk1:=hJ.out _ _ _ w1 hJk hb1.size (fun k hk=>hb1.block k (hBk k hk));have hOn1:=hOn.thenBelow (hb1.mono hOn.size);have hBk1:Bd D1 w1:=fun k hk=>Nat.lt_of_lt_of_le (hBk k hk) hb1.size;have k11:=(hb1.block bx (Array.getElem?_eq_some_iff.1 k1).1).trans k1;have k21:=(hb1.block by' (Array.getElem?_eq_some_iff.1 k2).1).trans k2;have hqW:=Only.cells8 (D:=fun _=>False) (Only.of_below hb1) (fun h=>h) hqW;have hrW:=Only.cells8 (D:=fun _=>False) (Only.of_below hb1) (fun h=>h) hrW;clear hJk hOn hBk k1 k2 c1 c2 p0 p1 p2 p3 p4 p5 p6 p7 q0 q1 q2 q3 q4 q5 q6 q7;have hJk:=hJk1;have hOn:=hOn1;have hBk:=hBk1;have k1:=k11;have k2:=k21;clear hJk1 hOn1 hBk1 k11 k21;have c1:=cell_of_one k1;have c2:=cell_of_one k2;rcases Int.lt_trichotomy C 0 with hC0|hC0|hC0
    ·have hd1:decide (C≤0)=true:=decide_eq_true (by omega);have hd2:decide (0≤C)=false:=decide_eq_false (by omega);replace hp:Hid (pre++([x0,x1,x2,x3,x4,x5,x6],x7,-1)::stp xl ([y0,y1,y2,y3,y4,y5,y6,y7]::yl)=L):=(by have:=hp.out;rw[stp_lt (by show cmpL [x0,x1,x2,x3,x4,x5,x6] [y0,y1,y2,y3,y4,y5,y6] < 0;rw[hC];exact hC0)] at this;exact this);go_upto_region 9 with fail
     obtain⟨WA,hWA⟩:=exF (w1.alloc (.cells #[.int .i64 0,.int .i64 0,.int .i64 0,.int .i64 0,.int .i64 0,.int .i64 0,.int .i64 0,.int .i64 (-1),.int .i64 (-1)] 134));have hbA:Below w1.heap.size w1 WA:=(by rw[hWA];exact(Below.refl _ w1).alloc (Nat.le_refl _) _);have kb:WA.heap[w1.heap.size]? = some (stB 0 0 0 0 0 0 0 (-1) (-1)):=(by rw[hWA];exact heap_alloc_new _ _);have hl1:=(Array.getElem?_eq_some_iff.1 k1).1;have hl2:=(Array.getElem?_eq_some_iff.1 k2).1;have j1:=(hbA.block bx hl1).trans k1;have j2:=(hbA.block by' hl2).trans k2;have hbn:w1.heap.size ≠ bx:=(by omega);have hbn':w1.heap.size ≠ by':=by omega
     have hS0:Only (fun k=>k=w1.heap.size∨k=bx∨k=by') WA WA:=Only.refl _ _;rw[←hWA];replace hWA:=qH hWA;obtain⟨p0,p1,p2,p3,p4,p5,p6,p7⟩:=(hS0).cells8 (b:=mb) (by have:=hbA.size;have:=hOn.size;omega) (Only.cells8 (D:=fun _=>False) (Only.of_below hbA) (fun h=>h) hqW);refine regStep9 (b:=w1.heap.size) (bx:=bx) kb j1 hbn (by omega) p0 p1 p2 p3 p4 p5 p6 p7 hn1n hxc hif.out ?_;intro _ _ _ WB ⟨hG1,hG2,hG3⟩ _ _ _;have kbB:WB.heap[w1.heap.size]? = some (stB x0 x1 x2 x3 x4 x5 x6 x7 (-1)):=hG2;have jB1:WB.heap[bx]? = some (.cells #[.slice tp (xl.length+1 - 1) (xc - 1)] 98):=hG3;have jB2:=(hG1.same by' (by have:=hbA.size;have:=(hS0).size;omega) (fun h=>by rcases h with h|h<;>omega)).trans j2;have hSB:Only (fun k=>k=w1.heap.size∨k=bx∨k=by') WA WB:=(hS0).trans (hG1.mono fun k h=>h.elim .inl fun h=>.inr (.inl h)) (Gr.refl _ _);clear hG1 hG2 hG3 p0 p1 p2 p3 p4 p5 p6 p7;obtain⟨⟨z0,z1,z2,z3,z4,z5,z6⟩,z7,z8⟩:=stB.cells kbB;go_upto_region 12 with fail
     refine(wpIn_wide (n:=0)).1 ?_;have hnD1x : ¬D1 bx:=fun h=>(hGr bx h).elim hDx fun h=>by omega
     have hnD1y : ¬D1 by':=fun h=>(hGr by' h).elim hDy fun h=>by omega
     have hOn2:Only (fun k=>D k∨k=bx∨k=by') W WB:=⟨(hSB).os.trans (hbA.os.trans hOn.os),(hSB).tape.trans (hbA.tape.trans hOn.tape),(hSB).output.trans (hbA.output.trans hOn.output),Nat.le_trans hOn.size (Nat.le_trans hbA.size (hSB).size),fun k hk hn=>((hSB).same k (by have:=hOn.size;have:=hbA.size;omega) (fun h=>h.elim (fun h=>by have:=hOn.size;omega) fun h=>hn (.inr h))).trans ((hbA.block k (by have:=hOn.size;omega)).trans (hOn.same k hk hn))⟩;have hBk2:Bd D1 WB:=fun k hk=>Nat.lt_of_lt_of_le (hBk k hk) (Nat.le_trans hbA.size (hSB).size);have hJk2:=hJ.out _ _ _ WB hJk (Nat.le_trans hbA.size (hSB).size) (fun k hk=>((hSB).same k (by have:=hBk k hk;have:=hbA.size;omega) (fun h=>by rcases h with h|h|h;have:=hBk k hk;omega;exact hnD1x (h▸hk);exact hnD1y (h▸hk))).trans (hbA.block k (hBk k hk)));have hlen:pre.length < 1000000:=(by omega);have hRx:spR L pre ([x0,x1,x2,x3,x4,x5,x6],x7,-1) WB:=⟨_,hp.out⟩;have hl1:=(Array.getElem?_eq_some_iff.1 jB1).1;have hl2:=(Array.getElem?_eq_some_iff.1 jB2).1;obtain⟨fn,tmps,assign,body,hyy,hR⟩:=hY.out pre ([x0,x1,x2,x3,x4,x5,x6],x7,-1) D1 _ hJk2 hBk2 hOn2 hGr hRx hlen;simp only[spEnc,List.cons_append,List.nil_append,List.map_cons,List.map_nil] at hyy hR;replace hR:=qH hR;have hj1:=qH jB1;have hj2:=qH jB2;clear hJk hJk2 hRx hOn hBk k1 k2 j1 j2 kb hbA hY hS0 c1 c2 jB1 jB2 kbB hSB;gi_wp2;refine⟨rfl,hR.out.mono ?_⟩;rintro e W' ⟨D',hO',hG',hB',(⟨rfl,hJ'⟩|⟨rfl,hJ'⟩)⟩
     ·have hOn3:=hOn2.trans (hO'.or (Wr:=fun k=>k=bx∨k=by')) hGr.or;have hGr3:=hGr.trans hG' hOn2.size;have m1:=(hO'.same bx hl1 hnD1x).trans hj1.out;have m2:=(hO'.same by' hl2 hnD1y).trans hj2.out;clear hyy hR z0 z1 z2 z3 z4 z5 z6 z7 z8;gi_wp2;go_wp2_with fail
      first|go_roundg (xl.length+([y0,y1,y2,y3,y4,y5,y6,y7]::yl).length)|gi_roundg (xl.length+([y0,y1,y2,y3,y4,y5,y6,y7]::yl).length)
      case measure=>have:=hfl.out;simp only[List.length_cons] at this⊢;omega
      case rel=>exact⟨pre ++ [([x0,x1,x2,x3,x4,x5,x6],x7,-1)],D',_,_,xl,([y0,y1,y2,y3,y4,y5,y6,y7]::yl),hJ',hB',hOn3,hGr3,m1,m2,hxt,hyk,by have:=hfl.out;simp only[List.length_append,List.length_cons,List.length_nil] at this hpl⊢;omega,rfl,by show _=_;rw[List.append_assoc];exact hp.out⟩
     ·gi_wp2;go_wp2_with fail
      refine bodyPost_ret (results_none rfl _ _ _) rfl ?_;exact⟨⟨_,rfl⟩,D',hOn2.trans (hO'.or (Wr:=fun k=>k=bx∨k=by')) hGr.or,hGr.trans hG' hOn2.size,hB',.inr ⟨_,trivial,hJ'⟩⟩
    ·have hd1:decide (C≤0)=true:=decide_eq_true (by omega);have hd2:decide (0≤C)=true:=decide_eq_true (by omega);replace hp:Hid (pre++([y0,y1,y2,y3,y4,y5,y6],x7,y7)::stp xl yl=L):=(by have:=hp.out;rw[stp_eq (by show cmpL [x0,x1,x2,x3,x4,x5,x6] [y0,y1,y2,y3,y4,y5,y6]=0;rw[hC];exact hC0)] at this;exact this);go_upto_region 9 with fail
     obtain⟨WA,hWA⟩:=exF (w1.alloc (.cells #[.int .i64 0,.int .i64 0,.int .i64 0,.int .i64 0,.int .i64 0,.int .i64 0,.int .i64 0,.int .i64 (-1),.int .i64 (-1)] 134));have hbA:Below w1.heap.size w1 WA:=(by rw[hWA];exact(Below.refl _ w1).alloc (Nat.le_refl _) _);have kb:WA.heap[w1.heap.size]? = some (stB 0 0 0 0 0 0 0 (-1) (-1)):=(by rw[hWA];exact heap_alloc_new _ _);have hl1:=(Array.getElem?_eq_some_iff.1 k1).1;have hl2:=(Array.getElem?_eq_some_iff.1 k2).1;have j1:=(hbA.block bx hl1).trans k1;have j2:=(hbA.block by' hl2).trans k2;have hbn:w1.heap.size ≠ bx:=(by omega);have hbn':w1.heap.size ≠ by':=by omega
     have hS0:Only (fun k=>k=w1.heap.size∨k=bx∨k=by') WA WA:=Only.refl _ _;rw[←hWA];replace hWA:=qH hWA;obtain⟨p0,p1,p2,p3,p4,p5,p6,p7⟩:=(hS0).cells8 (b:=mb) (by have:=hbA.size;have:=hOn.size;omega) (Only.cells8 (D:=fun _=>False) (Only.of_below hbA) (fun h=>h) hqW);refine regStep9 (b:=w1.heap.size) (bx:=bx) kb j1 hbn (by omega) p0 p1 p2 p3 p4 p5 p6 p7 hn1n hxc hif.out ?_;intro _ _ _ WB ⟨hG1,hG2,hG3⟩ _ _ _;have kbB:WB.heap[w1.heap.size]? = some (stB x0 x1 x2 x3 x4 x5 x6 x7 (-1)):=hG2;have jB1:WB.heap[bx]? = some (.cells #[.slice tp (xl.length+1 - 1) (xc - 1)] 98):=hG3;have jB2:=(hG1.same by' (by have:=hbA.size;have:=(hS0).size;omega) (fun h=>by rcases h with h|h<;>omega)).trans j2;have hSB:Only (fun k=>k=w1.heap.size∨k=bx∨k=by') WA WB:=(hS0).trans (hG1.mono fun k h=>h.elim .inl fun h=>.inr (.inl h)) (Gr.refl _ _);clear hG1 hG2 hG3 p0 p1 p2 p3 p4 p5 p6 p7;go_upto_region 11 with fail
     obtain⟨p0,p1,p2,p3,p4,p5,p6,p7⟩:=(hSB).cells8 (b:=nb) (by have:=hbA.size;have:=hOn.size;omega) (Only.cells8 (D:=fun _=>False) (Only.of_below hbA) (fun h=>h) hrW);refine regStep11 (b:=w1.heap.size) (bx:=by') kbB jB2 hbn' (by omega) p0 p1 p2 p3 p4 p5 p6 p7 hm1n hyc hjf.out ?_;intro _ _ _ WC ⟨hG1,hG2,hG3⟩ _ _ _;have kbC:WC.heap[w1.heap.size]? = some (stB y0 y1 y2 y3 y4 y5 y6 x7 y7):=hG2;have jC2:WC.heap[by']? = some (.cells #[.slice tq (yl.length+1 - 1) (yc - 1)] 98):=hG3;have jC1:=(hG1.same bx (by have:=hbA.size;have:=(hSB).size;omega) (fun h=>by rcases h with h|h<;>omega)).trans jB1;have hSC:Only (fun k=>k=w1.heap.size∨k=bx∨k=by') WA WC:=(hSB).trans (hG1.mono fun k h=>h.elim .inl fun h=>.inr (.inr h)) (Gr.refl _ _);clear hG1 hG2 hG3 p0 p1 p2 p3 p4 p5 p6 p7;obtain⟨⟨z0,z1,z2,z3,z4,z5,z6⟩,z7,z8⟩:=stB.cells kbC;go_upto_region 12 with fail
     refine(wpIn_wide (n:=0)).1 ?_;have hnD1x : ¬D1 bx:=fun h=>(hGr bx h).elim hDx fun h=>by omega
     have hnD1y : ¬D1 by':=fun h=>(hGr by' h).elim hDy fun h=>by omega
     have hOn2:Only (fun k=>D k∨k=bx∨k=by') W WC:=⟨(hSC).os.trans (hbA.os.trans hOn.os),(hSC).tape.trans (hbA.tape.trans hOn.tape),(hSC).output.trans (hbA.output.trans hOn.output),Nat.le_trans hOn.size (Nat.le_trans hbA.size (hSC).size),fun k hk hn=>((hSC).same k (by have:=hOn.size;have:=hbA.size;omega) (fun h=>h.elim (fun h=>by have:=hOn.size;omega) fun h=>hn (.inr h))).trans ((hbA.block k (by have:=hOn.size;omega)).trans (hOn.same k hk hn))⟩;have hBk2:Bd D1 WC:=fun k hk=>Nat.lt_of_lt_of_le (hBk k hk) (Nat.le_trans hbA.size (hSC).size);have hJk2:=hJ.out _ _ _ WC hJk (Nat.le_trans hbA.size (hSC).size) (fun k hk=>((hSC).same k (by have:=hBk k hk;have:=hbA.size;omega) (fun h=>by rcases h with h|h|h;have:=hBk k hk;omega;exact hnD1x (h▸hk);exact hnD1y (h▸hk))).trans (hbA.block k (hBk k hk)));have hlen:pre.length < 1000000:=(by omega);have hRx:spR L pre ([y0,y1,y2,y3,y4,y5,y6],x7,y7) WC:=⟨_,hp.out⟩;have hl1:=(Array.getElem?_eq_some_iff.1 jC1).1;have hl2:=(Array.getElem?_eq_some_iff.1 jC2).1;obtain⟨fn,tmps,assign,body,hyy,hR⟩:=hY.out pre ([y0,y1,y2,y3,y4,y5,y6],x7,y7) D1 _ hJk2 hBk2 hOn2 hGr hRx hlen;simp only[spEnc,List.cons_append,List.nil_append,List.map_cons,List.map_nil] at hyy hR;replace hR:=qH hR;have hj1:=qH jC1;have hj2:=qH jC2;clear hJk hJk2 hRx hOn hBk k1 k2 j1 j2 kb hbA hY hS0 c1 c2 jB1 jB2 kbB hSB jC1 jC2 kbC hSC;gi_wp2;refine⟨rfl,hR.out.mono ?_⟩;rintro e W' ⟨D',hO',hG',hB',(⟨rfl,hJ'⟩|⟨rfl,hJ'⟩)⟩
     ·have hOn3:=hOn2.trans (hO'.or (Wr:=fun k=>k=bx∨k=by')) hGr.or;have hGr3:=hGr.trans hG' hOn2.size;have m1:=(hO'.same bx hl1 hnD1x).trans hj1.out;have m2:=(hO'.same by' hl2 hnD1y).trans hj2.out;clear hyy hR z0 z1 z2 z3 z4 z5 z6 z7 z8;gi_wp2;go_wp2_with fail
      first|go_roundg (xl.length+yl.length)|gi_roundg (xl.length+yl.length)
      case measure=>have:=hfl.out;simp only[List.length_cons] at this⊢;omega
      case rel=>exact⟨pre ++ [([y0,y1,y2,y3,y4,y5,y6],x7,y7)],D',_,_,xl,yl,hJ',hB',hOn3,hGr3,m1,m2,hxt,hyt,by have:=hfl.out;simp only[List.length_append,List.length_cons,List.length_nil] at this hpl⊢;omega,rfl,by show _=_;rw[List.append_assoc];exact hp.out⟩
     ·gi_wp2;go_wp2_with fail
      refine bodyPost_ret (results_none rfl _ _ _) rfl ?_;exact⟨⟨_,rfl⟩,D',hOn2.trans (hO'.or (Wr:=fun k=>k=bx∨k=by')) hGr.or,hGr.trans hG' hOn2.size,hB',.inr ⟨_,trivial,hJ'⟩⟩
    ·have hd1:decide (C≤0)=false:=decide_eq_false (by omega);have hd2:decide (0≤C)=true:=decide_eq_true (by omega);replace hp:Hid (pre++([y0,y1,y2,y3,y4,y5,y6],-1,y7)::stp ([x0,x1,x2,x3,x4,x5,x6,x7]::xl) yl=L):=(by have:=hp.out;rw[stp_gt (by show 0 < cmpL [x0,x1,x2,x3,x4,x5,x6] [y0,y1,y2,y3,y4,y5,y6];rw[hC];exact hC0)] at this;exact this);go_upto_region 11 with fail
     obtain⟨WA,hWA⟩:=exF (w1.alloc (.cells #[.int .i64 0,.int .i64 0,.int .i64 0,.int .i64 0,.int .i64 0,.int .i64 0,.int .i64 0,.int .i64 (-1),.int .i64 (-1)] 134));have hbA:Below w1.heap.size w1 WA:=(by rw[hWA];exact(Below.refl _ w1).alloc (Nat.le_refl _) _);have kb:WA.heap[w1.heap.size]? = some (stB 0 0 0 0 0 0 0 (-1) (-1)):=(by rw[hWA];exact heap_alloc_new _ _);have hl1:=(Array.getElem?_eq_some_iff.1 k1).1;have hl2:=(Array.getElem?_eq_some_iff.1 k2).1;have j1:=(hbA.block bx hl1).trans k1;have j2:=(hbA.block by' hl2).trans k2;have hbn:w1.heap.size ≠ bx:=(by omega);have hbn':w1.heap.size ≠ by':=by omega
     have hS0:Only (fun k=>k=w1.heap.size∨k=bx∨k=by') WA WA:=Only.refl _ _;rw[←hWA];replace hWA:=qH hWA;obtain⟨p0,p1,p2,p3,p4,p5,p6,p7⟩:=(hS0).cells8 (b:=nb) (by have:=hbA.size;have:=hOn.size;omega) (Only.cells8 (D:=fun _=>False) (Only.of_below hbA) (fun h=>h) hrW);refine regStep11 (b:=w1.heap.size) (bx:=by') kb j2 hbn' (by omega) p0 p1 p2 p3 p4 p5 p6 p7 hm1n hyc hjf.out ?_;intro _ _ _ WC ⟨hG1,hG2,hG3⟩ _ _ _;have kbC:WC.heap[w1.heap.size]? = some (stB y0 y1 y2 y3 y4 y5 y6 (-1) y7):=hG2;have jC2:WC.heap[by']? = some (.cells #[.slice tq (yl.length+1 - 1) (yc - 1)] 98):=hG3;have jC1:=(hG1.same bx (by have:=hbA.size;have:=(hS0).size;omega) (fun h=>by rcases h with h|h<;>omega)).trans j1;have hSC:Only (fun k=>k=w1.heap.size∨k=bx∨k=by') WA WC:=(hS0).trans (hG1.mono fun k h=>h.elim .inl fun h=>.inr (.inr h)) (Gr.refl _ _);clear hG1 hG2 hG3 p0 p1 p2 p3 p4 p5 p6 p7;obtain⟨⟨z0,z1,z2,z3,z4,z5,z6⟩,z7,z8⟩:=stB.cells kbC;go_upto_region 12 with fail
     refine(wpIn_wide (n:=0)).1 ?_;have hnD1x : ¬D1 bx:=fun h=>(hGr bx h).elim hDx fun h=>by omega
     have hnD1y : ¬D1 by':=fun h=>(hGr by' h).elim hDy fun h=>by omega
     have hOn2:Only (fun k=>D k∨k=bx∨k=by') W WC:=⟨(hSC).os.trans (hbA.os.trans hOn.os),(hSC).tape.trans (hbA.tape.trans hOn.tape),(hSC).output.trans (hbA.output.trans hOn.output),Nat.le_trans hOn.size (Nat.le_trans hbA.size (hSC).size),fun k hk hn=>((hSC).same k (by have:=hOn.size;have:=hbA.size;omega) (fun h=>h.elim (fun h=>by have:=hOn.size;omega) fun h=>hn (.inr h))).trans ((hbA.block k (by have:=hOn.size;omega)).trans (hOn.same k hk hn))⟩;have hBk2:Bd D1 WC:=fun k hk=>Nat.lt_of_lt_of_le (hBk k hk) (Nat.le_trans hbA.size (hSC).size);have hJk2:=hJ.out _ _ _ WC hJk (Nat.le_trans hbA.size (hSC).size) (fun k hk=>((hSC).same k (by have:=hBk k hk;have:=hbA.size;omega) (fun h=>by rcases h with h|h|h;have:=hBk k hk;omega;exact hnD1x (h▸hk);exact hnD1y (h▸hk))).trans (hbA.block k (hBk k hk)));have hlen:pre.length < 1000000:=(by omega);have hRx:spR L pre ([y0,y1,y2,y3,y4,y5,y6],-1,y7) WC:=⟨_,hp.out⟩;have hl1:=(Array.getElem?_eq_some_iff.1 jC1).1;have hl2:=(Array.getElem?_eq_some_iff.1 jC2).1;obtain⟨fn,tmps,assign,body,hyy,hR⟩:=hY.out pre ([y0,y1,y2,y3,y4,y5,y6],-1,y7) D1 _ hJk2 hBk2 hOn2 hGr hRx hlen;simp only[spEnc,List.cons_append,List.nil_append,List.map_cons,List.map_nil] at hyy hR;replace hR:=qH hR;have hj1:=qH jC1;have hj2:=qH jC2;clear hJk hJk2 hRx hOn hBk k1 k2 j1 j2 kb hbA hY hS0 c1 c2 jC1 jC2 kbC hSC;gi_wp2;refine⟨rfl,hR.out.mono ?_⟩;rintro e W' ⟨D',hO',hG',hB',(⟨rfl,hJ'⟩|⟨rfl,hJ'⟩)⟩
     ·have hOn3:=hOn2.trans (hO'.or (Wr:=fun k=>k=bx∨k=by')) hGr.or;have hGr3:=hGr.trans hG' hOn2.size;have m1:=(hO'.same bx hl1 hnD1x).trans hj1.out;have m2:=(hO'.same by' hl2 hnD1y).trans hj2.out;clear hyy hR z0 z1 z2 z3 z4 z5 z6 z7 z8;gi_wp2;go_wp2_with fail
      first|go_roundg (([x0,x1,x2,x3,x4,x5,x6,x7]::xl).length+yl.length)|gi_roundg (([x0,x1,x2,x3,x4,x5,x6,x7]::xl).length+yl.length)
      case measure=>have:=hfl.out;simp only[List.length_cons] at this⊢;omega
      case rel=>exact⟨pre ++ [([y0,y1,y2,y3,y4,y5,y6],-1,y7)],D',_,_,([x0,x1,x2,x3,x4,x5,x6,x7]::xl),yl,hJ',hB',hOn3,hGr3,m1,m2,hxk,hyt,by have:=hfl.out;simp only[List.length_append,List.length_cons,List.length_nil] at this hpl⊢;omega,rfl,by show _=_;rw[List.append_assoc];exact hp.out⟩
     ·gi_wp2;go_wp2_with fail
      refine bodyPost_ret (results_none rfl _ _ _) rfl ?_;exact⟨⟨_,rfl⟩,D',hOn2.trans (hO'.or (Wr:=fun k=>k=bx∨k=by')) hGr.or,hGr.trans hG' hOn2.size,hB',.inr ⟨_,trivial,hJ'⟩⟩
end Go.Proofs.YtmikofeildnpdaaGreat
namespace Go.Proofs.YtmikofeildnpdaaGreat
open Go.RowKit
section
variable {α:Type} {E:TypeId} {k:Nat} {El:World→List Value→α→Prop}
def SrcX (k:Nat) (El:World→List Value→α→Prop) (w:World) (v:Value) (ys:List α):Prop:=
 ∃(ya:Option Addr) (yc:Nat) (ws:List Value),v = .slice ya ys.length yc∧ws.length=ys.length * k∧(∀u∈ws,u.oneCell'=true)∧(∀j x,ys[j]? = some x→El w ((ws.drop (j * k)).take k) x)∧(ya=none→yc=0∧ys = [])∧
  ∀ad,ya=some ad→∀j u,ws[j]? = some u→w.cell? (ad.add j)=some u
theorem run_appXG {P:Program}{T ty:TypeId}{z:Value}{bytes:Nat}(hE:ElemK P T E z k bytes) (hby:bytes≤128) (hk:0 < k) (hS:Stab E El) {w:World}{B n:Nat}{v v2:Value}{xs ys:List α}
  (hown:OwX E k El w B v n xs) (hy:SrcX k El w v2 ys) (hn:n+ys.length≤1000000) (hB:B≤w.heap.size) :
  ∃v' w',(Builtin.append_ #[T,T] ty #[v,v2]).run P w = .ok v' w'∧OwX E k El w' B v' (n+ys.length) (xs++ys)∧w.grownBy w' v.ownBlock∧Below B w w'∧KeepX E w w':=by
 obtain⟨i0,hi,hz0,hz1,hz2⟩:=info_parts hE.2.1;obtain⟨vs,k1,k2,k3,k4⟩:=hown;obtain⟨ya,yc,ws,rfl,hwl,hw1,hwE,hnn,hwc⟩:=hy;have hvl:vs.length=n * k:=k1.1;cases ya with
 | none=>
  obtain⟨rfl,rfl⟩:=hnn rfl;exact⟨v,w,run_append_owned_none (P:=P) (w:=w) B T ty E i0 k hE.1 hi v n _ k1,by rw[List.append_nil];exact⟨vs,k1,k2,k3,k4⟩,⟨rfl,rfl,rfl,Nat.le_refl _,fun _ _ _=>rfl⟩,Below.refl _ _,KeepX.below (Below.refl _ _)⟩
 | some ad=>
  have hbd:(n+ys.length) * bytes≤140737488355328:=by
   have:(n+ys.length) * bytes≤1000000 * 128:=Nat.mul_le_mul hn hby
   omega
  obtain⟨v',w',hr,h1,hg,_,_⟩:=run_append_own_at (P:=P) w B T ty E i0 z k bytes hE.1 hi hz0 hz1 hz2 hE.2.2 hk v n _ k1 ad ys.length yc ws hwl (hwc ad rfl) hw1 (by unfold maxLen;omega) hbd hB;have hX:KeepX E w w':=KeepX.own k1 hg;refine⟨v',w',hr,⟨vs++ws,h1,by simp[k2],?_,fun j x hj=>?_⟩,hg,(Below.refl B w).grown hg hB (fun k hk=>(k1.lt k hk).1),hX⟩
  ·intro u hu;rcases List.mem_append.1 hu with hu|hu
   ·exact k3 u hu
   ·exact hw1 u hu
  ·by_cases hjn:j < n
   ·rw[List.getElem?_append_left (by omega)] at hj;have hle:j * k+k≤n * k:=(by rw[←Nat.succ_mul];exact Nat.mul_le_mul_right _ hjn);rw[List.drop_append_of_le_length (by omega),List.take_append_of_le_length (by rw[List.length_drop];omega)];exact hS _ _ _ _ (k4 j x hj) hX
   ·obtain⟨i,rfl⟩:∃i,j=n+i:=⟨j - n,by omega⟩;rw[List.getElem?_append_right (by omega),k2,Nat.add_sub_cancel_left] at hj
    have hd:(vs++ws).drop ((n+i) * k)=ws.drop (i * k):=by
     rw[Nat.add_mul,←hvl,←List.drop_drop,List.drop_left]
    rw[hd];exact hS _ _ _ _ (hwE i x hj) hX
theorem wpList_appXG {P:Program}{T:TypeId}{z:Value}{bytes:Nat}(hE:ElemK P T E z k bytes) (hby:bytes≤128) (hk:0 < k) (hS:Stab E El) {w:World}{ops:Array Oper}{rest:List Oper}{o:Oper}{a:Act}{Q:Exit→Act→World→Prop}(hgd:o.guard=none) (s y:Operand)
  (ho:o.op = .call { callee:=.builtin .append,args:=#[s,y],argTypes:=#[T,T] }) {B n:Nat} {v v2:Value} {xs ys:List α} (hs:a.eval s=v)
  (hown:OwX E k El w B v n xs) (hx:a.eval y=v2) (hy:SrcX k El w v2 ys) (hn:n+ys.length≤1000000) (hB:B≤w.heap.size)
  (h:∀v' w',OwX E k El w' B v' (n+ys.length) (xs++ys)→w.grownBy w' v.ownBlock→Below B w w'→KeepX E w w'→wpList P ops Q rest (a.put o.dst v') w'):wpList P ops Q (o::rest) a w:=by
 refine wpList_plain hgd fun K hK=>?_;obtain⟨v',w',hr,h2,h3,h4,h5⟩:=run_appXG (P:=P) (ty:=o.type) hE hby hk hS hown hy hn hB;unfold Oper.wp execOp;simp only[ho,resolve,invoke,builtin,Sem.run_bind,Sem.run_pure,Result.andThen_ok,List.map_toArray,List.map_cons,List.map_nil,hs,hx,hr];exact hK _ _ (h v' w' h2 h3 h4 h5)
theorem OwX.cut {w:World}{B n c:Nat}{a:Option Addr}{xs:List α}(h:OwX E k El w B (.slice a n c) n xs) {m:Nat}(hm:m≤n):OwX E k El w B (.slice a m c) m (xs.take m):=by
 obtain⟨vs,⟨h0,h1⟩,h2,h3,h4⟩:=h;have hmn:m * k≤n * k:=Nat.mul_le_mul_right _ hm;refine⟨vs.take (m * k),⟨by rw[List.length_take];omega,?_⟩,by rw[List.length_take];omega,fun u hu=>h3 u (List.mem_of_mem_take hu),fun j x hj=>?_⟩
 ·rcases h1 with⟨he,hn⟩|⟨g,cap,cur,he,hb,hg,hc,hM,hcs,hr⟩
  ·injection he with e1 e2 e3;subst e1 e3;exact .inl ⟨by rw[show m=0 by omega],by omega⟩
  ·injection he with e1 e2 e3;subst e1 e3;refine .inr ⟨g,c,cur,rfl,hb,hg,by omega,hM,hcs,?_⟩;rw[←hr,List.take_take,Nat.min_eq_left hmn]
 ·rw[List.getElem?_take] at hj;split at hj
  ·rename_i hjm
   have hle:j * k+k≤m * k:=(by rw[←Nat.succ_mul];exact Nat.mul_le_mul_right _ hjm);rw[List.drop_take,List.take_take,Nat.min_eq_left (by omega)];exact h4 j x hj
  ·cases hj
theorem OwX.capM {w:World}{B n m c:Nat}{a:Option Addr}{xs:List α}(h:OwX E k El w B (.slice a m c) n xs):n≤c∧c≤maxLen:=by
 obtain⟨vs,h1,_⟩:=h;rcases h1.2 with⟨he,h0⟩|⟨g,cap,cur,he,_,_,hc,hM,_⟩
 ·injection he with _ _ e3;exact⟨by omega,by omega⟩
 ·injection he with _ _ e3;subst e3;exact⟨hc,hM⟩
theorem OwX.back {w:World}{B n c:Nat}{a:Option Addr}{xs:List α}(h:OwX E k El w B (.slice a n c) n xs) {m:Nat}(hm:m≤n) :
  SrcX k El w (.slice (if c=m then a else a.map (fun p:Addr=>p.add (m * k))) (n - m) (c - m)) (xs.drop m):=by
 obtain⟨vs,h1,h2,h3,h4⟩:=h;have hvl:vs.length=n * k:=h1.1;have hmn:m * k≤n * k:=Nat.mul_le_mul_right _ hm;have hdl:(xs.drop m).length=n - m:=by rw[List.length_drop];omega
 have hE:∀j x,(xs.drop m)[j]? = some x→El w (((vs.drop (m * k)).drop (j * k)).take k) x:=fun j x hj=>by
  rw[List.getElem?_drop] at hj;rw[List.drop_drop,←Nat.add_mul];exact h4 _ x hj
 rcases h1.2 with⟨he,h0⟩|⟨g,cap,cur,he,hb,hg,hc,hM,hcs,hr⟩
 ·injection he with e1 e2 e3;subst e1 e3;have hx0:xs = []:=List.length_eq_zero_iff.1 (by omega);obtain rfl:m=0:=by omega
  exact⟨none,0,vs.drop (0 * k),by rw[hdl];simp,by rw[List.length_drop,hdl];simp[hvl],fun u hu=>h3 u (List.mem_of_mem_drop hu),hE,fun _=>⟨rfl,by simp[hx0]⟩,fun _ h=>by cases h⟩
 ·injection he with e1 e2 e3;subst e1 e3;have hw:(vs.drop (m * k)).length=(xs.drop m).length * k:=by rw[List.length_drop,hdl,hvl,Nat.sub_mul]
  have hcell:∀j u,vs[j]? = some u→w.cell? ⟨g,j,none⟩=some u:=fun j u hj=>by
   have:=World.ownsRow.cellAt h1 j (by rw[←hvl];exact(List.getElem?_eq_some_iff.1 hj).1)
   rw[this];exact hj
  by_cases hcm:c=m
  ·rw[if_pos hcm];have h0:(xs.drop m).length=0:=(by omega);refine⟨_,c - m,vs.drop (m * k),by rw[hdl],hw,fun u hu=>h3 u (List.mem_of_mem_drop hu),hE,fun h=>(by cases h),fun ad _ j u hj=>?_⟩;have:=(List.getElem?_eq_some_iff.1 hj).1
   rw[hw,h0] at this;omega
  ·rw[if_neg hcm];refine⟨_,c - m,vs.drop (m * k),by rw[hdl],hw,fun u hu=>h3 u (List.mem_of_mem_drop hu),hE,fun h=>(by cases h),fun ad hd j u hj=>?_⟩;injection hd with hd;subst hd;rw[List.getElem?_drop] at hj;show w.cell? ((Addr.add _ _).add j)=_;rw[Addr.add_lit,Addr.add_lit,Nat.zero_add];exact hcell _ u hj
theorem wp_appXG {P:Program}{T:TypeId}{z:Value}{bytes:Nat}(hE:ElemK P T E z k bytes) (hby:bytes≤128) (hk:0 < k) (hS:Stab E El) {w:World}{o:Oper}{a:Act}{K:Act→World→Prop}{Q:Exit→Act→World→Prop}(s y:Operand)
  (ho:o.op = .call { callee:=.builtin .append,args:=#[s,y],argTypes:=#[T,T] }) {B n:Nat} {v v2:Value} {xs ys:List α} (hs:a.eval s=v)
  (hown:OwX E k El w B v n xs) (hx:a.eval y=v2) (hy:SrcX k El w v2 ys) (hn:n+ys.length≤1000000) (hB:B≤w.heap.size)
  (h:∀v' w',OwX E k El w' B v' (n+ys.length) (xs++ys)→w.grownBy w' v.ownBlock→Below B w w'→KeepX E w w'→K (a.put o.dst v') w'):o.wp P a w K Q:=by
 obtain⟨v',w',hr,h2,h3,h4,h5⟩:=run_appXG (P:=P) (ty:=o.type) hE hby hk hS hown hy hn hB;unfold Oper.wp execOp;simp only[ho,resolve,invoke,builtin,Sem.run_bind,Sem.run_pure,Result.andThen_ok,List.map_toArray,List.map_cons,List.map_nil,hs,hx,hr];exact h v' w' h2 h3 h4 h5
theorem OwX.row {w:World}{B n:Nat}{v:Value}{xs:List α}(h:OwX E k El w B v n xs):∀g,v.ownBlock=some g→∃cs,w.heap[g]? = some (.cells cs E):=fun g hg=>by
 obtain⟨vs,h1,_⟩:=h;rcases h1.2 with⟨rfl,_⟩|⟨g',cap,cur,rfl,_,hc,_⟩
 ·cases hg
 ·injection hg with hg;subst hg;exact⟨cur,hc⟩
theorem OwX.src {w:World}{B n:Nat}{v:Value}{xs:List α}(h:OwX E k El w B v n xs):SrcX k El w v xs:=by
 obtain⟨vs,h1,h2,h3,h4⟩:=h;have hvl:vs.length=n * k:=h1.1;rcases h1.2 with⟨rfl,h0⟩|⟨g,cap,cur,rfl,hb,hg,hc,hM,hcs,hr⟩
 ·have hx0:xs = []:=List.length_eq_zero_iff.1 (by omega);subst hx0;exact⟨none,0,vs,rfl,by rw[hvl,h0];simp,h3,h4,fun _=>⟨rfl,rfl⟩,fun _ h=>by cases h⟩
 ·refine⟨_,cap,vs,by rw[h2],by rw[hvl,h2],h3,h4,fun h=>(by cases h),fun ad hd j u hj=>?_⟩;injection hd with hd;subst hd;rw[Addr.add_lit,Nat.zero_add];have:=World.ownsRow.cellAt h1 j (by rw[←hvl];exact(List.getElem?_eq_some_iff.1 hj).1)
  rw[this];exact hj
end
end Go.Proofs.YtmikofeildnpdaaGreat

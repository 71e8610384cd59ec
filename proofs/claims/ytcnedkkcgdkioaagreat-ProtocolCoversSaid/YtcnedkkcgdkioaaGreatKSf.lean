/- Texts of this claim, put together: C3 E1 E2 E3 E4 B0 B1 Itb. -/
import Derived.Test.YtcnedkkcgdkioaaGreatKSe
import Derived.Deep.LoopGhost
import Derived.Lib.LazyBuf
import Derived.OwnWalkIn
import Derived.RangeFuncBox
import Derived.Sort.LoopGhostIn
import Derived.TacticsInMore
import Derived.LoopNIn
import Derived.LoopIn
import Derived.Shelf.RegionOpen

set_option maxRecDepth 100000
set_option maxHeartbeats 12800000
namespace Go.Proofs.YtcnedkkcgdkioaaGreat
open Go.RowKit Go.ChangeMaps Go.MapKept
theorem natI_getD (l:List Nat) (j:Nat):(natI l).getD j 0=((l.getD j 0:Nat):Int):=by
 simp only[natI,List.getD_eq_getElem?_getD,List.getElem?_map];cases l[j]?<;>simp
def ClsOK (ss:Jc):Prop:=ss.length<=90/\movesN ss<=90/\0 < ss.length/\∀s∈ss,0 < s.length/\∀m∈s,WfR (rdOf m)/\m.length=8/\0<=m.getD 7 0/\m.getD 7 0 < (ss.length:Int)
end Go.Proofs.YtcnedkkcgdkioaaGreat
namespace Go.Proofs.YtcnedkkcgdkioaaGreat
open Go.RowKit
def EI (_:World) (cs:List Value) (x:List Int):Prop:=cs=x.map (Value.int .i64)
theorem EI.stab (E:TypeId):Stab E EI:=fun _ _ _ _ h _=>h
theorem flat_get {k:Nat}:∀ {xs:Jb},(∀x∈xs,x.length=k)->∀ {j:Nat}{x:List Int},xs[j]? = some x->(xs.flatten.drop (j * k)).take k=x
 | [],_,j,x,h=>by simp at h
 | a::r,hl,0,x,h=>by
  simp only[List.getElem?_cons_zero,Option.some.injEq] at h;subst h;rw[Nat.zero_mul,List.drop_zero,List.flatten_cons,<-hl a (by simp),List.take_left]
 | a::r,hl,j+1,x,h=>by
  rw[List.getElem?_cons_succ] at h;rw[List.flatten_cons,Nat.succ_mul,Nat.add_comm,<-List.drop_drop];have:(a++r.flatten).drop k=r.flatten:=by rw[<-hl a (by simp),List.drop_left]
  rw[this];exact flat_get (fun y hy=>hl y (by simp[hy])) h
theorem flat_len {k:Nat}:∀ {xs:Jb},(∀x∈xs,x.length=k)->xs.flatten.length=xs.length * k
 | [],_=>by simp
 | a::r,hl=>by
  rw[List.flatten_cons,List.length_append,hl a (by simp),flat_len (fun y hy=>hl y (by simp[hy])),List.length_cons,Nat.succ_mul,Nat.add_comm]
theorem OwX.ofFlat {E:TypeId}{k:Nat}{w:World}{B n:Nat}{v:Value}{xs:Jb}(h:w.ownsRow B E k v n (xs.flatten.map (Value.int .i64))) (hl:∀x∈xs,x.length=k) (hn:xs.length=n):OwX E k EI w B v n xs:=by
 refine⟨_,h,hn,fun u hu=>?_,fun j x hj=>?_⟩
 ·obtain⟨i,_,rfl⟩:=List.mem_map.1 hu;rfl
 ·show _=_;rw[<-List.map_drop,<-List.map_take,flat_get hl hj]
theorem KS.flat {k:Nat}{w:World}{b off:Nat}{xs:Jb}(h:CK k w b off xs):∀j u,(xs.flatten.map (Value.int .i64))[j]? = some u->w.cell? ⟨b,off+j,none⟩=some u:=by
 have hl:∀x∈xs,x.length=k:=fun x hx=>by
  obtain⟨i,hi,rfl⟩:=List.getElem_of_mem hx;have:=(h i hi).1
  rwa [getD_eq hi] at this
 intro j u hj
 obtain⟨y,hy,rfl⟩:∃y,xs.flatten[j]? = some y/\Value.int .i64 y=u:=by
  rw[List.getElem?_map] at hj;cases hx:xs.flatten[j]? with
  | none=>rw[hx] at hj;cases hj
  | some y=>rw[hx] at hj;simp only[Option.map_some,Option.some.injEq] at hj;exact⟨y,rfl,hj⟩
 have hjl:=(List.getElem?_eq_some_iff.1 hy).1;rw[flat_len hl] at hjl
 have hk:0 < k:=by
  rcases Nat.eq_zero_or_pos k with rfl|h'
  ·simp at hjl
  ·exact h'
 have hq:j / k < xs.length:=Nat.div_lt_of_lt_mul (by rw[Nat.mul_comm];exact hjl);obtain⟨x,hx⟩:∃x,xs[j / k]? = some x:=⟨_,List.getElem?_eq_some_iff.2 ⟨hq,rfl⟩⟩;have h1:=flat_get hl hx;obtain⟨h2,h3⟩:=h _ hq;have hxd:xs.getD (j / k) []=x:=by rw[List.getD_eq_getElem?_getD,hx];rfl
 rw[hxd] at h2 h3;have hm:j % k < k:=Nat.mod_lt _ hk;have h4:=h3 (j % k) (by omega);have hdm:j / k * k+j % k=j:=by rw[Nat.mul_comm];exact Nat.div_add_mod j k
 have h5:x.getD (j % k) 0=y:=by
  rw[<-h1,List.getD_eq_getElem?_getD,List.getElem?_take,if_pos hm,List.getElem?_drop,hdm,hy];rfl
 rw[h5,Nat.add_assoc,hdm] at h4;exact h4
theorem KS.lens {k:Nat}{w:World}{b off:Nat}{xs:Jb}(h:CK k w b off xs):∀x∈xs,x.length=k:=fun x hx=>by
 obtain⟨i,hi,rfl⟩:=List.getElem_of_mem hx;have:=(h i hi).1
 rwa [getD_eq hi] at this
theorem elemMv:ElemK Tryz.prog 180 178 (.agg #[.int .i64 0,.int .i64 0,.int .i64 0,.int .i64 0,.int .i64 0,.int .i64 0,.int .i64 0,.int .i64 0]) 8 64:=⟨by kernel_rfl,by kernel_rfl,rfl⟩
theorem elemRd:ElemK Tryz.prog 77 148 (.agg #[.int .i64 0,.int .i64 0,.int .i64 0,.int .i64 0,.int .i64 0,.int .i64 0,.int .i64 0]) 7 56:=⟨by kernel_rfl,by kernel_rfl,rfl⟩
theorem elemRs:ElemK Tryz.prog 133 77 (.slice none 0 0) 1 24:=⟨by kernel_rfl,by kernel_rfl,rfl⟩
theorem cloneMv {w:World}(ad:Addr) (n c:Nat) (news:List Value) (hl:news.length=n * 8) (hn:n<=1000000) (hc:∀j u,news[j]? = some u->w.cell? (ad.add j)=some u) (h1:∀u∈news,u.oneCell'=true) :
  Calls Tryz.prog 133 #[.slice (some ad) n c] w fun e w'=>∃v',e = .returned v'/\w'.ownsRow w.heap.size 178 8 v' n news/\Below w.heap.size w w':=by
 have q22:=fun(w:World)=>Lib.run_eql_slice_nil (P:=Tryz.prog) w 180 178 (some ad) n c 0 0 elemMv.1;obtain⟨i0,hi,hz0,hz1,hz2⟩:=info_parts elemMv.2.1;have A:Hid (∀j u,news[j]? = some u->w.cell? (ad.add j)=some u):=hc;clear hc;have hn':n * 64<=140737488355328:=by omega
 go_enter Tryz.func133, Tryz.ntmps133
 go_wp2_with (at_builtin;refine wpList_append_own _ rfl _ _ 180 rfl w.heap.size 178 i0 _ 8 64 elemMv.1 hi hz0 hz1 hz2 elemMv.2.2 (by decide) _ _ _ rfl (World.ownsRow_made w #[] 0 (Nat.le_refl _) (Nat.zero_le _) (by simp)) ad n c news rfl ?qc1 ?qc2 ?qc3 ?qc4 ?qc5 ?qc6 ?_)
 case qc1=>exact hl
 case qc2=>
  intro j u hj;exact Lib.cell?_alloc_some _ (A.out j u hj)
 case qc3=>exact h1
 case qc4=>unfold maxLen;omega
 case qc5=>rw[Nat.zero_add];exact hn'
 case qc6=>simp
 intro v' w1 hown hgrow hnil;go_wp2;go_ret;refine⟨v',rfl,by simpa using hown,?_⟩;exact((Below.refl _ w).alloc (Nat.le_refl _) _).grown hgrow (by simp) (by intro k hk;simp[Value.ownBlock] at hk;omega)
theorem cloneMvNil {w:World}(n c:Nat):Calls Tryz.prog 133 #[.slice none n c] w fun e w'=>e = .returned (.slice none 0 0)/\w'=w:=by
 have q22:=fun(w:World)=>Lib.run_eql_slice_nil (P:=Tryz.prog) w 180 178 none n c 0 0 elemMv.1;go_enter Tryz.func133, Tryz.ntmps133
 go_wp2;go_ret;exact⟨rfl,rfl⟩
theorem cloneMvK {w:World}{v:Value}{xs:Jb}(h:KS 8 w v xs) (hn:xs.length<=1000000) :
  Calls Tryz.prog 133 #[v] w fun e w'=>∃u,e = .returned u/\OwX 178 8 EI w' w.heap.size u xs.length xs/\Below w.heap.size w w':=by
 obtain⟨a,c,b,off,rfl,ha,hc,_⟩:=h;have hlens:=KS.lens hc;cases a with
 | none=>
  have h0:xs.length=0:=by
   rcases Nat.eq_zero_or_pos xs.length with h'|h'
   ·exact h'
   ·cases ha h'
  obtain rfl:=List.length_eq_zero_iff.1 h0;refine(cloneMvNil 0 c).mono ?_;rintro e w' ⟨rfl,rfl⟩;exact⟨_,rfl,OwX.nil _ _,Below.refl _ _⟩
 | some ad=>
  refine(cloneMv ad xs.length c (xs.flatten.map (Value.int .i64)) (by rw[List.length_map,flat_len hlens]) hn ?_ ?_).mono ?_
  ·intro j u hj
   have hpos:0 < xs.length:=by
    rcases Nat.eq_zero_or_pos xs.length with h'|h'
    ·rw[List.length_eq_zero_iff.1 h'] at hj;simp at hj
    ·exact h'
   have:=ha hpos
   injection this with this;subst this;rw[Addr.add_lit];exact KS.flat hc j u hj
  ·intro u hu;obtain⟨i,_,rfl⟩:=List.mem_map.1 hu;rfl
  ·rintro e w' ⟨u,rfl,h1,h2⟩;exact⟨u,rfl,OwX.ofFlat h1 hlens rfl,h2⟩
theorem cloneRd {w:World}(ad:Addr) (n c:Nat) (news:List Value) (hl:news.length=n * 7) (hn:n<=1000000) (hc:∀j u,news[j]? = some u->w.cell? (ad.add j)=some u) (h1:∀u∈news,u.oneCell'=true) :
  Calls Tryz.prog 76 #[.slice (some ad) n c] w fun e w'=>∃v',e = .returned v'/\w'.ownsRow w.heap.size 148 7 v' n news/\Below w.heap.size w w':=by
 have q22:=fun(w:World)=>Lib.run_eql_slice_nil (P:=Tryz.prog) w 77 148 (some ad) n c 0 0 elemRd.1;obtain⟨i0,hi,hz0,hz1,hz2⟩:=info_parts elemRd.2.1;have A:Hid (∀j u,news[j]? = some u->w.cell? (ad.add j)=some u):=hc;clear hc;have hn':n * 56<=140737488355328:=by omega
 go_enter Tryz.func76, Tryz.ntmps76
 go_wp2_with (at_builtin;refine wpList_append_own _ rfl _ _ 77 rfl w.heap.size 148 i0 _ 7 56 elemRd.1 hi hz0 hz1 hz2 elemRd.2.2 (by decide) _ _ _ rfl (World.ownsRow_made w #[] 0 (Nat.le_refl _) (Nat.zero_le _) (by simp)) ad n c news rfl ?qc1 ?qc2 ?qc3 ?qc4 ?qc5 ?qc6 ?_)
 case qc1=>exact hl
 case qc2=>
  intro j u hj;exact Lib.cell?_alloc_some _ (A.out j u hj)
 case qc3=>exact h1
 case qc4=>unfold maxLen;omega
 case qc5=>rw[Nat.zero_add];exact hn'
 case qc6=>simp
 intro v' w1 hown hgrow hnil;go_wp2;go_ret;refine⟨v',rfl,by simpa using hown,?_⟩;exact((Below.refl _ w).alloc (Nat.le_refl _) _).grown hgrow (by simp) (by intro k hk;simp[Value.ownBlock] at hk;omega)
theorem cloneRdNil {w:World}(n c:Nat):Calls Tryz.prog 76 #[.slice none n c] w fun e w'=>e = .returned (.slice none 0 0)/\w'=w:=by
 have q22:=fun(w:World)=>Lib.run_eql_slice_nil (P:=Tryz.prog) w 77 148 none n c 0 0 elemRd.1;go_enter Tryz.func76, Tryz.ntmps76
 go_wp2;go_ret;exact⟨rfl,rfl⟩
theorem cloneRdK {w:World}{v:Value}{xs:Jb}(h:KS 7 w v xs) (hn:xs.length<=1000000) :
  Calls Tryz.prog 76 #[v] w fun e w'=>∃u,e = .returned u/\OwX 148 7 EI w' w.heap.size u xs.length xs/\Below w.heap.size w w':=by
 obtain⟨a,c,b,off,rfl,ha,hc,_⟩:=h;have hlens:=KS.lens hc;cases a with
 | none=>
  have h0:xs.length=0:=by
   rcases Nat.eq_zero_or_pos xs.length with h'|h'
   ·exact h'
   ·cases ha h'
  obtain rfl:=List.length_eq_zero_iff.1 h0;refine(cloneRdNil 0 c).mono ?_;rintro e w' ⟨rfl,rfl⟩;exact⟨_,rfl,OwX.nil _ _,Below.refl _ _⟩
 | some ad=>
  refine(cloneRd ad xs.length c (xs.flatten.map (Value.int .i64)) (by rw[List.length_map,flat_len hlens]) hn ?_ ?_).mono ?_
  ·intro j u hj
   have hpos:0 < xs.length:=by
    rcases Nat.eq_zero_or_pos xs.length with h'|h'
    ·rw[List.length_eq_zero_iff.1 h'] at hj;simp at hj
    ·exact h'
   have:=ha hpos
   injection this with this;subst this;rw[Addr.add_lit];exact KS.flat hc j u hj
  ·intro u hu;obtain⟨i,_,rfl⟩:=List.mem_map.1 hu;rfl
  ·rintro e w' ⟨u,rfl,h1,h2⟩;exact⟨u,rfl,OwX.ofFlat h1 hlens rfl,h2⟩
end Go.Proofs.YtcnedkkcgdkioaaGreat
namespace Go.Proofs.YtcnedkkcgdkioaaGreat
open Go.RowKit Go.ChangeMaps Go.MapKept
theorem OwX.intCells {E:TypeId}{k:Nat}{w:World}{B g n cap:Nat}{xs:Jb}(h:OwX E k EI w B (.slice (some ⟨g,0,none⟩) n cap) n xs) {j:Nat}(hj:j < n):(xs.getD j []).length=k/\CI w g (j * k) (xs.getD j []):=by
 have hl:=h.length;obtain⟨cs,h1,h2,h3⟩:=h.cells (x:=xs.getD j []) (j:=j) (by rw[getD_eq (by omega)];exact List.getElem?_eq_some_iff.2 ⟨by omega,rfl⟩);have h2:cs=(xs.getD j []).map (Value.int .i64):=h2;have h1':=h1;rw[h2,List.length_map] at h1';refine⟨h1',fun i hi=>h3 i _ ?_⟩;rw[h2,List.getElem?_map,List.getElem?_eq_some_iff.2 ⟨hi,rfl⟩,getD_eq hi];rfl
theorem OwX.ks {E:TypeId}{k:Nat}{w:World}{B n:Nat}{v:Value}{xs:Jb}(h:OwX E k EI w B v n xs) (hn:n<=2199023255552):KS k w v xs:=by
 obtain rfl:=h.length;rcases Nat.eq_zero_or_pos xs.length with h0|h0
 ·obtain⟨a,c,rfl⟩:=h.shape;obtain rfl:=List.length_eq_zero_iff.1 h0;exact KS.nil k w a c
 ·obtain⟨g,cap,rfl,_⟩:=h.form h0;refine⟨_,cap,g,0,rfl,fun _=>rfl,fun j hj=>?_,hn⟩;rw[Nat.zero_add];exact h.intCells hj
def ESt (w:World) (cs:List Value) (x:Jb):Prop:=∃u,cs = [u]/\OwX 178 8 EI w 0 u x.length x
theorem ESt.stab {E:TypeId}(h:178 ≠ E):Stab E ESt:=fun _ _ _ _ ⟨u,h1,h2⟩ hx=>⟨u,h1,h2.other (EI.stab _) h hx⟩
theorem KeepX.setCell {E:TypeId}{w:World}{p:Addr}{cs:Array Value}(h:w.heap[p.block]? = some (.cells cs E)) (v:Value):KeepX E w (w.setCell p v):=fun k cs' t hk ht=>by
 refine Below.heap_setCell _ _ _ _ fun e=>?_;subst e;rw[h] at hk;injection hk with hk;injection hk with _ hk;exact ht hk.symm
theorem mem_movesN {ss:Jc}{ms:Jb}(h:ms∈ss):ms.length<=movesN ss:=by
 obtain⟨a,b,rfl⟩:=List.append_of_mem h;rw[movesN_app,show ms::b = [ms]++b from rfl,movesN_app];have:movesN [ms]=ms.length:=by simp[movesN]
 omega
open Go.RowKit Go.ChangeMaps Go.MapKept
theorem row_free {w:World}{b:Nat}{cs:Array Value}{t:TypeId}(h:w.heap[b]? = some (.cells cs t)) (j:Nat):w.frozen? ⟨b,j,none⟩=false:=by simp[World.frozen?,h]
end Go.Proofs.YtcnedkkcgdkioaaGreat
namespace Go.Proofs.YtcnedkkcgdkioaaGreat
open Go.RowKit
theorem takes_next {α:Type}{xs ys:List α}{i:Nat}(h:xs.take i=ys.take i) (hx:i < xs.length) (hy:i < ys.length) {d:α}(he:xs.getD i d=ys.getD i d):xs.take (i+1)=ys.take (i+1):=by
 rw[take_snoc hx d,take_snoc hy d,h,he]
theorem takes_all {α:Type}{xs ys:List α}{i:Nat}(h:xs.take i=ys.take i) (hx:i=xs.length) (hy:i=ys.length):xs=ys:=by
 have h1:xs.take i=xs:=List.take_of_length_le (by omega);have h2:ys.take i=ys:=List.take_of_length_le (by omega);rw[<-h1,<-h2,h]
theorem Qt.step {a b:World}(h:Qt a b) (n:Nat):Qt a (b.drewN n):=h.trans (Qt.mk' b n)
attribute [local go_sem] Oper.semAt_some
def mvs:Nat->Jc->List (Nat × List Int)
 | _,[]=>[]
 | s,l::r=>l.map (fun m=>(s,m))++mvs (s+1) r
def mvEnc (x:Nat × List Int):Array Value:=#[.int .i64 (x.1:Int),.agg (x.2.map (Value.int .i64)).toArray]
def mvR (L pre:List (Nat × List Int)) (x:Nat × List Int) (_:World):Prop:=∃r,pre++x::r=L
theorem mvs_step {ss:Jc}{k:Nat}(h:k < ss.length) {ms:Jb}(hm:ss.getD k []=ms):mvs k (ss.drop k)=(ms.drop 0).map (fun m=>(k,m))++mvs (k+1) (ss.drop (k+1)):=by
 rw[drop_cons h [],hm,mvs,List.drop_zero]
theorem mvs_in {ms:Jb}{i k:Nat}(h:i < ms.length) {m:List Int}(hm:ms.getD i []=m):(ms.drop i).map (fun m=>(k,m))=(k,m)::(ms.drop (i+1)).map (fun m=>(k,m)):=by
 rw[drop_cons h [],hm,List.map_cons]
theorem mvSeq {wA w0:World}{sv:Value}{ss:Jc}{Bx:Nat}(hK:KSS 8 wA sv ss) (hbA:Below wA.heap.size wA w0) (hc0:w0.cell? ⟨Bx,1,none⟩=some sv) :
  SeqOK Tryz.prog 247 #[.pointer (some ⟨Bx,0,none⟩)] mvEnc (mvR (mvs 0 ss)) (fun xs=>xs=mvs 0 ss) (fun _=>True) (mvs 0 ss).length (fun k=>k=Bx\/k < wA.heap.size) w0:=by
 intro l J Jx D W hb hBd hDC hJ hJx hY h0;have hBx : ¬D Bx:=fun h=>hDC _ h (.inl rfl);have hAn:∀k,k < wA.heap.size->¬D k:=fun k hk h=>hDC _ h (.inr hk);have hcW:=cell_kept hb hc0;have hbW:Below wA.heap.size wA W:=bt hbA hb hbA.size;obtain⟨sa,sc,sb,so,rfl,hsa,hsc,hsl⟩:=hK;clear hDC hc0 hb hbA;replace hJ:=qH hJ;replace hJx:=qH hJx;replace hY:=qH hY;show CallsIn Fence.wide 0 Tryz.prog 247 #[.func (.yield l) #[] #[],.pointer (some ⟨Bx,0,none⟩)] W _;refine callsIn_of_wp Tryz.func247 rfl trivial ?_
 simp only[Tryz.ntmps247,List.size_toArray,List.length_cons,List.length_nil,Nat.reduceAdd,Nat.reduceSub,Array.replicate_succ,
   Array.replicate_zero,List.push_toArray,List.append_toArray,List.nil_append,List.cons_append]
 gi_wp2;have hOn0:Only D W W:=Only.refl _ _;have hGr0:Gr D W D:=Gr.refl _ _;replace hsc:=qH hsc;replace hcW:=qH hcW;obtain⟨L,hL⟩:=exE (mvs 0 ss);rw[hL] at hY;have hL0:Hid ([]++mvs 0 (ss.drop 0)=L):=by show _=_;rw[List.drop_zero,List.nil_append];exact hL
 replace hL:=qH hL;obtain⟨wo,hwo⟩:=exF (W);have h00:J [] D wo:=by rw[hwo];exact h0
 have hBd0:Bd D wo:=by rw[hwo];exact hBd
 have hOn0:Only D W wo:=by rw[hwo];exact hOn0
 rw[<-hwo];clear hwo h0 hBd;gi_loopw [10] (fun kv wr=>∃(k:Nat) (pre:List (Nat × List Int)) (D1:Nat->Prop),kv = .int .i64 k/\k<=ss.length/\J pre D1 wr/\Bd D1 wr/\Only D W wr/\Gr D W D1/\Hid (pre++mvs k (ss.drop k)=L)) (fun kv _=>ss.length - (intOf kv).toNat)
 case atStart=>exact⟨0,[],D,rfl,by omega,h00,hBd0,hOn0,hGr0,hL0⟩
 case round=>
  clear h00 hBd0 hOn0 hGr0 hL0;obtain⟨k,pre,D1,rfl,hk,hJk,hBk,hOn,hGr,hp⟩:=hrel;by_cases hlt:k < ss.length
  ·obtain rfl:=hsa (by omega);obtain⟨u,hcu,hu⟩:=hsc.out k hlt;have hlu:=World.block_lt_of_cell? wA _ hcu;have hcu2:wr.cell? ⟨sb,so+k,none⟩=some u:=hOn.cell (p:=⟨sb,so+k,none⟩) (hAn _ hlu) (cell_kept hbW hcu);obtain⟨ms,hms⟩:=exE (ss.getD k []);rw[hms] at hu;have hp1:Hid (pre++((ms.drop 0).map (fun m=>(k,m))++mvs (k+1) (ss.drop (k+1)))=L):=(by show _=_;rw[<-mvs_step hlt hms];exact hp);obtain⟨ma,mc,mb,mo,rfl,hma,hmc,hml⟩:=hu;clear hp hms hcu hlu;replace hmc:=qH hmc;gi_wp2;gi_loopw [17] (fun iv wr=>∃(i:Nat) (pre:List (Nat × List Int)) (D1:Nat->Prop),iv = .int .i64 i/\i<=ms.length/\J pre D1 wr/\Bd D1 wr/\Only D W wr/\Gr D W D1/\Hid (pre++((ms.drop i).map (fun m=>(k,m))++mvs (k+1) (ss.drop (k+1)))=L)) (fun iv _=>ms.length - (intOf iv).toNat)
   case atStart=>exact⟨0,pre,D1,rfl,by omega,hJk,hBk,hOn,hGr,hp1⟩
   case round=>
    clear hp1 hJk hBk hOn hGr hcu2;obtain⟨i,pre,D1,rfl,hi,hJk,hBk,hOn,hGr,hp⟩:=hrel;by_cases hlti:i < ms.length
    ·obtain rfl:=hma (by omega);obtain⟨hx8,hxc⟩:=hmc.out i hlti;obtain⟨x,hx⟩:=exE (ms.getD i []);have hp1:Hid (pre++((k,x)::((ms.drop (i+1)).map (fun m=>(k,m))++mvs (k+1) (ss.drop (k+1))))=L):=(by show _=_;rw[<-List.cons_append,<-mvs_in hlti hx];exact hp);rw[hx] at hx8 hxc;obtain⟨y0,y1,y2,y3,y4,y5,y6,y7,rfl⟩:=eight hx8;obtain⟨c0,c1,c2,c3,c4,c5,c6,c7⟩:=hxc.all8;have hmn : ¬D mb:=hAn _ (World.block_lt_of_cell? wA _ c0);have e0:=hOn.cell (p:=⟨mb,_,none⟩) hmn (cell_kept hbW c0);have e1:=hOn.cell (p:=⟨mb,_,none⟩) hmn (cell_kept hbW c1);have e2:=hOn.cell (p:=⟨mb,_,none⟩) hmn (cell_kept hbW c2);have e3:=hOn.cell (p:=⟨mb,_,none⟩) hmn (cell_kept hbW c3);have e4:=hOn.cell (p:=⟨mb,_,none⟩) hmn (cell_kept hbW c4);have e5:=hOn.cell (p:=⟨mb,_,none⟩) hmn (cell_kept hbW c5);have e6:=hOn.cell (p:=⟨mb,_,none⟩) hmn (cell_kept hbW c6);have e7:=hOn.cell (p:=⟨mb,_,none⟩) hmn (cell_kept hbW c7);clear c0 c1 c2 c3 c4 c5 c6 c7 hxc hx8 hx hp;have hbn:=(Below.refl wr.heap.size wr).alloc (Nat.le_refl _) (.cells #[.int .i64 y0,.int .i64 y1,.int .i64 y2,.int .i64 y3,.int .i64 y4,.int .i64 y5,.int .i64 y6,.int .i64 y7] 178);have hOn2:=hOn.thenBelow (hbn.mono (by have:=hOn.size;omega));have hBk2:Bd D1 (wr.alloc (.cells #[.int .i64 y0,.int .i64 y1,.int .i64 y2,.int .i64 y3,.int .i64 y4,.int .i64 y5,.int .i64 y6,.int .i64 y7] 178)):=fun q hq=>Nat.lt_of_lt_of_le (hBk q hq) hbn.size;have hJk2:=hJ.out _ _ _ _ hJk hbn.size (fun q hq=>hbn.block q (hBk q hq));have hlen:pre.length < L.length:=(by rw[<-hp1.out];simp);have hRx:mvR L pre (k,[y0,y1,y2,y3,y4,y5,y6,y7]) (wr.alloc (.cells #[.int .i64 y0,.int .i64 y1,.int .i64 y2,.int .i64 y3,.int .i64 y4,.int .i64 y5,.int .i64 y6,.int .i64 y7] 178)):=⟨_,hp1.out⟩;obtain⟨fn,tmps,assign,body,hy,hR⟩:=hY.out pre (k,[y0,y1,y2,y3,y4,y5,y6,y7]) D1 _ hJk2 hBk2 hOn2 hGr hRx hlen;simp only[mvEnc,List.map] at hy hR;replace hR:=qH hR;clear hJk hlen hRx hBk;gi_wp2;refine⟨rfl,hR.out.mono ?_⟩;rintro e W' ⟨D',hO',hG',hB',(⟨rfl,hJ'⟩|⟨rfl,hJ'⟩)⟩
     ·clear e0 e1 e2 e3 e4 e5 e6 e7 hy hR;have hOn3:=hOn2.trans hO' hGr;have hGr3:=hGr.trans hG' hOn2.size;gi_wp2;go_roundw
      case rel=>exact⟨i+1,_,D',by go_num,hlti,hJ',hB',hOn3,hGr3,by show _=_;rw[List.append_assoc];exact hp1.out⟩
      case measure=>simp[intOf];omega
     ·gi_wp2;refine bodyPost_ret (results_none rfl _ _ _) rfl ?_;exact⟨⟨_,rfl⟩,D',hOn2.trans hO' hGr,hGr.trans hG' hOn2.size,hB',.inr ⟨_,trivial,hJ'⟩⟩
    ·obtain rfl:i=ms.length:=(by omega);have hp1:Hid (pre++mvs (k+1) (ss.drop (k+1))=L):=(by show _=_;rw[<-hp.out,List.drop_length];rfl);clear hp;gi_wp2;go_roundw
     case rel=>exact⟨k+1,pre,D1,by go_num,hlt,hJk,hBk,hOn,hGr,hp1⟩
     case measure=>simp[intOf];omega
  ·obtain rfl:k=ss.length:=(by omega);have hpe:pre=L:=(by rw[<-hp.out,List.drop_length,mvs,List.append_nil]);have hpf:=qH (hpe.trans hL.out.symm);clear hJ hJx hY hpe hp hL;gi_wp2;first|refine bodyPost_end (results_none rfl _ _ _) rfl ?_|refine bodyPost_ret (results_none rfl _ _ _) rfl ?_
   exact⟨⟨_,rfl⟩,D1,hOn,hGr,hBk,.inl ⟨_,hpf.out,hJk⟩⟩
attribute [local go_sem] Oper.semAt_some
def Box1 (Bn:Nat) (D:Nat->Prop) (W:World) (n:Int):Prop:=(∀k,D k↔k=Bn)/\W.heap[Bn]? = some (.cells #[.int .i64 n] 3 (0,0))
theorem Box1.stable {α:Type}(Bn:Nat) (f:List α->Int):Stable (fun pre D W=>Box1 Bn D W (f pre)):=fun _ _ _ _ h _ hk=>⟨h.1,(hk Bn ((h.1 Bn).2 rfl)).trans h.2⟩
theorem mvs_length:∀(ss:Jc) (k:Nat),(mvs k ss).length=movesN ss
 | [],_=>rfl
 | l::r,k=>by rw[mvs,List.length_append,List.length_map,mvs_length r];rfl
theorem mvR_put {L:List (Nat × List Int)}(pre:List (Nat × List Int)) (x:Nat × List Int) (W:World) (k:Nat) (r:Loop) (o:Obj) (h:mvR L pre x W) (_:W.heap[k]? = some (.loop r)):mvR L pre x (W.putObj k o):=h
def szE (ss:Jc):Int:=if ss.length < 1\/256 < ss.length\/4096 < movesN ss then 5 else 0
theorem movesCall (n:Int) (sa:Option Addr) (l c:Nat) (w:World):Calls Tryz.prog 219 #[.agg #[.int .i64 n,.slice sa l c]] w fun e w'=>
  e = .returned (.func (.func 247) #[] #[.pointer (some ⟨w.heap.size,0,none⟩)])/\w'=w.alloc (.cells #[.int .i64 n,.slice sa l c] 27):=by
 go_enter Tryz.func219, Tryz.ntmps219
 go_wp2;go_ret;exact⟨rfl,rfl⟩
theorem sized {w:World}{v:Value}{n:Int}{ss:Jc}(hA:AdvV w v n ss) (hN:movesN ss<=1000000000) :
  Calls Tryz.prog 217 #[v] w fun e w'=>e = .returned (.int .i64 (szE ss))/\Below w.heap.size w w':=by
 obtain⟨sv,rfl,hK⟩:=hA;obtain⟨sa,sc,hsv⟩:=hK.shape;have hsl:ss.length<=5864062014805:=by obtain⟨_,_,_,_,_,_,_,h⟩:=hK;exact h
 refine callsIn_wide.1 (callsIn_of_wp_marks (n:=0) Tryz.func217 rfl trivial ?_);simp only[Tryz.ntmps217,List.size_toArray,List.length_cons,List.length_nil,Nat.reduceAdd,Nat.reduceSub,Array.replicate_succ,Array.replicate_zero,List.push_toArray,List.append_toArray,List.nil_append,List.cons_append];subst hsv;refine wpIn_wide.2 ?_;go_wp2_with (go_at_call 219;refine(movesCall _ _ _ _ _).mono ?_;rintro e w2 ⟨rfl,rfl⟩)
 obtain⟨wL,hwL⟩:=exF (((w.alloc (.cells #[.int .i64 n,.slice sa ss.length sc] 27)).alloc (.cells #[.int .i64 0] 3)).alloc (.cells #[.int .i64 n,.slice sa ss.length sc] 27));obtain⟨N,hNe⟩:=exF (w.heap.size);have hsL:wL.heap.size=N+3:=by rw[hwL,hNe];simp
 have hbW:Below w.heap.size w wL:=by rw[hwL];exact(((Below.refl _ w).alloc (Nat.le_refl _) _).alloc (by simp) _).alloc (by simp;omega) _
 have hBa:wL.heap[N]? = some (.cells #[.int .i64 n,.slice sa ss.length sc] 27):=by
  rw[hwL,hNe];exact(Below.heap_alloc _ _ _ (by simp;omega)).trans ((Below.heap_alloc _ _ _ (by simp)).trans (World.alloc_heap_new w _))
 have hBn:wL.heap[N+1]? = some (.cells #[.int .i64 0] 3 (0,0)):=by
  rw[hwL,hNe];refine(Below.heap_alloc _ _ _ (by simp)).trans ?_;have:=World.alloc_heap_new (w.alloc (.cells #[.int .i64 n,.slice sa ss.length sc] 27)) (.cells #[.int .i64 0] 3)
  rwa [World.size_alloc] at this
 have hBx:wL.heap[N+2]? = some (.cells #[.int .i64 n,.slice sa ss.length sc] 27):=by
  rw[hwL,hNe];have:=World.alloc_heap_new ((w.alloc (.cells #[.int .i64 n,.slice sa ss.length sc] 27)).alloc (.cells #[.int .i64 0] 3)) (.cells #[.int .i64 n,.slice sa ss.length sc] 27)
  simpa only [World.size_alloc] using this
 have hcx:wL.cell? ⟨N+2,1,none⟩=some (.slice sa ss.length sc):=box_cell hBx rfl;rw[<-hwL,<-hNe];have hbWN:Below N w wL:=hNe▸hbW;have hwN:w.heap.size=N:=hNe.symm;clear hwL hNe;have hML:=mvs_length ss 0
 refine wpIn_wide.1 (wpIn_rf (gf:=247) (lb:=#[.pointer (some ⟨N+2,0,none⟩)]) rfl (enters_of Tryz.func247 (by kernel_rfl) rfl) (mvSeq hK hbW hcx) (Below.refl _ _) (fun _=>rfl) mvR_put
  (fun pre D W=>Box1 (N+1) D W pre.length) (fun _ _ _ _=>False) (Box1.stable (N+1) (fun pre:List (Nat × List Int)=>(pre.length:Int))) (fun _ _ _ _ _ h _ _=>h)
  (fun k=>k=N+1) (fun k hk=>by rw[hk];omega) (fun k hk=>by omega) (fun k hk=>by omega) ⟨fun _=>Iff.rfl,hBn⟩
  (fun x=>{ tmps:=#[.agg #[.int .i64 n,.slice sa ss.length sc],.pointer (some ⟨N,0,none⟩),.int .i64 0,.pointer (some ⟨N+1,0,none⟩),.agg #[.int .i64 n,.slice sa ss.length sc],.func (.func 247) #[] #[.pointer (some ⟨N+1+1,0,none⟩)],.int .i64 x.1,.agg (x.2.map (Value.int .i64)).toArray,undef,undef,undef,undef,undef,undef,undef,undef,undef,undef,undef,undef,undef,undef,undef,undef],defers:=[] }) ?assign ?body ?done ?stop)
 case assign=>
  intro l x W K hK;unfold mvEnc;gi_wp2;simp only[List.zip_toArray,List.zip_cons_cons,List.zip_nil_right,List.foldl_toArray,List.foldl_cons,List.foldl_nil,List.setIfInBounds_toArray,List.set_cons_succ,List.set_cons_zero];exact hK
 case body=>
  rintro l pre ⟨s,m⟩ D W ⟨hD,hbox⟩ hBd hOn hGr ⟨r,hr⟩ hlen;have hcn:=cell_of_one hbox;have hfn:=free_of_one hbox;have hset:=one_setCell (u:=.int .i64 (↑pre.length+1)) hbox;have hle:pre.length<=1000000000:=by omega
  clear hr hOn hGr hBn hBx hcx hBa hlen hML;gi_wp2;refine⟨D,(Only.refl D W).setCell (p:=⟨N+1,0,none⟩) ((hD (N+1)).2 rfl) _,Gr.refl _ _,fun i hi=>by have:=hBd i hi;simpa [World.setCell] using this,⟨hD,?_⟩⟩;rw[List.length_append,List.length_singleton];exact hset
 case done=>
  intro d xs D W hS hI hOn hGr hd hnd hdef;obtain⟨hD,hbox⟩:=hI;have hcn:=cell_of_one hbox;rw[hS,hML] at hcn;have hbE:Below w.heap.size w (W.putObj d (.deferred none)):=below_putObj (hbW.trans (hOn.below hbW.size (fun i hi=>by omega))) (by omega) _;have kA:W.heap[N]? = some (.cells #[.int .i64 n,.slice sa ss.length sc] 27):=(hOn.same N (by omega) (by omega)).trans hBa;have k1:W.cell? ⟨N,1,none⟩=some (.slice sa ss.length sc):=box_cell kA rfl;clear hbox hBx hBn hcx hBa kA hK hOn hGr hML;obtain⟨M,hM⟩:=exE (movesN ss);obtain⟨q,hq⟩:=exE (ss.length);have hE:szE ss=if q < 1\/256 < q\/4096 < M then 5 else 0:=by rw[szE,hM,hq]
  rw[hM] at hcn hN;rw[hq] at k1 hsl;replace hE:=qH hE;replace hbE:=qH hbE;clear hM;by_cases h1:q < 1
  ·have h1':decide ((q:Int) < 1)=true:=decide_eq_true (by omega);have hE2:=qH (show szE ss=5 by rw[hE.out,if_pos (.inl h1)]);go_wp2;refine⟨by simp,.inl ⟨_,_,rfl,run_takeDeferred hdef,?_⟩⟩;exact⟨_,results_tmp rfl _ _ _,by rw[hE2.out];rfl,hbE.out⟩
  ·have h1':decide ((q:Int) < 1)=false:=decide_eq_false (by omega);by_cases h2:256 < q
   ·have h2':decide ((256:Int) < (q:Int))=true:=decide_eq_true (by omega);have hE2:=qH (show szE ss=5 by rw[hE.out,if_pos (.inr (.inl h2))]);go_wp2;refine⟨by simp,.inl ⟨_,_,rfl,run_takeDeferred hdef,?_⟩⟩;exact⟨_,results_tmp rfl _ _ _,by rw[hE2.out];rfl,hbE.out⟩
   ·have h2':decide ((256:Int) < (q:Int))=false:=decide_eq_false (by omega);by_cases h3:4096 < M
    ·have h3':decide ((4096:Int) < (M:Int))=true:=decide_eq_true (by omega);have hE2:=qH (show szE ss=5 by rw[hE.out,if_pos (.inr (.inr h3))]);go_wp2;refine⟨by simp,.inl ⟨_,_,rfl,run_takeDeferred hdef,?_⟩⟩;exact⟨_,results_tmp rfl _ _ _,by rw[hE2.out];rfl,hbE.out⟩
    ·have h3':decide ((4096:Int) < (M:Int))=false:=decide_eq_false (by omega);have hE2:=qH (show szE ss=0 by rw[hE.out,if_neg (by omega)]);go_wp2;refine⟨by simp,.inl ⟨_,_,rfl,run_takeDeferred hdef,?_⟩⟩;exact⟨_,results_tmp rfl _ _ _,by rw[hE2.out];rfl,hbE.out⟩
 case stop=>
  intro d c pre D W _ h;exact h.elim
theorem wpIn_rfB {P:Program}{α:Type}{g:Operand}{ps:Array Tmp}{assign body:Code}{Q:Exit->Act->World->Prop}{a:Act}{w:World}
  {gf:Nat} {lb:Array Value} (hg:a.eval g = .func (.func gf) #[] lb) (eg:∀args w,(callFunc gf args).run P w = .ok (.enter gf args) w)
  {enc:α->Array Value} {R:List α->α->World->Prop} {S Sp:List α->Prop} {N:Nat} {C:Nat->Prop} {w0:World} (hseq:SeqOK P gf lb enc R S Sp N C w0)
  (hb0:Below w0.heap.size w0 w) (hps:∀x,(enc x).size=ps.size) (hR:∀pre x W k r o,R pre x W->W.heap[k]? = some (.loop r)->R pre x (W.putObj k o)) (hRa:∀pre x W o,R pre x W->R pre x (W.alloc o))
  (I:List α->(Nat->Prop)->World->Prop) (Ix:Code->List α->(Nat->Prop)->World->Prop) (hI:Stable I) (hIx:∀c,Stable (Ix c))
  (D0:Nat->Prop) (hD0:Bd D0 w) (hC:∀k,D0 k->¬C k) (hC':Bd C w) (h0:I [] D0 w) (cs:α->Array Value) (tB:TypeId) (fx:α->Nat->Array Value->Array Value)
  (hassign:∀(l:Nat) (pre:List α) (x:α) (W:World) (K:Act->World->Prop),R pre x W->K { tmps:=fx x W.heap.size a.tmps,defers:=[] } (W.alloc (.cells (cs x) tB))->
   assign.wpIn (Fence.wide.inRound l) 0 P (Exit.then K (fun _ _ _=>False)) { tmps:=(ps.zip (enc x)).foldl (fun t (p,v)=>t.setIfInBounds p v) a.tmps,defers:=[] } W)
  (hbody:∀(l:Nat) (pre:List α) (x:α) (D:Nat->Prop) (W:World) (b:Nat),I pre D W->Bd D W->Only D0 w W->Gr D0 w D->R pre x W->pre.length < N->W.heap[b]? = some (.cells (cs x) tB)->¬D b->w.heap.size<=b->body.wpIn (Fence.wide.inRound l) 0 P (bodyQ I Ix (pre ++ [x]) D W) { tmps:=fx x b a.tmps,defers:=[] } W)
  (hdone:∀(d:Nat) (xs:List α) (D:Nat->Prop) (W:World),S xs->I xs D W->Only D0 w W->Gr D0 w D->w.heap.size<=d->¬D d->W.heap[d]? = some (.deferred (some []))->Q .normal { a with defers:={ target:=.collected d,args:=#[] }::a.defers } W)
  (hstop:∀(d:Nat) (c:Code) (pre:List α) (D:Nat->Prop) (W:World),Sp pre->Ix c pre D W->Only D0 w W->Gr D0 w D->w.heap.size<=d->¬D d->W.heap[d]? = some (.deferred (some []))->c.wpIn Fence.wide 0 P Q { a with defers:={ target:=.collected d,args:=#[] }::a.defers } W) :
  (Code.rangeFunc g ps assign body).wpIn Fence.wide 0 P Q a w:=by
 refine wpIn_rangeFunc fun fn _=>?_;obtain⟨d,hd⟩:=exF (w.heap.size);obtain⟨l,hl⟩:=exF (w.heap.size+1);obtain⟨rec,hrec⟩:∃rec:LoopState->Option Code->Loop,rec=fun st pe=>{ state:=st,pending:=pe,fn:=fn,tmps:=a.tmps,params:=ps,assign:=assign,body:=body,defers:=d }:=⟨_,rfl⟩;obtain⟨W1,hW1⟩:=exE ((w.alloc (.deferred (some []))).alloc (.loop (rec .ready none)));have hs1:W1.heap.size=w.heap.size+2:=by rw[<-hW1];simp
 have hold:∀k,k < w.heap.size->W1.heap[k]? = w.heap[k]?:=fun k hk=>by
  rw[<-hW1];exact(Below.heap_alloc _ _ _ (by simp;omega)).trans (Below.heap_alloc _ _ _ hk)
 have hl1:W1.heap[l]? = some (.loop (rec .ready none)):=by
  rw[<-hW1,hl];have:=World.alloc_heap_new (w.alloc (.deferred (some []))) (.loop (rec .ready none));rwa [World.size_alloc] at this
 have hd1:W1.heap[d]? = some (.deferred (some [])):=by
  rw[<-hW1,hd];exact(Below.heap_alloc _ _ _ (by simp)).trans (World.alloc_heap_new w _)
 have hbW:Below w.heap.size w W1:=by rw[<-hW1];exact((Below.refl _ _).alloc (Nat.le_refl _) _).alloc (by simp) _
 have hDl : ¬D0 l:=fun h=>by have:=hD0 l h;omega
 have hDd : ¬D0 d:=fun h=>by have:=hD0 d h;omega
 -- what the caller's data and the two blocks of the statement's own are
 let J:List α->(Nat->Prop)->World->Prop:=fun pre D W=>∃E,I pre E W/\Bd E W/\Gr D0 w E/\¬E l/\¬E d/\(∀k,D k↔E k\/k=l\/k=d)/\
  W.heap[l]? = some (.loop (rec .ready none))/\W.heap[d]? = some (.deferred (some []))
 let Jx:List α->(Nat->Prop)->World->Prop:=fun pre D W=>∃c E,Ix c pre E W/\Bd E W/\Gr D0 w E/\¬E l/\¬E d/\(∀k,D k↔E k\/k=l\/k=d)/\
  W.heap[l]? = some (.loop (rec .done (some c)))/\W.heap[d]? = some (.deferred (some []))
 have hJ:Stable J:=by
  rintro pre D W W' ⟨E,h1,h2,h3,h4,h5,h6,h7,h8⟩ hs hk;refine⟨E,hI pre E W W' h1 hs (fun k hkE=>hk k ((h6 k).2 (.inl hkE))),fun k hkE=>Nat.lt_of_lt_of_le (h2 k hkE) hs,h3,h4,h5,h6,(hk l ((h6 l).2 (.inr (.inl rfl)))).trans h7,(hk d ((h6 d).2 (.inr (.inr rfl)))).trans h8⟩
 have hJx:Stable Jx:=by
  rintro pre D W W' ⟨c,E,h1,h2,h3,h4,h5,h6,h7,h8⟩ hs hk;refine⟨c,E,hIx c pre E W W' h1 hs (fun k hkE=>hk k ((h6 k).2 (.inl hkE))),fun k hkE=>Nat.lt_of_lt_of_le (h2 k hkE) hs,h3,h4,h5,h6,(hk l ((h6 l).2 (.inr (.inl rfl)))).trans h7,(hk d ((h6 d).2 (.inr (.inr rfl)))).trans h8⟩
 let D1:Nat->Prop:=fun k=>D0 k\/k=l\/k=d
 have hD1:Bd D1 W1:=fun k hk=>by
  rcases hk with h|rfl|rfl
  ·have:=hD0 k h;omega
  ·omega
  ·omega
 have hwW:∀ {W:World},Only D1 W1 W->Only D0 w W:=fun {W} h=>
  ⟨h.os.trans hbW.os,h.tape.trans hbW.tape,h.output.trans hbW.output,Nat.le_trans hbW.size h.size,fun k hk hn=>
   (h.same k (by omega) (fun hh=>by rcases hh with hh|rfl|rfl;exact hn hh;omega;omega)).trans (hold k hk)⟩
 refine⟨l,[{ target:=.collected d,args:=#[] }],W1,{ target:=.fn (.func gf) lb,args:=#[.func (.yield l) #[] #[]] },W1,gf,#[.func (.yield l) #[] #[]]++lb,W1,?_,?_,?_,?_,?_,?_⟩
 ·rw[<-hW1,hrec,hl,hd];exact run_enterLoop_outer _ _ _ _ _
 ·simp only[resolve,hg];simp[go_sem]
 ·intro f' hf';trivial
 ·simp[invoke,go_sem,eg]
 ·intro h;simp[Fence.wide] at h
 refine(hseq l J Jx D1 W1 (hb0.trans (hbW.mono hb0.size)) hD1 ?_ hJ hJx ?_ ?_).mono ?_
 ·intro k hk hkC;have:=hC' k hkC
  rcases hk with h|rfl|rfl
  ·exact hC k h hkC
  ·omega
  ·omega
 ·-- a round
  rintro pre x D W ⟨E,h1,h2,h3,h4,h5,h6,h7,h8⟩ hBd hOn hGr hRx hlen;have hlW:l < W.heap.size:=(Array.getElem?_eq_some_iff.1 h7).1;have hy:=run_yield (P:=P) (args:=enc x) h7 (by rw[hrec];exact hps x);rw[hrec] at hy;refine⟨fn,_,assign,body,hy,roundIn_of_wpIn trivial (hassign l pre x W _ hRx ⟨_,run_beginRound ((Below.heap_alloc _ _ _ hlW).trans h7) (by rw[hrec]),?_⟩)⟩;have h7a:(W.alloc (.cells (cs x) tB)).heap[l]? = some (.loop (rec .ready none)):=(Below.heap_alloc _ _ _ hlW).trans h7;obtain⟨W2,hW2⟩:∃W2,W2=(W.alloc (.cells (cs x) tB)).putObj l (.loop { rec .ready none with state:=.busy }):=⟨_,rfl⟩;have g7:W2.heap[l]? = some (.loop { rec .ready none with state:=.busy }):=by rw[hW2];exact World.putObj_heap_same (by simp;omega)
  have gO:∀k,k < W.heap.size->k ≠ l->W2.heap[k]? = W.heap[k]?:=fun k hks hk=>by rw[hW2];exact(World.putObj_heap_other hk).trans (Below.heap_alloc _ _ _ hks)
  have gS:W2.heap.size=W.heap.size+1:=by rw[hW2];simp
  have gB:W2.heap[W.heap.size]? = some (.cells (cs x) tB):=by rw[hW2];exact(World.putObj_heap_other (by omega)).trans (heap_alloc_new _ _)
  have e0:Only D W W2:=by rw[hW2];exact((Only.refl D W).thenBelow ((Below.refl _ _).alloc (Nat.le_refl _) _)).trans (Only.putObj (D:=D) ((h6 l).2 (.inr (.inl rfl))) _) (Gr.refl _ _)
  have g8:W2.heap[d]? = some (.deferred (some [])):=(gO d (by omega) (by omega)).trans h8;have gI:I pre E W2:=hI pre E W W2 h1 (by omega) (fun k hk=>gO k (h2 k hk) (fun e=>h4 (e▸hk)));have gOn:Only D1 W1 W2:=hOn.trans e0 hGr;have gR:R pre x W2:=by rw[hW2];exact hR pre x _ l _ _ (hRa _ _ _ _ hRx) h7a
  rw[<-hW2];refine wpIn_mono (hbody l pre x E W2 W.heap.size gI (fun k hk=>by rw[gS];have:=h2 k hk;omega) (hwW gOn) h3 gR hlen gB (fun h=>by have:=h2 _ h;omega) (by have:=hOn.size;omega)) ?_;-- what stands when the body has ended
  have fin:∀(jump:Option Code) (W3:World) (E':Nat->Prop),Only E W2 W3->Gr E W2 E'->Bd E' W3->
    (Instr.endRound l jump).run P W3 = .ok (.bool jump.isNone) (W3.putObj l (.loop (rec (if jump.isNone then .ready else .done) jump)))/\
    Only D W (W3.putObj l (.loop (rec (if jump.isNone then .ready else .done) jump)))/\Gr D W (fun k=>E' k\/k=l\/k=d)/\
    Bd (fun k=>E' k\/k=l\/k=d) (W3.putObj l (.loop (rec (if jump.isNone then .ready else .done) jump)))/\¬E' l/\¬E' d/\Gr D0 w E'/\
    (W3.putObj l (.loop (rec (if jump.isNone then .ready else .done) jump))).heap[l]? = some (.loop (rec (if jump.isNone then .ready else .done) jump))/\
    (W3.putObj l (.loop (rec (if jump.isNone then .ready else .done) jump))).heap[d]? = some (.deferred (some []))/\
    (∀k,E' k->(W3.putObj l (.loop (rec (if jump.isNone then .ready else .done) jump))).heap[k]? = W3.heap[k]?):=by
   intro jump W3 E' k1 k2 k3;have hdW:d < W2.heap.size:=(by omega);have hl3:=(k1.same l (by omega) h4).trans g7;have hl3':l < W3.heap.size:=(Array.getElem?_eq_some_iff.1 hl3).1;have nl : ¬E' l:=fun h=>by rcases k2 l h with h'|h';exact h4 h';omega
   have nd : ¬E' d:=fun h=>by rcases k2 d h with h'|h';exact h5 h';omega
   have hend:=run_endRound (P:=P) jump hl3;refine⟨by rw[hrec] at hend|-;exact hend,?_,?_,?_,nl,nd,?_,World.putObj_heap_same hl3',(World.putObj_heap_other (by omega)).trans ((k1.same d hdW h5).trans g8),fun k hk=>World.putObj_heap_other (fun e=>nl (e▸hk))⟩
   ·have e1:Only D W W2:=e0;have e2:Only D W2 W3:=k1.mono fun k hk=>(h6 k).2 (.inl hk);exact(e1.trans e2 (Gr.refl _ _)).trans (Only.putObj (D:=D) ((h6 l).2 (.inr (.inl rfl))) _) (Gr.refl _ _)
   ·intro k hk;rcases hk with h|rfl|rfl
    ·rcases k2 k h with h'|h'
     ·exact .inl ((h6 k).2 (.inl h'))
     ·exact .inr (by omega)
    ·exact .inl ((h6 k).2 (.inr (.inl rfl)))
    ·exact .inl ((h6 k).2 (.inr (.inr rfl)))
   ·intro k hk;rw[World.putObj_size];rcases hk with h|rfl|rfl
    ·exact k3 k h
    ·omega
    ·have:=k1.size;omega
   ·intro k hk;rcases k2 k hk with h'|h'
    ·exact h3 k h'
    ·right;have:=hOn.size;omega
  rintro e a3 W3 hp;cases e with
  | normal=>
   obtain⟨E',k1,k2,k3,k4⟩:=hp;obtain⟨f1,f2,f3,f4,f5,f6,f7,f8,f9,f10⟩:=fin none W3 E' k1 k2 k3;exact⟨_,_,f1,_,f2,f3,f4,.inl ⟨rfl,E',hI _ E' W3 _ k4 (by rw[World.putObj_size];exact Nat.le_refl _) f10,fun k hk=>f4 k (.inl hk),f7,f5,f6,fun _=>Iff.rfl,f8,f9⟩⟩
  | ret=>
   obtain⟨E',k1,k2,k3,k4⟩:=hp;obtain⟨f1,f2,f3,f4,f5,f6,f7,f8,f9,f10⟩:=fin (some .ret) W3 E' k1 k2 k3;exact⟨_,_,f1,_,f2,f3,f4,.inr ⟨rfl,_,E',hIx _ _ E' W3 _ k4 (by rw[World.putObj_size];exact Nat.le_refl _) f10,fun k hk=>f4 k (.inl hk),f7,f5,f6,fun _=>Iff.rfl,f8,f9⟩⟩
  | exit id=>
   obtain⟨E',k1,k2,k3,k4⟩:=hp;obtain⟨f1,f2,f3,f4,f5,f6,f7,f8,f9,f10⟩:=fin (some (.exit id)) W3 E' k1 k2 k3;exact⟨_,_,f1,_,f2,f3,f4,.inr ⟨rfl,_,E',hIx _ _ E' W3 _ k4 (by rw[World.putObj_size];exact Nat.le_refl _) f10,fun k hk=>f4 k (.inl hk),f7,f5,f6,fun _=>Iff.rfl,f8,f9⟩⟩
  | goto t=>
   obtain⟨E',k1,k2,k3,k4⟩:=hp;obtain⟨f1,f2,f3,f4,f5,f6,f7,f8,f9,f10⟩:=fin (some (.goto t)) W3 E' k1 k2 k3;exact⟨_,_,f1,_,f2,f3,f4,.inr ⟨rfl,_,E',hIx _ _ E' W3 _ k4 (by rw[World.putObj_size];exact Nat.le_refl _) f10,fun k hk=>f4 k (.inl hk),f7,f5,f6,fun _=>Iff.rfl,f8,f9⟩⟩
  | panic ch=>exact hp.elim
  | outgrown=>exact hp.elim
 ·refine⟨D0,hI [] D0 w W1 h0 hbW.size (fun k hk=>hold k (hD0 k hk)),fun k hk=>by have:=hD0 k hk;omega,Gr.refl _ _,hDl,hDd,fun _=>Iff.rfl,hl1,hd1⟩
 ·-- behind the iterator
  rintro e W2 ⟨⟨v,rfl⟩,D,hOn,hGr,hBd,(⟨xs,hS,E,h1,h2,h3,h4,h5,h6,h7,h8⟩|⟨pre,hSp,c,E,h1,h2,h3,h4,h5,h6,h7,h8⟩)⟩
  ·have hend:=run_endLoop (P:=P) h7 (by rw[hrec];simp);rw[hrec] at hend;refine⟨none,_,hend,hdone d xs E _ hS (hI _ E W2 _ h1 (by simp) fun k hk=>World.putObj_heap_other (fun e=>h4 (e▸hk))) ?_ h3 (by omega) h5 ((World.putObj_heap_other (by omega)).trans h8)⟩;exact hwW (hOn.trans (Only.putObj (D:=D) ((h6 l).2 (.inr (.inl rfl))) _) hGr)
  ·have hend:=run_endLoop (P:=P) h7 (by rw[hrec];simp);rw[hrec] at hend;refine⟨some c,_,hend,hstop d c pre E _ hSp (hIx c _ E W2 _ h1 (by simp) fun k hk=>World.putObj_heap_other (fun e=>h4 (e▸hk))) ?_ h3 (by omega) h5 ((World.putObj_heap_other (by omega)).trans h8)⟩;exact hwW (hOn.trans (Only.putObj (D:=D) ((h6 l).2 (.inr (.inl rfl))) _) hGr)
end Go.Proofs.YtcnedkkcgdkioaaGreat

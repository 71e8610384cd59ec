/- Texts of this claim, put together: C3 E1 E2 E3 E4 B0 B1 Itb. -/
import Derived.Test.YtcnedkkcgdkioaaGreatKBe
import Derived.Deep.LoopGhost
import Derived.Lib.LazyBuf
import Derived.OwnWalkIn
import Derived.RangeFuncBox
import Derived.Sort.LoopGhostIn
import Derived.TacticsInMore
import Derived.LoopNIn
import Derived.LoopIn
import Derived.Shelf.RegionOpen

set_option maxRecDepth 100000
set_option maxHeartbeats 12800000
namespace Go.Proofs.YtcnedkkcgdkioaaGreat
open Go.RowKit Go.ChangeMaps Go.MapKept
theorem OT (l:List Nat) (j:Nat):(BF l).getD j 0=((l.getD j 0:Nat):Int):=by
 simp only[BF,List.getD_eq_getElem?_getD,List.getElem?_map];cases l[j]?<;>simp
def JM (ss:Jc):Prop:=ss.length<=90/\CA ss<=90/\0 < ss.length/\∀s∈ss,0 < s.length/\∀m∈s,VP (rdOf m)/\m.length=8/\0<=m.getD 7 0/\m.getD 7 0 < (ss.length:Int)
end Go.Proofs.YtcnedkkcgdkioaaGreat
namespace Go.Proofs.YtcnedkkcgdkioaaGreat
open Go.RowKit
def EI (_:World) (cs:List Value) (x:List Int):Prop:=cs=x.map (Value.int .i64)
theorem EI.stab (E:TypeId):CP E EI:=fun _ _ _ _ h _=>h
theorem QB {k:Nat}:∀ {xs:Jb},(∀x∈xs,x.length=k)->∀ {j:Nat}{x:List Int},xs[j]? = some x->(xs.flatten.drop (j * k)).take k=x
 | [],_,j,x,h=>by simp at h
 | a::r,hl,0,x,h=>by
  simp only[List.getElem?_cons_zero,Option.some.injEq] at h;subst h;rw[Nat.zero_mul,List.drop_zero,List.flatten_cons,<-hl a (by simp),List.take_left]
 | a::r,hl,j+1,x,h=>by
  rw[List.getElem?_cons_succ] at h;rw[List.flatten_cons,Nat.succ_mul,Nat.add_comm,<-List.drop_drop];have:(a++r.flatten).drop k=r.flatten:=by rw[<-hl a (by simp),List.drop_left]
  rw[this];exact QB (fun y b=>hl y (by simp[b])) h
theorem LV {k:Nat}:∀ {xs:Jb},(∀x∈xs,x.length=k)->xs.flatten.length=xs.length * k
 | [],_=>by simp
 | a::r,hl=>by
  rw[List.flatten_cons,List.length_append,hl a (by simp),LV (fun y h=>hl y (by simp[h])),List.length_cons,Nat.succ_mul,Nat.add_comm]
theorem AA.ofFlat {E:TypeId}{k:Nat}{w:World}{B n:Nat}{v:Value}{xs:Jb}(h:w.ownsRow B E k v n (xs.flatten.map (Value.int .i64))) (l:∀x∈xs,x.length=k) (b:xs.length=n):AA E k EI w B v n xs:=by
 refine⟨_,h,b,fun u c=>?_,fun j x a=>?_⟩
 ·obtain⟨i,_,rfl⟩:=List.mem_map.1 c;rfl
 ·show _=_;rw[<-List.map_drop,<-List.map_take,QB l a]
theorem KS.flat {k:Nat}{w:World}{b o:Nat}{xs:Jb}(h:CK k w b o xs):∀j u,(xs.flatten.map (Value.int .i64))[j]? = some u->w.cell? ⟨b,o+j,none⟩=some u:=by
 have g:∀x∈xs,x.length=k:=fun x a=>by
  obtain⟨i,f,rfl⟩:=List.getElem_of_mem a;have:=(h i f).1
  rwa [AK f] at this
 intro j u c
 obtain⟨y,n,rfl⟩:∃y,xs.flatten[j]? = some y/\Value.int .i64 y=u:=by
  rw[List.getElem?_map] at c;cases a:xs.flatten[j]? with
  | none=>rw[a] at c;cases c
  | some y=>rw[a] at c;simp only[Option.map_some,Option.some.injEq] at c;exact⟨y,rfl,c⟩
 have l:=(List.getElem?_eq_some_iff.1 n).1;rw[LV g] at l
 have v:0 < k:=by
  rcases Nat.eq_zero_or_pos k with rfl|p
  ·simp at l
  ·exact p
 have q:j / k < xs.length:=Nat.div_lt_of_lt_mul (by rw[Nat.mul_comm];exact l);obtain⟨x,a⟩:∃x,xs[j / k]? = some x:=⟨_,List.getElem?_eq_some_iff.2 ⟨q,rfl⟩⟩;have r:=QB g a;obtain⟨s,d⟩:=h _ q;have A:xs.getD (j / k) []=x:=by rw[List.getD_eq_getElem?_getD,a];rfl
 rw[A] at s d;have z:j % k < k:=Nat.mod_lt _ v;have e:=d (j % k) (by omega);have m:j / k * k+j % k=j:=by rw[Nat.mul_comm];exact Nat.div_add_mod j k
 have t:x.getD (j % k) 0=y:=by
  rw[<-r,List.getD_eq_getElem?_getD,List.getElem?_take,if_pos z,List.getElem?_drop,m,n];rfl
 rw[t,Nat.add_assoc,m] at e;exact e
theorem KS.lens {k:Nat}{w:World}{b o:Nat}{xs:Jb}(h:CK k w b o xs):∀x∈xs,x.length=k:=fun x c=>by
 obtain⟨i,a,rfl⟩:=List.getElem_of_mem c;have:=(h i a).1
 rwa [AK a] at this
theorem OF:EA Tryz.prog 180 178 (.agg #[.int .i64 0,.int .i64 0,.int .i64 0,.int .i64 0,.int .i64 0,.int .i64 0,.int .i64 0,.int .i64 0]) 8 64:=⟨by kernel_rfl,by kernel_rfl,rfl⟩
theorem JX:EA Tryz.prog 77 148 (.agg #[.int .i64 0,.int .i64 0,.int .i64 0,.int .i64 0,.int .i64 0,.int .i64 0,.int .i64 0]) 7 56:=⟨by kernel_rfl,by kernel_rfl,rfl⟩
theorem SO:EA Tryz.prog 133 77 (.slice none 0 0) 1 24:=⟨by kernel_rfl,by kernel_rfl,rfl⟩
theorem gC {w:World}(a:Addr) (n c:Nat) (s:List Value) (l:s.length=n * 8) (t:n<=1000000) (h:∀j u,s[j]? = some u->w.cell? (a.add j)=some u) (b:∀u∈s,u.oneCell'=true) :
  Calls Tryz.prog 133 #[.slice (some a) n c] w fun e w'=>∃v',e = .returned v'/\w'.ownsRow w.heap.size 178 8 v' n s/\Below w.heap.size w w':=by
 have x:=fun(w:World)=>Lib.run_eql_slice_nil (P:=Tryz.prog) w 180 178 (some a) n c 0 0 OF.1;obtain⟨r,i,z,p,q⟩:=info_parts OF.2.1;have A:Hid (∀j u,s[j]? = some u->w.cell? (a.add j)=some u):=h;clear h;have m:n * 64<=140737488355328:=by omega
 go_enter Tryz.func133, Tryz.ntmps133
 go_wp2_with (at_builtin;refine wpList_append_own _ rfl _ _ 180 rfl w.heap.size 178 r _ 8 64 OF.1 i z p q OF.2.2 (by decide) _ _ _ rfl (World.ownsRow_made w #[] 0 (wC _) (Nat.zero_le _) (by simp)) a n c s rfl ?qc1 ?qc2 ?qc3 ?qc4 ?qc5 ?qc6 ?_)
 case qc1=>exact l
 case qc2=>
  intro j u d;exact Lib.cell?_alloc_some _ (A.out j u d)
 case qc3=>exact b
 case qc4=>unfold maxLen;omega
 case qc5=>rw[Nat.zero_add];exact m
 case qc6=>simp
 intro v' y o g v;go_wp2;go_ret;refine⟨v',rfl,by simpa using o,?_⟩;exact((wB _ w).alloc (wC _) _).grown g (by simp) (by intro k f;simp[Value.ownBlock] at f;omega)
theorem gE {w:World}(n c:Nat):Calls Tryz.prog 133 #[.slice none n c] w fun e w'=>e = .returned (.slice none 0 0)/\w'=w:=by
 have q:=fun(w:World)=>Lib.run_eql_slice_nil (P:=Tryz.prog) w 180 178 none n c 0 0 OF.1;go_enter Tryz.func133, Tryz.ntmps133
 go_wp2;go_ret;exact⟨rfl,rfl⟩
theorem gD {w:World}{v:Value}{xs:Jb}(h:KS 8 w v xs) (q:xs.length<=1000000) :
  Calls Tryz.prog 133 #[v] w fun e w'=>∃u,e = .returned u/\AA 178 8 EI w' w.heap.size u xs.length xs/\Below w.heap.size w w':=by
 obtain⟨a,c,b,t,rfl,g,k,_⟩:=h;have l:=KS.lens k;cases a with
 | none=>
  have n:xs.length=0:=by
   rcases Nat.eq_zero_or_pos xs.length with d|d
   ·exact d
   ·cases g d
  obtain rfl:=List.length_eq_zero_iff.1 n;refine(gE 0 c).mono ?_;rintro e w' ⟨rfl,rfl⟩;exact⟨_,rfl,AA.nil _ _,wB _ _⟩
 | some m=>
  refine(gC m xs.length c (xs.flatten.map (Value.int .i64)) (by rw[List.length_map,LV l]) q ?_ ?_).mono ?_
  ·intro j u f
   have s:0 < xs.length:=by
    rcases Nat.eq_zero_or_pos xs.length with d|d
    ·rw[List.length_eq_zero_iff.1 d] at f;simp at f
    ·exact d
   have:=g s
   injection this with this;subst this;rw[Addr.add_lit];exact KS.flat k j u f
  ·intro u r;obtain⟨i,_,rfl⟩:=List.mem_map.1 r;rfl
  ·rintro e w' ⟨u,rfl,o,p⟩;exact⟨u,rfl,AA.ofFlat o l rfl,p⟩
theorem gF {w:World}(a:Addr) (n c:Nat) (s:List Value) (l:s.length=n * 7) (t:n<=1000000) (h:∀j u,s[j]? = some u->w.cell? (a.add j)=some u) (b:∀u∈s,u.oneCell'=true) :
  Calls Tryz.prog 76 #[.slice (some a) n c] w fun e w'=>∃v',e = .returned v'/\w'.ownsRow w.heap.size 148 7 v' n s/\Below w.heap.size w w':=by
 have x:=fun(w:World)=>Lib.run_eql_slice_nil (P:=Tryz.prog) w 77 148 (some a) n c 0 0 JX.1;obtain⟨r,i,z,p,q⟩:=info_parts JX.2.1;have A:Hid (∀j u,s[j]? = some u->w.cell? (a.add j)=some u):=h;clear h;have m:n * 56<=140737488355328:=by omega
 go_enter Tryz.func76, Tryz.ntmps76
 go_wp2_with (at_builtin;refine wpList_append_own _ rfl _ _ 77 rfl w.heap.size 148 r _ 7 56 JX.1 i z p q JX.2.2 (by decide) _ _ _ rfl (World.ownsRow_made w #[] 0 (wC _) (Nat.zero_le _) (by simp)) a n c s rfl ?qc1 ?qc2 ?qc3 ?qc4 ?qc5 ?qc6 ?_)
 case qc1=>exact l
 case qc2=>
  intro j u d;exact Lib.cell?_alloc_some _ (A.out j u d)
 case qc3=>exact b
 case qc4=>unfold maxLen;omega
 case qc5=>rw[Nat.zero_add];exact m
 case qc6=>simp
 intro v' y o g v;go_wp2;go_ret;refine⟨v',rfl,by simpa using o,?_⟩;exact((wB _ w).alloc (wC _) _).grown g (by simp) (by intro k f;simp[Value.ownBlock] at f;omega)
theorem gG {w:World}(n c:Nat):Calls Tryz.prog 76 #[.slice none n c] w fun e w'=>e = .returned (.slice none 0 0)/\w'=w:=by
 have q:=fun(w:World)=>Lib.run_eql_slice_nil (P:=Tryz.prog) w 77 148 none n c 0 0 JX.1;go_enter Tryz.func76, Tryz.ntmps76
 go_wp2;go_ret;exact⟨rfl,rfl⟩
theorem WT {w:World}{v:Value}{xs:Jb}(h:KS 7 w v xs) (q:xs.length<=1000000) :
  Calls Tryz.prog 76 #[v] w fun e w'=>∃u,e = .returned u/\AA 148 7 EI w' w.heap.size u xs.length xs/\Below w.heap.size w w':=by
 obtain⟨a,c,b,t,rfl,g,k,_⟩:=h;have l:=KS.lens k;cases a with
 | none=>
  have n:xs.length=0:=by
   rcases Nat.eq_zero_or_pos xs.length with d|d
   ·exact d
   ·cases g d
  obtain rfl:=List.length_eq_zero_iff.1 n;refine(gG 0 c).mono ?_;rintro e w' ⟨rfl,rfl⟩;exact⟨_,rfl,AA.nil _ _,wB _ _⟩
 | some m=>
  refine(gF m xs.length c (xs.flatten.map (Value.int .i64)) (by rw[List.length_map,LV l]) q ?_ ?_).mono ?_
  ·intro j u f
   have s:0 < xs.length:=by
    rcases Nat.eq_zero_or_pos xs.length with d|d
    ·rw[List.length_eq_zero_iff.1 d] at f;simp at f
    ·exact d
   have:=g s
   injection this with this;subst this;rw[Addr.add_lit];exact KS.flat k j u f
  ·intro u r;obtain⟨i,_,rfl⟩:=List.mem_map.1 r;rfl
  ·rintro e w' ⟨u,rfl,o,p⟩;exact⟨u,rfl,AA.ofFlat o l rfl,p⟩
end Go.Proofs.YtcnedkkcgdkioaaGreat
namespace Go.Proofs.YtcnedkkcgdkioaaGreat
open Go.RowKit Go.ChangeMaps Go.MapKept
theorem AA.intCells {E:TypeId}{k:Nat}{w:World}{B g n cap:Nat}{xs:Jb}(h:AA E k EI w B (.slice (some ⟨g,0,none⟩) n cap) n xs) {j:Nat}(f:j < n):(xs.getD j []).length=k/\CI w g (j * k) (xs.getD j []):=by
 have l:=h.length;obtain⟨s,d,a,e⟩:=h.cells (x:=xs.getD j []) (j:=j) (by rw[AK (by omega)];exact List.getElem?_eq_some_iff.2 ⟨by omega,rfl⟩);have a:s=(xs.getD j []).map (Value.int .i64):=a;have b:=d;rw[a,List.length_map] at b;refine⟨b,fun i c=>e i _ ?_⟩;rw[a,List.getElem?_map,List.getElem?_eq_some_iff.2 ⟨c,rfl⟩,AK c];rfl
theorem AA.ks {E:TypeId}{k:Nat}{w:World}{B n:Nat}{v:Value}{xs:Jb}(h:AA E k EI w B v n xs) (e:n<=2199023255552):KS k w v xs:=by
 obtain rfl:=h.length;rcases Nat.eq_zero_or_pos xs.length with b|b
 ·obtain⟨a,c,rfl⟩:=h.shape;obtain rfl:=List.length_eq_zero_iff.1 b;exact KS.nil k w a c
 ·obtain⟨g,p,rfl,_⟩:=h.form b;refine⟨_,p,g,0,rfl,fun _=>rfl,fun j d=>?_,e⟩;rw[Nat.zero_add];exact h.intCells d
def PF (w:World) (cs:List Value) (x:Jb):Prop:=∃u,cs = [u]/\AA 178 8 EI w 0 u x.length x
theorem PF.stab {E:TypeId}(h:178 ≠ E):CP E PF:=fun _ _ _ _ ⟨u,a,b⟩ x=>⟨u,a,b.other (EI.stab _) h x⟩
theorem AE.setCell {E:TypeId}{w:World}{p:Addr}{cs:Array Value}(h:w.heap[p.block]? = some (.cells cs E)) (v:Value):AE E w (w.setCell p v):=fun k c t a b=>by
 refine Below.heap_setCell _ _ _ _ fun e=>?_;subst e;rw[h] at a;injection a with a;injection a with _ a;exact b a.symm
theorem nC {ss:Jc}{m:Jb}(h:m∈ss):m.length<=CA ss:=by
 obtain⟨a,b,rfl⟩:=List.append_of_mem h;rw[QJ,show m::b = [m]++b from rfl,QJ];have:CA [m]=m.length:=by simp[CA]
 omega
open Go.RowKit Go.ChangeMaps Go.MapKept
theorem BG {w:World}{b:Nat}{cs:Array Value}{t:TypeId}(h:w.heap[b]? = some (.cells cs t)) (j:Nat):w.frozen? ⟨b,j,none⟩=false:=by simp[World.frozen?,h]
end Go.Proofs.YtcnedkkcgdkioaaGreat
namespace Go.Proofs.YtcnedkkcgdkioaaGreat
open Go.RowKit
theorem GA {α:Type}{xs ys:List α}{i:Nat}(h:xs.take i=ys.take i) (x:i < xs.length) (y:i < ys.length) {d:α}(e:xs.getD i d=ys.getD i d):xs.take (i+1)=ys.take (i+1):=by
 rw[BY x d,BY y d,h,e]
theorem FZ {α:Type}{xs ys:List α}{i:Nat}(h:xs.take i=ys.take i) (x:i=xs.length) (y:i=ys.length):xs=ys:=by
 have a:xs.take i=xs:=List.take_of_length_le (by omega);have b:ys.take i=ys:=List.take_of_length_le (by omega);rw[<-a,<-b,h]
theorem Qt.step {a b:World}(h:Qt a b) (n:Nat):Qt a (b.drewN n):=h.trans (Qt.mk' b n)
attribute [local go_sem] Oper.semAt_some
def CU:Nat->Jc->List (Nat × List Int)
 | _,[]=>[]
 | s,l::r=>l.map (fun m=>(s,m))++CU (s+1) r
def OQ (x:Nat × List Int):Array Value:=#[.int .i64 (x.1:Int),.agg (x.2.map (Value.int .i64)).toArray]
def QN (L p:List (Nat × List Int)) (x:Nat × List Int) (_:World):Prop:=∃r,p++x::r=L
theorem nN {ss:Jc}{k:Nat}(h:k < ss.length) {s:Jb}(a:ss.getD k []=s):CU k (ss.drop k)=(s.drop 0).map (fun m=>(k,m))++CU (k+1) (ss.drop (k+1)):=by
 rw[OC h [],a,CU,List.drop_zero]
theorem nM {s:Jb}{i k:Nat}(h:i < s.length) {m:List Int}(a:s.getD i []=m):(s.drop i).map (fun m=>(k,m))=(k,m)::(s.drop (i+1)).map (fun m=>(k,m)):=by
 rw[OC h [],a,List.map_cons]
theorem TN {w w0:World}{sv:Value}{ss:Jc}{x:Nat}(hK:BT 8 w sv ss) (Q:Below w.heap.size w w0) (d0:w0.cell? ⟨x,1,none⟩=some sv) :
  RN Tryz.prog 247 #[.pointer (some ⟨x,0,none⟩)] OQ (QN (CU 0 ss)) (fun xs=>xs=CU 0 ss) (fun _=>True) (CU 0 ss).length (fun k=>k=x\/k < w.heap.size) w0:=by
 intro f6 J Jx D W P b8 K E N Y h0;have g4 : ¬D x:=fun h=>K _ h (.inl rfl);have b6:∀k,k < w.heap.size->¬D k:=fun k hk h=>K _ h (.inr hk);have d1:=AC P d0;have b:Below w.heap.size w W:=bt Q P Q.size;obtain⟨sa,sc,sb,so,rfl,f5,a0,g7⟩:=hK;clear K d0 P Q;replace E:=qH E;replace N:=qH N;replace Y:=qH Y;show CallsIn Fence.wide 0 Tryz.prog 247 #[.func (.yield f6) #[] #[],.pointer (some ⟨x,0,none⟩)] W _;refine callsIn_of_wp Tryz.func247 rfl trivial ?_
 simp only[Tryz.ntmps247,List.size_toArray,List.length_cons,List.length_nil,Nat.reduceAdd,Nat.reduceSub,Array.replicate_succ,
   Array.replicate_zero,List.push_toArray,List.append_toArray,List.nil_append,List.cons_append]
 gi_wp2;have F:AV D W W:=AV.refl _ _;have c0:Gr D W D:=Gr.refl _ _;replace a0:=qH a0;replace d1:=qH d1;obtain⟨L,g⟩:=AB (CU 0 ss);rw[g] at Y;have c8:Hid ([]++CU 0 (ss.drop 0)=L):=by show _=_;rw[List.drop_zero,List.nil_append];exact g
 replace g:=qH g;obtain⟨wo,o⟩:=AF (W);have b5:J [] D wo:=by rw[o];exact h0
 have b9:Bd D wo:=by rw[o];exact b8
 have F:AV D W wo:=by rw[o];exact F
 rw[<-o];clear o h0 b8;gi_loopw [10] (fun kv wr=>∃(k:Nat) (r:List (Nat × List Int)) (a:Nat->Prop),kv = .int .i64 k/\k<=ss.length/\J r a wr/\Bd a wr/\AV D W wr/\Gr D W a/\Hid (r++CU k (ss.drop k)=L)) (fun kv _=>ss.length - (intOf kv).toNat)
 case atStart=>exact⟨0,[],D,rfl,by omega,b5,b9,F,c0,c8⟩
 case round=>
  clear b5 b9 F c0 c8;obtain⟨k,r,a,rfl,hk,f,B,O,G,c⟩:=hrel;by_cases T:k < ss.length
  ·obtain rfl:=f5 (by omega);obtain⟨f7,S,hu⟩:=a0.out k T;have d4:=World.block_lt_of_cell? w _ S;have f2:wr.cell? ⟨sb,so+k,none⟩=some f7:=O.cell (p:=⟨sb,so+k,none⟩) (b6 _ d4) (AC b S);obtain⟨s,X⟩:=AB (ss.getD k []);rw[X] at hu;have e:Hid (r++((s.drop 0).map (fun m=>(k,m))++CU (k+1) (ss.drop (k+1)))=L):=(by show _=_;rw[<-nN T X];exact c);obtain⟨ma,mc,d,mo,rfl,f3,V,g6⟩:=hu;clear c X S d4;replace V:=qH V;gi_wp2;gi_loopw [17] (fun iv wr=>∃(i:Nat) (r:List (Nat × List Int)) (a:Nat->Prop),iv = .int .i64 i/\i<=s.length/\J r a wr/\Bd a wr/\AV D W wr/\Gr D W a/\Hid (r++((s.drop i).map (fun m=>(k,m))++CU (k+1) (ss.drop (k+1)))=L)) (fun iv _=>s.length - (intOf iv).toNat)
   case atStart=>exact⟨0,r,a,rfl,by omega,f,B,O,G,e⟩
   case round=>
    clear e f B O G f2;obtain⟨i,r,a,rfl,hi,f,B,O,G,c⟩:=hrel;by_cases U:i < s.length
    ·obtain rfl:=f3 (by omega);obtain⟨a2,a3⟩:=V.out i U;obtain⟨f8,hx⟩:=AB (s.getD i []);have e:Hid (r++((k,f8)::((s.drop (i+1)).map (fun m=>(k,m))++CU (k+1) (ss.drop (k+1))))=L):=(by show _=_;rw[<-List.cons_append,<-nM U hx];exact c);rw[hx] at a2 a3;obtain⟨y,l,t,u,v,z,A,C,rfl⟩:=CT a2;obtain⟨I,c1,c2,c3,c4,c5,c6,c7⟩:=a3.all8;have n : ¬D d:=b6 _ (World.block_lt_of_cell? w _ I);have e0:=O.cell (p:=⟨d,_,none⟩) n (AC b I);have e1:=O.cell (p:=⟨d,_,none⟩) n (AC b c1);have e2:=O.cell (p:=⟨d,_,none⟩) n (AC b c2);have e3:=O.cell (p:=⟨d,_,none⟩) n (AC b c3);have e4:=O.cell (p:=⟨d,_,none⟩) n (AC b c4);have e5:=O.cell (p:=⟨d,_,none⟩) n (AC b c5);have e6:=O.cell (p:=⟨d,_,none⟩) n (AC b c6);have e7:=O.cell (p:=⟨d,_,none⟩) n (AC b c7);clear I c1 c2 c3 c4 c5 c6 c7 a3 a2 hx c;have H:=(wB wr.heap.size wr).alloc (wC _) (.cells #[.int .i64 y,.int .i64 l,.int .i64 t,.int .i64 u,.int .i64 v,.int .i64 z,.int .i64 A,.int .i64 C] 178);have j:=O.thenBelow (H.mono (by have:=O.size;omega));have e8:Bd a (wr.alloc (.cells #[.int .i64 y,.int .i64 l,.int .i64 t,.int .i64 u,.int .i64 v,.int .i64 z,.int .i64 A,.int .i64 C] 178)):=fun q Z=>Nat.lt_of_lt_of_le (B q Z) H.size;have e':=E.out _ _ _ _ f H.size (fun q Z=>H.block q (B q Z));have d3:r.length < L.length:=(by rw[<-e.out];simp);have c':QN L r (k,[y,l,t,u,v,z,A,C]) (wr.alloc (.cells #[.int .i64 y,.int .i64 l,.int .i64 t,.int .i64 u,.int .i64 v,.int .i64 z,.int .i64 A,.int .i64 C] 178)):=⟨_,e.out⟩;obtain⟨fn,h3,g0,g1,hy,R⟩:=Y.out r (k,[y,l,t,u,v,z,A,C]) a _ e' e8 j G c' d3;simp only[OQ,List.map] at hy R;replace R:=qH R;clear f d3 c' B;gi_wp2;refine⟨rfl,R.out.mono ?_⟩;rintro g2 W' ⟨D',c9,b',b7,(⟨rfl,M⟩|⟨rfl,M⟩)⟩
     ·clear e0 e1 e2 e3 e4 e5 e6 e7 hy R;have f1:=j.trans c9 G;have e9:=G.trans b' j.size;gi_wp2;go_roundw
      case rel=>exact⟨i+1,_,D',by go_num,U,M,b7,f1,e9,by show _=_;rw[List.append_assoc];exact e.out⟩
      case measure=>simp[intOf];omega
     ·gi_wp2;refine bodyPost_ret (results_none rfl _ _ _) rfl ?_;exact⟨⟨_,rfl⟩,D',j.trans c9 G,G.trans b' j.size,b7,.inr ⟨_,trivial,M⟩⟩
    ·obtain rfl:i=s.length:=(by omega);have e:Hid (r++CU (k+1) (ss.drop (k+1))=L):=(by show _=_;rw[<-c.out,List.drop_length];rfl);clear c;gi_wp2;go_roundw
     case rel=>exact⟨k+1,r,a,by go_num,T,f,B,O,G,e⟩
     case measure=>simp[intOf];omega
  ·obtain rfl:k=ss.length:=(by omega);have d5:r=L:=(by rw[<-c.out,List.drop_length,CU,List.append_nil]);have f4:=qH (d5.trans g.out.symm);clear E N Y d5 c g;gi_wp2;first|refine bodyPost_end (results_none rfl _ _ _) rfl ?_|refine bodyPost_ret (results_none rfl _ _ _) rfl ?_
   exact⟨⟨_,rfl⟩,a,O,G,B,.inl ⟨_,f4.out,f⟩⟩
attribute [local go_sem] Oper.semAt_some
def PB (B:Nat) (D:Nat->Prop) (W:World) (n:Int):Prop:=(∀k,D k↔k=B)/\W.heap[B]? = some (.cells #[.int .i64 n] 3 (0,0))
theorem PB.stable {α:Type}(B:Nat) (f:List α->Int):GX (fun p D W=>PB B D W (f p)):=fun _ _ _ _ h _ k=>⟨h.1,(k B ((h.1 B).2 rfl)).trans h.2⟩
theorem aH:∀(ss:Jc) (k:Nat),(CU k ss).length=CA ss
 | [],_=>rfl
 | l::r,k=>by rw[CU,List.length_append,List.length_map,aH r];rfl
theorem TM {L:List (Nat × List Int)}(p:List (Nat × List Int)) (x:Nat × List Int) (W:World) (k:Nat) (r:Loop) (o:Obj) (h:QN L p x W) (_:W.heap[k]? = some (.loop r)):QN L p x (W.putObj k o):=h
def IS (ss:Jc):Int:=if ss.length < 1\/256 < ss.length\/4096 < CA ss then 5 else 0
theorem TL (n:Int) (s:Option Addr) (l c:Nat) (w:World):Calls Tryz.prog 219 #[.agg #[.int .i64 n,.slice s l c]] w fun e w'=>
  e = .returned (.func (.func 247) #[] #[.pointer (some ⟨w.heap.size,0,none⟩)])/\w'=w.alloc (.cells #[.int .i64 n,.slice s l c] 27):=by
 go_enter Tryz.func219, Tryz.ntmps219
 go_wp2;go_ret;exact⟨rfl,rfl⟩
theorem tP {w:World}{v:Value}{n:Int}{ss:Jc}(V:DC w v n ss) (Z:CA ss<=1000000000) :
  Calls Tryz.prog 217 #[v] w fun e w'=>e = .returned (.int .i64 (IS ss))/\Below w.heap.size w w':=by
 obtain⟨sv,rfl,K⟩:=V;obtain⟨s,c,a5⟩:=K.shape;have a4:ss.length<=5864062014805:=by obtain⟨_,_,_,_,_,_,_,h⟩:=K;exact h
 refine callsIn_wide.1 (callsIn_of_wp_marks (n:=0) Tryz.func217 rfl trivial ?_);simp only[Tryz.ntmps217,List.size_toArray,List.length_cons,List.length_nil,Nat.reduceAdd,Nat.reduceSub,Array.replicate_succ,Array.replicate_zero,List.push_toArray,List.append_toArray,List.nil_append,List.cons_append];subst a5;refine wpIn_wide.2 ?_;go_wp2_with (go_at_call 219;refine(TL _ _ _ _ _).mono ?_;rintro e w2 ⟨rfl,rfl⟩)
 obtain⟨wL,L⟩:=AF (((w.alloc (.cells #[.int .i64 n,.slice s ss.length c] 27)).alloc (.cells #[.int .i64 0] 3)).alloc (.cells #[.int .i64 n,.slice s ss.length c] 27));obtain⟨N,a⟩:=AF (w.heap.size);have b4:wL.heap.size=N+3:=by rw[L,a];simp
 have g:Below w.heap.size w wL:=by rw[L];exact(((wB _ w).alloc (wC _) _).alloc (by simp) _).alloc (by simp;omega) _
 have B:wL.heap[N]? = some (.cells #[.int .i64 n,.slice s ss.length c] 27):=by
  rw[L,a];exact(Below.heap_alloc _ _ _ (by simp;omega)).trans ((Below.heap_alloc _ _ _ (by simp)).trans (World.alloc_heap_new w _))
 have l:wL.heap[N+1]? = some (.cells #[.int .i64 0] 3 (0,0)):=by
  rw[L,a];refine(Below.heap_alloc _ _ _ (by simp)).trans ?_;have:=World.alloc_heap_new (w.alloc (.cells #[.int .i64 n,.slice s ss.length c] 27)) (.cells #[.int .i64 0] 3)
  rwa [World.size_alloc] at this
 have m:wL.heap[N+2]? = some (.cells #[.int .i64 n,.slice s ss.length c] 27):=by
  rw[L,a];have:=World.alloc_heap_new ((w.alloc (.cells #[.int .i64 n,.slice s ss.length c] 27)).alloc (.cells #[.int .i64 0] 3)) (.cells #[.int .i64 n,.slice s ss.length c] 27)
  simpa only [World.size_alloc] using this
 have C:wL.cell? ⟨N+2,1,none⟩=some (.slice s ss.length c):=AO m rfl;rw[<-L,<-a];have a':Below N w wL:=a▸g;have b5:w.heap.size=N:=a.symm;clear L a;have z:=aH ss 0
 refine wpIn_wide.1 (vE (gf:=247) (lb:=#[.pointer (some ⟨N+2,0,none⟩)]) rfl (enters_of Tryz.func247 (by kernel_rfl) rfl) (TN K g C) (wB _ _) (fun _=>rfl) TM
  (fun r D W=>PB (N+1) D W r.length) (fun _ _ _ _=>False) (PB.stable (N+1) (fun r:List (Nat × List Int)=>(r.length:Int))) (fun _ _ _ _ _ h _ _=>h)
  (fun k=>k=N+1) (fun k F=>by rw[F];omega) (fun k F=>by omega) (fun k F=>by omega) ⟨fun _=>Iff.rfl,l⟩
  (fun x=>{ tmps:=#[.agg #[.int .i64 n,.slice s ss.length c],.pointer (some ⟨N,0,none⟩),.int .i64 0,.pointer (some ⟨N+1,0,none⟩),.agg #[.int .i64 n,.slice s ss.length c],.func (.func 247) #[] #[.pointer (some ⟨N+1+1,0,none⟩)],.int .i64 x.1,.agg (x.2.map (Value.int .i64)).toArray,undef,undef,undef,undef,undef,undef,undef,undef,undef,undef,undef,undef,undef,undef,undef,undef],defers:=[] }) ?assign ?body ?done ?stop)
 case assign=>
  intro a7 x W a8 K;unfold OQ;gi_wp2;simp only[List.zip_toArray,List.zip_cons_cons,List.zip_nil_right,List.foldl_toArray,List.foldl_cons,List.foldl_nil,List.setIfInBounds_toArray,List.set_cons_succ,List.set_cons_zero];exact K
 case body=>
  rintro a7 r ⟨b8,b6⟩ D W ⟨t,o⟩ X O G ⟨b7,hr⟩ a1;have A:=wJ o;have b1:=free_of_one o;have a3:=one_setCell (u:=.int .i64 (↑r.length+1)) o;have b2:r.length<=1000000000:=by omega
  clear hr O G l m C B a1 z;gi_wp2;refine⟨D,(AV.refl D W).setCell (p:=⟨N+1,0,none⟩) ((t (N+1)).2 rfl) _,Gr.refl _ _,fun i H=>by have:=X i H;simpa [World.setCell] using this,⟨t,?_⟩⟩;rw[List.length_append,List.length_singleton];exact a3
 case done=>
  intro d xs D W hS Y O G hd b3 j;obtain⟨t,o⟩:=Y;have A:=wJ o;rw[hS,z] at A;have f:Below w.heap.size w (W.putObj d (.deferred none)):=IG (g.trans (O.below g.size (fun i H=>by omega))) (by omega) _;have J:W.heap[N]? = some (.cells #[.int .i64 n,.slice s ss.length c] 27):=(O.same N (by omega) (by omega)).trans B;have k1:W.cell? ⟨N,1,none⟩=some (.slice s ss.length c):=AO J rfl;clear o m l C B J K O G z;obtain⟨M,y⟩:=AB (CA ss);obtain⟨q,I⟩:=AB (ss.length);have b:IS ss=if q < 1\/256 < q\/4096 < M then 5 else 0:=by rw[IS,y,I]
  rw[y] at A Z;rw[I] at k1 a4;replace b:=qH b;replace f:=qH f;clear y;by_cases P:q < 1
  ·have Q:decide ((q:Int) < 1)=true:=vZ (by omega);have E:=qH (show IS ss=5 by rw[b.out,if_pos (.inl P)]);go_wp2;refine⟨by simp,.inl ⟨_,_,rfl,run_takeDeferred j,?_⟩⟩;exact⟨_,results_tmp rfl _ _ _,by rw[E.out];rfl,f.out⟩
  ·have Q:decide ((q:Int) < 1)=false:=vY (by omega);by_cases R:256 < q
   ·have S:decide ((256:Int) < (q:Int))=true:=vZ (by omega);have E:=qH (show IS ss=5 by rw[b.out,if_pos (.inr (.inl R))]);go_wp2;refine⟨by simp,.inl ⟨_,_,rfl,run_takeDeferred j,?_⟩⟩;exact⟨_,results_tmp rfl _ _ _,by rw[E.out];rfl,f.out⟩
   ·have S:decide ((256:Int) < (q:Int))=false:=vY (by omega);by_cases T:4096 < M
    ·have U:decide ((4096:Int) < (M:Int))=true:=vZ (by omega);have E:=qH (show IS ss=5 by rw[b.out,if_pos (.inr (.inr T))]);go_wp2;refine⟨by simp,.inl ⟨_,_,rfl,run_takeDeferred j,?_⟩⟩;exact⟨_,results_tmp rfl _ _ _,by rw[E.out];rfl,f.out⟩
    ·have U:decide ((4096:Int) < (M:Int))=false:=vY (by omega);have E:=qH (show IS ss=0 by rw[b.out,if_neg (by omega)]);go_wp2;refine⟨by simp,.inl ⟨_,_,rfl,run_takeDeferred j,?_⟩⟩;exact⟨_,results_tmp rfl _ _ _,by rw[E.out];rfl,f.out⟩
 case stop=>
  intro d a9 r D W _ h;exact h.elim
theorem eO {P:Program}{α:Type}{g:Operand}{ps:Array Tmp}{assign body:Code}{c1:Exit->Act->World->Prop}{a:Act}{w:World}
  {gf:Nat} {lb:Array Value} (hg:a.eval g = .func (.func gf) #[] lb) (eg:∀args w,(callFunc gf args).run P w = .ok (.enter gf args) w)
  {enc:α->Array Value} {R:List α->α->World->Prop} {S Sp:List α->Prop} {N:Nat} {C:Nat->Prop} {w0:World} (i2:RN P gf lb enc R S Sp N C w0)
  (d2:Below w0.heap.size w0 w) (i1:∀x,(enc x).size=ps.size) (hR:∀i x W k r o,R i x W->W.heap[k]? = some (.loop r)->R i x (W.putObj k o)) (g6:∀i x W o,R i x W->R i x (W.alloc o))
  (I:List α->(Nat->Prop)->World->Prop) (Ix:Code->List α->(Nat->Prop)->World->Prop) (hI:GX I) (b4:∀c,GX (Ix c))
  (q:Nat->Prop) (b2:Bd q w) (hC:∀k,q k->¬C k) (f':Bd C w) (h0:I [] q w) (cs:α->Array Value) (tB:TypeId) (fx:α->Nat->Array Value->Array Value)
  (h1:∀(l:Nat) (i:List α) (x:α) (W:World) (K:Act->World->Prop),R i x W->K { tmps:=fx x W.heap.size a.tmps,defers:=[] } (W.alloc (.cells (cs x) tB))->
   assign.wpIn (Fence.wide.inRound l) 0 P (Exit.then K (fun _ _ _=>False)) { tmps:=(ps.zip (enc x)).foldl (fun t (p,v)=>t.setIfInBounds p v) a.tmps,defers:=[] } W)
  (h2:∀(l:Nat) (i:List α) (x:α) (D:Nat->Prop) (W:World) (b:Nat),I i D W->Bd D W->AV q w W->Gr q w D->R i x W->i.length < N->W.heap[b]? = some (.cells (cs x) tB)->¬D b->w.heap.size<=b->body.wpIn (Fence.wide.inRound l) 0 P (VX I Ix (i ++ [x]) D W) { tmps:=fx x b a.tmps,defers:=[] } W)
  (h5:∀(d:Nat) (xs:List α) (D:Nat->Prop) (W:World),S xs->I xs D W->AV q w W->Gr q w D->w.heap.size<=d->¬D d->W.heap[d]? = some (.deferred (some []))->c1 .normal { a with defers:={ target:=.collected d,args:=#[] }::a.defers } W)
  (i3:∀(d:Nat) (c:Code) (i:List α) (D:Nat->Prop) (W:World),Sp i->Ix c i D W->AV q w W->Gr q w D->w.heap.size<=d->¬D d->W.heap[d]? = some (.deferred (some []))->c.wpIn Fence.wide 0 P c1 { a with defers:={ target:=.collected d,args:=#[] }::a.defers } W) :
  (Code.rangeFunc g ps assign body).wpIn Fence.wide 0 P c1 a w:=by
 refine wpIn_rangeFunc fun c9 _=>?_;obtain⟨d,hd⟩:=AF (w.heap.size);obtain⟨l,hl⟩:=AF (w.heap.size+1);obtain⟨s,T⟩:∃s:LoopState->Option Code->Loop,s=fun st pe=>{ state:=st,pending:=pe,fn:=c9,tmps:=a.tmps,params:=ps,assign:=assign,body:=body,defers:=d }:=⟨_,rfl⟩;obtain⟨y,a'⟩:=AB ((w.alloc (.deferred (some []))).alloc (.loop (s .ready none)));have j0:y.heap.size=w.heap.size+2:=by rw[<-a'];simp
 have d8:∀k,k < w.heap.size->y.heap[k]? = w.heap[k]?:=fun k f=>by
  rw[<-a'];exact(Below.heap_alloc _ _ _ (by simp;omega)).trans (Below.heap_alloc _ _ _ f)
 have h8:y.heap[l]? = some (.loop (s .ready none)):=by
  rw[<-a',hl];have:=World.alloc_heap_new (w.alloc (.deferred (some []))) (.loop (s .ready none));rwa [World.size_alloc] at this
 have h3:y.heap[d]? = some (.deferred (some [])):=by
  rw[<-a',hd];exact(Below.heap_alloc _ _ _ (by simp)).trans (World.alloc_heap_new w _)
 have b0:Below w.heap.size w y:=by rw[<-a'];exact((wB _ _).alloc (wC _) _).alloc (by simp) _
 have g2 : ¬q l:=fun h=>by have:=b2 l h;omega
 have g1 : ¬q d:=fun h=>by have:=b2 d h;omega
 -- what the caller's data and the two blocks of the statement's own are
 let c5:List α->(Nat->Prop)->World->Prop:=fun i D W=>∃E,I i E W/\Bd E W/\Gr q w E/\¬E l/\¬E d/\(∀k,D k↔E k\/k=l\/k=d)/\
  W.heap[l]? = some (.loop (s .ready none))/\W.heap[d]? = some (.deferred (some []))
 let Jx:List α->(Nat->Prop)->World->Prop:=fun i D W=>∃c E,Ix c i E W/\Bd E W/\Gr q w E/\¬E l/\¬E d/\(∀k,D k↔E k\/k=l\/k=d)/\
  W.heap[l]? = some (.loop (s .done (some c)))/\W.heap[d]? = some (.deferred (some []))
 have hJ:GX c5:=by
  rintro i D W W' ⟨E,M,O,J,H,L,n,z,Q⟩ hs f;refine⟨E,hI i E W W' M hs (fun k a7=>f k ((n k).2 (.inl a7))),fun k a7=>Nat.lt_of_lt_of_le (O k a7) hs,J,H,L,n,(f l ((n l).2 (.inr (.inl rfl)))).trans z,(f d ((n d).2 (.inr (.inr rfl)))).trans Q⟩
 have g4:GX Jx:=by
  rintro i D W W' ⟨c,E,M,O,J,H,L,n,z,Q⟩ hs f;refine⟨c,E,b4 c i E W W' M hs (fun k a7=>f k ((n k).2 (.inl a7))),fun k a7=>Nat.lt_of_lt_of_le (O k a7) hs,J,H,L,n,(f l ((n l).2 (.inr (.inl rfl)))).trans z,(f d ((n d).2 (.inr (.inr rfl)))).trans Q⟩
 let D1:Nat->Prop:=fun k=>q k\/k=l\/k=d
 have g0:Bd D1 y:=fun k f=>by
  rcases f with h|rfl|rfl
  ·have:=b2 k h;omega
  ·omega
  ·omega
 have c4:∀ {W:World},AV D1 y W->AV q w W:=fun {W} h=>
  ⟨h.os.trans b0.os,h.tape.trans b0.tape,h.output.trans b0.output,wI b0.size h.size,fun k f hn=>
   (h.same k (by omega) (fun hh=>by rcases hh with hh|rfl|rfl;exact hn hh;omega;omega)).trans (d8 k f)⟩
 refine⟨l,[{ target:=.collected d,args:=#[] }],y,{ target:=.fn (.func gf) lb,args:=#[.func (.yield l) #[] #[]] },y,gf,#[.func (.yield l) #[] #[]]++lb,y,?_,?_,?_,?_,?_,?_⟩
 ·rw[<-a',T,hl,hd];exact run_enterLoop_outer _ _ _ _ _
 ·simp only[resolve,hg];simp[go_sem]
 ·intro i9 i';trivial
 ·simp[invoke,go_sem,eg]
 ·intro h;simp[Fence.wide] at h
 refine(i2 l c5 Jx D1 y (d2.trans (b0.mono d2.size)) g0 ?_ hJ g4 ?_ ?_).mono ?_
 ·intro k f d4;have:=f' k d4
  rcases f with h|rfl|rfl
  ·exact hC k h d4
  ·omega
  ·omega
 ·-- a round
  rintro i x D W ⟨E,M,O,J,H,L,n,z,Q⟩ f2 a9 b' d1 h';have d7:l < W.heap.size:=(wD.1 z).1;have hy:=run_yield (P:=P) (args:=enc x) z (by rw[T];exact i1 x);rw[T] at hy;refine⟨c9,_,assign,body,hy,roundIn_of_wpIn trivial (h1 l i x W _ d1 ⟨_,run_beginRound ((Below.heap_alloc _ _ _ d7).trans z) (by rw[T]),?_⟩)⟩;have f1:(W.alloc (.cells (cs x) tB)).heap[l]? = some (.loop (s .ready none)):=(Below.heap_alloc _ _ _ d7).trans z;obtain⟨W2,a6⟩:∃W2,W2=(W.alloc (.cells (cs x) tB)).putObj l (.loop { s .ready none with state:=.busy }):=⟨_,rfl⟩;have g7:W2.heap[l]? = some (.loop { s .ready none with state:=.busy }):=by rw[a6];exact World.putObj_heap_same (by simp;omega)
  have gO:∀k,k < W.heap.size->k ≠ l->W2.heap[k]? = W.heap[k]?:=fun k h7 f=>by rw[a6];exact(World.putObj_heap_other f).trans (Below.heap_alloc _ _ _ h7)
  have gS:W2.heap.size=W.heap.size+1:=by rw[a6];simp
  have gB:W2.heap[W.heap.size]? = some (.cells (cs x) tB):=by rw[a6];exact(World.putObj_heap_other (by omega)).trans (wE _ _)
  have e0:AV D W W2:=by rw[a6];exact((AV.refl D W).thenBelow ((wB _ _).alloc (wC _) _)).trans (AV.putObj (D:=D) ((n l).2 (.inr (.inl rfl))) _) (Gr.refl _ _)
  have g8:W2.heap[d]? = some (.deferred (some [])):=(gO d (by omega) (by omega)).trans Q;have gI:I i E W2:=hI i E W W2 M (by omega) (fun k f=>gO k (O k f) (fun e=>H (e▸f)));have e8:AV D1 y W2:=a9.trans e0 b';have gR:R i x W2:=by rw[a6];exact hR i x _ l _ _ (g6 _ _ _ _ d1) f1
  rw[<-a6];refine wpIn_mono (h2 l i x E W2 W.heap.size gI (fun k f=>by rw[gS];have:=O k f;omega) (c4 e8) J gR h' gB (fun h=>by have:=O _ h;omega) (by have:=a9.size;omega)) ?_;-- what stands when the body has ended
  have b9:∀(u:Option Code) (m:World) (j:Nat->Prop),AV E W2 m->Gr E W2 j->Bd j m->
    (Instr.endRound l u).run P m = .ok (.bool u.isNone) (m.putObj l (.loop (s (if u.isNone then .ready else .done) u)))/\
    AV D W (m.putObj l (.loop (s (if u.isNone then .ready else .done) u)))/\Gr D W (fun k=>j k\/k=l\/k=d)/\
    Bd (fun k=>j k\/k=l\/k=d) (m.putObj l (.loop (s (if u.isNone then .ready else .done) u)))/\¬j l/\¬j d/\Gr q w j/\
    (m.putObj l (.loop (s (if u.isNone then .ready else .done) u))).heap[l]? = some (.loop (s (if u.isNone then .ready else .done) u))/\
    (m.putObj l (.loop (s (if u.isNone then .ready else .done) u))).heap[d]? = some (.deferred (some []))/\
    (∀k,j k->(m.putObj l (.loop (s (if u.isNone then .ready else .done) u))).heap[k]? = m.heap[k]?):=by
   intro u m j A B U;have h4:d < W2.heap.size:=(by omega);have d6:=(A.same l (by omega) H).trans g7;have h9:l < m.heap.size:=(wD.1 d6).1;have nl : ¬j l:=fun h=>by rcases B l h with G|G;exact H G;omega
   have nd : ¬j d:=fun h=>by rcases B d h with G|G;exact L G;omega
   have V:=run_endRound (P:=P) u d6;refine⟨by rw[T] at V|-;exact V,?_,?_,?_,nl,nd,?_,World.putObj_heap_same h9,(World.putObj_heap_other (by omega)).trans ((A.same d h4 L).trans g8),fun k f=>World.putObj_heap_other (fun e=>nl (e▸f))⟩
   ·have e1:AV D W W2:=e0;have e2:AV D W2 m:=A.mono fun k f=>(n k).2 (.inl f);exact(e1.trans e2 (Gr.refl _ _)).trans (AV.putObj (D:=D) ((n l).2 (.inr (.inl rfl))) _) (Gr.refl _ _)
   ·intro k f;rcases f with h|rfl|rfl
    ·rcases B k h with G|G
     ·exact .inl ((n k).2 (.inl G))
     ·exact .inr (by omega)
    ·exact .inl ((n k).2 (.inr (.inl rfl)))
    ·exact .inl ((n k).2 (.inr (.inr rfl)))
   ·intro k f;rw[World.putObj_size];rcases f with h|rfl|rfl
    ·exact U k h
    ·omega
    ·have:=A.size;omega
   ·intro k f;rcases B k f with G|G
    ·exact J k G
    ·right;have:=a9.size;omega
  rintro e a3 m hp;cases e with
  | normal=>
   obtain⟨j,A,B,U,k4⟩:=hp;obtain⟨X,Z,f3,F,f5,f6,f7,f8,f9,Y⟩:=b9 none m j A B U;exact⟨_,_,X,_,Z,f3,F,.inl ⟨rfl,j,hI _ j m _ k4 (by rw[World.putObj_size];exact wC _) Y,fun k f=>F k (.inl f),f7,f5,f6,fun _=>Iff.rfl,f8,f9⟩⟩
  | ret=>
   obtain⟨j,A,B,U,k4⟩:=hp;obtain⟨X,Z,f3,F,f5,f6,f7,f8,f9,Y⟩:=b9 (some .ret) m j A B U;exact⟨_,_,X,_,Z,f3,F,.inr ⟨rfl,_,j,b4 _ _ j m _ k4 (by rw[World.putObj_size];exact wC _) Y,fun k f=>F k (.inl f),f7,f5,f6,fun _=>Iff.rfl,f8,f9⟩⟩
  | exit id=>
   obtain⟨j,A,B,U,k4⟩:=hp;obtain⟨X,Z,f3,F,f5,f6,f7,f8,f9,Y⟩:=b9 (some (.exit id)) m j A B U;exact⟨_,_,X,_,Z,f3,F,.inr ⟨rfl,_,j,b4 _ _ j m _ k4 (by rw[World.putObj_size];exact wC _) Y,fun k f=>F k (.inl f),f7,f5,f6,fun _=>Iff.rfl,f8,f9⟩⟩
  | goto t=>
   obtain⟨j,A,B,U,k4⟩:=hp;obtain⟨X,Z,f3,F,f5,f6,f7,f8,f9,Y⟩:=b9 (some (.goto t)) m j A B U;exact⟨_,_,X,_,Z,f3,F,.inr ⟨rfl,_,j,b4 _ _ j m _ k4 (by rw[World.putObj_size];exact wC _) Y,fun k f=>F k (.inl f),f7,f5,f6,fun _=>Iff.rfl,f8,f9⟩⟩
  | panic ch=>exact hp.elim
  | outgrown=>exact hp.elim
 ·refine⟨q,hI [] q w y h0 b0.size (fun k f=>d8 k (b2 k f)),fun k f=>by have:=b2 k f;omega,Gr.refl _ _,g2,g1,fun _=>Iff.rfl,h8,h3⟩
 ·-- behind the iterator
  rintro e W2 ⟨⟨v,rfl⟩,D,a9,b',f2,(⟨xs,hS,E,M,O,J,H,L,n,z,Q⟩|⟨i,g',c,E,M,O,J,H,L,n,z,Q⟩)⟩
  ·have V:=run_endLoop (P:=P) z (by rw[T];simp);rw[T] at V;refine⟨none,_,V,h5 d xs E _ hS (hI _ E W2 _ M (by simp) fun k f=>World.putObj_heap_other (fun e=>H (e▸f))) ?_ J (by omega) L ((World.putObj_heap_other (by omega)).trans Q)⟩;exact c4 (a9.trans (AV.putObj (D:=D) ((n l).2 (.inr (.inl rfl))) _) b')
  ·have V:=run_endLoop (P:=P) z (by rw[T];simp);rw[T] at V;refine⟨some c,_,V,i3 d c i E _ g' (b4 c _ E W2 _ M (by simp) fun k f=>World.putObj_heap_other (fun e=>H (e▸f))) ?_ J (by omega) L ((World.putObj_heap_other (by omega)).trans Q)⟩;exact c4 (a9.trans (AV.putObj (D:=D) ((n l).2 (.inr (.inl rfl))) _) b')
end Go.Proofs.YtcnedkkcgdkioaaGreat

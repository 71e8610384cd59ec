/- Texts of this claim, put together: TT UR N0 TR RG. -/
import Derived.Test.YtcnedkkcgdkioaaGreatKAl
import Derived.Deep.OwnRows

set_option maxRecDepth 100000
set_option maxHeartbeats 12800000
namespace Go.Proofs.YtcnedkkcgdkioaaGreat
open Go.RowKit
attribute [local go_sem] Oper.semAt_some
def inR (i m j:Nat):List (Nat × Nat):=(List.range' j (m - j)).map fun q=>(i,q)
def ouR (n m i:Nat):List (Nat × Nat):=(List.range' i (n - i)).flatMap fun p=>inR p m 0
theorem inR_step {i m j:Nat}(h:j < m):inR i m j=(i,j)::inR i m (j+1):=by
 unfold inR;rw[show m - j=(m - (j+1))+1 by omega,List.range'_succ,List.map_cons]
theorem inR_end {i m:Nat}:inR i m m = []:=by unfold inR;rw[Nat.sub_self];rfl
theorem ouR_step {n m i:Nat}(h:i < n):ouR n m i=inR i m 0++ouR n m (i+1):=by
 unfold ouR;rw[show n - i=(n - (i+1))+1 by omega,List.range'_succ,List.flatMap_cons]
theorem ouR_end {n m:Nat}:ouR n m n = []:=by unfold ouR;rw[Nat.sub_self];rfl
def exEnc (fw:Nat→Value) (x:Nat × Nat):Array Value:=#[.int .i64 (x.1:Int),fw x.2]
def exR (L pre:List (Nat × Nat)) (x:Nat × Nat):Prop:=∃r,pre++x::r=L
def exRd (b1 b2 wb wo n m:Nat) (ca:Option Addr) (cc wc:Nat) (fw:Nat→Value) (W:World):Prop:=
 W.cell? ⟨b1,3,none⟩=some (.slice ca n cc)∧W.cell? ⟨b2,0,none⟩=some (.slice (some ⟨wb,wo,none⟩) m wc)∧∀j,j < m→∃a l c,fw j = .slice a l c∧W.cell? ⟨wb,wo+j,none⟩=some (.slice a l c)
theorem exSeq {b1 b2 wb wo n m cc wc:Nat}{ca:Option Addr}{fw:Nat→Value}(hn:n≤100000) (hm:m≤10000000) :
  SeqN Tryz.prog 134 #[.pointer (some ⟨b1,0,none⟩),.pointer (some ⟨b2,0,none⟩)] (exEnc fw) (exR (ouR n m 0)) (fun xs=>xs=ouR n m 0) (exRd b1 b2 wb wo n m ca cc wc fw):=by
 intro l J Jx W hRd hY h0;replace hRd:=qH hRd;replace hY:=qH hY;show CallsIn Fence.wide 0 Tryz.prog 134 #[.func (.yield l) #[] #[],.pointer (some ⟨b1,0,none⟩),.pointer (some ⟨b2,0,none⟩)] W _;refine callsIn_of_wp Tryz.func134 rfl trivial ?_
 simp only[Tryz.ntmps134,List.size_toArray,List.length_cons,List.length_nil,Nat.reduceAdd,Nat.reduceSub,Array.replicate_succ,
   Array.replicate_zero,List.push_toArray,List.append_toArray,List.nil_append,List.cons_append]
 obtain⟨r0,r1,r2⟩:=hRd.out _ _ h0;obtain⟨L,hL⟩:=exE (ouR n m 0);rw[hL] at hY⊢;have hL0:Hid ([]++ouR n m 0=L):=by show _=_;rw[List.nil_append];exact hL
 clear hL;gi_wp2;obtain⟨wo',hwo⟩:∃wo,wo=W:=⟨_,rfl⟩;have h00:J [] wo':=by rw[hwo];exact h0
 rw[←hwo];clear hwo h0 r0 r1 r2;gi_loopw [11] (fun kv wr=>∃(k:Nat) (pre:List (Nat × Nat)),kv = .int .i64 k∧k≤n∧J pre wr∧Hid (pre++ouR n m k=L)) (fun kv _=>n - (intOf kv).toNat)
 case atStart=>exact⟨0,[],rfl,by omega,h00,hL0⟩
 case round=>
  clear h00 hL0;obtain⟨k,pre,rfl,hk,hJk,hp⟩:=hrel;by_cases hlt:k < n
  ·obtain⟨r0,r1,r2⟩:=hRd.out _ _ hJk;have hp1:Hid (pre++(inR k m 0++ouR n m (k+1))=L):=(by show _=_;rw[←ouR_step hlt];exact hp);clear hp;gi_wp2;gi_loopw [16] (fun iv wr=>∃(i:Nat) (pre:List (Nat × Nat)),iv = .int .i64 i∧i≤m∧J pre wr∧Hid (pre++(inR k m i++ouR n m (k+1))=L)) (fun iv _=>m - (intOf iv).toNat)
   case atStart=>exact⟨0,pre,rfl,by omega,hJk,hp1⟩
   case round=>
    clear hp1 hJk r0 r1 r2;obtain⟨i,pre,rfl,hi,hJk,hp⟩:=hrel;by_cases hlti:i < m
    ·obtain⟨r0,r1,r2⟩:=hRd.out _ _ hJk;have hp1:Hid (pre++((k,i)::(inR k m (i+1)++ouR n m (k+1)))=L):=(by show _=_;rw[←List.cons_append,←inR_step hlti];exact hp);obtain⟨sa,sl,sc,hfw,c0⟩:=r2 i hlti;have hRx:exR L pre (k,i):=⟨_,hp1.out⟩;obtain⟨fn,tmps,assign,body,hy,hR⟩:=hY.out pre (k,i) _ hJk hRx;simp only[exEnc,hfw] at hy hR;replace hR:=qH hR;clear hJk hRx hp r2 hfw;gi_wp2;refine⟨rfl,hR.out.mono ?_⟩;rintro e W' (⟨rfl,hJ'⟩|⟨rfl,hJ'⟩)
     ·clear hy hR c0 r0 r1;gi_wp2;go_roundw
      case rel=>exact⟨i+1,_,by go_num,hlti,hJ',by show _=_;rw[List.append_assoc];exact hp1.out⟩
      case measure=>simp[intOf];omega
     ·gi_wp2;refine bodyPost_ret (results_none rfl _ _ _) rfl ?_;exact⟨⟨_,rfl⟩,.inr ⟨_,hJ'⟩⟩
    ·obtain rfl:i=m:=(by omega);have hp1:Hid (pre++ouR n i (k+1)=L):=(by show _=_;rw[←hp.out,inR_end];rfl);clear hp;gi_wp2;go_roundw
     case rel=>exact⟨k+1,pre,by go_num,hlt,hJk,hp1⟩
     case measure=>simp[intOf];omega
  ·obtain rfl:k=n:=(by omega);have hpe:pre=L:=(by rw[←hp.out,ouR_end,List.append_nil]);replace hpe:=qH hpe;clear hY hp;gi_wp2;first|refine bodyPost_end (results_none rfl _ _ _) rfl ?_|refine bodyPost_ret (results_none rfl _ _ _) rfl ?_
   exact⟨⟨_,rfl⟩,.inl ⟨_,hpe.out,hJk⟩⟩
theorem executionsC {w:World}{n i o an r:Int}{a a' wa:Option Addr}{cn c sn c' wn wc:Nat} :
  Calls Tryz.prog 75 #[.agg #[.int .i64 n,.int .i64 i,.int .i64 o,.slice a cn c,.int .i64 an,.slice a' sn c',.int .i64 r],.slice wa wn wc] w fun e w'=>e = .returned (.func (.func 134) #[] #[.pointer (some ⟨w.heap.size,0,none⟩),.pointer (some ⟨w.heap.size+1,0,none⟩)])∧w'=(w.alloc (.cells #[.int .i64 n,.int .i64 i,.int .i64 o,.slice a cn c,.int .i64 an,.slice a' sn c',.int .i64 r] 29)).alloc (.cells #[.slice wa wn wc] 133):=by
 go_enter Tryz.func75, Tryz.ntmps75
 go_wp2;go_ret;exact⟨rfl,rfl⟩
theorem exeL_snoc (n:Nat):∀(l:List (Int × List Int × List (List Int))) (vs:List (List Int)) (c:Int) (xs:List Int) (wd:List (List Int)),
  exeL n vs (l ++ [(c,xs,wd)])=((plN n xs wd (exeL n vs l).1 wd.length).1,(exeL n vs l).2 ++ [(c,wd,(plN n xs wd (exeL n vs l).1 wd.length).2)])
 | [],vs,c,xs,wd=>rfl
 | (c',xs',wd')::l,vs,c,xs,wd=>by
  rw[List.cons_append,exeL,exeL_snoc n l,exeL];rfl
theorem exeL_len (n:Nat):∀(l:List (Int × List Int × List (List Int))) (vs:List (List Int)),(exeL n vs l).2.length=l.length
 | [],_=>rfl
 | (_,_,_)::l,vs=>by rw[exeL,List.length_cons,exeL_len n l,List.length_cons]
theorem exeL_le (n:Nat) {K:Nat}:∀(l:List (Int × List Int × List (List Int))) (vs:List (List Int)),(∀x∈l,x.2.2.length≤K)→(exeL n vs l).1.length≤vs.length+l.length * (n * (K+1))
 | [],vs,_=>by simp[exeL]
 | (c,xs,wd)::l,vs,h=>by
  rw[exeL];have h1:=exeL_le n l (plN n xs wd vs wd.length).1 fun x hx=>h x (List.mem_cons_of_mem _ hx);have h2:=plN_le n xs wd vs wd.length;have h4:wd.length≤K:=h (c,xs,wd) List.mem_cons_self;have h3:n * (wd.length+1)≤n * (K+1):=Nat.mul_le_mul_left _ (by omega);rw[List.length_cons,Nat.succ_mul];show(exeL n _ l).1.length≤_
  omega
def prD (cs:List Cs) (ws:List (List (List Int))) (x:Nat × Nat):Int × List Int × List (List Int):=((x.1:Int),(cs.getD x.1 csNil).1,ws.getD x.2 [])
theorem inR_map {cs:List Cs}{ws:List (List (List Int))}(i:Nat):(inR i ws.length 0).map (prD cs ws)=ws.map fun w=>((i:Int),(cs.getD i csNil).1,w):=by
 unfold inR;refine List.ext_getElem (by simp) fun k h1 h2=>?_;have hk:k < ws.length:=by simpa using h2
 simp[prD,List.getD_eq_getElem?_getD,List.getElem?_eq_getElem hk]
theorem ouR_map {cs:List Cs}{ws:List (List (List Int))}:(ouR cs.length ws.length 0).map (prD cs ws)=pairsP cs ws:=by
 have hz:cs.zipIdx=(List.range' 0 (cs.length - 0)).map fun p=>(cs.getD p csNil,p):=by
  refine List.ext_getElem (by simp) fun k h1 h2=>?_;have hk:k < cs.length:=by simpa using h1
  simp[List.getD_eq_getElem?_getD,List.getElem?_eq_getElem hk]
 unfold ouR pairsP;rw[hz,List.map_flatMap,List.flatMap_map];congr 1
 funext p
 rw[inR_map]
theorem pairsP_len {cs:List Cs}{ws:List (List (List Int))}:(pairsP cs ws).length=cs.length * ws.length:=by
 unfold pairsP;rw[List.length_flatMap]
 have:(cs.zipIdx.map fun c=>(ws.map fun w=>((c.2:Int),c.1.1,w)).length)=List.replicate cs.length ws.length:=by
  refine List.ext_getElem (by simp) fun k h1 h2=>by simp
 rw[this,List.sum_replicate_nat]
theorem ouR_prefix {n m:Nat}{pre:List (Nat × Nat)}{x:Nat × Nat}{r:List (Nat × Nat)}(h:pre++x::r=ouR n m 0):x.1 < n∧x.2 < m:=by
 have:x∈ouR n m 0:=by rw[←h];simp
 unfold ouR at this;obtain⟨p,hp,hx⟩:=List.mem_flatMap.1 this;unfold inR at hx;obtain⟨q,hq,rfl⟩:=List.mem_map.1 hx;have h1:=(List.mem_range'_1.1 hp);have h2:=(List.mem_range'_1.1 hq);exact⟨by show p < n;omega,by show q < m;omega⟩
theorem OwX.store1 {α:Type}{E:TypeId}{El:World→List Value→α→Prop}(hS:Stab E El) {w:World}{B g n cap:Nat}{xs:List α}(h:OwX E 1 El w B (.slice (some ⟨g,0,none⟩) n cap) n xs) {j:Nat}(hj:j < n) {u:Value}(hu:u.oneCell'=true) {x:α}(hEl:El w [u] x) :
  OwX E 1 El (w.setCell ⟨g,j,none⟩ u) B (.slice (some ⟨g,0,none⟩) n cap) n (xs.set j x)∧w.grownBy (w.setCell ⟨g,j,none⟩ u) (some g):=by
 obtain⟨vs,h1,h2,h3,h4⟩:=h;obtain⟨k1,k2⟩:=World.ownsRow.stored h1 j u;have hX:=KeepX.grown k2 (ownsRow_ty h1);have hvl:vs.length=n:=by have:=h1.1;simpa using this
 refine⟨⟨vs.set j u,k1,by rw[List.length_set];exact h2,fun y hy=>?_,fun i y hi=>?_⟩,k2⟩
 ·rcases List.mem_or_eq_of_mem_set hy with hy|rfl
  ·exact h3 y hy
  ·exact hu
 ·have hil:i < xs.length:=by
   have:=(List.getElem?_eq_some_iff.1 hi).1
   rwa [List.length_set] at this
  rw[Nat.mul_one]
  have e1:((vs.set j u).drop i).take 1 = [(vs.set j u)[i]'(by rw[List.length_set];omega)]:=by
   rw[List.drop_eq_getElem_cons (by rw[List.length_set];omega),List.take_succ_cons,List.take_zero]
  rw[e1];by_cases e:i=j
  ·subst e;rw[List.getElem?_set_self (by omega)] at hi;injection hi with hi;subst hi;rw[List.getElem_set_self];exact hS _ _ _ _ hEl hX
  ·rw[List.getElem?_set_ne (fun h=>e h.symm)] at hi;rw[List.getElem_set_ne (fun h=>e h.symm)];have h5:=h4 i y hi;rw[Nat.mul_one,List.drop_eq_getElem_cons (by omega),List.take_succ_cons,List.take_zero] at h5;exact hS _ _ _ _ h5 hX
theorem OwX.store3 {α:Type}{E:TypeId}{El:World→List Value→α→Prop}(hS:Stab E El) {w:World}{B g n cap:Nat}{xs:List α}(h:OwX E 3 El w B (.slice (some ⟨g,0,none⟩) n cap) n xs) {j:Nat}(hj:j < n) {u0 u1 u2:Value}(h0:u0.oneCell'=true) (h1:u1.oneCell'=true) (h2:u2.oneCell'=true) {x:α}(hEl:El w [u0,u1,u2] x) :
  OwX E 3 El (((w.setCell ⟨g,j * 3,none⟩ u0).setCell ⟨g,j * 3+1,none⟩ u1).setCell ⟨g,j * 3+2,none⟩ u2) B (.slice (some ⟨g,0,none⟩) n cap) n (xs.set j x)∧KeepX E w (((w.setCell ⟨g,j * 3,none⟩ u0).setCell ⟨g,j * 3+1,none⟩ u1).setCell ⟨g,j * 3+2,none⟩ u2):=by
 obtain⟨vs,k1,k2,k3,k4⟩:=h;obtain⟨a1,b1⟩:=World.ownsRow.stored k1 (j * 3) u0;obtain⟨a2,b2⟩:=World.ownsRow.stored a1 (j * 3+1) u1;obtain⟨a3,b3⟩:=World.ownsRow.stored a2 (j * 3+2) u2;have hX:=((KeepX.grown b1 (ownsRow_ty k1)).trans (KeepX.grown b2 (ownsRow_ty a1))).trans (KeepX.grown b3 (ownsRow_ty a2));have hvl:vs.length=n * 3:=k1.1;refine⟨⟨_,a3,by rw[List.length_set];exact k2,fun y hy=>?_,fun i y hi=>?_⟩,hX⟩
 ·rcases List.mem_or_eq_of_mem_set hy with hy|rfl
  ·rcases List.mem_or_eq_of_mem_set hy with hy|rfl
   ·rcases List.mem_or_eq_of_mem_set hy with hy|rfl
    ·exact k3 y hy
    ·exact h0
   ·exact h1
  ·exact h2
 ·have hil:i < xs.length:=by
   have:=(List.getElem?_eq_some_iff.1 hi).1
   rwa [List.length_set] at this
  have e3:∀(l:List Value),l.length=n * 3→(l.drop (i * 3)).take 3 = [l.getD (i * 3) undef,l.getD (i * 3+1) undef,l.getD (i * 3+2) undef]:=fun l hl=>by
   rw[List.drop_eq_getElem_cons (by omega),List.drop_eq_getElem_cons (by omega),List.drop_eq_getElem_cons (by omega)];simp only[List.take_succ_cons,List.take_zero,List.getD_eq_getElem?_getD];rw[List.getElem?_eq_getElem (by omega),List.getElem?_eq_getElem (by omega),List.getElem?_eq_getElem (by omega)];rfl
  rw[e3 _ (by simp only[List.length_set];exact hvl)];by_cases e:i=j
  ·subst e;rw[List.getElem?_set_self (by omega)] at hi;injection hi with hi;subst hi
   have f0:(((vs.set (i * 3) u0).set (i * 3+1) u1).set (i * 3+2) u2).getD (i * 3) undef=u0:=by
    rw[List.getD_eq_getElem?_getD,List.getElem?_set_ne (by omega),List.getElem?_set_ne (by omega),List.getElem?_set_self (by omega)];rfl
   have f1:(((vs.set (i * 3) u0).set (i * 3+1) u1).set (i * 3+2) u2).getD (i * 3+1) undef=u1:=by
    rw[List.getD_eq_getElem?_getD,List.getElem?_set_ne (by omega),List.getElem?_set_self (by rw[List.length_set];omega)];rfl
   have f2:(((vs.set (i * 3) u0).set (i * 3+1) u1).set (i * 3+2) u2).getD (i * 3+2) undef=u2:=by
    rw[List.getD_eq_getElem?_getD,List.getElem?_set_self (by rw[List.length_set,List.length_set];omega)];rfl
   rw[f0,f1,f2];exact hS _ _ _ _ hEl hX
  ·rw[List.getElem?_set_ne (fun h=>e h.symm)] at hi;have h5:=k4 i y hi;rw[e3 _ hvl] at h5
   have g:∀k,k < 3→(((vs.set (j * 3) u0).set (j * 3+1) u1).set (j * 3+2) u2).getD (i * 3+k) undef=vs.getD (i * 3+k) undef:=fun k hk=>by
    rw[List.getD_eq_getElem?_getD,List.getElem?_set_ne (by omega),List.getElem?_set_ne (by omega),List.getElem?_set_ne (by omega),List.getD_eq_getElem?_getD]
   have g0:(((vs.set (j * 3) u0).set (j * 3+1) u1).set (j * 3+2) u2).getD (i * 3) undef=vs.getD (i * 3) undef:=g 0 (by decide);rw[g0,g 1 (by decide),g 2 (by decide)];exact hS _ _ _ _ h5 hX
theorem OwX.pre3 {α:Type}{E:TypeId}{El:World→List Value→α→Prop}{w:World}{B g n cap:Nat}{xs:List α}(h:OwX E 3 El w B (.slice (some ⟨g,0,none⟩) n cap) n xs) {j:Nat}(hj:j < n) (u0 u1:Value) :
  ∃p0 p1 p2,w.cell? ⟨g,j * 3,none⟩=some p0∧(w.setCell ⟨g,j * 3,none⟩ u0).cell? ⟨g,j * 3+1,none⟩=some p1∧((w.setCell ⟨g,j * 3,none⟩ u0).setCell ⟨g,j * 3+1,none⟩ u1).cell? ⟨g,j * 3+2,none⟩=some p2∧
   w.frozen? ⟨g,j * 3,none⟩=false∧(w.setCell ⟨g,j * 3,none⟩ u0).frozen? ⟨g,j * 3+1,none⟩=false∧((w.setCell ⟨g,j * 3,none⟩ u0).setCell ⟨g,j * 3+1,none⟩ u1).frozen? ⟨g,j * 3+2,none⟩=false:=by
 obtain⟨vs,k1,k2,k3,k4⟩:=h;obtain⟨a1,b1⟩:=World.ownsRow.stored k1 (j * 3) u0;obtain⟨a2,b2⟩:=World.ownsRow.stored a1 (j * 3+1) u1;have hvl:vs.length=n * 3:=k1.1;refine⟨vs[j * 3]'(by omega),(vs.set (j * 3) u0)[j * 3+1]'(by rw[List.length_set];omega),((vs.set (j * 3) u0).set (j * 3+1) u1)[j * 3+2]'(by rw[List.length_set,List.length_set];omega),?_,?_,?_,World.ownsRow.frozenAt k1 _,World.ownsRow.frozenAt a1 _,World.ownsRow.frozenAt a2 _⟩
 ·rw[World.ownsRow.cellAt k1 (j * 3) (by omega),List.getElem?_eq_getElem]
 ·rw[World.ownsRow.cellAt a1 (j * 3+1) (by omega),List.getElem?_eq_getElem]
 ·rw[World.ownsRow.cellAt a2 (j * 3+2) (by omega),List.getElem?_eq_getElem]
def ECm (w:World) (cs:List Value):Cs ⊕ List Value→Prop
 | .inl c=>∃u0 u1 u2,cs = [u0,u1,u2]∧OI w 0 u0 c.1.length c.1∧OwX 48 1 EVi w 0 u1 c.2.1.length c.2.1∧OwX 48 1 EVi w 0 u2 c.2.2.length c.2.2
 | .inr l=>cs=l
theorem ECm.stab {E:TypeId}(h1:3 ≠ E) (h2:48 ≠ E):Stab E ECm:=fun w w' cs x h hx=>by
 cases x with
 | inl c=>
  obtain⟨u0,u1,u2,e,a,b,d⟩:=h;exact⟨u0,u1,u2,e,a.other h1 hx,b.other (EVi.stab h1) h2 hx,d.other (EVi.stab h1) h2 hx⟩
 | inr l=>exact h
def EMm (w:World) (cs:List Value):List (List Int) ⊕ List Value→Prop
 | .inl x=>ESt w cs x
 | .inr l=>cs=l
theorem EMm.stab {E:TypeId}(h:178 ≠ E):Stab E EMm:=fun w w' cs x h1 hx=>by
 cases x with
 | inl c=>exact ESt.stab h _ _ _ _ h1 hx
 | inr l=>exact h1
def mixL {α:Type}(d:α) (cs:List α) (f:Nat→List Value) (i:Nat):List (α ⊕ List Value):=(List.range cs.length).map fun j=>if j < i then .inl (cs.getD j d) else .inr (f j)
theorem mixL_len {α:Type}{d:α}{cs:List α}{f:Nat→List Value}{i:Nat}:(mixL d cs f i).length=cs.length:=by simp[mixL]
theorem mixL_at {α:Type}{d:α}{cs:List α}{f:Nat→List Value}{i j:Nat}(h:j < cs.length):(mixL d cs f i)[j]? = some (if j < i then .inl (cs.getD j d) else .inr (f j)):=by
 rw[mixL,List.getElem?_map,List.getElem?_range h];rfl
theorem mixL_set {α:Type}{d:α}{cs:List α}{f:Nat→List Value}{i:Nat}(h:i < cs.length) {x:α}(hx:cs.getD i d=x):(mixL d cs f i).set i (.inl x)=mixL d cs f (i+1):=by
 refine List.ext_getElem? fun j=>?_;by_cases hj:j < cs.length
 ·rw[List.getElem?_set,mixL_at hj,mixL_at hj];by_cases e:i=j
  ·subst e;rw[if_pos rfl,if_pos (by rw[mixL_len];exact h),if_pos (by omega),hx]
  ·rw[if_neg e];by_cases h1:j < i
   ·rw[if_pos h1,if_pos (by omega)]
   ·rw[if_neg h1,if_neg (by omega)]
 ·rw[List.getElem?_eq_none (by rw[List.length_set,mixL_len];omega),List.getElem?_eq_none (by rw[mixL_len];omega)]
theorem mixL_all {α:Type}{d:α}{cs:List α}{f:Nat→List Value}{j:Nat}(h:j < cs.length):(mixL d cs f cs.length)[j]? = some (.inl (cs.getD j d)):=by
 rw[mixL_at h,if_pos h]
def tri3 (f:Nat→Value × Value × Value) (n:Nat):List Value:=(List.range (n * 3)).map fun k=>if k % 3=0 then (f (k / 3)).1 else if k % 3=1 then (f (k / 3)).2.1 else (f (k / 3)).2.2
theorem tri3_len {f:Nat→Value × Value × Value}{n:Nat}:(tri3 f n).length=n * 3:=by simp[tri3]
theorem tri3_at {f:Nat→Value × Value × Value}{n k:Nat}(h:k < n * 3):(tri3 f n)[k]? = some (if k % 3=0 then (f (k / 3)).1 else if k % 3=1 then (f (k / 3)).2.1 else (f (k / 3)).2.2):=by
 rw[tri3,List.getElem?_map,List.getElem?_range h];rfl
theorem tri3_part {f:Nat→Value × Value × Value}{n j:Nat}(h:j < n):((tri3 f n).drop (j * 3)).take 3 = [(f j).1,(f j).2.1,(f j).2.2]:=by
 have hl:=tri3_len (f:=f) (n:=n);have g0:=tri3_at (f:=f) (n:=n) (k:=j * 3) (by omega);have g1:=tri3_at (f:=f) (n:=n) (k:=j * 3+1) (by omega);have g2:=tri3_at (f:=f) (n:=n) (k:=j * 3+2) (by omega);rw[if_pos (by omega),show j * 3 / 3=j by omega,List.getElem?_eq_getElem (by omega)] at g0;rw[if_neg (by omega),if_pos (by omega),show(j * 3+1) / 3=j by omega,List.getElem?_eq_getElem (by omega)] at g1;rw[if_neg (by omega),if_neg (by omega),show(j * 3+2) / 3=j by omega,List.getElem?_eq_getElem (by omega)] at g2;injection g0 with g0;injection g1 with g1;injection g2 with g2;rw[List.drop_eq_getElem_cons (by omega),List.drop_eq_getElem_cons (by omega),List.drop_eq_getElem_cons (by omega),g0,g1,g2];rfl
theorem OI.intsE {w:World}{B:Nat}{v:Value}{n:Nat}{xs:List Int}(h:OI w B v n xs) (hn:n≤17592186044416):Ints w v xs:=by
 obtain rfl:=h.length;rcases h.2 with⟨rfl,h'⟩|⟨g,cap,cur,rfl,h2,h3,h4,h5,h6,h7⟩
 ·obtain rfl:xs = []:=List.length_eq_zero_iff.1 h';exact⟨none,0,0,0,rfl,by simp,by intro j hj;simp at hj,by simp⟩
 ·refine⟨_,cap,g,0,rfl,fun _=>rfl,fun j hj=>?_,hn⟩;rw[Nat.zero_add,cell_of_row w g j cur 3 (0,0) h3];have:(cur.toList.take (xs.length * 1))[j]? = some (Value.int .i64 (xs.getD j 0)):=by rw[h7];simp[hj]
  rw[List.getElem?_take,if_pos (by omega)] at this;simpa using this
theorem OwX.frz {α:Type}{E:TypeId}{k:Nat}{El:World→List Value→α→Prop}{w:World}{B g n cap:Nat}{xs:List α}(h:OwX E k El w B (.slice (some ⟨g,0,none⟩) n cap) n xs) (j:Nat):w.frozen? ⟨g,j,none⟩=false:=by
 obtain⟨_,h1,_⟩:=h;exact World.ownsRow.frozenAt h1 j
theorem OwX.intssE {E:TypeId}{w:World}{B n:Nat}{v:Value}{xs:List (List Int)}(h:OwX E 1 EVi w B v n xs) (hn:n≤100000) (hl:∀x∈xs,x.length≤100000):Intss w v xs:=by
 obtain rfl:=h.length;rcases Nat.eq_zero_or_pos xs.length with h0|h0
 ·obtain⟨a,c,rfl⟩:=h.shape;obtain rfl:=List.length_eq_zero_iff.1 h0;exact⟨a,c,0,0,rfl,by simp,by intro j hj;simp at hj,by simp⟩
 ·obtain⟨g,cap,rfl,_⟩:=h.form h0;refine⟨_,cap,g,0,rfl,fun _=>rfl,fun j hj=>?_,by omega⟩;have hx:xs[j]? = some (xs.getD j []):=by rw[getD_eq hj];exact List.getElem?_eq_some_iff.2 ⟨hj,rfl⟩
  obtain⟨cs,h1,⟨u,h2,h3⟩,h4⟩:=h.cells hx;refine⟨u,?_,OI.intsE h3 (by have:=hl _ (List.mem_of_getElem? hx);omega)⟩;have:=h4 0 u (by rw[h2];rfl)
  rw[Nat.mul_one,Nat.add_zero] at this;rw[Nat.zero_add];exact this
def SmC (c:Cs):Prop:=c.1.length≤100000∧c.2.1.length≤100000∧c.2.2.length≤100000∧(∀x∈c.2.1,x.length≤100000)∧∀x∈c.2.2,x.length≤100000
theorem OwX.css {w:World}{B:Nat}{v:Value}{cs:List Cs}{f:Nat→List Value}(h:OwX 95 3 ECm w B v cs.length (mixL csNil cs f cs.length)) (hn:cs.length≤100000) (hb:∀c∈cs,SmC c):CsS w v cs:=by
 rcases Nat.eq_zero_or_pos cs.length with h0|h0
 ·obtain⟨a,c,rfl⟩:=h.shape;obtain rfl:=List.length_eq_zero_iff.1 h0;exact⟨a,c,0,0,rfl,by simp,by intro j hj;simp at hj,by simp⟩
 ·obtain⟨g,cap,rfl,_⟩:=h.form h0;refine⟨_,cap,g,0,rfl,fun _=>rfl,fun j hj=>?_,by omega⟩;obtain⟨us,h1,⟨u0,u1,u2,e,k0,k1,k2⟩,h4⟩:=h.cells (mixL_all hj);obtain⟨s0,s1,s2,s3,s4⟩:=hb (cs.getD j csNil) (by rw[getD_eq hj];exact List.getElem_mem hj);subst e;refine⟨u0,u1,u2,?_,?_,?_,OI.intsE k0 (by omega),k1.intssE s1 s3,k2.intssE s2 s4⟩
  ·have:=h4 0 u0 rfl;rw[Nat.zero_add];exact this
  ·have:=h4 1 u1 rfl;rw[Nat.zero_add];exact this
  ·have:=h4 2 u2 rfl;rw[Nat.zero_add];exact this
theorem OwX.kssM {w:World}{B:Nat}{v:Value}{ss:List (List (List Int))}{f:Nat→List Value}(h:OwX 180 1 EMm w B v ss.length (mixL [] ss f ss.length)) (hn:ss.length≤100000) (hl:∀x∈ss,x.length≤1000000):KSS 8 w v ss:=by
 rcases Nat.eq_zero_or_pos ss.length with h0|h0
 ·obtain⟨a,c,rfl⟩:=h.shape;obtain rfl:=List.length_eq_zero_iff.1 h0;exact⟨a,c,0,0,rfl,by simp,by intro j hj;simp at hj,by simp⟩
 ·obtain⟨g,cap,rfl,_⟩:=h.form h0;refine⟨_,cap,g,0,rfl,fun _=>rfl,fun j hj=>?_,by omega⟩;obtain⟨us,h1,⟨u,h2,h3⟩,h4⟩:=h.cells (mixL_all hj);refine⟨u,?_,h3.ks (by have:=hl (ss.getD j []) (by rw[getD_eq hj];exact List.getElem_mem hj);omega)⟩;have:=h4 0 u (by rw[h2];rfl)
  rw[Nat.mul_one,Nat.add_zero] at this;rw[Nat.zero_add];exact this
def phiG:List (World→Value→Prop)→Nat→World→Value→Prop
 | [],_,_,_=>True
 | p::_,0,W,v=>p W v
 | _::l,i+1,W,v=>phiG l i W v
def StabG (R:World→World→Prop):List (World→Value→Prop)→Prop
 | []=>True
 | p::l=>(∀W W' v,p W v→R W W'→p W' v)∧StabG R l
theorem StabG.at {R:World→World→Prop}:∀ {l:List (World→Value→Prop)},StabG R l→∀(i:Nat) (W W':World) (v:Value),phiG l i W v→R W W'→phiG l i W' v
 | [],_,_,_,_,_,_,_=>trivial
 | _::_,h,0,W,W',v,hp,hr=>h.1 W W' v hp hr
 | _::_,h,i+1,W,W',v,hp,hr=>h.2.at i W W' v hp hr
def depsG (o:Oper):List Nat:=(o.after.toList.filter (Region.binds .any)).map (·.on)
def HasG (Φ:List (World→Value→Prop)) (D:Nat→Bool) (W:World) (ys:Nat→Value):List Nat→Prop
 | []=>True
 | j::l=>(D j=true∧phiG Φ j W (ys j))∧HasG Φ D W ys l
theorem HasG.of {Φ:List (World→Value→Prop)}{D:Nat→Bool}{W:World}{ys:Nat→Value}:∀ {l:List Nat},(∀j∈l,D j=true∧phiG Φ j W (ys j))→HasG Φ D W ys l
 | [],_=>trivial
 | j::l,h=>⟨h j (by simp),HasG.of fun k hk=>h k (by simp[hk])⟩
def ClG (ops:Array Oper) (D:Nat→Bool):Prop:=∀j o,D j=true→ops[j]? = some o→∀k∈depsG o,D k=true
theorem ClG.no {ops:Array Oper}{D:Nat→Bool}(h:ClG ops D) {i j:Nat}{o:Oper}(ho:ops[j]? = some o) (hk:(depsG o).elem i=true) (hi:D i=false):D j=false:=by
 cases hj:D j with
 | false=>rfl
 | true=>
  have:=h j o hj ho i (List.mem_of_elem_eq_true hk)
  rw[hi] at this;cases this
def updG (ys:Nat→Value) (i:Nat) (v:Value):Nat→Value:=fun j=>if j=i then v else ys j
def addG (D:Nat→Bool) (i:Nat):Nat→Bool:=fun j=>if j=i then true else D j
def StepG (P:Program) (ops:Array Oper) (F:(Nat→Value)→Act) (Φ:List (World→Value→Prop)) (R:World→World→Prop) (G:(Nat→Bool)→(Nat→Value)→World→Prop) (Q:Exit→Act→World→Prop) (i:Nat) (o:Oper):Prop:=
 ∀(D:Nat→Bool) (ys:Nat→Value) (W:World) (K:Act→World→Prop),D i=false→ClG ops D→HasG Φ D W ys (depsG o)→G D ys W→
  (∀v W',R W W'→G (addG D i) (updG ys i v) W'→phiG Φ i W' v→K (F (updG ys i v)) W')→if Region.wanted o (yielded ops (F ys).tmps)=true then Oper.wp P o (F ys) W K Q else K ((F ys).put o.dst undef) W
def StepsG (P:Program) (ops:Array Oper) (F:(Nat→Value)→Act) (Φ:List (World→Value→Prop)) (R:World→World→Prop) (G:(Nat→Bool)→(Nat→Value)→World→Prop) (Q:Exit→Act→World→Prop):List Oper→Nat→Prop
 | [],_=>True
 | o::l,i=>StepG P ops F Φ R G Q i o∧StepsG P ops F Φ R G Q l (i+1)
theorem StepsG.at {P:Program}{ops:Array Oper}{F:(Nat→Value)→Act}{Φ:List (World→Value→Prop)}{R:World→World→Prop}{G:(Nat→Bool)→(Nat→Value)→World→Prop}{Q:Exit→Act→World→Prop}:∀ {l:List Oper}{k:Nat},StepsG P ops F Φ R G Q l k→∀ {i:Nat}{o:Oper},l[i]? = some o→StepG P ops F Φ R G Q (k+i) o
 | [],_,_,_,_,h=>by simp at h
 | p::l,k,hs,0,o,h=>by
  simp only[List.getElem?_cons_zero,Option.some.injEq] at h;subst h;exact hs.1
 | p::l,k,hs,i+1,o,h=>by
  simp only[List.getElem?_cons_succ] at h;have:=hs.2.at h
  rwa [show k+(i+1)=k+1+i by omega]
def backG (l:List Oper):Bool:=l.zipIdx.all fun p=>(depsG p.1).all fun j=>decide (j < p.2)
theorem backG_of {l:List Oper}(h:backG l=true) {i:Nat}{o:Oper}(ho:l[i]? = some o):∀j∈depsG o,j < i:=by
 intro j hj;have h1:=List.all_eq_true.1 h (o,i) (by rw[List.mem_iff_getElem?];exact⟨i,by rw[List.getElem?_zipIdx,ho];simp⟩);exact of_decide_eq_true (List.all_eq_true.1 h1 j hj)
theorem mem_readyG {ops:Array Oper}{listed:Array Bool}{i:Nat}:i∈Region.ready .any ops listed↔listed.getD i true=false∧∃o,ops[i]? = some o∧∀j∈depsG o,listed.getD j false=true:=by
 unfold Region.ready;rw[List.mem_filter,List.mem_range];constructor
 ·rintro⟨h1,h2⟩;rw[Bool.and_eq_true,Bool.not_eq_true'] at h2;refine⟨h2.1,ops[i],by rw[Array.getElem?_eq_getElem h1],fun j hj=>?_⟩;have h3:=h2.2;rw[Array.getElem?_eq_getElem h1] at h3;simp only[Option.map_some,Option.getD_some] at h3;obtain⟨e,he,rfl⟩:=List.mem_map.1 hj;obtain⟨he1,he2⟩:=List.mem_filter.1 he;have h4:=Array.all_eq_true'.1 h3 e (by simpa using he1);rw[he2] at h4;rw[Bool.not_true,Bool.false_or] at h4;exact h4
 ·rintro⟨h1,o,ho,h2⟩;have hlt:=(Array.getElem?_eq_some_iff.1 ho).1;refine⟨hlt,?_⟩;rw[Bool.and_eq_true,Bool.not_eq_true'];refine⟨h1,?_⟩;rw[ho];simp only[Option.map_some,Option.getD_some];refine Array.all_eq_true'.2 fun e he=>?_;cases hb:Region.binds .any e with
  | false=>rfl
  | true=>exact h2 e.on (List.mem_map.2 ⟨e,List.mem_filter.2 ⟨by simpa using he,hb⟩,rfl⟩)
theorem any_rg {P:Program}{l:List Oper}{F:(Nat→Value)→Act}{Φ:List (World→Value→Prop)}{R:World→World→Prop}{G:(Nat→Bool)→(Nat→Value)→World→Prop}{Q:Exit→Act→World→Prop}
  (hback:backG l=true) (hR:StabG R Φ) (hS:StepsG P l.toArray F Φ R G Q l 0)
  (hend:∀ys W,G (fun i=>decide (i < l.length)) ys W→(∀i,i < l.length→phiG Φ i W (ys i))→Q .normal (F ys) W) (hGx:∀D D' ys W,(∀i,i < l.length→D i=D' i)→G D ys W→G D' ys W) :
  ∀(fuel:Nat) (listed:Array Bool) (D:Nat→Bool) (ys:Nat→Value) (W:World),listed.size=l.length→(∀i,i < l.length→listed.getD i true=D i)→(∀i,l.length≤i→D i=false)→(∀i,D i=true→phiG Φ i W (ys i))→G D ys W→ClG l.toArray D→
   ((List.range l.length).filter fun i=>!D i).length=fuel→wpAny P .any l.toArray Q fuel listed (F ys) W:=by
 have all:∀ {D:Nat→Bool},(∀i,i < l.length→D i=true)→∀ {ys W},(∀i,D i=true→phiG Φ i W (ys i))→G D ys W→Q .normal (F ys) W:=fun {D} h {ys W} h1 h2=>
  hend ys W (hGx _ _ _ _ (fun i hi=>by rw[h i hi,decide_eq_true hi]) h2) fun i hi=>h1 i (h i hi)
 have none:∀ {listed:Array Bool} {D:Nat→Bool},(∀i,i < l.length→listed.getD i true=D i)→listed.size=l.length→Region.ready .any l.toArray listed = []→∀i,i < l.length→D i=true:=by
  intro listed D hl hsz hr i;induction i using Nat.strongRecOn with
  | _ i ih=>
   intro hi;cases hD:D i with
   | true=>rfl
   | false=>
    have ho:l[i]? = some l[i]:=List.getElem?_eq_getElem hi
    have:i∈Region.ready .any l.toArray listed:=mem_readyG.2 ⟨(hl i hi).trans hD,l[i],by simp,fun j hj=>by
     have hji:=backG_of hback ho j hj;have h1:=(hl j (by omega)).trans (ih j hji (by omega));rw[Array.getD_eq_getD_getElem?,Array.getElem?_eq_getElem (by omega)] at h1⊢;exact h1⟩
    rw[hr] at this;cases this
 intro fuel;induction fuel with
 | zero=>
  intro listed D ys W hsz hl hlo hp hG hcl hf
  have hD:∀i,i < l.length→D i=true:=fun i hi=>by
   have h1:=List.length_eq_zero_iff.1 hf;cases hD:D i with
   | true=>rfl
   | false=>
    have:i∈((List.range l.length).filter fun i=>!D i):=List.mem_filter.2 ⟨List.mem_range.2 hi,by rw[hD];rfl⟩
    rw[h1] at this;cases this
  refine⟨?_,all hD hp hG⟩;cases hr:Region.ready .any l.toArray listed with
  | nil=>rfl
  | cons i r=>
   obtain⟨h1,o,ho,_⟩:=mem_readyG.1 (show i∈Region.ready .any l.toArray listed by rw[hr];simp);have hi:i < l.length:=(Array.getElem?_eq_some_iff.1 ho).1;rw[hl i hi,hD i hi] at h1;cases h1
 | succ fuel ih=>
  intro listed D ys W hsz hl hlo hp hG hcl hf;refine⟨fun hr=>all (none hl hsz hr) hp hG,fun i hi=>?_⟩;obtain⟨h1,o,ho,h2⟩:=mem_readyG.1 hi;have hil:i < l.length:=(Array.getElem?_eq_some_iff.1 ho).1;have ho':l[i]? = some o:=by simpa using ho
  have hDi:D i=false:=(hl i hil).symm.trans h1;have hst:=hS.at ho';rw[Nat.zero_add] at hst;refine wpOp_step ho fun K hK=>hst D ys W K hDi hcl (HasG.of fun j hj=>?_) hG fun v W' hr hG' hv=>hK _ _ ?_
  ·have hji:=backG_of hback ho' j hj;have h3:=h2 j hj
   have hDj:D j=true:=by
    rw[←hl j (by omega)];rw[Array.getD_eq_getD_getElem?,Array.getElem?_eq_getElem (by omega)] at h3⊢;exact h3
   exact⟨hDj,hp j hDj⟩
  ·refine ih _ (addG D i) (updG ys i v) W' (by simpa using hsz) (fun j hj=>?_) (fun j hj=>?_) (fun j hj=>?_) hG' (fun j oj hj hoj k hk=>?_) ?_
   ·unfold addG;rw[Array.getD_eq_getD_getElem?,Array.getElem?_setIfInBounds];by_cases e:i=j
    ·subst e;rw[if_pos rfl,if_pos rfl,if_pos (by omega)];rfl
    ·rw[if_neg e,if_neg (fun h=>e h.symm),←hl j hj,Array.getD_eq_getD_getElem?]
   ·unfold addG;rw[if_neg (by omega)];exact hlo j hj
   ·unfold addG at hj;unfold updG;by_cases e:j=i
    ·subst e;rw[if_pos rfl];exact hv
    ·rw[if_neg e] at hj⊢;exact hR.at j W W' _ (hp j hj) hr
   ·unfold addG at hj⊢;by_cases ek:k=i
    ·rw[if_pos ek]
    ·rw[if_neg ek];by_cases e:j=i
     ·subst e;rw[ho] at hoj;injection hoj with hoj;subst hoj;have hji:=backG_of hback ho' k hk;have h3:=h2 k hk;rw[←hl k (by omega)];rw[Array.getD_eq_getD_getElem?,Array.getElem?_eq_getElem (by omega)] at h3⊢;exact h3
     ·rw[if_neg e] at hj;exact hcl j oj hj hoj k hk
   ·have key:∀(m:List Nat),m.Nodup→i∈m→(m.filter fun j=>!addG D i j).length+1=(m.filter fun j=>!D j).length:=by
     intro m;induction m with
     | nil=>intro _ h;cases h
     | cons a m ihm=>
      intro hn hm;obtain⟨hn1,hn2⟩:=List.nodup_cons.1 hn;by_cases e:a=i
      ·subst e
       have h5:∀j∈m,(!addG D a j) = !D j:=fun j hj=>by
        unfold addG;rw[if_neg (fun e:j=a=>hn1 (by rw[←e];exact hj))]
       rw[List.filter_cons,List.filter_cons,List.filter_congr h5];have h6:(!addG D a a)=false:=(by unfold addG;rw[if_pos rfl];rfl);rw[h6,hDi];simp
      ·have hm':i∈m:=by
        rcases List.mem_cons.1 hm with h|h
        ·exact absurd h.symm e
        ·exact h
       have h5:(!addG D i a) = !D a:=(by unfold addG;rw[if_neg e]);rw[List.filter_cons,List.filter_cons,h5];have:=ihm hn2 hm'
       split
       ·rw[List.length_cons,List.length_cons];omega
       ·exact this
    have:=key (List.range l.length) List.nodup_range (List.mem_range.2 hil)
    omega
theorem wp_region_rg {P:Program}{id:Nat}{Q:Exit→Act→World→Prop}{w:World}{l:List Oper}(F:(Nat→Value)→Act) (Φ:List (World→Value→Prop)) (R:World→World→Prop) (G:(Nat→Bool)→(Nat→Value)→World→Prop) (ys:Nat→Value) (hm:P.follows .mixedOrders=true)
  (hback:backG l=true) (hR:StabG R Φ) (h0:G (fun _=>false) ys (w.drewN 1)) (hGx:∀D D' ys W,(∀i,i < l.length→D i=D' i)→G D ys W→G D' ys W) (hS:StepsG P l.toArray F Φ R G Q l 0)
  (hend:∀ys W,G (fun i=>decide (i < l.length)) ys W→(∀i,i < l.length→phiG Φ i W (ys i))→Q .normal (F ys) W) :
  (Code.region id l.toArray true).wp P Q (F ys) w:=by
 refine wp_region_any hm ?_;refine any_rg hback hR hS hend hGx _ _ (fun _=>false) ys _ (by simp) (fun i hi=>?_) (fun _ _=>rfl) (fun i hi=>by cases hi) h0 (fun j o hj=>by cases hj) ?_
 ·rw[Array.getD_eq_getD_getElem?,List.size_toArray,Array.getElem?_replicate,if_pos hi];rfl
 ·have h1:((List.range l.length).filter fun _=>!false)=List.range l.length:=List.filter_eq_self.2 (fun _ _=>rfl);rw[h1,List.length_range,List.size_toArray]
end Go.Proofs.YtcnedkkcgdkioaaGreat

/- Texts of this claim, put together: TT UR N0 TR TR0. -/
import Derived.Test.YtcnedkkcgdkioaaGreatKSo
import Derived.Deep.OwnRows

set_option maxRecDepth 100000
set_option maxHeartbeats 12800000
namespace Go.Proofs.YtcnedkkcgdkioaaGreat
open Go.RowKit
attribute [local go_sem] Oper.semAt_some
def inR (i m j:Nat):List (Nat × Nat):=(List.range' j (m - j)).map fun q=>(i,q)
def ouR (n m i:Nat):List (Nat × Nat):=(List.range' i (n - i)).flatMap fun p=>inR p m 0
theorem inR_step {i m j:Nat}(h:j < m):inR i m j=(i,j)::inR i m (j+1):=by
 unfold inR;rw[show m - j=(m - (j+1))+1 by omega,List.range'_succ,List.map_cons]
theorem inR_end {i m:Nat}:inR i m m = []:=by unfold inR;rw[Nat.sub_self];rfl
theorem ouR_step {n m i:Nat}(h:i < n):ouR n m i=inR i m 0++ouR n m (i+1):=by
 unfold ouR;rw[show n - i=(n - (i+1))+1 by omega,List.range'_succ,List.flatMap_cons]
theorem ouR_end {n m:Nat}:ouR n m n = []:=by unfold ouR;rw[Nat.sub_self];rfl
def exEnc (fw:Nat->Value) (x:Nat × Nat):Array Value:=#[.int .i64 (x.1:Int),fw x.2]
def exR (L pre:List (Nat × Nat)) (x:Nat × Nat):Prop:=∃r,pre++x::r=L
def exRd (b1 b2 wb wo n m:Nat) (ca:Option Addr) (cc wc:Nat) (fw:Nat->Value) (W:World):Prop:=
 W.cell? ⟨b1,3,none⟩=some (.slice ca n cc)/\W.cell? ⟨b2,0,none⟩=some (.slice (some ⟨wb,wo,none⟩) m wc)/\∀j,j < m->∃a l c,fw j = .slice a l c/\W.cell? ⟨wb,wo+j,none⟩=some (.slice a l c)
theorem exSeq {b1 b2 wb wo n m cc wc:Nat}{ca:Option Addr}{fw:Nat->Value}(hn:n<=100000) (hm:m<=10000000) :
  SeqN Tryz.prog 134 #[.pointer (some ⟨b1,0,none⟩),.pointer (some ⟨b2,0,none⟩)] (exEnc fw) (exR (ouR n m 0)) (fun xs=>xs=ouR n m 0) (exRd b1 b2 wb wo n m ca cc wc fw):=by
 intro l J Jx W hRd hY h0;replace hRd:=qH hRd;replace hY:=qH hY;show CallsIn Fence.wide 0 Tryz.prog 134 #[.func (.yield l) #[] #[],.pointer (some ⟨b1,0,none⟩),.pointer (some ⟨b2,0,none⟩)] W _;refine callsIn_of_wp Tryz.func134 rfl trivial ?_
 simp only[Tryz.ntmps134,List.size_toArray,List.length_cons,List.length_nil,Nat.reduceAdd,Nat.reduceSub,Array.replicate_succ,
   Array.replicate_zero,List.push_toArray,List.append_toArray,List.nil_append,List.cons_append]
 obtain⟨r0,r1,r2⟩:=hRd.out _ _ h0;obtain⟨L,hL⟩:=exE (ouR n m 0);rw[hL] at hY|-;have hL0:Hid ([]++ouR n m 0=L):=by show _=_;rw[List.nil_append];exact hL
 clear hL;gi_wp2;obtain⟨wo',hwo⟩:∃wo,wo=W:=⟨_,rfl⟩;have h00:J [] wo':=by rw[hwo];exact h0
 rw[<-hwo];clear hwo h0 r0 r1 r2;gi_loopw [11] (fun kv wr=>∃(k:Nat) (pre:List (Nat × Nat)),kv = .int .i64 k/\k<=n/\J pre wr/\Hid (pre++ouR n m k=L)) (fun kv _=>n - (intOf kv).toNat)
 case atStart=>exact⟨0,[],rfl,by omega,h00,hL0⟩
 case round=>
  clear h00 hL0;obtain⟨k,pre,rfl,hk,hJk,hp⟩:=hrel;by_cases hlt:k < n
  ·obtain⟨r0,r1,r2⟩:=hRd.out _ _ hJk;have hp1:Hid (pre++(inR k m 0++ouR n m (k+1))=L):=(by show _=_;rw[<-ouR_step hlt];exact hp);clear hp;gi_wp2;gi_loopw [16] (fun iv wr=>∃(i:Nat) (pre:List (Nat × Nat)),iv = .int .i64 i/\i<=m/\J pre wr/\Hid (pre++(inR k m i++ouR n m (k+1))=L)) (fun iv _=>m - (intOf iv).toNat)
   case atStart=>exact⟨0,pre,rfl,by omega,hJk,hp1⟩
   case round=>
    clear hp1 hJk r0 r1 r2;obtain⟨i,pre,rfl,hi,hJk,hp⟩:=hrel;by_cases hlti:i < m
    ·obtain⟨r0,r1,r2⟩:=hRd.out _ _ hJk;have hp1:Hid (pre++((k,i)::(inR k m (i+1)++ouR n m (k+1)))=L):=(by show _=_;rw[<-List.cons_append,<-inR_step hlti];exact hp);obtain⟨sa,sl,sc,hfw,c0⟩:=r2 i hlti;have hRx:exR L pre (k,i):=⟨_,hp1.out⟩;obtain⟨fn,tmps,assign,body,hy,hR⟩:=hY.out pre (k,i) _ hJk hRx;simp only[exEnc,hfw] at hy hR;replace hR:=qH hR;clear hJk hRx hp r2 hfw;gi_wp2;refine⟨rfl,hR.out.mono ?_⟩;rintro e W' (⟨rfl,hJ'⟩|⟨rfl,hJ'⟩)
     ·clear hy hR c0 r0 r1;gi_wp2;go_roundw
      case rel=>exact⟨i+1,_,by go_num,hlti,hJ',by show _=_;rw[List.append_assoc];exact hp1.out⟩
      case measure=>simp[intOf];omega
     ·gi_wp2;refine bodyPost_ret (results_none rfl _ _ _) rfl ?_;exact⟨⟨_,rfl⟩,.inr ⟨_,hJ'⟩⟩
    ·obtain rfl:i=m:=(by omega);have hp1:Hid (pre++ouR n i (k+1)=L):=(by show _=_;rw[<-hp.out,inR_end];rfl);clear hp;gi_wp2;go_roundw
     case rel=>exact⟨k+1,pre,by go_num,hlt,hJk,hp1⟩
     case measure=>simp[intOf];omega
  ·obtain rfl:k=n:=(by omega);have hpe:pre=L:=(by rw[<-hp.out,ouR_end,List.append_nil]);replace hpe:=qH hpe;clear hY hp;gi_wp2;first|refine bodyPost_end (results_none rfl _ _ _) rfl ?_|refine bodyPost_ret (results_none rfl _ _ _) rfl ?_
   exact⟨⟨_,rfl⟩,.inl ⟨_,hpe.out,hJk⟩⟩
theorem executionsC {w:World}{n i o an r:Int}{a a' wa:Option Addr}{cn c sn c' wn wc:Nat} :
  Calls Tryz.prog 75 #[.agg #[.int .i64 n,.int .i64 i,.int .i64 o,.slice a cn c,.int .i64 an,.slice a' sn c',.int .i64 r],.slice wa wn wc] w fun e w'=>e = .returned (.func (.func 134) #[] #[.pointer (some ⟨w.heap.size,0,none⟩),.pointer (some ⟨w.heap.size+1,0,none⟩)])/\w'=(w.alloc (.cells #[.int .i64 n,.int .i64 i,.int .i64 o,.slice a cn c,.int .i64 an,.slice a' sn c',.int .i64 r] 29)).alloc (.cells #[.slice wa wn wc] 133):=by
 go_enter Tryz.func75, Tryz.ntmps75
 go_wp2;go_ret;exact⟨rfl,rfl⟩
theorem exeL_snoc (n:Nat):∀(l:List (Int × List Int × Jb)) (vs:Jb) (c:Int) (xs:List Int) (wd:Jb),
  exeL n vs (l ++ [(c,xs,wd)])=((plN n xs wd (exeL n vs l).1 wd.length).1,(exeL n vs l).2 ++ [(c,wd,(plN n xs wd (exeL n vs l).1 wd.length).2)])
 | [],vs,c,xs,wd=>rfl
 | (c',xs',wd')::l,vs,c,xs,wd=>by
  rw[List.cons_append,exeL,exeL_snoc n l,exeL];rfl
theorem exeL_len (n:Nat):∀(l:List (Int × List Int × Jb)) (vs:Jb),(exeL n vs l).2.length=l.length
 | [],_=>rfl
 | (_,_,_)::l,vs=>by rw[exeL,List.length_cons,exeL_len n l,List.length_cons]
theorem exeL_le (n:Nat) {K:Nat}:∀(l:List (Int × List Int × Jb)) (vs:Jb),(∀x∈l,x.2.2.length<=K)->(exeL n vs l).1.length<=vs.length+l.length * (n * (K+1))
 | [],vs,_=>by simp[exeL]
 | (c,xs,wd)::l,vs,h=>by
  rw[exeL];have h1:=exeL_le n l (plN n xs wd vs wd.length).1 fun x hx=>h x (List.mem_cons_of_mem _ hx);have h2:=plN_le n xs wd vs wd.length;have h4:wd.length<=K:=h (c,xs,wd) List.mem_cons_self;have h3:n * (wd.length+1)<=n * (K+1):=Nat.mul_le_mul_left _ (by omega);rw[List.length_cons,Nat.succ_mul];show(exeL n _ l).1.length<=_
  omega
def prD (cs:List Cs) (ws:Jc) (x:Nat × Nat):Int × List Int × Jb:=((x.1:Int),(cs.getD x.1 csNil).1,ws.getD x.2 [])
theorem inR_map {cs:List Cs}{ws:Jc}(i:Nat):(inR i ws.length 0).map (prD cs ws)=ws.map fun w=>((i:Int),(cs.getD i csNil).1,w):=by
 unfold inR;refine List.ext_getElem (by simp) fun k h1 h2=>?_;have hk:k < ws.length:=by simpa using h2
 simp[prD,List.getD_eq_getElem?_getD,List.getElem?_eq_getElem hk]
theorem ouR_map {cs:List Cs}{ws:Jc}:(ouR cs.length ws.length 0).map (prD cs ws)=pairsP cs ws:=by
 have hz:cs.zipIdx=(List.range' 0 (cs.length - 0)).map fun p=>(cs.getD p csNil,p):=by
  refine List.ext_getElem (by simp) fun k h1 h2=>?_;have hk:k < cs.length:=by simpa using h1
  simp[List.getD_eq_getElem?_getD,List.getElem?_eq_getElem hk]
 unfold ouR pairsP;rw[hz,List.map_flatMap,List.flatMap_map];congr 1
 funext p
 rw[inR_map]
theorem pairsP_len {cs:List Cs}{ws:Jc}:(pairsP cs ws).length=cs.length * ws.length:=by
 unfold pairsP;rw[List.length_flatMap]
 have:(cs.zipIdx.map fun c=>(ws.map fun w=>((c.2:Int),c.1.1,w)).length)=List.replicate cs.length ws.length:=by
  refine List.ext_getElem (by simp) fun k h1 h2=>by simp
 rw[this,List.sum_replicate_nat]
theorem ouR_prefix {n m:Nat}{pre:List (Nat × Nat)}{x:Nat × Nat}{r:List (Nat × Nat)}(h:pre++x::r=ouR n m 0):x.1 < n/\x.2 < m:=by
 have:x∈ouR n m 0:=by rw[<-h];simp
 unfold ouR at this;obtain⟨p,hp,hx⟩:=List.mem_flatMap.1 this;unfold inR at hx;obtain⟨q,hq,rfl⟩:=List.mem_map.1 hx;have h1:=(List.mem_range'_1.1 hp);have h2:=(List.mem_range'_1.1 hq);exact⟨by show p < n;omega,by show q < m;omega⟩
theorem OwX.store1 {α:Type}{E:TypeId}{El:World->List Value->α->Prop}(hS:Stab E El) {w:World}{B g n cap:Nat}{xs:List α}(h:OwX E 1 El w B (.slice (some ⟨g,0,none⟩) n cap) n xs) {j:Nat}(hj:j < n) {u:Value}(hu:u.oneCell'=true) {x:α}(hEl:El w [u] x) :
  OwX E 1 El (w.setCell ⟨g,j,none⟩ u) B (.slice (some ⟨g,0,none⟩) n cap) n (xs.set j x)/\w.grownBy (w.setCell ⟨g,j,none⟩ u) (some g):=by
 obtain⟨vs,h1,h2,h3,h4⟩:=h;obtain⟨k1,k2⟩:=World.ownsRow.stored h1 j u;have hX:=KeepX.grown k2 (ownsRow_ty h1);have hvl:vs.length=n:=by have:=h1.1;simpa using this
 refine⟨⟨vs.set j u,k1,by rw[List.length_set];exact h2,fun y hy=>?_,fun i y hi=>?_⟩,k2⟩
 ·rcases List.mem_or_eq_of_mem_set hy with hy|rfl
  ·exact h3 y hy
  ·exact hu
 ·have hil:i < xs.length:=by
   have:=(List.getElem?_eq_some_iff.1 hi).1
   rwa [List.length_set] at this
  rw[Nat.mul_one]
  have e1:((vs.set j u).drop i).take 1 = [(vs.set j u)[i]'(by rw[List.length_set];omega)]:=by
   rw[List.drop_eq_getElem_cons (by rw[List.length_set];omega),List.take_succ_cons,List.take_zero]
  rw[e1];by_cases e:i=j
  ·subst e;rw[List.getElem?_set_self (by omega)] at hi;injection hi with hi;subst hi;rw[List.getElem_set_self];exact hS _ _ _ _ hEl hX
  ·rw[List.getElem?_set_ne (fun h=>e h.symm)] at hi;rw[List.getElem_set_ne (fun h=>e h.symm)];have h5:=h4 i y hi;rw[Nat.mul_one,List.drop_eq_getElem_cons (by omega),List.take_succ_cons,List.take_zero] at h5;exact hS _ _ _ _ h5 hX
theorem OwX.store3 {α:Type}{E:TypeId}{El:World->List Value->α->Prop}(hS:Stab E El) {w:World}{B g n cap:Nat}{xs:List α}(h:OwX E 3 El w B (.slice (some ⟨g,0,none⟩) n cap) n xs) {j:Nat}(hj:j < n) {u0 u1 u2:Value}(h0:u0.oneCell'=true) (h1:u1.oneCell'=true) (h2:u2.oneCell'=true) {x:α}(hEl:El w [u0,u1,u2] x) :
  OwX E 3 El (((w.setCell ⟨g,j * 3,none⟩ u0).setCell ⟨g,j * 3+1,none⟩ u1).setCell ⟨g,j * 3+2,none⟩ u2) B (.slice (some ⟨g,0,none⟩) n cap) n (xs.set j x)/\KeepX E w (((w.setCell ⟨g,j * 3,none⟩ u0).setCell ⟨g,j * 3+1,none⟩ u1).setCell ⟨g,j * 3+2,none⟩ u2):=by
 obtain⟨vs,k1,k2,k3,k4⟩:=h;obtain⟨a1,b1⟩:=World.ownsRow.stored k1 (j * 3) u0;obtain⟨a2,b2⟩:=World.ownsRow.stored a1 (j * 3+1) u1;obtain⟨a3,b3⟩:=World.ownsRow.stored a2 (j * 3+2) u2;have hX:=((KeepX.grown b1 (ownsRow_ty k1)).trans (KeepX.grown b2 (ownsRow_ty a1))).trans (KeepX.grown b3 (ownsRow_ty a2));have hvl:vs.length=n * 3:=k1.1;refine⟨⟨_,a3,by rw[List.length_set];exact k2,fun y hy=>?_,fun i y hi=>?_⟩,hX⟩
 ·rcases List.mem_or_eq_of_mem_set hy with hy|rfl
  ·rcases List.mem_or_eq_of_mem_set hy with hy|rfl
   ·rcases List.mem_or_eq_of_mem_set hy with hy|rfl
    ·exact k3 y hy
    ·exact h0
   ·exact h1
  ·exact h2
 ·have hil:i < xs.length:=by
   have:=(List.getElem?_eq_some_iff.1 hi).1
   rwa [List.length_set] at this
  have e3:∀(l:List Value),l.length=n * 3->(l.drop (i * 3)).take 3 = [l.getD (i * 3) undef,l.getD (i * 3+1) undef,l.getD (i * 3+2) undef]:=fun l hl=>by
   rw[List.drop_eq_getElem_cons (by omega),List.drop_eq_getElem_cons (by omega),List.drop_eq_getElem_cons (by omega)];simp only[List.take_succ_cons,List.take_zero,List.getD_eq_getElem?_getD];rw[List.getElem?_eq_getElem (by omega),List.getElem?_eq_getElem (by omega),List.getElem?_eq_getElem (by omega)];rfl
  rw[e3 _ (by simp only[List.length_set];exact hvl)];by_cases e:i=j
  ·subst e;rw[List.getElem?_set_self (by omega)] at hi;injection hi with hi;subst hi
   have f0:(((vs.set (i * 3) u0).set (i * 3+1) u1).set (i * 3+2) u2).getD (i * 3) undef=u0:=by
    rw[List.getD_eq_getElem?_getD,List.getElem?_set_ne (by omega),List.getElem?_set_ne (by omega),List.getElem?_set_self (by omega)];rfl
   have f1:(((vs.set (i * 3) u0).set (i * 3+1) u1).set (i * 3+2) u2).getD (i * 3+1) undef=u1:=by
    rw[List.getD_eq_getElem?_getD,List.getElem?_set_ne (by omega),List.getElem?_set_self (by rw[List.length_set];omega)];rfl
   have f2:(((vs.set (i * 3) u0).set (i * 3+1) u1).set (i * 3+2) u2).getD (i * 3+2) undef=u2:=by
    rw[List.getD_eq_getElem?_getD,List.getElem?_set_self (by rw[List.length_set,List.length_set];omega)];rfl
   rw[f0,f1,f2];exact hS _ _ _ _ hEl hX
  ·rw[List.getElem?_set_ne (fun h=>e h.symm)] at hi;have h5:=k4 i y hi;rw[e3 _ hvl] at h5
   have g:∀k,k < 3->(((vs.set (j * 3) u0).set (j * 3+1) u1).set (j * 3+2) u2).getD (i * 3+k) undef=vs.getD (i * 3+k) undef:=fun k hk=>by
    rw[List.getD_eq_getElem?_getD,List.getElem?_set_ne (by omega),List.getElem?_set_ne (by omega),List.getElem?_set_ne (by omega),List.getD_eq_getElem?_getD]
   have g0:(((vs.set (j * 3) u0).set (j * 3+1) u1).set (j * 3+2) u2).getD (i * 3) undef=vs.getD (i * 3) undef:=g 0 (by decide);rw[g0,g 1 (by decide),g 2 (by decide)];exact hS _ _ _ _ h5 hX
theorem OwX.pre3 {α:Type}{E:TypeId}{El:World->List Value->α->Prop}{w:World}{B g n cap:Nat}{xs:List α}(h:OwX E 3 El w B (.slice (some ⟨g,0,none⟩) n cap) n xs) {j:Nat}(hj:j < n) (u0 u1:Value) :
  ∃p0 p1 p2,w.cell? ⟨g,j * 3,none⟩=some p0/\(w.setCell ⟨g,j * 3,none⟩ u0).cell? ⟨g,j * 3+1,none⟩=some p1/\((w.setCell ⟨g,j * 3,none⟩ u0).setCell ⟨g,j * 3+1,none⟩ u1).cell? ⟨g,j * 3+2,none⟩=some p2/\
   w.frozen? ⟨g,j * 3,none⟩=false/\(w.setCell ⟨g,j * 3,none⟩ u0).frozen? ⟨g,j * 3+1,none⟩=false/\((w.setCell ⟨g,j * 3,none⟩ u0).setCell ⟨g,j * 3+1,none⟩ u1).frozen? ⟨g,j * 3+2,none⟩=false:=by
 obtain⟨vs,k1,k2,k3,k4⟩:=h;obtain⟨a1,b1⟩:=World.ownsRow.stored k1 (j * 3) u0;obtain⟨a2,b2⟩:=World.ownsRow.stored a1 (j * 3+1) u1;have hvl:vs.length=n * 3:=k1.1;refine⟨vs[j * 3]'(by omega),(vs.set (j * 3) u0)[j * 3+1]'(by rw[List.length_set];omega),((vs.set (j * 3) u0).set (j * 3+1) u1)[j * 3+2]'(by rw[List.length_set,List.length_set];omega),?_,?_,?_,World.ownsRow.frozenAt k1 _,World.ownsRow.frozenAt a1 _,World.ownsRow.frozenAt a2 _⟩
 ·rw[World.ownsRow.cellAt k1 (j * 3) (by omega),List.getElem?_eq_getElem]
 ·rw[World.ownsRow.cellAt a1 (j * 3+1) (by omega),List.getElem?_eq_getElem]
 ·rw[World.ownsRow.cellAt a2 (j * 3+2) (by omega),List.getElem?_eq_getElem]
def ECm (w:World) (cs:List Value):Cs ⊕ List Value->Prop
 | .inl c=>∃u0 u1 u2,cs = [u0,u1,u2]/\OI w 0 u0 c.1.length c.1/\OwX 48 1 EVi w 0 u1 c.2.1.length c.2.1/\OwX 48 1 EVi w 0 u2 c.2.2.length c.2.2
 | .inr l=>cs=l
theorem ECm.stab {E:TypeId}(h1:3 ≠ E) (h2:48 ≠ E):Stab E ECm:=fun w w' cs x h hx=>by
 cases x with
 | inl c=>
  obtain⟨u0,u1,u2,e,a,b,d⟩:=h;exact⟨u0,u1,u2,e,a.other h1 hx,b.other (EVi.stab h1) h2 hx,d.other (EVi.stab h1) h2 hx⟩
 | inr l=>exact h
def EMm (w:World) (cs:List Value):Jb ⊕ List Value->Prop
 | .inl x=>ESt w cs x
 | .inr l=>cs=l
theorem EMm.stab {E:TypeId}(h:178 ≠ E):Stab E EMm:=fun w w' cs x h1 hx=>by
 cases x with
 | inl c=>exact ESt.stab h _ _ _ _ h1 hx
 | inr l=>exact h1
def mixL {α:Type}(d:α) (cs:List α) (f:Nat->List Value) (i:Nat):List (α ⊕ List Value):=(List.range cs.length).map fun j=>if j < i then .inl (cs.getD j d) else .inr (f j)
theorem mixL_len {α:Type}{d:α}{cs:List α}{f:Nat->List Value}{i:Nat}:(mixL d cs f i).length=cs.length:=by simp[mixL]
theorem mixL_at {α:Type}{d:α}{cs:List α}{f:Nat->List Value}{i j:Nat}(h:j < cs.length):(mixL d cs f i)[j]? = some (if j < i then .inl (cs.getD j d) else .inr (f j)):=by
 rw[mixL,List.getElem?_map,List.getElem?_range h];rfl
theorem mixL_set {α:Type}{d:α}{cs:List α}{f:Nat->List Value}{i:Nat}(h:i < cs.length) {x:α}(hx:cs.getD i d=x):(mixL d cs f i).set i (.inl x)=mixL d cs f (i+1):=by
 refine List.ext_getElem? fun j=>?_;by_cases hj:j < cs.length
 ·rw[List.getElem?_set,mixL_at hj,mixL_at hj];by_cases e:i=j
  ·subst e;rw[if_pos rfl,if_pos (by rw[mixL_len];exact h),if_pos (by omega),hx]
  ·rw[if_neg e];by_cases h1:j < i
   ·rw[if_pos h1,if_pos (by omega)]
   ·rw[if_neg h1,if_neg (by omega)]
 ·rw[List.getElem?_eq_none (by rw[List.length_set,mixL_len];omega),List.getElem?_eq_none (by rw[mixL_len];omega)]
theorem mixL_all {α:Type}{d:α}{cs:List α}{f:Nat->List Value}{j:Nat}(h:j < cs.length):(mixL d cs f cs.length)[j]? = some (.inl (cs.getD j d)):=by
 rw[mixL_at h,if_pos h]
def tri3 (f:Nat->Value × Value × Value) (n:Nat):List Value:=(List.range (n * 3)).map fun k=>if k % 3=0 then (f (k / 3)).1 else if k % 3=1 then (f (k / 3)).2.1 else (f (k / 3)).2.2
theorem tri3_len {f:Nat->Value × Value × Value}{n:Nat}:(tri3 f n).length=n * 3:=by simp[tri3]
theorem tri3_at {f:Nat->Value × Value × Value}{n k:Nat}(h:k < n * 3):(tri3 f n)[k]? = some (if k % 3=0 then (f (k / 3)).1 else if k % 3=1 then (f (k / 3)).2.1 else (f (k / 3)).2.2):=by
 rw[tri3,List.getElem?_map,List.getElem?_range h];rfl
theorem tri3_part {f:Nat->Value × Value × Value}{n j:Nat}(h:j < n):((tri3 f n).drop (j * 3)).take 3 = [(f j).1,(f j).2.1,(f j).2.2]:=by
 have hl:=tri3_len (f:=f) (n:=n);have g0:=tri3_at (f:=f) (n:=n) (k:=j * 3) (by omega);have g1:=tri3_at (f:=f) (n:=n) (k:=j * 3+1) (by omega);have g2:=tri3_at (f:=f) (n:=n) (k:=j * 3+2) (by omega);rw[if_pos (by omega),show j * 3 / 3=j by omega,List.getElem?_eq_getElem (by omega)] at g0;rw[if_neg (by omega),if_pos (by omega),show(j * 3+1) / 3=j by omega,List.getElem?_eq_getElem (by omega)] at g1;rw[if_neg (by omega),if_neg (by omega),show(j * 3+2) / 3=j by omega,List.getElem?_eq_getElem (by omega)] at g2;injection g0 with g0;injection g1 with g1;injection g2 with g2;rw[List.drop_eq_getElem_cons (by omega),List.drop_eq_getElem_cons (by omega),List.drop_eq_getElem_cons (by omega),g0,g1,g2];rfl
theorem OI.intsE {w:World}{B:Nat}{v:Value}{n:Nat}{xs:List Int}(h:OI w B v n xs) (hn:n<=17592186044416):Ints w v xs:=by
 obtain rfl:=h.length;rcases h.2 with⟨rfl,h'⟩|⟨g,cap,cur,rfl,h2,h3,h4,h5,h6,h7⟩
 ·obtain rfl:xs = []:=List.length_eq_zero_iff.1 h';exact⟨none,0,0,0,rfl,by simp,by intro j hj;simp at hj,by simp⟩
 ·refine⟨_,cap,g,0,rfl,fun _=>rfl,fun j hj=>?_,hn⟩;rw[Nat.zero_add,cell_of_row w g j cur 3 (0,0) h3];have:(cur.toList.take (xs.length * 1))[j]? = some (Value.int .i64 (xs.getD j 0)):=by rw[h7];simp[hj]
  rw[List.getElem?_take,if_pos (by omega)] at this;simpa using this
theorem OwX.frz {α:Type}{E:TypeId}{k:Nat}{El:World->List Value->α->Prop}{w:World}{B g n cap:Nat}{xs:List α}(h:OwX E k El w B (.slice (some ⟨g,0,none⟩) n cap) n xs) (j:Nat):w.frozen? ⟨g,j,none⟩=false:=by
 obtain⟨_,h1,_⟩:=h;exact World.ownsRow.frozenAt h1 j
theorem OwX.intssE {E:TypeId}{w:World}{B n:Nat}{v:Value}{xs:Jb}(h:OwX E 1 EVi w B v n xs) (hn:n<=100000) (hl:∀x∈xs,x.length<=100000):Intss w v xs:=by
 obtain rfl:=h.length;rcases Nat.eq_zero_or_pos xs.length with h0|h0
 ·obtain⟨a,c,rfl⟩:=h.shape;obtain rfl:=List.length_eq_zero_iff.1 h0;exact⟨a,c,0,0,rfl,by simp,by intro j hj;simp at hj,by simp⟩
 ·obtain⟨g,cap,rfl,_⟩:=h.form h0;refine⟨_,cap,g,0,rfl,fun _=>rfl,fun j hj=>?_,by omega⟩;have hx:xs[j]? = some (xs.getD j []):=by rw[getD_eq hj];exact List.getElem?_eq_some_iff.2 ⟨hj,rfl⟩
  obtain⟨cs,h1,⟨u,h2,h3⟩,h4⟩:=h.cells hx;refine⟨u,?_,OI.intsE h3 (by have:=hl _ (List.mem_of_getElem? hx);omega)⟩;have:=h4 0 u (by rw[h2];rfl)
  rw[Nat.mul_one,Nat.add_zero] at this;rw[Nat.zero_add];exact this
def SmC (c:Cs):Prop:=c.1.length<=100000/\c.2.1.length<=100000/\c.2.2.length<=100000/\(∀x∈c.2.1,x.length<=100000)/\∀x∈c.2.2,x.length<=100000
theorem OwX.css {w:World}{B:Nat}{v:Value}{cs:List Cs}{f:Nat->List Value}(h:OwX 95 3 ECm w B v cs.length (mixL csNil cs f cs.length)) (hn:cs.length<=100000) (hb:∀c∈cs,SmC c):CsS w v cs:=by
 rcases Nat.eq_zero_or_pos cs.length with h0|h0
 ·obtain⟨a,c,rfl⟩:=h.shape;obtain rfl:=List.length_eq_zero_iff.1 h0;exact⟨a,c,0,0,rfl,by simp,by intro j hj;simp at hj,by simp⟩
 ·obtain⟨g,cap,rfl,_⟩:=h.form h0;refine⟨_,cap,g,0,rfl,fun _=>rfl,fun j hj=>?_,by omega⟩;obtain⟨us,h1,⟨u0,u1,u2,e,k0,k1,k2⟩,h4⟩:=h.cells (mixL_all hj);obtain⟨s0,s1,s2,s3,s4⟩:=hb (cs.getD j csNil) (by rw[getD_eq hj];exact List.getElem_mem hj);subst e;refine⟨u0,u1,u2,?_,?_,?_,OI.intsE k0 (by omega),k1.intssE s1 s3,k2.intssE s2 s4⟩
  ·have:=h4 0 u0 rfl;rw[Nat.zero_add];exact this
  ·have:=h4 1 u1 rfl;rw[Nat.zero_add];exact this
  ·have:=h4 2 u2 rfl;rw[Nat.zero_add];exact this
theorem OwX.kssM {w:World}{B:Nat}{v:Value}{ss:Jc}{f:Nat->List Value}(h:OwX 180 1 EMm w B v ss.length (mixL [] ss f ss.length)) (hn:ss.length<=100000) (hl:∀x∈ss,x.length<=1000000):KSS 8 w v ss:=by
 rcases Nat.eq_zero_or_pos ss.length with h0|h0
 ·obtain⟨a,c,rfl⟩:=h.shape;obtain rfl:=List.length_eq_zero_iff.1 h0;exact⟨a,c,0,0,rfl,by simp,by intro j hj;simp at hj,by simp⟩
 ·obtain⟨g,cap,rfl,_⟩:=h.form h0;refine⟨_,cap,g,0,rfl,fun _=>rfl,fun j hj=>?_,by omega⟩;obtain⟨us,h1,⟨u,h2,h3⟩,h4⟩:=h.cells (mixL_all hj);refine⟨u,?_,h3.ks (by have:=hl (ss.getD j []) (by rw[getD_eq hj];exact List.getElem_mem hj);omega)⟩;have:=h4 0 u (by rw[h2];rfl)
  rw[Nat.mul_one,Nat.add_zero] at this;rw[Nat.zero_add];exact this
def opsCopy5:List Oper:=[⟨some 22,.fieldAddr 29 (.tmp 1) 0,0,"execution.go:59",#[],none⟩,⟨some 23,.fieldAddr 24 (.tmp 22) 3,0,"execution.go:59",#[⟨0,.data⟩],none⟩,⟨some 24,.load 22 (.tmp 23),22,"execution.go:59",#[⟨1,.data⟩],none⟩,⟨some 25,.move (.tmp 3),3,"execution.go:59",#[],none⟩,⟨some 26,.fieldAddr 95 (.tmp 4) 0,0,"execution.go:59",#[],none⟩,⟨some 27,.load 48 (.tmp 26),48,"execution.go:59",#[⟨4,.data⟩],none⟩,⟨some 28,.call { callee:=.value (.func 130),args:=#[.tmp 27],argTypes:=#[48] },48,"execution.go:59",#[⟨5,.data⟩],none⟩,⟨some 29,.fieldAddr 95 (.tmp 4) 1,0,"execution.go:59",#[],none⟩,⟨some 30,.load 78 (.tmp 29),78,"execution.go:59",#[⟨7,.data⟩],none⟩,⟨some 31,.call { callee:=.value (.func 131),args:=#[.tmp 30],argTypes:=#[78] },78,"execution.go:59",#[⟨8,.data⟩,⟨6,.chain⟩],none⟩,⟨some 32,.fieldAddr 95 (.tmp 4) 2,0,"execution.go:59",#[],none⟩,⟨some 33,.load 78 (.tmp 32),78,"execution.go:59",#[⟨10,.data⟩],none⟩,⟨some 34,.call { callee:=.value (.func 131),args:=#[.tmp 33],argTypes:=#[78] },78,"execution.go:59",#[⟨11,.data⟩,⟨9,.chain⟩],none⟩,⟨some 35,.build 95 #[(0,.tmp 28),(1,.tmp 31),(2,.tmp 34)],95,"execution.go:59",#[⟨6,.data⟩,⟨9,.data⟩,⟨12,.data⟩],none⟩,⟨some 36,.indexAddr 22 (.tmp 24) (.tmp 25),0,"execution.go:59",#[⟨2,.data⟩,⟨3,.data⟩,⟨0,.phase⟩,⟨1,.phase⟩,⟨2,.phase⟩,⟨3,.phase⟩,⟨4,.phase⟩,⟨5,.phase⟩,⟨6,.phase⟩,⟨7,.phase⟩,⟨8,.phase⟩,⟨9,.phase⟩,⟨10,.phase⟩,⟨11,.phase⟩,⟨12,.phase⟩,⟨13,.phase⟩],none⟩,⟨none,.store 95 (.tmp 36) (.tmp 35),0,"execution.go:59",#[⟨14,.data⟩,⟨13,.data⟩,⟨12,.chain⟩,⟨0,.phase⟩,⟨1,.phase⟩,⟨2,.phase⟩,⟨3,.phase⟩,⟨4,.phase⟩,⟨5,.phase⟩,⟨6,.phase⟩,⟨7,.phase⟩,⟨8,.phase⟩,⟨9,.phase⟩,⟨10,.phase⟩,⟨11,.phase⟩,⟨12,.phase⟩,⟨13,.phase⟩],none⟩]
theorem regCopy5 {w:World}{x0 x2 x5 x6 x7 x8 x9 x10 x11 x12 x13 x14 x15 x16 x17 x18 x19 x20 x21 x22 x23 x24 x25 x26 x27 x28 x29 x30 x31 x32 x33 x34 x35 x36 x37 x38 x39 x40 x41 x42 x43 x44 x45 x46 x47 x48 x49 x50 x51 x52 x53 x54 x55 x56 x57 x58 x59 x60 x61:Value}{Q:Exit->Act->World->Prop}{b1 b4 g cap B k zc zd zf:Nat}{za zb ze:Option Addr}{cs:List Cs}{xs:List (Cs ⊕ List Value)}{x:Cs}
  (c3:w.cell? ⟨b1,3,none⟩=some (.slice (some ⟨g,0,none⟩) cs.length cap)) (c0:w.cell? ⟨b4,0,none⟩=some (.slice za x.1.length zc)) (c1:w.cell? ⟨b4,1,none⟩=some (.slice zb x.2.1.length zd)) (c2:w.cell? ⟨b4,2,none⟩=some (.slice ze x.2.2.length zf))
  (i0:Ints w (.slice za x.1.length zc) x.1) (i1:Intss w (.slice zb x.2.1.length zd) x.2.1) (i2:Intss w (.slice ze x.2.2.length zf) x.2.2) (hl0:x.1.length<=1000000) (hl1:x.2.1.length<=100000) (hl2:x.2.2.length<=100000) (hm1:∀y∈x.2.1,y.length<=1000000) (hm2:∀y∈x.2.2,y.length<=1000000)
  (ho:OwX 95 3 ECm w B (.slice (some ⟨g,0,none⟩) cs.length cap) cs.length xs) (hk:k < cs.length) (hBw:B<=w.heap.size) (hBg:B<=g)
  (hfin:∀(y6 y9 y12 y13 _y15:Value) (W:World),(((fun i=>decide (i < 16)) 15=false->Below w.heap.size w W)/\Below B w W/\((fun i=>decide (i < 16)) 15=true->OwX 95 3 ECm W B (.slice (some ⟨g,0,none⟩) cs.length cap) cs.length (xs.set k (.inl x))))->(OI W w.heap.size y6 x.1.length x.1)->(OwX 48 1 EVi W w.heap.size y9 x.2.1.length x.2.1)->(OwX 48 1 EVi W w.heap.size y12 x.2.2.length x.2.2)->(∃a0 c0 a1 c1 a2 c2,y13 = .agg #[.slice a0 x.1.length c0,.slice a1 x.2.1.length c1,.slice a2 x.2.2.length c2]/\OI W w.heap.size (.slice a0 x.1.length c0) x.1.length x.1/\OwX 48 1 EVi W w.heap.size (.slice a1 x.2.1.length c1) x.2.1.length x.2.1/\OwX 48 1 EVi W w.heap.size (.slice a2 x.2.2.length c2) x.2.2.length x.2.2)->(True)->Q .normal ⟨#[x0,.pointer (some ⟨b1,0,none⟩),x2,.int .i64 (k:Int),.pointer (some ⟨b4,0,none⟩),x5,x6,x7,x8,x9,x10,x11,x12,x13,x14,x15,x16,x17,x18,x19,x20,x21,.pointer (some ⟨b1,0,none⟩),.pointer (some ⟨b1,3,none⟩),.slice (some ⟨g,0,none⟩) cs.length cap,.int .i64 (k:Int),.pointer (some ⟨b4,0,none⟩),.slice za x.1.length zc,y6,.pointer (some ⟨b4,1,none⟩),.slice zb x.2.1.length zd,y9,.pointer (some ⟨b4,2,none⟩),.slice ze x.2.2.length zf,y12,y13,.pointer (some ⟨g,k * 3,none⟩),x37,x38,x39,x40,x41,x42,x43,x44,x45,x46,x47,x48,x49,x50,x51,x52,x53,x54,x55,x56,x57,x58,x59,x60,x61],[]⟩ W) :
  (Code.region 5 opsCopy5.toArray true).wp Tryz.prog Q ⟨#[x0,.pointer (some ⟨b1,0,none⟩),x2,.int .i64 (k:Int),.pointer (some ⟨b4,0,none⟩),x5,x6,x7,x8,x9,x10,x11,x12,x13,x14,x15,x16,x17,x18,x19,x20,x21,x22,x23,x24,x25,x26,x27,x28,x29,x30,x31,x32,x33,x34,x35,x36,x37,x38,x39,x40,x41,x42,x43,x44,x45,x46,x47,x48,x49,x50,x51,x52,x53,x54,x55,x56,x57,x58,x59,x60,x61],[]⟩ w:=by
 have hki:(k:Int) < (cs.length:Int):=by omega
 refine wp_region_sg (l:=opsCopy5) (F:=(fun ys=>⟨#[x0,.pointer (some ⟨b1,0,none⟩),x2,.int .i64 (k:Int),.pointer (some ⟨b4,0,none⟩),x5,x6,x7,x8,x9,x10,x11,x12,x13,x14,x15,x16,x17,x18,x19,x20,x21,ys 0,ys 1,ys 2,ys 3,ys 4,ys 5,ys 6,ys 7,ys 8,ys 9,ys 10,ys 11,ys 12,ys 13,ys 14,x37,x38,x39,x40,x41,x42,x43,x44,x45,x46,x47,x48,x49,x50,x51,x52,x53,x54,x55,x56,x57,x58,x59,x60,x61],[]⟩)) (Φ:=[eqV (.pointer (some ⟨b1,0,none⟩)),eqV (.pointer (some ⟨b1,3,none⟩)),eqV (.slice (some ⟨g,0,none⟩) cs.length cap),eqV (.int .i64 (k:Int)),eqV (.pointer (some ⟨b4,0,none⟩)),eqV (.slice za x.1.length zc),fun W v=>OI W w.heap.size v x.1.length x.1,eqV (.pointer (some ⟨b4,1,none⟩)),eqV (.slice zb x.2.1.length zd),fun W v=>OwX 48 1 EVi W w.heap.size v x.2.1.length x.2.1,eqV (.pointer (some ⟨b4,2,none⟩)),eqV (.slice ze x.2.2.length zf),fun W v=>OwX 48 1 EVi W w.heap.size v x.2.2.length x.2.2,fun W v=>∃a0 c0 a1 c1 a2 c2,v = .agg #[.slice a0 x.1.length c0,.slice a1 x.2.1.length c1,.slice a2 x.2.2.length c2]/\OI W w.heap.size (.slice a0 x.1.length c0) x.1.length x.1/\OwX 48 1 EVi W w.heap.size (.slice a1 x.2.1.length c1) x.2.1.length x.2.1/\OwX 48 1 EVi W w.heap.size (.slice a2 x.2.2.length c2) x.2.2.length x.2.2,eqV (.pointer (some ⟨g,k * 3,none⟩)),anyV]) (R:=(fun W W'=>KeepX 95 W W')) (G:=(fun D _ W=>(D 15=false->Below w.heap.size w W)/\Below B w W/\(D 15=true->OwX 95 3 ECm W B (.slice (some ⟨g,0,none⟩) cs.length cap) cs.length (xs.set k (.inl x))))) ⟨?s0,?s1,?s2,?s3,?s4,?s5,?s6,?s7,?s8,?s9,?s10,?s11,?s12,?s13,?s14,?s15,trivial⟩ (fun i=>([x22,x23,x24,x25,x26,x27,x28,x29,x30,x31,x32,x33,x34,x35,x36,undef]:List Value).getD i undef) (by kernel_rfl) (by kernel_rfl) ⟨sE,sE,sE,sE,sE,sE,fun _ _ _ h r=>OI.other h (by decide) r,sE,sE,fun _ _ _ h r=>h.other (EVi.stab (by decide)) (by decide) r,sE,sE,fun _ _ _ h r=>h.other (EVi.stab (by decide)) (by decide) r,fun _ _ _ ⟨a0,c0,a1,c1,a2,c2,h0,h1,h2,h3⟩ r=>⟨a0,c0,a1,c1,a2,c2,h0,OI.other h1 (by decide) r,h2.other (EVi.stab (by decide)) (by decide) r,h3.other (EVi.stab (by decide)) (by decide) r⟩,sE,fun _ _ _ h _=>h,trivial⟩ ?g0 ?gx ?fin
 case s0|s3|s4|s7|s10=>
  refine .q0 (wantU rfl) (fun _=>KeepX.refl _ _) (fun _ _ _ h=>h) (fun _=>rfl) fun ys W K hK=>?_;go_simp;exact hK
 case s1=>
  refine .q1 (wantU rfl) (fun _=>KeepX.refl _ _) (fun _ _ _ h=>h) (fun _=>rfl) rfl (fun _ _ h=>h) fun ys W K hK=>?_;dsimp [updG]
  go_simp;exact hK
 case s2=>
  refine StepG.mk rfl (openY 1 fun y1=>fun ys D W K hD hcl hd hG hK=>?_);obtain rfl:=(hd.get 1 rfl).2;dsimp [updG]
  have d15:=hcl.no (j:=15) (i:=2) rfl (by kernel_rfl) hD;have hb:=hG.1 d15;have c:=cell_kept hb c3;go_simp;exact hK _ _ (KeepX.refl _ _) hG rfl
 case s5=>
  refine StepG.mk rfl (openY 4 fun y4=>fun ys D W K hD hcl hd hG hK=>?_);obtain rfl:=(hd.get 4 rfl).2;dsimp [updG]
  have d15:=hcl.no (j:=15) (i:=5) rfl (by kernel_rfl) hD;have hb:=hG.1 d15;have c:=cell_kept hb c0;go_simp;exact hK _ _ (KeepX.refl _ _) hG rfl
 case s6=>
  refine StepG.mk rfl (openY 5 fun y5=>fun ys D W K hD hcl hd hG hK=>?_);obtain rfl:=(hd.get 5 rfl).2;dsimp [updG]
  have d15:=hcl.no (j:=15) (i:=6) rfl (by kernel_rfl) hD;have hb:=hG.1 d15;go_simp;refine(cloneInK (i0.keep hb) hl0).mono ?_;rintro e W9 ⟨u9,rfl,h9,hb9⟩;exact hK _ _ (KeepX.below hb9) ⟨fun _=>btt hb hb9,hG.2.1.trans (hb9.mono (Nat.le_trans hBw hb.size)),fun h=>by rw[show addG D 6 15=D 15 from rfl,d15] at h;cases h⟩ (h9.base hb.size)
 case s8=>
  refine StepG.mk rfl (openY 7 fun y7=>fun ys D W K hD hcl hd hG hK=>?_);obtain rfl:=(hd.get 7 rfl).2;dsimp [updG]
  have d15:=hcl.no (j:=15) (i:=8) rfl (by kernel_rfl) hD;have hb:=hG.1 d15;have c:=cell_kept hb c1;go_simp;exact hK _ _ (KeepX.refl _ _) hG rfl
 case s9=>
  refine StepG.mk rfl (openY 8 fun y8=>fun ys D W K hD hcl hd hG hK=>?_);obtain rfl:=(hd.get 8 rfl).2;dsimp [updG]
  have d15:=hcl.no (j:=15) (i:=9) rfl (by kernel_rfl) hD;have hb:=hG.1 d15;go_simp;refine(vectorsX (i1.keep hb) hl1 hm1).mono ?_;rintro e W9 ⟨u9,rfl,h9,hb9⟩;exact hK _ _ (KeepX.below hb9) ⟨fun _=>btt hb hb9,hG.2.1.trans (hb9.mono (Nat.le_trans hBw hb.size)),fun h=>by rw[show addG D 9 15=D 15 from rfl,d15] at h;cases h⟩ (h9.base hb.size)
 case s11=>
  refine StepG.mk rfl (openY 10 fun y10=>fun ys D W K hD hcl hd hG hK=>?_);obtain rfl:=(hd.get 10 rfl).2;dsimp [updG]
  have d15:=hcl.no (j:=15) (i:=11) rfl (by kernel_rfl) hD;have hb:=hG.1 d15;have c:=cell_kept hb c2;go_simp;exact hK _ _ (KeepX.refl _ _) hG rfl
 case s12=>
  refine StepG.mk rfl (openY 11 fun y11=>fun ys D W K hD hcl hd hG hK=>?_);obtain rfl:=(hd.get 11 rfl).2;dsimp [updG]
  have d15:=hcl.no (j:=15) (i:=12) rfl (by kernel_rfl) hD;have hb:=hG.1 d15;go_simp;refine(vectorsX (i2.keep hb) hl2 hm2).mono ?_;rintro e W9 ⟨u9,rfl,h9,hb9⟩;exact hK _ _ (KeepX.below hb9) ⟨fun _=>btt hb hb9,hG.2.1.trans (hb9.mono (Nat.le_trans hBw hb.size)),fun h=>by rw[show addG D 12 15=D 15 from rfl,d15] at h;cases h⟩ (h9.base hb.size)
 case s13=>
  refine StepG.mk rfl (openY 6 fun y6=>openY 9 fun y9=>openY 12 fun y12=>fun ys D W K _ _ hd hG hK=>?_);have ⟨d6,e6⟩:=hd.get 6 rfl;have ⟨d9,e9⟩:=hd.get 9 rfl;have ⟨d12,e12⟩:=hd.get 12 rfl;dsimp [updG]
  obtain⟨a0,c0,rfl⟩:=OI.shape e6;obtain⟨a1,c1,rfl⟩:=e9.shape;obtain⟨a2,c2,rfl⟩:=e12.shape;go_simp;exact hK _ _ (KeepX.refl _ _) hG ⟨a0,c0,a1,c1,a2,c2,rfl,e6,e9,e12⟩
 case s14=>
  refine .q2 (wantU rfl) (fun _=>KeepX.refl _ _) (fun _ _ _ h=>h) (fun _=>rfl) rfl (fun _ _ h=>h) (fun _ _ h=>h) fun ys W K hK=>?_;dsimp [updG]
  go_simp;exact hK
 case s15=>
  refine StepG.mk rfl (openY 14 fun y14=>openY 13 fun y13=>fun ys D W K hD _ hd hG hK=>?_);obtain rfl:=(hd.get 14 rfl).2;have ⟨d13,e13⟩:=hd.get 13 rfl;dsimp [updG]
  have hb:=hG.1 hD;have hO:=ho.keep (ECm.stab (by decide) (by decide)) hb;obtain⟨a0,c0,a1,c1,a2,c2,rfl,k0,k1,k2⟩:=e13;obtain⟨o1,o2⟩:=hO.store3 (ECm.stab (by decide) (by decide)) hk (u0:=.slice a0 x.1.length c0) (u1:=.slice a1 x.2.1.length c1) (u2:=.slice a2 x.2.2.length c2) rfl rfl rfl (x:=.inl x) ⟨_,_,_,rfl,OI.base k0 (Nat.zero_le _),k1.base (Nat.zero_le _),k2.base (Nat.zero_le _)⟩;obtain⟨p0,p1,p2,f0,f1,f2,f3,f4,f5⟩:=hO.pre3 hk (.slice a0 x.1.length c0) (.slice a1 x.2.1.length c1);go_simp;exact hK undef _ o2 ⟨fun h=>by simp[addG] at h,((hG.2.1.setCell (p:=⟨g,k * 3,none⟩) hBg _).setCell (p:=⟨g,k * 3+1,none⟩) hBg _).setCell (p:=⟨g,k * 3+2,none⟩) hBg _,fun _=>o1⟩ trivial
 case g0=>exact⟨fun _=>below_drewN (Below.refl _ w) 1,(below_drewN (Below.refl _ w) 1).mono hBw,fun h=>by cases h⟩
 case gx=>exact fun D D' _ W h hG=>⟨fun h1=>hG.1 ((h 15 (by decide)).trans h1),hG.2.1,fun h1=>hG.2.2 ((h 15 (by decide)).trans h1)⟩
 case fin=>
  intro ys W hG hp;try dsimp only
  rw[(hpE hp 0:ys 0=_),(hpE hp 1:ys 1=_),(hpE hp 2:ys 2=_),(hpE hp 3:ys 3=_),(hpE hp 4:ys 4=_),(hpE hp 5:ys 5=_),(hpE hp 7:ys 7=_),(hpE hp 8:ys 8=_),(hpE hp 10:ys 10=_),(hpE hp 11:ys 11=_),(hpE hp 14:ys 14=_)];exact hfin (ys 6) (ys 9) (ys 12) (ys 13) (ys 15) W hG (hpE hp 6) (hpE hp 9) (hpE hp 12) (hpE hp 13) (hpE hp 15)
def opsCopy11:List Oper:=[⟨some 53,.fieldAddr 29 (.tmp 1) 1,0,"execution.go:63",#[],none⟩,⟨some 54,.fieldAddr 27 (.tmp 53) 1,0,"execution.go:63",#[⟨0,.data⟩],none⟩,⟨some 55,.load 25 (.tmp 54),25,"execution.go:63",#[⟨1,.data⟩],none⟩,⟨some 56,.move (.tmp 5),3,"execution.go:63",#[],none⟩,⟨some 57,.move (.tmp 6),180,"execution.go:63",#[],none⟩,⟨some 58,.call { callee:=.value (.func 133),args:=#[.tmp 57],argTypes:=#[180] },180,"execution.go:63",#[⟨4,.data⟩],none⟩,⟨some 59,.indexAddr 25 (.tmp 55) (.tmp 56),0,"execution.go:63",#[⟨2,.data⟩,⟨3,.data⟩,⟨0,.phase⟩,⟨1,.phase⟩,⟨2,.phase⟩,⟨3,.phase⟩,⟨4,.phase⟩,⟨5,.phase⟩],none⟩,⟨none,.store 180 (.tmp 59) (.tmp 58),0,"execution.go:63",#[⟨6,.data⟩,⟨5,.data⟩,⟨5,.chain⟩,⟨0,.phase⟩,⟨1,.phase⟩,⟨2,.phase⟩,⟨3,.phase⟩,⟨4,.phase⟩,⟨5,.phase⟩],none⟩]
theorem regCopy11 {w:World}{x0 x2 x3 x4 x7 x8 x9 x10 x11 x12 x13 x14 x15 x16 x17 x18 x19 x20 x21 x22 x23 x24 x25 x26 x27 x28 x29 x30 x31 x32 x33 x34 x35 x36 x37 x38 x39 x40 x41 x42 x43 x44 x45 x46 x47 x48 x49 x50 x51 x52 x53 x54 x55 x56 x57 x58 x59 x60 x61:Value}{Q:Exit->Act->World->Prop}{b1 g cap B k zc:Nat}{za:Option Addr}{ss:Jc}{xs:List (Jb ⊕ List Value)}{x:Jb}
  (c5:w.cell? ⟨b1,5,none⟩=some (.slice (some ⟨g,0,none⟩) ss.length cap))
  (i0:KS 8 w (.slice za x.length zc) x) (hl0:x.length<=1000000)
  (ho:OwX 180 1 EMm w B (.slice (some ⟨g,0,none⟩) ss.length cap) ss.length xs) (hk:k < ss.length) (hBw:B<=w.heap.size) (hBg:B<=g)
  (hfin:∀(y5 _y7:Value) (W:World),(((fun i=>decide (i < 8)) 7=false->Below w.heap.size w W)/\Below B w W/\((fun i=>decide (i < 8)) 7=true->OwX 180 1 EMm W B (.slice (some ⟨g,0,none⟩) ss.length cap) ss.length (xs.set k (.inl x))))->(∃a0 c0,y5 = .slice a0 x.length c0/\OwX 178 8 EI W w.heap.size (.slice a0 x.length c0) x.length x)->(True)->Q .normal ⟨#[x0,.pointer (some ⟨b1,0,none⟩),x2,x3,x4,.int .i64 (k:Int),.slice za x.length zc,x7,x8,x9,x10,x11,x12,x13,x14,x15,x16,x17,x18,x19,x20,x21,x22,x23,x24,x25,x26,x27,x28,x29,x30,x31,x32,x33,x34,x35,x36,x37,x38,x39,x40,x41,x42,x43,x44,x45,x46,x47,x48,x49,x50,x51,x52,.pointer (some ⟨b1,4,none⟩),.pointer (some ⟨b1,5,none⟩),.slice (some ⟨g,0,none⟩) ss.length cap,.int .i64 (k:Int),.slice za x.length zc,y5,.pointer (some ⟨g,k,none⟩),x60,x61],[]⟩ W) :
  (Code.region 11 opsCopy11.toArray true).wp Tryz.prog Q ⟨#[x0,.pointer (some ⟨b1,0,none⟩),x2,x3,x4,.int .i64 (k:Int),.slice za x.length zc,x7,x8,x9,x10,x11,x12,x13,x14,x15,x16,x17,x18,x19,x20,x21,x22,x23,x24,x25,x26,x27,x28,x29,x30,x31,x32,x33,x34,x35,x36,x37,x38,x39,x40,x41,x42,x43,x44,x45,x46,x47,x48,x49,x50,x51,x52,x53,x54,x55,x56,x57,x58,x59,x60,x61],[]⟩ w:=by
 have hki:(k:Int) < (ss.length:Int):=by omega
 refine wp_region_sg (l:=opsCopy11) (F:=(fun ys=>⟨#[x0,.pointer (some ⟨b1,0,none⟩),x2,x3,x4,.int .i64 (k:Int),.slice za x.length zc,x7,x8,x9,x10,x11,x12,x13,x14,x15,x16,x17,x18,x19,x20,x21,x22,x23,x24,x25,x26,x27,x28,x29,x30,x31,x32,x33,x34,x35,x36,x37,x38,x39,x40,x41,x42,x43,x44,x45,x46,x47,x48,x49,x50,x51,x52,ys 0,ys 1,ys 2,ys 3,ys 4,ys 5,ys 6,x60,x61],[]⟩)) (Φ:=[eqV (.pointer (some ⟨b1,4,none⟩)),eqV (.pointer (some ⟨b1,5,none⟩)),eqV (.slice (some ⟨g,0,none⟩) ss.length cap),eqV (.int .i64 (k:Int)),eqV (.slice za x.length zc),fun W v=>∃a0 c0,v = .slice a0 x.length c0/\OwX 178 8 EI W w.heap.size (.slice a0 x.length c0) x.length x,eqV (.pointer (some ⟨g,k,none⟩)),anyV]) (R:=(fun W W'=>KeepX 180 W W')) (G:=(fun D _ W=>(D 7=false->Below w.heap.size w W)/\Below B w W/\(D 7=true->OwX 180 1 EMm W B (.slice (some ⟨g,0,none⟩) ss.length cap) ss.length (xs.set k (.inl x))))) ⟨?s0,?s1,?s2,?s3,?s4,?s5,?s6,?s7,trivial⟩ (fun i=>([x53,x54,x55,x56,x57,x58,x59,undef]:List Value).getD i undef) (by kernel_rfl) (by kernel_rfl) ⟨sE,sE,sE,sE,sE,fun _ _ _ ⟨a0,c0,h0,h1⟩ r=>⟨a0,c0,h0,h1.other (EI.stab _) (by decide) r⟩,sE,fun _ _ _ h _=>h,trivial⟩ ?g0 ?gx ?fin
 case s0|s3|s4=>
  refine .q0 (wantU rfl) (fun _=>KeepX.refl _ _) (fun _ _ _ h=>h) (fun _=>rfl) fun ys W K hK=>?_;go_simp;exact hK
 case s1=>
  refine .q1 (wantU rfl) (fun _=>KeepX.refl _ _) (fun _ _ _ h=>h) (fun _=>rfl) rfl (fun _ _ h=>h) fun ys W K hK=>?_;dsimp [updG]
  go_simp;exact hK
 case s2=>
  refine StepG.mk rfl (openY 1 fun y1=>fun ys D W K hD hcl hd hG hK=>?_);obtain rfl:=(hd.get 1 rfl).2;dsimp [updG]
  have d7:=hcl.no (j:=7) (i:=2) rfl (by kernel_rfl) hD;have hb:=hG.1 d7;have c:=cell_kept hb c5;go_simp;exact hK _ _ (KeepX.refl _ _) hG rfl
 case s5=>
  refine StepG.mk rfl (openY 4 fun y4=>fun ys D W K hD hcl hd hG hK=>?_);obtain rfl:=(hd.get 4 rfl).2;dsimp [updG]
  have d7:=hcl.no (j:=7) (i:=5) rfl (by kernel_rfl) hD;have hb:=hG.1 d7;go_simp;refine(cloneMvK (i0.keep hb) hl0).mono ?_;rintro e W9 ⟨u9,rfl,h9,hb9⟩;obtain⟨a0,c0,rfl⟩:=h9.shape;exact hK _ _ (KeepX.below hb9) ⟨fun _=>btt hb hb9,hG.2.1.trans (hb9.mono (Nat.le_trans hBw hb.size)),fun h=>by rw[show addG D 5 7=D 7 from rfl,d7] at h;cases h⟩ ⟨a0,c0,rfl,h9.base hb.size⟩
 case s6=>
  refine .q2 (wantU rfl) (fun _=>KeepX.refl _ _) (fun _ _ _ h=>h) (fun _=>rfl) rfl (fun _ _ h=>h) (fun _ _ h=>h) fun ys W K hK=>?_;dsimp [updG]
  go_simp;exact hK
 case s7=>
  refine StepG.mk rfl (openY 6 fun y6=>openY 5 fun y5=>fun ys D W K hD _ hd hG hK=>?_);obtain rfl:=(hd.get 6 rfl).2;have ⟨d5,e5⟩:=hd.get 5 rfl;dsimp [updG]
  have hb:=hG.1 hD;have hO:=ho.keep (EMm.stab (by decide)) hb;obtain⟨a0,c0,rfl,k0⟩:=e5;obtain⟨o1,o2⟩:=hO.store1 (EMm.stab (by decide)) hk (u:=.slice a0 x.length c0) rfl (x:=.inl x) ⟨_,rfl,k0.base (Nat.zero_le _)⟩;obtain⟨us,hul,hue,huc⟩:=hO.cells (List.getElem?_eq_getElem (show k < xs.length by rw[hO.length];exact hk));have c:=huc 0 us[0] (List.getElem?_eq_getElem _);rw[Nat.mul_one,Nat.add_zero] at c;have f0:=hO.frz k;have hX:KeepX 180 W (W.setCell ⟨g,k,none⟩ (.slice a0 x.length c0)):=by obtain⟨vs,k1,_⟩:=hO;exact KeepX.grown o2 (ownsRow_ty k1)
  go_simp;exact hK undef _ hX ⟨fun h=>by simp[addG] at h,hG.2.1.setCell (p:=⟨g,k,none⟩) hBg _,fun _=>o1⟩ trivial
 case g0=>exact⟨fun _=>below_drewN (Below.refl _ w) 1,(below_drewN (Below.refl _ w) 1).mono hBw,fun h=>by cases h⟩
 case gx=>exact fun D D' _ W h hG=>⟨fun h1=>hG.1 ((h 7 (by decide)).trans h1),hG.2.1,fun h1=>hG.2.2 ((h 7 (by decide)).trans h1)⟩
 case fin=>
  intro ys W hG hp;try dsimp only
  rw[(hpE hp 0:ys 0=_),(hpE hp 1:ys 1=_),(hpE hp 2:ys 2=_),(hpE hp 3:ys 3=_),(hpE hp 4:ys 4=_),(hpE hp 6:ys 6=_)];exact hfin (ys 5) (ys 7) W hG (hpE hp 5) (hpE hp 7)
end Go.Proofs.YtcnedkkcgdkioaaGreat

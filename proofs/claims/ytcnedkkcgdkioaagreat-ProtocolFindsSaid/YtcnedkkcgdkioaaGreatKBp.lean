/- Texts of this claim, put together: TT UR N0 TR TR0. -/
import Derived.Test.YtcnedkkcgdkioaaGreatKBo
import Derived.Deep.OwnRows

set_option maxRecDepth 100000
set_option maxHeartbeats 12800000
namespace Go.Proofs.YtcnedkkcgdkioaaGreat
open Go.RowKit
attribute [local go_sem] Oper.semAt_some
def GT (i m j:Nat):List (Nat × Nat):=(List.range' j (m - j)).map fun q=>(i,q)
def EX (n m i:Nat):List (Nat × Nat):=(List.range' i (n - i)).flatMap fun p=>GT p m 0
theorem lS {i m j:Nat}(h:j < m):GT i m j=(i,j)::GT i m (j+1):=by
 unfold GT;rw[show m - j=(m - (j+1))+1 by omega,List.range'_succ,List.map_cons]
theorem lQ {i m:Nat}:GT i m m = []:=by unfold GT;rw[Nat.sub_self];rfl
theorem oA {n m i:Nat}(h:i < n):EX n m i=GT i m 0++EX n m (i+1):=by
 unfold EX;rw[show n - i=(n - (i+1))+1 by omega,List.range'_succ,List.flatMap_cons]
theorem nY {n m:Nat}:EX n m n = []:=by unfold EX;rw[Nat.sub_self];rfl
def SS (fw:Nat->Value) (x:Nat × Nat):Array Value:=#[.int .i64 (x.1:Int),fw x.2]
def YE (L p:List (Nat × Nat)) (x:Nat × Nat):Prop:=∃r,p++x::r=L
def YF (b1 b2 wb wo n m:Nat) (ca:Option Addr) (cc wc:Nat) (fw:Nat->Value) (W:World):Prop:=
 W.cell? ⟨b1,3,none⟩=some (.slice ca n cc)/\W.cell? ⟨b2,0,none⟩=some (.slice (some ⟨wb,wo,none⟩) m wc)/\∀j,j < m->∃a l c,fw j = .slice a l c/\W.cell? ⟨wb,wo+j,none⟩=some (.slice a l c)
theorem jK {b1 b2 wb wo n m cc wc:Nat}{ca:Option Addr}{fw:Nat->Value}(O:n<=100000) (N:m<=10000000) :
  RM Tryz.prog 134 #[.pointer (some ⟨b1,0,none⟩),.pointer (some ⟨b2,0,none⟩)] (SS fw) (YE (EX n m 0)) (fun xs=>xs=EX n m 0) (YF b1 b2 wb wo n m ca cc wc fw):=by
 intro l J E W d Y g;replace d:=qH d;replace Y:=qH Y;show CallsIn Fence.wide 0 Tryz.prog 134 #[.func (.yield l) #[] #[],.pointer (some ⟨b1,0,none⟩),.pointer (some ⟨b2,0,none⟩)] W _;refine callsIn_of_wp Tryz.func134 rfl trivial ?_
 simp only[Tryz.ntmps134,List.size_toArray,List.length_cons,List.length_nil,Nat.reduceAdd,Nat.reduceSub,Array.replicate_succ,
   Array.replicate_zero,List.push_toArray,List.append_toArray,List.nil_append,List.cons_append]
 obtain⟨c,f,r⟩:=d.out _ _ g;obtain⟨L,o⟩:=AB (EX n m 0);rw[o] at Y|-;have x:Hid ([]++EX n m 0=L):=by show _=_;rw[List.nil_append];exact o
 clear o;gi_wp2;obtain⟨D,w⟩:∃wo,wo=W:=⟨_,rfl⟩;have u:J [] D:=by rw[w];exact g
 rw[<-w];clear w g c f r;gi_loopw [11] (fun s wr=>∃(k:Nat) (p:List (Nat × Nat)),s = .int .i64 k/\k<=n/\J p wr/\Hid (p++EX n m k=L)) (fun s _=>n - (intOf s).toNat)
 case atStart=>exact⟨0,[],rfl,by omega,u,x⟩
 case round=>
  clear u x;obtain⟨k,p,rfl,M,h,a⟩:=hrel;by_cases A:k < n
  ·obtain⟨c,f,r⟩:=d.out _ _ h;have b:Hid (p++(GT k m 0++EX n m (k+1))=L):=(by show _=_;rw[<-oA A];exact a);clear a;gi_wp2;gi_loopw [16] (fun v wr=>∃(i:Nat) (p:List (Nat × Nat)),v = .int .i64 i/\i<=m/\J p wr/\Hid (p++(GT k m i++EX n m (k+1))=L)) (fun v _=>m - (intOf v).toNat)
   case atStart=>exact⟨0,p,rfl,by omega,h,b⟩
   case round=>
    clear b h c f r;obtain⟨i,p,rfl,K,h,a⟩:=hrel;by_cases t:i < m
    ·obtain⟨c,f,r⟩:=d.out _ _ h;have b:Hid (p++((k,i)::(GT k m (i+1)++EX n m (k+1)))=L):=(by show _=_;rw[<-List.cons_append,<-lS t];exact a);obtain⟨P,S,Q,z,C⟩:=r i t;have y:YE L p (k,i):=⟨_,b.out⟩;obtain⟨I,T,G,H,B,R⟩:=Y.out p (k,i) _ h y;simp only[SS,z] at B R;replace R:=qH R;clear h y a r z;gi_wp2;refine⟨rfl,R.out.mono ?_⟩;rintro e F (⟨rfl,j⟩|⟨rfl,j⟩)
     ·clear B R C c f;gi_wp2;go_roundw
      case rel=>exact⟨i+1,_,by go_num,t,j,by show _=_;rw[List.append_assoc];exact b.out⟩
      case measure=>simp[intOf];omega
     ·gi_wp2;refine bodyPost_ret (results_none rfl _ _ _) rfl ?_;exact⟨⟨_,rfl⟩,.inr ⟨_,j⟩⟩
    ·obtain rfl:i=m:=(by omega);have b:Hid (p++EX n i (k+1)=L):=(by show _=_;rw[<-a.out,lQ];rfl);clear a;gi_wp2;go_roundw
     case rel=>exact⟨k+1,p,by go_num,A,h,b⟩
     case measure=>simp[intOf];omega
  ·obtain rfl:k=n:=(by omega);have q:p=L:=(by rw[<-a.out,nY,List.append_nil]);replace q:=qH q;clear Y a;gi_wp2;first|refine bodyPost_end (results_none rfl _ _ _) rfl ?_|refine bodyPost_ret (results_none rfl _ _ _) rfl ?_
   exact⟨⟨_,rfl⟩,.inl ⟨_,q.out,h⟩⟩
theorem jQ {w:World}{n i o an r:Int}{a b g:Option Addr}{f c s d h wc:Nat} :
  Calls Tryz.prog 75 #[.agg #[.int .i64 n,.int .i64 i,.int .i64 o,.slice a f c,.int .i64 an,.slice b s d,.int .i64 r],.slice g h wc] w fun e w'=>e = .returned (.func (.func 134) #[] #[.pointer (some ⟨w.heap.size,0,none⟩),.pointer (some ⟨w.heap.size+1,0,none⟩)])/\w'=(w.alloc (.cells #[.int .i64 n,.int .i64 i,.int .i64 o,.slice a f c,.int .i64 an,.slice b s d,.int .i64 r] 29)).alloc (.cells #[.slice g h wc] 133):=by
 go_enter Tryz.func75, Tryz.ntmps75
 go_wp2;go_ret;exact⟨rfl,rfl⟩
theorem SU (n:Nat):∀(l:List (Int × List Int × Jb)) (vs:Jb) (c:Int) (xs:List Int) (wd:Jb),
  BB n vs (l ++ [(c,xs,wd)])=((AQ n xs wd (BB n vs l).1 wd.length).1,(BB n vs l).2 ++ [(c,wd,(AQ n xs wd (BB n vs l).1 wd.length).2)])
 | [],vs,c,xs,wd=>rfl
 | (a,x,w)::l,vs,c,xs,wd=>by
  rw[List.cons_append,BB,SU n l,BB];rfl
theorem NC (n:Nat):∀(l:List (Int × List Int × Jb)) (vs:Jb),(BB n vs l).2.length=l.length
 | [],_=>rfl
 | (_,_,_)::l,vs=>by rw[BB,List.length_cons,NC n l,List.length_cons]
theorem NB (n:Nat) {K:Nat}:∀(l:List (Int × List Int × Jb)) (vs:Jb),(∀x∈l,x.2.2.length<=K)->(BB n vs l).1.length<=vs.length+l.length * (n * (K+1))
 | [],vs,_=>by simp[BB]
 | (c,xs,wd)::l,vs,h=>by
  rw[BB];have b:=NB n l (AQ n xs wd vs wd.length).1 fun x a=>h x (List.mem_cons_of_mem _ a);have d:=NJ n xs wd vs wd.length;have f:wd.length<=K:=h (c,xs,wd) List.mem_cons_self;have e:n * (wd.length+1)<=n * (K+1):=Nat.mul_le_mul_left _ (by omega);rw[List.length_cons,Nat.succ_mul];show(BB n _ l).1.length<=_
  omega
def LA (cs:List Cs) (ws:Jc) (x:Nat × Nat):Int × List Int × Jb:=((x.1:Int),(cs.getD x.1 BE).1,ws.getD x.2 [])
theorem lR {cs:List Cs}{ws:Jc}(i:Nat):(GT i ws.length 0).map (LA cs ws)=ws.map fun w=>((i:Int),(cs.getD i BE).1,w):=by
 unfold GT;refine List.ext_getElem (by simp) fun k b h=>?_;have a:k < ws.length:=by simpa using h
 simp[LA,List.getD_eq_getElem?_getD,List.getElem?_eq_getElem a]
theorem bG {cs:List Cs}{ws:Jc}:(EX cs.length ws.length 0).map (LA cs ws)=DU cs ws:=by
 have z:cs.zipIdx=(List.range' 0 (cs.length - 0)).map fun p=>(cs.getD p BE,p):=by
  refine List.ext_getElem (by simp) fun k h b=>?_;have a:k < cs.length:=by simpa using h
  simp[List.getD_eq_getElem?_getD,List.getElem?_eq_getElem a]
 unfold EX DU;rw[z,List.map_flatMap,List.flatMap_map];congr 1
 funext p
 rw[lR]
theorem NI {cs:List Cs}{ws:Jc}:(DU cs ws).length=cs.length * ws.length:=by
 unfold DU;rw[List.length_flatMap]
 have:(cs.zipIdx.map fun c=>(ws.map fun w=>((c.2:Int),c.1.1,w)).length)=List.replicate cs.length ws.length:=by
  refine List.ext_getElem (by simp) fun k h a=>by simp
 rw[this,List.sum_replicate_nat]
theorem nZ {n m:Nat}{e:List (Nat × Nat)}{x:Nat × Nat}{r:List (Nat × Nat)}(h:e++x::r=EX n m 0):x.1 < n/\x.2 < m:=by
 have:x∈EX n m 0:=by rw[<-h];simp
 unfold EX at this;obtain⟨p,b,a⟩:=List.mem_flatMap.1 this;unfold GT at a;obtain⟨q,c,rfl⟩:=List.mem_map.1 a;have d:=(List.mem_range'_1.1 b);have f:=(List.mem_range'_1.1 c);exact⟨by show p < n;omega,by show q < m;omega⟩
theorem AA.store1 {α:Type}{E:TypeId}{El:World->List Value->α->Prop}(S:CP E El) {w:World}{B g n cap:Nat}{xs:List α}(h:AA E 1 El w B (.slice (some ⟨g,0,none⟩) n cap) n xs) {j:Nat}(t:j < n) {u:Value}(q:u.oneCell'=true) {x:α}(p:El w [u] x) :
  AA E 1 El (w.setCell ⟨g,j,none⟩ u) B (.slice (some ⟨g,0,none⟩) n cap) n (xs.set j x)/\w.grownBy (w.setCell ⟨g,j,none⟩ u) (some g):=by
 obtain⟨v,b,l,m,o⟩:=h;obtain⟨r,k⟩:=World.ownsRow.stored b j u;have X:=AE.grown k (EY b);have z:v.length=n:=by have:=b.1;simpa using this
 refine⟨⟨v.set j u,r,by rw[List.length_set];exact l,fun y c=>?_,fun i y a=>?_⟩,k⟩
 ·rcases List.mem_or_eq_of_mem_set c with c|rfl
  ·exact m y c
  ·exact q
 ·have s:i < xs.length:=by
   have:=(List.getElem?_eq_some_iff.1 a).1
   rwa [List.length_set] at this
  rw[Nat.mul_one]
  have f:((v.set j u).drop i).take 1 = [(v.set j u)[i]'(by rw[List.length_set];omega)]:=by
   rw[List.drop_eq_getElem_cons (by rw[List.length_set];omega),List.take_succ_cons,List.take_zero]
  rw[f];by_cases e:i=j
  ·subst e;rw[List.getElem?_set_self (by omega)] at a;injection a with a;subst a;rw[List.getElem_set_self];exact S _ _ _ _ p X
  ·rw[List.getElem?_set_ne (fun h=>e h.symm)] at a;rw[List.getElem_set_ne (fun h=>e h.symm)];have d:=o i y a;rw[Nat.mul_one,List.drop_eq_getElem_cons (by omega),List.take_succ_cons,List.take_zero] at d;exact S _ _ _ _ d X
theorem AA.store3 {α:Type}{E:TypeId}{El:World->List Value->α->Prop}(S:CP E El) {w:World}{B g n cap:Nat}{xs:List α}(h:AA E 3 El w B (.slice (some ⟨g,0,none⟩) n cap) n xs) {j:Nat}(M:j < n) {u0 u1 u2:Value}(D:u0.oneCell'=true) (F:u1.oneCell'=true) (G:u2.oneCell'=true) {x:α}(H:El w [u0,u1,u2] x) :
  AA E 3 El (((w.setCell ⟨g,j * 3,none⟩ u0).setCell ⟨g,j * 3+1,none⟩ u1).setCell ⟨g,j * 3+2,none⟩ u2) B (.slice (some ⟨g,0,none⟩) n cap) n (xs.set j x)/\AE E w (((w.setCell ⟨g,j * 3,none⟩ u0).setCell ⟨g,j * 3+1,none⟩ u1).setCell ⟨g,j * 3+2,none⟩ u2):=by
 obtain⟨v,c,I,J,K⟩:=h;obtain⟨d,r⟩:=World.ownsRow.stored c (j * 3) u0;obtain⟨f,s⟩:=World.ownsRow.stored d (j * 3+1) u1;obtain⟨q,t⟩:=World.ownsRow.stored f (j * 3+2) u2;have X:=((AE.grown r (EY c)).trans (AE.grown s (EY d))).trans (AE.grown t (EY f));have p:v.length=n * 3:=c.1;refine⟨⟨_,q,by rw[List.length_set];exact I,fun y b=>?_,fun i y a=>?_⟩,X⟩
 ·rcases List.mem_or_eq_of_mem_set b with b|rfl
  ·rcases List.mem_or_eq_of_mem_set b with b|rfl
   ·rcases List.mem_or_eq_of_mem_set b with b|rfl
    ·exact J y b
    ·exact D
   ·exact F
  ·exact G
 ·have L:i < xs.length:=by
   have:=(List.getElem?_eq_some_iff.1 a).1
   rwa [List.length_set] at this
  have m:∀(l:List Value),l.length=n * 3->(l.drop (i * 3)).take 3 = [l.getD (i * 3) undef,l.getD (i * 3+1) undef,l.getD (i * 3+2) undef]:=fun l O=>by
   rw[List.drop_eq_getElem_cons (by omega),List.drop_eq_getElem_cons (by omega),List.drop_eq_getElem_cons (by omega)];simp only[List.take_succ_cons,List.take_zero,List.getD_eq_getElem?_getD];rw[List.getElem?_eq_getElem (by omega),List.getElem?_eq_getElem (by omega),List.getElem?_eq_getElem (by omega)];rfl
  rw[m _ (by simp only[List.length_set];exact p)];by_cases e:i=j
  ·subst e;rw[List.getElem?_set_self (by omega)] at a;injection a with a;subst a
   have u:(((v.set (i * 3) u0).set (i * 3+1) u1).set (i * 3+2) u2).getD (i * 3) undef=u0:=by
    rw[List.getD_eq_getElem?_getD,List.getElem?_set_ne (by omega),List.getElem?_set_ne (by omega),List.getElem?_set_self (by omega)];rfl
   have z:(((v.set (i * 3) u0).set (i * 3+1) u1).set (i * 3+2) u2).getD (i * 3+1) undef=u1:=by
    rw[List.getD_eq_getElem?_getD,List.getElem?_set_ne (by omega),List.getElem?_set_self (by rw[List.length_set];omega)];rfl
   have A:(((v.set (i * 3) u0).set (i * 3+1) u1).set (i * 3+2) u2).getD (i * 3+2) undef=u2:=by
    rw[List.getD_eq_getElem?_getD,List.getElem?_set_self (by rw[List.length_set,List.length_set];omega)];rfl
   rw[u,z,A];exact S _ _ _ _ H X
  ·rw[List.getElem?_set_ne (fun h=>e h.symm)] at a;have o:=K i y a;rw[m _ p] at o
   have g:∀k,k < 3->(((v.set (j * 3) u0).set (j * 3+1) u1).set (j * 3+2) u2).getD (i * 3+k) undef=v.getD (i * 3+k) undef:=fun k N=>by
    rw[List.getD_eq_getElem?_getD,List.getElem?_set_ne (by omega),List.getElem?_set_ne (by omega),List.getElem?_set_ne (by omega),List.getD_eq_getElem?_getD]
   have C:(((v.set (j * 3) u0).set (j * 3+1) u1).set (j * 3+2) u2).getD (i * 3) undef=v.getD (i * 3) undef:=g 0 (by decide);rw[C,g 1 (by decide),g 2 (by decide)];exact S _ _ _ _ o X
theorem AA.pre3 {α:Type}{E:TypeId}{El:World->List Value->α->Prop}{w:World}{B g n cap:Nat}{xs:List α}(h:AA E 3 El w B (.slice (some ⟨g,0,none⟩) n cap) n xs) {j:Nat}(i:j < n) (u0 u1:Value) :
  ∃p c d,w.cell? ⟨g,j * 3,none⟩=some p/\(w.setCell ⟨g,j * 3,none⟩ u0).cell? ⟨g,j * 3+1,none⟩=some c/\((w.setCell ⟨g,j * 3,none⟩ u0).setCell ⟨g,j * 3+1,none⟩ u1).cell? ⟨g,j * 3+2,none⟩=some d/\
   w.frozen? ⟨g,j * 3,none⟩=false/\(w.setCell ⟨g,j * 3,none⟩ u0).frozen? ⟨g,j * 3+1,none⟩=false/\((w.setCell ⟨g,j * 3,none⟩ u0).setCell ⟨g,j * 3+1,none⟩ u1).frozen? ⟨g,j * 3+2,none⟩=false:=by
 obtain⟨v,k,m,o,q⟩:=h;obtain⟨a,e⟩:=World.ownsRow.stored k (j * 3) u0;obtain⟨b,f⟩:=World.ownsRow.stored a (j * 3+1) u1;have l:v.length=n * 3:=k.1;refine⟨v[j * 3]'(by omega),(v.set (j * 3) u0)[j * 3+1]'(by rw[List.length_set];omega),((v.set (j * 3) u0).set (j * 3+1) u1)[j * 3+2]'(by rw[List.length_set,List.length_set];omega),?_,?_,?_,World.ownsRow.frozenAt k _,World.ownsRow.frozenAt a _,World.ownsRow.frozenAt b _⟩
 ·rw[World.ownsRow.cellAt k (j * 3) (by omega),List.getElem?_eq_getElem]
 ·rw[World.ownsRow.cellAt a (j * 3+1) (by omega),List.getElem?_eq_getElem]
 ·rw[World.ownsRow.cellAt b (j * 3+2) (by omega),List.getElem?_eq_getElem]
def FT (w:World) (cs:List Value):Cs ⊕ List Value->Prop
 | .inl c=>∃u0 u1 u2,cs = [u0,u1,u2]/\OI w 0 u0 c.1.length c.1/\AA 48 1 BD w 0 u1 c.2.1.length c.2.1/\AA 48 1 BD w 0 u2 c.2.2.length c.2.2
 | .inr l=>cs=l
theorem FT.stab {E:TypeId}(f:3 ≠ E) (i:48 ≠ E):CP E FT:=fun w j s x h g=>by
 cases x with
 | inl c=>
  obtain⟨u0,u1,u2,e,a,b,d⟩:=h;exact⟨u0,u1,u2,e,a.other f g,b.other (BD.stab f) i g,d.other (BD.stab f) i g⟩
 | inr l=>exact h
def GH (w:World) (cs:List Value):Jb ⊕ List Value->Prop
 | .inl x=>PF w cs x
 | .inr l=>cs=l
theorem GH.stab {E:TypeId}(h:178 ≠ E):CP E GH:=fun w d s x a b=>by
 cases x with
 | inl c=>exact PF.stab h _ _ _ _ a b
 | inr l=>exact a
def FW {α:Type}(d:α) (cs:List α) (f:Nat->List Value) (i:Nat):List (α ⊕ List Value):=(List.range cs.length).map fun j=>if j < i then .inl (cs.getD j d) else .inr (f j)
theorem LY {α:Type}{d:α}{cs:List α}{f:Nat->List Value}{i:Nat}:(FW d cs f i).length=cs.length:=by simp[FW]
theorem LX {α:Type}{d:α}{cs:List α}{f:Nat->List Value}{i j:Nat}(h:j < cs.length):(FW d cs f i)[j]? = some (if j < i then .inl (cs.getD j d) else .inr (f j)):=by
 rw[FW,List.getElem?_map,List.getElem?_range h];rfl
theorem aB {α:Type}{d:α}{cs:List α}{f:Nat->List Value}{i:Nat}(h:i < cs.length) {x:α}(c:cs.getD i d=x):(FW d cs f i).set i (.inl x)=FW d cs f (i+1):=by
 refine List.ext_getElem? fun j=>?_;by_cases b:j < cs.length
 ·rw[List.getElem?_set,LX b,LX b];by_cases e:i=j
  ·subst e;rw[if_pos rfl,if_pos (by rw[LY];exact h),if_pos (by omega),c]
  ·rw[if_neg e];by_cases a:j < i
   ·rw[if_pos a,if_pos (by omega)]
   ·rw[if_neg a,if_neg (by omega)]
 ·rw[List.getElem?_eq_none (by rw[List.length_set,LY];omega),List.getElem?_eq_none (by rw[LY];omega)]
theorem aA {α:Type}{d:α}{cs:List α}{f:Nat->List Value}{j:Nat}(h:j < cs.length):(FW d cs f cs.length)[j]? = some (.inl (cs.getD j d)):=by
 rw[LX h,if_pos h]
def MG (f:Nat->Value × Value × Value) (n:Nat):List Value:=(List.range (n * 3)).map fun k=>if k % 3=0 then (f (k / 3)).1 else if k % 3=1 then (f (k / 3)).2.1 else (f (k / 3)).2.2
theorem UX {f:Nat->Value × Value × Value}{n:Nat}:(MG f n).length=n * 3:=by simp[MG]
theorem RF {f:Nat->Value × Value × Value}{n k:Nat}(h:k < n * 3):(MG f n)[k]? = some (if k % 3=0 then (f (k / 3)).1 else if k % 3=1 then (f (k / 3)).2.1 else (f (k / 3)).2.2):=by
 rw[MG,List.getElem?_map,List.getElem?_range h];rfl
theorem uB {f:Nat->Value × Value × Value}{n j:Nat}(h:j < n):((MG f n).drop (j * 3)).take 3 = [(f j).1,(f j).2.1,(f j).2.2]:=by
 have l:=UX (f:=f) (n:=n);have g:=RF (f:=f) (n:=n) (k:=j * 3) (by omega);have a:=RF (f:=f) (n:=n) (k:=j * 3+1) (by omega);have b:=RF (f:=f) (n:=n) (k:=j * 3+2) (by omega);rw[if_pos (by omega),show j * 3 / 3=j by omega,List.getElem?_eq_getElem (by omega)] at g;rw[if_neg (by omega),if_pos (by omega),show(j * 3+1) / 3=j by omega,List.getElem?_eq_getElem (by omega)] at a;rw[if_neg (by omega),if_neg (by omega),show(j * 3+2) / 3=j by omega,List.getElem?_eq_getElem (by omega)] at b;injection g with g;injection a with a;injection b with b;rw[List.drop_eq_getElem_cons (by omega),List.drop_eq_getElem_cons (by omega),List.drop_eq_getElem_cons (by omega),g,a,b];rfl
theorem OI.intsE {w:World}{B:Nat}{v:Value}{n:Nat}{xs:List Int}(h:OI w B v n xs) (f:n<=17592186044416):AR w v xs:=by
 obtain rfl:=h.length;rcases h.2 with⟨rfl,b⟩|⟨g,p,c,rfl,i,d,k,l,m,e⟩
 ·obtain rfl:xs = []:=List.length_eq_zero_iff.1 b;exact⟨none,0,0,0,rfl,by simp,by intro j a;simp at a,by simp⟩
 ·refine⟨_,p,g,0,rfl,fun _=>rfl,fun j a=>?_,f⟩;rw[Nat.zero_add,cell_of_row w g j c 3 (0,0) d];have:(c.toList.take (xs.length * 1))[j]? = some (Value.int .i64 (xs.getD j 0)):=by rw[e];simp[a]
  rw[List.getElem?_take,if_pos (by omega)] at this;simpa using this
theorem AA.frz {α:Type}{E:TypeId}{k:Nat}{El:World->List Value->α->Prop}{w:World}{B g n cap:Nat}{xs:List α}(h:AA E k El w B (.slice (some ⟨g,0,none⟩) n cap) n xs) (j:Nat):w.frozen? ⟨g,j,none⟩=false:=by
 obtain⟨_,a,_⟩:=h;exact World.ownsRow.frozenAt a j
theorem AA.intssE {E:TypeId}{w:World}{B n:Nat}{v:Value}{xs:Jb}(h:AA E 1 BD w B v n xs) (o:n<=100000) (l:∀x∈xs,x.length<=100000):BM w v xs:=by
 obtain rfl:=h.length;rcases Nat.eq_zero_or_pos xs.length with d|d
 ·obtain⟨a,c,rfl⟩:=h.shape;obtain rfl:=List.length_eq_zero_iff.1 d;exact⟨a,c,0,0,rfl,by simp,by intro j b;simp at b,by simp⟩
 ·obtain⟨g,p,rfl,_⟩:=h.form d;refine⟨_,p,g,0,rfl,fun _=>rfl,fun j b=>?_,by omega⟩;have e:xs[j]? = some (xs.getD j []):=by rw[AK b];exact List.getElem?_eq_some_iff.2 ⟨b,rfl⟩
  obtain⟨s,m,⟨u,f,i⟩,k⟩:=h.cells e;refine⟨u,?_,OI.intsE i (by have:=l _ (List.mem_of_getElem? e);omega)⟩;have:=k 0 u (by rw[f];rfl)
  rw[Nat.mul_one,Nat.add_zero] at this;rw[Nat.zero_add];exact this
def PH (c:Cs):Prop:=c.1.length<=100000/\c.2.1.length<=100000/\c.2.2.length<=100000/\(∀x∈c.2.1,x.length<=100000)/\∀x∈c.2.2,x.length<=100000
theorem AA.css {w:World}{B:Nat}{v:Value}{cs:List Cs}{f:Nat->List Value}(h:AA 95 3 FT w B v cs.length (FW BE cs f cs.length)) (u:cs.length<=100000) (k:∀c∈cs,PH c):HZ w v cs:=by
 rcases Nat.eq_zero_or_pos cs.length with d|d
 ·obtain⟨a,c,rfl⟩:=h.shape;obtain rfl:=List.length_eq_zero_iff.1 d;exact⟨a,c,0,0,rfl,by simp,by intro j b;simp at b,by simp⟩
 ·obtain⟨g,p,rfl,_⟩:=h.form d;refine⟨_,p,g,0,rfl,fun _=>rfl,fun j b=>?_,by omega⟩;obtain⟨y,t,⟨u0,u1,u2,e,l,m,n⟩,i⟩:=h.cells (aA b);obtain⟨x,s,o,q,r⟩:=k (cs.getD j BE) (by rw[AK b];exact wG b);subst e;refine⟨u0,u1,u2,?_,?_,?_,OI.intsE l (by omega),m.intssE s q,n.intssE o r⟩
  ·have:=i 0 u0 rfl;rw[Nat.zero_add];exact this
  ·have:=i 1 u1 rfl;rw[Nat.zero_add];exact this
  ·have:=i 2 u2 rfl;rw[Nat.zero_add];exact this
theorem AA.kssM {w:World}{B:Nat}{v:Value}{ss:Jc}{f:Nat->List Value}(h:AA 180 1 GH w B v ss.length (FW [] ss f ss.length)) (n:ss.length<=100000) (l:∀x∈ss,x.length<=1000000):BT 8 w v ss:=by
 rcases Nat.eq_zero_or_pos ss.length with d|d
 ·obtain⟨a,c,rfl⟩:=h.shape;obtain rfl:=List.length_eq_zero_iff.1 d;exact⟨a,c,0,0,rfl,by simp,by intro j b;simp at b,by simp⟩
 ·obtain⟨g,p,rfl,_⟩:=h.form d;refine⟨_,p,g,0,rfl,fun _=>rfl,fun j b=>?_,by omega⟩;obtain⟨s,m,⟨u,e,i⟩,k⟩:=h.cells (aA b);refine⟨u,?_,i.ks (by have:=l (ss.getD j []) (by rw[AK b];exact wG b);omega)⟩;have:=k 0 u (by rw[e];rfl)
  rw[Nat.mul_one,Nat.add_zero] at this;rw[Nat.zero_add];exact this
def aV:List Oper:=[⟨some 22,.fieldAddr 29 (.tmp 1) 0,0,"execution.go:59",#[],none⟩,⟨some 23,.fieldAddr 24 (.tmp 22) 3,0,"execution.go:59",#[⟨0,.data⟩],none⟩,⟨some 24,.load 22 (.tmp 23),22,"execution.go:59",#[⟨1,.data⟩],none⟩,⟨some 25,.move (.tmp 3),3,"execution.go:59",#[],none⟩,⟨some 26,.fieldAddr 95 (.tmp 4) 0,0,"execution.go:59",#[],none⟩,⟨some 27,.load 48 (.tmp 26),48,"execution.go:59",#[⟨4,.data⟩],none⟩,⟨some 28,.call { callee:=.value (.func 130),args:=#[.tmp 27],argTypes:=#[48] },48,"execution.go:59",#[⟨5,.data⟩],none⟩,⟨some 29,.fieldAddr 95 (.tmp 4) 1,0,"execution.go:59",#[],none⟩,⟨some 30,.load 78 (.tmp 29),78,"execution.go:59",#[⟨7,.data⟩],none⟩,⟨some 31,.call { callee:=.value (.func 131),args:=#[.tmp 30],argTypes:=#[78] },78,"execution.go:59",#[⟨8,.data⟩,⟨6,.chain⟩],none⟩,⟨some 32,.fieldAddr 95 (.tmp 4) 2,0,"execution.go:59",#[],none⟩,⟨some 33,.load 78 (.tmp 32),78,"execution.go:59",#[⟨10,.data⟩],none⟩,⟨some 34,.call { callee:=.value (.func 131),args:=#[.tmp 33],argTypes:=#[78] },78,"execution.go:59",#[⟨11,.data⟩,⟨9,.chain⟩],none⟩,⟨some 35,.build 95 #[(0,.tmp 28),(1,.tmp 31),(2,.tmp 34)],95,"execution.go:59",#[⟨6,.data⟩,⟨9,.data⟩,⟨12,.data⟩],none⟩,⟨some 36,.indexAddr 22 (.tmp 24) (.tmp 25),0,"execution.go:59",#[⟨2,.data⟩,⟨3,.data⟩,⟨0,.phase⟩,⟨1,.phase⟩,⟨2,.phase⟩,⟨3,.phase⟩,⟨4,.phase⟩,⟨5,.phase⟩,⟨6,.phase⟩,⟨7,.phase⟩,⟨8,.phase⟩,⟨9,.phase⟩,⟨10,.phase⟩,⟨11,.phase⟩,⟨12,.phase⟩,⟨13,.phase⟩],none⟩,⟨none,.store 95 (.tmp 36) (.tmp 35),0,"execution.go:59",#[⟨14,.data⟩,⟨13,.data⟩,⟨12,.chain⟩,⟨0,.phase⟩,⟨1,.phase⟩,⟨2,.phase⟩,⟨3,.phase⟩,⟨4,.phase⟩,⟨5,.phase⟩,⟨6,.phase⟩,⟨7,.phase⟩,⟨8,.phase⟩,⟨9,.phase⟩,⟨10,.phase⟩,⟨11,.phase⟩,⟨12,.phase⟩,⟨13,.phase⟩],none⟩]
theorem rL {w:World}{U x2 x5 x6 x7 x8 x9 V X Y Z a0 a1 a2 a3 a4 a5 a7 a8 e' f0 f1 f2 f3 f4 f5 f6 f7 f8 f9 f' g1 g2 g3 a9 a' b0 b2 b3 b4 b5 b6 b7 b8 b9 b' c0 c2 c3 c4 c5 c6 c7 c8 c9 c' d0 d2 d3:Value}{e0:Exit->Act->World->Prop}{b1 C g cap B k O P S:Nat}{M N Q:Option Addr}{cs:List Cs}{xs:List (Cs ⊕ List Value)}{x:Cs}
  (g5:w.cell? ⟨b1,3,none⟩=some (.slice (some ⟨g,0,none⟩) cs.length cap)) (o:w.cell? ⟨C,0,none⟩=some (.slice M x.1.length O)) (q:w.cell? ⟨C,1,none⟩=some (.slice N x.2.1.length P)) (t:w.cell? ⟨C,2,none⟩=some (.slice Q x.2.2.length S))
  (i0:AR w (.slice M x.1.length O) x.1) (i1:BM w (.slice N x.2.1.length P) x.2.1) (i2:BM w (.slice Q x.2.2.length S) x.2.2) (h1:x.1.length<=1000000) (h4:x.2.1.length<=100000) (h5:x.2.2.length<=100000) (h6:∀y∈x.2.1,y.length<=1000000) (h7:∀y∈x.2.2,y.length<=1000000)
  (ho:AA 95 3 FT w B (.slice (some ⟨g,0,none⟩) cs.length cap) cs.length xs) (hk:k < cs.length) (L:B<=w.heap.size) (T:B<=g)
  (g':∀(y6 y9 d7 d8 _y15:Value) (W:World),(((fun i=>decide (i < 16)) 15=false->Below w.heap.size w W)/\Below B w W/\((fun i=>decide (i < 16)) 15=true->AA 95 3 FT W B (.slice (some ⟨g,0,none⟩) cs.length cap) cs.length (xs.set k (.inl x))))->(OI W w.heap.size y6 x.1.length x.1)->(AA 48 1 BD W w.heap.size y9 x.2.1.length x.2.1)->(AA 48 1 BD W w.heap.size d7 x.2.2.length x.2.2)->(∃z o A q E t,d8 = .agg #[.slice z x.1.length o,.slice A x.2.1.length q,.slice E x.2.2.length t]/\OI W w.heap.size (.slice z x.1.length o) x.1.length x.1/\AA 48 1 BD W w.heap.size (.slice A x.2.1.length q) x.2.1.length x.2.1/\AA 48 1 BD W w.heap.size (.slice E x.2.2.length t) x.2.2.length x.2.2)->(True)->e0 .normal ⟨#[U,.pointer (some ⟨b1,0,none⟩),x2,.int .i64 (k:Int),.pointer (some ⟨C,0,none⟩),x5,x6,x7,x8,x9,V,X,Y,Z,a0,a1,a2,a3,a4,a5,a7,a8,.pointer (some ⟨b1,0,none⟩),.pointer (some ⟨b1,3,none⟩),.slice (some ⟨g,0,none⟩) cs.length cap,.int .i64 (k:Int),.pointer (some ⟨C,0,none⟩),.slice M x.1.length O,y6,.pointer (some ⟨C,1,none⟩),.slice N x.2.1.length P,y9,.pointer (some ⟨C,2,none⟩),.slice Q x.2.2.length S,d7,d8,.pointer (some ⟨g,k * 3,none⟩),a9,a',b0,b2,b3,b4,b5,b6,b7,b8,b9,b',c0,c2,c3,c4,c5,c6,c7,c8,c9,c',d0,d2,d3],[]⟩ W) :
  (Code.region 5 aV.toArray true).wp Tryz.prog e0 ⟨#[U,.pointer (some ⟨b1,0,none⟩),x2,.int .i64 (k:Int),.pointer (some ⟨C,0,none⟩),x5,x6,x7,x8,x9,V,X,Y,Z,a0,a1,a2,a3,a4,a5,a7,a8,e',f0,f1,f2,f3,f4,f5,f6,f7,f8,f9,f',g1,g2,g3,a9,a',b0,b2,b3,b4,b5,b6,b7,b8,b9,b',c0,c2,c3,c4,c5,c6,c7,c8,c9,c',d0,d2,d3],[]⟩ w:=by
 have j8:(k:Int) < (cs.length:Int):=by omega
 refine GB (l:=aV) (F:=(fun s=>⟨#[U,.pointer (some ⟨b1,0,none⟩),x2,.int .i64 (k:Int),.pointer (some ⟨C,0,none⟩),x5,x6,x7,x8,x9,V,X,Y,Z,a0,a1,a2,a3,a4,a5,a7,a8,s 0,s 1,s 2,s 3,s 4,s 5,s 6,s 7,s 8,s 9,s 10,s 11,s 12,s 13,s 14,a9,a',b0,b2,b3,b4,b5,b6,b7,b8,b9,b',c0,c2,c3,c4,c5,c6,c7,c8,c9,c',d0,d2,d3],[]⟩)) (Φ:=[AI (.pointer (some ⟨b1,0,none⟩)),AI (.pointer (some ⟨b1,3,none⟩)),AI (.slice (some ⟨g,0,none⟩) cs.length cap),AI (.int .i64 (k:Int)),AI (.pointer (some ⟨C,0,none⟩)),AI (.slice M x.1.length O),fun W v=>OI W w.heap.size v x.1.length x.1,AI (.pointer (some ⟨C,1,none⟩)),AI (.slice N x.2.1.length P),fun W v=>AA 48 1 BD W w.heap.size v x.2.1.length x.2.1,AI (.pointer (some ⟨C,2,none⟩)),AI (.slice Q x.2.2.length S),fun W v=>AA 48 1 BD W w.heap.size v x.2.2.length x.2.2,fun W v=>∃z o A q E t,v = .agg #[.slice z x.1.length o,.slice A x.2.1.length q,.slice E x.2.2.length t]/\OI W w.heap.size (.slice z x.1.length o) x.1.length x.1/\AA 48 1 BD W w.heap.size (.slice A x.2.1.length q) x.2.1.length x.2.1/\AA 48 1 BD W w.heap.size (.slice E x.2.2.length t) x.2.2.length x.2.2,AI (.pointer (some ⟨g,k * 3,none⟩)),CM]) (R:=(fun W W'=>AE 95 W W')) (G:=(fun D _ W=>(D 15=false->Below w.heap.size w W)/\Below B w W/\(D 15=true->AA 95 3 FT W B (.slice (some ⟨g,0,none⟩) cs.length cap) cs.length (xs.set k (.inl x))))) ⟨?s0,?s1,?s2,?s3,?s4,?s5,?s6,?s7,?s8,?s9,?s10,?s11,?s12,?s13,?s14,?s15,trivial⟩ (fun i=>([e',f0,f1,f2,f3,f4,f5,f6,f7,f8,f9,f',g1,g2,g3,undef]:List Value).getD i undef) (by kernel_rfl) (by kernel_rfl) ⟨sE,sE,sE,sE,sE,sE,fun _ _ _ h r=>OI.other h (by decide) r,sE,sE,fun _ _ _ h r=>h.other (BD.stab (by decide)) (by decide) r,sE,sE,fun _ _ _ h r=>h.other (BD.stab (by decide)) (by decide) r,fun _ _ _ ⟨z,o,A,q,E,t,h0,I,h2,h3⟩ r=>⟨z,o,A,q,E,t,h0,OI.other I (by decide) r,h2.other (BD.stab (by decide)) (by decide) r,h3.other (BD.stab (by decide)) (by decide) r⟩,sE,fun _ _ _ h _=>h,trivial⟩ ?g0 ?gx ?fin
 case s0|s3|s4|s7|s10=>
  refine .q0 (CE rfl) (fun _=>AE.refl _ _) (fun _ _ _ h=>h) (fun _=>rfl) fun s W K d=>?_;go_simp;exact d
 case s1=>
  refine .q1 (CE rfl) (fun _=>AE.refl _ _) (fun _ _ _ h=>h) (fun _=>rfl) rfl (fun _ _ h=>h) fun s W K d=>?_;dsimp [AJ]
  go_simp;exact d
 case s2=>
  refine AL.mk rfl (AD 1 fun y1=>fun s D W K n u e a d=>?_);obtain rfl:=(e.get 1 rfl).2;dsimp [AJ]
  have f:=u.no (j:=15) (i:=2) rfl (by kernel_rfl) n;have b:=a.1 f;have c:=AC b g5;go_simp;exact d _ _ (AE.refl _ _) a rfl
 case s5=>
  refine AL.mk rfl (AD 4 fun y4=>fun s D W K n u e a d=>?_);obtain rfl:=(e.get 4 rfl).2;dsimp [AJ]
  have f:=u.no (j:=15) (i:=5) rfl (by kernel_rfl) n;have b:=a.1 f;have c:=AC b o;go_simp;exact d _ _ (AE.refl _ _) a rfl
 case s6=>
  refine AL.mk rfl (AD 5 fun y5=>fun s D W K n u e a d=>?_);obtain rfl:=(e.get 5 rfl).2;dsimp [AJ]
  have f:=u.no (j:=15) (i:=6) rfl (by kernel_rfl) n;have b:=a.1 f;go_simp;refine(WS (i0.keep b) h1).mono ?_;rintro e2 W9 ⟨u9,rfl,J,H⟩;exact d _ _ (AE.below H) ⟨fun _=>btt b H,a.2.1.trans (H.mono (wI L b.size)),fun h=>by rw[show AP D 6 15=D 15 from rfl,f] at h;cases h⟩ (J.base b.size)
 case s8=>
  refine AL.mk rfl (AD 7 fun y7=>fun s D W K n u e a d=>?_);obtain rfl:=(e.get 7 rfl).2;dsimp [AJ]
  have f:=u.no (j:=15) (i:=8) rfl (by kernel_rfl) n;have b:=a.1 f;have c:=AC b q;go_simp;exact d _ _ (AE.refl _ _) a rfl
 case s9=>
  refine AL.mk rfl (AD 8 fun y8=>fun s D W K n u e a d=>?_);obtain rfl:=(e.get 8 rfl).2;dsimp [AJ]
  have f:=u.no (j:=15) (i:=9) rfl (by kernel_rfl) n;have b:=a.1 f;go_simp;refine(eI (i1.keep b) h4 h6).mono ?_;rintro e2 W9 ⟨u9,rfl,J,H⟩;exact d _ _ (AE.below H) ⟨fun _=>btt b H,a.2.1.trans (H.mono (wI L b.size)),fun h=>by rw[show AP D 9 15=D 15 from rfl,f] at h;cases h⟩ (J.base b.size)
 case s11=>
  refine AL.mk rfl (AD 10 fun k5=>fun s D W K n u e a d=>?_);obtain rfl:=(e.get 10 rfl).2;dsimp [AJ]
  have f:=u.no (j:=15) (i:=11) rfl (by kernel_rfl) n;have b:=a.1 f;have c:=AC b t;go_simp;exact d _ _ (AE.refl _ _) a rfl
 case s12=>
  refine AL.mk rfl (AD 11 fun k6=>fun s D W K n u e a d=>?_);obtain rfl:=(e.get 11 rfl).2;dsimp [AJ]
  have f:=u.no (j:=15) (i:=12) rfl (by kernel_rfl) n;have b:=a.1 f;go_simp;refine(eI (i2.keep b) h5 h7).mono ?_;rintro e2 W9 ⟨u9,rfl,J,H⟩;exact d _ _ (AE.below H) ⟨fun _=>btt b H,a.2.1.trans (H.mono (wI L b.size)),fun h=>by rw[show AP D 12 15=D 15 from rfl,f] at h;cases h⟩ (J.base b.size)
 case s13=>
  refine AL.mk rfl (AD 6 fun y6=>AD 9 fun y9=>AD 12 fun d7=>fun s D W K _ _ e a d=>?_);have ⟨d6,e6⟩:=e.get 6 rfl;have ⟨d9,e9⟩:=e.get 9 rfl;have ⟨i9,e3⟩:=e.get 12 rfl;dsimp [AJ]
  obtain⟨z,o,rfl⟩:=OI.shape e6;obtain⟨A,q,rfl⟩:=e9.shape;obtain⟨E,t,rfl⟩:=e3.shape;go_simp;exact d _ _ (AE.refl _ _) a ⟨z,o,A,q,E,t,rfl,e6,e9,e3⟩
 case s14=>
  refine .q2 (CE rfl) (fun _=>AE.refl _ _) (fun _ _ _ h=>h) (fun _=>rfl) rfl (fun _ _ h=>h) (fun _ _ h=>h) fun s W K d=>?_;dsimp [AJ]
  go_simp;exact d
 case s15=>
  refine AL.mk rfl (AD 14 fun k7=>AD 13 fun d8=>fun s D W K n _ e a d=>?_);obtain rfl:=(e.get 14 rfl).2;have ⟨i',g6⟩:=e.get 13 rfl;dsimp [AJ]
  have b:=a.1 n;have hO:=ho.keep (FT.stab (by decide) (by decide)) b;obtain⟨z,o,A,q,E,t,rfl,k0,k1,k2⟩:=g6;obtain⟨o1,o2⟩:=hO.store3 (FT.stab (by decide) (by decide)) hk (u0:=.slice z x.1.length o) (u1:=.slice A x.2.1.length q) (u2:=.slice E x.2.2.length t) rfl rfl rfl (x:=.inl x) ⟨_,_,_,rfl,OI.base k0 (Nat.zero_le _),k1.base (Nat.zero_le _),k2.base (Nat.zero_le _)⟩;obtain⟨p0,p1,p2,j2,j3,j4,j5,j6,j7⟩:=hO.pre3 hk (.slice z x.1.length o) (.slice A x.2.1.length q);go_simp;exact d undef _ o2 ⟨fun h=>by simp[AP] at h,((a.2.1.setCell (p:=⟨g,k * 3,none⟩) T _).setCell (p:=⟨g,k * 3+1,none⟩) T _).setCell (p:=⟨g,k * 3+2,none⟩) T _,fun _=>o1⟩ trivial
 case g0=>exact⟨fun _=>wH (wB _ w) 1,(wH (wB _ w) 1).mono L,fun h=>by cases h⟩
 case gx=>exact fun D D' _ W h a=>⟨fun I=>a.1 ((h 15 (by decide)).trans I),a.2.1,fun I=>a.2.2 ((h 15 (by decide)).trans I)⟩
 case fin=>
  intro s W a m;try dsimp only
  rw[(AG m 0:s 0=_),(AG m 1:s 1=_),(AG m 2:s 2=_),(AG m 3:s 3=_),(AG m 4:s 4=_),(AG m 5:s 5=_),(AG m 7:s 7=_),(AG m 8:s 8=_),(AG m 10:s 10=_),(AG m 11:s 11=_),(AG m 14:s 14=_)];exact g' (s 6) (s 9) (s 12) (s 13) (s 15) W a (AG m 6) (AG m 9) (AG m 12) (AG m 13) (AG m 15)
def aU:List Oper:=[⟨some 53,.fieldAddr 29 (.tmp 1) 1,0,"execution.go:63",#[],none⟩,⟨some 54,.fieldAddr 27 (.tmp 53) 1,0,"execution.go:63",#[⟨0,.data⟩],none⟩,⟨some 55,.load 25 (.tmp 54),25,"execution.go:63",#[⟨1,.data⟩],none⟩,⟨some 56,.move (.tmp 5),3,"execution.go:63",#[],none⟩,⟨some 57,.move (.tmp 6),180,"execution.go:63",#[],none⟩,⟨some 58,.call { callee:=.value (.func 133),args:=#[.tmp 57],argTypes:=#[180] },180,"execution.go:63",#[⟨4,.data⟩],none⟩,⟨some 59,.indexAddr 25 (.tmp 55) (.tmp 56),0,"execution.go:63",#[⟨2,.data⟩,⟨3,.data⟩,⟨0,.phase⟩,⟨1,.phase⟩,⟨2,.phase⟩,⟨3,.phase⟩,⟨4,.phase⟩,⟨5,.phase⟩],none⟩,⟨none,.store 180 (.tmp 59) (.tmp 58),0,"execution.go:63",#[⟨6,.data⟩,⟨5,.data⟩,⟨5,.chain⟩,⟨0,.phase⟩,⟨1,.phase⟩,⟨2,.phase⟩,⟨3,.phase⟩,⟨4,.phase⟩,⟨5,.phase⟩],none⟩]
theorem rK {w:World}{v Q x3 x4 x7 x8 x9 A C E H I J L M N P S T U V X Y Z a0 a1 a2 a4 a5 a6 a7 a8 a9 a' b0 b2 b3 b5 b6 b7 b8 b9 b' c0 c1 c2 c3 c4 c5 c6 d7 d8 d9 d' e0 e1 e2 c7 c8:Value}{d2:Exit->Act->World->Prop}{b1 g cap B k n:Nat}{z:Option Addr}{ss:Jc}{xs:List (Jb ⊕ List Value)}{x:Jb}
  (e4:w.cell? ⟨b1,5,none⟩=some (.slice (some ⟨g,0,none⟩) ss.length cap))
  (i0:KS 8 w (.slice z x.length n) x) (e':x.length<=1000000)
  (ho:AA 180 1 GH w B (.slice (some ⟨g,0,none⟩) ss.length cap) ss.length xs) (hk:k < ss.length) (d5:B<=w.heap.size) (e7:B<=g)
  (e9:∀(y5 _y7:Value) (W:World),(((fun i=>decide (i < 8)) 7=false->Below w.heap.size w W)/\Below B w W/\((fun i=>decide (i < 8)) 7=true->AA 180 1 GH W B (.slice (some ⟨g,0,none⟩) ss.length cap) ss.length (xs.set k (.inl x))))->(∃b c,y5 = .slice b x.length c/\AA 178 8 EI W w.heap.size (.slice b x.length c) x.length x)->(True)->d2 .normal ⟨#[v,.pointer (some ⟨b1,0,none⟩),Q,x3,x4,.int .i64 (k:Int),.slice z x.length n,x7,x8,x9,A,C,E,H,I,J,L,M,N,P,S,T,U,V,X,Y,Z,a0,a1,a2,a4,a5,a6,a7,a8,a9,a',b0,b2,b3,b5,b6,b7,b8,b9,b',c0,c1,c2,c3,c4,c5,c6,.pointer (some ⟨b1,4,none⟩),.pointer (some ⟨b1,5,none⟩),.slice (some ⟨g,0,none⟩) ss.length cap,.int .i64 (k:Int),.slice z x.length n,y5,.pointer (some ⟨g,k,none⟩),c7,c8],[]⟩ W) :
  (Code.region 11 aU.toArray true).wp Tryz.prog d2 ⟨#[v,.pointer (some ⟨b1,0,none⟩),Q,x3,x4,.int .i64 (k:Int),.slice z x.length n,x7,x8,x9,A,C,E,H,I,J,L,M,N,P,S,T,U,V,X,Y,Z,a0,a1,a2,a4,a5,a6,a7,a8,a9,a',b0,b2,b3,b5,b6,b7,b8,b9,b',c0,c1,c2,c3,c4,c5,c6,d7,d8,d9,d',e0,e1,e2,c7,c8],[]⟩ w:=by
 have g5:(k:Int) < (ss.length:Int):=by omega
 refine GB (l:=aU) (F:=(fun y=>⟨#[v,.pointer (some ⟨b1,0,none⟩),Q,x3,x4,.int .i64 (k:Int),.slice z x.length n,x7,x8,x9,A,C,E,H,I,J,L,M,N,P,S,T,U,V,X,Y,Z,a0,a1,a2,a4,a5,a6,a7,a8,a9,a',b0,b2,b3,b5,b6,b7,b8,b9,b',c0,c1,c2,c3,c4,c5,c6,y 0,y 1,y 2,y 3,y 4,y 5,y 6,c7,c8],[]⟩)) (Φ:=[AI (.pointer (some ⟨b1,4,none⟩)),AI (.pointer (some ⟨b1,5,none⟩)),AI (.slice (some ⟨g,0,none⟩) ss.length cap),AI (.int .i64 (k:Int)),AI (.slice z x.length n),fun W f9=>∃b c,f9 = .slice b x.length c/\AA 178 8 EI W w.heap.size (.slice b x.length c) x.length x,AI (.pointer (some ⟨g,k,none⟩)),CM]) (R:=(fun W W'=>AE 180 W W')) (G:=(fun D _ W=>(D 7=false->Below w.heap.size w W)/\Below B w W/\(D 7=true->AA 180 1 GH W B (.slice (some ⟨g,0,none⟩) ss.length cap) ss.length (xs.set k (.inl x))))) ⟨?s0,?s1,?s2,?s3,?s4,?s5,?s6,?s7,trivial⟩ (fun i=>([d7,d8,d9,d',e0,e1,e2,undef]:List Value).getD i undef) (by kernel_rfl) (by kernel_rfl) ⟨sE,sE,sE,sE,sE,fun _ _ _ ⟨b,c,h0,o⟩ f7=>⟨b,c,h0,o.other (EI.stab _) (by decide) f7⟩,sE,fun _ _ _ h _=>h,trivial⟩ ?g0 ?gx ?fin
 case s0|s3|s4=>
  refine .q0 (CE rfl) (fun _=>AE.refl _ _) (fun _ _ _ h=>h) (fun _=>rfl) fun y W K d=>?_;go_simp;exact d
 case s1=>
  refine .q1 (CE rfl) (fun _=>AE.refl _ _) (fun _ _ _ h=>h) (fun _=>rfl) rfl (fun _ _ h=>h) fun y W K d=>?_;dsimp [AJ]
  go_simp;exact d
 case s2=>
  refine AL.mk rfl (AD 1 fun y1=>fun y D W K q t m a d=>?_);obtain rfl:=(m.get 1 rfl).2;dsimp [AJ]
  have r:=t.no (j:=7) (i:=2) rfl (by kernel_rfl) q;have e:=a.1 r;have d3:=AC e e4;go_simp;exact d _ _ (AE.refl _ _) a rfl
 case s5=>
  refine AL.mk rfl (AD 4 fun y4=>fun y D W K q t m a d=>?_);obtain rfl:=(m.get 4 rfl).2;dsimp [AJ]
  have r:=t.no (j:=7) (i:=5) rfl (by kernel_rfl) q;have e:=a.1 r;go_simp;refine(gD (i0.keep e) e').mono ?_;rintro g3 W9 ⟨u9,rfl,h9,s⟩;obtain⟨b,c,rfl⟩:=h9.shape;exact d _ _ (AE.below s) ⟨fun _=>btt e s,a.2.1.trans (s.mono (wI d5 e.size)),fun h=>by rw[show AP D 5 7=D 7 from rfl,r] at h;cases h⟩ ⟨b,c,rfl,h9.base e.size⟩
 case s6=>
  refine .q2 (CE rfl) (fun _=>AE.refl _ _) (fun _ _ _ h=>h) (fun _=>rfl) rfl (fun _ _ h=>h) (fun _ _ h=>h) fun y W K d=>?_;dsimp [AJ]
  go_simp;exact d
 case s7=>
  refine AL.mk rfl (AD 6 fun y6=>AD 5 fun y5=>fun y D W K q _ m a d=>?_);obtain rfl:=(m.get 6 rfl).2;have ⟨g2,e5⟩:=m.get 5 rfl;dsimp [AJ]
  have e:=a.1 q;have O:=ho.keep (GH.stab (by decide)) e;obtain⟨b,c,rfl,k0⟩:=e5;obtain⟨o1,o2⟩:=O.store1 (GH.stab (by decide)) hk (u:=.slice b x.length c) rfl (x:=.inl x) ⟨_,rfl,k0.base (Nat.zero_le _)⟩;obtain⟨us,g7,g6,f1⟩:=O.cells (List.getElem?_eq_getElem (show k < xs.length by rw[O.length];exact hk));have d3:=f1 0 us[0] (List.getElem?_eq_getElem _);rw[Nat.mul_one,Nat.add_zero] at d3;have f0:=O.frz k;have hX:AE 180 W (W.setCell ⟨g,k,none⟩ (.slice b x.length c)):=by obtain⟨vs,k1,_⟩:=O;exact AE.grown o2 (EY k1)
  go_simp;exact d undef _ hX ⟨fun h=>by simp[AP] at h,a.2.1.setCell (p:=⟨g,k,none⟩) e7 _,fun _=>o1⟩ trivial
 case g0=>exact⟨fun _=>wH (wB _ w) 1,(wH (wB _ w) 1).mono d5,fun h=>by cases h⟩
 case gx=>exact fun D D' _ W h a=>⟨fun o=>a.1 ((h 7 (by decide)).trans o),a.2.1,fun o=>a.2.2 ((h 7 (by decide)).trans o)⟩
 case fin=>
  intro y W a f;try dsimp only
  rw[(AG f 0:y 0=_),(AG f 1:y 1=_),(AG f 2:y 2=_),(AG f 3:y 3=_),(AG f 4:y 4=_),(AG f 6:y 6=_)];exact e9 (y 5) (y 7) W a (AG f 5) (AG f 7)
end Go.Proofs.YtcnedkkcgdkioaaGreat

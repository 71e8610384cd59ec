/- Texts of this claim, put together: CL NR NH0 NI NH. -/
import Derived.Test.YtcnedkkcgdkioaaGreatKBw

set_option maxRecDepth 100000
set_option maxHeartbeats 12800000
namespace Go.Proofs.YtcnedkkcgdkioaaGreat
open Go.RowKit
theorem WR {α:Type}{k:Nat}:∀(n:Nat) (a b:List α),a.length=n * k->b.length=n * k->(∀j,j < n->(a.drop (j * k)).take k=(b.drop (j * k)).take k)->a=b
 | 0,a,b,c,d,_=>by
  rw[Nat.zero_mul] at c d;rw[List.length_eq_zero_iff.1 c,List.length_eq_zero_iff.1 d]
 | n+1,a,b,c,d,h=>by
  rw[Nat.succ_mul] at c d;rw[<-List.take_append_drop k a,<-List.take_append_drop k b];have e:=h 0 (by omega);rw[Nat.zero_mul,List.drop_zero,List.drop_zero] at e;rw[e,WR (k:=k) n (a.drop k) (b.drop k) (by rw[List.length_drop];omega) (by rw[List.length_drop];omega) fun j f=>?_];have:=h (j+1) (by omega)
  rw[Nat.succ_mul,Nat.add_comm (j * k) k] at this;rwa [List.drop_drop,List.drop_drop]
theorem AA.lens {E:TypeId}{k:Nat}{w:World}{B n:Nat}{v:Value}{xs:Jb}(h:AA E k EI w B v n xs):∀x∈xs,x.length=k:=fun x d=>by
 obtain⟨s,a,f,g,b⟩:=h;obtain⟨j,c,rfl⟩:=List.getElem_of_mem d;have e:(s.drop (j * k)).take k=xs[j].map (Value.int .i64):=b j _ (List.getElem?_eq_getElem c);have i:s.length=n * k:=a.1;have l:j * k+k<=n * k:=by rw[<-Nat.succ_mul];exact Nat.mul_le_mul_right _ (by omega)
 have:=congrArg List.length e
 rw[List.length_take,List.length_drop,List.length_map] at this;omega
theorem AA.flatV {E:TypeId}{k:Nat}{w:World}{B n:Nat}{v:Value}{xs:Jb}(h:AA E k EI w B v n xs):w.ownsRow B E k v n (xs.flatten.map (Value.int .i64)):=by
 have l:=h.lens;obtain⟨s,a,b,f,c⟩:=h;have d:s.length=n * k:=a.1
 have:s=xs.flatten.map (Value.int .i64):=by
  refine WR n _ _ d (by rw[List.length_map,LV l,b]) fun j g=>?_;have x:xs[j]? = some xs[j]:=List.getElem?_eq_getElem (by omega);have e:(s.drop (j * k)).take k=xs[j].map (Value.int .i64):=c j _ x;rw[e,<-List.map_drop,<-List.map_take,QB l x]
 rw[<-this];exact a
theorem sJ {P:Program}{T E ty:TypeId}{z:Value}{k bytes:Nat}(a:EA P T E z k bytes) (F:bytes<=128) (e:0 < k) {w:World}{B n:Nat}{v:Value}{xs ys:Jb}
  (o:AA E k EI w B v n xs) {y:Option Addr} {c:Nat} (S:KS k w (.slice y ys.length c) ys) (U:y=none->c=0) (J:n+ys.length<=1000000) (m:B<=w.heap.size) :
  ∃v' w',(Builtin.append_ #[T,T] ty #[v,.slice y ys.length c]).run P w = .ok v' w'/\AA E k EI w' B v' (n+ys.length) (xs++ys)/\w.grownBy w' v.ownBlock/\Below B w w'/\AE E w w':=by
 obtain⟨t,r,V,W,X⟩:=info_parts a.2.1;have f:=o.flatV;have I:=o.lens;have R:=o.length;obtain⟨Y,Z,b,a0,G,p,q,_⟩:=S;injection G with he1 he2 he3;subst he1 he3;have s:=KS.lens q
 have H:∀x∈xs++ys,x.length=k:=fun x Q=>by
  rcases List.mem_append.1 Q with h|h
  ·exact I x h
  ·exact s x h
 cases y with
 | none=>
  obtain rfl:=U rfl
  have A:ys.length=0:=by
   rcases Nat.eq_zero_or_pos ys.length with h|h
   ·exact h
   ·cases p h
  obtain rfl:=List.length_eq_zero_iff.1 A;exact⟨v,w,run_append_owned_none (P:=P) (w:=w) B T ty E t k a.1 r v n _ f,by rw[List.append_nil];exact o,⟨rfl,rfl,rfl,wC _,fun _ _ _=>rfl⟩,wB _ _,AE.below (wB _ _)⟩
 | some l=>
  have K:∀j u,(ys.flatten.map (Value.int .i64))[j]? = some u->w.cell? (l.add j)=some u:=fun j u d=>by
   have M:0 < ys.length:=by
    rcases Nat.eq_zero_or_pos ys.length with h|h
    ·rw[List.length_eq_zero_iff.1 h] at d;simp at d
    ·exact h
   have:=p M
   injection this with this;subst this;rw[Addr.add_lit];exact KS.flat q j u d
  have L:∀u∈ys.flatten.map (Value.int .i64),u.oneCell'=true:=fun u O=>by
   obtain⟨i,_,rfl⟩:=List.mem_map.1 O;rfl
  have D:(n+ys.length) * bytes<=140737488355328:=by
   have:(n+ys.length) * bytes<=1000000 * 128:=Nat.mul_le_mul J F
   omega
  obtain⟨v',w',N,C,g,_,_⟩:=run_append_own_at (P:=P) w B T ty E t z k bytes a.1 r V W X a.2.2 e v n _ f l ys.length c (ys.flatten.map (Value.int .i64)) (by rw[List.length_map,LV s]) K L (by unfold maxLen;omega) D m;refine⟨v',w',N,AA.ofFlat (by rw[List.flatten_append,List.map_append];exact C) H (by rw[List.length_append,R]),g,(wB B w).grown g m (fun k e=>(f.lt k e).1),AE.own f g⟩
theorem vH {P:Program}{T E:TypeId}{z:Value}{k bytes:Nat}(j:EA P T E z k bytes) (q:bytes<=128) (u:0 < k) {w:World}{p:Array Oper}{r:List Oper}{o:Oper}{a:Act}{Q:Exit->Act->World->Prop}(t:o.guard=none) (s y:Operand)
  (C:o.op = .call { callee:=.builtin .append,args:=#[s,y],argTypes:=#[T,T] }) {B n:Nat} {v:Value} {xs ys:Jb} (hs:a.eval s=v)
  (D:AA E k EI w B v n xs) {b:Option Addr} {c m:Nat} (G:a.eval y = .slice b m c) (x:m=ys.length) (H:KS k w (.slice b ys.length c) ys) (I:b=none->c=0) (A:n+ys.length<=1000000) (i:B<=w.heap.size)
  (h:∀v' w',AA E k EI w' B v' (n+ys.length) (xs++ys)->w.grownBy w' v.ownBlock->Below B w w'->AE E w w'->wpList P p Q r (a.put o.dst v') w'):wpList P p Q (o::r) a w:=by
 subst x;refine wpList_plain t fun K l=>?_;obtain⟨v',w',F,d,e,f,g⟩:=sJ (P:=P) (ty:=o.type) j q u D H I A i;unfold Oper.wp execOp;simp only[C,resolve,invoke,builtin,Sem.run_bind,Sem.run_pure,Result.andThen_ok,List.map_toArray,List.map_cons,List.map_nil,hs,G,F];exact l _ _ (h v' w' d e f g)
end Go.Proofs.YtcnedkkcgdkioaaGreat
namespace Go.Proofs.YtcnedkkcgdkioaaGreat
open Go.RowKit
section
variable {α:Type} {E:TypeId} {k:Nat} {El:World->List Value->α->Prop}
def PI (k:Nat) (El:World->List Value->α->Prop) (w:World) (v:Value) (ys:List α):Prop:=
 ∃(y:Option Addr) (c:Nat) (s:List Value),v = .slice y ys.length c/\s.length=ys.length * k/\(∀u∈s,u.oneCell'=true)/\(∀j x,ys[j]? = some x->El w ((s.drop (j * k)).take k) x)/\(y=none->c=0/\ys = [])/\
  ∀a,y=some a->∀j u,s[j]? = some u->w.cell? (a.add j)=some u
theorem cU {P:Program}{T ty:TypeId}{z:Value}{bytes:Nat}(b:EA P T E z k bytes) (D:bytes<=128) (e:0 < k) (S:CP E El) {w:World}{B n:Nat}{v y:Value}{xs ys:List α}
  (J:AA E k El w B v n xs) (Q:PI k El w y ys) (H:n+ys.length<=1000000) (m:B<=w.heap.size) :
  ∃v' w',(Builtin.append_ #[T,T] ty #[v,y]).run P w = .ok v' w'/\AA E k El w' B v' (n+ys.length) (xs++ys)/\w.grownBy w' v.ownBlock/\Below B w w'/\AE E w w':=by
 obtain⟨q,o,R,U,V⟩:=info_parts b.2.1;obtain⟨s,a,f,r,t⟩:=J;obtain⟨W,Y,d,rfl,O,p,M,I,N⟩:=Q;have L:s.length=n * k:=a.1;cases W with
 | none=>
  obtain⟨rfl,rfl⟩:=I rfl;exact⟨v,w,run_append_owned_none (P:=P) (w:=w) B T ty E q k b.1 o v n _ a,by rw[List.append_nil];exact⟨s,a,f,r,t⟩,⟨rfl,rfl,rfl,wC _,fun _ _ _=>rfl⟩,wB _ _,AE.below (wB _ _)⟩
 | some l=>
  have C:(n+ys.length) * bytes<=140737488355328:=by
   have:(n+ys.length) * bytes<=1000000 * 128:=Nat.mul_le_mul H D
   omega
  obtain⟨v',w',K,A,g,_,_⟩:=run_append_own_at (P:=P) w B T ty E q z k bytes b.1 o R U V b.2.2 e v n _ a l ys.length Y d O (N l rfl) p (by unfold maxLen;omega) C m;have X:AE E w w':=AE.own a g;refine⟨v',w',K,⟨s++d,A,by simp[f],?_,fun j x c=>?_⟩,g,(wB B w).grown g m (fun k e=>(a.lt k e).1),X⟩
  ·intro u h;rcases List.mem_append.1 h with h|h
   ·exact r u h
   ·exact p u h
  ·by_cases G:j < n
   ·rw[List.getElem?_append_left (by omega)] at c;have Z:j * k+k<=n * k:=(by rw[<-Nat.succ_mul];exact Nat.mul_le_mul_right _ G);rw[List.drop_append_of_le_length (by omega),List.take_append_of_le_length (by rw[List.length_drop];omega)];exact S _ _ _ _ (t j x c) X
   ·obtain⟨i,rfl⟩:∃i,j=n+i:=⟨j - n,by omega⟩;rw[List.getElem?_append_right (by omega),f,Nat.add_sub_cancel_left] at c
    have F:(s++d).drop ((n+i) * k)=d.drop (i * k):=by
     rw[Nat.add_mul,<-L,<-List.drop_drop,List.drop_left]
    rw[F];exact S _ _ _ _ (M i x c) X
theorem eQ {P:Program}{T:TypeId}{z:Value}{bytes:Nat}(i:EA P T E z k bytes) (l:bytes<=128) (q:0 < k) (S:CP E El) {w:World}{p:Array Oper}{r:List Oper}{o:Oper}{a:Act}{Q:Exit->Act->World->Prop}(m:o.guard=none) (s y:Operand)
  (u:o.op = .call { callee:=.builtin .append,args:=#[s,y],argTypes:=#[T,T] }) {B n:Nat} {v b:Value} {xs ys:List α} (hs:a.eval s=v)
  (x:AA E k El w B v n xs) (C:a.eval y=b) (D:PI k El w b ys) (t:n+ys.length<=1000000) (g:B<=w.heap.size)
  (h:∀v' w',AA E k El w' B v' (n+ys.length) (xs++ys)->w.grownBy w' v.ownBlock->Below B w w'->AE E w w'->wpList P p Q r (a.put o.dst v') w'):wpList P p Q (o::r) a w:=by
 refine wpList_plain m fun K j=>?_;obtain⟨v',w',A,c,d,e,f⟩:=cU (P:=P) (ty:=o.type) i l q S x D t g;unfold Oper.wp execOp;simp only[u,resolve,invoke,builtin,Sem.run_bind,Sem.run_pure,Result.andThen_ok,List.map_toArray,List.map_cons,List.map_nil,hs,C,A];exact j _ _ (h v' w' c d e f)
theorem AA.capM {w:World}{B n m c:Nat}{a:Option Addr}{xs:List α}(h:AA E k El w B (.slice a m c) n xs):n<=c/\c<=maxLen:=by
 obtain⟨v,b,_⟩:=h;rcases b.2 with⟨e,f⟩|⟨g,p,u,e,_,_,d,M,_⟩
 ·injection e with _ _ e3;exact⟨by omega,by omega⟩
 ·injection e with _ _ e3;subst e3;exact⟨d,M⟩
theorem vJ {P:Program}{T:TypeId}{z:Value}{bytes:Nat}(i:EA P T E z k bytes) (j:bytes<=128) (l:0 < k) (S:CP E El) {w:World}{o:Oper}{a:Act}{K:Act->World->Prop}{Q:Exit->Act->World->Prop}(s y:Operand)
  (p:o.op = .call { callee:=.builtin .append,args:=#[s,y],argTypes:=#[T,T] }) {B n:Nat} {v b:Value} {xs ys:List α} (hs:a.eval s=v)
  (q:AA E k El w B v n xs) (x:a.eval y=b) (t:PI k El w b ys) (m:n+ys.length<=1000000) (g:B<=w.heap.size)
  (h:∀v' w',AA E k El w' B v' (n+ys.length) (xs++ys)->w.grownBy w' v.ownBlock->Below B w w'->AE E w w'->K (a.put o.dst v') w'):o.wp P a w K Q:=by
 obtain⟨v',w',r,c,d,e,f⟩:=cU (P:=P) (ty:=o.type) i j l S q t m g;unfold Oper.wp execOp;simp only[p,resolve,invoke,builtin,Sem.run_bind,Sem.run_pure,Result.andThen_ok,List.map_toArray,List.map_cons,List.map_nil,hs,x,r];exact h v' w' c d e f
theorem AA.row {w:World}{B n:Nat}{v:Value}{xs:List α}(h:AA E k El w B v n xs):∀g,v.ownBlock=some g->∃cs,w.heap[g]? = some (.cells cs E):=fun g a=>by
 obtain⟨s,b,_⟩:=h;rcases b.2 with⟨rfl,_⟩|⟨e,p,c,rfl,_,d,_⟩
 ·cases a
 ·injection a with a;subst a;exact⟨c,d⟩
theorem AA.src {w:World}{B n:Nat}{v:Value}{xs:List α}(h:AA E k El w B v n xs):PI k El w v xs:=by
 obtain⟨s,a,b,c,e⟩:=h;have l:s.length=n * k:=a.1;rcases a.2 with⟨rfl,i⟩|⟨g,p,r,rfl,o,y,q,M,t,z⟩
 ·have x:xs = []:=List.length_eq_zero_iff.1 (by omega);subst x;exact⟨none,0,s,rfl,by rw[l,i];simp,c,e,fun _=>⟨rfl,rfl⟩,fun _ h=>by cases h⟩
 ·refine⟨_,p,s,by rw[b],by rw[l,b],c,e,fun h=>(by cases h),fun m d j u f=>?_⟩;injection d with d;subst d;rw[Addr.add_lit,Nat.zero_add];have:=World.ownsRow.cellAt a j (by rw[<-l];exact(List.getElem?_eq_some_iff.1 f).1)
  rw[this];exact f
end
end Go.Proofs.YtcnedkkcgdkioaaGreat
namespace Go.Proofs.YtcnedkkcgdkioaaGreat
open Go.RowKit
def bA:List Oper:=[⟨some 18,.fieldAddr 32 (.tmp 7) 1,0,"ref.go:165",#[],none⟩,⟨some 19,.load 30 (.tmp 18),30,"ref.go:165",#[⟨0,.data⟩],none⟩,⟨some 20,.fieldAddr 32 (.tmp 2) 1,0,"ref.go:165",#[],none⟩,⟨some 21,.load 30 (.tmp 20),30,"ref.go:165",#[⟨2,.data⟩],none⟩,⟨some 22,.call { callee:=.builtin .append,args:=#[.tmp 19,.tmp 21],argTypes:=#[30,30] },30,"ref.go:165",#[⟨1,.data⟩,⟨3,.data⟩],none⟩,⟨some 23,.load 114 (.tmp 3),114,"ref.go:165",#[],none⟩,⟨some 24,.buildSlice 30 1 #[(0,.tmp 23)],30,"ref.go:165",#[⟨5,.data⟩],none⟩,⟨some 25,.call { callee:=.builtin .append,args:=#[.tmp 22,.tmp 24],argTypes:=#[30,30] },30,"ref.go:165",#[⟨4,.data⟩,⟨6,.data⟩,⟨4,.chain⟩],none⟩,⟨some 26,.fieldAddr 32 (.tmp 7) 1,0,"ref.go:165",#[⟨0,.phase⟩,⟨1,.phase⟩,⟨2,.phase⟩,⟨3,.phase⟩,⟨4,.phase⟩,⟨5,.phase⟩,⟨6,.phase⟩,⟨7,.phase⟩],none⟩,⟨none,.store 30 (.tmp 26) (.tmp 25),0,"ref.go:165",#[⟨8,.data⟩,⟨7,.data⟩,⟨7,.chain⟩,⟨0,.phase⟩,⟨1,.phase⟩,⟨2,.phase⟩,⟨3,.phase⟩,⟨4,.phase⟩,⟨5,.phase⟩,⟨6,.phase⟩,⟨7,.phase⟩],none⟩]
theorem rQ {w:World}{x0 x1 x4 x5 x6 x8 x9 a' b0 b1 b3 b4 b5 b6 b8 d' e0 e1 e3 e4 e5 e6 e7 e8 b9 b' c0 c1:Value}{c7:Exit->Act->World->Prop}{b2 v b7 B vc:Nat}{va:Option Addr}{tn:Int}{vs:Jb}{xa C xc H I J L M:Int}
  (c2:w.cell? ⟨b2,1,none⟩=some (.slice va vs.length vc)) (ho:AA 114 8 EI w 0 (.slice va vs.length vc) vs.length vs) (hn:vs.length<=100000)
  (p0:w.cell? ⟨v,0,none⟩=some (.int .i64 xa)) (p1:w.cell? ⟨v,1,none⟩=some (.int .i64 C)) (p2:w.cell? ⟨v,2,none⟩=some (.int .i64 xc)) (p3:w.cell? ⟨v,3,none⟩=some (.int .i64 H)) (p4:w.cell? ⟨v,4,none⟩=some (.int .i64 I)) (p5:w.cell? ⟨v,5,none⟩=some (.int .i64 J)) (p6:w.cell? ⟨v,6,none⟩=some (.int .i64 L)) (p7:w.cell? ⟨v,7,none⟩=some (.int .i64 M))
  (Y:w.heap[b7]? = some (.cells #[.int .i64 tn,.slice none 0 0] 32)) (f5:b2 < B) (V:v < B) (f3:B<=b7)
  (f7:∀(T U N _y9:Value) (W:World),(Below B w W/\((fun i=>decide (i < 10)) 9=false->Below w.heap.size w W)/\((fun i=>decide (i < 10)) 4=true->(fun i=>decide (i < 10)) 7=false->AA 114 8 EI W w.heap.size T vs.length vs)/\((fun i=>decide (i < 10)) 6=true->(fun i=>decide (i < 10)) 7=false->∃g,U = .slice (some ⟨g,0,none⟩) 1 1/\W.heap[g]? = some (.cells #[.int .i64 xa,.int .i64 C,.int .i64 xc,.int .i64 H,.int .i64 I,.int .i64 J,.int .i64 L,.int .i64 M] 114))/\((fun i=>decide (i < 10)) 7=true->(∃a c,N = .slice a (vs.length+1) c)/\AA 114 8 EI W w.heap.size N (vs.length+1) (vs ++ [[xa,C,xc,H,I,J,L,M]]))/\((fun i=>decide (i < 10)) 9=false->W.heap[b7]? = some (.cells #[.int .i64 tn,.slice none 0 0] 32))/\((fun i=>decide (i < 10)) 9=true->W.heap[b7]? = some (.cells #[.int .i64 tn,N] 32)))->(True)->(True)->(True)->(True)->c7 .normal ⟨#[x0,x1,.pointer (some ⟨b2,0,none⟩),.pointer (some ⟨v,0,none⟩),x4,x5,x6,.pointer (some ⟨b7,0,none⟩),x8,x9,a',b0,b1,b3,b4,b5,b6,b8,.pointer (some ⟨b7,1,none⟩),.slice none 0 0,.pointer (some ⟨b2,1,none⟩),.slice va vs.length vc,T,.agg #[.int .i64 xa,.int .i64 C,.int .i64 xc,.int .i64 H,.int .i64 I,.int .i64 J,.int .i64 L,.int .i64 M],U,N,.pointer (some ⟨b7,1,none⟩),b9,b',c0,c1],[]⟩ W) :
  (Code.region 5 bA.toArray true).wp Tryz.prog c7 ⟨#[x0,x1,.pointer (some ⟨b2,0,none⟩),.pointer (some ⟨v,0,none⟩),x4,x5,x6,.pointer (some ⟨b7,0,none⟩),x8,x9,a',b0,b1,b3,b4,b5,b6,b8,d',e0,e1,e3,e4,e5,e6,e7,e8,b9,b',c0,c1],[]⟩ w:=by
 have a2:B<=w.heap.size:=by have:=(wD.1 Y).1;omega
 have f6:∀d8∈([.int .i64 xa,.int .i64 C,.int .i64 xc,.int .i64 H,.int .i64 I,.int .i64 J,.int .i64 L,.int .i64 M]:List Value),d8.oneCell'=true:=fun d8 hu=>by
  simp only[List.mem_cons,List.not_mem_nil,or_false] at hu;rcases hu with rfl|rfl|rfl|rfl|rfl|rfl|rfl|rfl<;>rfl
 refine GB (l:=bA) (F:=(fun y=>⟨#[x0,x1,.pointer (some ⟨b2,0,none⟩),.pointer (some ⟨v,0,none⟩),x4,x5,x6,.pointer (some ⟨b7,0,none⟩),x8,x9,a',b0,b1,b3,b4,b5,b6,b8,y 0,y 1,y 2,y 3,y 4,y 5,y 6,y 7,y 8,b9,b',c0,c1],[]⟩)) (Φ:=[AI (.pointer (some ⟨b7,1,none⟩)),AI (.slice none 0 0),AI (.pointer (some ⟨b2,1,none⟩)),AI (.slice va vs.length vc),CM,AI (.agg #[.int .i64 xa,.int .i64 C,.int .i64 xc,.int .i64 H,.int .i64 I,.int .i64 J,.int .i64 L,.int .i64 M]),CM,CM,AI (.pointer (some ⟨b7,1,none⟩)),CM]) (R:=(fun _ _=>True)) (G:=(fun D y W=>Below B w W/\(D 9=false->Below w.heap.size w W)/\(D 4=true->D 7=false->AA 114 8 EI W w.heap.size (y 4) vs.length vs)/\(D 6=true->D 7=false->∃g,(y 6) = .slice (some ⟨g,0,none⟩) 1 1/\W.heap[g]? = some (.cells #[.int .i64 xa,.int .i64 C,.int .i64 xc,.int .i64 H,.int .i64 I,.int .i64 J,.int .i64 L,.int .i64 M] 114))/\(D 7=true->(∃a c,(y 7) = .slice a (vs.length+1) c)/\AA 114 8 EI W w.heap.size (y 7) (vs.length+1) (vs ++ [[xa,C,xc,H,I,J,L,M]]))/\(D 9=false->W.heap[b7]? = some (.cells #[.int .i64 tn,.slice none 0 0] 32))/\(D 9=true->W.heap[b7]? = some (.cells #[.int .i64 tn,(y 7)] 32)))) ⟨?s0,?s1,?s2,?s3,?s4,?s5,?s6,?s7,?s8,?s9,trivial⟩ (fun i=>([d',e0,e1,e3,e4,e5,e6,e7,e8,undef]:List Value).getD i undef) (by kernel_rfl) (by kernel_rfl) ⟨sE,sE,sE,sE,fun _ _ _ h _=>h,sE,fun _ _ _ h _=>h,fun _ _ _ h _=>h,sE,fun _ _ _ h _=>h,trivial⟩ ?g0 ?gx ?fin
 case s0|s2|s8=>
  refine .q0 (CE rfl) (fun _=>trivial) (fun _ _ _ h=>h) (fun _=>rfl) fun y W K o=>?_;go_simp;exact o
 case s1=>
  refine AL.mk rfl (AD 0 fun y0=>AD 4 fun T=>AD 6 fun U=>AD 7 fun N=>fun y D W K u S f d o=>?_);obtain rfl:=(f.get 0 rfl).2;dsimp [AJ] at d|-
  have m:=S.no (j:=9) (i:=1) rfl (by kernel_rfl) u;obtain⟨b,r,s,t,z,e,A⟩:=d;have c:=(BA (e m)).2;go_simp;exact o _ _ trivial ⟨b,r,s,t,z,e,A⟩ rfl
 case s3=>
  refine AL.mk rfl (AD 2 fun y2=>AD 4 fun T=>AD 6 fun U=>AD 7 fun N=>fun y D W K _ _ f d o=>?_);obtain rfl:=(f.get 2 rfl).2;dsimp [AJ] at d|-
  obtain⟨b,r,s,t,z,e,A⟩:=d;have c:=II b f5 c2;go_simp;exact o _ _ trivial ⟨b,r,s,t,z,e,A⟩ rfl
 case s4=>
  refine AL.mk rfl (AD 1 fun y1=>AD 3 fun y3=>AD 4 fun T=>AD 6 fun U=>AD 7 fun N=>fun y D W K u S f d o=>?_);obtain rfl:=(f.get 1 rfl).2;obtain rfl:=(f.get 3 rfl).2;dsimp [AJ] at d|-
  have P:=S.no (j:=7) (i:=4) rfl (by kernel_rfl) u;have m:=S.no (j:=9) (i:=4) rfl (by kernel_rfl) u;obtain⟨b,r,s,t,z,e,A⟩:=d;have Q:=r m;refine vJ (B:=w.heap.size) (n:=0) (xs:=[]) (ys:=vs) SQ (by decide) (by decide) (EI.stab _) _ _ rfl rfl (AA.nil _ _) rfl (AA.src (ho.keep (EI.stab _) Q)) (by omega) Q.size ?_;intro v9 w9 X d2 Z d7;rw[Nat.zero_add,List.nil_append] at X;have d3:∀q,q < W.heap.size->w9.heap[q]? = W.heap[q]?:=fun q hq=>d2.block q hq (by intro e9;cases e9);exact o _ _ trivial ⟨b.trans (Z.mono a2),fun _=>Q.trans Z,fun _ _=>X,fun h6 _=>by obtain⟨g,e',e2⟩:=t h6 P;exact⟨g,e',(d3 g (wD.1 e2).1).trans e2⟩,fun h=>(by rw[show AP D 4 7=D 7 from rfl,P] at h;cases h),fun _=>(d3 b7 (wD.1 (e m)).1).trans (e m),fun h=>(by rw[show AP D 4 9=D 9 from rfl,m] at h;cases h)⟩ trivial
 case s5=>
  refine AL.mk rfl (AD 4 fun T=>AD 6 fun U=>AD 7 fun N=>fun y D W K _ _ _ d o=>?_);dsimp [AJ] at d|-
  obtain⟨b,r,s,t,z,e,A⟩:=d;have h2:=II b V p0;have h3:=II b V p1;have c2:=II b V p2;have c3:=II b V p3;have c4:=II b V p4;have c5:=II b V p5;have c6:=II b V p6;have i0:=II b V p7;go_simp;exact o _ _ trivial ⟨b,r,s,t,z,e,A⟩ rfl
 case s6=>
  refine AL.mk rfl (AD 5 fun y5=>AD 4 fun T=>AD 6 fun U=>AD 7 fun N=>fun y D W K u S f d o=>?_);obtain rfl:=(f.get 5 rfl).2;dsimp [AJ] at d|-
  have P:=S.no (j:=7) (i:=6) rfl (by kernel_rfl) u;have m:=S.no (j:=9) (i:=6) rfl (by kernel_rfl) u;obtain⟨b,r,s,t,z,e,A⟩:=d;have Q:=r m;have ha:Below W.heap.size W (W.alloc (.cells #[.int .i64 xa,.int .i64 C,.int .i64 xc,.int .i64 H,.int .i64 I,.int .i64 J,.int .i64 L,.int .i64 M] 114)):=(wB _ W).alloc (wC _) _;go_simp;exact o _ _ trivial ⟨b.trans (ha.mono (wI a2 Q.size)),fun _=>btt Q ha,fun h4 h7=>(s h4 h7).keep (EI.stab _) ha,fun _ _=>⟨_,rfl,wE W _⟩,fun h=>(by rw[show AP D 6 7=D 7 from rfl,P] at h;cases h),fun _=>AN ha (e m),fun h=>(by rw[show AP D 6 9=D 9 from rfl,m] at h;cases h)⟩ trivial
 case s7=>
  refine AL.mk rfl (AD 4 fun T=>AD 6 fun U=>AD 7 fun N=>fun y D W K u S f d o=>?_);have d4:=(f.get 4 rfl).1;have d6:=(f.get 6 rfl).1;dsimp [AJ] at d|-
  have m:=S.no (j:=9) (i:=7) rfl (by kernel_rfl) u;have d4:=(f.get 4 rfl).1;have d6:=(f.get 6 rfl).1;obtain⟨b,r,s,t,z,e,A⟩:=d;have Q:=r m;obtain⟨g,g1,hg⟩:=t d6 u;subst g1;refine KF (B:=w.heap.size) (cs:=[.int .i64 xa,.int .i64 C,.int .i64 xc,.int .i64 H,.int .i64 I,.int .i64 J,.int .i64 L,.int .i64 M]) (x:=[xa,C,xc,H,I,J,L,M]) SQ (by decide) (by decide) (EI.stab _) _ _ (by rfl) (by rfl) (s d4 u) ⟨g,0,none⟩ 1 (by rfl) rfl (World.news_of_block hg) f6 rfl (by omega) Q.size ?_;intro v9 w9 X d2 i3 Z d7;obtain⟨a9,c9,rfl⟩:=X.shape;exact o _ _ trivial ⟨b.trans (Z.mono a2),fun _=>Q.trans Z,fun _ h=>(by cases h),fun _ h=>(by cases h),fun _=>⟨⟨a9,c9,rfl⟩,X⟩,fun _=>(d7 b7 _ _ (e m) (by decide)).trans (e m),fun h=>(by rw[show AP D 7 9=D 9 from rfl,m] at h;cases h)⟩ trivial
 case s9=>
  refine AL.mk rfl (AD 8 fun y8=>AD 4 fun T=>AD 6 fun U=>AD 7 fun N=>fun y D W K u _ f d o=>?_);obtain rfl:=(f.get 8 rfl).2;have P:=(f.get 7 rfl).1;dsimp [AJ] at d|-
  have P:=(f.get 7 rfl).1;obtain⟨b,r,s,t,z,e,A⟩:=d;obtain⟨⟨a9,c9,g2⟩,X⟩:=z P;subst g2;have Y:=e u;obtain⟨z0,z1⟩:=BA Y;have fz:=BG Y;have hX:=AE.setCell (p:=⟨b7,1,none⟩) Y (.slice a9 (vs.length+1) c9);go_simp;exact o undef _ trivial ⟨b.setCell (p:=⟨b7,1,none⟩) f3 _,fun h=>(by cases h),fun _ h=>(by rw[show AP D 9 7=D 7 from rfl,P] at h;cases h),fun _ h=>(by rw[show AP D 9 7=D 7 from rfl,P] at h;cases h),fun _=>⟨⟨a9,c9,rfl⟩,X.other (EI.stab _) (by decide) hX⟩,fun h=>(by cases h),fun _=>heap_setCell_same W b7 1 _ _ _ Y⟩ trivial
 case g0=>exact⟨(wH (wB _ w) 1).mono a2,fun _=>wH (wB _ w) 1,fun h=>(by cases h),fun h=>(by cases h),fun h=>(by cases h),fun _=>Y,fun h=>(by cases h)⟩
 case gx=>exact fun D D' y W h ⟨b,r,s,t,z,e,A⟩=>⟨b,fun q=>r ((h 9 (by decide)).trans q),fun q q'=>s ((h 4 (by decide)).trans q) ((h 7 (by decide)).trans q'),fun q q'=>t ((h 6 (by decide)).trans q) ((h 7 (by decide)).trans q'),fun q=>z ((h 7 (by decide)).trans q),fun q=>e ((h 9 (by decide)).trans q),fun q=>A ((h 9 (by decide)).trans q)⟩
 case fin=>
  intro y W d O;try dsimp only
  rw[(AG O 0:y 0=_),(AG O 1:y 1=_),(AG O 2:y 2=_),(AG O 3:y 3=_),(AG O 5:y 5=_),(AG O 8:y 8=_)];exact f7 (y 4) (y 6) (y 7) (y 9) W d (AG O 4) (AG O 6) (AG O 7) (AG O 9)
def bB:List Oper:=[⟨some 27,.load 32 (.tmp 7),32,"ref.go:166",#[],none⟩,⟨some 28,.fieldAddr 32 (.tmp 2) 1,0,"ref.go:166",#[],none⟩,⟨some 29,.load 30 (.tmp 28),30,"ref.go:166",#[⟨1,.data⟩],none⟩,⟨some 30,.call { callee:=.builtin .len,args:=#[.tmp 29],argTypes:=#[30] },3,"ref.go:166",#[⟨2,.data⟩],none⟩,⟨none,.store 32 (.tmp 4) (.tmp 27),0,"ref.go:166",#[⟨0,.data⟩,⟨0,.phase⟩,⟨1,.textOnly .lateStores⟩,⟨2,.textOnly .lateStores⟩,⟨3,.textOnly .lateStoresUnsure⟩],none⟩,⟨some 5,.assign (.tmp 30),3,"ref.go:166",#[⟨3,.data⟩,⟨4,.chain⟩,⟨0,.phase⟩,⟨1,.phase⟩,⟨2,.phase⟩,⟨3,.phase⟩,⟨4,.phase⟩],none⟩]
theorem rR {w:World}{H I x3 x5 x6 x8 x9 J L M N O P Q S T U V X Y Z a0 a1 a2 b0 b1 b3 b4:Value}{a7:Exit->Act->World->Prop}{b2 b b7 v C n j:Nat}{A r:Option Addr}{tn tz:Int}
  (k2:w.heap[b2]? = some (.cells #[.int .i64 tz,.slice A v C] 32)) (k7:w.heap[b7]? = some (.cells #[.int .i64 tn,.slice r n j] 32)) (s:w.heap[b]? = some (.cells #[.int .i64 0,.slice none 0 0] 32)) (b9:b2 ≠ b) (b':b7 ≠ b)
  (c1:∀(_y4:Value) (W:World),((∀q,q ≠ b->q < w.heap.size->W.heap[q]? = w.heap[q]?)/\((fun i=>decide (i < 6)) 4=false->W.heap[b]? = some (.cells #[.int .i64 0,.slice none 0 0] 32))/\((fun i=>decide (i < 6)) 4=true->W.heap[b]? = some (.cells #[.int .i64 tn,.slice r n j] 32))/\AE 32 w W/\∀(B:Nat) (w0:World),B<=b->Below B w0 w->Below B w0 W)->(True)->a7 .normal ⟨#[H,I,.pointer (some ⟨b2,0,none⟩),x3,.pointer (some ⟨b,0,none⟩),.int .i64 (v:Int),x6,.pointer (some ⟨b7,0,none⟩),x8,x9,J,L,M,N,O,P,Q,S,T,U,V,X,Y,Z,a0,a1,a2,.agg #[.int .i64 tn,.slice r n j],.pointer (some ⟨b2,1,none⟩),.slice A v C,.int .i64 (v:Int)],[]⟩ W) :
  (Code.region 6 bB.toArray true).wp Tryz.prog a7 ⟨#[H,I,.pointer (some ⟨b2,0,none⟩),x3,.pointer (some ⟨b,0,none⟩),x5,x6,.pointer (some ⟨b7,0,none⟩),x8,x9,J,L,M,N,O,P,Q,S,T,U,V,X,Y,Z,a0,a1,a2,b0,b1,b3,b4],[]⟩ w:=by
 refine GB (l:=bB) (F:=(fun y=>⟨#[H,I,.pointer (some ⟨b2,0,none⟩),x3,.pointer (some ⟨b,0,none⟩),y 5,x6,.pointer (some ⟨b7,0,none⟩),x8,x9,J,L,M,N,O,P,Q,S,T,U,V,X,Y,Z,a0,a1,a2,y 0,y 1,y 2,y 3],[]⟩)) (Φ:=[AI (.agg #[.int .i64 tn,.slice r n j]),AI (.pointer (some ⟨b2,1,none⟩)),AI (.slice A v C),AI (.int .i64 (v:Int)),CM,AI (.int .i64 (v:Int))]) (R:=(fun _ _=>True)) (G:=(fun D _ W=>(∀q,q ≠ b->q < w.heap.size->W.heap[q]? = w.heap[q]?)/\(D 4=false->W.heap[b]? = some (.cells #[.int .i64 0,.slice none 0 0] 32))/\(D 4=true->W.heap[b]? = some (.cells #[.int .i64 tn,.slice r n j] 32))/\AE 32 w W/\∀(B:Nat) (w0:World),B<=b->Below B w0 w->Below B w0 W)) ⟨?s0,?s1,?s2,?s3,?s4,?s5,trivial⟩ (fun i=>([b0,b1,b3,b4,undef,x5]:List Value).getD i undef) (by kernel_rfl) (by kernel_rfl) ⟨sE,sE,sE,sE,fun _ _ _ h _=>h,sE,trivial⟩ ?g0 ?gx ?fin
 case s0=>
  refine AL.mk rfl fun y D W K _ _ _ f a=>?_;obtain⟨g,c,m,d,e⟩:=f;obtain⟨z0,z1⟩:=BA ((g b7 b' (wD.1 k7).1).trans k7);go_simp;exact a _ _ trivial ⟨g,c,m,d,e⟩ rfl
 case s1=>
  refine .q0 (CE rfl) (fun _=>trivial) (fun _ _ _ h=>h) (fun _=>rfl) fun y W K a=>?_;go_simp;exact a
 case s2=>
  refine AL.mk rfl (AD 1 fun y1=>fun y D W K _ _ x f a=>?_);obtain rfl:=(x.get 1 rfl).2;dsimp [AJ]
  obtain⟨g,c,m,d,e⟩:=f;obtain⟨-,z1⟩:=BA ((g b2 b9 (wD.1 k2).1).trans k2);go_simp;exact a _ _ trivial ⟨g,c,m,d,e⟩ rfl
 case s3|s5=>
  refine .q1 (CE rfl) (fun _=>trivial) (fun _ _ _ h=>h) (fun _=>rfl) rfl (fun _ _ h=>h) fun y W K a=>?_;dsimp [AJ]
  go_simp;exact a
 case s4=>
  refine AL.mk rfl (AD 0 fun y0=>fun y D W K hD _ x f a=>?_);obtain rfl:=(x.get 0 rfl).2;dsimp [AJ]
  obtain⟨g,c,m,d,e⟩:=f;have s:=c hD;obtain⟨z0,z1⟩:=BA s;have fz:=BG s;have m0:=heap_setCell_same W b 0 _ _ (.int .i64 tn) s;have m1:=heap_setCell_same _ b 1 _ _ (.slice r n j) m0;have hx:=d.trans ((AE.setCell (p:=⟨b,0,none⟩) s (.int .i64 tn)).trans (AE.setCell (p:=⟨b,1,none⟩) m0 (.slice r n j)));go_simp;exact a undef _ trivial ⟨fun q t h2=>((Below.heap_setCell _ ⟨b,1,none⟩ _ q t).trans (Below.heap_setCell W ⟨b,0,none⟩ _ q t)).trans (g q t h2),fun h=>(by cases h),fun _=>m1,hx,fun B w0 u z=>((e B w0 u z).setCell (p:=⟨b,0,none⟩) u _).setCell (p:=⟨b,1,none⟩) u _⟩ trivial
 case g0=>exact⟨fun _ _ _=>rfl,fun _=>s,fun h=>(by cases h),fun _ _ _ _ _=>rfl,fun B w0 _ z=>wH z 1⟩
 case gx=>exact fun D D' y W h ⟨g,c,m,d,e⟩=>⟨g,fun q=>c ((h 4 (by decide)).trans q),fun q=>m ((h 4 (by decide)).trans q),d,e⟩
 case fin=>
  intro y W f o;try dsimp only
  rw[(AG o 0:y 0=_),(AG o 1:y 1=_),(AG o 2:y 2=_),(AG o 3:y 3=_),(AG o 5:y 5=_)];exact c1 (y 4) W f (AG o 4)
theorem cR {fn:Func}(h:fn.results = #[.cell 4 32,.tmp 5]) (tmps:Array Value) (w:World) (g:Nat) {u0 u1 x:Value}(p:tmps.getD 4 undef = .pointer (some ⟨g,0,none⟩)) (b:tmps.getD 5 undef=x) (c:w.heap[g]? = some (.cells #[u0,u1] 32)) :
  (results fn tmps).run Tryz.prog w = .ok (.tuple #[.agg #[u0,u1],x]) w:=by
 have a:tmps[4]?.getD undef = .pointer (some ⟨g,0,none⟩):=by simpa using p
 have d:tmps[5]?.getD undef=x:=by simpa using b
 obtain⟨z,f⟩:=BA c;have e:=Tryz.isAgg32;have s:=Tryz.sizeOf32;simp only[results,h];simp[Sem.run_bind,Result.andThen,a,d,asAddr,loadVar]
 go_simp
theorem qQ {w:World}{tn:Int}{v:Option Addr}{d:Nat}{vs:Jb}{x:List Int}(o:AA 114 8 EI w 0 (.slice v vs.length d) vs.length vs) (hn:vs.length<=100000) (hx:x.length=8) :
  Calls Tryz.prog 188 #[.agg #[.int .i64 tn,.slice v vs.length d],EG x] w fun e w'=>∃a6 a7,e = .returned (.tuple #[.agg #[.int .i64 tn,.slice a6 (BO vs x).length a7],.int .i64 (ixOf (BO vs x) x:Nat)])/\AA 114 8 EI w' 0 (.slice a6 (BO vs x).length a7) (BO vs x).length (BO vs x)/\Below w.heap.size w w':=by
 obtain⟨D,F,G,I,J,K,L,M,P⟩:=CT hx;obtain⟨a,h⟩:=AF (((w.alloc (.cells #[.int .i64 tn,.slice v vs.length d] 32)).alloc (.cells #[.int .i64 D,.int .i64 F,.int .i64 G,.int .i64 I,.int .i64 J,.int .i64 K,.int .i64 L,.int .i64 M] 114)).alloc (.cells #[.int .i64 0,.slice none 0 0] 32));have d1:a.heap.size=w.heap.size+3:=by rw[h];simp
 have N:Below w.heap.size w a:=by rw[h];exact(((wB _ w).alloc (wC _) _).alloc (by simp) _).alloc (by simp;omega) _
 have T:a.heap[w.heap.size]? = some (.cells #[.int .i64 tn,.slice v vs.length d] 32):=by
  rw[h];exact(Below.heap_alloc _ _ _ (by simp;omega)).trans ((Below.heap_alloc _ _ _ (by simp)).trans (wE w _))
 have kV:a.heap[w.heap.size+1]? = some (.cells #[.int .i64 D,.int .i64 F,.int .i64 G,.int .i64 I,.int .i64 J,.int .i64 K,.int .i64 L,.int .i64 M] 114):=by
  rw[h];have:=wE (w.alloc (.cells #[.int .i64 tn,.slice v vs.length d] 32)) (.cells #[.int .i64 D,.int .i64 F,.int .i64 G,.int .i64 I,.int .i64 J,.int .i64 K,.int .i64 L,.int .i64 M] 114)
  rw[World.size_alloc] at this;exact(Below.heap_alloc _ _ _ (by simp)).trans this
 have Q:a.heap[w.heap.size+1+1]? = some (.cells #[.int .i64 0,.slice none 0 0] 32):=by
  rw[h];have:=wE ((w.alloc (.cells #[.int .i64 tn,.slice v vs.length d] 32)).alloc (.cells #[.int .i64 D,.int .i64 F,.int .i64 G,.int .i64 I,.int .i64 J,.int .i64 K,.int .i64 L,.int .i64 M] 114)) (.cells #[.int .i64 0,.slice none 0 0] 32)
  rwa [World.size_alloc,World.size_alloc] at this
 have H:=qH (fun W (i:Below w.heap.size w W)=>qD (tn:=tn) (x:=x) ((o.keep (EI.stab _) i).ks (by omega)) hx);have a3:EG x = .agg #[.int .i64 D,.int .i64 F,.int .i64 G,.int .i64 I,.int .i64 J,.int .i64 K,.int .i64 L,.int .i64 M]:=by rw[P];rfl
 rw[a3] at H|-;have U:=qH (fun W (i:Below a.heap.size a W)=>And.intro (And.intro (AC i (BA T).1) (AC i (BA T).2)) (AN i kV));obtain⟨q,f⟩:=BA T;obtain⟨r,s,t,u,y,z,A,C⟩:=box8' kV;rw[h] at q f r s t u y z A C;replace Q:=qH Q;have c5:=qH T;replace o:=qH o;replace P:=qH P;clear T kV a3;by_cases m:x∈vs
 ·have l:BO vs x=vs:=by unfold BO;rw[if_pos m]
  rw[l];simp only[if_pos m] at H;obtain⟨b2,X⟩:=AB (ixOf vs x);rw[X];simp only[X] at H;clear m l X;have c':(0:Int)<=(b2:Int):=Int.natCast_nonneg _;go_enter Tryz.func188, Tryz.ntmps188
  go_wp2_with fail
  rw[<-h];replace h:=qH h;refine(H.out a N).mono ?_;rintro e c ⟨rfl,b⟩;clear q f r s t u y z A C;obtain⟨⟨q,f⟩,-⟩:=U.out c b;have R:=AN b Q.out;obtain⟨z0,z1⟩:=BA R;have fz:=BG R;have Z:=btt N b;have m0:=heap_setCell_same c (w.heap.size+1+1) 0 _ _ (.int .i64 tn) R;have n:=heap_setCell_same _ (w.heap.size+1+1) 1 _ _ (.slice v vs.length d) m0;have O:=(Z.setCell (p:=⟨w.heap.size+1+1,0,none⟩) (by show w.heap.size<=w.heap.size+1+1;omega) (.int .i64 tn)).setCell (p:=⟨w.heap.size+1+1,1,none⟩) (by show w.heap.size<=w.heap.size+1+1;omega) (.slice v vs.length d);replace n:=qH n;clear m0 R;go_wp2_with fail
  exact⟨rfl,_,cR rfl _ _ _ rfl rfl n.out,_,_,rfl,o.out.keep (EI.stab _) O,O⟩
 ·have l:BO vs x=vs ++ [x]:=by unfold BO;rw[if_neg m]
  rw[l,ZQ m];simp only[if_neg m] at H;clear l;go_enter Tryz.func188, Tryz.ntmps188
  go_wp2_with fail
  rw[<-h];replace h:=qH h;refine(H.out a N).mono ?_;rintro e c ⟨rfl,b⟩;clear q f r s t u y z A C;obtain⟨⟨q,f⟩,d3⟩:=U.out c b;have R:=AN b Q.out;have Z:=btt N b;obtain⟨V,g⟩:=AF (c.alloc (.cells #[.int .i64 tn,.slice none 0 0] 32));have j:Below c.heap.size c V:=by rw[g];exact(wB _ _).alloc (wC _) _
  have k3:V.heap[c.heap.size]? = some (.cells #[.int .i64 tn,.slice none 0 0] 32):=by rw[g];exact wE _ _
  have a1:=btt Z j;obtain⟨-,c6⟩:=U.out V (btt b j);obtain⟨r,s,t,u,y,z,A,C⟩:=box8' c6;have c2:=AC j f;have c1:=AN j R;go_upto_region 5 with fail
  rw[<-g];replace g:=qH g;have d2:=b.size;have b':=o.out.keep (EI.stab _) a1;refine rQ (B:=c.heap.size) (tn:=tn) c2 b' (by omega) r s t u y z A C k3 (by omega) (by omega) (wC _) ?_;rintro y4 y6 y7 y9 W4 ⟨S,-,-,-,G5,-,G7⟩ - - - -;obtain⟨⟨a9,c9,rfl⟩,b8⟩:=G5 rfl;have b7:=G7 rfl;have c4:=(S.block w.heap.size (by omega)).trans (AN j (AN b c5.out));have c3:=(S.block (w.heap.size+1+1) (by omega)).trans c1;have b9:Below w.heap.size w W4:=a1.trans (S.mono (by omega));go_wp2;refine rR c4 b7 c3 (by omega) (by omega) ?_;rintro y5 W5 ⟨-,-,H3,H4,H5⟩ -;have Y:=(b8.other (EI.stab _) (by decide) H4).base (Nat.zero_le _);rw[<-P.out] at Y;have O:=H5 _ _ (by omega) b9;have n:=H3 rfl;go_wp2;have hl:(vs ++ [x]).length=vs.length+1:=by rw[List.length_append];rfl
  refine⟨rfl,_,cR rfl _ _ _ rfl rfl n,a9,c9,?_,?_,O⟩
  ·first|rfl|(rw[hl];rfl)
  ·first|exact Y|(rw[hl];exact Y)
end Go.Proofs.YtcnedkkcgdkioaaGreat

/- Texts of this claim, put together: MH. -/
import Derived.Test.YtcnedkkcgdkioaaGreatKBzn

set_option maxRecDepth 100000
set_option maxHeartbeats 12800000
namespace Go.Proofs.YtcnedkkcgdkioaaGreat
open Go.RowKit Go.ChangeShapes Go.WideShapes Go.ChangeAt Go.Deep Go.WideElems
section
variable {H:Type} {enc:TypeId × Value->H} {w:World} {base:Nat} {spare:Nat->Bool} {held:Bool}
theorem eW {v e:Value}{d:DataW H}{p:List MemPlace}{G:Nat}(h:DataW.trod enc Tryz.prog w 0 (fun _=>true) true G 27 [v,e]=some (d,p)) (N:∀n∈d.weights Tryz.prog 27,n<=reachBytes) :
  ∃(n:Int) (ss:Jc),v = .int .i64 n/\DC w (.agg #[v,e]) n ss:=by
 have Q : Tryz.prog.cellsOf 180=1:=by kernel_rfl
 have B : Tryz.prog.bytesOf 180=24:=by kernel_rfl
 have P : Tryz.prog.cellsOf 3=1:=by kernel_rfl
 have O : Tryz.prog.cellsOf 25=1:=by kernel_rfl
 obtain⟨y0,A,n,x,_,b,o⟩:=trod_struct2 Tryz.underlying27 h;simp only[P,O,List.drop_zero,List.take_succ_cons,List.take_zero,List.drop_succ_cons] at b o;simp only[Prod.mk.injEq] at x;obtain⟨rfl,rfl⟩:=x;obtain⟨z,E,_⟩:=DataW.trod_int Tryz.underlying3 b;obtain rfl:v = .int .i64 z:=by simpa using E
 refine⟨z,?_⟩
 have u:∀n∈A.1.weights Tryz.prog 25,n<=reachBytes:=fun n k=>N n (by
  simp only[DataW.weights,Tryz.underlying27,DataW.weightsEach,List.map_cons,List.map_nil,List.mem_append];exact .inr (.inl k))
 obtain⟨T,Z⟩:=A;rcases open_slice1 Tryz.underlying25 Q o with⟨f,_⟩|⟨a,l,C,m,n,V,D,S,f,_,W,Y,t,J,x⟩
 ·obtain rfl:e = .slice none 0 0:=by simpa using f
  exact⟨[],rfl,_,rfl,none,0,0,0,rfl,by simp,by intro j g;simp at g,by simp⟩
 ·obtain rfl:e = .slice (some a) l C:=by simpa using f
  simp only[if_true] at t;subst t;obtain⟨rfl,_⟩:=Prod.mk.injEq ..▸J;have M:=u ((l+(m - l)) * 24) (by simp[DataW.weights,Tryz.underlying25,B]);unfold reachBytes at M
  have y:∀i,i < l->∃R,CO 8 w (V i) R:=fun i c=>by
   obtain⟨U,I⟩:=x i (by omega);refine mM I fun n k=>u n ?_;simp only[DataW.weights,Tryz.underlying25,List.mem_cons,List.mem_append];right;left
   exact VD (List.mem_map_of_mem (List.mem_range.2 c)) n k
  have L:l<=5864062014805:=by omega
  obtain⟨X,K⟩:∃X:Nat->Jb,∀i,i < l->CO 8 w (V i) (X i):=⟨fun i=>if h:i < l then (y i h).choose else [],fun i c=>by simp only[c,dif_pos];exact(y i c).choose_spec⟩;refine⟨(List.range l).map X,rfl,_,rfl,some a,m,a.block,a.off,by simp,fun b=>?_,fun j g=>?_,by simpa using L⟩
  ·have r:=(x 0 (by have:0 < l:=(by simpa using b);omega)).1;rw[show a.add 0=a by simp[Addr.add]] at r;rw[<-FC r]
  ·have q:j < l:=(by simpa using g);have s:=(x 0 (by omega)).1;rw[show a.add 0=a by simp[Addr.add]] at s
   have F:a.add j=⟨a.block,a.off+j,none⟩:=by
    rw[FC s];exact add_plain _ _ _
   refine⟨V j,by rw[<-F];exact(x j (by omega)).1,?_⟩;have:((List.range l).map X).getD j []=X j:=by simp[q]
   rw[this];exact(K j q).ks
theorem tF {cs:List Value}(h:cs.length=7):∃a b c d e f g,cs = [a,b,c,d,e,f,g]:=by
 match cs,h with
 | [a,b,c,d,e,f,g],_=>exact⟨a,b,c,d,e,f,g,rfl⟩
theorem pD {A:Nat}{cs:List Value}{x:DataW H × List MemPlace}(h:DataW.trod enc Tryz.prog w base spare held A 148 cs=some x):∃xs:List Int,xs.length=7/\cs=xs.map (Value.int .i64):=by
 have M : Tryz.prog.cellsOf 148=7:=by kernel_rfl
 have L : Tryz.prog.cellsOf 146=6:=by kernel_rfl
 have K : Tryz.prog.cellsOf 112=5:=by kernel_rfl
 have a : Tryz.prog.cellsOf 3=1:=by kernel_rfl
 obtain⟨S,T,O,_,r,p,q⟩:=trod_struct2 Tryz.underlying148 h;rw[M] at r;obtain⟨u,b,d,f,g,l,v,rfl⟩:=tF r;simp only[L,a,List.drop_zero,List.take_succ_cons,List.take_zero,List.drop_succ_cons] at p q;obtain⟨t,z,_⟩:=DataW.trod_int Tryz.underlying3 q;obtain⟨Q,R,P,_,_,n,o⟩:=trod_struct2 Tryz.underlying146 p;simp only[K,a,List.drop_zero,List.take_succ_cons,List.take_zero,List.drop_succ_cons] at n o;obtain⟨s,y,_⟩:=DataW.trod_int Tryz.underlying3 n;obtain⟨xs,m,_,_,_,N,D⟩:=DataW.trod_array Tryz.underlying112 o
 have j:∀(i:Nat) (c:Value),i < 5->(([b,d,f,g,l]:List Value).drop i).take 1 = [c]->∃k,c = .int .i64 k:=fun i c C B=>by
  have:=D i C
  rw[a,Nat.mul_one,B,List.getElem?_eq_getElem (by omega)] at this;obtain⟨k,e,_⟩:=DataW.trod_int Tryz.underlying3 this;exact⟨k,by simpa using e⟩
 obtain⟨E,rfl⟩:=j 0 b (by omega) rfl;obtain⟨F,rfl⟩:=j 1 d (by omega) rfl;obtain⟨G,rfl⟩:=j 2 f (by omega) rfl;obtain⟨I,rfl⟩:=j 3 g (by omega) rfl;obtain⟨J,rfl⟩:=j 4 l (by omega) rfl;obtain rfl:u = .int .i64 s:=by simpa using y
 obtain rfl:v = .int .i64 t:=by simpa using z
 exact⟨[s,E,F,G,I,J,t],rfl,rfl⟩
theorem pE {v:Value}{d:DataW H}{L:List MemPlace}{u:Nat}(h:DataW.trod enc Tryz.prog w 0 (fun _=>true) true u 77 [v]=some (d,L)) (I:∀n∈d.weights Tryz.prog 77,n<=reachBytes):∃xs,IE w v xs:=by
 have K : Tryz.prog.cellsOf 148=7:=by kernel_rfl
 have r : Tryz.prog.bytesOf 148=56:=by kernel_rfl
 rcases open_slice Tryz.underlying77 h with⟨g,_⟩|⟨a,l,s,m,n,D,P,g,_,N,O,q,A,x⟩
 ·obtain rfl:v = .slice none 0 0:=by simpa using g
  exact⟨[],none,0,0,0,rfl,by simp,by intro j b;simp at b⟩
 ·obtain rfl:v = .slice (some a) l s:=by simpa using g
  simp only[if_true] at q;subst q;obtain⟨rfl,_⟩:=Prod.mk.injEq ..▸A;have G:=I ((l+(m - l)) * 56) (by simp[DataW.weights,Tryz.underlying77,r]);unfold reachBytes at G;rw[K] at x
  obtain⟨X,c⟩:=NX (α:=List Int) (n:=l) (p:=fun i xs=>xs.length=7/\∀j,j < 7->w.cell? (a.add (i * 7+j))=some (.int .i64 (xs.getD j 0))) (fun i F=>by
   obtain⟨M,t,y⟩:=x i (by omega);obtain⟨xs,J,rfl⟩:=pD y;obtain⟨_,_,E⟩:=World.cells?_some t;refine⟨xs,J,fun j b=>?_⟩;have:=E j (by omega)
   rw[add_add] at this;rw[this,List.getElem?_map,List.getElem?_eq_getElem (by omega),AK (by omega)];rfl)
  have C:∀j,j < l->((List.range l).map X).getD j []=X j:=fun j b=>by simp[b]
  refine⟨(List.range l).map X,some a,m,a.block,a.off,by simp,fun z=>?_,fun j b=>?_⟩
  ·have k:=(c 0 (by simpa using z)).2 0 (by omega);rw[show a.add (0 * 7+0)=a by simp[Addr.add]] at k;rw[<-FC k]
  ·have f:j < l:=(by simpa using b);rw[C j f];have o:=(c 0 (by omega)).2 0 (by omega);rw[show a.add (0 * 7+0)=a by simp[Addr.add]] at o;refine⟨(c j f).1,fun i F=>?_⟩;have B:=(c j f).2 i (by have:=(c j f).1;omega)
   have e:a.add (j * 7+i)=⟨a.block,a.off+j * 7+i,none⟩:=by
    have:=FC o
    rw[this,Nat.add_assoc];exact add_plain _ _ _
   rw[<-e];exact B
theorem iW {cs:List Value}(h:cs.length=8):∃a b c d e f g i,cs = [a,b,c,d,e,f,g,i]:=by
 match cs,h with
 | [a,b,c,d,e,f,g,i],_=>exact⟨a,b,c,d,e,f,g,i,rfl⟩
theorem uO {D:Nat}{cs:List Value}{x:DataW H × List MemPlace}(h:DataW.trod enc Tryz.prog w base spare held D 114 cs=some x):∃xs:List Int,xs.length=8/\cs=xs.map (Value.int .i64):=by
 have O : Tryz.prog.cellsOf 114=8:=by kernel_rfl
 have N : Tryz.prog.cellsOf 112=5:=by kernel_rfl
 have u : Tryz.prog.cellsOf 3=1:=by kernel_rfl
 obtain⟨R,S,T,U,Q,_,q,n,o,p,l⟩:=Go.Joins.trod_struct4 Tryz.underlying114 h;rw[O] at q;obtain⟨v,y,z,a,b,d,f,g,rfl⟩:=iW q;simp only[N,u,List.drop_zero,List.take_succ_cons,List.take_zero,List.drop_succ_cons] at n o p l;obtain⟨r,A,_⟩:=DataW.trod_int Tryz.underlying3 n;obtain⟨s,B,_⟩:=DataW.trod_int Tryz.underlying3 o;obtain⟨t,C,_⟩:=DataW.trod_int Tryz.underlying3 p;obtain⟨xs,m,_,_,_,P,G⟩:=DataW.trod_array Tryz.underlying112 l
 have j:∀(i:Nat) (c:Value),i < 5->(([a,b,d,f,g]:List Value).drop i).take 1 = [c]->∃k,c = .int .i64 k:=fun i c F E=>by
  have:=G i F
  rw[u,Nat.mul_one,E,List.getElem?_eq_getElem (by omega)] at this;obtain⟨k,e,_⟩:=DataW.trod_int Tryz.underlying3 this;exact⟨k,by simpa using e⟩
 obtain⟨I,rfl⟩:=j 0 a (by omega) rfl;obtain⟨J,rfl⟩:=j 1 b (by omega) rfl;obtain⟨K,rfl⟩:=j 2 d (by omega) rfl;obtain⟨L,rfl⟩:=j 3 f (by omega) rfl;obtain⟨M,rfl⟩:=j 4 g (by omega) rfl;obtain rfl:v = .int .i64 r:=by simpa using A
 obtain rfl:y = .int .i64 s:=by simpa using B
 obtain rfl:z = .int .i64 t:=by simpa using C
 exact⟨[r,s,t,I,J,K,L,M],rfl,rfl⟩
theorem uP {v:Value}{d:DataW H}{L:List MemPlace}{u:Nat}(h:DataW.trod enc Tryz.prog w 0 (fun _=>true) true u 30 [v]=some (d,L)) (I:∀n∈d.weights Tryz.prog 30,n<=reachBytes):∃xs,KS 8 w v xs:=by
 have K : Tryz.prog.cellsOf 114=8:=by kernel_rfl
 have r : Tryz.prog.bytesOf 114=64:=by kernel_rfl
 rcases open_slice Tryz.underlying30 h with⟨g,_⟩|⟨a,l,s,m,n,D,P,g,_,N,O,q,A,x⟩
 ·obtain rfl:v = .slice none 0 0:=by simpa using g
  exact⟨[],none,0,0,0,rfl,by simp,by intro j b;simp at b,by simp⟩
 ·obtain rfl:v = .slice (some a) l s:=by simpa using g
  simp only[if_true] at q;subst q;obtain⟨rfl,_⟩:=Prod.mk.injEq ..▸A;have G:=I ((l+(m - l)) * 64) (by simp[DataW.weights,Tryz.underlying30,r]);unfold reachBytes at G;rw[K] at x
  obtain⟨X,c⟩:=NX (α:=List Int) (n:=l) (p:=fun i xs=>xs.length=8/\∀j,j < 8->w.cell? (a.add (i * 8+j))=some (.int .i64 (xs.getD j 0))) (fun i F=>by
   obtain⟨M,t,y⟩:=x i (by omega);obtain⟨xs,J,rfl⟩:=uO y;obtain⟨_,_,E⟩:=World.cells?_some t;refine⟨xs,J,fun j b=>?_⟩;have:=E j (by omega)
   rw[add_add] at this;rw[this,List.getElem?_map,List.getElem?_eq_getElem (by omega),AK (by omega)];rfl)
  have C:∀j,j < l->((List.range l).map X).getD j []=X j:=fun j b=>by simp[b]
  refine⟨(List.range l).map X,some a,m,a.block,a.off,by simp,fun z=>?_,fun j b=>?_,by simp;omega⟩
  ·have k:=(c 0 (by simpa using z)).2 0 (by omega);rw[show a.add (0 * 8+0)=a by simp[Addr.add]] at k;rw[<-FC k]
  ·have f:j < l:=(by simpa using b);rw[C j f];have o:=(c 0 (by omega)).2 0 (by omega);rw[show a.add (0 * 8+0)=a by simp[Addr.add]] at o;refine⟨(c j f).1,fun i F=>?_⟩;have B:=(c j f).2 i (by have:=(c j f).1;omega)
   have e:a.add (j * 8+i)=⟨a.block,a.off+j * 8+i,none⟩:=by
    have:=FC o
    rw[this,Nat.add_assoc];exact add_plain _ _ _
   rw[<-e];exact B
theorem uQ {u:Nat}{cs:List Value}{x:DataW H × List MemPlace}(h:DataW.trod enc Tryz.prog w base spare held u 83 cs=some x):∃xs:List Int,xs.length=2/\cs=xs.map (Value.int .i64):=by
 have n : Tryz.prog.cellsOf 83=2:=by kernel_rfl
 have m : Tryz.prog.cellsOf 3=1:=by kernel_rfl
 obtain⟨z,p,o,_,l,g,c⟩:=trod_struct2 Tryz.underlying83 h;rw[n] at l
 obtain⟨e,f,rfl⟩:∃a b,cs = [a,b]:=by
  match cs,l with
  | [a,b],_=>exact⟨a,b,rfl⟩
 simp only[m,List.drop_zero,List.take_succ_cons,List.take_zero,List.drop_succ_cons] at g c;obtain⟨i,j,_⟩:=DataW.trod_int Tryz.underlying3 g;obtain⟨d,k,_⟩:=DataW.trod_int Tryz.underlying3 c;obtain rfl:e = .int .i64 i:=by simpa using j
 obtain rfl:f = .int .i64 d:=by simpa using k
 exact⟨[i,d],rfl,rfl⟩
theorem uS {v:Value}{d:DataW H}{L:List MemPlace}{u:Nat}(h:DataW.trod enc Tryz.prog w 0 (fun _=>true) true u 38 [v]=some (d,L)) (I:∀n∈d.weights Tryz.prog 38,n<=reachBytes):∃xs,MO w v xs:=by
 have K : Tryz.prog.cellsOf 83=2:=by kernel_rfl
 have r : Tryz.prog.bytesOf 83=16:=by kernel_rfl
 rcases open_slice Tryz.underlying38 h with⟨g,_⟩|⟨a,l,s,m,n,D,P,g,_,N,O,q,A,x⟩
 ·obtain rfl:v = .slice none 0 0:=by simpa using g
  exact⟨[],none,0,0,0,rfl,by simp,by intro j b;simp at b⟩
 ·obtain rfl:v = .slice (some a) l s:=by simpa using g
  simp only[if_true] at q;subst q;obtain⟨rfl,_⟩:=Prod.mk.injEq ..▸A;have G:=I ((l+(m - l)) * 16) (by simp[DataW.weights,Tryz.underlying38,r]);unfold reachBytes at G;rw[K] at x
  obtain⟨X,c⟩:=NX (α:=List Int) (n:=l) (p:=fun i xs=>xs.length=2/\∀j,j < 2->w.cell? (a.add (i * 2+j))=some (.int .i64 (xs.getD j 0))) (fun i F=>by
   obtain⟨M,t,y⟩:=x i (by omega);obtain⟨xs,J,rfl⟩:=uQ y;obtain⟨_,_,E⟩:=World.cells?_some t;refine⟨xs,J,fun j b=>?_⟩;have:=E j (by omega)
   rw[add_add] at this;rw[this,List.getElem?_map,List.getElem?_eq_getElem (by omega),AK (by omega)];rfl)
  have C:∀j,j < l->((List.range l).map X).getD j []=X j:=fun j b=>by simp[b]
  refine⟨(List.range l).map X,some a,m,a.block,a.off,by simp,fun z=>?_,fun j b=>?_⟩
  ·have k:=(c 0 (by simpa using z)).2 0 (by omega);rw[show a.add (0 * 2+0)=a by simp[Addr.add]] at k;rw[<-FC k]
  ·have f:j < l:=(by simpa using b);rw[C j f];have o:=(c 0 (by omega)).2 0 (by omega);rw[show a.add (0 * 2+0)=a by simp[Addr.add]] at o;refine⟨(c j f).1,fun i F=>?_⟩;have B:=(c j f).2 i (by have:=(c j f).1;omega)
   have e:a.add (j * 2+i)=⟨a.block,a.off+j * 2+i,none⟩:=by
    have:=FC o
    rw[this,Nat.add_assoc];exact add_plain _ _ _
   rw[<-e];exact B
theorem jJ {cs:List Value}{x:DataW H × List MemPlace}{u:Nat}(h:DataW.trod enc Tryz.prog w 0 (fun _=>true) true u 80 cs=some x) (q:∀n∈x.1.weights Tryz.prog 80,n<=reachBytes) :
  ∃(u1 u2:Value) (c:Ex),cs = [.int .i64 c.1,u1,u2]/\IE w u1 c.2.1/\BM w u2 c.2.2:=by
 have v : Tryz.prog.cellsOf 80=3:=by kernel_rfl
 have z : Tryz.prog.cellsOf 48=1:=by kernel_rfl
 have A : Tryz.prog.cellsOf 78=1:=by kernel_rfl
 have B : Tryz.prog.cellsOf 77=1:=by kernel_rfl
 have k : Tryz.prog.cellsOf 3=1:=by kernel_rfl
 have o : Tryz.prog.bytesOf 3=8:=by kernel_rfl
 have m : Tryz.prog.bytesOf 48=24:=by kernel_rfl
 obtain⟨I,y,E,n,r,l,e,f,g⟩:=trod_struct3 Tryz.underlying80 h;rw[v] at l
 obtain⟨u0,u1,u2,rfl⟩:∃a b c,cs = [a,b,c]:=by
  match cs,l with
  | [a,b,c],_=>exact⟨a,b,c,rfl⟩
 simp only[k,B,A,List.drop_zero,List.take_succ_cons,List.take_zero,List.drop_succ_cons] at e f g;subst r
 have i:∀n,(n∈y.1.weights Tryz.prog 77\/n∈E.1.weights Tryz.prog 78)->n<=reachBytes:=fun n d=>q n (by
  simp only[DataW.weights,Tryz.underlying80,DataW.weightsEach,List.map_cons,List.map_nil,List.mem_append];rcases d with d|d
  ·exact .inr (.inl d)
  ·exact .inr (.inr (.inl d)))
 obtain⟨j,p,_⟩:=DataW.trod_int Tryz.underlying3 e;obtain rfl:u0 = .int .i64 j:=by simpa using p
 obtain⟨F,G⟩:=y;obtain⟨C,s⟩:=pE f (fun n d=>i n (.inl d));obtain⟨D,t⟩:=TD Tryz.underlying78 Tryz.underlying48 Tryz.underlying3 z m k o g (fun n d=>i n (.inr d));exact⟨u1,u2,(j,C,D),rfl,s,t⟩
theorem jR {v:Value}{d:DataW H}{Q:List MemPlace}{I:Nat}(h:DataW.trod enc Tryz.prog w 0 (fun _=>true) true I 33 [v]=some (d,Q)) (C:∀n∈d.weights Tryz.prog 33,n<=reachBytes):∃xs,JN w v xs:=by
 have P : Tryz.prog.cellsOf 80=3:=by kernel_rfl
 have F : Tryz.prog.bytesOf 80=56:=by kernel_rfl
 rcases open_slice Tryz.underlying33 h with⟨b,_⟩|⟨a,l,G,m,n,D,R,b,_,T,U,B,k,E⟩
 ·obtain rfl:v = .slice none 0 0:=by simpa using b
  exact⟨[],none,0,0,0,rfl,by simp,by intro j f;simp at f⟩
 ·obtain rfl:v = .slice (some a) l G:=by simpa using b
  simp only[if_true] at B;subst B;obtain⟨rfl,_⟩:=Prod.mk.injEq ..▸k;have O:=C ((l+(m - l)) * 56) (by simp[DataW.weights,Tryz.underlying33,F]);unfold reachBytes at O;rw[P] at E
  obtain⟨X,r⟩:=NX (α:=Ex) (n:=l) (p:=fun i c=>∃u1 u2,w.cell? (a.add (i * 3))=some (.int .i64 c.1)/\w.cell? (a.add (i * 3+1))=some u1/\w.cell? (a.add (i * 3+2))=some u2/\IE w u1 c.2.1/\BM w u2 c.2.2) (fun i L=>by
   obtain⟨S,o,q⟩:=E i (by omega)
   obtain⟨u1,u2,c,rfl,t,u⟩:=jJ q (fun n M=>C n (by
    simp only[DataW.weights,Tryz.underlying33,List.mem_cons,List.mem_append];right;left
    exact VD (List.mem_map_of_mem (List.mem_range.2 L)) n M))
   obtain⟨_,_,s⟩:=World.cells?_some o;have g:=s 0 (by simp);have b:=s 1 (by simp);have k:=s 2 (by simp);rw[add_add] at g b k;exact⟨c,u1,u2,g,b,k,t,u⟩)
  have K:∀j,j < l->((List.range l).map X).getD j BJ=X j:=fun j f=>by simp[f]
  refine⟨(List.range l).map X,some a,m,a.block,a.off,by simp,fun g=>?_,fun j f=>?_⟩
  ·obtain⟨_,_,z,_⟩:=r 0 (by simpa using g);rw[show a.add (0 * 3)=a by simp[Addr.add]] at z;rw[<-FC z]
  ·have y:j < l:=(by simpa using f);rw[K j y];obtain⟨_,_,A,_⟩:=r 0 (by omega);rw[show a.add (0 * 3)=a by simp[Addr.add]] at A;have N:=FC A;obtain⟨u1,u2,J,o,q,t,u⟩:=r j y
   have e:∀i,a.add (j * 3+i)=⟨a.block,a.off+j * 3+i,none⟩:=fun i=>by
    rw[N,Nat.add_assoc];exact add_plain _ _ _
   have x:=e 0;rw[Nat.add_zero,Nat.add_zero] at x;exact⟨u1,u2,by rw[<-x];exact J,by rw[<-e 1];exact o,by rw[<-e 2];exact q,t,u⟩
theorem oK {b f g s t u j:Value}{d:DataW H}{p:List MemPlace}{U:Nat}(W:DataW.trod enc Tryz.prog w 0 (fun _=>true) true U 29 [b,f,g,s,t,u,j]=some (d,p)) (X:∀n∈d.weights Tryz.prog 29,n<=reachBytes) :
  ∃(n i o an r:Int) (cs:List Cs) (ss:Jc) (a k:Option Addr) (c q:Nat),[b,f,g,s,t,u,j] = [.int .i64 n,.int .i64 i,.int .i64 o,.slice a cs.length c,.int .i64 an,.slice k ss.length q,.int .i64 r]/\ED w (.agg #[.int .i64 n,.int .i64 i,.int .i64 o,.slice a cs.length c,.int .i64 an,.slice k ss.length q,.int .i64 r]) n i o cs an ss r:=by
 have a2 : Tryz.prog.cellsOf 24=4:=by kernel_rfl
 have a0 : Tryz.prog.cellsOf 27=2:=by kernel_rfl
 have L : Tryz.prog.cellsOf 3=1:=by kernel_rfl
 have a1 : Tryz.prog.cellsOf 22=1:=by kernel_rfl
 obtain⟨y0,O,y2,n,F,_,A,B,C⟩:=trod_struct3 Tryz.underlying29 W;simp only[a2,a0,L,List.drop_zero,List.take_succ_cons,List.take_zero,List.drop_succ_cons] at A B C;simp only[Prod.mk.injEq] at F;obtain⟨rfl,rfl⟩:=F
 have E:∀n,(n∈y0.1.weights Tryz.prog 24\/n∈O.1.weights Tryz.prog 27)->n<=reachBytes:=fun n h=>X n (by
  simp only[DataW.weights,Tryz.underlying29,DataW.weightsEach,List.map_cons,List.map_nil,List.mem_append];rcases h with h|h
  ·exact .inl h
  ·exact .inr (.inl h))
 obtain⟨K,T,_⟩:=DataW.trod_int Tryz.underlying3 C;obtain rfl:j = .int .i64 K:=by simpa using T
 obtain⟨dA,pA⟩:=O;obtain⟨Z,ss,rfl,D⟩:=eW B (fun n h=>E n (.inr h));obtain⟨z0,z1,z2,z3,n2,Y,_,v,x,y,z⟩:=Go.Joins.trod_struct4 Tryz.underlying24 A;simp only[a1,L,List.drop_zero,List.take_succ_cons,List.take_zero,List.drop_succ_cons] at v x y z;obtain⟨G,Q,_⟩:=DataW.trod_int Tryz.underlying3 v;obtain⟨I,R,_⟩:=DataW.trod_int Tryz.underlying3 x;obtain⟨J,S,_⟩:=DataW.trod_int Tryz.underlying3 y;obtain rfl:b = .int .i64 G:=by simpa using Q
 obtain rfl:f = .int .i64 I:=by simpa using R
 obtain rfl:g = .int .i64 J:=by simpa using S
 subst Y;obtain⟨d3,p3⟩:=z3
 obtain⟨P,M,N,rfl,V,_,_⟩:=fP z (fun n h=>E n (.inl (by
  simp only[DataW.weights,Tryz.underlying24,DataW.weightsEach,List.map_cons,List.map_nil,List.mem_append];exact .inr (.inr (.inr (.inl h))))))
 obtain⟨l,m,e⟩:=PK D;injection e with e;simp only[Array.mk.injEq,List.cons.injEq,and_true,true_and] at e;subst e;exact⟨G,I,J,Z,K,P,ss,M,l,N,m,rfl,M,N,l,m,rfl,⟨_,rfl,V⟩,D⟩
structure eU where
 n:Int
 i:Int
 o:Int
 cs:List Cs
 an:Int
 ss:Jc
 r:Int
 tn:Int
 vs:Jb
 xs:List Ex
theorem UV {r:Reach}{Q:Nat}{v:Value}{d:DataW H}{p:List MemPlace}(W:Value.okWide Tryz.prog w r Q 35 v) (h:DataW.Trod enc Tryz.prog w 0 (fun _=>true) true 35 v d p) (Y:∀n∈d.weights Tryz.prog 35,n<=reachBytes) :
  ∃x:eU,IY w v x.n x.i x.o x.cs x.an x.ss x.r x.tn x.vs x.xs:=by
 have a7 : Tryz.prog.cellsOf 35=10:=by kernel_rfl
 have a8 : Tryz.prog.cellsOf 29=7:=by kernel_rfl
 have a5 : Tryz.prog.cellsOf 32=2:=by kernel_rfl
 have a6 : Tryz.prog.cellsOf 33=1:=by kernel_rfl
 have a4 : Tryz.prog.cellsOf 30=1:=by kernel_rfl
 have k3 : Tryz.prog.cellsOf 3=1:=by kernel_rfl
 obtain⟨A,rfl,I⟩:=okWide_struct Tryz.underlying35 W;rw[a7] at I
 obtain⟨l,m,o,q,s,t,u,j,y,z,rfl⟩:∃l m o q s t u j y z,A = #[l,m,o,q,s,t,u,j,y,z]:=by
  obtain⟨a9⟩:=A;match a9,I with
  | [a,b,c,d,e,f,g,h,a0,a2],_=>exact⟨a,b,c,d,e,f,g,h,a0,a2,rfl⟩
 obtain⟨c4,U⟩:=h;obtain⟨L,y1,M,n,J,_,D,E,F⟩:=trod_struct3 Tryz.underlying35 U;simp only[Value.cells,a8,a5,a6,List.drop_zero,List.take_succ_cons,List.take_zero,List.drop_succ_cons] at D E F;simp only[Prod.mk.injEq] at J;obtain⟨rfl,rfl⟩:=J
 have k:∀n,(n∈L.1.weights Tryz.prog 29\/n∈y1.1.weights Tryz.prog 32\/n∈M.1.weights Tryz.prog 33)->n<=reachBytes:=fun n i=>Y n (by
  simp only[DataW.weights,Tryz.underlying35,DataW.weightsEach,List.map_cons,List.map_nil,List.mem_append];rcases i with i|i|i
  ·exact .inl i
  ·exact .inr (.inl i)
  ·exact .inr (.inr (.inl i)))
 obtain⟨dP,pP⟩:=L;obtain⟨n0,i0,o0,P,r0,R,b4,N,O,q0,b2,G,T⟩:=oK D (fun n i=>k n (.inl i));simp only[List.cons.injEq,and_true] at G;obtain⟨rfl,rfl,rfl,rfl,rfl,rfl,rfl⟩:=G;obtain⟨z0,z1,n2,Z,_,B,C⟩:=trod_struct2 Tryz.underlying32 E;simp only[k3,a4,List.drop_zero,List.take_succ_cons,List.take_zero,List.drop_succ_cons] at B C;obtain⟨K,S,_⟩:=DataW.trod_int Tryz.underlying3 B;obtain rfl:j = .int .i64 K:=by simpa using S
 subst Z;obtain⟨d1,p1⟩:=z1
 obtain⟨vs,V⟩:=uP C (fun n i=>k n (.inr (.inl (by
  simp only[DataW.weights,Tryz.underlying32,DataW.weightsEach,List.map_cons,List.map_nil,List.mem_append];exact .inr (.inl i)))))
 obtain⟨d2,p2⟩:=M;obtain⟨xs,X⟩:=jR F (fun n i=>k n (.inr (.inr i)));obtain⟨va,vc,rfl⟩:=KS.shape V;obtain⟨xa,xc,rfl⟩:=X.shape;exact⟨⟨n0,i0,o0,R,P,b4,r0,K,vs,xs⟩,N,q0,O,b2,va,vc,xa,xc,rfl,T,V,X⟩
end
end Go.Proofs.YtcnedkkcgdkioaaGreat

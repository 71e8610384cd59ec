/- Texts of this claim, put together: Y0 QR MH LSd. -/
import Derived.Lib.SmallJoins
import Derived.Test.YtcnedkkcgdkioaaGreatKSzg

set_option maxRecDepth 100000
set_option maxHeartbeats 12800000
namespace Go.Proofs.YtcnedkkcgdkioaaGreat
open Go.RowKit Go.ChangeShapes Go.WideShapes Go.ChangeAt Go.Deep Go.WideElems
section
variable {H:Type} {enc:TypeId × Value->H} {w:World} {base:Nat} {spare:Nat->Bool} {held:Bool}
theorem eightL {cs:List Value}(h:cs.length=8):∃a b c d e f g i,cs = [a,b,c,d,e,f,g,i]:=by
 match cs,h with
 | [a,b,c,d,e,f,g,i],_=>exact⟨a,b,c,d,e,f,g,i,rfl⟩
theorem moveInts {fuel:Nat}{cs:List Value}{x:DataW H × List MemPlace}(h:DataW.trod enc Tryz.prog w base spare held fuel 178 cs=some x):∃xs:List Int,xs.length=8/\cs=xs.map (Value.int .i64):=by
 have k84 : Tryz.prog.cellsOf 178=8:=by kernel_rfl
 have k79 : Tryz.prog.cellsOf 148=7:=by kernel_rfl
 have k77 : Tryz.prog.cellsOf 146=6:=by kernel_rfl
 have k75 : Tryz.prog.cellsOf 112=5:=by kernel_rfl
 have k3 : Tryz.prog.cellsOf 3=1:=by kernel_rfl
 obtain⟨y0,y1,n,_,hl,h0,h1⟩:=trod_struct2 Tryz.underlying178 h;rw[k84] at hl;obtain⟨c0,c1,c2,c3,c4,c5,c6,c7,rfl⟩:=eightL hl;simp only[k79,k3,List.drop_zero,List.take_succ_cons,List.take_zero,List.drop_succ_cons] at h0 h1;obtain⟨i7,e7,_⟩:=DataW.trod_int Tryz.underlying3 h1;obtain⟨z0,z1,n2,_,_,g0,g1⟩:=trod_struct2 Tryz.underlying148 h0;simp only[k77,k3,List.drop_zero,List.take_succ_cons,List.take_zero,List.drop_succ_cons] at g0 g1;obtain⟨i6,e6,_⟩:=DataW.trod_int Tryz.underlying3 g1;obtain⟨q0,q1,n3,_,_,f0,f1⟩:=trod_struct2 Tryz.underlying146 g0;simp only[k75,k3,List.drop_zero,List.take_succ_cons,List.take_zero,List.drop_succ_cons] at f0 f1;obtain⟨i0,e0,_⟩:=DataW.trod_int Tryz.underlying3 f0;obtain⟨xs,m,_,_,_,hxl,hx⟩:=DataW.trod_array Tryz.underlying112 f1
 have hj:∀(i:Nat) (c:Value),i < 5->(([c1,c2,c3,c4,c5]:List Value).drop i).take 1 = [c]->∃k,c = .int .i64 k:=fun i c hi hc=>by
  have:=hx i hi
  rw[k3,Nat.mul_one,hc,List.getElem?_eq_getElem (by omega)] at this;obtain⟨k,e,_⟩:=DataW.trod_int Tryz.underlying3 this;exact⟨k,by simpa using e⟩
 obtain⟨i1,rfl⟩:=hj 0 c1 (by omega) rfl;obtain⟨i2,rfl⟩:=hj 1 c2 (by omega) rfl;obtain⟨i3,rfl⟩:=hj 2 c3 (by omega) rfl;obtain⟨i4,rfl⟩:=hj 3 c4 (by omega) rfl;obtain⟨i5,rfl⟩:=hj 4 c5 (by omega) rfl;obtain rfl:c0 = .int .i64 i0:=by simpa using e0
 obtain rfl:c6 = .int .i64 i6:=by simpa using e6
 obtain rfl:c7 = .int .i64 i7:=by simpa using e7
 exact⟨[i0,i1,i2,i3,i4,i5,i6,i7],rfl,rfl⟩
theorem ksc_of_trod {v:Value}{d:DataW H}{ps:List MemPlace}{fuel:Nat}(h:DataW.trod enc Tryz.prog w 0 (fun _=>true) true fuel 180 [v]=some (d,ps)) (hw:∀n∈d.weights Tryz.prog 180,n<=reachBytes):∃xs,KSC 8 w v xs:=by
 have k84 : Tryz.prog.cellsOf 178=8:=by kernel_rfl
 have b84 : Tryz.prog.bytesOf 178=64:=by kernel_rfl
 rcases open_slice Tryz.underlying180 h with⟨h1,_⟩|⟨a,len,cap,m,n,D,Pl,h1,_,hl,hm,hmm,h2,hx⟩
 ·obtain rfl:v = .slice none 0 0:=by simpa using h1
  exact⟨[],none,0,0,0,rfl,by simp,by intro j hj;simp at hj,by simp,by simp⟩
 ·obtain rfl:v = .slice (some a) len cap:=by simpa using h1
  simp only[if_true] at hmm;subst hmm;obtain⟨rfl,_⟩:=Prod.mk.injEq ..▸h2;have hsz:=hw ((len+(m - len)) * 64) (by simp[DataW.weights,Tryz.underlying180,b84]);unfold reachBytes at hsz;rw[k84] at hx
  obtain⟨X,hX⟩:=choose_lt (α:=List Int) (n:=len) (p:=fun i xs=>xs.length=8/\∀j,j < 8->w.cell? (a.add (i * 8+j))=some (.int .i64 (xs.getD j 0))) (fun i hi=>by
   obtain⟨cs',g1,g2⟩:=hx i (by omega);obtain⟨xs,hx8,rfl⟩:=moveInts g2;obtain⟨_,_,hcell⟩:=World.cells?_some g1;refine⟨xs,hx8,fun j hj=>?_⟩;have:=hcell j (by omega)
   rw[add_add] at this;rw[this,List.getElem?_map,List.getElem?_eq_getElem (by omega),getD_eq (by omega)];rfl)
  have hlen:len<=2199023255552:=by omega
  have hall:∀j,j < len->((List.range len).map X).getD j []=X j:=fun j hj=>by simp[hj]
  refine⟨(List.range len).map X,some a,m,a.block,a.off,by simp,fun h0=>?_,fun j hj=>?_,by simpa using hlen,by simpa using hl⟩
  ·have hk:=(hX 0 (by simpa using h0)).2 0 (by omega);rw[show a.add (0 * 8+0)=a by simp[Addr.add]] at hk;rw[<-addr_spot hk]
  ·have hj':j < len:=(by simpa using hj);rw[hall j hj'];have hk0:=(hX 0 (by omega)).2 0 (by omega);rw[show a.add (0 * 8+0)=a by simp[Addr.add]] at hk0;refine⟨(hX j hj').1,fun i hi=>?_⟩;have h3:=(hX j hj').2 i (by have:=(hX j hj').1;omega)
   have e:a.add (j * 8+i)=⟨a.block,a.off+j * 8+i,none⟩:=by
    have:=addr_spot hk0
    rw[this,Nat.add_assoc];exact add_plain _ _ _
   rw[<-e];exact h3
theorem weightsAll_mem {e:TypeId}:∀ {l:List (DataW H)}{x:DataW H},x∈l->∀n∈x.weights Tryz.prog e,n∈DataW.weightsAll Tryz.prog e l:=by
 intro l;induction l with
 | nil=>intro x hx;cases hx
 | cons y r ih=>
  intro x hx n hn;simp only[DataW.weightsAll,List.mem_append];rcases List.mem_cons.1 hx with rfl|hx
  ·exact .inl hn
  ·exact .inr (ih hx n hn)
end
end Go.Proofs.YtcnedkkcgdkioaaGreat
namespace Go.Proofs.YtcnedkkcgdkioaaGreat
open Go.RowKit Go.ChangeShapes Go.WideShapes Go.ChangeAt Go.Deep Go.WideElems
section
variable {H:Type} {enc:TypeId × Value->H} {w:World}
theorem caseRows {cs:List Value}{x:DataW H × List MemPlace}{fuel:Nat}(h:DataW.trod enc Tryz.prog w 0 (fun _=>true) true fuel 95 cs=some x) (hw:∀n∈x.1.weights Tryz.prog 95,n<=reachBytes) :
  ∃(u0 u1 u2:Value) (c:Cs),cs = [u0,u1,u2]/\Ints w u0 c.1/\Intss w u1 c.2.1/\Intss w u2 c.2.2:=by
 have k128 : Tryz.prog.cellsOf 95=3:=by kernel_rfl
 have k25 : Tryz.prog.cellsOf 48=1:=by kernel_rfl
 have k39 : Tryz.prog.cellsOf 78=1:=by kernel_rfl
 have k3 : Tryz.prog.cellsOf 3=1:=by kernel_rfl
 have b3 : Tryz.prog.bytesOf 3=8:=by kernel_rfl
 have b25 : Tryz.prog.bytesOf 48=24:=by kernel_rfl
 obtain⟨y0,y1,y2,n,hx,hl,h0,h1,h2⟩:=trod_struct3 Tryz.underlying95 h;rw[k128] at hl
 obtain⟨u0,u1,u2,rfl⟩:∃a b c,cs = [a,b,c]:=by
  match cs,hl with
  | [a,b,c],_=>exact⟨a,b,c,rfl⟩
 simp only[k25,k39,List.drop_zero,List.take_succ_cons,List.take_zero,List.drop_succ_cons] at h0 h1 h2;subst hx
 have hwx:∀n,(n∈y0.1.weights Tryz.prog 48\/n∈y1.1.weights Tryz.prog 78\/n∈y2.1.weights Tryz.prog 78)->n<=reachBytes:=fun n hn=>hw n (by
  simp only[DataW.weights,Tryz.underlying95,DataW.weightsEach,List.map_cons,List.map_nil,List.mem_append];rcases hn with hn|hn|hn
  ·exact .inl hn
  ·exact .inr (.inl hn)
  ·exact .inr (.inr (.inl hn)))
 obtain⟨x0,i0⟩:=ints_of_trod Tryz.underlying48 Tryz.underlying3 k3 b3 h0 (fun n hn=>hwx n (.inl hn));obtain⟨x1,i1⟩:=intss_of_trod Tryz.underlying78 Tryz.underlying48 Tryz.underlying3 k25 b25 k3 b3 h1 (fun n hn=>hwx n (.inr (.inl hn)));obtain⟨x2,i2⟩:=intss_of_trod Tryz.underlying78 Tryz.underlying48 Tryz.underlying3 k25 b25 k3 b3 h2 (fun n hn=>hwx n (.inr (.inr hn)));exact⟨u0,u1,u2,(x0,x1,x2),rfl,i0,i1,i2⟩
theorem choose_lt28 {α:Type} [Inhabited α] {n:Nat}{p:Nat->α->Prop}(h:∀i,i < n->∃x,p i x):∃X:Nat->α,∀i,i < n->p i (X i):=
 ⟨fun i=>if h':i < n then (h i h').choose else default,fun i hi=>by simp only[hi,dif_pos];exact(h i hi).choose_spec⟩
theorem cases_of_trod {v:Value}{d:DataW H}{ps:List MemPlace}{fuel:Nat}(h:DataW.trod enc Tryz.prog w 0 (fun _=>true) true fuel 22 [v]=some (d,ps)) (hw:∀n∈d.weights Tryz.prog 22,n<=reachBytes):∃cs a c,v = .slice a cs.length c/\CsS w v cs/\cs.length<=c/\c<=1954687338268:=by
 have k128 : Tryz.prog.cellsOf 95=3:=by kernel_rfl
 have b128 : Tryz.prog.bytesOf 95=72:=by kernel_rfl
 rcases open_slice Tryz.underlying22 h with⟨h1,_⟩|⟨a,len,cap,m,n,D,Pl,h1,_,hl,hm,hmm,h2,hx⟩
 ·obtain rfl:v = .slice none 0 0:=by simpa using h1
  exact⟨[],none,0,rfl,⟨none,0,0,0,rfl,by simp,by intro j hj;simp at hj,by simp⟩,Nat.le_refl _,by decide⟩
 ·obtain rfl:v = .slice (some a) len cap:=by simpa using h1
  simp only[if_true] at hmm;subst hmm;obtain⟨rfl,_⟩:=Prod.mk.injEq ..▸h2;have hsz:=hw ((len+(m - len)) * 72) (by simp[DataW.weights,Tryz.underlying22,b128]);unfold reachBytes at hsz;rw[k128] at hx
  obtain⟨X,hX⟩:=choose_lt28 (α:=Cs) (n:=len) (p:=fun i c=>∃u0 u1 u2,w.cell? (a.add (i * 3))=some u0/\w.cell? (a.add (i * 3+1))=some u1/\w.cell? (a.add (i * 3+2))=some u2/\Ints w u0 c.1/\Intss w u1 c.2.1/\Intss w u2 c.2.2) (fun i hi=>by
   obtain⟨cs',g1,g2⟩:=hx i (by omega)
   obtain⟨u0,u1,u2,c,rfl,j0,j1,j2⟩:=caseRows g2 (fun n hn=>hw n (by
    simp only[DataW.weights,Tryz.underlying22,List.mem_cons,List.mem_append];right;left
    exact weightsAll_mem (List.mem_map_of_mem (List.mem_range.2 hi)) n hn))
   obtain⟨_,_,hcell⟩:=World.cells?_some g1;have h0:=hcell 0 (by simp);have h1:=hcell 1 (by simp);have h2:=hcell 2 (by simp);rw[add_add] at h0 h1 h2;exact⟨c,u0,u1,u2,h0,h1,h2,j0,j1,j2⟩)
  have hlen:len<=1954687338268:=by omega
  have hall:∀j,j < len->((List.range len).map X).getD j csNil=X j:=fun j hj=>by simp[hj]
  refine⟨(List.range len).map X,some a,m,by simp,⟨some a,m,a.block,a.off,by simp,fun h0=>?_,fun j hj=>?_,by simpa using hlen⟩,by simpa using hl,by omega⟩
  ·obtain⟨u0,_,_,hk,_⟩:=hX 0 (by simpa using h0);rw[show a.add (0 * 3)=a by simp[Addr.add]] at hk;rw[<-addr_spot hk]
  ·have hj':j < len:=(by simpa using hj);rw[hall j hj'];obtain⟨_,_,_,hk0,_⟩:=hX 0 (by omega);rw[show a.add (0 * 3)=a by simp[Addr.add]] at hk0;have hsp:=addr_spot hk0;obtain⟨u0,u1,u2,g0,g1,g2,j0,j1,j2⟩:=hX j hj'
   have e:∀i,a.add (j * 3+i)=⟨a.block,a.off+j * 3+i,none⟩:=fun i=>by
    rw[hsp,Nat.add_assoc];exact add_plain _ _ _
   have e0:=e 0;rw[Nat.add_zero,Nat.add_zero] at e0;exact⟨u0,u1,u2,by rw[<-e0];exact g0,by rw[<-e 1];exact g1,by rw[<-e 2];exact g2,j0,j1,j2⟩
end
end Go.Proofs.YtcnedkkcgdkioaaGreat
namespace Go.Proofs.YtcnedkkcgdkioaaGreat
open Go.RowKit Go.ChangeShapes Go.WideShapes Go.ChangeAt Go.Deep Go.WideElems
section
variable {H:Type} {enc:TypeId × Value->H} {w:World} {base:Nat} {spare:Nat->Bool} {held:Bool}
theorem adv_of_cells28 {v0 v1:Value}{d:DataW H}{p:List MemPlace}{fuel:Nat}(h:DataW.trod enc Tryz.prog w 0 (fun _=>true) true fuel 27 [v0,v1]=some (d,p)) (hw:∀n∈d.weights Tryz.prog 27,n<=reachBytes) :
  ∃(n:Int) (ss:Jc),v0 = .int .i64 n/\AdvV w (.agg #[v0,v1]) n ss:=by
 have k82 : Tryz.prog.cellsOf 180=1:=by kernel_rfl
 have b82 : Tryz.prog.bytesOf 180=24:=by kernel_rfl
 have k3 : Tryz.prog.cellsOf 3=1:=by kernel_rfl
 have k22 : Tryz.prog.cellsOf 25=1:=by kernel_rfl
 obtain⟨y0,y1,n,hx,_,h0,h1⟩:=trod_struct2 Tryz.underlying27 h;simp only[k3,k22,List.drop_zero,List.take_succ_cons,List.take_zero,List.drop_succ_cons] at h0 h1;simp only[Prod.mk.injEq] at hx;obtain⟨rfl,rfl⟩:=hx;obtain⟨i0,e0,_⟩:=DataW.trod_int Tryz.underlying3 h0;obtain rfl:v0 = .int .i64 i0:=by simpa using e0
 refine⟨i0,?_⟩
 have hw1:∀n∈y1.1.weights Tryz.prog 25,n<=reachBytes:=fun n hn=>hw n (by
  simp only[DataW.weights,Tryz.underlying27,DataW.weightsEach,List.map_cons,List.map_nil,List.mem_append];exact .inr (.inl hn))
 obtain⟨d1,p1⟩:=y1;rcases open_slice1 Tryz.underlying25 k82 h1 with⟨h2,_⟩|⟨a,len,cap,m,n,V,D,Pl,h2,_,hl,hm,hmm,h3,hx⟩
 ·obtain rfl:v1 = .slice none 0 0:=by simpa using h2
  exact⟨[],rfl,_,rfl,none,0,0,0,rfl,by simp,by intro j hj;simp at hj,by simp⟩
 ·obtain rfl:v1 = .slice (some a) len cap:=by simpa using h2
  simp only[if_true] at hmm;subst hmm;obtain⟨rfl,_⟩:=Prod.mk.injEq ..▸h3;have hsz:=hw1 ((len+(m - len)) * 24) (by simp[DataW.weights,Tryz.underlying25,b82]);unfold reachBytes at hsz
  have hxs:∀i,i < len->∃xs,KSC 8 w (V i) xs:=fun i hi=>by
   obtain⟨g1,g2⟩:=hx i (by omega);refine ksc_of_trod g2 fun n hn=>hw1 n ?_;simp only[DataW.weights,Tryz.underlying25,List.mem_cons,List.mem_append];right;left
   exact weightsAll_mem (List.mem_map_of_mem (List.mem_range.2 hi)) n hn
  have hlen:len<=5864062014805:=by omega
  obtain⟨X,hX⟩:∃X:Nat->Jb,∀i,i < len->KSC 8 w (V i) (X i):=⟨fun i=>if h:i < len then (hxs i h).choose else [],fun i hi=>by simp only[hi,dif_pos];exact(hxs i hi).choose_spec⟩;refine⟨(List.range len).map X,rfl,_,rfl,some a,m,a.block,a.off,by simp,fun h0=>?_,fun j hj=>?_,by simpa using hlen⟩
  ·have hk:=(hx 0 (by have:0 < len:=(by simpa using h0);omega)).1;rw[show a.add 0=a by simp[Addr.add]] at hk;rw[<-addr_spot hk]
  ·have hj':j < len:=(by simpa using hj);have hk0:=(hx 0 (by omega)).1;rw[show a.add 0=a by simp[Addr.add]] at hk0
   have e1:a.add j=⟨a.block,a.off+j,none⟩:=by
    rw[addr_spot hk0];exact add_plain _ _ _
   refine⟨V j,by rw[<-e1];exact(hx j (by omega)).1,?_⟩;have:((List.range len).map X).getD j []=X j:=by simp[hj']
   rw[this];exact(hX j hj').ks
theorem prob_of_cells28 {c0 c1 c2 c3 c4 c5 c6:Value}{d:DataW H}{p:List MemPlace}{fuel:Nat}(hf:DataW.trod enc Tryz.prog w 0 (fun _=>true) true fuel 29 [c0,c1,c2,c3,c4,c5,c6]=some (d,p)) (hw:∀n∈d.weights Tryz.prog 29,n<=reachBytes) :
  ∃(n i o an r:Int) (cs:List Cs) (ss:Jc) (a a':Option Addr) (c c':Nat),[c0,c1,c2,c3,c4,c5,c6] = [.int .i64 n,.int .i64 i,.int .i64 o,.slice a cs.length c,.int .i64 an,.slice a' ss.length c',.int .i64 r]/\PrV w (.agg #[.int .i64 n,.int .i64 i,.int .i64 o,.slice a cs.length c,.int .i64 an,.slice a' ss.length c',.int .i64 r]) n i o cs an ss r:=by
 have k64 : Tryz.prog.cellsOf 24=4:=by kernel_rfl
 have k24 : Tryz.prog.cellsOf 27=2:=by kernel_rfl
 have k3 : Tryz.prog.cellsOf 3=1:=by kernel_rfl
 have k62 : Tryz.prog.cellsOf 22=1:=by kernel_rfl
 obtain⟨y0,y1,y2,n,hx,_,h0,h1,h2⟩:=trod_struct3 Tryz.underlying29 hf;simp only[k64,k24,k3,List.drop_zero,List.take_succ_cons,List.take_zero,List.drop_succ_cons] at h0 h1 h2;simp only[Prod.mk.injEq] at hx;obtain⟨rfl,rfl⟩:=hx
 have hwx:∀n,(n∈y0.1.weights Tryz.prog 24\/n∈y1.1.weights Tryz.prog 27)->n<=reachBytes:=fun n hn=>hw n (by
  simp only[DataW.weights,Tryz.underlying29,DataW.weightsEach,List.map_cons,List.map_nil,List.mem_append];rcases hn with hn|hn
  ·exact .inl hn
  ·exact .inr (.inl hn))
 obtain⟨i6,e6,_⟩:=DataW.trod_int Tryz.underlying3 h2;obtain rfl:c6 = .int .i64 i6:=by simpa using e6
 obtain⟨dA,pA⟩:=y1;obtain⟨i4,ss,rfl,hA⟩:=adv_of_cells28 h1 (fun n hn=>hwx n (.inr hn));obtain⟨z0,z1,z2,z3,n2,hz,_,g0,g1,g2,g3⟩:=Go.Joins.trod_struct4 Tryz.underlying24 h0;simp only[k62,k3,List.drop_zero,List.take_succ_cons,List.take_zero,List.drop_succ_cons] at g0 g1 g2 g3;obtain⟨i0,e0,_⟩:=DataW.trod_int Tryz.underlying3 g0;obtain⟨i1,e1,_⟩:=DataW.trod_int Tryz.underlying3 g1;obtain⟨i2,e2,_⟩:=DataW.trod_int Tryz.underlying3 g2;obtain rfl:c0 = .int .i64 i0:=by simpa using e0
 obtain rfl:c1 = .int .i64 i1:=by simpa using e1
 obtain rfl:c2 = .int .i64 i2:=by simpa using e2
 subst hz;obtain⟨d3,p3⟩:=z3
 obtain⟨cl,sa,sc,rfl,hC,_,_⟩:=cases_of_trod g3 (fun n hn=>hwx n (.inl (by
  simp only[DataW.weights,Tryz.underlying24,DataW.weightsEach,List.map_cons,List.map_nil,List.mem_append];exact .inr (.inr (.inr (.inl hn))))))
 obtain⟨aa,ac,he⟩:=advShape' hA;injection he with he;simp only[Array.mk.injEq,List.cons.injEq,and_true,true_and] at he;subst he;exact⟨i0,i1,i2,i4,i6,cl,ss,sa,aa,sc,ac,rfl,sa,sc,aa,ac,rfl,⟨_,rfl,hC⟩,hA⟩
end
end Go.Proofs.YtcnedkkcgdkioaaGreat
namespace Go.Proofs.YtcnedkkcgdkioaaGreat
open Go.RowKit Go.ChangeShapes Go.WideShapes Go.ChangeAt Go.Deep Go.WideElems
theorem u8_wf28 {n:Int}(h:(Lit.int .u8 n).wf=true):0<=n/\n<=255:=by
 simp[Lit.wf] at h
 have h1:IntKind.u8.min=0:=rfl;have h2:IntKind.u8.max=255:=rfl;omega
section
variable {H:Type} {enc:TypeId × Value->H} {w:World}
theorem prob_of_trod28 {r:Reach}{b0:Nat}{v:Value}{d:DataW H}{p:List MemPlace}(hv:Value.okWide Tryz.prog w r b0 29 v) (h:DataW.Trod enc Tryz.prog w 0 (fun _=>true) true 29 v d p) (hw:∀n∈d.weights Tryz.prog 29,n<=reachBytes) :
  ∃(n i o an r':Int) (cs:List Cs) (ss:Jc),PrV w v n i o cs an ss r':=by
 have k66 : Tryz.prog.cellsOf 29=7:=by kernel_rfl
 obtain⟨cs,rfl,hsz⟩:=okWide_struct Tryz.underlying29 hv;rw[k66] at hsz
 obtain⟨c0,c1,c2,c3,c4,c5,c6,rfl⟩:∃c0 c1 c2 c3 c4 c5 c6,cs = #[c0,c1,c2,c3,c4,c5,c6]:=by
  obtain⟨l⟩:=cs;match l,hsz with
  | [a,b,c,d,e,f,g],_=>exact⟨a,b,c,d,e,f,g,rfl⟩
 obtain⟨fuel,hf⟩:=h;obtain⟨n0,i0,o0,an0,r0,cs0,ss0,a0,a0',q0,q0',he,hP⟩:=prob_of_cells28 hf hw;simp only[List.cons.injEq,and_true] at he;obtain⟨rfl,rfl,rfl,rfl,rfl,rfl,rfl⟩:=he;exact⟨n0,i0,o0,an0,r0,cs0,ss0,hP⟩
theorem pair_of_trod28 {r:Reach}{b0:Nat}{v:Value}{d:DataW H}{p:List MemPlace}(hv:Value.okWide Tryz.prog w r b0 71 v) (h:DataW.Trod enc Tryz.prog w 0 (fun _=>true) true 71 v d p) :
  ∃a b:Nat,v = .agg #[.int .u8 (a:Int),.int .u8 (b:Int)]/\a < 256/\b < 256:=by
 have k71 : Tryz.prog.cellsOf 71=2:=by kernel_rfl
 have k5 : Tryz.prog.cellsOf 5=1:=by kernel_rfl
 simp only[Value.okWide,Tryz.underlying71] at hv;obtain⟨cs,rfl,hsz,-⟩:=hv;rw[k71] at hsz
 obtain⟨c0,c1,rfl⟩:∃c0 c1,cs = #[c0,c1]:=by
  obtain⟨l⟩:=cs;match l,hsz with
  | [a,b],_=>exact⟨a,b,rfl⟩
 obtain⟨fuel,hf⟩:=h;obtain⟨xs,m,_,_,_,hxl,hx⟩:=DataW.trod_array Tryz.underlying71 hf
 have hj:∀(i:Nat) (c:Value),i < 2->(([c0,c1]:List Value).drop i).take 1 = [c]->∃k:Nat,c = .int .u8 (k:Int)/\k < 256:=fun i c hi hc=>by
  have:=hx i hi
  simp only[Value.cells] at this;rw[k5,Nat.mul_one,hc,List.getElem?_eq_getElem (by omega)] at this;obtain⟨k,e,-,hk⟩:=DataW.trod_int Tryz.underlying5 this;have hb:=u8_wf28 hk;exact⟨k.toNat,by rw[show((k.toNat:Nat):Int)=k by omega];simpa using e,by omega⟩
 obtain⟨a,rfl,ha⟩:=hj 0 c0 (by omega) rfl;obtain⟨b,rfl,hb⟩:=hj 1 c1 (by omega) rfl;exact⟨a,b,rfl,ha,hb⟩
end
end Go.Proofs.YtcnedkkcgdkioaaGreat

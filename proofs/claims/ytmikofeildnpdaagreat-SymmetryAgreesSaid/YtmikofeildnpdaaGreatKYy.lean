/- Texts of this claim, put together: Y0 SJ. -/
import Derived.Test.YtmikofeildnpdaaGreatKYb
import Derived.Test.YtmikofeildnpdaaGreatKYu
import Derived.Lib.SmallJoins
import Derived.Test.YtmikofeildnpdaaGreatKYv
import Derived.Test.YtmikofeildnpdaaGreatKYq
import Derived.Test.YtmikofeildnpdaaGreatKYj
import Derived.Test.YtmikofeildnpdaaGreatKYi
import Derived.Test.YtmikofeildnpdaaGreatKYh
import Derived.Test.YtmikofeildnpdaaGreatKYr
import Derived.Test.YtmikofeildnpdaaGreatKYo
import Derived.Deep.OwnRows
import Derived.Test.YtmikofeildnpdaaGreatKYd
import Derived.Deep.LoopGhost

set_option maxRecDepth 100000
set_option maxHeartbeats 12800000
/- Readers of arguments: adversaries as plain data. -/
namespace Go.Proofs.YtmikofeildnpdaaGreat
open Go.RowKit Go.ChangeShapes Go.WideShapes Go.ChangeAt Go.Deep Go.WideElems
section
variable {H:Type} {enc:TypeId × Value→H} {w:World} {base:Nat} {spare:Nat→Bool} {held:Bool}
theorem eightL {cs:List Value} (h:cs.length=8):∃ a b c d e f g i,cs = [a,b,c,d,e,f,g,i]:=by
 match cs,h with
 | [a,b,c,d,e,f,g,i],_=>exact ⟨a,b,c,d,e,f,g,i,rfl⟩
theorem moveInts {fuel:Nat} {cs:List Value} {x:DataW H × List MemPlace} (h:DataW.trod enc Tryz.prog w base spare held fuel 100 cs=some x):∃ xs:List Int,xs.length=8∧cs=xs.map (Value.int .i64):=by
 have k84 : Tryz.prog.cellsOf 100=8:=by kernel_rfl
 have k79 : Tryz.prog.cellsOf 87=7:=by kernel_rfl
 have k77 : Tryz.prog.cellsOf 85=6:=by kernel_rfl
 have k75 : Tryz.prog.cellsOf 83=5:=by kernel_rfl
 have k3 : Tryz.prog.cellsOf 3=1:=by kernel_rfl
 obtain ⟨y0,y1,n,_,hl,h0,h1⟩:=trod_struct2 Tryz.underlying100 h
 rw [k84] at hl
 obtain ⟨c0,c1,c2,c3,c4,c5,c6,c7,rfl⟩:=eightL hl
 simp only [k79,k3,List.drop_zero,List.take_succ_cons,List.take_zero,List.drop_succ_cons] at h0 h1
 obtain ⟨i7,e7,_⟩:=DataW.trod_int Tryz.underlying3 h1
 obtain ⟨z0,z1,n2,_,_,g0,g1⟩:=trod_struct2 Tryz.underlying87 h0
 simp only [k77,k3,List.drop_zero,List.take_succ_cons,List.take_zero,List.drop_succ_cons] at g0 g1
 obtain ⟨i6,e6,_⟩:=DataW.trod_int Tryz.underlying3 g1
 obtain ⟨q0,q1,n3,_,_,f0,f1⟩:=trod_struct2 Tryz.underlying85 g0
 simp only [k75,k3,List.drop_zero,List.take_succ_cons,List.take_zero,List.drop_succ_cons] at f0 f1
 obtain ⟨i0,e0,_⟩:=DataW.trod_int Tryz.underlying3 f0
 obtain ⟨xs,m,_,_,_,hxl,hx⟩:=DataW.trod_array Tryz.underlying83 f1
 have hj:∀ (i:Nat) (c:Value),i < 5→(([c1,c2,c3,c4,c5]:List Value).drop i).take 1 = [c]→∃ k,c = .int .i64 k:=fun i c hi hc=>by
  have:=hx i hi
  rw [k3,Nat.mul_one,hc,List.getElem?_eq_getElem (by omega)] at this
  obtain ⟨k,e,_⟩:=DataW.trod_int Tryz.underlying3 this
  exact ⟨k,by simpa using e⟩
 obtain ⟨i1,rfl⟩:=hj 0 c1 (by omega) rfl
 obtain ⟨i2,rfl⟩:=hj 1 c2 (by omega) rfl
 obtain ⟨i3,rfl⟩:=hj 2 c3 (by omega) rfl
 obtain ⟨i4,rfl⟩:=hj 3 c4 (by omega) rfl
 obtain ⟨i5,rfl⟩:=hj 4 c5 (by omega) rfl
 obtain rfl:c0 = .int .i64 i0:=by simpa using e0
 obtain rfl:c6 = .int .i64 i6:=by simpa using e6
 obtain rfl:c7 = .int .i64 i7:=by simpa using e7
 exact ⟨[i0,i1,i2,i3,i4,i5,i6,i7],rfl,rfl⟩
theorem ksc_of_trod {v:Value} {d:DataW H} {ps:List MemPlace} {fuel:Nat} (h:DataW.trod enc Tryz.prog w 0 (fun _=>true) true fuel 98 [v]=some (d,ps)) (hw:∀ n∈d.weights Tryz.prog 98,n≤reachBytes):∃ xs,KSC 8 w v xs:=by
 have k84 : Tryz.prog.cellsOf 100=8:=by kernel_rfl
 have b84 : Tryz.prog.bytesOf 100=64:=by kernel_rfl
 rcases open_slice Tryz.underlying98 h with ⟨h1,_⟩ | ⟨a,len,cap,m,n,D,Pl,h1,_,hl,hm,hmm,h2,hx⟩
 ·obtain rfl:v = .slice none 0 0:=by simpa using h1
  exact ⟨[],none,0,0,0,rfl,by simp,by intro j hj; simp at hj,by simp,by simp⟩
 ·obtain rfl:v = .slice (some a) len cap:=by simpa using h1
  simp only [if_true] at hmm
  subst hmm
  obtain ⟨rfl,_⟩:=Prod.mk.injEq .. ▸ h2
  have hsz:=hw ((len+(m - len)) * 64) (by simp [DataW.weights,Tryz.underlying98,b84])
  unfold reachBytes at hsz
  rw [k84] at hx
  obtain ⟨X,hX⟩:=choose_lt (α:=List Int) (n:=len) (p:=fun i xs=>xs.length=8∧∀ j,j < 8→w.cell? (a.add (i * 8+j))=some (.int .i64 (xs.getD j 0))) (fun i hi=>by
   obtain ⟨cs',g1,g2⟩:=hx i (by omega)
   obtain ⟨xs,hx8,rfl⟩:=moveInts g2
   obtain ⟨_,_,hcell⟩:=World.cells?_some g1
   refine ⟨xs,hx8,fun j hj=>?_⟩
   have:=hcell j (by omega)
   rw [add_add] at this
   rw [this,List.getElem?_map,List.getElem?_eq_getElem (by omega),getD_eq (by omega)]; rfl)
  have hlen:len≤2199023255552:=by omega
  have hall:∀ j,j < len→((List.range len).map X).getD j []=X j:=fun j hj=>by simp [hj]
  refine ⟨(List.range len).map X,some a,m,a.block,a.off,by simp,fun h0=>?_,fun j hj=>?_,by simpa using hlen,by simpa using hl⟩
  ·have hk:=(hX 0 (by simpa using h0)).2 0 (by omega)
   rw [show a.add (0 * 8+0)=a by simp [Addr.add]] at hk
   rw [← addr_spot hk]
  ·have hj':j < len:=by simpa using hj
   rw [hall j hj']
   have hk0:=(hX 0 (by omega)).2 0 (by omega)
   rw [show a.add (0 * 8+0)=a by simp [Addr.add]] at hk0
   refine ⟨(hX j hj').1,fun i hi=>?_⟩
   have h3:=(hX j hj').2 i (by have:=(hX j hj').1; omega)
   have e:a.add (j * 8+i)=⟨a.block,a.off+j * 8+i,none⟩:=by
    have:=addr_spot hk0
    rw [this,Nat.add_assoc]
    exact add_plain _ _ _
   rw [← e]; exact h3
theorem weightsAll_mem {e:TypeId}:∀ {l:List (DataW H)} {x:DataW H},x∈l→∀ n∈x.weights Tryz.prog e,n∈DataW.weightsAll Tryz.prog e l:=by
 intro l
 induction l with
 | nil=>intro x hx; cases hx
 | cons y r ih=>
  intro x hx n hn
  simp only [DataW.weightsAll,List.mem_append]
  rcases List.mem_cons.1 hx with rfl | hx
  ·exact .inl hn
  ·exact .inr (ih hx n hn)
theorem advC_of_trod {r:Reach} {b0:Nat} {v:Value} {d:DataW H} {p:List MemPlace} (hv:Value.okWide Tryz.prog w r b0 24 v) (h:DataW.Trod enc Tryz.prog w 0 (fun _=>true) true 24 v d p) (hw:∀ n∈d.weights Tryz.prog 24,n≤reachBytes):∃ n ss,AdvC w v n ss:=by
 have k82 : Tryz.prog.cellsOf 98=1:=by kernel_rfl
 have b82 : Tryz.prog.bytesOf 98=24:=by kernel_rfl
 obtain ⟨v0,v1,y0,y1,n,rfl,rfl,rfl,h0,h1⟩:=Go.Joins.open_agg2 Tryz.underlying24 (by kernel_rfl) (by kernel_rfl) hv h
 obtain ⟨i0,e0,_⟩:=DataW.trod_int Tryz.underlying3 h0
 obtain rfl:v0 = .int .i64 i0:=by simpa using e0
 have hw1:∀ n∈y1.1.weights Tryz.prog 22,n≤reachBytes:=fun n hn=>hw n (by
  simp only [DataW.weights,Tryz.underlying24,DataW.weightsEach,List.map_cons,List.map_nil,List.mem_append]
  exact .inr (.inl hn))
 obtain ⟨d1,p1⟩:=y1
 rcases open_slice1 Tryz.underlying22 k82 h1 with ⟨h2,_⟩ | ⟨a,len,cap,m,n,V,D,Pl,h2,_,hl,hm,hmm,h3,hx⟩
 ·obtain rfl:v1 = .slice none 0 0:=by simpa using h2
  exact ⟨i0,[],none,0,0,0,rfl,by simp,by intro j hj; simp at hj,by simp⟩
 ·obtain rfl:v1 = .slice (some a) len cap:=by simpa using h2
  simp only [if_true] at hmm
  subst hmm
  obtain ⟨rfl,_⟩:=Prod.mk.injEq .. ▸ h3
  have hsz:=hw1 ((len+(m - len)) * 24) (by simp [DataW.weights,Tryz.underlying22,b82])
  unfold reachBytes at hsz
  have hxs:∀ i,i < len→∃ xs,KSC 8 w (V i) xs:=fun i hi=>by
   obtain ⟨g1,g2⟩:=hx i (by omega)
   refine ksc_of_trod g2 fun n hn=>hw1 n ?_
   simp only [DataW.weights,Tryz.underlying22,List.mem_cons,List.mem_append]
   right; left
   exact weightsAll_mem (List.mem_map_of_mem (List.mem_range.2 hi)) n hn
  have hlen:len≤5864062014805:=by omega
  obtain ⟨X,hX⟩:∃ X:Nat→List (List Int),∀ i,i < len→KSC 8 w (V i) (X i):=⟨fun i=>if h:i < len then (hxs i h).choose else [],fun i hi=>by simp only [hi,dif_pos]; exact (hxs i hi).choose_spec⟩
  refine ⟨i0,(List.range len).map X,some a,m,a.block,a.off,by simp,fun h0=>?_,fun j hj=>?_,by simpa using hlen⟩
  ·have hk:=(hx 0 (by have:0 < len:=(by simpa using h0); omega)).1
   rw [show a.add 0=a by simp [Addr.add]] at hk
   rw [← addr_spot hk]
  ·have hj':j < len:=by simpa using hj
   have hk0:=(hx 0 (by omega)).1
   rw [show a.add 0=a by simp [Addr.add]] at hk0
   have e1:a.add j=⟨a.block,a.off+j,none⟩:=by
    rw [addr_spot hk0]
    exact add_plain _ _ _
   refine ⟨V j,by rw [← e1]; exact (hx j (by omega)).1,?_⟩
   have:((List.range len).map X).getD j []=X j:=by simp [hj']
   rw [this]
   exact hX j hj'
end
end Go.Proofs.YtmikofeildnpdaaGreat

/- slices.Reverse at rounds; inclusion.word, both. -/
namespace Go.Proofs.YtmikofeildnpdaaGreat
open Go.RowKit
def oRev3_0:Oper:=⟨some 14,Op.move (Operand.tmp 0),78,"slices.go:485",#[],none⟩
def oRev3_1:Oper:=⟨some 15,Op.move (Operand.tmp 2),3,"slices.go:485",#[],none⟩
def oRev3_2:Oper:=⟨some 16,Op.move (Operand.tmp 0),78,"slices.go:485",#[{ on:=13,ground:=Ground.gcOnly Departure.lateStores }],none⟩
def oRev3_3:Oper:=⟨some 17,Op.move (Operand.tmp 3),3,"slices.go:485",#[{ on:=13,ground:=Ground.gcOnly Departure.lateStores }],none⟩
def oRev3_4:Oper:=⟨some 18,Op.move (Operand.tmp 0),78,"slices.go:485",#[],none⟩
def oRev3_5:Oper:=⟨some 19,Op.move (Operand.tmp 3),3,"slices.go:485",#[],none⟩
def oRev3_6:Oper:=⟨some 20,Op.indexAddr 78 (Operand.tmp 18) (Operand.tmp 19),0,"slices.go:485",#[⟨4,.data⟩,⟨5,.data⟩],none⟩
def oRev3_7:Oper:=⟨some 21,Op.load 87 (Operand.tmp 20),87,"slices.go:485",#[⟨6,.data⟩],none⟩
def oRev3_8:Oper:=⟨some 22,Op.move (Operand.tmp 0),78,"slices.go:485",#[],none⟩
def oRev3_9:Oper:=⟨some 23,Op.move (Operand.tmp 2),3,"slices.go:485",#[],none⟩
def oRev3_10:Oper:=⟨some 24,Op.indexAddr 78 (Operand.tmp 22) (Operand.tmp 23),0,"slices.go:485",#[⟨8,.data⟩,⟨9,.data⟩],none⟩
def oRev3_11:Oper:=⟨some 25,Op.load 87 (Operand.tmp 24),87,"slices.go:485",#[⟨10,.data⟩],none⟩
def oRev3_12:Oper:=⟨some 26,Op.indexAddr 78 (Operand.tmp 14) (Operand.tmp 15),0,"slices.go:485",#[⟨0,.data⟩,⟨1,.data⟩,⟨0,.phase⟩,⟨1,.phase⟩,{ on:=2,ground:=Ground.textOnly Departure.lateStores },{ on:=3,ground:=Ground.textOnly Departure.lateStores },⟨4,.phase⟩,⟨5,.phase⟩,⟨6,.phase⟩,⟨7,.phase⟩,{ on:=8,ground:=Ground.textOnly Departure.lateStores },{ on:=9,ground:=Ground.textOnly Departure.lateStores },{ on:=10,ground:=Ground.textOnly Departure.lateStoresUnsure },⟨11,.phase⟩],none⟩
def oRev3_13:Oper:=⟨none,Op.store 87 (Operand.tmp 26) (Operand.tmp 21),0,"slices.go:485",#[⟨12,.data⟩,⟨7,.data⟩,⟨0,.phase⟩,⟨1,.phase⟩,{ on:=2,ground:=Ground.textOnly Departure.lateStores },{ on:=3,ground:=Ground.textOnly Departure.lateStores },⟨4,.phase⟩,⟨5,.phase⟩,⟨6,.phase⟩,⟨7,.phase⟩,{ on:=8,ground:=Ground.textOnly Departure.lateStores },{ on:=9,ground:=Ground.textOnly Departure.lateStores },{ on:=10,ground:=Ground.textOnly Departure.lateStoresUnsure },⟨11,.phase⟩],none⟩
def oRev3_14:Oper:=⟨some 27,Op.indexAddr 78 (Operand.tmp 16) (Operand.tmp 17),0,"slices.go:485",#[⟨2,.data⟩,⟨3,.data⟩,⟨0,.phase⟩,⟨1,.phase⟩,⟨2,.phase⟩,⟨3,.phase⟩,⟨4,.phase⟩,⟨5,.phase⟩,⟨6,.phase⟩,⟨7,.phase⟩,⟨8,.phase⟩,⟨9,.phase⟩,⟨10,.phase⟩,⟨11,.phase⟩,⟨12,.phase⟩,⟨13,.phase⟩],none⟩
def oRev3_15:Oper:=⟨none,Op.store 87 (Operand.tmp 27) (Operand.tmp 25),0,"slices.go:485",#[⟨14,.data⟩,⟨11,.data⟩,⟨13,.chain⟩,⟨0,.phase⟩,⟨1,.phase⟩,⟨2,.phase⟩,⟨3,.phase⟩,⟨4,.phase⟩,⟨5,.phase⟩,⟨6,.phase⟩,⟨7,.phase⟩,⟨8,.phase⟩,⟨9,.phase⟩,⟨10,.phase⟩,⟨11,.phase⟩,⟨12,.phase⟩,⟨13,.phase⟩],none⟩
def opsRev3:List Oper:=[oRev3_0,oRev3_1,oRev3_2,oRev3_3,oRev3_4,oRev3_5,oRev3_6,oRev3_7,oRev3_8,oRev3_9,oRev3_10,oRev3_11,oRev3_12,oRev3_13,oRev3_14,oRev3_15]
theorem regRev3 {w:World} {x1 x4 x5 x6 x7 x8 x9 x10 x11 x12 x13 x14 x15 x16 x17 x18 x19 x20 x21 x22 x23 x24 x25 x26 x27:Value} {Q:Exit→Act→World→Prop} {g n cap B i j:Nat} {xs:List (List Int)}
  (h:OwX 87 7 EI w B (.slice (some ⟨g,0,none⟩) n cap) n xs) (hi:i < n) (hj:j < n) (hB:B≤g)
  (hfin:∀ (y7 y11 _y13 _y15:Value) (W:World),(∃ zs:List (List Int),OwX 87 7 EI W B (.slice (some ⟨g,0,none⟩) n cap) n zs∧Below B w W)→(∃ a0 a1 a2 a3 a4 a5 a6:Int,y7 = .agg #[.int .i64 a0,.int .i64 a1,.int .i64 a2,.int .i64 a3,.int .i64 a4,.int .i64 a5,.int .i64 a6])→(∃ a0 a1 a2 a3 a4 a5 a6:Int,y11 = .agg #[.int .i64 a0,.int .i64 a1,.int .i64 a2,.int .i64 a3,.int .i64 a4,.int .i64 a5,.int .i64 a6])→(True)→(True)→Q .normal ⟨#[.slice (some ⟨g,0,none⟩) n cap,x1,.int .i64 (i:Int),.int .i64 (j:Int),x4,x5,x6,x7,x8,x9,x10,x11,x12,x13,.slice (some ⟨g,0,none⟩) n cap,.int .i64 (i:Int),.slice (some ⟨g,0,none⟩) n cap,.int .i64 (j:Int),.slice (some ⟨g,0,none⟩) n cap,.int .i64 (j:Int),.pointer (some ⟨g,j * 7,none⟩),y7,.slice (some ⟨g,0,none⟩) n cap,.int .i64 (i:Int),.pointer (some ⟨g,i * 7,none⟩),y11,.pointer (some ⟨g,i * 7,none⟩),.pointer (some ⟨g,j * 7,none⟩)],[]⟩ W) :
  (Code.region 3 opsRev3.toArray true).wp Tryz.prog Q ⟨#[.slice (some ⟨g,0,none⟩) n cap,x1,.int .i64 (i:Int),.int .i64 (j:Int),x4,x5,x6,x7,x8,x9,x10,x11,x12,x13,x14,x15,x16,x17,x18,x19,x20,x21,x22,x23,x24,x25,x26,x27],[]⟩ w:=by
 have hii:(i:Int) < (n:Int):=by omega
 have hji:(j:Int) < (n:Int):=by omega
 obtain ⟨fr,hfr⟩:∃ fr:Value→Value→Value→Value→Value→Value→Value→Value→Value→Value→Value→Value→Value→Value→Act,fr=fun y0 y1 y2 y3 y4 y5 y6 y7 y8 y9 y10 y11 y12 y14=>⟨#[.slice (some ⟨g,0,none⟩) n cap,x1,.int .i64 (i:Int),.int .i64 (j:Int),x4,x5,x6,x7,x8,x9,x10,x11,x12,x13,y0,y1,y2,y3,y4,y5,y6,y7,y8,y9,y10,y11,y12,y14],[]⟩:=⟨_,rfl⟩
 obtain ⟨GG,hGG⟩:∃ GG:(Nat→Bool)→World→Prop,GG=fun D W=>∃ zs:List (List Int),OwX 87 7 EI W B (.slice (some ⟨g,0,none⟩) n cap) n zs∧Below B w W:=⟨_,rfl⟩
 have st0 {D:Nat→Bool} {y0 y1 y2 y3 y4 y5 y6 y7 y8 y9 y10 y11 y12 y14:Value} {W:World} {K:Act→World→Prop} (hD:D 0=false) (hcl:ClG opsRev3.toArray D) (hd:True) (hG:GG D W) (hK:∀ (v:Value) (W':World),(True)→GG (addG D 0) W'→(v = .slice (some ⟨g,0,none⟩) n cap)→K (fr v y1 y2 y3 y4 y5 y6 y7 y8 y9 y10 y11 y12 y14) W'):Oper.wp Tryz.prog oRev3_0 (fr y0 y1 y2 y3 y4 y5 y6 y7 y8 y9 y10 y11 y12 y14) W K Q:=by
  subst hfr hGG
  unfold oRev3_0
  go_simp
  exact hK _ _ trivial hG rfl
 have st1 {D:Nat→Bool} {y0 y1 y2 y3 y4 y5 y6 y7 y8 y9 y10 y11 y12 y14:Value} {W:World} {K:Act→World→Prop} (hD:D 1=false) (hcl:ClG opsRev3.toArray D) (hd:True) (hG:GG D W) (hK:∀ (v:Value) (W':World),(True)→GG (addG D 1) W'→(v = .int .i64 (i:Int))→K (fr y0 v y2 y3 y4 y5 y6 y7 y8 y9 y10 y11 y12 y14) W'):Oper.wp Tryz.prog oRev3_1 (fr y0 y1 y2 y3 y4 y5 y6 y7 y8 y9 y10 y11 y12 y14) W K Q:=by
  subst hfr hGG
  unfold oRev3_1
  go_simp
  exact hK _ _ trivial hG rfl
 have st2 {D:Nat→Bool} {y0 y1 y2 y3 y4 y5 y6 y7 y8 y9 y10 y11 y12 y14:Value} {W:World} {K:Act→World→Prop} (hD:D 2=false) (hcl:ClG opsRev3.toArray D) (hd:True) (hG:GG D W) (hK:∀ (v:Value) (W':World),(True)→GG (addG D 2) W'→(v = .slice (some ⟨g,0,none⟩) n cap)→K (fr y0 y1 v y3 y4 y5 y6 y7 y8 y9 y10 y11 y12 y14) W'):Oper.wp Tryz.prog oRev3_2 (fr y0 y1 y2 y3 y4 y5 y6 y7 y8 y9 y10 y11 y12 y14) W K Q:=by
  subst hfr hGG
  unfold oRev3_2
  go_simp
  exact hK _ _ trivial hG rfl
 have st3 {D:Nat→Bool} {y0 y1 y2 y3 y4 y5 y6 y7 y8 y9 y10 y11 y12 y14:Value} {W:World} {K:Act→World→Prop} (hD:D 3=false) (hcl:ClG opsRev3.toArray D) (hd:True) (hG:GG D W) (hK:∀ (v:Value) (W':World),(True)→GG (addG D 3) W'→(v = .int .i64 (j:Int))→K (fr y0 y1 y2 v y4 y5 y6 y7 y8 y9 y10 y11 y12 y14) W'):Oper.wp Tryz.prog oRev3_3 (fr y0 y1 y2 y3 y4 y5 y6 y7 y8 y9 y10 y11 y12 y14) W K Q:=by
  subst hfr hGG
  unfold oRev3_3
  go_simp
  exact hK _ _ trivial hG rfl
 have st4 {D:Nat→Bool} {y0 y1 y2 y3 y4 y5 y6 y7 y8 y9 y10 y11 y12 y14:Value} {W:World} {K:Act→World→Prop} (hD:D 4=false) (hcl:ClG opsRev3.toArray D) (hd:True) (hG:GG D W) (hK:∀ (v:Value) (W':World),(True)→GG (addG D 4) W'→(v = .slice (some ⟨g,0,none⟩) n cap)→K (fr y0 y1 y2 y3 v y5 y6 y7 y8 y9 y10 y11 y12 y14) W'):Oper.wp Tryz.prog oRev3_4 (fr y0 y1 y2 y3 y4 y5 y6 y7 y8 y9 y10 y11 y12 y14) W K Q:=by
  subst hfr hGG
  unfold oRev3_4
  go_simp
  exact hK _ _ trivial hG rfl
 have st5 {D:Nat→Bool} {y0 y1 y2 y3 y4 y5 y6 y7 y8 y9 y10 y11 y12 y14:Value} {W:World} {K:Act→World→Prop} (hD:D 5=false) (hcl:ClG opsRev3.toArray D) (hd:True) (hG:GG D W) (hK:∀ (v:Value) (W':World),(True)→GG (addG D 5) W'→(v = .int .i64 (j:Int))→K (fr y0 y1 y2 y3 y4 v y6 y7 y8 y9 y10 y11 y12 y14) W'):Oper.wp Tryz.prog oRev3_5 (fr y0 y1 y2 y3 y4 y5 y6 y7 y8 y9 y10 y11 y12 y14) W K Q:=by
  subst hfr hGG
  unfold oRev3_5
  go_simp
  exact hK _ _ trivial hG rfl
 have st6 {D:Nat→Bool} {y0 y1 y2 y3 y4 y5 y6 y7 y8 y9 y10 y11 y12 y14:Value} {W:World} {K:Act→World→Prop} (hD:D 6=false) (hcl:ClG opsRev3.toArray D) (hd:(D 4=true∧y4 = .slice (some ⟨g,0,none⟩) n cap)∧(D 5=true∧y5 = .int .i64 (j:Int))∧True) (hG:GG D W) (hK:∀ (v:Value) (W':World),(True)→GG (addG D 6) W'→(v = .pointer (some ⟨g,j * 7,none⟩))→K (fr y0 y1 y2 y3 y4 y5 v y7 y8 y9 y10 y11 y12 y14) W'):Oper.wp Tryz.prog oRev3_6 (fr y0 y1 y2 y3 y4 y5 y6 y7 y8 y9 y10 y11 y12 y14) W K Q:=by
  subst hfr hGG
  unfold oRev3_6
  obtain ⟨⟨_,rfl⟩,⟨_,rfl⟩,-⟩:=hd
  go_simp
  exact hK _ _ trivial hG rfl
 have st7 {D:Nat→Bool} {y0 y1 y2 y3 y4 y5 y6 y7 y8 y9 y10 y11 y12 y14:Value} {W:World} {K:Act→World→Prop} (hD:D 7=false) (hcl:ClG opsRev3.toArray D) (hd:(D 6=true∧y6 = .pointer (some ⟨g,j * 7,none⟩))∧True) (hG:GG D W) (hK:∀ (v:Value) (W':World),(True)→GG (addG D 7) W'→(∃ a0 a1 a2 a3 a4 a5 a6:Int,v = .agg #[.int .i64 a0,.int .i64 a1,.int .i64 a2,.int .i64 a3,.int .i64 a4,.int .i64 a5,.int .i64 a6])→K (fr y0 y1 y2 y3 y4 y5 y6 v y8 y9 y10 y11 y12 y14) W'):Oper.wp Tryz.prog oRev3_7 (fr y0 y1 y2 y3 y4 y5 y6 y7 y8 y9 y10 y11 y12 y14) W K Q:=by
  subst hfr hGG
  unfold oRev3_7
  obtain ⟨⟨_,rfl⟩,-⟩:=hd
  obtain ⟨zs,hO,hb⟩:=hG
  obtain ⟨h7,hI⟩:=hO.intCells hj
  obtain ⟨a0,a1,a2,a3,a4,a5,a6,ha⟩:=seven h7
  rw [ha] at hI
  obtain ⟨c0,c1,c2,c3,c4,c5,c6⟩:=hI.all7
  go_simp
  exact hK _ _ trivial ⟨zs,hO,hb⟩ ⟨a0,a1,a2,a3,a4,a5,a6,rfl⟩
 have st8 {D:Nat→Bool} {y0 y1 y2 y3 y4 y5 y6 y7 y8 y9 y10 y11 y12 y14:Value} {W:World} {K:Act→World→Prop} (hD:D 8=false) (hcl:ClG opsRev3.toArray D) (hd:True) (hG:GG D W) (hK:∀ (v:Value) (W':World),(True)→GG (addG D 8) W'→(v = .slice (some ⟨g,0,none⟩) n cap)→K (fr y0 y1 y2 y3 y4 y5 y6 y7 v y9 y10 y11 y12 y14) W'):Oper.wp Tryz.prog oRev3_8 (fr y0 y1 y2 y3 y4 y5 y6 y7 y8 y9 y10 y11 y12 y14) W K Q:=by
  subst hfr hGG
  unfold oRev3_8
  go_simp
  exact hK _ _ trivial hG rfl
 have st9 {D:Nat→Bool} {y0 y1 y2 y3 y4 y5 y6 y7 y8 y9 y10 y11 y12 y14:Value} {W:World} {K:Act→World→Prop} (hD:D 9=false) (hcl:ClG opsRev3.toArray D) (hd:True) (hG:GG D W) (hK:∀ (v:Value) (W':World),(True)→GG (addG D 9) W'→(v = .int .i64 (i:Int))→K (fr y0 y1 y2 y3 y4 y5 y6 y7 y8 v y10 y11 y12 y14) W'):Oper.wp Tryz.prog oRev3_9 (fr y0 y1 y2 y3 y4 y5 y6 y7 y8 y9 y10 y11 y12 y14) W K Q:=by
  subst hfr hGG
  unfold oRev3_9
  go_simp
  exact hK _ _ trivial hG rfl
 have st10 {D:Nat→Bool} {y0 y1 y2 y3 y4 y5 y6 y7 y8 y9 y10 y11 y12 y14:Value} {W:World} {K:Act→World→Prop} (hD:D 10=false) (hcl:ClG opsRev3.toArray D) (hd:(D 8=true∧y8 = .slice (some ⟨g,0,none⟩) n cap)∧(D 9=true∧y9 = .int .i64 (i:Int))∧True) (hG:GG D W) (hK:∀ (v:Value) (W':World),(True)→GG (addG D 10) W'→(v = .pointer (some ⟨g,i * 7,none⟩))→K (fr y0 y1 y2 y3 y4 y5 y6 y7 y8 y9 v y11 y12 y14) W'):Oper.wp Tryz.prog oRev3_10 (fr y0 y1 y2 y3 y4 y5 y6 y7 y8 y9 y10 y11 y12 y14) W K Q:=by
  subst hfr hGG
  unfold oRev3_10
  obtain ⟨⟨_,rfl⟩,⟨_,rfl⟩,-⟩:=hd
  go_simp
  exact hK _ _ trivial hG rfl
 have st11 {D:Nat→Bool} {y0 y1 y2 y3 y4 y5 y6 y7 y8 y9 y10 y11 y12 y14:Value} {W:World} {K:Act→World→Prop} (hD:D 11=false) (hcl:ClG opsRev3.toArray D) (hd:(D 10=true∧y10 = .pointer (some ⟨g,i * 7,none⟩))∧True) (hG:GG D W) (hK:∀ (v:Value) (W':World),(True)→GG (addG D 11) W'→(∃ a0 a1 a2 a3 a4 a5 a6:Int,v = .agg #[.int .i64 a0,.int .i64 a1,.int .i64 a2,.int .i64 a3,.int .i64 a4,.int .i64 a5,.int .i64 a6])→K (fr y0 y1 y2 y3 y4 y5 y6 y7 y8 y9 y10 v y12 y14) W'):Oper.wp Tryz.prog oRev3_11 (fr y0 y1 y2 y3 y4 y5 y6 y7 y8 y9 y10 y11 y12 y14) W K Q:=by
  subst hfr hGG
  unfold oRev3_11
  obtain ⟨⟨_,rfl⟩,-⟩:=hd
  obtain ⟨zs,hO,hb⟩:=hG
  obtain ⟨h7,hI⟩:=hO.intCells hi
  obtain ⟨a0,a1,a2,a3,a4,a5,a6,ha⟩:=seven h7
  rw [ha] at hI
  obtain ⟨c0,c1,c2,c3,c4,c5,c6⟩:=hI.all7
  go_simp
  exact hK _ _ trivial ⟨zs,hO,hb⟩ ⟨a0,a1,a2,a3,a4,a5,a6,rfl⟩
 have st12 {D:Nat→Bool} {y0 y1 y2 y3 y4 y5 y6 y7 y8 y9 y10 y11 y12 y14:Value} {W:World} {K:Act→World→Prop} (hD:D 12=false) (hcl:ClG opsRev3.toArray D) (hd:(D 0=true∧y0 = .slice (some ⟨g,0,none⟩) n cap)∧(D 1=true∧y1 = .int .i64 (i:Int))∧True) (hG:GG D W) (hK:∀ (v:Value) (W':World),(True)→GG (addG D 12) W'→(v = .pointer (some ⟨g,i * 7,none⟩))→K (fr y0 y1 y2 y3 y4 y5 y6 y7 y8 y9 y10 y11 v y14) W'):Oper.wp Tryz.prog oRev3_12 (fr y0 y1 y2 y3 y4 y5 y6 y7 y8 y9 y10 y11 y12 y14) W K Q:=by
  subst hfr hGG
  unfold oRev3_12
  obtain ⟨⟨_,rfl⟩,⟨_,rfl⟩,-⟩:=hd
  go_simp
  exact hK _ _ trivial hG rfl
 have st13 {D:Nat→Bool} {y0 y1 y2 y3 y4 y5 y6 y7 y8 y9 y10 y11 y12 y14:Value} {W:World} {K:Act→World→Prop} (hD:D 13=false) (hcl:ClG opsRev3.toArray D) (hd:(D 12=true∧y12 = .pointer (some ⟨g,i * 7,none⟩))∧(D 7=true∧∃ a0 a1 a2 a3 a4 a5 a6:Int,y7 = .agg #[.int .i64 a0,.int .i64 a1,.int .i64 a2,.int .i64 a3,.int .i64 a4,.int .i64 a5,.int .i64 a6])∧True) (hG:GG D W) (hK:∀ (v:Value) (W':World),(True)→GG (addG D 13) W'→(True)→K (fr y0 y1 y2 y3 y4 y5 y6 y7 y8 y9 y10 y11 y12 y14) W'):Oper.wp Tryz.prog oRev3_13 (fr y0 y1 y2 y3 y4 y5 y6 y7 y8 y9 y10 y11 y12 y14) W K Q:=by
  subst hfr hGG
  unfold oRev3_13
  obtain ⟨⟨_,rfl⟩,⟨d7,e7⟩,-⟩:=hd
  obtain ⟨zs,hO,hb⟩:=hG
  obtain ⟨a0,a1,a2,a3,a4,a5,a6,rfl⟩:=e7
  obtain ⟨h7,hI⟩:=hO.intCells hi
  obtain ⟨b0,b1,b2,b3,b4,b5,b6,hb7⟩:=seven h7
  rw [hb7] at hI
  obtain ⟨c0,c1,c2,c3,c4,c5,c6⟩:=hI.all7
  have hfz:∀ p,W.frozen? ⟨g,p,none⟩=false:=fun p=>hO.frozen p
  have hst:=hO.store7 hi a0 a1 a2 a3 a4 a5 a6
  have hbb:=below7 (a:=i * 7) (b:=i * 7+1) (c:=i * 7+2) (d:=i * 7+3) (e:=i * 7+4) (f:=i * 7+5) (i:=i * 7+6) (va:=.int .i64 a0) (vb:=.int .i64 a1) (vc:=.int .i64 a2) (vd:=.int .i64 a3) (ve:=.int .i64 a4) (vf:=.int .i64 a5) (vi:=.int .i64 a6) hb hB
  go_simp
  exact hK undef _ trivial ⟨_,hst,hbb⟩ trivial
 have st14 {D:Nat→Bool} {y0 y1 y2 y3 y4 y5 y6 y7 y8 y9 y10 y11 y12 y14:Value} {W:World} {K:Act→World→Prop} (hD:D 14=false) (hcl:ClG opsRev3.toArray D) (hd:(D 2=true∧y2 = .slice (some ⟨g,0,none⟩) n cap)∧(D 3=true∧y3 = .int .i64 (j:Int))∧True) (hG:GG D W) (hK:∀ (v:Value) (W':World),(True)→GG (addG D 14) W'→(v = .pointer (some ⟨g,j * 7,none⟩))→K (fr y0 y1 y2 y3 y4 y5 y6 y7 y8 y9 y10 y11 y12 v) W'):Oper.wp Tryz.prog oRev3_14 (fr y0 y1 y2 y3 y4 y5 y6 y7 y8 y9 y10 y11 y12 y14) W K Q:=by
  subst hfr hGG
  unfold oRev3_14
  obtain ⟨⟨_,rfl⟩,⟨_,rfl⟩,-⟩:=hd
  go_simp
  exact hK _ _ trivial hG rfl
 have st15 {D:Nat→Bool} {y0 y1 y2 y3 y4 y5 y6 y7 y8 y9 y10 y11 y12 y14:Value} {W:World} {K:Act→World→Prop} (hD:D 15=false) (hcl:ClG opsRev3.toArray D) (hd:(D 14=true∧y14 = .pointer (some ⟨g,j * 7,none⟩))∧(D 11=true∧∃ a0 a1 a2 a3 a4 a5 a6:Int,y11 = .agg #[.int .i64 a0,.int .i64 a1,.int .i64 a2,.int .i64 a3,.int .i64 a4,.int .i64 a5,.int .i64 a6])∧True) (hG:GG D W) (hK:∀ (v:Value) (W':World),(True)→GG (addG D 15) W'→(True)→K (fr y0 y1 y2 y3 y4 y5 y6 y7 y8 y9 y10 y11 y12 y14) W'):Oper.wp Tryz.prog oRev3_15 (fr y0 y1 y2 y3 y4 y5 y6 y7 y8 y9 y10 y11 y12 y14) W K Q:=by
  subst hfr hGG
  unfold oRev3_15
  obtain ⟨⟨_,rfl⟩,⟨d11,e11⟩,-⟩:=hd
  obtain ⟨zs,hO,hb⟩:=hG
  obtain ⟨a0,a1,a2,a3,a4,a5,a6,rfl⟩:=e11
  obtain ⟨h7,hI⟩:=hO.intCells hj
  obtain ⟨b0,b1,b2,b3,b4,b5,b6,hb7⟩:=seven h7
  rw [hb7] at hI
  obtain ⟨c0,c1,c2,c3,c4,c5,c6⟩:=hI.all7
  have hfz:∀ p,W.frozen? ⟨g,p,none⟩=false:=fun p=>hO.frozen p
  have hst:=hO.store7 hj a0 a1 a2 a3 a4 a5 a6
  have hbb:=below7 (a:=j * 7) (b:=j * 7+1) (c:=j * 7+2) (d:=j * 7+3) (e:=j * 7+4) (f:=j * 7+5) (i:=j * 7+6) (va:=.int .i64 a0) (vb:=.int .i64 a1) (vc:=.int .i64 a2) (vd:=.int .i64 a3) (ve:=.int .i64 a4) (vf:=.int .i64 a5) (vi:=.int .i64 a6) hb hB
  go_simp
  exact hK undef _ trivial ⟨_,hst,hbb⟩ trivial
 subst hfr hGG
 refine wp_region_rg (l:=opsRev3) (fun ys=>⟨#[.slice (some ⟨g,0,none⟩) n cap,x1,.int .i64 (i:Int),.int .i64 (j:Int),x4,x5,x6,x7,x8,x9,x10,x11,x12,x13,ys 0,ys 1,ys 2,ys 3,ys 4,ys 5,ys 6,ys 7,ys 8,ys 9,ys 10,ys 11,ys 12,ys 14],[]⟩) [fun (_:World) (v:Value)=>v = .slice (some ⟨g,0,none⟩) n cap,fun (_:World) (v:Value)=>v = .int .i64 (i:Int),fun (_:World) (v:Value)=>v = .slice (some ⟨g,0,none⟩) n cap,fun (_:World) (v:Value)=>v = .int .i64 (j:Int),fun (_:World) (v:Value)=>v = .slice (some ⟨g,0,none⟩) n cap,fun (_:World) (v:Value)=>v = .int .i64 (j:Int),fun (_:World) (v:Value)=>v = .pointer (some ⟨g,j * 7,none⟩),fun (_:World) (v:Value)=>∃ a0 a1 a2 a3 a4 a5 a6:Int,v = .agg #[.int .i64 a0,.int .i64 a1,.int .i64 a2,.int .i64 a3,.int .i64 a4,.int .i64 a5,.int .i64 a6],fun (_:World) (v:Value)=>v = .slice (some ⟨g,0,none⟩) n cap,fun (_:World) (v:Value)=>v = .int .i64 (i:Int),fun (_:World) (v:Value)=>v = .pointer (some ⟨g,i * 7,none⟩),fun (_:World) (v:Value)=>∃ a0 a1 a2 a3 a4 a5 a6:Int,v = .agg #[.int .i64 a0,.int .i64 a1,.int .i64 a2,.int .i64 a3,.int .i64 a4,.int .i64 a5,.int .i64 a6],fun (_:World) (v:Value)=>v = .pointer (some ⟨g,i * 7,none⟩),fun (_:World) (_:Value)=>True,fun (_:World) (v:Value)=>v = .pointer (some ⟨g,j * 7,none⟩),fun (_:World) (_:Value)=>True] (fun W W'=>True) (fun D ys W=>∃ zs:List (List Int),OwX 87 7 EI W B (.slice (some ⟨g,0,none⟩) n cap) n zs∧Below B w W) (fun i=>([x14,x15,x16,x17,x18,x19,x20,x21,x22,x23,x24,x25,x26,undef,x27,undef]:List Value).getD i undef) (by kernel_rfl) (by kernel_rfl) ⟨fun _ _ _ h _=>h,fun _ _ _ h _=>h,fun _ _ _ h _=>h,fun _ _ _ h _=>h,fun _ _ _ h _=>h,fun _ _ _ h _=>h,fun _ _ _ h _=>h,fun _ _ _ h _=>h,fun _ _ _ h _=>h,fun _ _ _ h _=>h,fun _ _ _ h _=>h,fun _ _ _ h _=>h,fun _ _ _ h _=>h,fun _ _ _ h _=>h,fun _ _ _ h _=>h,fun _ _ _ h _=>h,trivial⟩ ?g0 ?gx ⟨fun D ys W K h1 h2 h3 h4 h5=>by rw [if_pos (by rfl)]; exact st0 h1 h2 trivial h4 h5,fun D ys W K h1 h2 h3 h4 h5=>by rw [if_pos (by rfl)]; exact st1 h1 h2 trivial h4 h5,fun D ys W K h1 h2 h3 h4 h5=>by rw [if_pos (by rfl)]; exact st2 h1 h2 trivial h4 h5,fun D ys W K h1 h2 h3 h4 h5=>by rw [if_pos (by rfl)]; exact st3 h1 h2 trivial h4 h5,fun D ys W K h1 h2 h3 h4 h5=>by rw [if_pos (by rfl)]; exact st4 h1 h2 trivial h4 h5,fun D ys W K h1 h2 h3 h4 h5=>by rw [if_pos (by rfl)]; exact st5 h1 h2 trivial h4 h5,fun D ys W K h1 h2 h3 h4 h5=>by rw [if_pos (by rfl)]; exact st6 h1 h2 h3 h4 h5,fun D ys W K h1 h2 h3 h4 h5=>by rw [if_pos (by rfl)]; exact st7 h1 h2 h3 h4 h5,fun D ys W K h1 h2 h3 h4 h5=>by rw [if_pos (by rfl)]; exact st8 h1 h2 trivial h4 h5,fun D ys W K h1 h2 h3 h4 h5=>by rw [if_pos (by rfl)]; exact st9 h1 h2 trivial h4 h5,fun D ys W K h1 h2 h3 h4 h5=>by rw [if_pos (by rfl)]; exact st10 h1 h2 h3 h4 h5,fun D ys W K h1 h2 h3 h4 h5=>by rw [if_pos (by rfl)]; exact st11 h1 h2 h3 h4 h5,fun D ys W K h1 h2 h3 h4 h5=>by rw [if_pos (by rfl)]; exact st12 h1 h2 ⟨h3.1,h3.2.1,trivial⟩ h4 h5,fun D ys W K h1 h2 h3 h4 h5=>by rw [if_pos (by rfl)]; exact st13 h1 h2 ⟨h3.1,h3.2.1,trivial⟩ h4 h5,fun D ys W K h1 h2 h3 h4 h5=>by rw [if_pos (by rfl)]; exact st14 h1 h2 ⟨h3.1,h3.2.1,trivial⟩ h4 h5,fun D ys W K h1 h2 h3 h4 h5=>by rw [if_pos (by rfl)]; exact st15 h1 h2 ⟨h3.1,h3.2.1,trivial⟩ h4 h5,trivial⟩ ?fin
 case g0=>exact ⟨xs,h.keep (EI.stab _) (below_drewN (Below.refl _ w) 1),below_drewN (Below.refl _ w) 1⟩
 case gx=>exact fun _ _ _ _ _ h=>h
 case fin=>
  intro ys W hG hp
  have e0:ys 0 = .slice (some ⟨g,0,none⟩) n cap:=hp 0 (by decide)
  have e1:ys 1 = .int .i64 (i:Int):=hp 1 (by decide)
  have e2:ys 2 = .slice (some ⟨g,0,none⟩) n cap:=hp 2 (by decide)
  have e3:ys 3 = .int .i64 (j:Int):=hp 3 (by decide)
  have e4:ys 4 = .slice (some ⟨g,0,none⟩) n cap:=hp 4 (by decide)
  have e5:ys 5 = .int .i64 (j:Int):=hp 5 (by decide)
  have e6:ys 6 = .pointer (some ⟨g,j * 7,none⟩):=hp 6 (by decide)
  have e8:ys 8 = .slice (some ⟨g,0,none⟩) n cap:=hp 8 (by decide)
  have e9:ys 9 = .int .i64 (i:Int):=hp 9 (by decide)
  have e10:ys 10 = .pointer (some ⟨g,i * 7,none⟩):=hp 10 (by decide)
  have e12:ys 12 = .pointer (some ⟨g,i * 7,none⟩):=hp 12 (by decide)
  have e14:ys 14 = .pointer (some ⟨g,j * 7,none⟩):=hp 14 (by decide)
  show Q .normal ⟨#[.slice (some ⟨g,0,none⟩) n cap,x1,.int .i64 (i:Int),.int .i64 (j:Int),x4,x5,x6,x7,x8,x9,x10,x11,x12,x13,(ys 0),(ys 1),(ys 2),(ys 3),(ys 4),(ys 5),(ys 6),(ys 7),(ys 8),(ys 9),(ys 10),(ys 11),(ys 12),(ys 14)],[]⟩ W
  rw [e0,e1,e2,e3,e4,e5,e6,e8,e9,e10,e12,e14]
  exact hfin (ys 7) (ys 11) (ys 13) (ys 15) W hG (hp 7 (by decide)) (hp 11 (by decide)) (hp 13 (by decide)) (hp 15 (by decide))
theorem reverseC {w:World} {B g n cap:Nat} {xs:List (List Int)} (h:OwX 87 7 EI w B (.slice (some ⟨g,0,none⟩) n cap) n xs) (h0:0 < n) (hn:n≤1000000) (hB:B≤g) :
  Calls Tryz.prog 177 #[.slice (some ⟨g,0,none⟩) n cap] w fun e w'=>e = .returned (.tuple #[])∧∃ zs:List (List Int),OwX 87 7 EI w' B (.slice (some ⟨g,0,none⟩) n cap) n zs∧Below B w w':=by
 have hw:IntKind.i64.wrap ((n:Int) - 1)=(n:Int) - 1:=IntWalk.i64_in _ (by omega)
 have hh:=Lib.hid h
 clear h
 go_enter Tryz.func177, Tryz.ntmps177
 go_wp2_with fail
 go_loopw [2,3] (fun iv jv wr=>∃ (i:Nat) (zs:List (List Int)),iv = .int .i64 i∧jv = .int .i64 ((n:Int) - 1 - (i:Int))∧i≤n∧Hid (OwX 87 7 EI wr B (.slice (some ⟨g,0,none⟩) n cap) n zs)∧Below B w wr) (fun iv _ _=>n - (intOf iv).toNat)
 case atStart=>exact ⟨0,xs,rfl,by congr 1; omega,by omega,hh,Below.refl _ _⟩
 case round=>
  clear hh
  obtain ⟨i,zs,rfl,rfl,hi,hO,hb⟩:=hrel
  by_cases hlt:(i:Int) < (n:Int) - 1 - (i:Int)
  ·obtain ⟨j,hj⟩:∃ j:Nat,(n:Int) - 1 - (i:Int)=(j:Int):=⟨n - 1 - i,by omega⟩
   rw [hj] at hlt ⊢
   have hin:i < n:=by omega
   have hjn:j < n:=by omega
   have hw2:IntKind.i64.wrap ((j:Int) - 1)=(j:Int) - 1:=IntWalk.i64_in _ (by omega)
   have hj2:Hid ((j:Int) - 1=(n:Int) - 1 - ((i+1:Nat):Int)):=by show _=_; omega
   replace hj:=Lib.hid hj
   go_upto_region 3 with fail
   refine regRev3 hO.out hin hjn hB ?_
   intro _ _ _ _ W ⟨zs2,hO2,hb2⟩ _ _ _ _
   replace hO2:=Lib.hid hO2
   have hb3:=hb.trans hb2
   clear hO hb hb2
   go_wp2_with fail
   go_roundw
   case rel=>exact ⟨i+1,zs2,by go_num,by rw [← hj2.out],by omega,hO2,hb3⟩
   case measure=>simp [intOf]; omega
  ·have hd:decide ((i:Int) < (n:Int) - 1 - (i:Int))=false:=decide_eq_false hlt
   have hfin:=Lib.hid hO
   clear hO
   go_wp2_with fail
   go_end0
   refine ⟨rfl,?_⟩
   exact ⟨⟨zs,hfin.out.out⟩,hb⟩
def VisOK (vis:List (List Int)):Prop:=∀ k,k < vis.length→0 < k→0≤(vis.getD k []).getD 2 0∧(vis.getD k []).getD 2 0 < (k:Int)
theorem ten {x:List Int} (h:x.length=10):∃ a b c d e f g i j k,x = [a,b,c,d,e,f,g,i,j,k]:=by
 match x,h with
 | [a,b,c,d,e,f,g,i,j,k],_=>exact ⟨a,b,c,d,e,f,g,i,j,k,rfl⟩
theorem CI.all10 {w:World} {b o:Nat} {x0 x1 x2 x3 x4 x5 x6 x7 x8 x9:Int} (h:CI w b o [x0,x1,x2,x3,x4,x5,x6,x7,x8,x9]) :
  (w.cell? ⟨b,o,none⟩=some (.int .i64 x0)∧w.cell? ⟨b,o+1,none⟩=some (.int .i64 x1)∧w.cell? ⟨b,o+2,none⟩=some (.int .i64 x2))∧w.cell? ⟨b,o+3,none⟩=some (.int .i64 x3)∧w.cell? ⟨b,o+4,none⟩=some (.int .i64 x4)∧w.cell? ⟨b,o+5,none⟩=some (.int .i64 x5)∧w.cell? ⟨b,o+6,none⟩=some (.int .i64 x6)∧w.cell? ⟨b,o+7,none⟩=some (.int .i64 x7)∧w.cell? ⟨b,o+8,none⟩=some (.int .i64 x8)∧w.cell? ⟨b,o+9,none⟩=some (.int .i64 x9):=
 ⟨⟨h 0 (by simp),h 1 (by simp),h 2 (by simp)⟩,h 3 (by simp),h 4 (by simp),h 5 (by simp),h 6 (by simp),h 7 (by simp),h 8 (by simp),h 9 (by simp)⟩
theorem wordC {w:World} {la:Option Addr} {n lc i:Nat} {vis:List (List Int)} (h:OwX 174 10 EI w 0 (.slice la n lc) n vis) (hv:VisOK vis) (hi:i < n) (hn:n≤100000) (r0 r1 r2 r3 r4 r5 r6:Int) :
  Calls Tryz.prog 124 #[.slice la n lc,.int .i64 (i:Int),.agg #[.int .i64 r0,.int .i64 r1,.int .i64 r2,.int .i64 r3,.int .i64 r4,.int .i64 r5,.int .i64 r6]] w fun e w'=>∃ p m c ws,e = .returned (.slice (some p) m c)∧0 < m∧OwX 87 7 EI w' w.heap.size (.slice (some p) m c) m ws∧Below w.heap.size w w':=by
 obtain ⟨g,cap,he,_⟩:=h.form (by omega)
 injection he with he1 he2 he3
 subst he1 he3
 have hl:=h.length
 obtain ⟨W1,hW1⟩:=exF ((w.alloc (.cells #[.int .i64 r0,.int .i64 r1,.int .i64 r2,.int .i64 r3,.int .i64 r4,.int .i64 r5,.int .i64 r6] 87)).alloc (.cells #[.int .i64 r0,.int .i64 r1,.int .i64 r2,.int .i64 r3,.int .i64 r4,.int .i64 r5,.int .i64 r6] 87))
 have hb1:Below w.heap.size w W1:=by rw [hW1]; exact ((Below.refl _ w).alloc (Nat.le_refl _) _).alloc (by simp) _
 have hk0:W1.heap[w.heap.size+1]? = some (.cells #[.int .i64 r0,.int .i64 r1,.int .i64 r2,.int .i64 r3,.int .i64 r4,.int .i64 r5,.int .i64 r6] 87):=by
  rw [hW1]
  have:=World.alloc_heap_new (w.alloc (.cells #[.int .i64 r0,.int .i64 r1,.int .i64 r2,.int .i64 r3,.int .i64 r4,.int .i64 r5,.int .i64 r6] 87)) (.cells #[.int .i64 r0,.int .i64 r1,.int .i64 r2,.int .i64 r3,.int .i64 r4,.int .i64 r5,.int .i64 r6] 87)
  rwa [World.size_alloc] at this
 have hO0:OwX 87 7 EI W1 w.heap.size (.slice (some ⟨w.heap.size+1,0,none⟩) 1 1) 1 [[r0,r1,r2,r3,r4,r5,r6]]:=
  OwX.ofFlat ⟨rfl,.inr ⟨w.heap.size+1,1,_,rfl,by omega,hk0,Nat.le_refl _,by decide,rfl,rfl⟩⟩ (fun x hx=>by rw [List.mem_singleton] at hx; subst hx; rfl) rfl
 have hc7:Hid (∀ a0 a1 a2 a3 a4 a5 a6:Int,∀ u∈(#[.int .i64 a0,.int .i64 a1,.int .i64 a2,.int .i64 a3,.int .i64 a4,.int .i64 a5,.int .i64 a6]:Array Value).toList,u.oneCell'=true):=fun a0 a1 a2 a3 a4 a5 a6 u hu=>by
  simp only [List.mem_cons,List.not_mem_nil,or_false] at hu
  rcases hu with rfl | rfl | rfl | rfl | rfl | rfl | rfl <;> rfl
 have hbox:=(box7CI (x0:=r0) (x1:=r1) (x2:=r2) (x3:=r3) (x4:=r4) (x5:=r5) (x6:=r6) (show (w.alloc (.cells #[.int .i64 r0,.int .i64 r1,.int .i64 r2,.int .i64 r3,.int .i64 r4,.int .i64 r5,.int .i64 r6] 87)).heap[w.heap.size]? = _ from heap_alloc_new w _)).all7
 simp only [Nat.zero_add] at hbox
 obtain ⟨x0,x1,x2,x3,x4,x5,x6⟩:=hbox
 have hh:=Lib.hid h
 replace hO0:=Lib.hid hO0
 replace hv:=Lib.hid hv
 clear h hk0
 go_enter Tryz.func124, Tryz.ntmps124
 go_wp2_with fail
 rw [← hW1]
 replace hW1:=Lib.hid hW1
 clear x0 x1 x2 x3 x4 x5 x6
 go_loopw [1,7] (fun iv ov wr=>∃ (i m:Nat) (ws:List (List Int)),iv = .int .i64 i∧i < n∧0 < m∧m+i≤n∧Hid (OwX 87 7 EI wr w.heap.size ov m ws)∧Below w.heap.size w wr) (fun iv _ _=>(intOf iv).toNat)
 case atStart=>exact ⟨i,1,_,rfl,hi,by omega,by omega,hO0,hb1⟩
 case round=>
  clear hO0 hi
  obtain ⟨i,m,ws,rfl,hi,hm,hmi,hO,hb⟩:=hrel
  by_cases hlt:0 < i
  ·obtain ⟨h10,hI⟩:=(hh.out.keep (EI.stab _) hb).intCells hi
   obtain ⟨f0,f1⟩:=hv.out i (by rw [hl]; exact hi) hlt
   obtain ⟨a,b,f,d0,d1,d2,d3,d4,d5,d6,hx⟩:=ten h10
   rw [hx] at hI f0 f1
   obtain ⟨⟨_,_,c2⟩,c3,c4,c5,c6,c7,c8,c9⟩:=hI.all10
   replace f0:0≤f:=f0
   replace f1:f < (i:Int):=f1
   obtain ⟨q,rfl⟩:∃ q:Nat,f=(q:Int):=⟨f.toNat,by omega⟩
   obtain ⟨oa,oc,hov⟩:=hO.out.shape
   subst hov
   have hii:(i:Int) < (n:Int):=by omega
   have hi0:(0:Int) < (i:Int):=by omega
   have hm9:m≤1000000000000:=by omega
   have hE:EI wr [.int .i64 d0,.int .i64 d1,.int .i64 d2,.int .i64 d3,.int .i64 d4,.int .i64 d5,.int .i64 d6] [d0,d1,d2,d3,d4,d5,d6]:=rfl
   have hOo:=hO.out
   clear hI hx h10 hO
   go_wp2_with (at_builtin; refine wpAppX elemRd (by decide) (by decide) (EI.stab _) rfl _ _ rfl rfl hOo rfl rfl rfl (hc7.out _ _ _ _ _ _ _) hE hm9 hb.size ?_)
   intro v' w2 hrow _ hb2 _
   obtain ⟨va,vc,hvs⟩:=hrow.shape
   subst hvs
   have e2:=cell_kept (p:=⟨g,i * 10+2,none⟩) (Below.refl _ wr) c2
   have hbr:=hb.trans hb2
   obtain ⟨h10,hI⟩:=(hh.out.keep (EI.stab _) hbr).intCells hi
   have e2':w2.cell? ⟨g,i * 10+2,none⟩=some (.int .i64 (q:Int)):=by
    have hg0:w.heap[g]? ≠ none:=by
     obtain ⟨vs,k1,_⟩:=hh.out
     obtain ⟨cs,hcs⟩:=ownsRow_ty k1 g rfl
     rw [hcs]; exact fun e=>by cases e
    have hgl:g < w.heap.size:=by
     rcases Nat.lt_or_ge g w.heap.size with h | h
     ·exact h
     ·exact absurd (Array.getElem?_eq_none h) hg0
    exact (World.cell?_of_block (a:=⟨g,i * 10+2,none⟩) (hb2.block g hgl)).trans c2
   replace hrow:=Lib.hid hrow
   clear hOo hI h10 c2 c3 c4 c5 c6 c7 c8 c9 e2
   go_wp2_with fail
   go_roundw
   case rel=>exact ⟨q,m+1,_,rfl,by omega,by omega,by omega,hrow,hbr⟩
   case measure=>simp [intOf]; omega
  ·obtain rfl:i=0:=by omega
   obtain ⟨g2,cap2,hov,hg2⟩:=hO.out.form hm
   subst hov
   have HR:=Lib.hid (reverseC hO.out hm (by omega) hg2)
   clear hO
   go_wp2_with fail
   refine HR.out.mono ?_
   rintro e w2 ⟨rfl,zs,hO2,hb2⟩
   replace hO2:=Lib.hid hO2
   go_wp2_with fail
   go_ret
   exact ⟨_,m,_,zs,rfl,hm,hO2.out,hb.trans hb2⟩
theorem diffC {w:World} {r0 r1 r2 r3 r4 r5 r6 a b:Int} :
  Calls Tryz.prog 87 #[.agg #[.int .i64 r0,.int .i64 r1,.int .i64 r2,.int .i64 r3,.int .i64 r4,.int .i64 r5,.int .i64 r6,.int .i64 a,.int .i64 b]] w fun e w'=>e = .returned (.bool (decide (a < 0∨b < 0)))∧Below w.heap.size w w':=by
 have hb:=(Below.refl w.heap.size w).alloc (Nat.le_refl _) (.cells #[.int .i64 r0,.int .i64 r1,.int .i64 r2,.int .i64 r3,.int .i64 r4,.int .i64 r5,.int .i64 r6,.int .i64 a,.int .i64 b] 134)
 have k0:=heap_alloc_new w (.cells #[.int .i64 r0,.int .i64 r1,.int .i64 r2,.int .i64 r3,.int .i64 r4,.int .i64 r5,.int .i64 r6,.int .i64 a,.int .i64 b] 134)
 have c7:=box_cell k0 (j:=7) (v:=.int .i64 a) rfl
 have c8:=box_cell k0 (j:=8) (v:=.int .i64 b) rfl
 by_cases h1:a < 0
 ·have hd:decide (a < 0∨b < 0)=true:=decide_eq_true (.inl h1)
  rw [hd]
  have hd1:decide (a < 0)=true:=decide_eq_true h1
  go_enter Tryz.func87, Tryz.ntmps87
  go_wp2
  go_ret
  exact ⟨rfl,hb⟩
 ·have hd:decide (a < 0∨b < 0)=decide (b < 0):=by simp [h1]
  rw [hd]
  have hd1:decide (a < 0)=false:=decide_eq_false h1
  go_enter Tryz.func87, Tryz.ntmps87
  go_wp2
  go_ret
  exact ⟨rfl,hb⟩
end Go.Proofs.YtmikofeildnpdaaGreat

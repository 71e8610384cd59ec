/- Texts of this claim, put together: Wd. -/
import Derived.Test.YtmikofeildnpdaaGreatKZe
import Derived.Test.YtmikofeildnpdaaGreatKZd

set_option maxRecDepth 100000
set_option maxHeartbeats 12800000
namespace Go.Proofs.YtmikofeildnpdaaGreat
open Go.RowKit
def oneL (n:Nat):List Int:=(List.range n).map Int.ofNat
theorem oneL_length (n:Nat):(oneL n).length=n:=by simp[oneL]
def Good (n:Nat) (b:List Int):Prop:=∀j,j < b.length→0≤b.getD j 0∧b.getD j 0 < (n:Int)
def timesL (a b:List Int):List Int:=b.map fun q=>a.getD q.toNat 0
theorem timesL_length (a b:List Int):(timesL a b).length=b.length:=by simp[timesL]
theorem timesL_getD (a b:List Int) (k:Nat) (h:k < b.length):(timesL a b).getD k 0=a.getD (b.getD k 0).toNat 0:=by simp[timesL,h]
def fil (xs:List Int) (k:Nat):List Int:=xs.take k++List.replicate (xs.length - k) 0
theorem fil_zero (xs:List Int):fil xs 0=List.replicate xs.length 0:=by simp[fil]
theorem fil_end (xs:List Int):fil xs xs.length=xs:=by simp[fil]
theorem fil_set {xs:List Int}{k:Nat}(h:k < xs.length):(fil xs k).set k (xs.getD k 0)=fil xs (k+1):=by
 unfold fil
 rw[List.set_append,if_neg (by simp;omega),List.length_take,Nat.min_eq_left (by omega),Nat.sub_self,take_snoc h 0,
  show xs.length - k=(xs.length - (k+1))+1 by omega,List.replicate_succ,List.set_cons_zero,List.append_assoc,List.singleton_append]
def scat (idx vals out:List Int) (k:Nat):List Int:=(List.range k).foldl (fun o j=>o.set (idx.getD j 0).toNat (vals.getD j 0)) out
theorem scat_succ (idx vals out:List Int) (k:Nat):scat idx vals out (k+1)=(scat idx vals out k).set (idx.getD k 0).toNat (vals.getD k 0):=by
 simp[scat,List.range_succ]
theorem oneL_getD {n k:Nat}(h:k < n):(oneL n).getD k 0=(k:Int):=by simp[oneL,h]
theorem identityCall (n:Nat) (w:World) (hn:n≤1000000) :
  Calls Tryz.prog 66 #[.int .i64 n] w fun e w'=>∃v,e = .returned v∧OI w' w.heap.size v n (oneL n)∧Below w.heap.size w w':=by
 go_enter Tryz.func66,Tryz.ntmps66
 go_wp2_with (at_make;refine wpMakeI rfl _ _ rfl n rfl rfl (by omega) (Nat.le_refl _) ?_;intro w1 ho _ hb)
 obtain⟨g,hg⟩:=exF (w.heap.size);rw[←hg] at ho⊢;have hgl:w.heap.size≤g:=by omega
 replace hg:=qH hg;go_loopw [9] (fun i wr=>∃k:Nat,k≤n∧i = .int .i64 k∧OI wr g (.slice (some ⟨g,0,none⟩) n n) n (fil (oneL n) k)∧Below w.heap.size w wr) (fun i _=>n - (intOf i).toNat)
 case atStart=>exact⟨0,by omega,rfl,by rw[fil_zero,oneL_length];exact ho,hb⟩
 case round=>
  clear ho hb;obtain⟨k,hk,rfl,ho,hb⟩:=hrel;by_cases hlt:k < n
  ·have hck:=ho.cell hlt;have hfk:=ho.free k;have hst:=ho.store k k;have e1:=qH (fil_set (xs:=oneL n) (k:=k) (by rw[oneL_length];exact hlt));go_wp2;go_roundw
   case rel=>exact⟨k+1,by omega,by go_num,by rw[←e1.out,oneL_getD hlt];exact hst.1,hb.setCell (by simpa using hgl) _⟩
   case measure=>simp[intOf];omega
  ·obtain rfl:k=n:=(by omega);go_wp2;go_ret;refine⟨_,rfl,?_,hb⟩;have:=fil_end (oneL k)
   rw[oneL_length] at this;rw[this] at ho;exact ho.base hgl
theorem composeCall {w:World}{u v:Value}{a b:List Int}(h:Ints w u a) (h':Ints w v b) (hG:Good a.length b) (hn:b.length≤1000000) :
  Calls Tryz.prog 68 #[u,v] w fun e w'=>∃r,e = .returned r∧OI w' w.heap.size r b.length (timesL a b)∧Below w.heap.size w w':=by
 obtain⟨aa,ac,ab,ao,rfl,ha,hca,hla⟩:=h;obtain⟨ba,bc,bb,bo,rfl,hb',hcb,hlb⟩:=h';go_enter Tryz.func68,Tryz.ntmps68
 go_wp2_with (at_make;refine wpMakeI rfl _ _ rfl b.length rfl rfl (by omega) (Nat.le_refl _) ?_;intro w1 ho _ hb)
 obtain⟨g,hg⟩:=exF (w.heap.size);rw[←hg] at ho⊢;have hgl:w.heap.size≤g:=by omega
 replace hg:=qH hg;go_loopw [13] (fun i wr=>∃k:Nat,k≤b.length∧i = .int .i64 k∧OI wr g (.slice (some ⟨g,0,none⟩) b.length b.length) b.length (fil (timesL a b) k)∧Below w.heap.size w wr) (fun i _=>b.length - (intOf i).toNat)
 case atStart=>exact⟨0,by omega,rfl,by rw[fil_zero,timesL_length];exact ho,hb⟩
 case round=>
  clear ho hb;obtain⟨k,hk,rfl,ho,hb⟩:=hrel;by_cases hlt:k < b.length
  ·obtain⟨g1,g2⟩:=hG k hlt;obtain rfl:=ha (by omega);obtain rfl:=hb' (by omega);have hcb':=hcb.keep hb k hlt;have hcv:=hca.keep hb (b.getD k 0).toNat (by omega);have e1:=qH (timesL_getD a b k hlt);have e2:=qH (fil_set (xs:=timesL a b) (k:=k) (by rw[timesL_length];exact hlt));have hck:=ho.cell hlt;have hfk:=ho.free k;clear ha hb' hca hcb hG;obtain⟨q,hq⟩:=exE (b.getD k 0);rw[hq] at hcb' hcv g1 g2 e1;obtain⟨r,hr⟩:=exE (a.getD q.toNat 0);rw[hr] at hcv e1;clear hq hr;have hst:=ho.store k r;go_wp2;go_roundw
   case rel=>exact⟨k+1,by omega,by go_num,by rw[←e2.out,e1.out];exact hst.1,hb.setCell (by simpa using hgl) _⟩
   case measure=>simp[intOf];omega
  ·obtain rfl:k=b.length:=(by omega);clear ha hb' hca hcb hG;go_wp2;go_ret;refine⟨_,rfl,?_,hb⟩;have:=fil_end (timesL a b)
   rw[timesL_length] at this;rw[this] at ho;exact ho.base hgl
end Go.Proofs.YtmikofeildnpdaaGreat

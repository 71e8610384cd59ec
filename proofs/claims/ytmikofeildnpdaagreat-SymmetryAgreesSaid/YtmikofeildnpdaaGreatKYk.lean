/- Texts of this claim, put together: Wa Wd Wb We. -/
import Derived.Test.YtmikofeildnpdaaGreatKYe
import Derived.Test.YtmikofeildnpdaaGreatKYc

set_option maxRecDepth 100000
set_option maxHeartbeats 12800000
/- The walks of the reference's Check, has, Same, SameAll, Among. -/
namespace Go.Proofs.YtmikofeildnpdaaGreat
open Go.RowKit
theorem refCheck {w:World} {v:Value} {xs:List Int} (h:Ints w v xs) :
  Calls Tryz.prog 30 #[v] w fun e w'=>e = .returned (.int .i64 (chk xs))∧Qt w w':=by
 obtain ⟨a,c,b,off,rfl,ha,hc,hl⟩:=h
 by_cases h1:xs.length < 1
 ·have h1':decide ((xs.length:Int) < 1)=true:=by simp; omega
  clear ha hc
  go_enter Tryz.func30,Tryz.ntmps30
  go_wp2
  go_ret
  exact ⟨by simp [chk,h1],Qt.refl _⟩
 ·have h1':decide ((xs.length:Int) < 1)=false:=by simp; omega
  by_cases h2:5 < xs.length
  ·have h2':decide (5 < (xs.length:Int))=true:=by simp; omega
   clear ha hc
   go_enter Tryz.func30,Tryz.ntmps30
   go_wp2
   go_ret
   exact ⟨by simp [chk,h2],Qt.refl _⟩
  ·have h2':decide (5 < (xs.length:Int))=false:=by simp; omega
   obtain rfl:=ha (by omega)
   clear ha
   go_enter Tryz.func30,Tryz.ntmps30
   go_wp2
   go_loopw [3] (fun i wr=>∃ k:Nat,k≤xs.length∧i = .int .i64 k∧Hid (chkGo xs.length (xs.take k) (xs.drop k)=chk xs)∧Hid (Qt w wr)) (fun i _=>xs.length - (intOf i).toNat)
   case atStart=>exact ⟨0,by omega,rfl,by simp [Hid,chk,h1,h2],Qt.refl _⟩
   case round=>
    obtain ⟨k,hk,rfl,hg,n,rfl⟩:=hrel
    by_cases hlt:k < xs.length
    ·have hck:=hc k hlt
     have hst:=Lib.hid (chkGo_step hlt)
     go_wp2
     ·go_ret
      have h:=‹xs[k] < 0∨↑xs.length≤xs[k]›
      exact ⟨ret_int (by rw [← hg.out,hst.out,getD_eq hlt,if_pos h]),Qt.mk' _ _⟩
     ·have h:=‹0≤xs[k]∧xs[k] < ↑xs.length›
      obtain ⟨wo,rfl⟩:∃ wo:World,wo=w.drewN n:=⟨_,rfl⟩
      go_loopw [4] (fun j wr=>∃ m:Nat,m≤k∧j = .int .i64 m∧Hid (xs.getD k 0 ∉ xs.take m)∧Hid (Qt w wr)) (fun j _=>k - (intOf j).toNat)
      case atStart=>exact ⟨0,by omega,rfl,by simp [Hid],⟨n,rfl⟩⟩
      case round=>
       obtain ⟨m,hm,rfl,hnm,n1,rfl⟩:=hrel
       by_cases hmk:m < k
       ·have hcm:=hc m (by omega)
        go_wp2
        go_quiet (fail)
        go_wp2
        ·go_ret
         have he:=‹(xs[m]?.getD 0 == xs[k])=true›
         refine ⟨ret_int ?_,Qt.mk2 _ _ _⟩
         rw [← hg.out,hst.out,if_neg (by rw [getD_eq hlt]; omega),if_pos]
         exact mem_take_of hlt hmk (by simpa using he)
        ·have he:=‹(xs[m]?.getD 0 == xs[k])=false›
         go_roundw
         case rel=>
          refine ⟨m+1,by omega,by go_num,?_,⟨_,rfl⟩⟩
          have hne:xs.getD m 0 ≠ xs.getD k 0:=by rw [getD_eq hlt]; simpa using he
          show xs.getD k 0 ∉ xs.take (m+1)
          rw [take_snoc (by omega) 0,List.mem_append,not_or]
          exact ⟨hnm.out,by simpa using fun e=>hne e.symm⟩
         case measure=>simp [intOf]; omega
       ·obtain rfl:m=k:=by omega
        go_wp2
        go_roundw
        case rel=>
         refine ⟨m+1,by omega,by go_num,?_,⟨_,rfl⟩⟩
         show chkGo xs.length (xs.take (m+1)) (xs.drop (m+1))=chk xs
         rw [← hg.out,hst.out,if_neg (by rw [getD_eq hlt]; omega),if_neg hnm.out]
        case measure=>simp [intOf]; omega
     ·go_ret
      have h:=‹xs[k] < 0›
      exact ⟨ret_int (by rw [← hg.out,hst.out,getD_eq hlt,if_pos (.inl h)]),Qt.mk' _ _⟩
    ·have hst:=Lib.hid (chkGo_end hlt)
     go_wp2
     go_ret
     exact ⟨ret_int (by rw [← hg.out,hst.out]),Qt.mk' _ _⟩
theorem refHas02 {w:World} {v:Value} {xs:List Int} (x:Int) (h:Ints w v xs) :
  Calls Tryz.prog 143 #[v,.int .i64 x] w fun e w'=>e = .returned (.bool (hasB xs x))∧Qt w w':=by
 obtain ⟨a,c,b,off,rfl,ha,hc,hl⟩:=h
 go_enter Tryz.func143,Tryz.ntmps143
 go_wp2
 go_loopw [5] (fun i wr=>∃ k:Nat,k≤xs.length∧i = .int .i64 k∧Hid (x ∉ xs.take k)∧Hid (Qt w wr)) (fun i _=>xs.length - (intOf i).toNat)
 case atStart=>exact ⟨0,by omega,rfl,by simp [Hid],Qt.refl _⟩
 case round=>
  obtain ⟨k,hk,rfl,hg,n,rfl⟩:=hrel
  by_cases hlt:k < xs.length
  ·obtain rfl:=ha (by omega)
   have hck:=hc k hlt
   clear ha hc
   go_wp2
   ·go_ret
    have he:=‹(xs[k] == x)=true›
    refine ⟨ret_bool ?_,Qt.mk' _ _⟩
    simp only [hasB,true_eq_decide_iff]
    exact List.mem_iff_getElem.2 ⟨k,hlt,by simpa using he⟩
   ·have he:=‹(xs[k] == x)=false›
    go_roundw
    case rel=>
     refine ⟨k+1,by omega,by go_num,?_,⟨_,rfl⟩⟩
     show x ∉ xs.take (k+1)
     rw [take_snoc hlt 0,List.mem_append,not_or]
     refine ⟨hg.out,?_⟩
     rw [getD_eq hlt]
     simp at he ⊢
     exact fun e=>he e.symm
    case measure=>simp [intOf]; omega
  ·clear ha hc
   go_wp2
   go_ret
   refine ⟨ret_bool ?_,Qt.mk' _ _⟩
   have:=hg.out
   rw [List.take_of_length_le (by omega)] at this
   simp [hasB,this]
theorem refSame {w:World} {u v:Value} {xs ys:List Int} (h:Ints w u xs) (h':Ints w v ys) :
  Calls Tryz.prog 60 #[u,v] w fun e w'=>e = .returned (.bool (sameB xs ys))∧Qt w w':=by
 obtain ⟨a,c,b,off,rfl,ha,hc,hl⟩:=h
 obtain ⟨a',c',b',off',rfl,ha',hc',hl'⟩:=h'
 by_cases h1:xs.length=ys.length
 ·have h1':((xs.length:Int) != (ys.length:Int))=false:=by simp; omega
  have h1:=Lib.hid h1
  go_enter Tryz.func60,Tryz.ntmps60
  go_wp2
  go_loopw [5] (fun i wr=>∃ k:Nat,k≤xs.length∧i = .int .i64 k∧Hid (xs.take k=ys.take k)∧Hid (Qt w wr)) (fun i _=>xs.length - (intOf i).toNat)
  case atStart=>exact ⟨0,by omega,rfl,by simp [Hid],Qt.refl _⟩
  case round=>
   obtain ⟨k,hk,rfl,hg,n,rfl⟩:=hrel
   by_cases hlt:k < xs.length
   ·have hlt':k < ys.length:=by have:=h1.out; omega
    obtain rfl:=ha (by omega)
    obtain rfl:=ha' (by omega)
    have hck:=hc k hlt
    have hck':=hc' k hlt'
    clear ha ha' hc hc'
    go_wp2
    go_quiet (fail)
    go_wp2
    ·go_ret
     have he:=‹(xs[k] != ys[k])=true›
     refine ⟨ret_bool ?_,Qt.mk2 _ _ _⟩
     have he':xs[k] ≠ ys[k]:=by simpa using he
     have:xs ≠ ys:=fun e=>he' (by subst e; rfl)
     simp [sameB,this]
    ·have he:=‹(xs[k] != ys[k])=false›
     go_roundw
     case rel=>
      refine ⟨k+1,by omega,by go_num,?_,⟨_,rfl⟩⟩
      show xs.take (k+1)=ys.take (k+1)
      rw [take_snoc hlt 0,take_snoc hlt' 0,hg.out,getD_eq hlt,getD_eq hlt']
      have he':xs[k]=ys[k]:=by simpa using he
      rw [he']
     case measure=>simp [intOf]; omega
   ·clear ha hc ha' hc'
    go_wp2
    go_ret
    refine ⟨ret_bool ?_,Qt.mk' _ _⟩
    have:=hg.out
    have hh:=h1.out
    rw [List.take_of_length_le (by omega),List.take_of_length_le (by omega)] at this
    simp [sameB,this]
 ·have h1':((xs.length:Int) != (ys.length:Int))=true:=by simp; omega
  clear ha hc ha' hc'
  go_enter Tryz.func60,Tryz.ntmps60
  go_wp2
  go_ret
  refine ⟨ret_bool ?_,Qt.refl _⟩
  have:xs ≠ ys:=fun e=>h1 (by rw [e])
  simp [sameB,this]
theorem refSameAll {w:World} {u v:Value} {xs ys:List (List Int)} (h:Intss w u xs) (h':Intss w v ys) :
  Calls Tryz.prog 20 #[u,v] w fun e w'=>e = .returned (.bool (sameAllB xs ys))∧Qt w w':=by
 obtain ⟨a,c,b,off,rfl,ha,hc,hl⟩:=h
 obtain ⟨a',c',b',off',rfl,ha',hc',hl'⟩:=h'
 by_cases h1:xs.length=ys.length
 ·have h1':((xs.length:Int) != (ys.length:Int))=false:=by simp; omega
  have h1:=Lib.hid h1
  go_enter Tryz.func20,Tryz.ntmps20
  go_wp2
  go_loopw [5] (fun i wr=>∃ k:Nat,k≤xs.length∧i = .int .i64 k∧Hid (xs.take k=ys.take k)∧Hid (Qt w wr)) (fun i _=>xs.length - (intOf i).toNat)
  case atStart=>exact ⟨0,by omega,rfl,by simp [Hid],Qt.refl _⟩
  case round=>
   obtain ⟨k,hk,rfl,hg,hq⟩:=hrel
   by_cases hlt:k < xs.length
   ·have hlt':k < ys.length:=by have:=h1.out; omega
    obtain rfl:=ha (by omega)
    obtain rfl:=ha' (by omega)
    obtain ⟨u1,hck,hi⟩:=hc.qt hq.out k hlt
    obtain ⟨u2,hck',hi'⟩:=hc'.qt hq.out k hlt'
    clear ha ha' hc hc'
    have hb:sameB (xs.getD k []) (ys.getD k [])=true∨sameB (xs.getD k []) (ys.getD k [])=false:=by
     cases sameB (xs.getD k []) (ys.getD k []) <;> simp
    have hcall:∀ m,Calls Tryz.prog 60 #[u1,u2] (wr.drewN m) fun e w'=>e = .returned (.bool (sameB (xs.getD k []) (ys.getD k [])))∧Qt (wr.drewN m) w':=
     fun m=>refSame (hi.drew m) (hi'.drew m)
    have H:=Lib.hid hcall
    clear hcall hi hi'
    rcases hb with hb | hb
    ·rw [hb] at H
     go_wp2
     go_quiet ((go_at_call 60; exact Calls.quiet_of (H.out _)))
     go_wp2
     go_roundw
     case rel=>
      refine ⟨k+1,by omega,by go_num,?_,hq.out.trans (Qt.mk' _ _)⟩
      show xs.take (k+1)=ys.take (k+1)
      rw [take_snoc hlt [],take_snoc hlt' [],hg.out,of_decide_eq_true hb]
     case measure=>simp [intOf]; omega
    ·rw [hb] at H
     go_wp2
     go_quiet ((go_at_call 60; exact Calls.quiet_of (H.out _)))
     go_wp2
     go_ret
     refine ⟨ret_bool ?_,hq.out.trans (Qt.mk' _ _)⟩
     have:xs ≠ ys:=fun e=>of_decide_eq_false hb (by subst e; rfl)
     simp [sameAllB,this]
   ·clear ha hc ha' hc'
    go_wp2
    go_ret
    refine ⟨ret_bool ?_,hq.out⟩
    have:=hg.out
    have hh:=h1.out
    rw [List.take_of_length_le (by omega),List.take_of_length_le (by omega)] at this
    simp [sameAllB,this]
 ·have h1':((xs.length:Int) != (ys.length:Int))=true:=by simp; omega
  clear ha hc ha' hc'
  go_enter Tryz.func20,Tryz.ntmps20
  go_wp2
  go_ret
  refine ⟨ret_bool ?_,Qt.refl _⟩
  have:xs ≠ ys:=fun e=>h1 (by rw [e])
  simp [sameAllB,this]
theorem refAmong {w:World} {u v:Value} {xs:List (List Int)} {y:List Int} (h:Intss w u xs) (h':Ints w v y) :
  Calls Tryz.prog 31 #[u,v] w fun e w'=>e = .returned (.bool (amongB xs y))∧Qt w w':=by
 obtain ⟨a,c,b,off,rfl,ha,hc,hl⟩:=h
 go_enter Tryz.func31,Tryz.ntmps31
 go_wp2
 go_loopw [5] (fun i wr=>∃ k:Nat,k≤xs.length∧i = .int .i64 k∧Hid (y ∉ xs.take k)∧Hid (Qt w wr)) (fun i _=>xs.length - (intOf i).toNat)
 case atStart=>exact ⟨0,by omega,rfl,by simp [Hid],Qt.refl _⟩
 case round=>
  obtain ⟨k,hk,rfl,hg,hq⟩:=hrel
  by_cases hlt:k < xs.length
  ·obtain rfl:=ha (by omega)
   obtain ⟨u1,hck,hi⟩:=hc.qt hq.out k hlt
   clear ha hc
   have H:=Lib.hid (refSame hi (h'.qt hq.out))
   clear hi
   by_cases hb:sameB (xs.getD k []) y=true
   ·rw [hb] at H
    have hy:=Lib.hid (of_decide_eq_true hb)
    clear hb
    go_wp2_with (go_at_call 60; refine H.out.mono ?_; rintro e w' ⟨rfl,n1,rfl⟩)
    go_ret
    refine ⟨ret_bool ?_,hq.out.trans (Qt.mk' _ _)⟩
    simp only [amongB,true_eq_decide_iff]
    exact List.mem_iff_getElem.2 ⟨k,hlt,by rw [← getD_eq hlt []]; exact hy.out⟩
   ·have hy:=Lib.hid (of_decide_eq_false (eq_false_of_ne_true hb))
    rw [eq_false_of_ne_true hb] at H
    clear hb
    go_wp2_with (go_at_call 60; refine H.out.mono ?_; rintro e w' ⟨rfl,n1,rfl⟩)
    go_roundw
    case rel=>
     refine ⟨k+1,by omega,by go_num,?_,hq.out.trans (Qt.mk' _ _)⟩
     show y ∉ xs.take (k+1)
     rw [take_snoc hlt [],List.mem_append,not_or]
     exact ⟨hg.out,by simpa using fun e=>hy.out e.symm⟩
    case measure=>simp [intOf]; omega
  ·clear ha hc
   go_wp2
   go_ret
   refine ⟨ret_bool ?_,hq.out⟩
   have:=hg.out
   rw [List.take_of_length_le (by omega)] at this
   simp [amongB,this]
end Go.Proofs.YtmikofeildnpdaaGreat

/- The walks of One, Times, identity, compose. -/
namespace Go.Proofs.YtmikofeildnpdaaGreat
open Go.RowKit
def oneL (n:Nat):List Int:=(List.range n).map Int.ofNat
theorem oneL_length (n:Nat):(oneL n).length=n:=by simp [oneL]
def Good (n:Nat) (b:List Int):Prop:=∀ j,j < b.length→0≤b.getD j 0∧b.getD j 0 < (n:Int)
def timesL (a b:List Int):List Int:=b.map fun q=>a.getD q.toNat 0
theorem timesL_length (a b:List Int):(timesL a b).length=b.length:=by simp [timesL]
theorem timesL_getD (a b:List Int) (k:Nat) (h:k < b.length):(timesL a b).getD k 0=a.getD (b.getD k 0).toNat 0:=by simp [timesL,h]
def fil (xs:List Int) (k:Nat):List Int:=xs.take k++List.replicate (xs.length - k) 0
theorem fil_zero (xs:List Int):fil xs 0=List.replicate xs.length 0:=by simp [fil]
theorem fil_end (xs:List Int):fil xs xs.length=xs:=by simp [fil]
theorem fil_set {xs:List Int} {k:Nat} (h:k < xs.length):(fil xs k).set k (xs.getD k 0)=fil xs (k+1):=by
 unfold fil
 rw [List.set_append,if_neg (by simp; omega),List.length_take,Nat.min_eq_left (by omega),Nat.sub_self,take_snoc h 0,
  show xs.length - k=(xs.length - (k+1))+1 by omega,List.replicate_succ,List.set_cons_zero,List.append_assoc,List.singleton_append]
def scat (idx vals out:List Int) (k:Nat):List Int:=(List.range k).foldl (fun o j=>o.set (idx.getD j 0).toNat (vals.getD j 0)) out
theorem scat_succ (idx vals out:List Int) (k:Nat):scat idx vals out (k+1)=(scat idx vals out k).set (idx.getD k 0).toNat (vals.getD k 0):=by
 simp [scat,List.range_succ]
theorem oneL_getD {n k:Nat} (h:k < n):(oneL n).getD k 0=(k:Int):=by simp [oneL,h]
theorem identityCall (n:Nat) (w:World) (hn:n≤1000000) :
  Calls Tryz.prog 66 #[.int .i64 n] w fun e w'=>∃ v,e = .returned v∧OI w' w.heap.size v n (oneL n)∧Below w.heap.size w w':=by
 go_enter Tryz.func66,Tryz.ntmps66
 go_wp2_with (at_make; refine wpMakeI rfl _ _ rfl n rfl rfl (by omega) (Nat.le_refl _) ?_; intro w1 ho _ hb)
 obtain ⟨g,hg⟩:=exF (w.heap.size)
 rw [← hg] at ho ⊢
 have hgl:w.heap.size≤g:=by omega
 replace hg:=Lib.hid hg
 go_loopw [9] (fun i wr=>∃ k:Nat,k≤n∧i = .int .i64 k∧OI wr g (.slice (some ⟨g,0,none⟩) n n) n (fil (oneL n) k)∧Below w.heap.size w wr) (fun i _=>n - (intOf i).toNat)
 case atStart=>exact ⟨0,by omega,rfl,by rw [fil_zero,oneL_length]; exact ho,hb⟩
 case round=>
  clear ho hb
  obtain ⟨k,hk,rfl,ho,hb⟩:=hrel
  by_cases hlt:k < n
  ·have hck:=ho.cell hlt
   have hfk:=ho.free k
   have hst:=ho.store k k
   have e1:=Lib.hid (fil_set (xs:=oneL n) (k:=k) (by rw [oneL_length]; exact hlt))
   go_wp2
   go_roundw
   case rel=>exact ⟨k+1,by omega,by go_num,by rw [← e1.out,oneL_getD hlt]; exact hst.1,hb.setCell (by simpa using hgl) _⟩
   case measure=>simp [intOf]; omega
  ·obtain rfl:k=n:=by omega
   go_wp2
   go_ret
   refine ⟨_,rfl,?_,hb⟩
   have:=fil_end (oneL k)
   rw [oneL_length] at this
   rw [this] at ho
   exact ho.base hgl
theorem composeCall {w:World} {u v:Value} {a b:List Int} (h:Ints w u a) (h':Ints w v b) (hG:Good a.length b) (hn:b.length≤1000000) :
  Calls Tryz.prog 68 #[u,v] w fun e w'=>∃ r,e = .returned r∧OI w' w.heap.size r b.length (timesL a b)∧Below w.heap.size w w':=by
 obtain ⟨aa,ac,ab,ao,rfl,ha,hca,hla⟩:=h
 obtain ⟨ba,bc,bb,bo,rfl,hb',hcb,hlb⟩:=h'
 go_enter Tryz.func68,Tryz.ntmps68
 go_wp2_with (at_make; refine wpMakeI rfl _ _ rfl b.length rfl rfl (by omega) (Nat.le_refl _) ?_; intro w1 ho _ hb)
 obtain ⟨g,hg⟩:=exF (w.heap.size)
 rw [← hg] at ho ⊢
 have hgl:w.heap.size≤g:=by omega
 replace hg:=Lib.hid hg
 go_loopw [13] (fun i wr=>∃ k:Nat,k≤b.length∧i = .int .i64 k∧OI wr g (.slice (some ⟨g,0,none⟩) b.length b.length) b.length (fil (timesL a b) k)∧Below w.heap.size w wr) (fun i _=>b.length - (intOf i).toNat)
 case atStart=>exact ⟨0,by omega,rfl,by rw [fil_zero,timesL_length]; exact ho,hb⟩
 case round=>
  clear ho hb
  obtain ⟨k,hk,rfl,ho,hb⟩:=hrel
  by_cases hlt:k < b.length
  ·obtain ⟨g1,g2⟩:=hG k hlt
   obtain rfl:=ha (by omega)
   obtain rfl:=hb' (by omega)
   have hcb':=hcb.keep hb k hlt
   have hcv:=hca.keep hb (b.getD k 0).toNat (by omega)
   have e1:=Lib.hid (timesL_getD a b k hlt)
   have e2:=Lib.hid (fil_set (xs:=timesL a b) (k:=k) (by rw [timesL_length]; exact hlt))
   have hck:=ho.cell hlt
   have hfk:=ho.free k
   clear ha hb' hca hcb hG
   obtain ⟨q,hq⟩:=exE (b.getD k 0)
   rw [hq] at hcb' hcv g1 g2 e1
   obtain ⟨r,hr⟩:=exE (a.getD q.toNat 0)
   rw [hr] at hcv e1
   clear hq hr
   have hst:=ho.store k r
   go_wp2
   go_roundw
   case rel=>exact ⟨k+1,by omega,by go_num,by rw [← e2.out,e1.out]; exact hst.1,hb.setCell (by simpa using hgl) _⟩
   case measure=>simp [intOf]; omega
  ·obtain rfl:k=b.length:=by omega
   clear ha hb' hca hcb hG
   go_wp2
   go_ret
   refine ⟨_,rfl,?_,hb⟩
   have:=fil_end (timesL a b)
   rw [timesL_length] at this
   rw [this] at ho
   exact ho.base hgl
end Go.Proofs.YtmikofeildnpdaaGreat

/- The walks of slices.Equal, Index, Contains, Compare, cmp.Compare, number, gcd. -/
namespace Go.Proofs.YtmikofeildnpdaaGreat
open Go.RowKit
theorem slEqual {w:World} {u v:Value} {xs ys:List Int} (h:Ints w u xs) (h':Ints w v ys) :
  Calls Tryz.prog 171 #[u,v] w fun e w'=>e = .returned (.bool (sameB xs ys))∧Qt w w':=by
 obtain ⟨a,c,b,off,rfl,ha,hc,hl⟩:=h
 obtain ⟨a',c',b',off',rfl,ha',hc',hl'⟩:=h'
 by_cases h1:xs.length=ys.length
 ·have h1':((xs.length:Int) != (ys.length:Int))=false:=by simp; omega
  have h1:=Lib.hid h1
  go_enter Tryz.func171,Tryz.ntmps171
  go_wp2
  go_loopw [13] (fun i wr=>∃ k:Nat,k≤xs.length∧i = .int .i64 k∧Hid (xs.take k=ys.take k)∧Hid (Qt w wr)) (fun i _=>xs.length - (intOf i).toNat)
  case atStart=>exact ⟨0,by omega,rfl,by simp [Hid],Qt.refl _⟩
  case round=>
   obtain ⟨k,hk,rfl,hg,hq⟩:=hrel
   by_cases hlt:k < xs.length
   ·have hlt':k < ys.length:=by have:=h1.out; omega
    obtain rfl:=ha (by omega)
    obtain rfl:=ha' (by omega)
    have hck:=hc.qt hq.out k hlt
    have hck':=hc'.qt hq.out k hlt'
    clear ha ha' hc hc'
    go_wp2
    go_quiet (fail)
    go_wp2
    ·go_ret
     have he:=‹(xs[k] != ys[k])=true›
     refine ⟨ret_bool ?_,hq.out.trans (Qt.mk' _ _)⟩
     have he':xs[k] ≠ ys[k]:=by simpa using he
     have:xs ≠ ys:=fun e=>he' (by subst e; rfl)
     simp [sameB,this]
    ·have he:=‹(xs[k] != ys[k])=false›
     go_roundw
     case rel=>
      refine ⟨k+1,by omega,by go_num,?_,hq.out.trans (Qt.mk' _ _)⟩
      show xs.take (k+1)=ys.take (k+1)
      rw [take_snoc hlt 0,take_snoc hlt' 0,hg.out,getD_eq hlt,getD_eq hlt']
      have he':xs[k]=ys[k]:=by simpa using he
      rw [he']
     case measure=>simp [intOf]; omega
   ·clear ha hc ha' hc'
    go_wp2
    go_ret
    refine ⟨ret_bool ?_,hq.out⟩
    have:=hg.out
    have hh:=h1.out
    rw [List.take_of_length_le (by omega),List.take_of_length_le (by omega)] at this
    simp [sameB,this]
 ·have h1':((xs.length:Int) != (ys.length:Int))=true:=by simp; omega
  clear ha hc ha' hc'
  go_enter Tryz.func171,Tryz.ntmps171
  go_wp2
  go_ret
  refine ⟨ret_bool ?_,Qt.refl _⟩
  have:xs ≠ ys:=fun e=>h1 (by rw [e])
  simp [sameB,this]
theorem idxGo_step {xs:List Int} {x:Int} {k:Nat} (h:k < xs.length):idxGo x k (xs.drop k)=if x=xs[k] then (k:Int) else idxGo x (k+1) (xs.drop (k+1)):=by
 rw [drop_cons h 0,idxGo,getD_eq h]
theorem idxGo_end {xs:List Int} {x:Int} {k:Nat} (h : ¬ k < xs.length):idxGo x k (xs.drop k) = -1:=by
 rw [List.drop_eq_nil_of_le (by omega),idxGo]
theorem slIndex {w:World} {v:Value} {xs:List Int} (x:Int) (h:Ints w v xs) :
  Calls Tryz.prog 72 #[v,.int .i64 x] w fun e w'=>e = .returned (.int .i64 (idxI xs x))∧Qt w w':=by
 obtain ⟨a,c,b,off,rfl,ha,hc,hl⟩:=h
 go_enter Tryz.func72,Tryz.ntmps72
 go_wp2
 go_loopw [8] (fun i wr=>∃ k:Nat,k≤xs.length∧i = .int .i64 k∧Hid (idxGo x k (xs.drop k)=idxI xs x)∧Hid (Qt w wr)) (fun i _=>xs.length - (intOf i).toNat)
 case atStart=>exact ⟨0,by omega,rfl,by simp [Hid,idxI],Qt.refl _⟩
 case round=>
  obtain ⟨k,hk,rfl,hg,hq⟩:=hrel
  by_cases hlt:k < xs.length
  ·obtain rfl:=ha (by omega)
   have hck:=hc.qt hq.out k hlt
   have hst:=Lib.hid (idxGo_step (x:=x) hlt)
   clear ha hc
   go_wp2
   ·go_ret
    have he:=‹(x == xs[k])=true›
    exact ⟨ret_int (by rw [← hg.out,hst.out,if_pos (by simpa using he)]),hq.out⟩
   ·have he:=‹(x == xs[k])=false›
    go_roundw
    case rel=>exact ⟨k+1,by omega,by go_num,by show _=_; rw [← hg.out,hst.out,if_neg (by simpa using he)],hq⟩
    case measure=>simp [intOf]; omega
  ·have hst:=Lib.hid (idxGo_end (x:=x) hlt)
   clear ha hc
   go_wp2
   go_ret
   exact ⟨ret_int (by rw [← hg.out,hst.out]),hq.out⟩
theorem idxGo_ge (xs:List Int) (x:Int):∀ k,(0≤idxGo x k xs)=(x∈xs):=by
 induction xs with
 | nil=>intro k; simp [idxGo]
 | cons y r ih=>intro k; unfold idxGo; by_cases h:x=y <;> simp [h,ih]
theorem slContains {w:World} {v:Value} {xs:List Int} (x:Int) (h:Ints w v xs) :
  Calls Tryz.prog 28 #[v,.int .i64 x] w fun e w'=>e = .returned (.bool (hasB xs x))∧Qt w w':=by
 have H:=Lib.hid (slIndex x h)
 clear h
 have hi:=Lib.hid (idxGo_ge xs x 0)
 go_enter Tryz.func28,Tryz.ntmps28
 go_wp2_with (go_at_call 72; refine H.out.mono ?_; rintro e w' ⟨rfl,hq⟩)
 go_ret
 exact ⟨ret_bool (by unfold hasB; rw [← decide_eq_decide.2 (Iff.of_eq hi.out)]; rfl),hq⟩
theorem drop_nil {l:List Int} {k:Nat} (h : ¬ k < l.length):l.drop k = []:=List.drop_eq_nil_of_le (by omega)
theorem cmpL_step {xs ys:List Int} {k:Nat} (h:k < xs.length) (h':k < ys.length) :
  cmpL (xs.drop k) (ys.drop k)=if cmpI xs[k] ys[k]=0 then cmpL (xs.drop (k+1)) (ys.drop (k+1)) else cmpI xs[k] ys[k]:=by
 rw [drop_cons h 0,drop_cons h' 0,cmpL,getD_eq h,getD_eq h']
theorem cmpL_gt {xs ys:List Int} {k:Nat} (h:k < xs.length) (h' : ¬ k < ys.length):cmpL (xs.drop k) (ys.drop k)=1:=by
 rw [drop_cons h 0,drop_nil (l:=ys) h',cmpL]
theorem cmpL_lt {xs ys:List Int} {k:Nat} (h : ¬ k < xs.length) (h':k < ys.length):cmpL (xs.drop k) (ys.drop k) = -1:=by
 rw [drop_cons h' 0,drop_nil (l:=xs) h,cmpL]
theorem cmpL_eq {xs ys:List Int} {k:Nat} (h : ¬ k < xs.length) (h' : ¬ k < ys.length):cmpL (xs.drop k) (ys.drop k)=0:=by
 rw [drop_nil (l:=ys) h',drop_nil (l:=xs) h,cmpL]
theorem slCompare {w:World} {u v:Value} {xs ys:List Int} (h:Ints w u xs) (h':Ints w v ys) :
  Calls Tryz.prog 70 #[u,v] w fun e w'=>e = .returned (.int .i64 (cmpL xs ys))∧Qt w w':=by
 obtain ⟨a,c,b,off,rfl,ha,hc,hl⟩:=h
 obtain ⟨a',c',b',off',rfl,ha',hc',hl'⟩:=h'
 go_enter Tryz.func70,Tryz.ntmps70
 go_wp2
 go_loopw [11] (fun i wr=>∃ k:Nat,k≤xs.length∧k≤ys.length∧i = .int .i64 k∧Hid (cmpL (xs.drop k) (ys.drop k)=cmpL xs ys)∧Hid (Qt w wr)) (fun i _=>xs.length - (intOf i).toNat)
 case atStart=>exact ⟨0,by omega,by omega,rfl,by simp [Hid],Qt.refl _⟩
 case round=>
  obtain ⟨k,hk,hk',rfl,hg,hq⟩:=hrel
  by_cases hlt:k < xs.length
  ·obtain rfl:=ha (by omega)
   have hck:=hc.qt hq.out k hlt
   by_cases hlt':k < ys.length
   ·obtain rfl:=ha' (by omega)
    have hck':=hc'.qt hq.out k hlt'
    have hst:=Lib.hid (cmpL_step hlt hlt')
    clear ha ha' hc hc'
    by_cases hz:cmpI xs[k] ys[k]=0
    ·have hz':(cmpI xs[k] ys[k] != 0)=false:=by simp [hz]
     have hz:=Lib.hid hz
     go_wp2_with (go_at_call 111; refine (cmpInt _ _ _).mono ?_; rintro e w' ⟨rfl,rfl⟩)
     go_roundw
     case rel=>exact ⟨k+1,by omega,by omega,by go_num,by show _=_; rw [← hg.out,hst.out,if_pos hz.out],hq⟩
     case measure=>simp [intOf]; omega
    ·have hz':(cmpI xs[k] ys[k] != 0)=true:=by simp [hz]
     have hz:=Lib.hid hz
     go_wp2_with (go_at_call 111; refine (cmpInt _ _ _).mono ?_; rintro e w' ⟨rfl,rfl⟩)
     go_ret
     exact ⟨ret_int (by rw [← hg.out,hst.out,if_neg hz.out]),hq.out⟩
   ·have hst:=Lib.hid (cmpL_gt hlt hlt')
    clear ha ha' hc hc'
    go_wp2
    go_ret
    exact ⟨ret_int (by rw [← hg.out,hst.out]),hq.out⟩
  ·clear ha ha' hc hc'
   by_cases hlt':k < ys.length
   ·have hst:=Lib.hid (cmpL_lt hlt hlt')
    go_wp2
    go_ret
    exact ⟨ret_int (by rw [← hg.out,hst.out]),hq.out⟩
   ·have hst:=Lib.hid (cmpL_eq hlt hlt')
    go_wp2
    go_ret
    exact ⟨ret_int (by rw [← hg.out,hst.out]),hq.out⟩
def numE (n:Int):Int:=if n < 1∨5 < n then 2 else 0
theorem number (n:Int) (w:World):Calls Tryz.prog 64 #[.int .i64 n] w fun e w'=>e = .returned (.int .i64 (numE n))∧w=w':=by
 by_cases h1:n < 1
 ·go_enter Tryz.func64,Tryz.ntmps64
  go_wp2
  go_ret
  exact ⟨ret_int (by simp [numE,h1]),rfl⟩
 ·have h1':decide (n < 1)=false:=by simpa using h1
  by_cases h2:5 < n
  ·go_enter Tryz.func64,Tryz.ntmps64
   go_wp2
   go_ret
   exact ⟨ret_int (by simp [numE,h2]),rfl⟩
  ·go_enter Tryz.func64,Tryz.ntmps64
   go_wp2
   go_ret
   exact ⟨ret_int (by simp [numE,h1,h2]),rfl⟩
end Go.Proofs.YtmikofeildnpdaaGreat

/- The walk of permutation.Check. -/
namespace Go.Proofs.YtmikofeildnpdaaGreat
open Go.RowKit
def Fl (w:World) (B n:Nat) (f:Nat→Bool):Prop:=∃ cur E,w.heap[B]? = some (.cells cur E (0,0))∧cur.size=n∧∀ p,p < n→cur[p]? = some (.bool (f p))
theorem Fl.cell {w:World} {B n:Nat} {f:Nat→Bool} (h:Fl w B n f) {p:Nat} (hp:p < n):w.cell? ⟨B,p,none⟩=some (.bool (f p)):=by
 obtain ⟨cur,E,h1,h2,h3⟩:=h
 rw [cell_of_row w B p cur E (0,0) h1]; exact h3 p hp
theorem Fl.free {w:World} {B n:Nat} {f:Nat→Bool} (h:Fl w B n f) (p:Nat):w.frozen? ⟨B,p,none⟩=false:=by
 obtain ⟨cur,E,h1,h2,h3⟩:=h
 exact frozen_of_row w B p cur E h1
theorem Fl.set {w:World} {B n:Nat} {f f':Nat→Bool} (h:Fl w B n f) (p:Nat) (b:Bool) (hf:∀ q,q < n→f' q=if q=p then b else f q) :
  Fl (w.setCell ⟨B,p,none⟩ (.bool b)) B n f':=by
 obtain ⟨cur,E,h1,h2,h3⟩:=h
 refine ⟨cur.setIfInBounds p (.bool b),E,heap_setCell_same w B p cur E _ h1,by simpa using h2,fun q hq=>?_⟩
 rw [hf q hq,Array.getElem?_setIfInBounds]
 by_cases e:p=q
 ·subst e; rw [if_pos rfl,if_pos (by omega),if_pos rfl]
 ·rw [if_neg e,if_neg (fun h=>e h.symm)]; exact h3 q hq
theorem Fl.new {w:World} {n:Nat} {E:TypeId} {cur:Array Value} (h2:cur.size=n) {f:Nat→Bool} (h3:∀ p,p < n→cur[p]? = some (.bool (f p))) :
  Fl (w.alloc (.cells cur E)) w.heap.size n f:=⟨cur,E,heap_alloc_new w _,h2,h3⟩
theorem chk_step1 {xs:List Int} {k:Nat} (h:k < xs.length) {x:Int} (hx:xs.getD k 0=x) (hb:x < 0∨(xs.length:Int)≤x):chkGo xs.length (xs.take k) (xs.drop k)=2:=by
 rw [chkGo_step h,hx,if_pos hb]
theorem chk_step2 {xs:List Int} {k:Nat} (h:k < xs.length) {x:Int} (hx:xs.getD k 0=x) (hb : ¬ (x < 0∨(xs.length:Int)≤x)) (hm:decide (((x.toNat:Nat):Int)∈xs.take k)=true):chkGo xs.length (xs.take k) (xs.drop k)=7:=by
 rw [chkGo_step h,hx,if_neg hb,if_pos]
 rw [show ((x.toNat:Nat):Int)=x by omega] at hm
 exact of_decide_eq_true hm
theorem chk_step3 {xs:List Int} {k:Nat} (h:k < xs.length) {x:Int} (hx:xs.getD k 0=x) (hb : ¬ (x < 0∨(xs.length:Int)≤x)) (hm:decide (((x.toNat:Nat):Int)∈xs.take k)=false) :
  chkGo xs.length (xs.take k) (xs.drop k)=chkGo xs.length (xs.take (k+1)) (xs.drop (k+1)):=by
 rw [chkGo_step h,hx,if_neg hb,if_neg]
 rw [show ((x.toNat:Nat):Int)=x by omega] at hm
 exact of_decide_eq_false hm
theorem check0 {w:World} {v:Value} {xs:List Int} (h:Ints w v xs) (h0:0 < xs.length) (h5:xs.length≤5) :
  Calls Tryz.prog 65 #[v] w fun e w'=>e = .returned (.int .i64 (chk xs))∧Below w.heap.size w w':=by
 obtain ⟨a,c,b,off,rfl,ha,hc,hl⟩:=h
 obtain rfl:=ha h0
 clear ha
 have hE:numE (xs.length:Int)=0:=by unfold numE; rw [if_neg (by omega)]
 have hchk:=Lib.hid (show chk xs=chkGo xs.length [] xs by rw [chk,if_neg (by omega)])
 have H:=Lib.hid (number (xs.length:Int))
 rw [hE] at H
 clear hE
 go_enter Tryz.func65,Tryz.ntmps65
 go_wp2_with (go_at_call 64; refine (H.out _).mono ?_; rintro e w' ⟨rfl,rfl⟩)
 have hfl:Fl (w.alloc (Obj.cells #[Value.bool false,Value.bool false,Value.bool false,Value.bool false,Value.bool false] 163)) w.heap.size 5 (fun p=>decide ((p:Int)∈xs.take 0)):=
  Fl.new rfl (by intro p hp; match p,hp with | 0,_=>simp | 1,_=>simp | 2,_=>simp | 3,_=>simp | 4,_=>simp)
 have hbl:Below w.heap.size w (w.alloc (Obj.cells #[Value.bool false,Value.bool false,Value.bool false,Value.bool false,Value.bool false] 163)):=(Below.refl _ _).alloc (Nat.le_refl _) _
 obtain ⟨B,hB⟩:=exF (w.heap.size)
 rw [← hB] at hfl ⊢
 have hBl:w.heap.size≤B:=by omega
 replace hB:=Lib.hid hB
 obtain ⟨w1,hw1⟩:=exF (w.alloc (Obj.cells #[Value.bool false,Value.bool false,Value.bool false,Value.bool false,Value.bool false] 163))
 rw [← hw1] at hfl hbl ⊢
 clear hw1
 go_loopw [15] (fun i wr=>∃ k:Nat,k≤xs.length∧i = .int .i64 k∧Hid (chkGo xs.length (xs.take k) (xs.drop k)=chk xs)∧Fl wr B 5 (fun p=>decide ((p:Int)∈xs.take k))∧Below w.heap.size w wr) (fun i _=>xs.length - (intOf i).toNat)
 case atStart=>exact ⟨0,by omega,rfl,hchk.out.symm,hfl,hbl⟩
 case round=>
  clear hfl hbl
  obtain ⟨k,hk,rfl,hg,hf,hb⟩:=hrel
  by_cases hlt:k < xs.length
  ·have hck:=hc.keep hb k hlt
   clear hc
   obtain ⟨x,hx⟩:=exE (xs.getD k 0)
   rw [hx] at hck
   replace hx:=Lib.hid hx
   by_cases hbad:x < 0∨(xs.length:Int)≤x
   ·have hr:=Lib.hid (chk_step1 hlt hx.out hbad)
    clear hf
    by_cases hneg:x < 0
    ·go_wp2
     go_ret
     exact ⟨ret_int (by rw [← hg.out,hr.out]),hb⟩
    ·have hneg':decide (x < 0)=false:=by simpa using hneg
     have hbad':decide ((xs.length:Int)≤x)=true:=by simp; omega
     go_wp2
     go_ret
     exact ⟨ret_int (by rw [← hg.out,hr.out]),hb⟩
   ·have hx0:0≤x:=by omega
    have hxl:x < xs.length:=by omega
    have hneg':decide (x < 0)=false:=by simp; omega
    have hbad':decide ((xs.length:Int)≤x)=false:=by simp; omega
    have hcs:=hf.cell (p:=x.toNat) (by omega)
    have hfs:=hf.free x.toNat
    obtain ⟨s,hs⟩:=exE (decide (((x.toNat:Nat):Int)∈xs.take k))
    simp only [hs] at hcs
    cases s with
    | true=>
     have hr:=Lib.hid (chk_step2 hlt hx.out hbad hs)
     clear hs hbad
     go_wp2
     go_ret
     exact ⟨ret_int (by rw [← hg.out,hr.out]),hb⟩
    | false=>
     have hr:=Lib.hid (chk_step3 hlt hx.out hbad hs)
     have hset:=hf.set (f':=fun p=>decide ((p:Int)∈xs.take (k+1))) x.toNat true (by
      intro q hq
      rw [take_snoc hlt 0,hx.out]
      by_cases e:q=x.toNat
      ·subst e; rw [if_pos rfl]; simp; right; omega
      ·rw [if_neg e]
       rw [decide_eq_decide,List.mem_append,List.mem_singleton]
       constructor
       ·rintro (h | h)
        ·exact h
        ·exfalso; omega
       ·exact .inl)
     clear hs hbad hf
     go_wp2
     go_roundw
     case rel=>exact ⟨k+1,by omega,by go_num,by show _=_; rw [← hg.out,hr.out],hset,hb.setCell (by simpa using hBl) _⟩
     case measure=>simp [intOf]; omega
  ·have hst:=Lib.hid (chkGo_end hlt)
   clear hc hf
   go_wp2
   go_ret
   exact ⟨ret_int (by rw [← hg.out,hst.out]),hb⟩
theorem check {w:World} {v:Value} {xs:List Int} (h:Ints w v xs) :
  Calls Tryz.prog 65 #[v] w fun e w'=>e = .returned (.int .i64 (chk xs))∧Below w.heap.size w w':=by
 by_cases h15:0 < xs.length∧xs.length≤5
 ·exact check0 h h15.1 h15.2
 ·obtain ⟨a,c,b,off,rfl,ha,hc,hl⟩:=h
  clear ha hc
  have hE:numE (xs.length:Int)=2:=by unfold numE; rw [if_pos (by omega)]
  have hchk:=Lib.hid (show chk xs=2 by rw [chk,if_pos (by omega)])
  have H:=Lib.hid (number (xs.length:Int))
  rw [hE] at H
  clear hE
  go_enter Tryz.func65,Tryz.ntmps65
  go_wp2_with (go_at_call 64; refine (H.out _).mono ?_; rintro e w' ⟨rfl,rfl⟩)
  go_ret
  exact ⟨ret_int hchk.out.symm,Below.refl _ _⟩
end Go.Proofs.YtmikofeildnpdaaGreat

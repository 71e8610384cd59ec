/- Texts of this claim, put together: Own2 Wa Wd Wb. -/
import Derived.Test.YtmikofeildnpdaaGreatKUe
import Derived.Laws.AppendOwnNone
import Derived.Test.YtmikofeildnpdaaGreatKUd

set_option maxRecDepth 100000
set_option maxHeartbeats 12800000
/- Rows of slices of ints that a call makes itself; appending whole rows. -/
namespace Go.Proofs.YtmikofeildnpdaaGreat
open Go.RowKit
theorem elemSl:ElemOK Tryz.prog 39 25 (.slice none 0 0) 24:=⟨by kernel_rfl,by kernel_rfl,rfl⟩
def SrcOf (w:World) (u:Value) (news:List Value):Prop:=
 (u = .slice none 0 0∧news = [])∨∃ ad c,u = .slice (some ad) news.length c∧(∀ j x,news[j]? = some x→w.cell? (ad.add j)=some x)∧∀ x∈news,x.oneCell'=true
theorem SrcOf.own {w:World} {B:Nat} {E:TypeId} {v:Value} {n:Nat} {vs:List Value} (h:w.ownsRow B E 1 v n vs) (h1:∀ x∈vs,x.oneCell'=true):SrcOf w v vs:=by
 rcases h.2 with ⟨h',hn⟩ | ⟨g,cap,cur,hv,hb,hg,hr⟩
 ·exact .inl ⟨h',List.length_eq_zero_iff.1 (by have:=h.1; omega)⟩
 ·have hl:vs.length=n:=by have:=h.1; omega
  refine .inr ⟨⟨g,0,none⟩,cap,by rw [hv,hl],?_,h1⟩
  exact h.cells (g:=g) (by rw [hv]; rfl)
theorem wpAppMany {P:Program} {T E:TypeId} {z:Value} {bytes:Nat} (hE:ElemOK P T E z bytes) (hby:bytes≤64) {w:World}
  {ops:Array Oper} {rest:List Oper} {o:Oper} {a:Act} {Q:Exit→Act→World→Prop} (hgd:o.guard=none) (s x:Operand)
  (ho:o.op = .call { callee:=.builtin .append,args:=#[s,x],argTypes:=#[T,T] })
  {B:Nat} {v:Value} {n:Nat} {xs:List Value} (hs:a.eval s=v) (hown:w.ownsRow B E 1 v n xs) {u:Value} {news:List Value} (hx:a.eval x=u) (hsrc:SrcOf w u news)
  (hn:n+news.length≤1000000000000) (hB:B≤w.heap.size)
  (h:∀ v' w',w'.ownsRow B E 1 v' (n+news.length) (xs++news)→w.grownBy w' v.ownBlock→Below B w w'→wpList P ops Q rest (a.put o.dst v') w') :
  wpList P ops Q (o::rest) a w:=by
 obtain ⟨i0,hi,hz0,hz1,hz2⟩:=info_parts hE.2.1
 rcases hsrc with ⟨rfl,rfl⟩ | ⟨ad,c,rfl,hc,h1⟩
 ·refine wpList_append_own_none hgd s x T ho B E i0 1 hE.1 hi v n xs hs hown hx ?_
  exact h v w (by simpa using hown) (World.grownBy.refl _ _) (Below.refl _ _)
 ·refine wpList_append_own w hgd s x T ho B E i0 z 1 bytes hE.1 hi hz0 hz1 hz2 (by rw [hE.2.2]; rfl) (by decide) v n xs hs hown ad news.length c news hx (by omega) hc h1 (by unfold maxLen; omega) ?_ hB fun v' w' h1 h2 _=>?_
  ·have:(n+news.length) * bytes≤1000000000000 * 64:=Nat.mul_le_mul hn hby
   omega
  ·exact h v' w' h1 h2 ((Below.refl B w).grown h2 hB (fun k hk=>(hown.lt k hk).1))
theorem OI.otherO {w w':World} {B B':Nat} {u v:Value} {n k:Nat} {xs:List Int} {vs:List Value} (h:OI w B u n xs) (ho:w.ownsRow B' 25 1 v k vs) (hg:w.grownBy w' v.ownBlock):OI w' B u n xs:=by
 refine ⟨h.1,?_⟩
 rcases h.2 with h' | ⟨g,cap,cur,h1,h2,h3,h4⟩
 ·exact .inl h'
 ·refine .inr ⟨g,cap,cur,h1,h2,(hg.block g (Array.getElem?_eq_some_iff.1 h3).1 ?_).trans h3,h4⟩
  intro e
  rcases ho.2 with ⟨rfl,_⟩ | ⟨g',cap',cur',rfl,_,h5,_⟩
  ·cases e
  ·simp only [Value.ownBlock,Option.some.injEq] at e
   subst e
   rw [h3] at h5
   simp at h5
def OII (w:World) (B:Nat) (v:Value) (n:Nat) (xss:List (List Int)):Prop:=
 ∃ vs,w.ownsRow B 25 1 v n vs∧xss.length=n∧(∀ x∈vs,x.oneCell'=true)∧∀ j,j < n→OI w 0 (vs.getD j undef) (xss.getD j []).length (xss.getD j [])
theorem OII.length {w:World} {B:Nat} {v:Value} {n:Nat} {xss:List (List Int)} (h:OII w B v n xss):xss.length=n:=by obtain ⟨_,_,h,_⟩:=h; exact h
theorem ownsRow_keep {w w':World} {B:Nat} {E:TypeId} {v:Value} {n:Nat} {xs:List Value} (h:w.ownsRow B E 1 v n xs) (hb:Below w.heap.size w w'):w'.ownsRow B E 1 v n xs:=by
 refine ⟨h.1,?_⟩
 rcases h.2 with h' | ⟨g,cap,cur,h1,h2,h3,h4⟩
 ·exact .inl h'
 ·exact .inr ⟨g,cap,cur,h1,h2,(hb.block g (Array.getElem?_eq_some_iff.1 h3).1).trans h3,h4⟩
theorem ownsRow_base {w:World} {B B':Nat} {E:TypeId} {v:Value} {n:Nat} {xs:List Value} (h:w.ownsRow B E 1 v n xs) (hb:B'≤B):w.ownsRow B' E 1 v n xs:=by
 refine ⟨h.1,?_⟩
 rcases h.2 with h' | ⟨g,cap,cur,h1,h2,h3⟩
 ·exact .inl h'
 ·exact .inr ⟨g,cap,cur,h1,by omega,h3⟩
theorem OII.keep {w w':World} {B:Nat} {v:Value} {n:Nat} {xss:List (List Int)} (h:OII w B v n xss) (hb:Below w.heap.size w w'):OII w' B v n xss:=by
 obtain ⟨vs,h1,h2,h4,h3⟩:=h
 exact ⟨vs,ownsRow_keep h1 hb,h2,h4,fun j hj=>(h3 j hj).keep hb⟩
theorem OII.base {w:World} {B B':Nat} {v:Value} {n:Nat} {xss:List (List Int)} (h:OII w B v n xss) (hb:B'≤B):OII w B' v n xss:=by
 obtain ⟨vs,h1,h2⟩:=h
 exact ⟨vs,ownsRow_base h1 hb,h2⟩
theorem OII.nil (w:World) (B:Nat):OII w B (.slice none 0 0) 0 []:=⟨[],World.ownsRow_nil w B 25 1,rfl,by simp,by simp⟩
theorem OII.intss {w:World} {B:Nat} {v:Value} {n:Nat} {xss:List (List Int)} (h:OII w B v n xss) (hn:n≤5864062014805) (hl:∀ x∈xss,x.length≤17592186044416):Intss w v xss:=by
 obtain ⟨vs,h1,rfl,_,h3⟩:=h
 have hvl:vs.length=xss.length:=by have:=h1.1; omega
 rcases h1.2 with ⟨rfl,h'⟩ | ⟨g,cap,cur,rfl,h2,h4,h5,h6,h7,h8⟩
 ·obtain rfl:xss = []:=List.length_eq_zero_iff.1 h'
  exact ⟨none,0,0,0,rfl,by simp,by intro j hj; simp at hj,by simp⟩
 ·refine ⟨_,cap,g,0,rfl,fun _=>rfl,fun j hj=>⟨vs.getD j undef,?_,(h3 j hj).ints ?_⟩,hn⟩
  ·rw [Nat.zero_add,cell_of_row w g j cur 25 (0,0) h4]
   have:(cur.toList.take (xss.length * 1))[j]? = some (vs.getD j undef):=by rw [h8]; simp [show j < vs.length by omega]
   rw [List.getElem?_take,if_pos (by omega)] at this
   simpa using this
  ·rw [getD_eq hj]; exact hl _ (List.getElem_mem hj)
theorem getD_append_left' {α:Type} {xs ys:List α} {j:Nat} (h:j < xs.length) (d:α):(xs++ys).getD j d=xs.getD j d:=by
 simp [List.getElem?_append_left h]
theorem getD_append_right' {α:Type} {xs ys:List α} {j:Nat} (h:xs.length≤j) (d:α):(xs++ys).getD j d=ys.getD (j - xs.length) d:=by
 simp [List.getElem?_append_right h]
theorem wpApp1S {w0:World} {u:Value} {x:List Int} {t:TypeId} {ops:Array Oper} {rest:List Oper} {o:Oper} {a:Act} {Q:Exit→Act→World→Prop} (hgd:o.guard=none) (s y:Operand)
  (ho:o.op = .call { callee:=.builtin .append,args:=#[s,y],argTypes:=#[39,39] })
  {B:Nat} {v:Value} {n:Nat} {xss:List (List Int)} (hs:a.eval s=v) (hown:OII w0 B v n xss) (hx:a.eval y = .slice (some ⟨w0.heap.size,0,none⟩) 1 1)
  (hu:OI w0 0 u x.length x) (hu1:u.oneCell'=true) (hn:n≤1000000000000) (hB:B≤w0.heap.size)
  (h:∀ v' w',OII w' B v' (n+1) (xss ++ [x])→Below B w0 w'→(∀ B' u' n' x',OI w0 B' u' n' x'→OI w' B' u' n' x')→wpList Tryz.prog ops Q rest (a.put o.dst v') w') :
  wpList Tryz.prog ops Q (o::rest) a (w0.alloc (.cells #[u] t)):=by
 obtain ⟨vs,h1,h2,h4,h3⟩:=hown
 have hvl:vs.length=n:=by have:=h1.1; omega
 refine wpApp1 elemSl (by decide) hgd s y ho hs h1 hx hu1 hn hB fun v' w' k1 k2 k3=>?_
 have ki:∀ B' u' n' x',OI w0 B' u' n' x'→OI w' B' u' n' x':=fun B' u' n' x' hh=>hh.otherO h1 k2
 refine h v' w' ⟨vs ++ [u],k1,by simp [h2],?_,fun j hj=>?_⟩ k3 ki
 ·intro y hy
  rcases List.mem_append.1 hy with hy | hy
  ·exact h4 y hy
  ·rw [List.mem_singleton.1 hy]; exact hu1
 ·by_cases hjn:j < n
  ·rw [getD_append_left' (by omega),getD_append_left' (by omega)]
   exact ki _ _ _ _ (h3 j hjn)
  ·obtain rfl:j=n:=by omega
   rw [getD_append_right' (by omega),getD_append_right' (by omega),hvl,h2,Nat.sub_self]
   exact ki _ _ _ _ hu
theorem wpAppManyS {w:World} {ops:Array Oper} {rest:List Oper} {o:Oper} {a:Act} {Q:Exit→Act→World→Prop} (hgd:o.guard=none) (s y:Operand)
  (ho:o.op = .call { callee:=.builtin .append,args:=#[s,y],argTypes:=#[39,39] })
  {B B2:Nat} {v v2:Value} {n m:Nat} {xss yss:List (List Int)} (hs:a.eval s=v) (hown:OII w B v n xss) (hx:a.eval y=v2) (hsrc:OII w B2 v2 m yss)
  (hn:n+m≤1000000000000) (hB:B≤w.heap.size)
  (h:∀ v' w',OII w' B v' (n+m) (xss++yss)→Below B w w'→(∀ B' u' n' x',OI w B' u' n' x'→OI w' B' u' n' x')→wpList Tryz.prog ops Q rest (a.put o.dst v') w') :
  wpList Tryz.prog ops Q (o::rest) a w:=by
 obtain ⟨vs,h1,h2,h4,h3⟩:=hown
 obtain ⟨us,g1,g2,g4,g3⟩:=hsrc
 have hvl:vs.length=n:=by have:=h1.1; omega
 obtain rfl:us.length=m:=by have:=g1.1; omega
 refine wpAppMany elemSl (by decide) hgd s y ho hs h1 hx (SrcOf.own g1 g4) hn hB fun v' w' k1 k2 k3=>?_
 have ki:∀ B' u' n' x',OI w B' u' n' x'→OI w' B' u' n' x':=fun B' u' n' x' hh=>hh.otherO h1 k2
 refine h v' w' ⟨vs++us,k1,by simp [h2,g2],?_,fun j hj=>?_⟩ k3 ki
 ·intro y hy
  rcases List.mem_append.1 hy with hy | hy
  ·exact h4 y hy
  ·exact g4 y hy
 ·by_cases hjn:j < n
  ·rw [getD_append_left' (by omega),getD_append_left' (by omega)]
   exact ki _ _ _ _ (h3 j hjn)
  ·rw [getD_append_right' (by omega),getD_append_right' (by omega),hvl,h2]
   exact ki _ _ _ _ (g3 (j - n) (by omega))
theorem oneCell_slice {w:World} {B:Nat} {v:Value} {n:Nat} {xs:List Int} (h:OI w B v n xs):v.oneCell'=true:=by
 rcases h.2 with ⟨rfl,_⟩ | ⟨g,cap,cur,rfl,_⟩ <;> rfl
theorem ints_oneCell (xs:List Int):∀ x∈xs.map (Value.int .i64),x.oneCell'=true:=by
 intro x hx; obtain ⟨y,_,rfl⟩:=List.mem_map.1 hx; rfl
theorem wpAppManyI {w:World} {ops:Array Oper} {rest:List Oper} {o:Oper} {a:Act} {Q:Exit→Act→World→Prop} (hgd:o.guard=none) (s x:Operand)
  (ho:o.op = .call { callee:=.builtin .append,args:=#[s,x],argTypes:=#[25,25] })
  {B B2:Nat} {v v2:Value} {n m:Nat} {xs ys:List Int} (hs:a.eval s=v) (hown:OI w B v n xs) (hx:a.eval x=v2) (hsrc:OI w B2 v2 m ys)
  (hn:n+m≤1000000000000) (hB:B≤w.heap.size)
  (h:∀ v' w',OI w' B v' (n+m) (xs++ys)→w.grownBy w' v.ownBlock→Below B w w'→wpList Tryz.prog ops Q rest (a.put o.dst v') w') :
  wpList Tryz.prog ops Q (o::rest) a w:=by
 obtain rfl:=hsrc.length
 refine wpAppMany elemInt (by decide) hgd s x ho hs hown hx (SrcOf.own hsrc (ints_oneCell ys)) (by simpa using hn) hB fun v' w' k1 k2 k3=>h v' w' ?_ k2 k3
 unfold OI; rw [List.map_append]; simpa using k1
end Go.Proofs.YtmikofeildnpdaaGreat

/- The walks of the reference's Check, has, Same, SameAll, Among. -/
namespace Go.Proofs.YtmikofeildnpdaaGreat
open Go.RowKit
theorem refCheck {w:World} {v:Value} {xs:List Int} (h:Ints w v xs) :
  Calls Tryz.prog 30 #[v] w fun e w'=>e = .returned (.int .i64 (chk xs))∧Qt w w':=by
 obtain ⟨a,c,b,off,rfl,ha,hc,hl⟩:=h
 by_cases h1:xs.length < 1
 ·have h1':decide ((xs.length:Int) < 1)=true:=by simp; omega
  clear ha hc
  go_enter Tryz.func30,Tryz.ntmps30
  go_wp2
  go_ret
  exact ⟨by simp [chk,h1],Qt.refl _⟩
 ·have h1':decide ((xs.length:Int) < 1)=false:=by simp; omega
  by_cases h2:5 < xs.length
  ·have h2':decide (5 < (xs.length:Int))=true:=by simp; omega
   clear ha hc
   go_enter Tryz.func30,Tryz.ntmps30
   go_wp2
   go_ret
   exact ⟨by simp [chk,h2],Qt.refl _⟩
  ·have h2':decide (5 < (xs.length:Int))=false:=by simp; omega
   obtain rfl:=ha (by omega)
   clear ha
   go_enter Tryz.func30,Tryz.ntmps30
   go_wp2
   go_loopw [3] (fun i wr=>∃ k:Nat,k≤xs.length∧i = .int .i64 k∧Hid (chkGo xs.length (xs.take k) (xs.drop k)=chk xs)∧Hid (Qt w wr)) (fun i _=>xs.length - (intOf i).toNat)
   case atStart=>exact ⟨0,by omega,rfl,by simp [Hid,chk,h1,h2],Qt.refl _⟩
   case round=>
    obtain ⟨k,hk,rfl,hg,n,rfl⟩:=hrel
    by_cases hlt:k < xs.length
    ·have hck:=hc k hlt
     have hst:=Lib.hid (chkGo_step hlt)
     go_wp2
     ·go_ret
      have h:=‹xs[k] < 0∨↑xs.length≤xs[k]›
      exact ⟨ret_int (by rw [← hg.out,hst.out,getD_eq hlt,if_pos h]),Qt.mk' _ _⟩
     ·have h:=‹0≤xs[k]∧xs[k] < ↑xs.length›
      obtain ⟨wo,rfl⟩:∃ wo:World,wo=w.drewN n:=⟨_,rfl⟩
      go_loopw [4] (fun j wr=>∃ m:Nat,m≤k∧j = .int .i64 m∧Hid (xs.getD k 0 ∉ xs.take m)∧Hid (Qt w wr)) (fun j _=>k - (intOf j).toNat)
      case atStart=>exact ⟨0,by omega,rfl,by simp [Hid],⟨n,rfl⟩⟩
      case round=>
       obtain ⟨m,hm,rfl,hnm,n1,rfl⟩:=hrel
       by_cases hmk:m < k
       ·have hcm:=hc m (by omega)
        go_wp2
        go_quiet (fail)
        go_wp2
        ·go_ret
         have he:=‹(xs[m]?.getD 0 == xs[k])=true›
         refine ⟨ret_int ?_,Qt.mk2 _ _ _⟩
         rw [← hg.out,hst.out,if_neg (by rw [getD_eq hlt]; omega),if_pos]
         exact mem_take_of hlt hmk (by simpa using he)
        ·have he:=‹(xs[m]?.getD 0 == xs[k])=false›
         go_roundw
         case rel=>
          refine ⟨m+1,by omega,by go_num,?_,⟨_,rfl⟩⟩
          have hne:xs.getD m 0 ≠ xs.getD k 0:=by rw [getD_eq hlt]; simpa using he
          show xs.getD k 0 ∉ xs.take (m+1)
          rw [take_snoc (by omega) 0,List.mem_append,not_or]
          exact ⟨hnm.out,by simpa using fun e=>hne e.symm⟩
         case measure=>simp [intOf]; omega
       ·obtain rfl:m=k:=by omega
        go_wp2
        go_roundw
        case rel=>
         refine ⟨m+1,by omega,by go_num,?_,⟨_,rfl⟩⟩
         show chkGo xs.length (xs.take (m+1)) (xs.drop (m+1))=chk xs
         rw [← hg.out,hst.out,if_neg (by rw [getD_eq hlt]; omega),if_neg hnm.out]
        case measure=>simp [intOf]; omega
     ·go_ret
      have h:=‹xs[k] < 0›
      exact ⟨ret_int (by rw [← hg.out,hst.out,getD_eq hlt,if_pos (.inl h)]),Qt.mk' _ _⟩
    ·have hst:=Lib.hid (chkGo_end hlt)
     go_wp2
     go_ret
     exact ⟨ret_int (by rw [← hg.out,hst.out]),Qt.mk' _ _⟩
theorem refHas02 {w:World} {v:Value} {xs:List Int} (x:Int) (h:Ints w v xs) :
  Calls Tryz.prog 143 #[v,.int .i64 x] w fun e w'=>e = .returned (.bool (hasB xs x))∧Qt w w':=by
 obtain ⟨a,c,b,off,rfl,ha,hc,hl⟩:=h
 go_enter Tryz.func143,Tryz.ntmps143
 go_wp2
 go_loopw [5] (fun i wr=>∃ k:Nat,k≤xs.length∧i = .int .i64 k∧Hid (x ∉ xs.take k)∧Hid (Qt w wr)) (fun i _=>xs.length - (intOf i).toNat)
 case atStart=>exact ⟨0,by omega,rfl,by simp [Hid],Qt.refl _⟩
 case round=>
  obtain ⟨k,hk,rfl,hg,n,rfl⟩:=hrel
  by_cases hlt:k < xs.length
  ·obtain rfl:=ha (by omega)
   have hck:=hc k hlt
   clear ha hc
   go_wp2
   ·go_ret
    have he:=‹(xs[k] == x)=true›
    refine ⟨ret_bool ?_,Qt.mk' _ _⟩
    simp only [hasB,true_eq_decide_iff]
    exact List.mem_iff_getElem.2 ⟨k,hlt,by simpa using he⟩
   ·have he:=‹(xs[k] == x)=false›
    go_roundw
    case rel=>
     refine ⟨k+1,by omega,by go_num,?_,⟨_,rfl⟩⟩
     show x ∉ xs.take (k+1)
     rw [take_snoc hlt 0,List.mem_append,not_or]
     refine ⟨hg.out,?_⟩
     rw [getD_eq hlt]
     simp at he ⊢
     exact fun e=>he e.symm
    case measure=>simp [intOf]; omega
  ·clear ha hc
   go_wp2
   go_ret
   refine ⟨ret_bool ?_,Qt.mk' _ _⟩
   have:=hg.out
   rw [List.take_of_length_le (by omega)] at this
   simp [hasB,this]
theorem refSame {w:World} {u v:Value} {xs ys:List Int} (h:Ints w u xs) (h':Ints w v ys) :
  Calls Tryz.prog 60 #[u,v] w fun e w'=>e = .returned (.bool (sameB xs ys))∧Qt w w':=by
 obtain ⟨a,c,b,off,rfl,ha,hc,hl⟩:=h
 obtain ⟨a',c',b',off',rfl,ha',hc',hl'⟩:=h'
 by_cases h1:xs.length=ys.length
 ·have h1':((xs.length:Int) != (ys.length:Int))=false:=by simp; omega
  have h1:=Lib.hid h1
  go_enter Tryz.func60,Tryz.ntmps60
  go_wp2
  go_loopw [5] (fun i wr=>∃ k:Nat,k≤xs.length∧i = .int .i64 k∧Hid (xs.take k=ys.take k)∧Hid (Qt w wr)) (fun i _=>xs.length - (intOf i).toNat)
  case atStart=>exact ⟨0,by omega,rfl,by simp [Hid],Qt.refl _⟩
  case round=>
   obtain ⟨k,hk,rfl,hg,n,rfl⟩:=hrel
   by_cases hlt:k < xs.length
   ·have hlt':k < ys.length:=by have:=h1.out; omega
    obtain rfl:=ha (by omega)
    obtain rfl:=ha' (by omega)
    have hck:=hc k hlt
    have hck':=hc' k hlt'
    clear ha ha' hc hc'
    go_wp2
    go_quiet (fail)
    go_wp2
    ·go_ret
     have he:=‹(xs[k] != ys[k])=true›
     refine ⟨ret_bool ?_,Qt.mk2 _ _ _⟩
     have he':xs[k] ≠ ys[k]:=by simpa using he
     have:xs ≠ ys:=fun e=>he' (by subst e; rfl)
     simp [sameB,this]
    ·have he:=‹(xs[k] != ys[k])=false›
     go_roundw
     case rel=>
      refine ⟨k+1,by omega,by go_num,?_,⟨_,rfl⟩⟩
      show xs.take (k+1)=ys.take (k+1)
      rw [take_snoc hlt 0,take_snoc hlt' 0,hg.out,getD_eq hlt,getD_eq hlt']
      have he':xs[k]=ys[k]:=by simpa using he
      rw [he']
     case measure=>simp [intOf]; omega
   ·clear ha hc ha' hc'
    go_wp2
    go_ret
    refine ⟨ret_bool ?_,Qt.mk' _ _⟩
    have:=hg.out
    have hh:=h1.out
    rw [List.take_of_length_le (by omega),List.take_of_length_le (by omega)] at this
    simp [sameB,this]
 ·have h1':((xs.length:Int) != (ys.length:Int))=true:=by simp; omega
  clear ha hc ha' hc'
  go_enter Tryz.func60,Tryz.ntmps60
  go_wp2
  go_ret
  refine ⟨ret_bool ?_,Qt.refl _⟩
  have:xs ≠ ys:=fun e=>h1 (by rw [e])
  simp [sameB,this]
theorem refSameAll {w:World} {u v:Value} {xs ys:List (List Int)} (h:Intss w u xs) (h':Intss w v ys) :
  Calls Tryz.prog 20 #[u,v] w fun e w'=>e = .returned (.bool (sameAllB xs ys))∧Qt w w':=by
 obtain ⟨a,c,b,off,rfl,ha,hc,hl⟩:=h
 obtain ⟨a',c',b',off',rfl,ha',hc',hl'⟩:=h'
 by_cases h1:xs.length=ys.length
 ·have h1':((xs.length:Int) != (ys.length:Int))=false:=by simp; omega
  have h1:=Lib.hid h1
  go_enter Tryz.func20,Tryz.ntmps20
  go_wp2
  go_loopw [5] (fun i wr=>∃ k:Nat,k≤xs.length∧i = .int .i64 k∧Hid (xs.take k=ys.take k)∧Hid (Qt w wr)) (fun i _=>xs.length - (intOf i).toNat)
  case atStart=>exact ⟨0,by omega,rfl,by simp [Hid],Qt.refl _⟩
  case round=>
   obtain ⟨k,hk,rfl,hg,hq⟩:=hrel
   by_cases hlt:k < xs.length
   ·have hlt':k < ys.length:=by have:=h1.out; omega
    obtain rfl:=ha (by omega)
    obtain rfl:=ha' (by omega)
    obtain ⟨u1,hck,hi⟩:=hc.qt hq.out k hlt
    obtain ⟨u2,hck',hi'⟩:=hc'.qt hq.out k hlt'
    clear ha ha' hc hc'
    have hb:sameB (xs.getD k []) (ys.getD k [])=true∨sameB (xs.getD k []) (ys.getD k [])=false:=by
     cases sameB (xs.getD k []) (ys.getD k []) <;> simp
    have hcall:∀ m,Calls Tryz.prog 60 #[u1,u2] (wr.drewN m) fun e w'=>e = .returned (.bool (sameB (xs.getD k []) (ys.getD k [])))∧Qt (wr.drewN m) w':=
     fun m=>refSame (hi.drew m) (hi'.drew m)
    have H:=Lib.hid hcall
    clear hcall hi hi'
    rcases hb with hb | hb
    ·rw [hb] at H
     go_wp2
     go_quiet ((go_at_call 60; exact Calls.quiet_of (H.out _)))
     go_wp2
     go_roundw
     case rel=>
      refine ⟨k+1,by omega,by go_num,?_,hq.out.trans (Qt.mk' _ _)⟩
      show xs.take (k+1)=ys.take (k+1)
      rw [take_snoc hlt [],take_snoc hlt' [],hg.out,of_decide_eq_true hb]
     case measure=>simp [intOf]; omega
    ·rw [hb] at H
     go_wp2
     go_quiet ((go_at_call 60; exact Calls.quiet_of (H.out _)))
     go_wp2
     go_ret
     refine ⟨ret_bool ?_,hq.out.trans (Qt.mk' _ _)⟩
     have:xs ≠ ys:=fun e=>of_decide_eq_false hb (by subst e; rfl)
     simp [sameAllB,this]
   ·clear ha hc ha' hc'
    go_wp2
    go_ret
    refine ⟨ret_bool ?_,hq.out⟩
    have:=hg.out
    have hh:=h1.out
    rw [List.take_of_length_le (by omega),List.take_of_length_le (by omega)] at this
    simp [sameAllB,this]
 ·have h1':((xs.length:Int) != (ys.length:Int))=true:=by simp; omega
  clear ha hc ha' hc'
  go_enter Tryz.func20,Tryz.ntmps20
  go_wp2
  go_ret
  refine ⟨ret_bool ?_,Qt.refl _⟩
  have:xs ≠ ys:=fun e=>h1 (by rw [e])
  simp [sameAllB,this]
theorem refAmong {w:World} {u v:Value} {xs:List (List Int)} {y:List Int} (h:Intss w u xs) (h':Ints w v y) :
  Calls Tryz.prog 31 #[u,v] w fun e w'=>e = .returned (.bool (amongB xs y))∧Qt w w':=by
 obtain ⟨a,c,b,off,rfl,ha,hc,hl⟩:=h
 go_enter Tryz.func31,Tryz.ntmps31
 go_wp2
 go_loopw [5] (fun i wr=>∃ k:Nat,k≤xs.length∧i = .int .i64 k∧Hid (y ∉ xs.take k)∧Hid (Qt w wr)) (fun i _=>xs.length - (intOf i).toNat)
 case atStart=>exact ⟨0,by omega,rfl,by simp [Hid],Qt.refl _⟩
 case round=>
  obtain ⟨k,hk,rfl,hg,hq⟩:=hrel
  by_cases hlt:k < xs.length
  ·obtain rfl:=ha (by omega)
   obtain ⟨u1,hck,hi⟩:=hc.qt hq.out k hlt
   clear ha hc
   have H:=Lib.hid (refSame hi (h'.qt hq.out))
   clear hi
   by_cases hb:sameB (xs.getD k []) y=true
   ·rw [hb] at H
    have hy:=Lib.hid (of_decide_eq_true hb)
    clear hb
    go_wp2_with (go_at_call 60; refine H.out.mono ?_; rintro e w' ⟨rfl,n1,rfl⟩)
    go_ret
    refine ⟨ret_bool ?_,hq.out.trans (Qt.mk' _ _)⟩
    simp only [amongB,true_eq_decide_iff]
    exact List.mem_iff_getElem.2 ⟨k,hlt,by rw [← getD_eq hlt []]; exact hy.out⟩
   ·have hy:=Lib.hid (of_decide_eq_false (eq_false_of_ne_true hb))
    rw [eq_false_of_ne_true hb] at H
    clear hb
    go_wp2_with (go_at_call 60; refine H.out.mono ?_; rintro e w' ⟨rfl,n1,rfl⟩)
    go_roundw
    case rel=>
     refine ⟨k+1,by omega,by go_num,?_,hq.out.trans (Qt.mk' _ _)⟩
     show y ∉ xs.take (k+1)
     rw [take_snoc hlt [],List.mem_append,not_or]
     exact ⟨hg.out,by simpa using fun e=>hy.out e.symm⟩
    case measure=>simp [intOf]; omega
  ·clear ha hc
   go_wp2
   go_ret
   refine ⟨ret_bool ?_,hq.out⟩
   have:=hg.out
   rw [List.take_of_length_le (by omega)] at this
   simp [amongB,this]
end Go.Proofs.YtmikofeildnpdaaGreat

/- The walks of One, Times, identity, compose. -/
namespace Go.Proofs.YtmikofeildnpdaaGreat
open Go.RowKit
def oneL (n:Nat):List Int:=(List.range n).map Int.ofNat
theorem oneL_succ (n:Nat):oneL (n+1)=oneL n ++ [(n:Int)]:=by simp [oneL,List.range_succ]
theorem oneL_length (n:Nat):(oneL n).length=n:=by simp [oneL]
theorem refOne (n:Nat) (w:World) (hn:n≤1000000) :
  Calls Tryz.prog 32 #[.int .i64 n] w fun e w'=>∃ v,e = .returned v∧OI w' w.heap.size v n (oneL n)∧Below w.heap.size w w':=by
 go_enter Tryz.func32,Tryz.ntmps32
 go_wp2
 go_loopw [3,4] (fun v i wr=>∃ k:Nat,k≤n∧i = .int .i64 k∧OI wr w.heap.size v k (oneL k)∧Below w.heap.size w wr) (fun _ i _=>n - (intOf i).toNat)
 case atStart=>exact ⟨0,by omega,rfl,OI.nil _ _,Below.refl _ _⟩
 case round=>
  obtain ⟨k,hk,rfl,ho,hb⟩:=hrel
  have hbs:=hb.size
  by_cases hlt:k < n
  ·go_wp2_with (at_builtin; refine wpAppI rfl _ _ rfl rfl ho rfl (by omega) hbs ?_; intro v' w1 ho' _ hb')
   go_roundw
   case rel=>exact ⟨k+1,by omega,by go_num,by rw [oneL_succ]; exact ho',hb.trans hb'⟩
   case measure=>simp [intOf]; omega
  ·obtain rfl:k=n:=by omega
   go_wp2
   go_ret
   exact ⟨_,rfl,ho,hb⟩
def Good (n:Nat) (b:List Int):Prop:=∀ j,j < b.length→0≤b.getD j 0∧b.getD j 0 < (n:Int)
def timesL (a b:List Int):List Int:=b.map fun q=>a.getD q.toNat 0
theorem timesL_length (a b:List Int):(timesL a b).length=b.length:=by simp [timesL]
theorem timesL_getD (a b:List Int) (k:Nat) (h:k < b.length):(timesL a b).getD k 0=a.getD (b.getD k 0).toNat 0:=by simp [timesL,h]
def fil (xs:List Int) (k:Nat):List Int:=xs.take k++List.replicate (xs.length - k) 0
theorem fil_zero (xs:List Int):fil xs 0=List.replicate xs.length 0:=by simp [fil]
theorem fil_end (xs:List Int):fil xs xs.length=xs:=by simp [fil]
theorem fil_set {xs:List Int} {k:Nat} (h:k < xs.length):(fil xs k).set k (xs.getD k 0)=fil xs (k+1):=by
 unfold fil
 rw [List.set_append,if_neg (by simp; omega),List.length_take,Nat.min_eq_left (by omega),Nat.sub_self,take_snoc h 0,
  show xs.length - k=(xs.length - (k+1))+1 by omega,List.replicate_succ,List.set_cons_zero,List.append_assoc,List.singleton_append]
def scat (idx vals out:List Int) (k:Nat):List Int:=(List.range k).foldl (fun o j=>o.set (idx.getD j 0).toNat (vals.getD j 0)) out
theorem scat_succ (idx vals out:List Int) (k:Nat):scat idx vals out (k+1)=(scat idx vals out k).set (idx.getD k 0).toNat (vals.getD k 0):=by
 simp [scat,List.range_succ]
theorem oneL_getD {n k:Nat} (h:k < n):(oneL n).getD k 0=(k:Int):=by simp [oneL,h]
theorem refTimes {w:World} {u v:Value} {a b:List Int} (h:Ints w u a) (h':Ints w v b) (hG:Good a.length b) (hn:b.length≤1000000) :
  Calls Tryz.prog 109 #[u,v] w fun e w'=>∃ r,e = .returned r∧OI w' w.heap.size r b.length (timesL a b)∧Below w.heap.size w w':=by
 obtain ⟨aa,ac,ab,ao,rfl,ha,hca,hla⟩:=h
 obtain ⟨ba,bc,bb,bo,rfl,hb',hcb,hlb⟩:=h'
 go_enter Tryz.func109,Tryz.ntmps109
 go_wp2
 go_loopw [5,6] (fun v i wr=>∃ k:Nat,k≤b.length∧i = .int .i64 k∧OI wr w.heap.size v k ((timesL a b).take k)∧Below w.heap.size w wr) (fun _ i _=>b.length - (intOf i).toNat)
 case atStart=>exact ⟨0,by omega,rfl,OI.nil _ _,Below.refl _ _⟩
 case round=>
  obtain ⟨k,hk,rfl,ho,hb⟩:=hrel
  have hbs:=hb.size
  by_cases hlt:k < b.length
  ·obtain ⟨g1,g2⟩:=hG k hlt
   obtain rfl:=ha (by omega)
   obtain rfl:=hb' (by omega)
   have hck:=hcb.keep hb k hlt
   have hcv:=hca.keep hb (b.getD k 0).toNat (by omega)
   have e1:=Lib.hid (timesL_getD a b k hlt)
   have e2:=Lib.hid (take_snoc (xs:=timesL a b) (k:=k) (by rw [timesL_length]; exact hlt) 0)
   clear ha hb' hca hcb hG
   obtain ⟨q,hq⟩:=exE (b.getD k 0)
   rw [hq] at hck hcv g1 g2 e1
   obtain ⟨r,hr⟩:=exE (a.getD q.toNat 0)
   rw [hr] at hcv e1
   clear hq hr
   go_wp2_with (at_builtin; refine wpAppI rfl _ _ rfl rfl ho rfl (by omega) hbs ?_; intro v' w1 ho' _ hb')
   go_roundw
   case rel=>exact ⟨k+1,by omega,by go_num,by rw [e2.out,e1.out]; exact ho',hb.trans hb'⟩
   case measure=>simp [intOf]; omega
  ·obtain rfl:k=b.length:=by omega
   clear ha hb' hca hcb hG
   rw [List.take_of_length_le (by rw [timesL_length]; omega)] at ho
   go_wp2
   go_ret
   exact ⟨_,rfl,ho,hb⟩
theorem identityCall (n:Nat) (w:World) (hn:n≤1000000) :
  Calls Tryz.prog 66 #[.int .i64 n] w fun e w'=>∃ v,e = .returned v∧OI w' w.heap.size v n (oneL n)∧Below w.heap.size w w':=by
 go_enter Tryz.func66,Tryz.ntmps66
 go_wp2_with (at_make; refine wpMakeI rfl _ _ rfl n rfl rfl (by omega) (Nat.le_refl _) ?_; intro w1 ho _ hb)
 obtain ⟨g,hg⟩:=exF (w.heap.size)
 rw [← hg] at ho ⊢
 have hgl:w.heap.size≤g:=by omega
 replace hg:=Lib.hid hg
 go_loopw [9] (fun i wr=>∃ k:Nat,k≤n∧i = .int .i64 k∧OI wr g (.slice (some ⟨g,0,none⟩) n n) n (fil (oneL n) k)∧Below w.heap.size w wr) (fun i _=>n - (intOf i).toNat)
 case atStart=>exact ⟨0,by omega,rfl,by rw [fil_zero,oneL_length]; exact ho,hb⟩
 case round=>
  clear ho hb
  obtain ⟨k,hk,rfl,ho,hb⟩:=hrel
  by_cases hlt:k < n
  ·have hck:=ho.cell hlt
   have hfk:=ho.free k
   have hst:=ho.store k k
   have e1:=Lib.hid (fil_set (xs:=oneL n) (k:=k) (by rw [oneL_length]; exact hlt))
   go_wp2
   go_roundw
   case rel=>exact ⟨k+1,by omega,by go_num,by rw [← e1.out,oneL_getD hlt]; exact hst.1,hb.setCell (by simpa using hgl) _⟩
   case measure=>simp [intOf]; omega
  ·obtain rfl:k=n:=by omega
   go_wp2
   go_ret
   refine ⟨_,rfl,?_,hb⟩
   have:=fil_end (oneL k)
   rw [oneL_length] at this
   rw [this] at ho
   exact ho.base hgl
theorem composeCall {w:World} {u v:Value} {a b:List Int} (h:Ints w u a) (h':Ints w v b) (hG:Good a.length b) (hn:b.length≤1000000) :
  Calls Tryz.prog 68 #[u,v] w fun e w'=>∃ r,e = .returned r∧OI w' w.heap.size r b.length (timesL a b)∧Below w.heap.size w w':=by
 obtain ⟨aa,ac,ab,ao,rfl,ha,hca,hla⟩:=h
 obtain ⟨ba,bc,bb,bo,rfl,hb',hcb,hlb⟩:=h'
 go_enter Tryz.func68,Tryz.ntmps68
 go_wp2_with (at_make; refine wpMakeI rfl _ _ rfl b.length rfl rfl (by omega) (Nat.le_refl _) ?_; intro w1 ho _ hb)
 obtain ⟨g,hg⟩:=exF (w.heap.size)
 rw [← hg] at ho ⊢
 have hgl:w.heap.size≤g:=by omega
 replace hg:=Lib.hid hg
 go_loopw [13] (fun i wr=>∃ k:Nat,k≤b.length∧i = .int .i64 k∧OI wr g (.slice (some ⟨g,0,none⟩) b.length b.length) b.length (fil (timesL a b) k)∧Below w.heap.size w wr) (fun i _=>b.length - (intOf i).toNat)
 case atStart=>exact ⟨0,by omega,rfl,by rw [fil_zero,timesL_length]; exact ho,hb⟩
 case round=>
  clear ho hb
  obtain ⟨k,hk,rfl,ho,hb⟩:=hrel
  by_cases hlt:k < b.length
  ·obtain ⟨g1,g2⟩:=hG k hlt
   obtain rfl:=ha (by omega)
   obtain rfl:=hb' (by omega)
   have hcb':=hcb.keep hb k hlt
   have hcv:=hca.keep hb (b.getD k 0).toNat (by omega)
   have e1:=Lib.hid (timesL_getD a b k hlt)
   have e2:=Lib.hid (fil_set (xs:=timesL a b) (k:=k) (by rw [timesL_length]; exact hlt))
   have hck:=ho.cell hlt
   have hfk:=ho.free k
   clear ha hb' hca hcb hG
   obtain ⟨q,hq⟩:=exE (b.getD k 0)
   rw [hq] at hcb' hcv g1 g2 e1
   obtain ⟨r,hr⟩:=exE (a.getD q.toNat 0)
   rw [hr] at hcv e1
   clear hq hr
   have hst:=ho.store k r
   go_wp2
   go_roundw
   case rel=>exact ⟨k+1,by omega,by go_num,by rw [← e2.out,e1.out]; exact hst.1,hb.setCell (by simpa using hgl) _⟩
   case measure=>simp [intOf]; omega
  ·obtain rfl:k=b.length:=by omega
   clear ha hb' hca hcb hG
   go_wp2
   go_ret
   refine ⟨_,rfl,?_,hb⟩
   have:=fil_end (timesL a b)
   rw [timesL_length] at this
   rw [this] at ho
   exact ho.base hgl
end Go.Proofs.YtmikofeildnpdaaGreat

/- The walks of slices.Equal, Index, Contains, Compare, cmp.Compare, number, gcd. -/
namespace Go.Proofs.YtmikofeildnpdaaGreat
open Go.RowKit
theorem slEqual {w:World} {u v:Value} {xs ys:List Int} (h:Ints w u xs) (h':Ints w v ys) :
  Calls Tryz.prog 171 #[u,v] w fun e w'=>e = .returned (.bool (sameB xs ys))∧Qt w w':=by
 obtain ⟨a,c,b,off,rfl,ha,hc,hl⟩:=h
 obtain ⟨a',c',b',off',rfl,ha',hc',hl'⟩:=h'
 by_cases h1:xs.length=ys.length
 ·have h1':((xs.length:Int) != (ys.length:Int))=false:=by simp; omega
  have h1:=Lib.hid h1
  go_enter Tryz.func171,Tryz.ntmps171
  go_wp2
  go_loopw [13] (fun i wr=>∃ k:Nat,k≤xs.length∧i = .int .i64 k∧Hid (xs.take k=ys.take k)∧Hid (Qt w wr)) (fun i _=>xs.length - (intOf i).toNat)
  case atStart=>exact ⟨0,by omega,rfl,by simp [Hid],Qt.refl _⟩
  case round=>
   obtain ⟨k,hk,rfl,hg,hq⟩:=hrel
   by_cases hlt:k < xs.length
   ·have hlt':k < ys.length:=by have:=h1.out; omega
    obtain rfl:=ha (by omega)
    obtain rfl:=ha' (by omega)
    have hck:=hc.qt hq.out k hlt
    have hck':=hc'.qt hq.out k hlt'
    clear ha ha' hc hc'
    go_wp2
    go_quiet (fail)
    go_wp2
    ·go_ret
     have he:=‹(xs[k] != ys[k])=true›
     refine ⟨ret_bool ?_,hq.out.trans (Qt.mk' _ _)⟩
     have he':xs[k] ≠ ys[k]:=by simpa using he
     have:xs ≠ ys:=fun e=>he' (by subst e; rfl)
     simp [sameB,this]
    ·have he:=‹(xs[k] != ys[k])=false›
     go_roundw
     case rel=>
      refine ⟨k+1,by omega,by go_num,?_,hq.out.trans (Qt.mk' _ _)⟩
      show xs.take (k+1)=ys.take (k+1)
      rw [take_snoc hlt 0,take_snoc hlt' 0,hg.out,getD_eq hlt,getD_eq hlt']
      have he':xs[k]=ys[k]:=by simpa using he
      rw [he']
     case measure=>simp [intOf]; omega
   ·clear ha hc ha' hc'
    go_wp2
    go_ret
    refine ⟨ret_bool ?_,hq.out⟩
    have:=hg.out
    have hh:=h1.out
    rw [List.take_of_length_le (by omega),List.take_of_length_le (by omega)] at this
    simp [sameB,this]
 ·have h1':((xs.length:Int) != (ys.length:Int))=true:=by simp; omega
  clear ha hc ha' hc'
  go_enter Tryz.func171,Tryz.ntmps171
  go_wp2
  go_ret
  refine ⟨ret_bool ?_,Qt.refl _⟩
  have:xs ≠ ys:=fun e=>h1 (by rw [e])
  simp [sameB,this]
theorem idxGo_step {xs:List Int} {x:Int} {k:Nat} (h:k < xs.length):idxGo x k (xs.drop k)=if x=xs[k] then (k:Int) else idxGo x (k+1) (xs.drop (k+1)):=by
 rw [drop_cons h 0,idxGo,getD_eq h]
theorem idxGo_end {xs:List Int} {x:Int} {k:Nat} (h : ¬ k < xs.length):idxGo x k (xs.drop k) = -1:=by
 rw [List.drop_eq_nil_of_le (by omega),idxGo]
theorem slIndex {w:World} {v:Value} {xs:List Int} (x:Int) (h:Ints w v xs) :
  Calls Tryz.prog 72 #[v,.int .i64 x] w fun e w'=>e = .returned (.int .i64 (idxI xs x))∧Qt w w':=by
 obtain ⟨a,c,b,off,rfl,ha,hc,hl⟩:=h
 go_enter Tryz.func72,Tryz.ntmps72
 go_wp2
 go_loopw [8] (fun i wr=>∃ k:Nat,k≤xs.length∧i = .int .i64 k∧Hid (idxGo x k (xs.drop k)=idxI xs x)∧Hid (Qt w wr)) (fun i _=>xs.length - (intOf i).toNat)
 case atStart=>exact ⟨0,by omega,rfl,by simp [Hid,idxI],Qt.refl _⟩
 case round=>
  obtain ⟨k,hk,rfl,hg,hq⟩:=hrel
  by_cases hlt:k < xs.length
  ·obtain rfl:=ha (by omega)
   have hck:=hc.qt hq.out k hlt
   have hst:=Lib.hid (idxGo_step (x:=x) hlt)
   clear ha hc
   go_wp2
   ·go_ret
    have he:=‹(x == xs[k])=true›
    exact ⟨ret_int (by rw [← hg.out,hst.out,if_pos (by simpa using he)]),hq.out⟩
   ·have he:=‹(x == xs[k])=false›
    go_roundw
    case rel=>exact ⟨k+1,by omega,by go_num,by show _=_; rw [← hg.out,hst.out,if_neg (by simpa using he)],hq⟩
    case measure=>simp [intOf]; omega
  ·have hst:=Lib.hid (idxGo_end (x:=x) hlt)
   clear ha hc
   go_wp2
   go_ret
   exact ⟨ret_int (by rw [← hg.out,hst.out]),hq.out⟩
theorem idxGo_ge (xs:List Int) (x:Int):∀ k,(0≤idxGo x k xs)=(x∈xs):=by
 induction xs with
 | nil=>intro k; simp [idxGo]
 | cons y r ih=>intro k; unfold idxGo; by_cases h:x=y <;> simp [h,ih]
theorem slContains {w:World} {v:Value} {xs:List Int} (x:Int) (h:Ints w v xs) :
  Calls Tryz.prog 28 #[v,.int .i64 x] w fun e w'=>e = .returned (.bool (hasB xs x))∧Qt w w':=by
 have H:=Lib.hid (slIndex x h)
 clear h
 have hi:=Lib.hid (idxGo_ge xs x 0)
 go_enter Tryz.func28,Tryz.ntmps28
 go_wp2_with (go_at_call 72; refine H.out.mono ?_; rintro e w' ⟨rfl,hq⟩)
 go_ret
 exact ⟨ret_bool (by unfold hasB; rw [← decide_eq_decide.2 (Iff.of_eq hi.out)]; rfl),hq⟩
theorem drop_nil {l:List Int} {k:Nat} (h : ¬ k < l.length):l.drop k = []:=List.drop_eq_nil_of_le (by omega)
theorem cmpL_step {xs ys:List Int} {k:Nat} (h:k < xs.length) (h':k < ys.length) :
  cmpL (xs.drop k) (ys.drop k)=if cmpI xs[k] ys[k]=0 then cmpL (xs.drop (k+1)) (ys.drop (k+1)) else cmpI xs[k] ys[k]:=by
 rw [drop_cons h 0,drop_cons h' 0,cmpL,getD_eq h,getD_eq h']
theorem cmpL_gt {xs ys:List Int} {k:Nat} (h:k < xs.length) (h' : ¬ k < ys.length):cmpL (xs.drop k) (ys.drop k)=1:=by
 rw [drop_cons h 0,drop_nil (l:=ys) h',cmpL]
theorem cmpL_lt {xs ys:List Int} {k:Nat} (h : ¬ k < xs.length) (h':k < ys.length):cmpL (xs.drop k) (ys.drop k) = -1:=by
 rw [drop_cons h' 0,drop_nil (l:=xs) h,cmpL]
theorem cmpL_eq {xs ys:List Int} {k:Nat} (h : ¬ k < xs.length) (h' : ¬ k < ys.length):cmpL (xs.drop k) (ys.drop k)=0:=by
 rw [drop_nil (l:=ys) h',drop_nil (l:=xs) h,cmpL]
theorem slCompare {w:World} {u v:Value} {xs ys:List Int} (h:Ints w u xs) (h':Ints w v ys) :
  Calls Tryz.prog 70 #[u,v] w fun e w'=>e = .returned (.int .i64 (cmpL xs ys))∧Qt w w':=by
 obtain ⟨a,c,b,off,rfl,ha,hc,hl⟩:=h
 obtain ⟨a',c',b',off',rfl,ha',hc',hl'⟩:=h'
 go_enter Tryz.func70,Tryz.ntmps70
 go_wp2
 go_loopw [11] (fun i wr=>∃ k:Nat,k≤xs.length∧k≤ys.length∧i = .int .i64 k∧Hid (cmpL (xs.drop k) (ys.drop k)=cmpL xs ys)∧Hid (Qt w wr)) (fun i _=>xs.length - (intOf i).toNat)
 case atStart=>exact ⟨0,by omega,by omega,rfl,by simp [Hid],Qt.refl _⟩
 case round=>
  obtain ⟨k,hk,hk',rfl,hg,hq⟩:=hrel
  by_cases hlt:k < xs.length
  ·obtain rfl:=ha (by omega)
   have hck:=hc.qt hq.out k hlt
   by_cases hlt':k < ys.length
   ·obtain rfl:=ha' (by omega)
    have hck':=hc'.qt hq.out k hlt'
    have hst:=Lib.hid (cmpL_step hlt hlt')
    clear ha ha' hc hc'
    by_cases hz:cmpI xs[k] ys[k]=0
    ·have hz':(cmpI xs[k] ys[k] != 0)=false:=by simp [hz]
     have hz:=Lib.hid hz
     go_wp2_with (go_at_call 111; refine (cmpInt _ _ _).mono ?_; rintro e w' ⟨rfl,rfl⟩)
     go_roundw
     case rel=>exact ⟨k+1,by omega,by omega,by go_num,by show _=_; rw [← hg.out,hst.out,if_pos hz.out],hq⟩
     case measure=>simp [intOf]; omega
    ·have hz':(cmpI xs[k] ys[k] != 0)=true:=by simp [hz]
     have hz:=Lib.hid hz
     go_wp2_with (go_at_call 111; refine (cmpInt _ _ _).mono ?_; rintro e w' ⟨rfl,rfl⟩)
     go_ret
     exact ⟨ret_int (by rw [← hg.out,hst.out,if_neg hz.out]),hq.out⟩
   ·have hst:=Lib.hid (cmpL_gt hlt hlt')
    clear ha ha' hc hc'
    go_wp2
    go_ret
    exact ⟨ret_int (by rw [← hg.out,hst.out]),hq.out⟩
  ·clear ha ha' hc hc'
   by_cases hlt':k < ys.length
   ·have hst:=Lib.hid (cmpL_lt hlt hlt')
    go_wp2
    go_ret
    exact ⟨ret_int (by rw [← hg.out,hst.out]),hq.out⟩
   ·have hst:=Lib.hid (cmpL_eq hlt hlt')
    go_wp2
    go_ret
    exact ⟨ret_int (by rw [← hg.out,hst.out]),hq.out⟩
def numE (n:Int):Int:=if n < 1∨5 < n then 2 else 0
theorem number (n:Int) (w:World):Calls Tryz.prog 64 #[.int .i64 n] w fun e w'=>e = .returned (.int .i64 (numE n))∧w=w':=by
 by_cases h1:n < 1
 ·go_enter Tryz.func64,Tryz.ntmps64
  go_wp2
  go_ret
  exact ⟨ret_int (by simp [numE,h1]),rfl⟩
 ·have h1':decide (n < 1)=false:=by simpa using h1
  by_cases h2:5 < n
  ·go_enter Tryz.func64,Tryz.ntmps64
   go_wp2
   go_ret
   exact ⟨ret_int (by simp [numE,h2]),rfl⟩
  ·go_enter Tryz.func64,Tryz.ntmps64
   go_wp2
   go_ret
   exact ⟨ret_int (by simp [numE,h1,h2]),rfl⟩
end Go.Proofs.YtmikofeildnpdaaGreat

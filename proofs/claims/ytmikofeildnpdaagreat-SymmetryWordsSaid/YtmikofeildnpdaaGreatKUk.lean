/- Texts of this claim, put together: H1 RQ RW TB TC. -/
import Derived.Test.YtmikofeildnpdaaGreatKUi
import Derived.Test.YtmikofeildnpdaaGreatKUd
import Derived.Test.YtmikofeildnpdaaGreatKUg
import Derived.Test.YtmikofeildnpdaaGreatKUj

set_option maxRecDepth 100000
set_option maxHeartbeats 12800000
/- Equality of lists of ints, of rounds and of words. -/
namespace Go.Proofs.YtmikofeildnpdaaGreat
open Go.RowKit
theorem eqInts {w:World} {u v:Value} {xs ys:List Int} (hx:Ints w u xs) (hy:Ints w v ys) :
  Calls Tryz.prog 171 #[u,v] w fun e w'=>e = .returned (.bool (decide (xs=ys)))∧Qt w w':=by
 obtain ⟨xa,xc,xb,xo,rfl,hxa,hxc,_⟩:=hx
 obtain ⟨ya,yc,yb,yo,rfl,hya,hyc,_⟩:=hy
 obtain ⟨B,hB⟩:∃ B,decide (xs=ys)=B:=⟨_,rfl⟩
 rw [hB]
 replace hB:=Lib.hid hB
 replace hxc:=Lib.hid hxc
 replace hyc:=Lib.hid hyc
 by_cases hlen:xs.length=ys.length
 ·rw [← hlen]
  replace hlen:=Lib.hid hlen
  have h0:Hid (xs.take 0=ys.take 0):=rfl
  go_enter Tryz.func171, Tryz.ntmps171
  go_wp2
  go_loopw [13] (fun iv wr=>∃ i:Nat,iv = .int .i64 i∧i≤xs.length∧Hid (xs.take i=ys.take i)∧Qt w wr) (fun iv _=>xs.length - (intOf iv).toNat)
  case atStart=>exact ⟨0,rfl,by omega,h0,Qt.refl w⟩
  case round=>
   clear h0
   obtain ⟨i,rfl,hi,ht,n,rfl⟩:=hrel
   by_cases hlt:i < xs.length
   ·obtain rfl:=hxa (by omega)
    obtain rfl:=hya (by rw [← hlen.out]; omega)
    have hlt':i < ys.length:=by rw [← hlen.out]; exact hlt
    have hxi:=hxc.out i hlt
    have hyi:=hyc.out i hlt'
    obtain ⟨x,hx⟩:=exE (xs.getD i 0)
    obtain ⟨y,hy⟩:=exE (ys.getD i 0)
    rw [hx] at hxi
    rw [hy] at hyi
    by_cases he:x=y
    ·subst he
     have ht2:Hid (xs.take (i+1)=ys.take (i+1)):=takes_next ht.out hlt hlt' (by rw [hx,hy])
     clear hx hy ht
     go_wp2
     go_quiet (fail)
     go_wp2
     go_roundw
     case rel=>exact ⟨i+1,by go_num,hlt,ht2,by first | exact (Qt.mk' w n).step nq | exact Qt.mk' w _⟩
     case measure=>simp [intOf]; omega
    ·have hE:(x == y)=false:=by simp [he]
     have hBf:Hid (B=false):=by
      show _=_
      rw [← hB.out]
      refine decide_eq_false fun h=>he ?_
      rw [← hx,← hy,h]
     clear hx hy he ht
     go_wp2
     go_quiet (fail)
     go_wp2
     go_ret
     exact ⟨by rw [hBf.out]; rfl,by first | exact (Qt.mk' w n).step nq | exact Qt.mk' w _⟩
   ·have hBt:Hid (B=true):=by
     show _=_
     rw [← hB.out]
     exact decide_eq_true (takes_all ht.out (by omega) (by rw [← hlen.out]; omega))
    clear ht
    go_wp2
    go_ret
    exact ⟨by rw [hBt.out]; rfl,Qt.mk' w n⟩
 ·have hBf:B=false:=by rw [← hB.out]; exact decide_eq_false fun h=>hlen (by rw [h])
  subst hBf
  have h1:((xs.length:Int) == (ys.length:Int))=false:=by simp; omega
  go_enter Tryz.func171, Tryz.ntmps171
  go_wp2
  go_ret
  exact ⟨rfl,Qt.refl w⟩
end Go.Proofs.YtmikofeildnpdaaGreat

/- Regions that draw their order, whose calls make new memory: a class of worlds in place of draws. -/
namespace Go.Proofs.YtmikofeildnpdaaGreat
open Go.RowKit
theorem any_ctail {P:Program} {C:World→Prop} {Q:Exit→Act→World→Prop} {a:Act} {w:World} {l:List Oper} (n:Nat) (hB:qtB n l=true) (hg:noGuard l=true) (hC:C w.drew)
  (h:wpQuiet P (maskLast n l).toArray C (fun a'=>∀ w',C w'→wpList P l.toArray Q (l.drop n) a' w') (l.take n) a) (hQ : ¬ LetsOut Q) :
  wpAny P .any l.toArray Q l.toArray.size (Array.replicate l.toArray.size false) a w.drew:=by
 simp only [qtB,Bool.and_eq_true,decide_eq_true_eq] at hB
 obtain ⟨⟨⟨⟨hlen,hs⟩,hb⟩,hlex⟩,_⟩:=hB
 have hback:∀ (i:Nat) (o:Oper),l[i]? = some o→∀ e∈o.after,e.on < i:=by
  intro i o ho e he
  have:=List.all_eq_true.1 hb i (List.mem_range.2 (List.getElem?_eq_some_iff.1 ho).1)
  rw [ho] at this
  simp only at this
  exact of_decide_eq_true (Array.all_eq_true'.1 this e he)
 have hlt:n < l.length:=by omega
 have hlast:l[n]? = some l[n]:=List.getElem?_eq_getElem hlt
 have hdrop:l.drop n = [l[n]]:=by rw [List.drop_eq_getElem_cons hlt,List.drop_eq_nil_of_le (by omega)]
 have hgl:l[n].guard=none:=noGuard_get hg hlast
 have start:HeadInv .any l.toArray n (Array.replicate l.toArray.size false):=
  ⟨by simp,fun j oj _ hh=>(by rw [getD_replicate_false] at hh; cases hh),fun t _ ht=>getD_in (by simpa using ht) (getD_replicate_false _ _)⟩
 refine any_of_quiet_last (C:=C) (Qa:=fun a'=>∀ w',C w'→wpList P l.toArray Q (l.drop n) a' w') hlen hlast hgl hs hback ?_ ?_ _ _ _ _ start hC ?_ (by simp; omega)
 ·intro a w' hw hh
  have h1:=hh w' hw
  rw [hdrop] at h1
  unfold wpList at h1
  rw [if_pos (by simp [Region.wanted,hgl])] at h1
  exact Oper.wp_mono (fun a w hh=>hh) (h1.resolve_right (fun hh=>hQ hh.2))
 ·intro i o ho tmps
  simp [Region.wanted,noGuard_get hg ho]
 ·simp only [Region.lexB,Bool.and_eq_true] at hlex
  have hml:(maskLast n l)=l.take n ++ [mask l[n]]:=by rw [maskLast,hdrop]; rfl
  have hw:wpQuiet P (maskLast n l).toArray C (fun a'=>∀ w',C w'→wpList P l.toArray Q (l.drop n) a' w') (maskLast n l) a:=by
   conv=>arg 5; rw [hml]
   refine wpQuiet_append ?_
   refine wpQuiet_mono' ?_ h
   intro a' hh
   unfold wpQuiet
   rw [if_pos (by simp [Region.wanted,mask])]
   exact ⟨undef,fun w' _=>⟨rfl,rfl⟩,hh⟩
  have:=wpAnyQ_lex (C:=C) (md:=.any) hlex.1 (maskLast n l) 0 (Array.replicate (maskLast n l).toArray.size false) a (by simp) (by simpa using hlex.2) hw
  simpa [maskLast_length] using this
theorem wp_region_btail {P:Program} {id:Nat} {Q:Exit→Act→World→Prop} {a:Act} {w:World} {l:List Oper} (n:Nat) (hm:P.follows .mixedOrders=true) (hB:qtB n l=true) (hg:noGuard l=true)
  (hQ : ¬ LetsOut Q) (h:∀ ops',wpQuiet P ops' (Below w.heap.size w) (fun a'=>∀ w',Below w.heap.size w w'→wpList P l.toArray Q (l.drop n) a' w') (l.take n) a) :
  (Code.region id l.toArray true).wp P Q a w:=
 wp_region_any hm (any_ctail n hB hg (below_drewN (Below.refl _ w) 1) (h _) hQ)
theorem wp_region_ball {P:Program} {id:Nat} {Q:Exit→Act→World→Prop} {a:Act} {w:World} {l:List Oper} (hm:P.follows .mixedOrders=true) (hB:Region.lexB .any l.toArray=true)
  (h:wpQuiet P l.toArray (Below w.heap.size w) (fun a'=>∀ w',Below w.heap.size w w'→Q .normal a' w') l a) :
  (Code.region id l.toArray true).wp P Q a w:=
 wp_region_quiet (C:=Below w.heap.size w) hm hB (below_drewN (Below.refl _ w) 1) (by simpa using h)
end Go.Proofs.YtmikofeildnpdaaGreat

/- Regions that draw their order, whose calls make new memory: the walk's goal as a structure, which nothing lays open. -/
namespace Go.Proofs.YtmikofeildnpdaaGreat
open Go.RowKit
structure WQ (P:Program) (ops:Array Oper) (C:World→Prop) (Q:Act→Prop) (l:List Oper) (a:Act):Prop where
 out:wpQuiet P ops C Q l a
theorem WQ.nil {P:Program} {ops:Array Oper} {C:World→Prop} {Q:Act→Prop} {a:Act} (h:Q a):WQ P ops C Q [] a:=⟨wpQuiet_nil h⟩
theorem WQ.step {P:Program} {ops:Array Oper} {C:World→Prop} {Q:Act→Prop} {a:Act} {o:Oper} {rest:List Oper}
  (h:∀ K:Act→Prop,(∀ a,WQ P ops C Q rest a→K a)→if Region.wanted o (yielded ops a.tmps) then o.quiet P a C K else K (a.put o.dst undef)):WQ P ops C Q (o::rest) a:=
 ⟨wpQuiet_step fun K hK=>h K fun a hq=>hK a hq.out⟩
theorem wp_region_bw {P:Program} {id:Nat} {Q:Exit→Act→World→Prop} {a:Act} {w:World} {l:List Oper} (hm:P.follows .mixedOrders=true) (hB:Region.lexB .any l.toArray=true)
  (h:WQ P l.toArray (Below w.heap.size w) (fun a'=>∀ w',Below w.heap.size w w'→Q .normal a' w') l a) :
  (Code.region id l.toArray true).wp P Q a w:=wp_region_ball hm hB h.out
end Go.Proofs.YtmikofeildnpdaaGreat

/- task.vector, task.unordered, task.has: vectors of a task. -/
namespace Go.Proofs.YtmikofeildnpdaaGreat
open Go.RowKit
theorem dropEnd {xs:List Int} {i:Nat} (h:xs.length≤i):xs.drop i = []:=List.drop_eq_nil_of_le h
theorem drop_cons0 {xs:List Int} {i:Nat} {x:Int} (h:i < xs.length) (hx:xs.getD i 0=x):xs.drop i=x::xs.drop (i+1):=by
 rw [List.drop_eq_getElem_cons h,← hx,getD_eq h]
theorem cmpIntsC {w:World} {u v:Value} {xs ys:List Int} (hx:Ints w u xs) (hy:Ints w v ys) :
  Calls Tryz.prog 70 #[u,v] w fun e w'=>e = .returned (.int .i64 (cmpL xs ys))∧w'=w:=by
 obtain ⟨xa,xc,xb,xo,rfl,hxa,hxc,hxl⟩:=hx
 obtain ⟨ya,yc,yb,yo,rfl,hya,hyc,hyl⟩:=hy
 obtain ⟨E,hE⟩:=exE (cmpL xs ys)
 rw [hE]
 have h0:Hid (cmpL (xs.drop 0) (ys.drop 0)=E):=hE
 replace hxc:=Lib.hid hxc
 replace hyc:=Lib.hid hyc
 clear hE
 go_enter Tryz.func70, Tryz.ntmps70
 go_wp2_with fail
 go_loopw [11] (fun iv wr=>∃ i:Nat,iv = .int .i64 i∧i≤xs.length∧i≤ys.length∧Hid (cmpL (xs.drop i) (ys.drop i)=E)∧wr=w) (fun iv _=>xs.length - (intOf iv).toNat)
 case atStart=>exact ⟨0,rfl,by omega,by omega,h0,rfl⟩
 case round=>
  clear h0
  obtain ⟨i,rfl,hi,hj,ht,rfl⟩:=hrel
  by_cases hlt:i < xs.length
  ·obtain rfl:=hxa (by omega)
   have hxi:=hxc.out i hlt
   obtain ⟨x,hx⟩:=exE (xs.getD i 0)
   rw [hx] at hxi
   by_cases hlu:i < ys.length
   ·obtain rfl:=hya (by omega)
    have hyi:=hyc.out i hlu
    obtain ⟨y,hy⟩:=exE (ys.getD i 0)
    rw [hy] at hyi
    have ht2:=ht.out
    rw [drop_cons0 hlt hx,drop_cons0 hlu hy] at ht2
    have HC:=cmpInt x y wr
    have hge : ¬ ys.length≤i:=by omega
    clear hx hy ht
    by_cases hz:cmpI x y=0
    ·rw [cmpL_hd hz] at ht2
     rw [hz] at HC
     replace ht2:=Lib.hid ht2
     replace HC:=Lib.hid HC
     clear hz
     go_wp2_with fail
     refine HC.out.mono ?_
     rintro e w' ⟨rfl,rfl⟩
     go_wp2_with fail
     go_roundw
     case rel=>exact ⟨i+1,by go_num,hlt,hlu,ht2,by first | rfl | trivial⟩
     case measure=>simp [intOf]; omega
    ·rw [cmpL_ne hz] at ht2
     obtain ⟨z,hzz⟩:=exE (cmpI x y)
     rw [hzz] at HC ht2 hz
     replace ht2:=Lib.hid ht2
     replace HC:=Lib.hid HC
     have hz1:(z != 0)=true:=by simpa using hz
     clear hzz
     go_wp2_with fail
     refine HC.out.mono ?_
     rintro e w' ⟨rfl,rfl⟩
     go_wp2_with fail
     go_ret
     exact ⟨ret_int ht2.out,rfl⟩
   ·have hE:Hid ((1:Int)=E):=by
     have:=ht.out
     rw [drop_cons0 hlt hx,dropEnd (xs:=ys) (by omega)] at this
     exact this
    have hge:ys.length≤i:=by omega
    clear ht hx
    go_wp2_with fail
    go_ret
    exact ⟨ret_int hE.out,rfl⟩
  ·by_cases hlu:xs.length < ys.length
   ·have hE:Hid ((-1:Int)=E):=by
     have:=ht.out
     rw [dropEnd (xs:=xs) (by omega),drop_cons0 (xs:=ys) (x:=ys.getD i 0) (by omega) rfl] at this
     exact this
    clear ht
    go_wp2_with fail
    go_ret
    exact ⟨ret_int hE.out,rfl⟩
   ·have hE:Hid ((0:Int)=E):=by
     have:=ht.out
     rw [dropEnd (xs:=xs) (by omega),dropEnd (xs:=ys) (by omega)] at this
     exact this
    clear ht
    go_wp2_with fail
    go_ret
    exact ⟨ret_int hE.out,rfl⟩
def outR (most x:Int):Bool:=decide (x < 0∨most≤x)
theorem vecOne {w:World} {b:Nat} {x most:Int} (h:w.cell? ⟨b,0,none⟩=some (.int .i64 most)) :
  Calls Tryz.prog 200 #[.int .i64 x,.pointer (some ⟨b,0,none⟩)] w fun e w'=>e = .returned (.bool (outR most x))∧w'=w:=by
 by_cases h1:x < 0
 ·have hr:outR most x=true:=decide_eq_true (.inl h1)
  rw [hr]
  have d1:decide (x < 0)=true:=decide_eq_true h1
  go_enter Tryz.func200, Tryz.ntmps200
  go_wp2
  go_ret
  exact ⟨rfl,rfl⟩
 ·have d1:decide (x < 0)=false:=decide_eq_false h1
  have hr:outR most x=decide (most≤x):=by unfold outR; simp [h1]
  rw [hr]
  obtain ⟨B,hB⟩:=exE (decide (most≤x))
  rw [hB]
  clear hr h1
  go_enter Tryz.func200, Tryz.ntmps200
  go_wp2
  go_ret
  exact ⟨by first | rfl | (rw [← hB]; rfl) | simp [← hB],rfl⟩
theorem vecIndex {w:World} {b:Nat} {u:Value} {xs:List Int} {most:Int} (hx:Ints w u xs) (h:w.cell? ⟨b,0,none⟩=some (.int .i64 most)) :
  Calls Tryz.prog 219 #[u,.func (.func 200) #[] #[.pointer (some ⟨b,0,none⟩)]] w fun e w'=>∃ z:Int,e = .returned (.int .i64 z)∧decide (0≤z)=xs.any (outR most)∧w'=w:=by
 obtain ⟨xa,xc,xb,xo,rfl,hxa,hxc,hxl⟩:=hx
 obtain ⟨A,hA⟩:=exE (xs.any (outR most))
 rw [hA]
 have h0:Hid ((xs.drop 0).any (outR most)=A):=hA
 replace hxc:=Lib.hid hxc
 have HC:=Lib.hid (fun x=>vecOne (x:=x) h)
 clear hA h
 go_enter Tryz.func219, Tryz.ntmps219
 go_wp2_with fail
 go_loopw [8] (fun iv wr=>∃ i:Nat,iv = .int .i64 i∧i≤xs.length∧Hid ((xs.drop i).any (outR most)=A)∧wr=w) (fun iv _=>xs.length - (intOf iv).toNat)
 case atStart=>exact ⟨0,rfl,by omega,h0,rfl⟩
 case round=>
  clear h0
  obtain ⟨i,rfl,hi,ht,rfl⟩:=hrel
  by_cases hlt:i < xs.length
  ·obtain rfl:=hxa (by omega)
   have hxi:=hxc.out i hlt
   obtain ⟨x,hx⟩:=exE (xs.getD i 0)
   rw [hx] at hxi
   have ht2:=ht.out
   rw [drop_cons0 hlt hx,List.any_cons] at ht2
   have H1:=HC.out x
   obtain ⟨B,hB⟩:=exE (outR most x)
   rw [hB] at H1 ht2
   replace H1:=Lib.hid H1
   clear hx ht hB
   cases B
   ·rw [Bool.false_or] at ht2
    replace ht2:=Lib.hid ht2
    go_wp2_with fail
    refine H1.out.mono ?_
    rintro e w' ⟨rfl,rfl⟩
    go_wp2_with fail
    go_roundw
    case rel=>exact ⟨i+1,by go_num,hlt,ht2,by first | rfl | trivial⟩
    case measure=>simp [intOf]; omega
   ·rw [Bool.true_or] at ht2
    replace ht2:=Lib.hid ht2
    go_wp2_with fail
    refine H1.out.mono ?_
    rintro e w' ⟨rfl,rfl⟩
    go_wp2_with fail
    go_ret
    exact ⟨_,rfl,by rw [← ht2.out]; exact decide_eq_true (by omega),rfl⟩
  ·have hE:Hid (false=A):=by
    have:=ht.out
    rw [dropEnd (xs:=xs) (by omega)] at this
    exact this
   clear ht
   go_wp2_with fail
   go_ret
   exact ⟨_,rfl,by rw [← hE.out]; rfl,rfl⟩
theorem vecContains {w:World} {b:Nat} {u:Value} {xs:List Int} {most:Int} (hx:Ints w u xs) (h:w.cell? ⟨b,0,none⟩=some (.int .i64 most)) :
  Calls Tryz.prog 199 #[u,.func (.func 200) #[] #[.pointer (some ⟨b,0,none⟩)]] w fun e w'=>e = .returned (.bool (xs.any (outR most)))∧w'=w:=by
 have HI:=Lib.hid (vecIndex hx h)
 obtain ⟨xa,xc,xb,xo,rfl,_⟩:=hx
 obtain ⟨A,hA⟩:=exE (xs.any (outR most))
 rw [hA] at HI ⊢
 clear hA h
 go_enter Tryz.func199, Tryz.ntmps199
 go_wp2_with fail
 refine HI.out.mono ?_
 rintro e w' ⟨z,rfl,hz,rfl⟩
 go_wp2
 go_ret
 exact ⟨rfl,rfl⟩
theorem vecE_eq {v:List Int} {n most:Int}:vecE v n most=if (v.length:Int) ≠ n then 15 else if v.any (outR most)=true then 2 else 0:=by
 unfold vecE
 by_cases h:∃ x∈v,x < 0∨most≤x
 ·have h2:v.any (outR most)=true:=List.any_eq_true.2 (by obtain ⟨x,hx,hh⟩:=h; exact ⟨x,hx,decide_eq_true hh⟩)
  rw [if_pos h,if_pos h2]
 ·have h2 : ¬ v.any (outR most)=true:=fun g=>h (by obtain ⟨x,hx,hh⟩:=List.any_eq_true.1 g; exact ⟨x,hx,of_decide_eq_true hh⟩)
  rw [if_neg h,if_neg h2]
theorem vectorC {w:World} {u:Value} {xs:List Int} {n most:Int} (hx:Ints w u xs) :
  Calls Tryz.prog 164 #[u,.int .i64 n,.int .i64 most] w fun e w'=>e = .returned (.int .i64 (vecE xs n most))∧Below w.heap.size w w':=by
 obtain ⟨W1,hW1⟩:=exF (w.alloc (.cells #[.int .i64 most] 3))
 have hb1:Below w.heap.size w W1:=by rw [hW1]; exact (Below.refl _ _).alloc (Nat.le_refl _) _
 have k1:W1.heap[w.heap.size]? = some (.cells #[.int .i64 most] 3 (0,0)):=by rw [hW1]; exact heap_alloc_new _ _
 have HC:=vecContains (hx.keep hb1) (cell_of_one k1)
 obtain ⟨xa,xc,xb,xo,rfl,_⟩:=hx
 rw [vecE_eq]
 clear k1
 by_cases hn:(xs.length:Int)=n
 ·rw [if_neg (fun h=>h hn)]
  subst hn
  obtain ⟨B,hB⟩:=exE (xs.any (outR most))
  rw [hB] at HC ⊢
  replace HC:=Lib.hid HC
  clear hB
  cases B
  ·go_enter Tryz.func164, Tryz.ntmps164
   go_wp2_with fail
   rw [← hW1]
   refine HC.out.mono ?_
   rintro e w' ⟨rfl,rfl⟩
   replace hW1:=Lib.hid hW1
   go_wp2
   go_ret
   exact ⟨rfl,hb1⟩
  ·go_enter Tryz.func164, Tryz.ntmps164
   go_wp2_with fail
   rw [← hW1]
   refine HC.out.mono ?_
   rintro e w' ⟨rfl,rfl⟩
   replace hW1:=Lib.hid hW1
   go_wp2
   go_ret
   exact ⟨rfl,hb1⟩
 ·rw [if_pos hn]
  have d1:((xs.length:Int) != n)=true:=by simpa using hn
  clear hn HC
  go_enter Tryz.func164, Tryz.ntmps164
  go_wp2
  go_ret
  rw [hW1] at hb1
  exact ⟨rfl,hb1⟩
def unordB (l:List (List Int)) (i:Nat):Bool:=decide (0 < i∧0≤cmpL (l.getD (i - 1) []) (l.getD i []))
theorem unordC {w:World} {u:Value} {l:List (List Int)} {i:Nat} (hx:Intss w u l) (hi:i < l.length) :
  Calls Tryz.prog 201 #[u,.int .i64 (i:Int)] w fun e w'=>e = .returned (.bool (unordB l i))∧Below w.heap.size w w':=by
 have hmx : Tryz.prog.follows .mixedOrders=true:=by kernel_rfl
 obtain ⟨xa,xc,xb,xo,rfl,hxa,hxc,hxl⟩:=hx
 obtain rfl:=hxa (by omega)
 rcases Nat.eq_zero_or_pos i with h0 | h0
 ·have hr:unordB l i=false:=decide_eq_false (fun h=>by omega)
  rw [hr]
  subst h0
  clear hr hxc
  go_enter Tryz.func201, Tryz.ntmps201
  go_wp2_with fail
  refine wp_region_bw hmx (by kernel_rfl) ?_
  repeat (refine WQ.step (fun K hK => ?_)
          go_simp
          first
            | (refine hK _ ?_; clear hK K)
            | (apply Exists.intro
               refine ⟨fun wq hC => ?_, hK _ ?_⟩
               · (first | with_reducible rfl | (go_simp; first | done | with_reducible rfl | with_reducible exact ⟨rfl,rfl⟩))
               clear hK K))
  refine WQ.nil ?_
  intro w4 hb4
  go_wp2
  go_ret
  exact ⟨rfl,hb4⟩
 ·obtain ⟨u1,c1,hu1⟩:=hxc (i - 1) (by omega)
  obtain ⟨u2,c2,hu2⟩:=hxc i hi
  have hr0:unordB l i=decide (0≤cmpL (l.getD (i - 1) []) (l.getD i [])):=by unfold unordB; simp [h0]
  obtain ⟨p,hp⟩:=exE (l.getD (i - 1) [])
  obtain ⟨q,hq⟩:=exE (l.getD i [])
  rw [hp,hq] at hr0
  rw [hp] at hu1
  rw [hq] at hu2
  have HC:=Lib.hid (fun W (hb:Below w.heap.size w W)=>cmpIntsC (hu1.keep hb) (hu2.keep hb))
  obtain ⟨z,hz⟩:=exE (cmpL p q)
  rw [hz] at hr0
  simp only [hz] at HC
  rw [hr0]
  obtain ⟨a1,b1,rfl⟩:∃ a c,u1 = .slice a p.length c:=by obtain ⟨a,c,_,_,h,_⟩:=hu1; exact ⟨a,c,h⟩
  obtain ⟨a2,b2,rfl⟩:∃ a c,u2 = .slice a q.length c:=by obtain ⟨a,c,_,_,h,_⟩:=hu2; exact ⟨a,c,h⟩
  obtain ⟨n1,hn1⟩:=exE (p.length)
  obtain ⟨n2,hn2⟩:=exE (q.length)
  rw [hn1] at c1
  rw [hn2] at c2
  simp only [hn1,hn2] at HC
  have d1:decide ((0:Int) < (i:Int))=true:=decide_eq_true (by omega)
  obtain ⟨k,hk⟩:=exE (i - 1)
  rw [hk] at c1
  have hwr:IntKind.i64.wrap ((i:Int) - 1)=(k:Int):=by rw [show (i:Int) - 1=(k:Int) by omega]; exact IntWalk.i64_in _ (by omega)
  have hi1:(k:Int) < (l.length:Int):=by omega
  have hi2:(i:Int) < (l.length:Int):=by omega
  obtain ⟨B,hB⟩:=exE (decide (0≤z))
  rw [hB]
  have HK:=Lib.hid (fun W (hb:Below w.heap.size w W)=>And.intro (cell_kept hb c1) (cell_kept hb c2))
  clear hxc hu1 hu2 hz hr0 c1 c2 hp hq hk hn1 hn2
  go_enter Tryz.func201, Tryz.ntmps201
  go_wp2_with fail
  refine wp_region_bw hmx (by kernel_rfl) ?_
  repeat (refine WQ.step (fun K hK => ?_)
          go_simp
          first
            | (refine hK _ ?_; clear hK K)
            | (apply Exists.intro
               refine ⟨fun wq hC => ?_, hK _ ?_⟩
               · (first | with_reducible rfl | (obtain ⟨c1,c2⟩:=HK.out wq hC; go_simp; first | done | with_reducible rfl | with_reducible exact ⟨rfl,rfl⟩))
               clear hK K))
  (refine WQ.step (fun K hK => ?_)
   go_simp
   first
     | (refine hK _ ?_; clear hK K)
     | (apply Exists.intro
        refine ⟨fun wq hC => ?_, hK _ ?_⟩
        · (refine (HC.out wq hC).mono ?_; rintro e w' ⟨rfl,rfl⟩; exact ⟨rfl,hC⟩)
        clear hK K))
  repeat (refine WQ.step (fun K hK => ?_)
          go_simp
          first
            | (refine hK _ ?_; clear hK K)
            | (apply Exists.intro
               refine ⟨fun wq hC => ?_, hK _ ?_⟩
               · (first | with_reducible rfl | (go_simp; first | done | with_reducible rfl | with_reducible exact ⟨rfl,rfl⟩))
               clear hK K))
  refine WQ.nil ?_
  intro w4 hb4
  go_wp2
  go_ret
  exact ⟨by first | rfl | (rw [← hB]; rfl) | simp [← hB],hb4⟩
end Go.Proofs.YtmikofeildnpdaaGreat

/- task.has, task.vectors. -/
namespace Go.Proofs.YtmikofeildnpdaaGreat
open Go.RowKit
theorem Ints.shape {w:World} {v:Value} {xs:List Int} (h:Ints w v xs):∃ a c,v = .slice a xs.length c:=by obtain ⟨a,c,_,_,h,_⟩:=h; exact ⟨a,c,h⟩
theorem Intss.shape {w:World} {v:Value} {xs:List (List Int)} (h:Intss w v xs):∃ a c,v = .slice a xs.length c:=by obtain ⟨a,c,_,_,h,_⟩:=h; exact ⟨a,c,h⟩
theorem hasOne {w:World} {u vv:Value} {bv:Nat} {x y:List Int} (hx:Ints w u y) (cv:w.cell? ⟨bv,0,none⟩=some vv) (hv:Ints w vv x) :
  Calls Tryz.prog 220 #[u,.pointer (some ⟨bv,0,none⟩)] w fun e w'=>e = .returned (.bool (decide (y=x)))∧Below w.heap.size w w':=by
 have HE:=Lib.hid (eqInts hx hv)
 obtain ⟨ua,uc,hu⟩:=hx.shape
 obtain ⟨va,vc,hvv⟩:=hv.shape
 subst hu hvv
 obtain ⟨A,hA⟩:∃ A,decide (y=x)=A:=⟨_,rfl⟩
 rw [hA] at HE ⊢
 replace hA:=Lib.hid hA
 clear hx hv
 go_enter Tryz.func220, Tryz.ntmps220
 go_wp2_with fail
 refine HE.out.mono ?_
 rintro e w' ⟨rfl,hq⟩
 have hb:=hq.below
 go_wp2
 go_ret
 exact ⟨rfl,hb⟩
theorem hasIndex {w:World} {u vv:Value} {bv:Nat} {xs:List (List Int)} {x:List Int} (hx:Intss w u xs) (cv:w.cell? ⟨bv,0,none⟩=some vv) (hv:Ints w vv x) :
  Calls Tryz.prog 71 #[u,.func (.func 220) #[] #[.pointer (some ⟨bv,0,none⟩)]] w fun e w'=>∃ z:Int,e = .returned (.int .i64 z)∧decide (0≤z)=decide (x∈xs)∧Below w.heap.size w w':=by
 obtain ⟨xa,xc,xb,xo,rfl,hxa,hxc,hxl⟩:=hx
 replace hxc:=Lib.hid hxc
 have h0:Hid (x ∉ xs.take 0):=by show ¬ _; simp
 have hvh:=Lib.hid hv
 obtain ⟨va,vc,hvv⟩:=hv.shape
 subst hvv
 clear hv
 go_enter Tryz.func71, Tryz.ntmps71
 go_wp2_with fail
 go_loopw [8] (fun iv wr=>∃ i:Nat,iv = .int .i64 i∧i≤xs.length∧Hid (x ∉ xs.take i)∧Below w.heap.size w wr) (fun iv _=>xs.length - (intOf iv).toNat)
 case atStart=>exact ⟨0,rfl,by omega,h0,Below.refl _ _⟩
 case round=>
  clear h0
  obtain ⟨i,rfl,hi,hno,hbr⟩:=hrel
  by_cases hlt:i < xs.length
  ·obtain rfl:=hxa (by omega)
   obtain ⟨xu,hxi,hxk⟩:=hxc.out i hlt
   obtain ⟨y,hy⟩:=exE (xs.getD i [])
   rw [hy] at hxk
   have c0:=cell_kept hbr hxi
   have HC:=hasOne (hxk.keep hbr) (cell_kept hbr cv) (hvh.out.keep hbr)
   have hmem:y∈xs:=by rw [← hy,getD_eq hlt]; exact List.getElem_mem hlt
   have htk:xs.take (i+1)=xs.take i ++ [y]:=by rw [take_snoc hlt [],hy]
   obtain ⟨xsa,xsc,hxs⟩:=hxk.shape
   subst hxs
   clear hxk hy hxi
   by_cases he:y=x
   ·rw [decide_eq_true he] at HC
    replace HC:=Lib.hid HC
    have hres:Hid (decide (x∈xs)=true):=by show _=_; rw [← he]; exact decide_eq_true hmem
    have h0i:decide ((0:Int)≤(i:Int))=true:=decide_eq_true (by omega)
    clear htk hmem he hno
    go_wp2_with fail
    refine HC.out.mono ?_
    rintro e w' ⟨rfl,hb⟩
    have hbn:=btt hbr hb
    go_wp2
    go_ret
    exact ⟨_,rfl,by rw [hres.out]; exact h0i,hbn⟩
   ·rw [decide_eq_false he] at HC
    replace HC:=Lib.hid HC
    have hnx:Hid (x ∉ xs.take (i+1)):=by
     show ¬ _
     rw [htk,List.mem_append,List.mem_singleton]
     exact fun h=>h.elim hno.out fun h=>he h.symm
    clear htk hmem he hno
    go_wp2_with fail
    refine HC.out.mono ?_
    rintro e w' ⟨rfl,hb⟩
    have hbn:=btt hbr hb
    go_wp2
    go_roundw
    case rel=>exact ⟨i+1,by go_num,hlt,hnx,hbn⟩
    case measure=>simp [intOf]; omega
  ·have hres:Hid (decide (x∈xs)=false):=by
    show _=_
    have:=hno.out
    rw [List.take_of_length_le (by omega)] at this
    exact decide_eq_false this
   clear hno
   go_wp2
   go_ret
   exact ⟨_,rfl,by rw [hres.out]; rfl,hbr⟩
theorem hasContains {w:World} {u vv:Value} {bv:Nat} {xs:List (List Int)} {x:List Int} (hx:Intss w u xs) (cv:w.cell? ⟨bv,0,none⟩=some vv) (hv:Ints w vv x) :
  Calls Tryz.prog 26 #[u,.func (.func 220) #[] #[.pointer (some ⟨bv,0,none⟩)]] w fun e w'=>e = .returned (.bool (decide (x∈xs)))∧Below w.heap.size w w':=by
 have HI:=hasIndex hx cv hv
 obtain ⟨A,hA⟩:=exE (decide (x∈xs))
 rw [hA] at HI ⊢
 replace HI:=Lib.hid HI
 clear hA
 obtain ⟨ua,uc,hu⟩:=hx.shape
 subst hu
 clear hx hv
 go_enter Tryz.func26, Tryz.ntmps26
 go_wp2_with fail
 refine HI.out.mono ?_
 rintro e w' ⟨z,rfl,hz,hw'⟩
 go_wp2
 go_ret
 exact ⟨rfl,hw'⟩
theorem hasC {w:World} {u v:Value} {l:List (List Int)} {x:List Int} (hx:Intss w u l) (hv:Ints w v x) :
  Calls Tryz.prog 202 #[u,v] w fun e w'=>e = .returned (.bool (decide (x∈l)))∧Below w.heap.size w w':=by
 obtain ⟨va,vc,hvv⟩:=hv.shape
 subst hvv
 obtain ⟨W1,hW1⟩:=exF (w.alloc (.cells #[.slice va x.length vc] 25))
 have hb1:Below w.heap.size w W1:=by rw [hW1]; exact (Below.refl _ _).alloc (Nat.le_refl _) _
 have k1:W1.heap[w.heap.size]? = some (.cells #[.slice va x.length vc] 25 (0,0)):=by rw [hW1]; exact heap_alloc_new _ _
 have HC:=Lib.hid (hasContains (hx.keep hb1) (cell_of_one k1) (hv.keep hb1))
 obtain ⟨ua,uc,hu⟩:=hx.shape
 subst hu
 obtain ⟨A,hA⟩:=exE (decide (x∈l))
 rw [hA] at HC ⊢
 clear hx hv hA k1
 go_enter Tryz.func202, Tryz.ntmps202
 go_wp2_with fail
 rw [← hW1]
 replace hW1:=Lib.hid hW1
 refine HC.out.mono ?_
 rintro e w' ⟨rfl,hb2⟩
 have hb:=btt hb1 hb2
 go_wp2
 go_ret
 exact ⟨rfl,hb⟩
theorem firstE_step {f:Nat→Int} {m k:Nat} {F:Int} (h:firstE f (m+1) k=F) (h0:f k=0):firstE f m (k+1)=F:=by rw [firstE,if_neg (fun g=>g h0)] at h; exact h
theorem firstE_stop {f:Nat→Int} {m k:Nat} {F:Int} (h:firstE f (m+1) k=F) (h0:f k ≠ 0):f k=F:=by rw [firstE,if_pos h0] at h; exact h
theorem outE_eq {n o:Int} {l:List (List Int)} {k:Nat}:outE n o l k=if vecE (l.getD k []) n o ≠ 0 then vecE (l.getD k []) n o else if unordB l k=true then 14 else 0:=by
 unfold outE unordB; simp only [decide_eq_true_eq]
theorem calmE_eq {o l:List (List Int)} {k:Nat}:calmE o l k=if decide (l.getD k []∈o)=false then 6 else if unordB l k=true then 14 else 0:=by
 unfold calmE unordB; simp only [decide_eq_true_eq,decide_eq_false_iff_not]
theorem Intss.at {w:World} {a:Option Addr} {c:Nat} {l:List (List Int)} (h:Intss w (.slice a l.length c) l) (h0:0 < l.length):∃ b off,a=some ⟨b,off,none⟩∧∀ j,j < l.length→∃ u,w.cell? ⟨b,off+j,none⟩=some u∧Ints w u (l.getD j []):=by
 obtain ⟨a',c',b,off,hv,ha,hc,_⟩:=h
 injection hv with e1 _ _
 exact ⟨b,off,e1.trans (ha h0),hc⟩
theorem vectorsC {w:World} {n i o:Int} {ta:Option Addr} {tn tc:Nat} {u0 u1 u2:Value} {c:Cs} (h0:Ints w u0 c.1) (h1:Intss w u1 c.2.1) (h2:Intss w u2 c.2.2) :
  Calls Tryz.prog 165 #[.agg #[.int .i64 n,.int .i64 i,.int .i64 o,.slice ta tn tc],.agg #[u0,u1,u2]] w fun e w'=>e = .returned (.int .i64 (outsE n o c))∧Below w.heap.size w w':=by
 obtain ⟨a0,c0,hs0⟩:=h0.shape
 obtain ⟨a1,c1,hs1⟩:=h1.shape
 obtain ⟨a2,c2,hs2⟩:=h2.shape
 subst hs0 hs1 hs2
 obtain ⟨x0,l1,l2⟩:=c
 have hl2:l2.length≤5864062014805:=by obtain ⟨_,_,_,_,_,_,_,h⟩:=h2; exact h
 obtain ⟨n0,hn0⟩:=exE (x0.length)
 obtain ⟨W1,hW1⟩:=exF ((w.alloc (.cells #[.int .i64 n,.int .i64 i,.int .i64 o,.slice ta tn tc] 64)).alloc (.cells #[.slice a0 n0 c0,.slice a1 l1.length c1,.slice a2 l2.length c2] 128))
 have hb1:Below w.heap.size w W1:=by rw [hW1]; exact ((Below.refl _ w).alloc (Nat.le_refl _) _).alloc (by simp) _
 have kT:W1.heap[w.heap.size]? = some (.cells #[.int .i64 n,.int .i64 i,.int .i64 o,.slice ta tn tc] 64):=by
  rw [hW1]; exact (Below.heap_alloc _ _ _ (by simp)).trans (World.alloc_heap_new w _)
 have kC:W1.heap[w.heap.size+1]? = some (.cells #[.slice a0 n0 c0,.slice a1 l1.length c1,.slice a2 l2.length c2] 128):=by
  rw [hW1]
  have:=World.alloc_heap_new (w.alloc (.cells #[.int .i64 n,.int .i64 i,.int .i64 o,.slice ta tn tc] 64)) (.cells #[.slice a0 n0 c0,.slice a1 l1.length c1,.slice a2 l2.length c2] 128)
  rwa [World.size_alloc] at this
 have HK:=Lib.hid (fun W (hb:Below W1.heap.size W1 W)=>And.intro (cell_kept hb (show W1.cell? ⟨w.heap.size,0,none⟩=some (.int .i64 n) by rw [cell_of_row _ _ 0 _ _ _ kT]; rfl)) (And.intro (cell_kept hb (show W1.cell? ⟨w.heap.size,2,none⟩=some (.int .i64 o) by rw [cell_of_row _ _ 2 _ _ _ kT]; rfl)) (And.intro (cell_kept hb (show W1.cell? ⟨w.heap.size+1,1,none⟩=some (.slice a1 l1.length c1) by rw [cell_of_row _ _ 1 _ _ _ kC]; rfl)) (cell_kept hb (show W1.cell? ⟨w.heap.size+1,2,none⟩=some (.slice a2 l2.length c2) by rw [cell_of_row _ _ 2 _ _ _ kC]; rfl)))))
 have H1:=Lib.hid (fun W (hb:Below W1.heap.size W1 W)=>(h1.keep hb1).keep hb)
 have H2:=Lib.hid (fun W (hb:Below W1.heap.size W1 W)=>(h2.keep hb1).keep hb)
 obtain ⟨E,hE⟩:=exE (outsE n o (x0,l1,l2))
 rw [hE,hn0]
 unfold outsE at hE
 simp only at hE
 clear h0 h1 h2 kT kC
 obtain ⟨g0,g1,g2,g3⟩:=HK.out W1 (Below.refl _ _)
 rw [hW1] at g0 g1 g2 g3
 by_cases hlen:l1.length < 1∨1024 < l1.length
 ·rw [if_pos hlen] at hE
  replace hE:=Lib.hid hE
  rcases hlen with hl | hl
  ·have d1:decide ((l1.length:Int) < 1)=true:=decide_eq_true (by omega)
   clear hl
   go_enter Tryz.func165, Tryz.ntmps165
   go_wp2
   go_ret
   exact ⟨ret_int hE.out,by rw [← hW1]; exact hb1⟩
  ·have d1:decide ((l1.length:Int) < 1)=false:=decide_eq_false (by omega)
   have d2:decide ((1024:Int) < (l1.length:Int))=true:=decide_eq_true (by omega)
   clear hl
   go_enter Tryz.func165, Tryz.ntmps165
   go_wp2
   go_ret
   exact ⟨ret_int hE.out,by rw [← hW1]; exact hb1⟩
 ·rw [if_neg hlen] at hE
  obtain ⟨F1,hF1⟩:=exE (firstE (outE n o l1) l1.length 0)
  obtain ⟨F2,hF2⟩:=exE (firstE (calmE l1 l2) l2.length 0)
  rw [hF1,hF2] at hE
  have s1:Hid (firstE (outE n o l1) (l1.length - 0) 0=F1):=hF1
  have s2:Hid (firstE (calmE l1 l2) (l2.length - 0) 0=F2):=hF2
  replace hE:=Lib.hid hE
  have d1:decide ((l1.length:Int) < 1)=false:=decide_eq_false (by omega)
  have d2:decide ((1024:Int) < (l1.length:Int))=false:=decide_eq_false (by omega)
  have hl0:0 < l1.length:=by omega
  have hlb:l1.length≤1024:=by omega
  clear hlen hF1 hF2
  go_enter Tryz.func165, Tryz.ntmps165
  go_wp2_with fail
  rw [← hW1]
  replace hW1:=Lib.hid hW1
  clear g0 g1 g2 g3 d1 d2
  go_loopw [23] (fun iv wr=>∃ k:Nat,iv = .int .i64 k∧k≤l1.length∧Hid (firstE (outE n o l1) (l1.length - k) k=F1)∧Below W1.heap.size W1 wr) (fun iv _=>l1.length - (intOf iv).toNat)
  case atStart=>exact ⟨0,rfl,by omega,s1,Below.refl _ _⟩
  case round=>
   clear s1
   obtain ⟨k,rfl,hk,ht,hbr⟩:=hrel
   obtain ⟨g0,g1,g2,g3⟩:=HK.out wr hbr
   by_cases hlt:k < l1.length
   ·have ht1:=ht.out
    rw [show l1.length - k=(l1.length - (k+1))+1 by omega] at ht1
    obtain ⟨b,off,rfl,hc⟩:=(H1.out wr hbr).at hl0
    obtain ⟨u,cu,hu⟩:=hc k hlt
    have HV:=vectorC (n:=n) (most:=o) hu
    have HU:=Lib.hid (fun W (hb:Below wr.heap.size wr W)=>unordC ((H1.out wr hbr).keep hb) hlt)
    obtain ⟨ua,uc,hus⟩:=hu.shape
    subst hus
    obtain ⟨z,hz⟩:=exE (vecE (l1.getD k []) n o)
    obtain ⟨B,hB⟩:=exE (unordB l1 k)
    have hfk:=outE_eq (n:=n) (o:=o) (l:=l1) (k:=k)
    rw [hz,hB] at hfk
    rw [hz] at HV
    simp only [hB] at HU
    obtain ⟨m,hm⟩:=exE ((l1.getD k []).length)
    rw [hm] at cu HV
    replace HV:=Lib.hid HV
    clear hc hu hz hB hm ht
    by_cases hz0:z=0
    ·subst hz0
     rw [if_neg (fun h=>h rfl)] at hfk
     cases B
     ·have hn:=Lib.hid (firstE_step ht1 hfk)
      clear ht1 hfk
      go_wp2_with fail
      refine HV.out.mono ?_
      rintro e w2 ⟨rfl,hb2⟩
      obtain ⟨g0,g1,g2,g3⟩:=HK.out w2 (btt hbr hb2)
      go_wp2_with fail
      refine (HU.out w2 hb2).mono ?_
      rintro e w3 ⟨rfl,hb3⟩
      have hb03:=btt (btt hbr hb2) hb3
      go_wp2_with fail
      go_roundw
      case rel=>exact ⟨k+1,by go_num,hlt,hn,hb03⟩
      case measure=>simp [intOf]; omega
     ·have hn:=Lib.hid (firstE_stop ht1 (by rw [hfk]; decide))
      rw [hfk] at hn
      have hEE:Hid ((14:Int)=E):=by
       have:=hE.out
       rw [← hn.out] at this
       exact this
      clear ht1 hfk hn
      go_wp2_with fail
      refine HV.out.mono ?_
      rintro e w2 ⟨rfl,hb2⟩
      obtain ⟨g0,g1,g2,g3⟩:=HK.out w2 (btt hbr hb2)
      go_wp2_with fail
      refine (HU.out w2 hb2).mono ?_
      rintro e w3 ⟨rfl,hb3⟩
      have hb03:=btt hb1 (btt (btt hbr hb2) hb3)
      go_wp2_with fail
      go_ret
      exact ⟨ret_int hEE.out,hb03⟩
    ·rw [if_pos hz0] at hfk
     have hn:=firstE_stop ht1 (by rw [hfk]; exact hz0)
     rw [hfk] at hn
     have hEE:Hid (z=E):=by
      have:=hE.out
      rw [← hn,if_pos hz0] at this
      exact this
     have hz1:(z != 0)=true:=by simpa using hz0
     clear ht1 hfk hn
     go_wp2_with fail
     refine HV.out.mono ?_
     rintro e w2 ⟨rfl,hb2⟩
     have hb02:=btt hb1 (btt hbr hb2)
     go_wp2_with fail
     go_ret
     exact ⟨ret_int hEE.out,hb02⟩
   ·have hF:F1=0:=by
     have:=ht.out
     rw [show l1.length - k=0 by omega] at this
     exact this.symm
    have hEE:Hid (F2=E):=by
     have:=hE.out
     rw [hF,if_neg (fun h=>h rfl)] at this
     exact this
    clear ht hF hE
    go_wp2_with fail
    obtain ⟨wo,hwo⟩:=exF (wr)
    rw [← hwo]
    rw [← hwo] at hbr
    clear hwo g0 g1 g2 g3
    go_loopw [45] (fun iv wr=>∃ k:Nat,iv = .int .i64 k∧k≤l2.length∧Hid (firstE (calmE l1 l2) (l2.length - k) k=F2)∧Below W1.heap.size W1 wr) (fun iv _=>l2.length - (intOf iv).toNat)
    case atStart=>exact ⟨0,rfl,by omega,s2,hbr⟩
    case round=>
     clear s2 hbr
     obtain ⟨k,rfl,hk,ht,hbr⟩:=hrel
     obtain ⟨g0,g1,g2,g3⟩:=HK.out wr hbr
     by_cases hlt:k < l2.length
     ·have ht1:=ht.out
      rw [show l2.length - k=(l2.length - (k+1))+1 by omega] at ht1
      obtain ⟨b,off,rfl,hc⟩:=(H2.out wr hbr).at (by omega)
      obtain ⟨u,cu,hu⟩:=hc k hlt
      have HV:=hasC (H1.out wr hbr) hu
      have HU:=Lib.hid (fun W (hb:Below wr.heap.size wr W)=>unordC ((H2.out wr hbr).keep hb) hlt)
      obtain ⟨ua,uc,hus⟩:=hu.shape
      subst hus
      obtain ⟨A,hA⟩:=exE (decide (l2.getD k []∈l1))
      obtain ⟨B,hB⟩:=exE (unordB l2 k)
      have hfk:=calmE_eq (o:=l1) (l:=l2) (k:=k)
      rw [hA,hB] at hfk
      rw [hA] at HV
      simp only [hB] at HU
      obtain ⟨m,hm⟩:=exE ((l2.getD k []).length)
      rw [hm] at cu HV
      replace HV:=Lib.hid HV
      clear hc hu hA hB hm ht
      cases A
      ·rw [if_pos rfl] at hfk
       have hn:=firstE_stop ht1 (by rw [hfk]; decide)
       rw [hfk] at hn
       have hE6:Hid ((6:Int)=E):=by
        have:=hEE.out
        rw [← hn] at this
        exact this
       clear ht1 hfk hn
       go_wp2_with fail
       refine HV.out.mono ?_
       rintro e w2 ⟨rfl,hb2⟩
       have hb02:=btt hb1 (btt hbr hb2)
       go_wp2_with fail
       go_ret
       exact ⟨ret_int hE6.out,hb02⟩
      ·cases B
       ·have hn:=Lib.hid (firstE_step ht1 hfk)
        clear ht1 hfk
        go_wp2_with fail
        refine HV.out.mono ?_
        rintro e w2 ⟨rfl,hb2⟩
        obtain ⟨g0,g1,g2,g3⟩:=HK.out w2 (btt hbr hb2)
        go_wp2_with fail
        refine (HU.out w2 hb2).mono ?_
        rintro e w3 ⟨rfl,hb3⟩
        have hb03:=btt (btt hbr hb2) hb3
        go_wp2_with fail
        go_roundw
        case rel=>exact ⟨k+1,by go_num,hlt,hn,hb03⟩
        case measure=>simp [intOf]; omega
       ·have hn:=firstE_stop ht1 (by rw [hfk]; decide)
        rw [hfk] at hn
        have hE14:Hid ((14:Int)=E):=by
         have:=hEE.out
         rw [← hn] at this
         exact this
        clear ht1 hfk hn
        go_wp2_with fail
        refine HV.out.mono ?_
        rintro e w2 ⟨rfl,hb2⟩
        obtain ⟨g0,g1,g2,g3⟩:=HK.out w2 (btt hbr hb2)
        go_wp2_with fail
        refine (HU.out w2 hb2).mono ?_
        rintro e w3 ⟨rfl,hb3⟩
        have hb03:=btt hb1 (btt (btt hbr hb2) hb3)
        go_wp2_with fail
        go_ret
        exact ⟨ret_int hE14.out,hb03⟩
     ·have hE0:Hid ((0:Int)=E):=by
       have:=ht.out
       rw [show l2.length - k=0 by omega] at this
       rw [← hEE.out,← this]; rfl
      have hb03:=btt hb1 hbr
      clear ht
      go_wp2_with fail
      go_ret
      exact ⟨ret_int hE0.out,hb03⟩
end Go.Proofs.YtmikofeildnpdaaGreat

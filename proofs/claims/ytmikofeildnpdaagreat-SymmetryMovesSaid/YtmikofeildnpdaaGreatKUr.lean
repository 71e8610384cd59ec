/- Texts of this claim, put together: G5 M1 N0 CB E6 DC QO Mc Pm. -/
import Derived.Test.YtmikofeildnpdaaGreatKUq
import Derived.Test.YtmikofeildnpdaaGreatKUj
import Derived.Lib.AppendZeros
import Derived.Test.YtmikofeildnpdaaGreatKUk
import Derived.Test.YtmikofeildnpdaaGreatKUi
import Derived.Test.YtmikofeildnpdaaGreatKUf
import Derived.Lib.Builder
import Derived.Lib.AppendStr
import Derived.Lib.UnsafeStr
import Derived.Lib.Strings
import Derived.Lib.Slices
import Derived.Lib.Walk
import Derived.Laws.Externs
import Derived.Laws.IdiomCopy
import Derived.OwnWalkIn
import Derived.RangeFuncBox
import Derived.Deep.OwnRows
import Derived.Test.YtmikofeildnpdaaGreatKUg
import Derived.Test.YtmikofeildnpdaaGreatKUe
import Derived.Deep.LoopGhost
import Derived.IntWalk
import Derived.Laws.AppendOwnNone
import Derived.Deep.RegionHeld3
import Derived.Deep.DeepCutAuto
import Derived.Laws.EntriesVeiled
import Derived.Lib.OwnBridge
import Derived.Sort.OwnSortedInts
import Derived.Laws.BytesArg
import Derived.Test.YtmikofeildnpdaaGreatKUd
import Derived.Test.YtmikofeildnpdaaGreatKUp
import Derived.Test.YtmikofeildnpdaaGreatKUm

set_option maxRecDepth 100000
set_option maxHeartbeats 12800000
/- The references: Same of adversaries; Classes. -/
namespace Go.Proofs.YtmikofeildnpdaaGreat
open Go.RowKit Go.ChangeMaps Go.MapKept
theorem boxAdv2 {w:World} {m n:Int} {a b:Option Addr} {l c l' c':Nat} {w1:World} (hw:w1=(w.alloc (.cells #[.int .i64 m,.slice a l c] 24)).alloc (.cells #[.int .i64 n,.slice b l' c'] 24)) :
  Below w.heap.size w w1∧(w1.cell? ⟨w.heap.size,0,none⟩=some (.int .i64 m)∧w1.cell? ⟨w.heap.size,1,none⟩=some (.slice a l c))∧(w1.cell? ⟨w.heap.size+1,0,none⟩=some (.int .i64 n)∧w1.cell? ⟨w.heap.size+1,1,none⟩=some (.slice b l' c'))∧
  w1.heap[w.heap.size+1]? = some (.cells #[.int .i64 n,.slice b l' c'] 24)∧w1.heap.size=w.heap.size+2:=by
 obtain ⟨b1,p0,p1,_⟩:=boxAdv (w:=w) (n:=m) (a:=a) (l:=l) (c:=c) rfl
 obtain ⟨b2,q0,q1,q2⟩:=boxAdv hw
 rw [World.size_alloc] at q0 q1 q2
 exact ⟨bt b1 b2 b1.size,⟨cell_kept b2 p0,cell_kept b2 p1⟩,⟨q0,q1⟩,q2,by rw [hw]; simp⟩
theorem sameRef {w:World} {u v:Value} {m n:Int} {xs ys:List (List (List Int))} (hx:AdvV w u m xs) (hy:AdvV w v n ys) :
  Calls Tryz.prog 17 #[u,v] w fun e w'=>e = .returned (.bool (decide (m=n) && decide (xs=ys)))∧Below w.heap.size w w':=by
 obtain ⟨su,rfl,hu⟩:=hx
 obtain ⟨sv,rfl,hv⟩:=hy
 obtain ⟨xa,xc,xb,xo,rfl,hxa,hxc,_⟩:=hu
 obtain ⟨ya,yc,yb,yo,rfl,hya,hyc,_⟩:=hv
 obtain ⟨W1,hW1⟩:=exF ((w.alloc (.cells #[.int .i64 m,.slice xa xs.length xc] 24)).alloc (.cells #[.int .i64 n,.slice ya ys.length yc] 24))
 obtain ⟨hb1,⟨p0,p1⟩,⟨r0,r1⟩,_⟩:=boxAdv2 hW1
 by_cases hmn:m=n
 ·subst hmn
  rw [decide_eq_true rfl,Bool.true_and]
  obtain ⟨B,hB⟩:∃ B,decide (xs=ys)=B:=⟨_,rfl⟩
  rw [hB]
  replace hB:=Lib.hid hB
  by_cases hlen:xs.length=ys.length
  ·rw [← hlen] at hW1 r1 ⊢
   replace hlen:=Lib.hid hlen
   have hxc:=Lib.hid (fun j (hj:j < xs.length)=>show ∃ u,W1.cell? ⟨xb,xo+j,none⟩=some u∧KS 8 W1 u (xs.getD j []) from let ⟨u,h1,h2⟩:=hxc j hj; ⟨u,cell_kept hb1 h1,h2.keep hb1⟩)
   have hyc:=Lib.hid (fun j (hj:j < ys.length)=>show ∃ u,W1.cell? ⟨yb,yo+j,none⟩=some u∧KS 8 W1 u (ys.getD j []) from let ⟨u,h1,h2⟩:=hyc j hj; ⟨u,cell_kept hb1 h1,h2.keep hb1⟩)
   have h0:Hid (xs.take 0=ys.take 0):=rfl
   go_enter Tryz.func17, Tryz.ntmps17
   go_wp2_with fail
   rw [← hW1]
   replace hW1:=Lib.hid hW1
   go_wp2_with fail
   go_loopw [5] (fun iv wr=>∃ i:Nat,iv = .int .i64 i∧i≤xs.length∧Hid (xs.take i=ys.take i)∧Qt W1 wr) (fun iv _=>xs.length - (intOf iv).toNat)
   case atStart=>exact ⟨0,rfl,by omega,h0,Qt.refl _⟩
   case round=>
    clear h0
    obtain ⟨i,rfl,hi,ht,n,rfl⟩:=hrel
    by_cases hlt:i < xs.length
    ·obtain rfl:=hxa (by omega)
     obtain rfl:=hya (by rw [← hlen.out]; omega)
     have hlt':i < ys.length:=by rw [← hlen.out]; exact hlt
     obtain ⟨u1,hxi,hxk⟩:=hxc.out i hlt
     obtain ⟨u2,hyi,hyk⟩:=hyc.out i hlt'
     obtain ⟨x,hx⟩:=exE (xs.getD i [])
     obtain ⟨y,hy⟩:=exE (ys.getD i [])
     rw [hx] at hxk
     rw [hy] at hyk
     have hyes:Hid (x=y→xs.take (i+1)=ys.take (i+1)):=fun h=>takes_next ht.out hlt hlt' (d:=[]) (by rw [hx,hy,h])
     have hno:Hid (x ≠ y→B=false):=fun h=>by
      rw [← hB.out]
      exact decide_eq_false fun h2=>h (by rw [← hx,← hy,h2])
     obtain ⟨ma,mc,mb,mo,rfl,hma,hmc,_⟩:=hxk
     obtain ⟨na,nc,nb,no,rfl,hna,hnc,_⟩:=hyk
     replace hmc:=Lib.hid hmc
     replace hnc:=Lib.hid hnc
     have hix:(i:Int) < (xs.length:Int):=by omega
     clear hx hy ht
     by_cases hl2:x.length=y.length
     ·rw [← hl2] at hyi
      have hl2':=Lib.hid hl2
      have h00:Hid (x.take 0=y.take 0):=rfl
      clear hl2
      go_wp2_with fail
      go_quiet (fail)
      go_wp2_with fail
      go_loopw [6] (fun jv wr=>∃ j:Nat,jv = .int .i64 j∧j≤x.length∧Hid (x.take j=y.take j)∧Qt W1 wr) (fun jv _=>x.length - (intOf jv).toNat)
      case atStart=>exact ⟨0,rfl,by omega,h00,by first | exact (Qt.mk' W1 n).step nq | exact Qt.mk' W1 _⟩
      case round=>
       clear h00
       obtain ⟨j,rfl,hj,ht,k,rfl⟩:=hrel
       by_cases hltj:j < x.length
       ·obtain rfl:=hma (by omega)
        obtain rfl:=hna (by rw [← hl2'.out]; omega)
        have hltj':j < y.length:=by rw [← hl2'.out]; exact hltj
        obtain ⟨hx8,hxj⟩:=hmc.out j hltj
        obtain ⟨hy8,hyj⟩:=hnc.out j hltj'
        obtain ⟨p,hp⟩:=exE (x.getD j [])
        obtain ⟨q,hq⟩:=exE (y.getD j [])
        rw [hp] at hx8 hxj
        rw [hq] at hy8 hyj
        obtain ⟨x0,x1,x2,x3,x4,x5,x6,x7,rfl⟩:=eight hx8
        obtain ⟨y0,y1,y2,y3,y4,y5,y6,y7,rfl⟩:=eight hy8
        obtain ⟨c0,c1,c2,c3,c4,c5,c6,c7⟩:=hxj.all8
        obtain ⟨d0,d1,d2,d3,d4,d5,d6,d7⟩:=hyj.all8
        have hjx:(j:Int) < (x.length:Int):=by omega
        clear hxj hyj hx8 hy8
        by_cases he : [x0,x1,x2,x3,x4,x5,x6,x7] = [y0,y1,y2,y3,y4,y5,y6,y7]
        ·have hE:eqL [x0,x1,x2,x3,x4,x5,x6,x7] [y0,y1,y2,y3,y4,y5,y6,y7]=true:=eqL_true.2 he
         have ht2:Hid (x.take (j+1)=y.take (j+1)):=takes_next ht.out hltj hltj' (by rw [hp,hq,he])
         clear hp hq he ht
         go_wp2_with fail
         go_quiet (fail)
         go_wp2_with fail
         go_roundw
         case rel=>exact ⟨j+1,by go_num,hltj,ht2,by first | exact (Qt.mk' W1 k).step nq | exact Qt.mk' W1 _⟩
         case measure=>simp [intOf]; omega
        ·have hE:eqL [x0,x1,x2,x3,x4,x5,x6,x7] [y0,y1,y2,y3,y4,y5,y6,y7]=false:=eqL_false.2 he
         have hBf:Hid (B=false):=hno.out fun h=>he (by rw [← hp,← hq,h])
         clear hp hq he ht hyes hno
         go_wp2_with fail
         go_quiet (fail)
         go_wp2_with fail
         go_ret
         exact ⟨by rw [hBf.out]; rfl,by first | exact below_drewN hb1 _ | exact below_drewN (below_drewN hb1 _) _⟩
       ·have ht2:Hid (xs.take (i+1)=ys.take (i+1)):=hyes.out (takes_all ht.out (by omega) (by rw [← hl2'.out]; omega))
        clear hyes hno ht
        go_wp2_with fail
        go_roundw
        case rel=>exact ⟨i+1,by go_num,hlt,ht2,Qt.mk' W1 _⟩
        case measure=>simp [intOf]; omega
     ·have hBf:Hid (B=false):=hno.out fun h=>hl2 (by rw [h])
      have h1:((x.length:Int) == (y.length:Int))=false:=by simp; omega
      clear hyes hno
      go_wp2_with fail
      go_quiet (fail)
      go_wp2_with fail
      go_ret
      exact ⟨by rw [hBf.out]; rfl,by first | exact below_drewN hb1 _ | exact below_drewN (below_drewN hb1 _) _⟩
    ·have hBt:Hid (B=true):=by
      show _=_
      rw [← hB.out]
      exact decide_eq_true (takes_all ht.out (by omega) (by rw [← hlen.out]; omega))
     clear ht
     go_wp2_with fail
     go_ret
     exact ⟨by rw [hBt.out]; rfl,below_drewN hb1 _⟩
  ·have hBf:B=false:=by rw [← hB.out]; exact decide_eq_false fun h=>hlen (by rw [h])
   subst hBf
   have h1:((xs.length:Int) == (ys.length:Int))=false:=by simp; omega
   go_enter Tryz.func17, Tryz.ntmps17
   go_wp2_with fail
   rw [← hW1]
   go_ret
   exact ⟨rfl,hb1⟩
 ·have h1:(m == n)=false:=by simp [hmn]
  rw [decide_eq_false hmn,Bool.false_and]
  go_enter Tryz.func17, Tryz.ntmps17
  go_wp2_with fail
  rw [← hW1]
  go_ret
  exact ⟨rfl,hb1⟩
end Go.Proofs.YtmikofeildnpdaaGreat

/- canonical.Prove: the words of the search, and its second function. -/
namespace Go.Proofs.YtmikofeildnpdaaGreat
open Go.RowKit Go.ChangeMaps Go.MapKept
theorem OwX.same {E:TypeId} {k:Nat} {w w':World} {B n:Nat} {v:Value} {xs:List (List Int)} (h:OwX E k EI w B v n xs) (hk:∀ g,v.ownBlock=some g→w'.heap[g]? = w.heap[g]?):OwX E k EI w' B v n xs:=by
 obtain ⟨vs,h1,h2,h3,h4⟩:=h
 refine ⟨vs,⟨h1.1,?_⟩,h2,h3,h4⟩
 rcases h1.2 with h' | ⟨g,cap,cur,k1,k2,k3,k4⟩
 ·exact .inl h'
 ·exact .inr ⟨g,cap,cur,k1,k2,(hk g (by rw [k1]; rfl)).trans k3,k4⟩
end Go.Proofs.YtmikofeildnpdaaGreat

/- The law's own function split. -/
namespace Go.Proofs.YtmikofeildnpdaaGreat
open Go.RowKit
theorem OwX.store1 {α:Type} {E:TypeId} {El:World→List Value→α→Prop} (hS:Stab E El) {w:World} {B g n cap:Nat} {xs:List α} (h:OwX E 1 El w B (.slice (some ⟨g,0,none⟩) n cap) n xs) {j:Nat} (hj:j < n) {u:Value} (hu:u.oneCell'=true) {x:α} (hEl:El w [u] x) :
  OwX E 1 El (w.setCell ⟨g,j,none⟩ u) B (.slice (some ⟨g,0,none⟩) n cap) n (xs.set j x)∧w.grownBy (w.setCell ⟨g,j,none⟩ u) (some g):=by
 obtain ⟨vs,h1,h2,h3,h4⟩:=h
 obtain ⟨k1,k2⟩:=World.ownsRow.stored h1 j u
 have hX:=KeepX.grown k2 (ownsRow_ty h1)
 have hvl:vs.length=n:=by have:=h1.1; simpa using this
 refine ⟨⟨vs.set j u,k1,by rw [List.length_set]; exact h2,fun y hy=>?_,fun i y hi=>?_⟩,k2⟩
 ·rcases List.mem_or_eq_of_mem_set hy with hy | rfl
  ·exact h3 y hy
  ·exact hu
 ·have hil:i < xs.length:=by
   have:=(List.getElem?_eq_some_iff.1 hi).1
   rwa [List.length_set] at this
  rw [Nat.mul_one]
  have e1:((vs.set j u).drop i).take 1 = [(vs.set j u)[i]'(by rw [List.length_set]; omega)]:=by
   rw [List.drop_eq_getElem_cons (by rw [List.length_set]; omega),List.take_succ_cons,List.take_zero]
  rw [e1]
  by_cases e:i=j
  ·subst e
   rw [List.getElem?_set_self (by omega)] at hi
   injection hi with hi
   subst hi
   rw [List.getElem_set_self]
   exact hS _ _ _ _ hEl hX
  ·rw [List.getElem?_set_ne (fun h=>e h.symm)] at hi
   rw [List.getElem_set_ne (fun h=>e h.symm)]
   have h5:=h4 i y hi
   rw [Nat.mul_one,List.drop_eq_getElem_cons (by omega),List.take_succ_cons,List.take_zero] at h5
   exact hS _ _ _ _ h5 hX
end Go.Proofs.YtmikofeildnpdaaGreat

/- Rounds in ascending order, each once: plain lists. -/
namespace Go.Proofs.YtmikofeildnpdaaGreat
theorem asc_unique {l1 l2:List (List Int)} (h1:AscL l1) (h2:AscL l2) (h:∀ x,x∈l1↔x∈l2):l1=l2:=sorted_unique (lt:=fun a b=>cmpL a b < 0) cmpL_asymm h1 h2 h
end Go.Proofs.YtmikofeildnpdaaGreat

/- Is and Equal. -/
namespace Go.Proofs.YtmikofeildnpdaaGreat
open Go.RowKit Go.ChangeMaps Go.MapKept
def eqErr (m n:Int) (xs ys:List (List (List Int))):Int:=if chkA m xs ≠ 0 then chkA m xs else if chkA n ys ≠ 0 then chkA n ys else if m ≠ n then 22 else 0
end Go.Proofs.YtmikofeildnpdaaGreat

/- combine.text: a list of states, sorted, each once, as a text. -/
namespace Go.Proofs.YtmikofeildnpdaaGreat
open Go.RowKit Go.Sort
def sortL (xs:List Int):List Int:=xs.mergeSort fun x y=>decide (x≤y)
theorem sortL_mem (xs:List Int) (x:Int):x∈sortL xs↔x∈xs:=by simp [sortL]
theorem sortL_asc (xs:List Int):(sortL xs).Pairwise fun a b=>a≤b:=by
 have h:=List.pairwise_mergeSort (le:=fun x y:Int=>decide (x≤y)) (fun a b c h1 h2=>by simp only [decide_eq_true_eq] at h1 h2 ⊢; omega) (fun a b=>by simp only [Bool.or_eq_true,decide_eq_true_eq]; omega) xs
 exact List.Pairwise.imp (fun h=>by simpa using h) h
end Go.Proofs.YtmikofeildnpdaaGreat

/- Orbits of processes: plain; the program's search and the specification find the same. -/
namespace Go.Proofs.YtmikofeildnpdaaGreat
def obIn (p:Nat):List (List Int)→List Bool × List Int→List Bool × List Int
 | [],st=>st
 | g::G,st=>obIn p G (if st.1.getD (g.getD p 0).toNat false then st else (st.1.set (g.getD p 0).toNat true,st.2 ++ [g.getD p 0]))
def obGo (G:List (List Int)):Nat→Nat→List Bool × List (List Int)→List (List Int)
 | 0,_,st=>st.2
 | k+1,p,st=>obGo G k (p+1) (if st.1.getD p false then st else ((obIn p G (st.1,[])).1,st.2 ++ [sortL (obIn p G (st.1,[])).2]))
def orbP (G:List (List Int)) (n:Nat):List (List Int):=obGo G n 0 (List.replicate n false,[])
def mpsB (G:List (List Int)) (p:Nat) (q:Int):Bool:=G.any fun g=>decide (g.getD p 0=q)
def obR (G:List (List Int)) (n p:Nat):List Int:=((List.range n).map Int.ofNat).filter (mpsB G p)
def lstB (G:List (List Int)) (n p:Nat):Bool:=(obR G n p).all fun q=>decide ((p:Int)≤q)
def orbK (G:List (List Int)) (n k:Nat):List (List Int):=((List.range k).filter (lstB G n)).map (obR G n)
def orbR (G:List (List Int)) (n:Nat):List (List Int):=orbK G n n
section
variable {n:Nat} {G:List (List Int)}
theorem mpsB_iff {p:Nat} {q:Int}:mpsB G p q=true↔∃ g∈G,g.getD p 0=q:=by simp [mpsB]
theorem IsP.at {x:List Int} (h:IsP n x) {p:Nat} (hp:p < n):0≤x.getD p 0∧x.getD p 0 < (n:Int):=by
 rw [getD_eq (by rw [h.1]; exact hp)]; exact h.2.1 _ (List.getElem_mem _)
theorem oneL_at {p:Nat} (hp:p < n):(oneL n).getD p 0=(p:Int):=by simp [oneL,hp]
theorem obR_mem (hG:Grp n G) {p:Nat} (hp:p < n) {q:Int}:q∈obR G n p↔∃ g∈G,g.getD p 0=q:=by
 rw [obR,List.mem_filter,mpsB_iff]
 constructor
 ·exact fun h=>h.2
 ·rintro ⟨g,hg,rfl⟩
  have:=(hG.isP g hg).at hp
  refine ⟨List.mem_map.2 ⟨(g.getD p 0).toNat,List.mem_range.2 (by omega),?_⟩,g,hg,rfl⟩
  show (((g.getD p 0).toNat:Nat):Int)=_
  omega
theorem obR_asc (p:Nat):(obR G n p).Pairwise fun a b=>a < b:=by
 refine List.Pairwise.filter _ ?_
 rw [List.pairwise_map]
 exact List.Pairwise.imp (fun h=>by show ((_:Nat):Int) < ((_:Nat):Int); omega) List.pairwise_lt_range
theorem ob_refl (hG:Grp n G) {p:Nat} (hp:p < n):∃ g∈G,g.getD p 0=(p:Int):=⟨_,hG.one,oneL_at hp⟩
theorem ob_symm (h1:1≤n) (h5:n≤5) (hG:Grp n G) {p:Nat} (hp:p < n) {g:List Int} (hg:g∈G):∃ h∈G,h.getD (g.getD p 0).toNat 0=(p:Int):=by
 have hP:=hG.isP g hg
 refine ⟨_,hG.inv h1 h5 hg,?_⟩
 rw [← timesL_getD _ _ _ (by rw [hP.1]; exact hp),(back_left (chk_of h1 h5 hP)).1,hP.1,oneL_at hp]
theorem ob_trans (hG:Grp n G) {p:Nat} (hp:p < n) {g h:List Int} (hg:g∈G) (hh:h∈G):∃ k∈G,k.getD p 0=h.getD (g.getD p 0).toNat 0:=
 ⟨_,hG.mul h hh g hg,timesL_getD _ _ _ (by rw [(hG.isP g hg).1]; exact hp)⟩
theorem obIn_spec {p:Nat} (hp:p < n):∀ {L:List (List Int)} {S:List Bool} {o:List Int},(∀ g∈L,IsP n g)→S.length=n→
  (obIn p L (S,o)).1.length=n∧(∀ q,q < n→((obIn p L (S,o)).1.getD q false=true↔S.getD q false=true∨∃ g∈L,g.getD p 0=(q:Int)))∧
  (o.Nodup→(∀ q∈o,0≤q∧q < (n:Int)∧S.getD q.toNat false=true)→(obIn p L (S,o)).2.Nodup∧∀ q∈(obIn p L (S,o)).2,0≤q∧q < (n:Int))∧
  ∀ q:Int,q∈(obIn p L (S,o)).2↔q∈o∨((∃ g∈L,g.getD p 0=q)∧S.getD q.toNat false=false)
 | [],S,o,_,hS=>by
  refine ⟨hS,fun q _=>by simp [obIn],fun h1 h2=>⟨h1,fun q hq=>⟨(h2 q hq).1,(h2 q hq).2.1⟩⟩,fun q=>by simp [obIn]⟩
 | g::L,S,o,hL,hS=>by
  have hg:=(hL g (by simp)).at hp
  have hq0:((g.getD p 0).toNat:Int)=g.getD p 0:=by omega
  obtain ⟨t,ht⟩:=exE ((g.getD p 0).toNat)
  have htn:t < n:=by omega
  rw [ht] at hq0
  have hst:obIn p (g::L) (S,o)=obIn p L (if S.getD t false then (S,o) else (S.set t true,o ++ [g.getD p 0])):=by rw [obIn,ht]
  rw [hst]
  by_cases hs:S.getD t false=true
  ·rw [if_pos hs]
   obtain ⟨i1,i2,i3,i4⟩:=obIn_spec hp (L:=L) (S:=S) (o:=o) (fun g hg=>hL g (by simp [hg])) hS
   refine ⟨i1,fun q hq=>?_,i3,fun q=>?_⟩
   ·rw [i2 q hq]
    constructor
    ·rintro (h | ⟨x,hx,h⟩)
     ·exact .inl h
     ·exact .inr ⟨x,by simp [hx],h⟩
    ·rintro (h | ⟨x,hx,h⟩)
     ·exact .inl h
     ·rcases List.mem_cons.1 hx with rfl | hx
      ·left; rw [show q=t by omega]; exact hs
      ·exact .inr ⟨x,hx,h⟩
   ·rw [i4 q]
    constructor
    ·rintro (h | ⟨⟨x,hx,h⟩,h'⟩)
     ·exact .inl h
     ·exact .inr ⟨⟨x,by simp [hx],h⟩,h'⟩
    ·rintro (h | ⟨⟨x,hx,h⟩,h'⟩)
     ·exact .inl h
     ·rcases List.mem_cons.1 hx with rfl | hx
      ·rw [← h,← hq0,Int.toNat_natCast,hs] at h'; cases h'
      ·exact .inr ⟨⟨x,hx,h⟩,h'⟩
  ·rw [if_neg hs]
   have hset:∀ q,q < n→((S.set t true).getD q false=true↔S.getD q false=true∨q=t):=fun q hq=>by
    simp only [List.getD_eq_getElem?_getD,List.getElem?_set]
    by_cases e:t=q
    ·subst e; simp [hS,htn]
    ·simp [e]; omega
   obtain ⟨i1,i2,i3,i4⟩:=obIn_spec hp (L:=L) (S:=S.set t true) (o:=o ++ [g.getD p 0]) (fun g hg=>hL g (by simp [hg])) (by simpa using hS)
   refine ⟨i1,fun q hq=>?_,fun h1 h2=>i3 ?_ ?_,fun q=>?_⟩
   ·rw [i2 q hq,hset q hq]
    constructor
    ·rintro ((h | h) | ⟨x,hx,h⟩)
     ·exact .inl h
     ·exact .inr ⟨g,by simp,by omega⟩
     ·exact .inr ⟨x,by simp [hx],h⟩
    ·rintro (h | ⟨x,hx,h⟩)
     ·exact .inl (.inl h)
     ·rcases List.mem_cons.1 hx with rfl | hx
      ·exact .inl (.inr (by omega))
      ·exact .inr ⟨x,hx,h⟩
   ·rw [List.nodup_append]
    refine ⟨h1,by simp,?_⟩
    intro a ha b hb e
    rw [List.mem_singleton] at hb
    subst hb; subst e
    have:=(h2 _ ha).2.2
    rw [ht] at this
    exact hs this
   ·intro q hq
    rcases List.mem_append.1 hq with hq | hq
    ·obtain ⟨k1,k2,k3⟩:=h2 q hq
     exact ⟨k1,k2,(hset q.toNat (by omega)).2 (.inl k3)⟩
    ·rw [List.mem_singleton] at hq; subst hq
     exact ⟨hg.1,hg.2,by rw [ht]; exact (hset t htn).2 (.inr rfl)⟩
   ·rw [i4 q]
    constructor
    ·rintro (h | ⟨⟨x,hx,h⟩,h'⟩)
     ·rcases List.mem_append.1 h with h | h
      ·exact .inl h
      ·rw [List.mem_singleton] at h; subst h
       exact .inr ⟨⟨g,by simp,rfl⟩,by rw [ht]; simpa using hs⟩
     ·refine .inr ⟨⟨x,by simp [hx],h⟩,?_⟩
      have hxp:=(hL x (by simp [hx])).at hp
      rw [h] at hxp
      have:=hset q.toNat (by omega)
      cases e:S.getD q.toNat false with
      | false=>rfl
      | true=>rw [this.2 (.inl e)] at h'; cases h'
    ·rintro (h | ⟨⟨x,hx,h⟩,h'⟩)
     ·exact .inl (List.mem_append_left _ h)
     ·by_cases e:q=g.getD p 0
      ·left; rw [e]; simp
      ·rcases List.mem_cons.1 hx with rfl | hx
       ·exact absurd h.symm e
       ·refine .inr ⟨⟨x,hx,h⟩,?_⟩
        have hxp:=(hL x (by simp [hx])).at hp
        rw [h] at hxp
        have:=hset q.toNat (by omega)
        cases e2:(S.set t true).getD q.toNat false with
        | false=>rfl
        | true=>
         rcases this.1 e2 with k | k
         ·rw [k] at h'; cases h'
         ·omega
def SnP (G:List (List Int)) (n p:Nat) (S:List Bool):Prop:=S.length=n∧∀ q,q < n→(S.getD q false=true↔∃ p',p' < p∧∃ g∈G,g.getD p' 0=(q:Int))
theorem lstB_iff (h1:1≤n) (h5:n≤5) (hG:Grp n G) {p:Nat} (hp:p < n) {S:List Bool} (hS:SnP G n p S):lstB G n p=true↔S.getD p false=false:=by
 have hlst:lstB G n p=true↔∀ q∈obR G n p,(p:Int)≤q:=by simp [lstB]
 rw [hlst]
 constructor
 ·intro h
  cases e:S.getD p false with
  | false=>rfl
  | true=>
   obtain ⟨p',hp',g,hg,hgp⟩:=(hS.2 p hp).1 e
   obtain ⟨k,hk,hkp⟩:=ob_symm h1 h5 hG (p:=p') (by omega) hg
   rw [hgp,Int.toNat_natCast] at hkp
   have:=h _ ((obR_mem hG hp).2 ⟨k,hk,hkp⟩)
   omega
 ·intro h q hq
  obtain ⟨g,hg,rfl⟩:=(obR_mem hG hp).1 hq
  have hgp:=(hG.isP g hg).at hp
  by_cases hlt:(p:Int)≤g.getD p 0
  ·exact hlt
  ·obtain ⟨k,hk,hkp⟩:=ob_symm h1 h5 hG hp hg
   rw [(hS.2 p hp).2 ⟨(g.getD p 0).toNat,by omega,k,hk,hkp⟩] at h
   cases h
theorem SnP.next (h1:1≤n) (h5:n≤5) (hG:Grp n G) {p:Nat} (hp:p < n) {S:List Bool} (hS:SnP G n p S) :
  SnP G n (p+1) (if S.getD p false then S else (obIn p G (S,[])).1)∧(S.getD p false=false→sortL (obIn p G (S,[])).2=obR G n p):=by
 obtain ⟨i1,i2,i3,i4⟩:=obIn_spec hp (L:=G) (S:=S) (o:=[]) hG.isP hS.1
 obtain ⟨i3,i5⟩:=i3 List.nodup_nil (by simp)
 constructor
 ·split
  next e=>
   refine ⟨hS.1,fun q hq=>?_⟩
   rw [hS.2 q hq]
   constructor
   ·rintro ⟨p',h,h'⟩; exact ⟨p',by omega,h'⟩
   ·rintro ⟨p',h,g,hg,h'⟩
    by_cases e2:p' < p
    ·exact ⟨p',e2,g,hg,h'⟩
    ·obtain rfl:p'=p:=by omega
     obtain ⟨p2,hp2,g2,hg2,hgp2⟩:=(hS.2 p' hp).1 e
     obtain ⟨k,hk,hkp⟩:=ob_trans hG (p:=p2) (by omega) hg2 hg
     rw [hgp2,Int.toNat_natCast] at hkp
     exact ⟨p2,hp2,k,hk,hkp.trans h'⟩
  next e=>
   refine ⟨i1,fun q hq=>?_⟩
   rw [i2 q hq,hS.2 q hq]
   constructor
   ·rintro (⟨p',h,h'⟩ | h')
    ·exact ⟨p',by omega,h'⟩
    ·exact ⟨p,by omega,h'⟩
   ·rintro ⟨p',h,h'⟩
    by_cases e2:p' < p
    ·exact .inl ⟨p',e2,h'⟩
    ·obtain rfl:p'=p:=by omega
     exact .inr h'
 ·intro hs
  refine sorted_unique (lt:=fun a b=>a < b) (fun a b h=>by omega) ?_ (obR_asc p) fun q=>?_
  ·have hnd:(sortL (obIn p G (S,[])).2).Nodup:=by
    have hp2:(sortL (obIn p G (S,[])).2).Perm (obIn p G (S,[])).2:=List.mergeSort_perm _ _
    exact hp2.nodup_iff.2 i3
   exact List.Pairwise.imp (fun {a b} (h:a≤b∧a ≠ b)=>by omega) (List.Pairwise.and (sortL_asc _) hnd)
  ·rw [sortL_mem,i4 q,obR_mem hG hp]
   constructor
   ·rintro (h | h)
    ·cases h
    ·exact h.1
   ·rintro ⟨g,hg,h⟩
    refine .inr ⟨⟨g,hg,h⟩,?_⟩
    have hgp:=(hG.isP g hg).at hp
    cases e:S.getD q.toNat false with
    | false=>rfl
    | true=>
     obtain ⟨p',hp',k,hk,hkp⟩:=(hS.2 q.toNat (by omega)).1 e
     obtain ⟨a,ha,hap⟩:=ob_symm h1 h5 hG hp hg
     obtain ⟨b,hb,hbp⟩:=ob_trans hG (p:=p') (by omega) hk ha
     rw [hkp,Int.toNat_natCast] at hbp
     rw [h] at hap
     have:=(hS.2 p hp).2 ⟨p',hp',b,hb,hbp.trans hap⟩
     rw [hs] at this; cases this
theorem orbK_succ (k:Nat):orbK G n (k+1)=if lstB G n k then orbK G n k ++ [obR G n k] else orbK G n k:=by
 rw [orbK,List.range_succ,List.filter_append,List.map_append,← orbK]
 cases h:lstB G n k <;> simp [h]
theorem obGo_eq (h1:1≤n) (h5:n≤5) (hG:Grp n G):∀ (k p:Nat) (S:List Bool),k+p=n→SnP G n p S→obGo G k p (S,orbK G n p)=orbR G n
 | 0,p,S,e,_=>by
  obtain rfl:p=n:=by omega
  rw [obGo,orbR]
 | k+1,p,S,e,hS=>by
  obtain ⟨j1,j2⟩:=hS.next h1 h5 hG (by omega)
  have hl:=lstB_iff h1 h5 hG (by omega) hS
  rw [obGo]
  by_cases hs:S.getD p false=true
  ·rw [if_pos hs] at j1 ⊢
   have:lstB G n p=false:=by
    cases e2:lstB G n p with
    | false=>rfl
    | true=>rw [hl.1 e2] at hs; cases hs
   have h2:=obGo_eq h1 h5 hG k (p+1) S (by omega) j1
   rw [orbK_succ,this] at h2
   exact h2
  ·have hs':S.getD p false=false:=by simpa using hs
   rw [if_neg hs] at j1 ⊢
   have h2:=obGo_eq h1 h5 hG k (p+1) _ (by omega) j1
   rw [orbK_succ,if_pos (hl.2 hs')] at h2
   simp only [j2 hs']
   exact h2
theorem orb_eq (h1:1≤n) (h5:n≤5) (hG:Grp n G):orbP G n=orbR G n:=
 obGo_eq h1 h5 hG n 0 _ (by omega) ⟨by simp,fun q hq=>by simp [hq]⟩
end
end Go.Proofs.YtmikofeildnpdaaGreat

/- Bits of a small set. -/
namespace Go.Proofs.YtmikofeildnpdaaGreat
open Go.RowKit
def popI (x:Int):Int:=x % 2+x / 2 % 2+x / 4 % 2+x / 8 % 2+x / 16 % 2
end Go.Proofs.YtmikofeildnpdaaGreat

/- Moved sets and vectors: plain facts. -/
namespace Go.Proofs.YtmikofeildnpdaaGreat
theorem scat_get {n:Nat} {a v:List Int} (ha:IsP n a):∀ {k:Nat},k≤n→∀ j,j < k→(scat a v (List.replicate n 0) k).getD (a.getD j 0).toNat 0=v.getD j 0
 | 0,_,_,h=>by omega
 | k+1,hk,j,h=>by
  have hj:j < a.length:=by rw [ha.1]; omega
  have hkl:k < a.length:=by rw [ha.1]; omega
  have hm:∀ i,i < a.length→(a.getD i 0).toNat < n∧(((a.getD i 0).toNat:Nat):Int)=a.getD i 0:=fun i hi=>ha.idx (by rw [getD_eq hi]; exact List.getElem_mem hi)
  rw [scat_succ]
  have hl:(scat a v (List.replicate n 0) k).length=n:=by rw [scat_length,List.length_replicate]
  by_cases hjk:j=k
  ·subst hjk
   rw [List.getD_eq_getElem?_getD,List.getElem?_set_self (by rw [hl]; exact (hm j hj).1)]; rfl
  ·have hne:(a.getD k 0).toNat ≠ (a.getD j 0).toNat:=by
    intro e
    have e2:a.getD k 0=a.getD j 0:=by rw [← (hm k hkl).2,← (hm j hj).2,e]
    rw [getD_eq hkl,getD_eq hj] at e2
    exact hjk ((List.getElem_inj ha.2.2).1 e2).symm
   rw [List.getD_eq_getElem?_getD,List.getElem?_set_ne hne,← List.getD_eq_getElem?_getD]
   exact scat_get ha (by omega) j (by omega)
theorem times_moved {n:Nat} {a v:List Int} (ha:IsP n a) (hv:v.length=n):timesL (movedL a v) a=v:=by
 refine List.ext_getElem (by rw [timesL_length,ha.1,hv]) fun k h1 h2=>?_
 have hk:k < a.length:=by rwa [timesL_length] at h1
 rw [← getD_eq h1 0,timesL_getD _ _ _ hk,← getD_eq h2 0]
 unfold movedL
 rw [ha.1]
 exact scat_get ha (Nat.le_refl n) k (by rw [← ha.1]; exact hk)
theorem times_oneR {n:Nat} {x:List Int} (hx:x.length=n):timesL x (oneL n)=x:=by
 have hl:(timesL x (oneL n)).length=x.length:=by rw [timesL_length,oneL_length,hx]
 refine List.ext_getElem hl fun k h1 h2=>?_
 have hk:k < n:=by rw [hl,hx] at h1; exact h1
 have:=timesL_getD x (oneL n) k (by rw [oneL_length]; exact hk)
 rw [oneL_getD hk] at this
 rw [← getD_eq h1 0,this,← getD_eq h2 0]
 simp
theorem times_injR {n:Nat} {a x y:List Int} (hz:chk a=0) (ha:IsP n a) (hx:x.length=n) (hy:y.length=n) (h:timesL x a=timesL y a):x=y:=by
 obtain ⟨_,k2,k3⟩:=back_left hz
 have hbl:(backL a).length=n:=by rw [backL,movedL_length,ha.1]
 have hB:IsP n (backL a):=by have:=chk_isP k3; rw [hbl] at this; exact this
 have e:∀ z:List Int,z.length=n→timesL (timesL z a) (backL a)=z:=fun z hzl=>by
  rw [times_assoc ha.1 hB,k2,ha.1,times_oneR hzl]
 rw [← e x hx,h,e y hy]
theorem moved_moved {n:Nat} {a b v:List Int} (h1:1≤n) (h5:n≤5) (ha:IsP n a) (hb:IsP n b) (hv:v.length=n):movedL a (movedL b v)=movedL (timesL a b) v:=by
 have hab:=ha.times hb
 refine times_injR (a:=timesL a b) (chk_of h1 h5 hab) hab (by rw [movedL_length,ha.1]) (by rw [movedL_length,hab.1]) ?_
 rw [← times_assoc ha.1 hb,times_moved ha (by rw [movedL_length,hb.1]),times_moved hb hv,times_moved hab hv]
theorem perm_one_ok:permsAll.all (fun a=>decide (a.Perm (oneL a.length)))=true:=by decide +kernel
theorem moved_perm {n:Nat} {a v:List Int} (hz:chk a=0) (ha:IsP n a) (hv:v.length=n):(movedL a v).Perm v:=by
 have hp:a.Perm (oneL a.length):=of_decide_eq_true (perm_all perm_one_ok hz)
 have h1:=times_moved ha hv
 have h2:=hp.map (fun q:Int=>(movedL a v).getD q.toNat 0)
 have h3:timesL (movedL a v) (oneL a.length)=movedL a v:=times_oneR (by rw [movedL_length])
 have h4:(timesL (movedL a v) a).Perm (timesL (movedL a v) (oneL a.length)):=h2
 rw [h1,h3] at h4
 exact h4.symm
def bitsL (s:Int) (n:Nat):List Int:=(List.range n).map fun k=>s / 2 ^ k % 2
theorem set_ok02:permsAll.all (fun a=>(List.range (2 ^ a.length)).all fun s=>decide (bitsL (imgP a s a.length) a.length=movedL a (bitsL s a.length)) && decide (0≤imgP a s a.length) && decide (imgP a s a.length < 2 ^ a.length) && decide (popI (imgP a s a.length)=popI s))=true:=by decide +kernel
theorem bits_inj_ok:((List.range 6).all fun n=>(List.range (2 ^ n)).all fun s=>(List.range (2 ^ n)).all fun t=>decide (bitsL (s:Int) n=bitsL (t:Int) n→s=t))=true:=by decide +kernel
theorem bitsL_len (s:Int) (n:Nat):(bitsL s n).length=n:=by simp [bitsL]
theorem set_facts {n:Nat} {a:List Int} (hz:chk a=0) (ha:IsP n a) {s:Int} (h0:0≤s) (h1:s < 2 ^ n):bitsL (imgP a s n) n=movedL a (bitsL s n)∧0≤imgP a s n∧imgP a s n < 2 ^ n∧popI (imgP a s n)=popI s:=by
 have h:=perm_all set_ok02 hz
 rw [ha.1] at h
 have h2:=List.all_eq_true.1 h s.toNat (by rw [List.mem_range]; exact (Int.toNat_lt h0).2 (by simpa using h1))
 simp only [Bool.and_eq_true,decide_eq_true_eq,show ((s.toNat:Nat):Int)=s by omega] at h2
 exact ⟨h2.1.1.1,h2.1.1.2,h2.1.2,h2.2⟩
theorem set_set {n:Nat} {a b:List Int} (h1:1≤n) (h5:n≤5) (ha:IsP n a) (hb:IsP n b) {s:Int} (k0:0≤s) (k1:s < 2 ^ n):imgP a (imgP b s n) n=imgP (timesL a b) s n:=by
 have hab:=ha.times hb
 obtain ⟨b1,b2,b3,_⟩:=set_facts (chk_of h1 h5 hb) hb k0 k1
 obtain ⟨a1,a2,a3,_⟩:=set_facts (chk_of h1 h5 ha) ha b2 b3
 obtain ⟨c1,c2,c3,_⟩:=set_facts (chk_of h1 h5 hab) hab k0 k1
 have e:bitsL (imgP a (imgP b s n) n) n=bitsL (imgP (timesL a b) s n) n:=by
  rw [a1,b1,c1,moved_moved h1 h5 ha hb (bitsL_len s n)]
 have h:=List.all_eq_true.1 bits_inj_ok n (by rw [List.mem_range]; omega)
 have h:=List.all_eq_true.1 h (imgP a (imgP b s n) n).toNat (by rw [List.mem_range]; exact (Int.toNat_lt a2).2 (by simpa using a3))
 have h:=List.all_eq_true.1 h (imgP (timesL a b) s n).toNat (by rw [List.mem_range]; exact (Int.toNat_lt c2).2 (by simpa using c3))
 have h:=of_decide_eq_true h (by rw [Int.toNat_of_nonneg a2,Int.toNat_of_nonneg c2]; exact e)
 omega
end Go.Proofs.YtmikofeildnpdaaGreat

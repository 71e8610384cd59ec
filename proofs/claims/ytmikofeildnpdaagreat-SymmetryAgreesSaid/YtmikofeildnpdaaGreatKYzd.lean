/- Texts of this claim, put together: DC QO ZI. -/
import Derived.Test.YtmikofeildnpdaaGreatKYq
import Derived.Test.YtmikofeildnpdaaGreatKYr
import Derived.Test.YtmikofeildnpdaaGreatKYu
import Derived.Test.YtmikofeildnpdaaGreatKYv
import Derived.Test.YtmikofeildnpdaaGreatKYj
import Derived.Test.YtmikofeildnpdaaGreatKYo
import Derived.Deep.OwnRows
import Derived.Test.YtmikofeildnpdaaGreatKYd
import Derived.Test.YtmikofeildnpdaaGreatKYf
import Derived.Test.YtmikofeildnpdaaGreatKYi
import Derived.Test.YtmikofeildnpdaaGreatKYc
import Derived.Deep.LoopGhost
import Derived.IntWalk
import Derived.Lib.AppendZeros
import Derived.Laws.AppendOwnNone
import Derived.Deep.RegionHeld3
import Derived.Deep.DeepCutAuto
import Derived.Laws.EntriesVeiled
import Derived.Lib.OwnBridge
import Derived.Sort.OwnSortedInts
import Derived.Laws.BytesArg
import Derived.Test.YtmikofeildnpdaaGreatKYp
import Derived.Test.YtmikofeildnpdaaGreatKYn
import Derived.Test.YtmikofeildnpdaaGreatKYzc
import Derived.Test.YtmikofeildnpdaaGreatKYm
import Derived.Deep.Cut

set_option maxRecDepth 100000
set_option maxHeartbeats 12800000
/- combine.text: a list of states, sorted, each once, as a text. -/
namespace Go.Proofs.YtmikofeildnpdaaGreat
open Go.RowKit Go.Sort
def sortL (xs:List Int):List Int:=xs.mergeSort fun x y=>decide (x≤y)
theorem sortL_mem (xs:List Int) (x:Int):x∈sortL xs↔x∈xs:=by simp [sortL]
theorem sortL_asc (xs:List Int):(sortL xs).Pairwise fun a b=>a≤b:=by
 have h:=List.pairwise_mergeSort (le:=fun x y:Int=>decide (x≤y)) (fun a b c h1 h2=>by simp only [decide_eq_true_eq] at h1 h2 ⊢; omega) (fun a b=>by simp only [Bool.or_eq_true,decide_eq_true_eq]; omega) xs
 exact List.Pairwise.imp (fun h=>by simpa using h) h
end Go.Proofs.YtmikofeildnpdaaGreat

/- Orbits of processes: plain; the program's search and the specification find the same. -/
namespace Go.Proofs.YtmikofeildnpdaaGreat
def obIn (p:Nat):List (List Int)→List Bool × List Int→List Bool × List Int
 | [],st=>st
 | g::G,st=>obIn p G (if st.1.getD (g.getD p 0).toNat false then st else (st.1.set (g.getD p 0).toNat true,st.2 ++ [g.getD p 0]))
def obGo (G:List (List Int)):Nat→Nat→List Bool × List (List Int)→List (List Int)
 | 0,_,st=>st.2
 | k+1,p,st=>obGo G k (p+1) (if st.1.getD p false then st else ((obIn p G (st.1,[])).1,st.2 ++ [sortL (obIn p G (st.1,[])).2]))
def orbP (G:List (List Int)) (n:Nat):List (List Int):=obGo G n 0 (List.replicate n false,[])
def mpsB (G:List (List Int)) (p:Nat) (q:Int):Bool:=G.any fun g=>decide (g.getD p 0=q)
def obR (G:List (List Int)) (n p:Nat):List Int:=((List.range n).map Int.ofNat).filter (mpsB G p)
def lstB (G:List (List Int)) (n p:Nat):Bool:=(obR G n p).all fun q=>decide ((p:Int)≤q)
def orbK (G:List (List Int)) (n k:Nat):List (List Int):=((List.range k).filter (lstB G n)).map (obR G n)
def orbR (G:List (List Int)) (n:Nat):List (List Int):=orbK G n n
section
variable {n:Nat} {G:List (List Int)}
theorem mpsB_iff {p:Nat} {q:Int}:mpsB G p q=true↔∃ g∈G,g.getD p 0=q:=by simp [mpsB]
theorem IsP.at {x:List Int} (h:IsP n x) {p:Nat} (hp:p < n):0≤x.getD p 0∧x.getD p 0 < (n:Int):=by
 rw [getD_eq (by rw [h.1]; exact hp)]; exact h.2.1 _ (List.getElem_mem _)
theorem oneL_at {p:Nat} (hp:p < n):(oneL n).getD p 0=(p:Int):=by simp [oneL,hp]
theorem obR_mem (hG:Grp n G) {p:Nat} (hp:p < n) {q:Int}:q∈obR G n p↔∃ g∈G,g.getD p 0=q:=by
 rw [obR,List.mem_filter,mpsB_iff]
 constructor
 ·exact fun h=>h.2
 ·rintro ⟨g,hg,rfl⟩
  have:=(hG.isP g hg).at hp
  refine ⟨List.mem_map.2 ⟨(g.getD p 0).toNat,List.mem_range.2 (by omega),?_⟩,g,hg,rfl⟩
  show (((g.getD p 0).toNat:Nat):Int)=_
  omega
theorem obR_asc (p:Nat):(obR G n p).Pairwise fun a b=>a < b:=by
 refine List.Pairwise.filter _ ?_
 rw [List.pairwise_map]
 exact List.Pairwise.imp (fun h=>by show ((_:Nat):Int) < ((_:Nat):Int); omega) List.pairwise_lt_range
theorem ob_refl (hG:Grp n G) {p:Nat} (hp:p < n):∃ g∈G,g.getD p 0=(p:Int):=⟨_,hG.one,oneL_at hp⟩
theorem ob_symm (h1:1≤n) (h5:n≤5) (hG:Grp n G) {p:Nat} (hp:p < n) {g:List Int} (hg:g∈G):∃ h∈G,h.getD (g.getD p 0).toNat 0=(p:Int):=by
 have hP:=hG.isP g hg
 refine ⟨_,hG.inv h1 h5 hg,?_⟩
 rw [← timesL_getD _ _ _ (by rw [hP.1]; exact hp),(back_left (chk_of h1 h5 hP)).1,hP.1,oneL_at hp]
theorem ob_trans (hG:Grp n G) {p:Nat} (hp:p < n) {g h:List Int} (hg:g∈G) (hh:h∈G):∃ k∈G,k.getD p 0=h.getD (g.getD p 0).toNat 0:=
 ⟨_,hG.mul h hh g hg,timesL_getD _ _ _ (by rw [(hG.isP g hg).1]; exact hp)⟩
theorem obIn_spec {p:Nat} (hp:p < n):∀ {L:List (List Int)} {S:List Bool} {o:List Int},(∀ g∈L,IsP n g)→S.length=n→
  (obIn p L (S,o)).1.length=n∧(∀ q,q < n→((obIn p L (S,o)).1.getD q false=true↔S.getD q false=true∨∃ g∈L,g.getD p 0=(q:Int)))∧
  (o.Nodup→(∀ q∈o,0≤q∧q < (n:Int)∧S.getD q.toNat false=true)→(obIn p L (S,o)).2.Nodup∧∀ q∈(obIn p L (S,o)).2,0≤q∧q < (n:Int))∧
  ∀ q:Int,q∈(obIn p L (S,o)).2↔q∈o∨((∃ g∈L,g.getD p 0=q)∧S.getD q.toNat false=false)
 | [],S,o,_,hS=>by
  refine ⟨hS,fun q _=>by simp [obIn],fun h1 h2=>⟨h1,fun q hq=>⟨(h2 q hq).1,(h2 q hq).2.1⟩⟩,fun q=>by simp [obIn]⟩
 | g::L,S,o,hL,hS=>by
  have hg:=(hL g (by simp)).at hp
  have hq0:((g.getD p 0).toNat:Int)=g.getD p 0:=by omega
  obtain ⟨t,ht⟩:=exE ((g.getD p 0).toNat)
  have htn:t < n:=by omega
  rw [ht] at hq0
  have hst:obIn p (g::L) (S,o)=obIn p L (if S.getD t false then (S,o) else (S.set t true,o ++ [g.getD p 0])):=by rw [obIn,ht]
  rw [hst]
  by_cases hs:S.getD t false=true
  ·rw [if_pos hs]
   obtain ⟨i1,i2,i3,i4⟩:=obIn_spec hp (L:=L) (S:=S) (o:=o) (fun g hg=>hL g (by simp [hg])) hS
   refine ⟨i1,fun q hq=>?_,i3,fun q=>?_⟩
   ·rw [i2 q hq]
    constructor
    ·rintro (h | ⟨x,hx,h⟩)
     ·exact .inl h
     ·exact .inr ⟨x,by simp [hx],h⟩
    ·rintro (h | ⟨x,hx,h⟩)
     ·exact .inl h
     ·rcases List.mem_cons.1 hx with rfl | hx
      ·left; rw [show q=t by omega]; exact hs
      ·exact .inr ⟨x,hx,h⟩
   ·rw [i4 q]
    constructor
    ·rintro (h | ⟨⟨x,hx,h⟩,h'⟩)
     ·exact .inl h
     ·exact .inr ⟨⟨x,by simp [hx],h⟩,h'⟩
    ·rintro (h | ⟨⟨x,hx,h⟩,h'⟩)
     ·exact .inl h
     ·rcases List.mem_cons.1 hx with rfl | hx
      ·rw [← h,← hq0,Int.toNat_natCast,hs] at h'; cases h'
      ·exact .inr ⟨⟨x,hx,h⟩,h'⟩
  ·rw [if_neg hs]
   have hset:∀ q,q < n→((S.set t true).getD q false=true↔S.getD q false=true∨q=t):=fun q hq=>by
    simp only [List.getD_eq_getElem?_getD,List.getElem?_set]
    by_cases e:t=q
    ·subst e; simp [hS,htn]
    ·simp [e]; omega
   obtain ⟨i1,i2,i3,i4⟩:=obIn_spec hp (L:=L) (S:=S.set t true) (o:=o ++ [g.getD p 0]) (fun g hg=>hL g (by simp [hg])) (by simpa using hS)
   refine ⟨i1,fun q hq=>?_,fun h1 h2=>i3 ?_ ?_,fun q=>?_⟩
   ·rw [i2 q hq,hset q hq]
    constructor
    ·rintro ((h | h) | ⟨x,hx,h⟩)
     ·exact .inl h
     ·exact .inr ⟨g,by simp,by omega⟩
     ·exact .inr ⟨x,by simp [hx],h⟩
    ·rintro (h | ⟨x,hx,h⟩)
     ·exact .inl (.inl h)
     ·rcases List.mem_cons.1 hx with rfl | hx
      ·exact .inl (.inr (by omega))
      ·exact .inr ⟨x,hx,h⟩
   ·rw [List.nodup_append]
    refine ⟨h1,by simp,?_⟩
    intro a ha b hb e
    rw [List.mem_singleton] at hb
    subst hb; subst e
    have:=(h2 _ ha).2.2
    rw [ht] at this
    exact hs this
   ·intro q hq
    rcases List.mem_append.1 hq with hq | hq
    ·obtain ⟨k1,k2,k3⟩:=h2 q hq
     exact ⟨k1,k2,(hset q.toNat (by omega)).2 (.inl k3)⟩
    ·rw [List.mem_singleton] at hq; subst hq
     exact ⟨hg.1,hg.2,by rw [ht]; exact (hset t htn).2 (.inr rfl)⟩
   ·rw [i4 q]
    constructor
    ·rintro (h | ⟨⟨x,hx,h⟩,h'⟩)
     ·rcases List.mem_append.1 h with h | h
      ·exact .inl h
      ·rw [List.mem_singleton] at h; subst h
       exact .inr ⟨⟨g,by simp,rfl⟩,by rw [ht]; simpa using hs⟩
     ·refine .inr ⟨⟨x,by simp [hx],h⟩,?_⟩
      have hxp:=(hL x (by simp [hx])).at hp
      rw [h] at hxp
      have:=hset q.toNat (by omega)
      cases e:S.getD q.toNat false with
      | false=>rfl
      | true=>rw [this.2 (.inl e)] at h'; cases h'
    ·rintro (h | ⟨⟨x,hx,h⟩,h'⟩)
     ·exact .inl (List.mem_append_left _ h)
     ·by_cases e:q=g.getD p 0
      ·left; rw [e]; simp
      ·rcases List.mem_cons.1 hx with rfl | hx
       ·exact absurd h.symm e
       ·refine .inr ⟨⟨x,hx,h⟩,?_⟩
        have hxp:=(hL x (by simp [hx])).at hp
        rw [h] at hxp
        have:=hset q.toNat (by omega)
        cases e2:(S.set t true).getD q.toNat false with
        | false=>rfl
        | true=>
         rcases this.1 e2 with k | k
         ·rw [k] at h'; cases h'
         ·omega
def SnP (G:List (List Int)) (n p:Nat) (S:List Bool):Prop:=S.length=n∧∀ q,q < n→(S.getD q false=true↔∃ p',p' < p∧∃ g∈G,g.getD p' 0=(q:Int))
theorem lstB_iff (h1:1≤n) (h5:n≤5) (hG:Grp n G) {p:Nat} (hp:p < n) {S:List Bool} (hS:SnP G n p S):lstB G n p=true↔S.getD p false=false:=by
 have hlst:lstB G n p=true↔∀ q∈obR G n p,(p:Int)≤q:=by simp [lstB]
 rw [hlst]
 constructor
 ·intro h
  cases e:S.getD p false with
  | false=>rfl
  | true=>
   obtain ⟨p',hp',g,hg,hgp⟩:=(hS.2 p hp).1 e
   obtain ⟨k,hk,hkp⟩:=ob_symm h1 h5 hG (p:=p') (by omega) hg
   rw [hgp,Int.toNat_natCast] at hkp
   have:=h _ ((obR_mem hG hp).2 ⟨k,hk,hkp⟩)
   omega
 ·intro h q hq
  obtain ⟨g,hg,rfl⟩:=(obR_mem hG hp).1 hq
  have hgp:=(hG.isP g hg).at hp
  by_cases hlt:(p:Int)≤g.getD p 0
  ·exact hlt
  ·obtain ⟨k,hk,hkp⟩:=ob_symm h1 h5 hG hp hg
   rw [(hS.2 p hp).2 ⟨(g.getD p 0).toNat,by omega,k,hk,hkp⟩] at h
   cases h
theorem SnP.next (h1:1≤n) (h5:n≤5) (hG:Grp n G) {p:Nat} (hp:p < n) {S:List Bool} (hS:SnP G n p S) :
  SnP G n (p+1) (if S.getD p false then S else (obIn p G (S,[])).1)∧(S.getD p false=false→sortL (obIn p G (S,[])).2=obR G n p):=by
 obtain ⟨i1,i2,i3,i4⟩:=obIn_spec hp (L:=G) (S:=S) (o:=[]) hG.isP hS.1
 obtain ⟨i3,i5⟩:=i3 List.nodup_nil (by simp)
 constructor
 ·split
  next e=>
   refine ⟨hS.1,fun q hq=>?_⟩
   rw [hS.2 q hq]
   constructor
   ·rintro ⟨p',h,h'⟩; exact ⟨p',by omega,h'⟩
   ·rintro ⟨p',h,g,hg,h'⟩
    by_cases e2:p' < p
    ·exact ⟨p',e2,g,hg,h'⟩
    ·obtain rfl:p'=p:=by omega
     obtain ⟨p2,hp2,g2,hg2,hgp2⟩:=(hS.2 p' hp).1 e
     obtain ⟨k,hk,hkp⟩:=ob_trans hG (p:=p2) (by omega) hg2 hg
     rw [hgp2,Int.toNat_natCast] at hkp
     exact ⟨p2,hp2,k,hk,hkp.trans h'⟩
  next e=>
   refine ⟨i1,fun q hq=>?_⟩
   rw [i2 q hq,hS.2 q hq]
   constructor
   ·rintro (⟨p',h,h'⟩ | h')
    ·exact ⟨p',by omega,h'⟩
    ·exact ⟨p,by omega,h'⟩
   ·rintro ⟨p',h,h'⟩
    by_cases e2:p' < p
    ·exact .inl ⟨p',e2,h'⟩
    ·obtain rfl:p'=p:=by omega
     exact .inr h'
 ·intro hs
  refine sorted_unique (lt:=fun a b=>a < b) (fun a b h=>by omega) ?_ (obR_asc p) fun q=>?_
  ·have hnd:(sortL (obIn p G (S,[])).2).Nodup:=by
    have hp2:(sortL (obIn p G (S,[])).2).Perm (obIn p G (S,[])).2:=List.mergeSort_perm _ _
    exact hp2.nodup_iff.2 i3
   exact List.Pairwise.imp (fun {a b} (h:a≤b∧a ≠ b)=>by omega) (List.Pairwise.and (sortL_asc _) hnd)
  ·rw [sortL_mem,i4 q,obR_mem hG hp]
   constructor
   ·rintro (h | h)
    ·cases h
    ·exact h.1
   ·rintro ⟨g,hg,h⟩
    refine .inr ⟨⟨g,hg,h⟩,?_⟩
    have hgp:=(hG.isP g hg).at hp
    cases e:S.getD q.toNat false with
    | false=>rfl
    | true=>
     obtain ⟨p',hp',k,hk,hkp⟩:=(hS.2 q.toNat (by omega)).1 e
     obtain ⟨a,ha,hap⟩:=ob_symm h1 h5 hG hp hg
     obtain ⟨b,hb,hbp⟩:=ob_trans hG (p:=p') (by omega) hk ha
     rw [hkp,Int.toNat_natCast] at hbp
     rw [h] at hap
     have:=(hS.2 p hp).2 ⟨p',hp',b,hb,hbp.trans hap⟩
     rw [hs] at this; cases this
theorem orbK_succ (k:Nat):orbK G n (k+1)=if lstB G n k then orbK G n k ++ [obR G n k] else orbK G n k:=by
 rw [orbK,List.range_succ,List.filter_append,List.map_append,← orbK]
 cases h:lstB G n k <;> simp [h]
theorem obGo_eq (h1:1≤n) (h5:n≤5) (hG:Grp n G):∀ (k p:Nat) (S:List Bool),k+p=n→SnP G n p S→obGo G k p (S,orbK G n p)=orbR G n
 | 0,p,S,e,_=>by
  obtain rfl:p=n:=by omega
  rw [obGo,orbR]
 | k+1,p,S,e,hS=>by
  obtain ⟨j1,j2⟩:=hS.next h1 h5 hG (by omega)
  have hl:=lstB_iff h1 h5 hG (by omega) hS
  rw [obGo]
  by_cases hs:S.getD p false=true
  ·rw [if_pos hs] at j1 ⊢
   have:lstB G n p=false:=by
    cases e2:lstB G n p with
    | false=>rfl
    | true=>rw [hl.1 e2] at hs; cases hs
   have h2:=obGo_eq h1 h5 hG k (p+1) S (by omega) j1
   rw [orbK_succ,this] at h2
   exact h2
  ·have hs':S.getD p false=false:=by simpa using hs
   rw [if_neg hs] at j1 ⊢
   have h2:=obGo_eq h1 h5 hG k (p+1) _ (by omega) j1
   rw [orbK_succ,if_pos (hl.2 hs')] at h2
   simp only [j2 hs']
   exact h2
theorem orb_eq (h1:1≤n) (h5:n≤5) (hG:Grp n G):orbP G n=orbR G n:=
 obGo_eq h1 h5 hG n 0 _ (by omega) ⟨by simp,fun q hq=>by simp [hq]⟩
end
end Go.Proofs.YtmikofeildnpdaaGreat

/- symmetry.Orbits. -/
namespace Go.Proofs.YtmikofeildnpdaaGreat
open Go.RowKit
theorem elemBl:ElemOK Tryz.prog 106 4 (.bool false) 1:=⟨by kernel_rfl,by kernel_rfl,rfl⟩
theorem bMake {w:World} {ops:Array Oper} {rest:List Oper} {o:Oper} {a:Act} {Q:Exit→Act→World→Prop} (hgd:o.guard=none) (l c:Operand)
  (ho:o.op = .makeSlice 106 l c) (n:Nat) (hl:a.eval l = .int .i64 (n:Int)) (hc:a.eval c = .int .i64 (n:Int)) (hn:n≤1000000000000) {B:Nat} (hB:B≤w.heap.size)
  (h:∀ w',OB w' B (.slice (some ⟨w.heap.size,0,none⟩) n n) n (List.replicate n false)→w.grownBy w' none→Below w.heap.size w w'→wpList Tryz.prog ops Q rest (a.put o.dst (.slice (some ⟨w.heap.size,0,none⟩) n n)) w') :
  wpList Tryz.prog ops Q (o::rest) a w:=
 wpMake elemBl (by decide) hgd l c ho n hl hc hn hB fun w' h1 h2 h3=>h w' (by unfold OB; rw [List.map_replicate]; exact h1) h2 h3
theorem OB.cellB {w:World} {B g n cap:Nat} {xs:List Bool} (h:OB w B (.slice (some ⟨g,0,none⟩) n cap) n xs) {j:Nat} (hj:j < n):w.cell? ⟨g,j,none⟩=some (.bool (xs.getD j false)):=by
 have hl:=h.length
 rw [World.ownsRow.cellAt h j (by omega)]
 simp [show j < xs.length by omega]
theorem OB.freeB {w:World} {B g n cap:Nat} {xs:List Bool} (h:OB w B (.slice (some ⟨g,0,none⟩) n cap) n xs) (j:Nat):w.frozen? ⟨g,j,none⟩=false:=World.ownsRow.frozenAt h j
theorem OB.same {w w':World} {B g n cap:Nat} {xs:List Bool} (h:OB w B (.slice (some ⟨g,0,none⟩) n cap) n xs) (hk:w'.heap[g]? = w.heap[g]?):OB w' B (.slice (some ⟨g,0,none⟩) n cap) n xs:=by
 refine ⟨h.1,?_⟩
 rcases h.2 with h' | ⟨g',c',cur,he,h2,h3,h4⟩
 ·exact .inl h'
 ·injection he with e1 e2 e3
  injection e1 with e1
  injection e1 with e1
  subst e1
  exact .inr ⟨g,c',cur,by rw [e3],h2,hk.trans h3,h4⟩
theorem OB.lt {w:World} {B g n cap:Nat} {xs:List Bool} (h:OB w B (.slice (some ⟨g,0,none⟩) n cap) n xs):g < w.heap.size∧∃ cs,w.heap[g]? = some (.cells cs 4):=by
 obtain ⟨cs,hc⟩:=ownsRow_ty h g rfl
 exact ⟨(Array.getElem?_eq_some_iff.1 hc).1,cs,hc⟩
theorem OII.otherX {w w':World} {B n:Nat} {v:Value} {xss:List (List Int)} {E':TypeId} (h:OII w B v n xss) (h1:25 ≠ E') (h2:3 ≠ E') (hx:KeepX E' w w'):OII w' B v n xss:=by
 obtain ⟨vs,k1,k2,k3,k4⟩:=h
 exact ⟨vs,ownsRow_X k1 h1 hx,k2,k3,fun j hj=>ownsRow_X (k4 j hj) h2 hx⟩
theorem keepB {w w':World} {g:Nat} {cs:Array Value} (hg:w.heap[g]? = some (.cells cs 4)) (h:Only (fun k=>k=g) w w'):KeepX 4 w w':=fun k cs' t hk ht=>by
 refine h.same k (Array.getElem?_eq_some_iff.1 hk).1 fun e=>?_
 have e:k=g:=e
 rw [e,hg] at hk
 injection hk with hk
 injection hk with _ hk
 exact ht hk.symm
theorem sortL_len21 (xs:List Int):(sortL xs).length=xs.length:=by simp [sortL,List.length_mergeSort]
theorem genR_grp {k:Nat} {l:List (List Int)} (hz:chkList k l=0):Grp k (genR k l)∧(1≤k∧k≤5)∧(∀ a∈l,IsP k a)∧∃ G,clGo l 3126 0 [oneL k]=some G∧InvG k G∧∀ x,x∈genR k l↔x∈G:=by
 obtain ⟨hn,hl,hP⟩:=chkList_ok hz
 have h1:1≤k:=by omega
 have h5:k≤5:=by omega
 rw [Int.toNat_natCast] at hP
 obtain ⟨G,hG,hI⟩:=clGo_start (n:=k) h5 hP
 obtain ⟨hGr,hgen⟩:=closure_grp h5 hP hG hI
 have hm:∀ x,x∈genR k l↔x∈G:=fun x=>by
  rw [genR,if_pos hz,Int.toNat_natCast,List.mem_filter,decide_eq_true_iff,closL,hG,Option.getD_some]
  exact ⟨fun h=>h.2,fun h=>⟨mem_everyL.2 (hI.2 x h),h⟩⟩
 refine ⟨⟨?_,fun y hy=>hGr.isP y ((hm y).1 hy),(hm _).2 hGr.one,fun y hy z hz=>(hm _).2 (hGr.mul y ((hm y).1 hy) z ((hm z).1 hz))⟩,⟨h1,h5⟩,hP,G,hG,hI,hm⟩
 rw [genR,if_pos hz,Int.toNat_natCast]
 exact (every_nodup k h5).filter _
theorem genR_len {k:Nat} {l:List (List Int)} (hz:chkList k l=0) (h5:k≤5):(genR k l).length≤1000:=by
 rw [genR,if_pos hz,Int.toNat_natCast]
 refine Nat.le_trans (List.length_filter_le _ _) ?_
 have:k=0∨k=1∨k=2∨k=3∨k=4∨k=5:=by omega
 rcases this with rfl | rfl | rfl | rfl | rfl | rfl <;> decide +kernel
open Go.Sort in
theorem sortI21 {w:World} {B n:Nat} {v:Value} {xs:List Int} (h:OI w B v n xs) (hn:0 < n) (hn2:n≤1000) :
  Calls Tryz.prog 61 #[v] w fun e w'=>e = .returned (.tuple #[])∧OI w' B v n (sortL xs)∧Below B w w'∧w.grownBy w' v.ownBlock:=by
 have hne:v ≠ .slice none 0 0:=by
  rintro rfl
  rcases h.2 with ⟨_,h0⟩ | ⟨g,cap,cur,h1,_⟩
  ·omega
  ·cases h1
 obtain ⟨g,cap,rfl,hB,hg,hnc,hcm,hl,hH⟩:=Lib.holds_of_ownsRow h hne
 have hc:=AnyM.slices_Sort_int Tryz.sortI g 0 cap xs w hH hg (by omega)
 rw [hl] at hc
 refine hc.mono ?_
 rintro e w' ⟨rfl,q,os,rfl⟩
 have h1:=Lib.ownsRow_putRow (q:=q) (k:=n) (ys:=sortL xs) h (by rw [sortL_len21,hl]) (Nat.le_refl _)
 have ht:(sortL xs).take n=sortL xs:=List.take_of_length_le (by rw [sortL_len21]; omega)
 rw [ht] at h1
 have h2:OI (grow (putRow (Value.int .i64) (Sort.ahead w q) g 0 (sortL xs).toArray) os) B (.slice (some ⟨g,0,none⟩) n cap) n (sortL xs):=OI.keep h1 ⟨rfl,rfl,rfl,by simp [grow],fun k hk=>Array.getElem?_append_left hk⟩
 have hgb:=grownBy_sortedI (w:=w) (g:=g) (n:=q) (os:=os) (sortL xs).toArray
 refine ⟨rfl,h2,(Below.refl B w).grown hgb ?_ ?_,hgb⟩
 ·omega
 ·intro k hk; injection hk with hk; omega
theorem obIn_cons (p:Nat) (g:List Int) (G:List (List Int)) (S:List Bool) (o:List Int):obIn p (g::G) (S,o)=obIn p G (if S.getD (g.getD p 0).toNat false then (S,o) else (S.set (g.getD p 0).toNat true,o ++ [g.getD p 0])):=rfl
theorem obIn_len (p:Nat):∀ (G:List (List Int)) (S:List Bool) (o:List Int),(obIn p G (S,o)).1.length=S.length
 | [],_,_=>rfl
 | g::G,S,o=>by
  rw [obIn_cons]
  split
  ·exact obIn_len p G S o
  ·rw [obIn_len p G,List.length_set]
theorem obIn_le (p:Nat):∀ (G:List (List Int)) (S:List Bool) (o:List Int),(obIn p G (S,o)).2.length≤o.length+G.length
 | [],_,_=>by simp [obIn]
 | g::G,S,o=>by
  rw [obIn_cons,List.length_cons]
  split
  ·have:=obIn_le p G S o; omega
  ·have:=obIn_le p G (S.set (g.getD p 0).toNat true) (o ++ [g.getD p 0]); rw [List.length_append] at this; simp only [List.length_cons,List.length_nil] at this; omega
theorem obIn_pos {n p:Nat} {G:List (List Int)} (hG:Grp n G) (hp:p < n) {S:List Bool} (hS:S.length=n) (hs:S.getD p false=false):0 < (obIn p G (S,[])).2.length:=by
 obtain ⟨_,_,_,i4⟩:=obIn_spec hp (L:=G) (S:=S) (o:=[]) hG.isP hS
 have:=(i4 (p:Int)).2 (.inr ⟨ob_refl hG hp,by rw [Int.toNat_natCast]; exact hs⟩)
 exact List.length_pos_of_mem this
theorem obGo_skip (G:List (List Int)) (k p:Nat) {S:List Bool} (o:List (List Int)) (h:S.getD p false=true):obGo G (k+1) p (S,o)=obGo G k (p+1) (S,o):=by rw [obGo,if_pos h]
theorem obGo_take (G:List (List Int)) (k p:Nat) {S:List Bool} (o:List (List Int)) (h:S.getD p false=false):obGo G (k+1) p (S,o)=obGo G k (p+1) ((obIn p G (S,[])).1,o ++ [sortL (obIn p G (S,[])).2]):=by rw [obGo,if_neg (by rw [h]; decide)]
def obsR (n:Int) (l:List (List Int)):List (List Int):=if chkList n l=0 then orbP (genR n l) n.toNat else []
theorem orbitsC {w:World} {v:Value} {l:List (List Int)} (n:Int) (h:Intss w v l):Calls Tryz.prog 22 #[.int .i64 n,v] w (RII w (obsR n l) (chkList n l)):=by
 have HG:=Lib.hid (generate n h)
 obtain ⟨va,vc,hv⟩:∃ a c,v = .slice a l.length c:=by obtain ⟨a,c,_,_,h,_⟩:=h; exact ⟨a,c,h⟩
 subst hv
 clear h
 obtain ⟨E,hE⟩:=exE (chkList n l)
 rw [hE] at HG
 by_cases h0:E=0
 ·subst h0
  obtain ⟨k,rfl⟩:∃ k:Nat,n=(k:Int):=⟨n.toNat,by have:=(chkList_ok hE).1; omega⟩
  obtain ⟨hGr,⟨h1,h5⟩,_⟩:=genR_grp hE
  have hGl:=genR_len hE h5
  have hR:obsR k l=orbP (genR k l) k:=by rw [obsR,if_pos hE,Int.toNat_natCast]
  rw [hR,hE]
  obtain ⟨G,hGG⟩:=exE (genR k l)
  rw [hGG] at HG hGr hGl ⊢
  have hgp:=Lib.hid hGr
  have hg0:Hid (∀ (g:List Int),g∈G→∀ p,p < k→∃ q:Nat,g.getD p 0=(q:Int)∧q < k∧g.length=k):=fun g hg p hp=>by
   have hP:=hGr.isP g hg
   have:=hP.at hp
   exact ⟨(g.getD p 0).toNat,by omega,by omega,hP.1⟩
  clear hR hE hGG hGr
  go_enter Tryz.func22, Tryz.ntmps22
  go_wp2_with fail
  refine HG.out.mono ?_
  rintro e W3 ⟨r,rfl,hO,hb3⟩
  obtain ⟨ra,rc,rfl⟩:=hO.shape
  have hOk:=Lib.hid hO
  clear hO HG
  go_wp2_with (at_make; refine bMake rfl _ _ rfl k rfl rfl (by omega) (Nat.le_refl _) ?_; intro W4 ho4 _ hb4)
  obtain ⟨gs,hgs⟩:=exF (W3.heap.size)
  rw [← hgs] at ho4 hb4 ⊢
  have hgl:gs≤W3.heap.size∧W3.heap.size≤gs:=by omega
  have hout0:OII W4 (gs+1) (.slice none 0 0) ([]:List (List Int)).length []:=OII.nil _ _
  have hst0:Hid (obGo G (k - 0) 0 (List.replicate k false,[])=orbP G k):=rfl
  replace hb4:Below gs W3 W4:=hb4
  replace hgs:=Lib.hid hgs
  go_loopw [9,26] (fun ov pv wr=>∃ (p:Nat) (S:List Bool) (o:List (List Int)),pv = .int .i64 (p:Int)∧p≤k∧OB wr gs (.slice (some ⟨gs,0,none⟩) k k) k S∧OII wr (gs+1) ov o.length o∧Below gs W3 wr∧Hid (obGo G (k - p) p (S,o)=orbP G k)∧gs+1≤wr.heap.size∧o.length≤p) (fun _ pv _=>k - (intOf pv).toNat)
  case atStart=>exact ⟨0,_,[],rfl,Nat.zero_le _,ho4,hout0,hb4,hst0,ho4.lt.1,Nat.le_refl _⟩
  case round=>
   clear ho4 hout0 hb4 hst0
   obtain ⟨p,S,o,rfl,hp,hS,ho,hbr,hst,hsz,hol⟩:=hrel
   obtain ⟨oa,oc,hov⟩:=ho.shape
   subst hov
   have hSl:=hS.length
   by_cases hlt:p < k
   ·have hltI:(p:Int) < (k:Int):=by omega
    have cs:=hS.cellB hlt
    obtain ⟨b,hb⟩:=exE (S.getD p false)
    rw [hb] at cs
    obtain ⟨f,hf⟩:∃ f,k - p=f+1:=⟨k - p - 1,by omega⟩
    have hf2:k - (p+1)=f:=by omega
    cases b with
    | true=>
     have hst2:Hid (obGo G (k - (p+1)) (p+1) (S,o)=orbP G k):=by
      have:=hst.out
      rw [hf,obGo_skip G f p o hb,← hf2] at this
      exact this
     clear hst hb hf hf2
     go_wp2_with fail
     go_roundw
     case rel=>exact ⟨p+1,S,o,by go_num,by omega,hS,ho,hbr,hst2,hsz,by omega⟩
     case measure=>simp [intOf]; omega
    | false=>
     have hst2:Hid (obGo G (k - (p+1)) (p+1) ((obIn p G (S,[])).1,o ++ [sortL (obIn p G (S,[])).2])=orbP G k):=by
      have:=hst.out
      rw [hf,obGo_take G f p o hb,← hf2] at this
      exact this
     have hpos:=obIn_pos hgp.out hlt hSl hb
     have hle:=obIn_le p G S []
     have hle2:=obIn_len p G S []
     obtain ⟨S',hS'⟩:∃ S',(obIn p G (S,[])).1=S':=⟨_,rfl⟩
     obtain ⟨o',ho'⟩:∃ o',(obIn p G (S,[])).2=o':=⟨_,rfl⟩
     rw [hS'] at hst2 hle2
     rw [ho'] at hst2 hpos hle
     simp only [List.length_nil,Nat.zero_add] at hle
     have hin0:Hid (obIn p (G.drop 0) (S,[])=(S',o')):=by
      show obIn p G (S,[])=(S',o')
      rw [← hS',← ho']
     obtain ⟨wo,hwo⟩:=exF (wr)
     subst hwo
     have hOr:=hOk.out
     have hri0:OI wo wo.heap.size (.slice none 0 0) ([]:List Int).length []:=OI.nil _ _
     have hon0:=Only.refl (fun k=>k=gs) wo
     obtain ⟨hgs2,csb,hcsb⟩:=hS.lt
     replace hst2:=Lib.hid hst2
     replace hSl:=Lib.hid hSl
     replace hle2:=Lib.hid hle2
     clear hst hb hf hf2 hS' ho'
     go_wp2_with fail
     go_loopw [11,35] (fun rv jv wr=>∃ (j:Nat) (T:List Bool) (q:List Int),jv = .int .i64 (j:Int)∧j≤G.length∧OB wr gs (.slice (some ⟨gs,0,none⟩) k k) k T∧OI wr wo.heap.size rv q.length q∧Only (fun k=>k=gs) wo wr∧Hid (obIn p (G.drop j) (T,q)=(S',o'))∧q.length≤j) (fun _ jv _=>G.length - (intOf jv).toNat)
     case atStart=>exact ⟨0,S,[],rfl,Nat.zero_le _,hS,hri0,hon0,hin0,Nat.le_refl _⟩
     case round=>
      clear hS hri0 hon0 hin0
      obtain ⟨j,T,q,rfl,hj,hT,hq,hon,hin,hql⟩:=hrel
      obtain ⟨qa,qc,hqv⟩:=hq.shape
      subst hqv
      have hbr2:Below gs W3 wr:=hbr.trans (hon.below (by omega) (fun k hk=>by have hk:k=gs:=hk; omega))
      by_cases hltj:j < G.length
      ·have hltJ:(j:Int) < (G.length:Int):=by omega
       obtain ⟨g,cap,he⟩:=hOk.out.form2 (by omega)
       obtain ⟨rfl,rfl⟩:ra=some ⟨g,0,none⟩∧rc=cap:=by injection he with h1 h2 h3; exact ⟨h1,h3⟩
       obtain ⟨u,hcu,hu⟩:=OII.get (hOk.out.keep (hbr2.mono hgl.2)) hltj
       obtain ⟨x,hx⟩:=exE (G.getD j [])
       obtain ⟨y,hxy,hyk,hxl⟩:=hg0.out x (by rw [← hx]; exact getD_mem hltj) p hlt
       have hin2:=hin.out
       rw [drop_cons hltj ([]:List Int),hx,obIn_cons,hxy,Int.toNat_natCast] at hin2
       rw [hx,hxl] at hu
       obtain ⟨ua,uc,huv⟩:=hu.shape
       subst huv
       have hpos1:0 < k:=by omega
       obtain ⟨g1,rfl⟩:∃ g1,ua=some ⟨g1,0,none⟩:=by
        rcases hu.2 with ⟨_,h0⟩ | ⟨g1,c1,cur,he1,_⟩
        ·omega
        ·injection he1 with e1 _ _; exact ⟨g1,e1⟩
       have c1:=hu.cell hlt
       rw [hxy] at c1
       have c2:=hT.cellB hyk
       obtain ⟨t,ht⟩:=exE (T.getD y false)
       rw [ht] at c2 hin2
       have hyI:(y:Int) < (k:Int):=by omega
       have hy0:(0:Int)≤(y:Int):=by omega
       obtain ⟨hgT,csT,hcsT⟩:=hT.lt
       cases t with
       | true=>
        rw [if_pos rfl] at hin2
        replace hin2:=Lib.hid hin2
        clear hx hxy hxl ht he hin
        go_wp2_with fail
        go_roundw
        case rel=>exact ⟨j+1,T,q,by go_num,by omega,hT,hq,hon,hin2,by omega⟩
        case measure=>simp [intOf]; omega
       | false=>
        rw [if_neg (by decide)] at hin2
        have fz:=hT.freeB y
        have hT1:=OB.store hT y true
        obtain ⟨W5,hW5⟩:=exF (wr.setCell ⟨gs,y,none⟩ (.bool true))
        rw [← hW5] at hT1
        have hne1:g1 ≠ gs:=fun e=>by
         rcases hu.2 with ⟨_,h0⟩ | ⟨g2,c3,cur,he1,_,hg2,_⟩
         ·omega
         ·injection he1 with e1 _ _
          injection e1 with e1
          injection e1 with e1
          rw [← e1,e,hcsT] at hg2
          injection hg2 with hg2
          injection hg2 with _ hg2
          exact absurd hg2 (by decide)
        have hk5:∀ z,z ≠ gs→W5.heap[z]? = wr.heap[z]?:=fun z hz=>by rw [hW5]; exact Below.heap_setCell _ _ _ _ hz
        have c15:W5.cell? ⟨g1,p,none⟩=some (.int .i64 (y:Int)):=(World.cell?_of_block (hk5 g1 hne1)).trans c1
        have hcu5:W5.cell? ⟨g,j,none⟩=some (.slice (some ⟨g1,0,none⟩) k uc):=by
         refine (World.cell?_of_block (hk5 g fun e=>?_)).trans hcu
         obtain ⟨vs,v1,_⟩:=hOk.out.keep (hbr2.mono hgl.2)
         obtain ⟨cs5,hcs5⟩:=ownsRow_ty v1 g rfl
         rw [e,hcsT] at hcs5
         injection hcs5 with hcs5
         injection hcs5 with _ hcs5
         exact absurd hcs5 (by decide)
        have hon5:Only (fun k=>k=gs) wo W5:=by rw [hW5]; exact hon.setCell (p:=⟨gs,y,none⟩) rfl _
        have hq5:OI W5 wo.heap.size (.slice qa q.length qc) q.length q:=by
         rw [hW5]
         exact ownsRow_X hq (by decide) (KeepX.setCell (p:=⟨gs,y,none⟩) hcsT _)
        replace hin2:=Lib.hid hin2
        have hsz5:wo.heap.size≤W5.heap.size:=hon5.size
        clear hx hxy hxl ht he hin hT hq
        go_upto_region 16 with fail
        rw [← hW5]
        replace hW5:=Lib.hid hW5
        go_wp2_with (at_builtin; refine wpAppI rfl _ _ rfl rfl hq5 rfl (by omega) hsz5 ?_; intro v6 w6 hq6 hg6 hb6)
        have hT6:=hT1.same (hb6.block gs (by omega))
        have hon6:=hon5.thenBelow hb6
        have hq7:OI w6 wo.heap.size v6 (q ++ [(y:Int)]).length (q ++ [(y:Int)]):=by rw [List.length_append]; exact hq6
        clear hq5 hq6 hT1 c15 hcu5
        go_wp2_with fail
        go_roundw
        case rel=>exact ⟨j+1,_,_,by go_num,by omega,hT6,hq7,hon6,hin2,by rw [List.length_append]; simp; omega⟩
        case measure=>simp [intOf]; omega
      ·obtain rfl:j=G.length:=by omega
       have hin2:=hin.out
       rw [List.drop_eq_nil_of_le (Nat.le_refl _)] at hin2
       have hin3:(T,q)=(S',o'):=hin2
       injection hin3 with e1 e2
       subst e1 e2
       have HS:=Lib.hid (sortI21 hq hpos (by omega))
       clear hin hin2
       go_wp2_with fail
       refine HS.out.mono ?_
       rintro e w6 ⟨rfl,hq6,hb6,_⟩
       have hT6:=hT.same (hb6.block gs (by omega))
       have hon6:=hon.thenBelow hb6
       have ho6:=ho.otherX (E':=4) (by decide) (by decide) (keepB hcsb hon6)
       obtain ⟨z,hz⟩:=exE (sortL q)
       have hzl:z.length=q.length:=by rw [← hz,sortL_len21]
       rw [hz] at hq6
       have hst3:=hst2.out
       rw [hz] at hst3
       have hu6:OI w6 0 (.slice qa q.length qc) z.length z:=by rw [hzl]; exact hq6.base (Nat.zero_le _)
       have hsz6:gs+1≤w6.heap.size:=Nat.le_trans hsz hon6.size
       have hbr6:Below gs W3 w6:=hbr2.trans (hb6.mono (by omega))
       replace hst3:=Lib.hid hst3
       replace hz:=Lib.hid hz
       replace hzl:=Lib.hid hzl
       have hol6:o.length≤1000:=by omega
       clear hq hq6 hT ho hst2
       go_wp2_with (at_builtin; refine wpApp1S rfl _ _ rfl rfl ho6 rfl hu6 rfl (by omega) hsz6 ?_; intro v7 w7 ho7 hb7 _)
       have hT7:=hT6.same (hb7.block gs (by omega))
       have ho8:OII w7 (gs+1) v7 (o ++ [z]).length (o ++ [z]):=by rw [List.length_append]; exact ho7
       have hbr7:Below gs W3 w7:=hbr6.trans (hb7.mono (by omega))
       have hsz7:gs+1≤w7.heap.size:=Nat.le_trans hsz6 hb7.size
       have hl7:(o ++ [z]).length≤p+1:=by rw [List.length_append]; simp; omega
       clear hT6 ho6 ho7 hu6
       go_wp2_with fail
       go_roundw
       case rel=>exact ⟨p+1,T,o ++ [z],by go_num,by omega,hT7,ho8,hbr7,hst3,hsz7,hl7⟩
       case measure=>simp [intOf]; omega
   ·obtain rfl:p=k:=by omega
    have hst2:=hst.out
    rw [Nat.sub_self,obGo] at hst2
    replace hst2:=Lib.hid hst2
    have hfin:OII wr w.heap.size (.slice oa o.length oc) (orbP G p).length (orbP G p):=by rw [← hst2.out]; exact ho.base (by have:=hb3.size; omega)
    clear hst ho
    go_wp2
    go_ret2
    exact ⟨_,rfl,hfin,hb3.trans (hbr.mono (by have:=hb3.size; omega))⟩
 ·have hgl:obsR n l = []:=by rw [obsR,if_neg (by rw [hE]; exact h0)]
  have hEb:(E != 0)=true:=by simp [h0]
  rw [hgl,hE]
  clear hgl hE
  go_enter Tryz.func22, Tryz.ntmps22
  go_wp2_with fail
  refine HG.out.mono ?_
  rintro e W3 ⟨r,rfl,hO,hb3⟩
  obtain ⟨ra,rc,rfl⟩:=hO.shape
  clear HG hO
  go_wp2
  go_ret2
  exact ⟨_,rfl,OII.nil _ _,hb3⟩
end Go.Proofs.YtmikofeildnpdaaGreat

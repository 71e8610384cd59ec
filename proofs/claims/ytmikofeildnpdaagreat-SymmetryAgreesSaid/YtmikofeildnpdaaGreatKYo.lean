/- Texts of this claim, put together: Pf Mc Pm TA H1 RQ RW TB. -/
import Derived.Test.YtmikofeildnpdaaGreatKYn
import Derived.Test.YtmikofeildnpdaaGreatKYe
import Derived.Test.YtmikofeildnpdaaGreatKYl
import Derived.Test.YtmikofeildnpdaaGreatKYf
import Derived.Test.YtmikofeildnpdaaGreatKYj
import Derived.Test.YtmikofeildnpdaaGreatKYd

set_option maxRecDepth 100000
set_option maxHeartbeats 12800000
/- Compositions, inverses, parities. -/
namespace Go.Proofs.YtmikofeildnpdaaGreat
theorem IsP.idx {n:Nat} {x:List Int} (h:IsP n x) {q:Int} (hq:q∈x):q.toNat < n∧((q.toNat:Nat):Int)=q:=by
 have:=h.2.1 q hq; omega
theorem times_assoc {n:Nat} {a b c:List Int} (hb:b.length=n) (hc:IsP n c):timesL (timesL a b) c=timesL a (timesL b c):=by
 unfold timesL
 rw [List.map_map]
 apply List.map_congr_left
 intro q hq
 obtain ⟨h1,_⟩:=hc.idx hq
 show (b.map fun q=>a.getD q.toNat 0).getD q.toNat 0=a.getD (b.getD q.toNat 0).toNat 0
 simp [show q.toNat < b.length by omega]
theorem times_one {n:Nat} {a:List Int} (ha:IsP n a):timesL (oneL n) a=a:=by
 unfold timesL
 have:a.map (fun q=>(oneL n).getD q.toNat 0)=a.map id:=List.map_congr_left fun q hq=>by
  obtain ⟨h1,h2⟩:=ha.idx hq
  rw [oneL_getD h1]; exact h2
 rw [this,List.map_id]
theorem one_times {n:Nat} {a:List Int} (ha:IsP n a):timesL a (oneL n)=a:=by
 have hl:(timesL a (oneL n)).length=a.length:=by rw [timesL_length,oneL_length,ha.1]
 refine List.ext_getElem hl fun k h1 h2=>?_
 have hk:k < n:=by rw [hl,ha.1] at h1; exact h1
 have:=timesL_getD a (oneL n) k (by rw [oneL_length]; exact hk)
 rw [oneL_getD hk] at this
 rw [← getD_eq h1 0,this,← getD_eq h2 0]
 simp
theorem back_ok:permsAll.all (fun a=>decide (timesL (backL a) a=oneL a.length) && decide (timesL a (backL a)=oneL a.length) && decide (chk (backL a)=0))=true:=by decide +kernel
theorem back_left {a:List Int} (h:chk a=0):timesL (backL a) a=oneL a.length∧timesL a (backL a)=oneL a.length∧chk (backL a)=0:=by
 have:=perm_all back_ok h
 simp only [Bool.and_eq_true,decide_eq_true_eq] at this
 exact ⟨this.1.1,this.1.2,this.2⟩
theorem clIn_all {Q:List Int→Prop} {y:List Int} (hy:Q y):∀ {l g:List (List Int)},(∀ a∈l,∀ y,Q y→Q (timesL a y))→(∀ x∈g,Q x)→∀ x∈clIn y l g,Q x
 | [],_,_,h=>h
 | a::l,g,hl,h=>by
  rw [clIn]
  refine clIn_all hy (fun b hb=>hl b (by simp [hb])) ?_
  split
  ·exact h
  ·intro x hx
   rcases List.mem_append.1 hx with hx | hx
   ·exact h x hx
   ·rw [List.mem_singleton.1 hx]; exact hl a (by simp) y hy
theorem clGo_all {Q:List Int→Prop} {l:List (List Int)} (hl:∀ a∈l,∀ y,Q y→Q (timesL a y)):∀ {f i:Nat} {g G:List (List Int)},(∀ x∈g,Q x)→clGo l f i g=some G→∀ x∈G,Q x
 | 0,_,_,_,_,h=>by cases h
 | f+1,i,g,G,hg,h=>by
  rw [clGo] at h
  by_cases hlt:i < g.length
  ·rw [if_pos hlt] at h
   refine clGo_all hl (clIn_all (y:=g.getD i []) ?_ hl hg) h
   rw [getD_eq hlt]; exact hg _ (List.getElem_mem hlt)
  ·rw [if_neg hlt] at h
   obtain rfl:=Option.some.inj h
   exact hg
theorem clIn_sub (y:List Int):∀ {l g:List (List Int)},(∀ x∈g,x∈clIn y l g)∧(∀ a∈l,timesL a y∈clIn y l g)
 | [],g=>⟨fun _ h=>h,fun _ h=>by cases h⟩
 | a::l,g=>by
  rw [clIn]
  obtain ⟨h1,h2⟩:=clIn_sub y (l:=l) (g:=if timesL a y∈g then g else g ++ [timesL a y])
  refine ⟨fun x hx=>h1 x (by split; exact hx; simp [hx]),fun b hb=>?_⟩
  rcases List.mem_cons.1 hb with rfl | hb
  ·exact h1 _ (by split; assumption; simp)
  ·exact h2 b hb
theorem clIn_getD (y:List Int):∀ {l g:List (List Int)} {k:Nat},k < g.length→(clIn y l g).getD k []=g.getD k []
 | [],_,_,_=>rfl
 | a::l,g,k,hk=>by
  rw [clIn]
  split
  ·exact clIn_getD y hk
  ·rw [clIn_getD y (by simp; omega),getD_append_left' hk]
theorem clGo_sub {l:List (List Int)}:∀ {f i:Nat} {g G:List (List Int)},clGo l f i g=some G→(∀ j,j < i→j < g.length→∀ a∈l,timesL a (g.getD j [])∈g)→(∀ x∈g,x∈G)∧∀ y∈G,∀ a∈l,timesL a y∈G
 | 0,_,_,_,h,_=>by cases h
 | f+1,i,g,G,h,hc=>by
  rw [clGo] at h
  by_cases hlt:i < g.length
  ·rw [if_pos hlt] at h
   obtain ⟨h1,h2⟩:=clIn_sub (g.getD i []) (l:=l) (g:=g)
   obtain ⟨k1,k2⟩:=clGo_sub h (fun j hj _ a ha=>by
    by_cases hji:j=i
    ·subst hji; rw [clIn_getD _ hlt]; exact h2 a ha
    ·rw [clIn_getD _ (by omega)]
     exact h1 _ (hc j (by omega) (by omega) a ha))
   exact ⟨fun x hx=>k1 x (h1 x hx),k2⟩
  ·rw [if_neg hlt] at h
   obtain rfl:=Option.some.inj h
   refine ⟨fun x hx=>hx,fun y hy a ha=>?_⟩
   obtain ⟨j,hj,rfl⟩:=List.mem_iff_getElem.1 hy
   have:=hc j (by omega) hj a ha
   rwa [getD_eq hj] at this
end Go.Proofs.YtmikofeildnpdaaGreat
namespace Go.Proofs.YtmikofeildnpdaaGreat
theorem chk_of {n:Nat} (h1:1≤n) (h5:n≤5) {a:List Int} (h:IsP n a):chk a=0:=chk_iff.2 ⟨by have:=h.1; omega,by rw [h.1]; exact h⟩
end Go.Proofs.YtmikofeildnpdaaGreat

/- Bits of a small set. -/
namespace Go.Proofs.YtmikofeildnpdaaGreat
open Go.RowKit
def popI (x:Int):Int:=x % 2+x / 2 % 2+x / 4 % 2+x / 8 % 2+x / 16 % 2
end Go.Proofs.YtmikofeildnpdaaGreat

/- Moved sets and vectors: plain facts. -/
namespace Go.Proofs.YtmikofeildnpdaaGreat
theorem scat_get {n:Nat} {a v:List Int} (ha:IsP n a):∀ {k:Nat},k≤n→∀ j,j < k→(scat a v (List.replicate n 0) k).getD (a.getD j 0).toNat 0=v.getD j 0
 | 0,_,_,h=>by omega
 | k+1,hk,j,h=>by
  have hj:j < a.length:=by rw [ha.1]; omega
  have hkl:k < a.length:=by rw [ha.1]; omega
  have hm:∀ i,i < a.length→(a.getD i 0).toNat < n∧(((a.getD i 0).toNat:Nat):Int)=a.getD i 0:=fun i hi=>ha.idx (by rw [getD_eq hi]; exact List.getElem_mem hi)
  rw [scat_succ]
  have hl:(scat a v (List.replicate n 0) k).length=n:=by rw [scat_length,List.length_replicate]
  by_cases hjk:j=k
  ·subst hjk
   rw [List.getD_eq_getElem?_getD,List.getElem?_set_self (by rw [hl]; exact (hm j hj).1)]; rfl
  ·have hne:(a.getD k 0).toNat ≠ (a.getD j 0).toNat:=by
    intro e
    have e2:a.getD k 0=a.getD j 0:=by rw [← (hm k hkl).2,← (hm j hj).2,e]
    rw [getD_eq hkl,getD_eq hj] at e2
    exact hjk ((List.getElem_inj ha.2.2).1 e2).symm
   rw [List.getD_eq_getElem?_getD,List.getElem?_set_ne hne,← List.getD_eq_getElem?_getD]
   exact scat_get ha (by omega) j (by omega)
theorem times_moved {n:Nat} {a v:List Int} (ha:IsP n a) (hv:v.length=n):timesL (movedL a v) a=v:=by
 refine List.ext_getElem (by rw [timesL_length,ha.1,hv]) fun k h1 h2=>?_
 have hk:k < a.length:=by rwa [timesL_length] at h1
 rw [← getD_eq h1 0,timesL_getD _ _ _ hk,← getD_eq h2 0]
 unfold movedL
 rw [ha.1]
 exact scat_get ha (Nat.le_refl n) k (by rw [← ha.1]; exact hk)
theorem times_oneR {n:Nat} {x:List Int} (hx:x.length=n):timesL x (oneL n)=x:=by
 have hl:(timesL x (oneL n)).length=x.length:=by rw [timesL_length,oneL_length,hx]
 refine List.ext_getElem hl fun k h1 h2=>?_
 have hk:k < n:=by rw [hl,hx] at h1; exact h1
 have:=timesL_getD x (oneL n) k (by rw [oneL_length]; exact hk)
 rw [oneL_getD hk] at this
 rw [← getD_eq h1 0,this,← getD_eq h2 0]
 simp
theorem times_injR {n:Nat} {a x y:List Int} (hz:chk a=0) (ha:IsP n a) (hx:x.length=n) (hy:y.length=n) (h:timesL x a=timesL y a):x=y:=by
 obtain ⟨_,k2,k3⟩:=back_left hz
 have hbl:(backL a).length=n:=by rw [backL,movedL_length,ha.1]
 have hB:IsP n (backL a):=by have:=chk_isP k3; rw [hbl] at this; exact this
 have e:∀ z:List Int,z.length=n→timesL (timesL z a) (backL a)=z:=fun z hzl=>by
  rw [times_assoc ha.1 hB,k2,ha.1,times_oneR hzl]
 rw [← e x hx,h,e y hy]
theorem moved_moved {n:Nat} {a b v:List Int} (h1:1≤n) (h5:n≤5) (ha:IsP n a) (hb:IsP n b) (hv:v.length=n):movedL a (movedL b v)=movedL (timesL a b) v:=by
 have hab:=ha.times hb
 refine times_injR (a:=timesL a b) (chk_of h1 h5 hab) hab (by rw [movedL_length,ha.1]) (by rw [movedL_length,hab.1]) ?_
 rw [← times_assoc ha.1 hb,times_moved ha (by rw [movedL_length,hb.1]),times_moved hb hv,times_moved hab hv]
theorem perm_one_ok:permsAll.all (fun a=>decide (a.Perm (oneL a.length)))=true:=by decide +kernel
theorem moved_perm {n:Nat} {a v:List Int} (hz:chk a=0) (ha:IsP n a) (hv:v.length=n):(movedL a v).Perm v:=by
 have hp:a.Perm (oneL a.length):=of_decide_eq_true (perm_all perm_one_ok hz)
 have h1:=times_moved ha hv
 have h2:=hp.map (fun q:Int=>(movedL a v).getD q.toNat 0)
 have h3:timesL (movedL a v) (oneL a.length)=movedL a v:=times_oneR (by rw [movedL_length])
 have h4:(timesL (movedL a v) a).Perm (timesL (movedL a v) (oneL a.length)):=h2
 rw [h1,h3] at h4
 exact h4.symm
def bitsL (s:Int) (n:Nat):List Int:=(List.range n).map fun k=>s / 2 ^ k % 2
theorem set_ok02:permsAll.all (fun a=>(List.range (2 ^ a.length)).all fun s=>decide (bitsL (imgP a s a.length) a.length=movedL a (bitsL s a.length)) && decide (0≤imgP a s a.length) && decide (imgP a s a.length < 2 ^ a.length) && decide (popI (imgP a s a.length)=popI s))=true:=by decide +kernel
theorem bits_inj_ok:((List.range 6).all fun n=>(List.range (2 ^ n)).all fun s=>(List.range (2 ^ n)).all fun t=>decide (bitsL (s:Int) n=bitsL (t:Int) n→s=t))=true:=by decide +kernel
theorem bitsL_len (s:Int) (n:Nat):(bitsL s n).length=n:=by simp [bitsL]
theorem set_facts {n:Nat} {a:List Int} (hz:chk a=0) (ha:IsP n a) {s:Int} (h0:0≤s) (h1:s < 2 ^ n):bitsL (imgP a s n) n=movedL a (bitsL s n)∧0≤imgP a s n∧imgP a s n < 2 ^ n∧popI (imgP a s n)=popI s:=by
 have h:=perm_all set_ok02 hz
 rw [ha.1] at h
 have h2:=List.all_eq_true.1 h s.toNat (by rw [List.mem_range]; exact (Int.toNat_lt h0).2 (by simpa using h1))
 simp only [Bool.and_eq_true,decide_eq_true_eq,show ((s.toNat:Nat):Int)=s by omega] at h2
 exact ⟨h2.1.1.1,h2.1.1.2,h2.1.2,h2.2⟩
theorem set_set {n:Nat} {a b:List Int} (h1:1≤n) (h5:n≤5) (ha:IsP n a) (hb:IsP n b) {s:Int} (k0:0≤s) (k1:s < 2 ^ n):imgP a (imgP b s n) n=imgP (timesL a b) s n:=by
 have hab:=ha.times hb
 obtain ⟨b1,b2,b3,_⟩:=set_facts (chk_of h1 h5 hb) hb k0 k1
 obtain ⟨a1,a2,a3,_⟩:=set_facts (chk_of h1 h5 ha) ha b2 b3
 obtain ⟨c1,c2,c3,_⟩:=set_facts (chk_of h1 h5 hab) hab k0 k1
 have e:bitsL (imgP a (imgP b s n) n) n=bitsL (imgP (timesL a b) s n) n:=by
  rw [a1,b1,c1,moved_moved h1 h5 ha hb (bitsL_len s n)]
 have h:=List.all_eq_true.1 bits_inj_ok n (by rw [List.mem_range]; omega)
 have h:=List.all_eq_true.1 h (imgP a (imgP b s n) n).toNat (by rw [List.mem_range]; exact (Int.toNat_lt a2).2 (by simpa using a3))
 have h:=List.all_eq_true.1 h (imgP (timesL a b) s n).toNat (by rw [List.mem_range]; exact (Int.toNat_lt c2).2 (by simpa using c3))
 have h:=of_decide_eq_true h (by rw [Int.toNat_of_nonneg a2,Int.toNat_of_nonneg c2]; exact e)
 omega
end Go.Proofs.YtmikofeildnpdaaGreat

/- Tasks in plain lists, and how they lie in memory. -/
namespace Go.Proofs.YtmikofeildnpdaaGreat
open Go.RowKit
abbrev Cs:=List Int × List (List Int) × List (List Int)
def csNil:Cs:=([],[],[])
def vecE (v:List Int) (n most:Int):Int:=if (v.length:Int) ≠ n then 15 else if ∃ x∈v,x < 0∨most≤x then 2 else 0
def outE (n most:Int) (l:List (List Int)) (k:Nat):Int:=
 if vecE (l.getD k []) n most ≠ 0 then vecE (l.getD k []) n most else if 0 < k∧0≤cmpL (l.getD (k - 1) []) (l.getD k []) then 14 else 0
def calmE (outs l:List (List Int)) (k:Nat):Int:=
 if l.getD k [] ∉ outs then 6 else if 0 < k∧0≤cmpL (l.getD (k - 1) []) (l.getD k []) then 14 else 0
def firstE (f:Nat→Int):Nat→Nat→Int
 | 0,_=>0
 | m+1,k=>if f k ≠ 0 then f k else firstE f m (k+1)
def outsE (n most:Int) (c:Cs):Int:=
 if c.2.1.length < 1∨1024 < c.2.1.length then 5 else
  if firstE (outE n most c.2.1) c.2.1.length 0 ≠ 0 then firstE (outE n most c.2.1) c.2.1.length 0 else firstE (calmE c.2.1 c.2.2) c.2.2.length 0
def caseE (n ins outs:Int) (cs:List Cs) (k:Nat):Int:=
 if vecE (cs.getD k csNil).1 n ins ≠ 0 then vecE (cs.getD k csNil).1 n ins else
  if 0 < k∧0≤cmpL (cs.getD (k - 1) csNil).1 (cs.getD k csNil).1 then 14 else outsE n outs (cs.getD k csNil)
def chkT (n ins outs:Int) (cs:List Cs):Int:=
 if (n < 1∨5 < n)∨(ins < 1∨8 < ins)∨(outs < 1∨8 < outs) then 2 else
  if cs.length < 1∨1024 < cs.length then 5 else firstE (caseE n ins outs cs) cs.length 0
theorem firstE_zero {f:Nat→Int}:∀ (m k:Nat),firstE f m k=0↔∀ j,k≤j→j < k+m→f j=0
 | 0,k=>⟨fun _ j h1 h2=>absurd h2 (by omega),fun _=>rfl⟩
 | m+1,k=>by
  rw [firstE]
  by_cases h:f k=0
  ·rw [if_neg (fun g=>g h),firstE_zero m (k+1)]
   refine ⟨fun g j h1 h2=>?_,fun g j h1 h2=>g j (by omega) (by omega)⟩
   by_cases e:j=k
   ·rw [e]; exact h
   ·exact g j (by omega) (by omega)
  ·rw [if_pos h]
   exact ⟨fun g=>absurd g h,fun g=>absurd (g k (Nat.le_refl _) (by omega)) h⟩
def CsC (w:World) (b off:Nat) (cs:List Cs):Prop:=
 ∀ j,j < cs.length→∃ u0 u1 u2,w.cell? ⟨b,off+j * 3,none⟩=some u0∧w.cell? ⟨b,off+j * 3+1,none⟩=some u1∧w.cell? ⟨b,off+j * 3+2,none⟩=some u2∧
  Ints w u0 (cs.getD j csNil).1∧Intss w u1 (cs.getD j csNil).2.1∧Intss w u2 (cs.getD j csNil).2.2
theorem CsC.keep {w w':World} {b off:Nat} {cs:List Cs} (h:CsC w b off cs) (hb:Below w.heap.size w w'):CsC w' b off cs:=fun j hj=>by
 obtain ⟨u0,u1,u2,h1,h2,h3,h4,h5,h6⟩:=h j hj
 exact ⟨u0,u1,u2,cell_kept hb h1,cell_kept hb h2,cell_kept hb h3,h4.keep hb,h5.keep hb,h6.keep hb⟩
def CsS (w:World) (v:Value) (cs:List Cs):Prop:=
 ∃ a c b off,v = .slice a cs.length c∧(0 < cs.length→a=some ⟨b,off,none⟩)∧CsC w b off cs∧cs.length≤1954687338268
theorem CsS.keep {w w':World} {v:Value} {cs:List Cs} (h:CsS w v cs) (hb:Below w.heap.size w w'):CsS w' v cs:=by
 obtain ⟨a,c,b,off,h1,h2,h3,h4⟩:=h
 exact ⟨a,c,b,off,h1,h2,h3.keep hb,h4⟩
theorem CsS.shape {w:World} {v:Value} {cs:List Cs} (h:CsS w v cs):∃ a c,v = .slice a cs.length c:=by
 obtain ⟨a,c,_,_,h1,_⟩:=h; exact ⟨a,c,h1⟩
def TaskV (w:World) (v:Value) (n ins outs:Int) (cs:List Cs):Prop:=∃ sv,v = .agg #[.int .i64 n,.int .i64 ins,.int .i64 outs,sv]∧CsS w sv cs
theorem TaskV.keep {w w':World} {v:Value} {n i o:Int} {cs:List Cs} (h:TaskV w v n i o cs) (hb:Below w.heap.size w w'):TaskV w' v n i o cs:=by
 obtain ⟨sv,h1,h2⟩:=h; exact ⟨sv,h1,h2.keep hb⟩
end Go.Proofs.YtmikofeildnpdaaGreat

/- Equality of lists of ints, of rounds and of words. -/
namespace Go.Proofs.YtmikofeildnpdaaGreat
open Go.RowKit
theorem eqInts {w:World} {u v:Value} {xs ys:List Int} (hx:Ints w u xs) (hy:Ints w v ys) :
  Calls Tryz.prog 171 #[u,v] w fun e w'=>e = .returned (.bool (decide (xs=ys)))∧Qt w w':=by
 obtain ⟨xa,xc,xb,xo,rfl,hxa,hxc,_⟩:=hx
 obtain ⟨ya,yc,yb,yo,rfl,hya,hyc,_⟩:=hy
 obtain ⟨B,hB⟩:∃ B,decide (xs=ys)=B:=⟨_,rfl⟩
 rw [hB]
 replace hB:=Lib.hid hB
 replace hxc:=Lib.hid hxc
 replace hyc:=Lib.hid hyc
 by_cases hlen:xs.length=ys.length
 ·rw [← hlen]
  replace hlen:=Lib.hid hlen
  have h0:Hid (xs.take 0=ys.take 0):=rfl
  go_enter Tryz.func171, Tryz.ntmps171
  go_wp2
  go_loopw [13] (fun iv wr=>∃ i:Nat,iv = .int .i64 i∧i≤xs.length∧Hid (xs.take i=ys.take i)∧Qt w wr) (fun iv _=>xs.length - (intOf iv).toNat)
  case atStart=>exact ⟨0,rfl,by omega,h0,Qt.refl w⟩
  case round=>
   clear h0
   obtain ⟨i,rfl,hi,ht,n,rfl⟩:=hrel
   by_cases hlt:i < xs.length
   ·obtain rfl:=hxa (by omega)
    obtain rfl:=hya (by rw [← hlen.out]; omega)
    have hlt':i < ys.length:=by rw [← hlen.out]; exact hlt
    have hxi:=hxc.out i hlt
    have hyi:=hyc.out i hlt'
    obtain ⟨x,hx⟩:=exE (xs.getD i 0)
    obtain ⟨y,hy⟩:=exE (ys.getD i 0)
    rw [hx] at hxi
    rw [hy] at hyi
    by_cases he:x=y
    ·subst he
     have ht2:Hid (xs.take (i+1)=ys.take (i+1)):=takes_next ht.out hlt hlt' (by rw [hx,hy])
     clear hx hy ht
     go_wp2
     go_quiet (fail)
     go_wp2
     go_roundw
     case rel=>exact ⟨i+1,by go_num,hlt,ht2,by first | exact (Qt.mk' w n).step nq | exact Qt.mk' w _⟩
     case measure=>simp [intOf]; omega
    ·have hE:(x == y)=false:=by simp [he]
     have hBf:Hid (B=false):=by
      show _=_
      rw [← hB.out]
      refine decide_eq_false fun h=>he ?_
      rw [← hx,← hy,h]
     clear hx hy he ht
     go_wp2
     go_quiet (fail)
     go_wp2
     go_ret
     exact ⟨by rw [hBf.out]; rfl,by first | exact (Qt.mk' w n).step nq | exact Qt.mk' w _⟩
   ·have hBt:Hid (B=true):=by
     show _=_
     rw [← hB.out]
     exact decide_eq_true (takes_all ht.out (by omega) (by rw [← hlen.out]; omega))
    clear ht
    go_wp2
    go_ret
    exact ⟨by rw [hBt.out]; rfl,Qt.mk' w n⟩
 ·have hBf:B=false:=by rw [← hB.out]; exact decide_eq_false fun h=>hlen (by rw [h])
  subst hBf
  have h1:((xs.length:Int) == (ys.length:Int))=false:=by simp; omega
  go_enter Tryz.func171, Tryz.ntmps171
  go_wp2
  go_ret
  exact ⟨rfl,Qt.refl w⟩
end Go.Proofs.YtmikofeildnpdaaGreat

/- Regions that draw their order, whose calls make new memory: a class of worlds in place of draws. -/
namespace Go.Proofs.YtmikofeildnpdaaGreat
open Go.RowKit
theorem any_ctail {P:Program} {C:World→Prop} {Q:Exit→Act→World→Prop} {a:Act} {w:World} {l:List Oper} (n:Nat) (hB:qtB n l=true) (hg:noGuard l=true) (hC:C w.drew)
  (h:wpQuiet P (maskLast n l).toArray C (fun a'=>∀ w',C w'→wpList P l.toArray Q (l.drop n) a' w') (l.take n) a) (hQ : ¬ LetsOut Q) :
  wpAny P .any l.toArray Q l.toArray.size (Array.replicate l.toArray.size false) a w.drew:=by
 simp only [qtB,Bool.and_eq_true,decide_eq_true_eq] at hB
 obtain ⟨⟨⟨⟨hlen,hs⟩,hb⟩,hlex⟩,_⟩:=hB
 have hback:∀ (i:Nat) (o:Oper),l[i]? = some o→∀ e∈o.after,e.on < i:=by
  intro i o ho e he
  have:=List.all_eq_true.1 hb i (List.mem_range.2 (List.getElem?_eq_some_iff.1 ho).1)
  rw [ho] at this
  simp only at this
  exact of_decide_eq_true (Array.all_eq_true'.1 this e he)
 have hlt:n < l.length:=by omega
 have hlast:l[n]? = some l[n]:=List.getElem?_eq_getElem hlt
 have hdrop:l.drop n = [l[n]]:=by rw [List.drop_eq_getElem_cons hlt,List.drop_eq_nil_of_le (by omega)]
 have hgl:l[n].guard=none:=noGuard_get hg hlast
 have start:HeadInv .any l.toArray n (Array.replicate l.toArray.size false):=
  ⟨by simp,fun j oj _ hh=>(by rw [getD_replicate_false] at hh; cases hh),fun t _ ht=>getD_in (by simpa using ht) (getD_replicate_false _ _)⟩
 refine any_of_quiet_last (C:=C) (Qa:=fun a'=>∀ w',C w'→wpList P l.toArray Q (l.drop n) a' w') hlen hlast hgl hs hback ?_ ?_ _ _ _ _ start hC ?_ (by simp; omega)
 ·intro a w' hw hh
  have h1:=hh w' hw
  rw [hdrop] at h1
  unfold wpList at h1
  rw [if_pos (by simp [Region.wanted,hgl])] at h1
  exact Oper.wp_mono (fun a w hh=>hh) (h1.resolve_right (fun hh=>hQ hh.2))
 ·intro i o ho tmps
  simp [Region.wanted,noGuard_get hg ho]
 ·simp only [Region.lexB,Bool.and_eq_true] at hlex
  have hml:(maskLast n l)=l.take n ++ [mask l[n]]:=by rw [maskLast,hdrop]; rfl
  have hw:wpQuiet P (maskLast n l).toArray C (fun a'=>∀ w',C w'→wpList P l.toArray Q (l.drop n) a' w') (maskLast n l) a:=by
   conv=>arg 5; rw [hml]
   refine wpQuiet_append ?_
   refine wpQuiet_mono' ?_ h
   intro a' hh
   unfold wpQuiet
   rw [if_pos (by simp [Region.wanted,mask])]
   exact ⟨undef,fun w' _=>⟨rfl,rfl⟩,hh⟩
  have:=wpAnyQ_lex (C:=C) (md:=.any) hlex.1 (maskLast n l) 0 (Array.replicate (maskLast n l).toArray.size false) a (by simp) (by simpa using hlex.2) hw
  simpa [maskLast_length] using this
theorem wp_region_btail {P:Program} {id:Nat} {Q:Exit→Act→World→Prop} {a:Act} {w:World} {l:List Oper} (n:Nat) (hm:P.follows .mixedOrders=true) (hB:qtB n l=true) (hg:noGuard l=true)
  (hQ : ¬ LetsOut Q) (h:∀ ops',wpQuiet P ops' (Below w.heap.size w) (fun a'=>∀ w',Below w.heap.size w w'→wpList P l.toArray Q (l.drop n) a' w') (l.take n) a) :
  (Code.region id l.toArray true).wp P Q a w:=
 wp_region_any hm (any_ctail n hB hg (below_drewN (Below.refl _ w) 1) (h _) hQ)
theorem wp_region_ball {P:Program} {id:Nat} {Q:Exit→Act→World→Prop} {a:Act} {w:World} {l:List Oper} (hm:P.follows .mixedOrders=true) (hB:Region.lexB .any l.toArray=true)
  (h:wpQuiet P l.toArray (Below w.heap.size w) (fun a'=>∀ w',Below w.heap.size w w'→Q .normal a' w') l a) :
  (Code.region id l.toArray true).wp P Q a w:=
 wp_region_quiet (C:=Below w.heap.size w) hm hB (below_drewN (Below.refl _ w) 1) (by simpa using h)
end Go.Proofs.YtmikofeildnpdaaGreat

/- Regions that draw their order, whose calls make new memory: the walk's goal as a structure, which nothing lays open. -/
namespace Go.Proofs.YtmikofeildnpdaaGreat
open Go.RowKit
structure WQ (P:Program) (ops:Array Oper) (C:World→Prop) (Q:Act→Prop) (l:List Oper) (a:Act):Prop where
 out:wpQuiet P ops C Q l a
theorem WQ.nil {P:Program} {ops:Array Oper} {C:World→Prop} {Q:Act→Prop} {a:Act} (h:Q a):WQ P ops C Q [] a:=⟨wpQuiet_nil h⟩
theorem WQ.step {P:Program} {ops:Array Oper} {C:World→Prop} {Q:Act→Prop} {a:Act} {o:Oper} {rest:List Oper}
  (h:∀ K:Act→Prop,(∀ a,WQ P ops C Q rest a→K a)→if Region.wanted o (yielded ops a.tmps) then o.quiet P a C K else K (a.put o.dst undef)):WQ P ops C Q (o::rest) a:=
 ⟨wpQuiet_step fun K hK=>h K fun a hq=>hK a hq.out⟩
theorem wp_region_bw {P:Program} {id:Nat} {Q:Exit→Act→World→Prop} {a:Act} {w:World} {l:List Oper} (hm:P.follows .mixedOrders=true) (hB:Region.lexB .any l.toArray=true)
  (h:WQ P l.toArray (Below w.heap.size w) (fun a'=>∀ w',Below w.heap.size w w'→Q .normal a' w') l a) :
  (Code.region id l.toArray true).wp P Q a w:=wp_region_ball hm hB h.out
end Go.Proofs.YtmikofeildnpdaaGreat

/- task.vector, task.unordered, task.has: vectors of a task. -/
namespace Go.Proofs.YtmikofeildnpdaaGreat
open Go.RowKit
theorem dropEnd {xs:List Int} {i:Nat} (h:xs.length≤i):xs.drop i = []:=List.drop_eq_nil_of_le h
theorem drop_cons0 {xs:List Int} {i:Nat} {x:Int} (h:i < xs.length) (hx:xs.getD i 0=x):xs.drop i=x::xs.drop (i+1):=by
 rw [List.drop_eq_getElem_cons h,← hx,getD_eq h]
theorem cmpIntsC {w:World} {u v:Value} {xs ys:List Int} (hx:Ints w u xs) (hy:Ints w v ys) :
  Calls Tryz.prog 70 #[u,v] w fun e w'=>e = .returned (.int .i64 (cmpL xs ys))∧w'=w:=by
 obtain ⟨xa,xc,xb,xo,rfl,hxa,hxc,hxl⟩:=hx
 obtain ⟨ya,yc,yb,yo,rfl,hya,hyc,hyl⟩:=hy
 obtain ⟨E,hE⟩:=exE (cmpL xs ys)
 rw [hE]
 have h0:Hid (cmpL (xs.drop 0) (ys.drop 0)=E):=hE
 replace hxc:=Lib.hid hxc
 replace hyc:=Lib.hid hyc
 clear hE
 go_enter Tryz.func70, Tryz.ntmps70
 go_wp2_with fail
 go_loopw [11] (fun iv wr=>∃ i:Nat,iv = .int .i64 i∧i≤xs.length∧i≤ys.length∧Hid (cmpL (xs.drop i) (ys.drop i)=E)∧wr=w) (fun iv _=>xs.length - (intOf iv).toNat)
 case atStart=>exact ⟨0,rfl,by omega,by omega,h0,rfl⟩
 case round=>
  clear h0
  obtain ⟨i,rfl,hi,hj,ht,rfl⟩:=hrel
  by_cases hlt:i < xs.length
  ·obtain rfl:=hxa (by omega)
   have hxi:=hxc.out i hlt
   obtain ⟨x,hx⟩:=exE (xs.getD i 0)
   rw [hx] at hxi
   by_cases hlu:i < ys.length
   ·obtain rfl:=hya (by omega)
    have hyi:=hyc.out i hlu
    obtain ⟨y,hy⟩:=exE (ys.getD i 0)
    rw [hy] at hyi
    have ht2:=ht.out
    rw [drop_cons0 hlt hx,drop_cons0 hlu hy] at ht2
    have HC:=cmpInt x y wr
    have hge : ¬ ys.length≤i:=by omega
    clear hx hy ht
    by_cases hz:cmpI x y=0
    ·rw [cmpL_hd hz] at ht2
     rw [hz] at HC
     replace ht2:=Lib.hid ht2
     replace HC:=Lib.hid HC
     clear hz
     go_wp2_with fail
     refine HC.out.mono ?_
     rintro e w' ⟨rfl,rfl⟩
     go_wp2_with fail
     go_roundw
     case rel=>exact ⟨i+1,by go_num,hlt,hlu,ht2,by first | rfl | trivial⟩
     case measure=>simp [intOf]; omega
    ·rw [cmpL_ne hz] at ht2
     obtain ⟨z,hzz⟩:=exE (cmpI x y)
     rw [hzz] at HC ht2 hz
     replace ht2:=Lib.hid ht2
     replace HC:=Lib.hid HC
     have hz1:(z != 0)=true:=by simpa using hz
     clear hzz
     go_wp2_with fail
     refine HC.out.mono ?_
     rintro e w' ⟨rfl,rfl⟩
     go_wp2_with fail
     go_ret
     exact ⟨ret_int ht2.out,rfl⟩
   ·have hE:Hid ((1:Int)=E):=by
     have:=ht.out
     rw [drop_cons0 hlt hx,dropEnd (xs:=ys) (by omega)] at this
     exact this
    have hge:ys.length≤i:=by omega
    clear ht hx
    go_wp2_with fail
    go_ret
    exact ⟨ret_int hE.out,rfl⟩
  ·by_cases hlu:xs.length < ys.length
   ·have hE:Hid ((-1:Int)=E):=by
     have:=ht.out
     rw [dropEnd (xs:=xs) (by omega),drop_cons0 (xs:=ys) (x:=ys.getD i 0) (by omega) rfl] at this
     exact this
    clear ht
    go_wp2_with fail
    go_ret
    exact ⟨ret_int hE.out,rfl⟩
   ·have hE:Hid ((0:Int)=E):=by
     have:=ht.out
     rw [dropEnd (xs:=xs) (by omega),dropEnd (xs:=ys) (by omega)] at this
     exact this
    clear ht
    go_wp2_with fail
    go_ret
    exact ⟨ret_int hE.out,rfl⟩
def outR (most x:Int):Bool:=decide (x < 0∨most≤x)
theorem vecOne {w:World} {b:Nat} {x most:Int} (h:w.cell? ⟨b,0,none⟩=some (.int .i64 most)) :
  Calls Tryz.prog 200 #[.int .i64 x,.pointer (some ⟨b,0,none⟩)] w fun e w'=>e = .returned (.bool (outR most x))∧w'=w:=by
 by_cases h1:x < 0
 ·have hr:outR most x=true:=decide_eq_true (.inl h1)
  rw [hr]
  have d1:decide (x < 0)=true:=decide_eq_true h1
  go_enter Tryz.func200, Tryz.ntmps200
  go_wp2
  go_ret
  exact ⟨rfl,rfl⟩
 ·have d1:decide (x < 0)=false:=decide_eq_false h1
  have hr:outR most x=decide (most≤x):=by unfold outR; simp [h1]
  rw [hr]
  obtain ⟨B,hB⟩:=exE (decide (most≤x))
  rw [hB]
  clear hr h1
  go_enter Tryz.func200, Tryz.ntmps200
  go_wp2
  go_ret
  exact ⟨by first | rfl | (rw [← hB]; rfl) | simp [← hB],rfl⟩
theorem vecIndex {w:World} {b:Nat} {u:Value} {xs:List Int} {most:Int} (hx:Ints w u xs) (h:w.cell? ⟨b,0,none⟩=some (.int .i64 most)) :
  Calls Tryz.prog 219 #[u,.func (.func 200) #[] #[.pointer (some ⟨b,0,none⟩)]] w fun e w'=>∃ z:Int,e = .returned (.int .i64 z)∧decide (0≤z)=xs.any (outR most)∧w'=w:=by
 obtain ⟨xa,xc,xb,xo,rfl,hxa,hxc,hxl⟩:=hx
 obtain ⟨A,hA⟩:=exE (xs.any (outR most))
 rw [hA]
 have h0:Hid ((xs.drop 0).any (outR most)=A):=hA
 replace hxc:=Lib.hid hxc
 have HC:=Lib.hid (fun x=>vecOne (x:=x) h)
 clear hA h
 go_enter Tryz.func219, Tryz.ntmps219
 go_wp2_with fail
 go_loopw [8] (fun iv wr=>∃ i:Nat,iv = .int .i64 i∧i≤xs.length∧Hid ((xs.drop i).any (outR most)=A)∧wr=w) (fun iv _=>xs.length - (intOf iv).toNat)
 case atStart=>exact ⟨0,rfl,by omega,h0,rfl⟩
 case round=>
  clear h0
  obtain ⟨i,rfl,hi,ht,rfl⟩:=hrel
  by_cases hlt:i < xs.length
  ·obtain rfl:=hxa (by omega)
   have hxi:=hxc.out i hlt
   obtain ⟨x,hx⟩:=exE (xs.getD i 0)
   rw [hx] at hxi
   have ht2:=ht.out
   rw [drop_cons0 hlt hx,List.any_cons] at ht2
   have H1:=HC.out x
   obtain ⟨B,hB⟩:=exE (outR most x)
   rw [hB] at H1 ht2
   replace H1:=Lib.hid H1
   clear hx ht hB
   cases B
   ·rw [Bool.false_or] at ht2
    replace ht2:=Lib.hid ht2
    go_wp2_with fail
    refine H1.out.mono ?_
    rintro e w' ⟨rfl,rfl⟩
    go_wp2_with fail
    go_roundw
    case rel=>exact ⟨i+1,by go_num,hlt,ht2,by first | rfl | trivial⟩
    case measure=>simp [intOf]; omega
   ·rw [Bool.true_or] at ht2
    replace ht2:=Lib.hid ht2
    go_wp2_with fail
    refine H1.out.mono ?_
    rintro e w' ⟨rfl,rfl⟩
    go_wp2_with fail
    go_ret
    exact ⟨_,rfl,by rw [← ht2.out]; exact decide_eq_true (by omega),rfl⟩
  ·have hE:Hid (false=A):=by
    have:=ht.out
    rw [dropEnd (xs:=xs) (by omega)] at this
    exact this
   clear ht
   go_wp2_with fail
   go_ret
   exact ⟨_,rfl,by rw [← hE.out]; rfl,rfl⟩
theorem vecContains {w:World} {b:Nat} {u:Value} {xs:List Int} {most:Int} (hx:Ints w u xs) (h:w.cell? ⟨b,0,none⟩=some (.int .i64 most)) :
  Calls Tryz.prog 199 #[u,.func (.func 200) #[] #[.pointer (some ⟨b,0,none⟩)]] w fun e w'=>e = .returned (.bool (xs.any (outR most)))∧w'=w:=by
 have HI:=Lib.hid (vecIndex hx h)
 obtain ⟨xa,xc,xb,xo,rfl,_⟩:=hx
 obtain ⟨A,hA⟩:=exE (xs.any (outR most))
 rw [hA] at HI ⊢
 clear hA h
 go_enter Tryz.func199, Tryz.ntmps199
 go_wp2_with fail
 refine HI.out.mono ?_
 rintro e w' ⟨z,rfl,hz,rfl⟩
 go_wp2
 go_ret
 exact ⟨rfl,rfl⟩
theorem vecE_eq {v:List Int} {n most:Int}:vecE v n most=if (v.length:Int) ≠ n then 15 else if v.any (outR most)=true then 2 else 0:=by
 unfold vecE
 by_cases h:∃ x∈v,x < 0∨most≤x
 ·have h2:v.any (outR most)=true:=List.any_eq_true.2 (by obtain ⟨x,hx,hh⟩:=h; exact ⟨x,hx,decide_eq_true hh⟩)
  rw [if_pos h,if_pos h2]
 ·have h2 : ¬ v.any (outR most)=true:=fun g=>h (by obtain ⟨x,hx,hh⟩:=List.any_eq_true.1 g; exact ⟨x,hx,of_decide_eq_true hh⟩)
  rw [if_neg h,if_neg h2]
theorem vectorC {w:World} {u:Value} {xs:List Int} {n most:Int} (hx:Ints w u xs) :
  Calls Tryz.prog 164 #[u,.int .i64 n,.int .i64 most] w fun e w'=>e = .returned (.int .i64 (vecE xs n most))∧Below w.heap.size w w':=by
 obtain ⟨W1,hW1⟩:=exF (w.alloc (.cells #[.int .i64 most] 3))
 have hb1:Below w.heap.size w W1:=by rw [hW1]; exact (Below.refl _ _).alloc (Nat.le_refl _) _
 have k1:W1.heap[w.heap.size]? = some (.cells #[.int .i64 most] 3 (0,0)):=by rw [hW1]; exact heap_alloc_new _ _
 have HC:=vecContains (hx.keep hb1) (cell_of_one k1)
 obtain ⟨xa,xc,xb,xo,rfl,_⟩:=hx
 rw [vecE_eq]
 clear k1
 by_cases hn:(xs.length:Int)=n
 ·rw [if_neg (fun h=>h hn)]
  subst hn
  obtain ⟨B,hB⟩:=exE (xs.any (outR most))
  rw [hB] at HC ⊢
  replace HC:=Lib.hid HC
  clear hB
  cases B
  ·go_enter Tryz.func164, Tryz.ntmps164
   go_wp2_with fail
   rw [← hW1]
   refine HC.out.mono ?_
   rintro e w' ⟨rfl,rfl⟩
   replace hW1:=Lib.hid hW1
   go_wp2
   go_ret
   exact ⟨rfl,hb1⟩
  ·go_enter Tryz.func164, Tryz.ntmps164
   go_wp2_with fail
   rw [← hW1]
   refine HC.out.mono ?_
   rintro e w' ⟨rfl,rfl⟩
   replace hW1:=Lib.hid hW1
   go_wp2
   go_ret
   exact ⟨rfl,hb1⟩
 ·rw [if_pos hn]
  have d1:((xs.length:Int) != n)=true:=by simpa using hn
  clear hn HC
  go_enter Tryz.func164, Tryz.ntmps164
  go_wp2
  go_ret
  rw [hW1] at hb1
  exact ⟨rfl,hb1⟩
def unordB (l:List (List Int)) (i:Nat):Bool:=decide (0 < i∧0≤cmpL (l.getD (i - 1) []) (l.getD i []))
theorem unordC {w:World} {u:Value} {l:List (List Int)} {i:Nat} (hx:Intss w u l) (hi:i < l.length) :
  Calls Tryz.prog 201 #[u,.int .i64 (i:Int)] w fun e w'=>e = .returned (.bool (unordB l i))∧Below w.heap.size w w':=by
 have hmx : Tryz.prog.follows .mixedOrders=true:=by kernel_rfl
 obtain ⟨xa,xc,xb,xo,rfl,hxa,hxc,hxl⟩:=hx
 obtain rfl:=hxa (by omega)
 rcases Nat.eq_zero_or_pos i with h0 | h0
 ·have hr:unordB l i=false:=decide_eq_false (fun h=>by omega)
  rw [hr]
  subst h0
  clear hr hxc
  go_enter Tryz.func201, Tryz.ntmps201
  go_wp2_with fail
  refine wp_region_bw hmx (by kernel_rfl) ?_
  repeat (refine WQ.step (fun K hK => ?_)
          go_simp
          first
            | (refine hK _ ?_; clear hK K)
            | (apply Exists.intro
               refine ⟨fun wq hC => ?_, hK _ ?_⟩
               · (first | with_reducible rfl | (go_simp; first | done | with_reducible rfl | with_reducible exact ⟨rfl,rfl⟩))
               clear hK K))
  refine WQ.nil ?_
  intro w4 hb4
  go_wp2
  go_ret
  exact ⟨rfl,hb4⟩
 ·obtain ⟨u1,c1,hu1⟩:=hxc (i - 1) (by omega)
  obtain ⟨u2,c2,hu2⟩:=hxc i hi
  have hr0:unordB l i=decide (0≤cmpL (l.getD (i - 1) []) (l.getD i [])):=by unfold unordB; simp [h0]
  obtain ⟨p,hp⟩:=exE (l.getD (i - 1) [])
  obtain ⟨q,hq⟩:=exE (l.getD i [])
  rw [hp,hq] at hr0
  rw [hp] at hu1
  rw [hq] at hu2
  have HC:=Lib.hid (fun W (hb:Below w.heap.size w W)=>cmpIntsC (hu1.keep hb) (hu2.keep hb))
  obtain ⟨z,hz⟩:=exE (cmpL p q)
  rw [hz] at hr0
  simp only [hz] at HC
  rw [hr0]
  obtain ⟨a1,b1,rfl⟩:∃ a c,u1 = .slice a p.length c:=by obtain ⟨a,c,_,_,h,_⟩:=hu1; exact ⟨a,c,h⟩
  obtain ⟨a2,b2,rfl⟩:∃ a c,u2 = .slice a q.length c:=by obtain ⟨a,c,_,_,h,_⟩:=hu2; exact ⟨a,c,h⟩
  obtain ⟨n1,hn1⟩:=exE (p.length)
  obtain ⟨n2,hn2⟩:=exE (q.length)
  rw [hn1] at c1
  rw [hn2] at c2
  simp only [hn1,hn2] at HC
  have d1:decide ((0:Int) < (i:Int))=true:=decide_eq_true (by omega)
  obtain ⟨k,hk⟩:=exE (i - 1)
  rw [hk] at c1
  have hwr:IntKind.i64.wrap ((i:Int) - 1)=(k:Int):=by rw [show (i:Int) - 1=(k:Int) by omega]; exact IntWalk.i64_in _ (by omega)
  have hi1:(k:Int) < (l.length:Int):=by omega
  have hi2:(i:Int) < (l.length:Int):=by omega
  obtain ⟨B,hB⟩:=exE (decide (0≤z))
  rw [hB]
  have HK:=Lib.hid (fun W (hb:Below w.heap.size w W)=>And.intro (cell_kept hb c1) (cell_kept hb c2))
  clear hxc hu1 hu2 hz hr0 c1 c2 hp hq hk hn1 hn2
  go_enter Tryz.func201, Tryz.ntmps201
  go_wp2_with fail
  refine wp_region_bw hmx (by kernel_rfl) ?_
  repeat (refine WQ.step (fun K hK => ?_)
          go_simp
          first
            | (refine hK _ ?_; clear hK K)
            | (apply Exists.intro
               refine ⟨fun wq hC => ?_, hK _ ?_⟩
               · (first | with_reducible rfl | (obtain ⟨c1,c2⟩:=HK.out wq hC; go_simp; first | done | with_reducible rfl | with_reducible exact ⟨rfl,rfl⟩))
               clear hK K))
  (refine WQ.step (fun K hK => ?_)
   go_simp
   first
     | (refine hK _ ?_; clear hK K)
     | (apply Exists.intro
        refine ⟨fun wq hC => ?_, hK _ ?_⟩
        · (refine (HC.out wq hC).mono ?_; rintro e w' ⟨rfl,rfl⟩; exact ⟨rfl,hC⟩)
        clear hK K))
  repeat (refine WQ.step (fun K hK => ?_)
          go_simp
          first
            | (refine hK _ ?_; clear hK K)
            | (apply Exists.intro
               refine ⟨fun wq hC => ?_, hK _ ?_⟩
               · (first | with_reducible rfl | (go_simp; first | done | with_reducible rfl | with_reducible exact ⟨rfl,rfl⟩))
               clear hK K))
  refine WQ.nil ?_
  intro w4 hb4
  go_wp2
  go_ret
  exact ⟨by first | rfl | (rw [← hB]; rfl) | simp [← hB],hb4⟩
end Go.Proofs.YtmikofeildnpdaaGreat

/- Texts of this claim, put together: QN QS QT ZE. -/
import Derived.Test.YtmikofeildnpdaaGreatKUj
import Derived.Test.YtmikofeildnpdaaGreatKUr
import Derived.Test.YtmikofeildnpdaaGreatKUq
import Derived.Test.YtmikofeildnpdaaGreatKUn

set_option maxRecDepth 100000
set_option maxHeartbeats 12800000
/- Rounds with renamed processes. Plain lists. -/
namespace Go.Proofs.YtmikofeildnpdaaGreat
theorem twoI_pow {k:Nat} (h:k < 5):twoI (k:Int)=2 ^ k:=by
 have:k=0∨k=1∨k=2∨k=3∨k=4:=by omega
 rcases this with rfl | rfl | rfl | rfl | rfl <;> rfl
theorem hasI_bits {s:Int} {n k:Nat} (hk:k < n) (hn:n≤5):hasI s (k:Int)=((bitsL s n).getD k 0 == 1):=by
 have:(bitsL s n).getD k 0=s / 2 ^ k % 2:=by simp [bitsL,hk]
 rw [this,hasI,twoI_pow (by omega)]
theorem moved_at {n:Nat} {a v:List Int} (ha:IsP n a) {p:Nat} (hp:p < n):(movedL a v).getD (a.getD p 0).toNat 0=v.getD p 0:=by
 unfold movedL
 rw [ha.1]
 exact scat_get ha (Nat.le_refl n) p hp
theorem img_has {n:Nat} {a:List Int} (h1:1≤n) (h5:n≤5) (ha:IsP n a) {s:Int} (k0:0≤s) (k1:s < 2 ^ n) {p:Nat} (hp:p < n):hasI (imgP a s n) (a.getD p 0)=hasI s (p:Int):=by
 obtain ⟨e,_,_,_⟩:=set_facts (chk_of h1 h5 ha) ha k0 k1
 have hg:=ha.2.1 (a.getD p 0) (by rw [getD_eq (by rw [ha.1]; exact hp)]; exact List.getElem_mem _)
 have hn:(((a.getD p 0).toNat:Nat):Int)=a.getD p 0:=by omega
 rw [← hn,hasI_bits (s:=imgP a s n) (show (a.getD p 0).toNat < n by omega) h5,e,moved_at ha hp,hasI_bits hp h5]
theorem perm_onto {n:Nat} {a:List Int} (h1:1≤n) (h5:n≤5) (ha:IsP n a) {q:Nat} (hq:q < n):∃ p:Nat,p < n∧a.getD p 0=(q:Int):=by
 have hz:=chk_of h1 h5 ha
 obtain ⟨_,k2,k3⟩:=back_left hz
 have hb:=chk_isP k3
 have hbl:(backL a).length=n:=by rw [backL,movedL_length,ha.1]
 rw [hbl] at hb
 obtain ⟨g1,g2⟩:=hb.idx (q:=(backL a).getD q 0) (by rw [getD_eq (by rw [hbl]; exact hq)]; exact List.getElem_mem _)
 refine ⟨((backL a).getD q 0).toNat,g1,?_⟩
 have:=congrArg (fun l=>l.getD q 0) k2
 simp only [timesL_getD a (backL a) q (by rw [hbl]; exact hq)] at this
 rw [this,ha.1,oneL_getD hq]
def mkR (n:Nat) (hs:List Int) (f:Int):List Int:=(n:Int)::(hs++(List.replicate (5 - n) 0 ++ [f]))
structure RdN (n:Nat) (hs:List Int) (f:Int):Prop where
 len:hs.length=n
 rng:∀ x∈hs,0≤x∧x < 2 ^ n
 self:∀ p,p < n→hasI (hs.getD p 0) (p:Int)=true
 f0:0≤f
 f1:f < 2 ^ n
theorem mkR_len {n:Nat} {hs:List Int} {f:Int} (hn:n≤5) (h:hs.length=n):(mkR n hs f).length=7:=by
 simp [mkR,h]; omega
theorem mkR_inj {n:Nat} {hs hs':List Int} {f f':Int} (h:hs.length=n) (h':hs'.length=n) (e:mkR n hs f=mkR n hs' f'):hs=hs'∧f=f':=by
 unfold mkR at e
 injection e with _ e
 obtain ⟨e1,e2⟩:=List.append_inj e (by omega)
 exact ⟨e1,by simpa using e2⟩
theorem mkR_at {n:Nat} {hs:List Int} {f:Int} (h:hs.length=n) {p:Nat} (hp:p < n):(mkR n hs f).getD (1+p) 0=hs.getD p 0:=by
 rw [mkR,Nat.add_comm 1 p,List.getD_cons_succ,List.getD_eq_getElem?_getD,List.getElem?_append_left (by omega),← List.getD_eq_getElem?_getD]
theorem mkR_z {n:Nat} {hs:List Int} {f:Int} (h:hs.length=n) {p:Nat} (hp:n≤p) (h5:p < 5):(mkR n hs f).getD (1+p) 0=0:=by
 rw [mkR,Nat.add_comm 1 p,List.getD_cons_succ,List.getD_eq_getElem?_getD,List.getElem?_append_right (by omega),List.getElem?_append_left (by simp; omega),List.getElem?_replicate,if_pos (by omega)]; rfl
theorem mkR_f {n:Nat} {hs:List Int} {f:Int} (hn:n≤5) (h:hs.length=n):(mkR n hs f).getD 6 0=f:=by
 rw [mkR,List.getD_cons_succ,List.getD_eq_getElem?_getD,List.getElem?_append_right (by omega),List.getElem?_append_right (by simp; omega)]
 simp [show 5 - hs.length - (5 - n)=0 by omega]
theorem mkR_rows {n:Nat} {hs:List Int} {f:Int} (h:hs.length=n):((mkR n hs f).drop 1).take n=hs:=by
 rw [mkR,List.drop_succ_cons,List.drop_zero,List.take_append_of_le_length (by omega),List.take_of_length_le (by omega)]
def renR (a:List Int) (r:List Int):List Int:=mkR a.length (movedL a (((r.drop 1).take a.length).map fun x=>imgP a x a.length)) (imgP a (r.getD 6 0) a.length)
section
variable {n:Nat} {a b hs hs':List Int} {f f':Int}
theorem renR_mk (ha:IsP n a) (hn:n≤5) (h:hs.length=n):renR a (mkR n hs f)=mkR n (movedL a (hs.map fun x=>imgP a x n)) (imgP a f n):=by
 unfold renR
 rw [ha.1,mkR_rows h,mkR_f hn h]
theorem img_rng (h1:1≤n) (h5:n≤5) (ha:IsP n a) {s:Int} (k0:0≤s) (k1:s < 2 ^ n):0≤imgP a s n∧imgP a s n < 2 ^ n:=by
 obtain ⟨_,e1,e2,_⟩:=set_facts (chk_of h1 h5 ha) ha k0 k1
 exact ⟨e1,e2⟩
theorem moved_mem (h1:1≤n) (h5:n≤5) (ha:IsP n a) {v:List Int} (hv:v.length=n) {x:Int}:x∈movedL a v↔x∈v:=(moved_perm (chk_of h1 h5 ha) ha hv).mem_iff
theorem RdN.ren (h1:1≤n) (h5:n≤5) (ha:IsP n a) (h:RdN n hs f):RdN n (movedL a (hs.map fun x=>imgP a x n)) (imgP a f n) where
 len:=by rw [movedL_length,ha.1]
 rng x hx:=by
  rw [moved_mem h1 h5 ha (by rw [List.length_map]; exact h.len)] at hx
  obtain ⟨y,hy,rfl⟩:=List.mem_map.1 hx
  exact img_rng h1 h5 ha (h.rng y hy).1 (h.rng y hy).2
 self q hq:=by
  obtain ⟨p,hp,e⟩:=perm_onto h1 h5 ha hq
  have hm:=moved_at (v:=hs.map fun x=>imgP a x n) ha hp
  rw [e,Int.toNat_natCast] at hm
  have hpl:p < hs.length:=by rw [h.len]; exact hp
  have e2:(hs.map fun x=>imgP a x n).getD p 0=imgP a (hs.getD p 0) n:=by simp [hpl]
  rw [hm,e2,← e]
  obtain ⟨q0,q1⟩:=h.rng (hs.getD p 0) (by rw [getD_eq hpl]; exact List.getElem_mem hpl)
  rw [img_has h1 h5 ha q0 q1 hp]
  exact h.self p hp
 f0:=(img_rng h1 h5 ha h.f0 h.f1).1
 f1:=(img_rng h1 h5 ha h.f0 h.f1).2
theorem moved_map (h1:1≤n) (h5:n≤5) (ha:IsP n a) (g:Int→Int) {v:List Int} (hv:v.length=n):(movedL a v).map g=movedL a (v.map g):=by
 refine times_injR (chk_of h1 h5 ha) ha (by rw [List.length_map,movedL_length,ha.1]) (by rw [movedL_length,ha.1]) ?_
 rw [times_moved ha (by rw [List.length_map]; exact hv)]
 have:timesL ((movedL a v).map g) a=(timesL (movedL a v) a).map g:=by
  unfold timesL
  rw [List.map_map]
  refine List.map_congr_left fun q hq=>?_
  obtain ⟨g1,_⟩:=ha.idx hq
  simp [movedL_length,ha.1,g1]
 rw [this,times_moved ha hv]
theorem renR_times (h1:1≤n) (h5:n≤5) (ha:IsP n a) (hb:IsP n b) (h:RdN n hs f):renR a (renR b (mkR n hs f))=renR (timesL a b) (mkR n hs f):=by
 have hR:=h.ren h1 h5 hb
 rw [renR_mk hb h5 h.len,renR_mk ha h5 hR.len,renR_mk (ha.times hb) h5 h.len]
 have e1:imgP a (imgP b f n) n=imgP (timesL a b) f n:=set_set h1 h5 ha hb h.f0 h.f1
 rw [moved_map h1 h5 hb _ (by rw [List.length_map]; exact h.len),List.map_map,moved_moved h1 h5 ha hb (by rw [List.length_map]; exact h.len),e1]
 congr 2
 refine List.map_congr_left fun x hx=>?_
 exact set_set h1 h5 ha hb (h.rng x hx).1 (h.rng x hx).2
theorem bits_inj (h5:n≤5) {s t:Int} (s0:0≤s) (s1:s < 2 ^ n) (t0:0≤t) (t1:t < 2 ^ n) (e:bitsL s n=bitsL t n):s=t:=by
 have h:=List.all_eq_true.1 bits_inj_ok n (by rw [List.mem_range]; omega)
 have h:=List.all_eq_true.1 h s.toNat (by rw [List.mem_range]; exact (Int.toNat_lt s0).2 (by simpa using s1))
 have h:=List.all_eq_true.1 h t.toNat (by rw [List.mem_range]; exact (Int.toNat_lt t0).2 (by simpa using t1))
 have h:=of_decide_eq_true h
 rw [show ((s.toNat:Nat):Int)=s by omega,show ((t.toNat:Nat):Int)=t by omega] at h
 have:=h e
 omega
theorem moved_one {v:List Int} (hv:v.length=n):movedL (oneL n) v=v:=by
 have hp:=IsP.one n
 have:=times_moved hp hv
 rwa [times_oneR (by rw [movedL_length,oneL_length])] at this
theorem img_one (h1:1≤n) (h5:n≤5) {s:Int} (k0:0≤s) (k1:s < 2 ^ n):imgP (oneL n) s n=s:=by
 obtain ⟨e,e1,e2,_⟩:=set_facts (chk_of h1 h5 (IsP.one n)) (IsP.one n) k0 k1
 refine bits_inj h5 e1 e2 k0 k1 ?_
 rw [e,moved_one (bitsL_len s n)]
theorem renR_one (h1:1≤n) (h5:n≤5) (h:RdN n hs f):renR (oneL n) (mkR n hs f)=mkR n hs f:=by
 rw [renR_mk (IsP.one n) h5 h.len,img_one h1 h5 h.f0 h.f1]
 have:(hs.map fun x=>imgP (oneL n) x n)=hs:=by
  conv=>rhs; rw [← List.map_id hs]
  exact List.map_congr_left fun x hx=>img_one h1 h5 (h.rng x hx).1 (h.rng x hx).2
 rw [this,moved_one h.len]
theorem back_isP (h1:1≤n) (h5:n≤5) (ha:IsP n a):IsP n (backL a):=by
 obtain ⟨_,_,k3⟩:=back_left (chk_of h1 h5 ha)
 have h:=chk_isP k3
 rwa [show (backL a).length=n by rw [backL,movedL_length,ha.1]] at h
theorem renR_back (h1:1≤n) (h5:n≤5) (ha:IsP n a) (h:RdN n hs f):renR (backL a) (renR a (mkR n hs f))=mkR n hs f:=by
 rw [renR_times h1 h5 (back_isP h1 h5 ha) ha h,(back_left (chk_of h1 h5 ha)).1,ha.1,renR_one h1 h5 h]
theorem renR_inj (h1:1≤n) (h5:n≤5) (ha:IsP n a) (h:RdN n hs f) (h':RdN n hs' f') (e:renR a (mkR n hs f)=renR a (mkR n hs' f')):mkR n hs f=mkR n hs' f':=by
 rw [← renR_back h1 h5 ha h,e,renR_back h1 h5 ha h']
end
theorem hGo_iff {n:Int}:∀ {l:List Int} {p:Int},hGo n p l=0↔∀ i,i < l.length→hErr n (p+(i:Int)) (l.getD i 0)=0
 | [],p=>⟨fun _ i hi=>absurd hi (by simp),fun _=>rfl⟩
 | x::r,p=>by
  rw [hGo]
  by_cases h:hErr n p x=0
  ·rw [if_neg (fun k=>k h),hGo_iff]
   constructor
   ·intro g i hi
    cases i with
    | zero=>simpa using h
    | succ i=>
     have:=g i (by simpa using hi)
     rw [List.getD_cons_succ,show p+((i+1:Nat):Int)=p+1+(i:Int) by omega]
     exact this
   ·intro g i hi
    have:=g (i+1) (by simpa using hi)
    rwa [List.getD_cons_succ,show p+((i+1:Nat):Int)=p+1+(i:Int) by omega] at this
  ·rw [if_pos h]
   refine ⟨fun g=>absurd g h,fun g=>absurd ?_ h⟩
   have:=g 0 (by simp)
   simpa using this
theorem fullI_pow {n:Nat} (h5:n≤5) (h1:1≤n):fullI (n:Int)=2 ^ n - 1∧twoI (n:Int)=2 ^ n:=by
 have:n=1∨n=2∨n=3∨n=4∨n=5:=by omega
 rcases this with rfl | rfl | rfl | rfl | rfl <;> exact ⟨rfl,rfl⟩
theorem chkRd_mk {n:Nat} {hs:List Int} {f:Int} (h1:1≤n) (h5:n≤5) (h:RdN n hs f):chkRd (mkR n hs f)=0:=by
 obtain ⟨e1,e2⟩:=fullI_pow h5 h1
 have hg:chkGr (n:Int) (((mkR n hs f).drop 1).take 5)=0:=by
  rw [chkGr,if_neg (by omega),hGo_iff]
  intro i hi
  have hi5:i < 5:=by rw [List.length_take] at hi; omega
  have e:(((mkR n hs f).drop 1).take 5).getD i 0=(mkR n hs f).getD (1+i) 0:=by
   rw [List.getD_eq_getElem?_getD,List.getElem?_take,if_pos hi5,List.getElem?_drop,← List.getD_eq_getElem?_getD]
  rw [e,hErr]
  by_cases hin:i < n
  ·rw [if_neg (by omega),mkR_at h.len hin]
   obtain ⟨q0,q1⟩:=h.rng (hs.getD i 0) (by rw [getD_eq (by rw [h.len]; exact hin)]; exact List.getElem_mem _)
   rw [if_neg (by omega),show (0:Int)+(i:Int)=(i:Int) by omega,h.self i hin]; rfl
  ·rw [if_pos (by omega),mkR_z h.len (by omega) hi5,if_pos rfl]
 have e0:(mkR n hs f).getD 0 0=(n:Int):=rfl
 have hp:procE (n:Int)=0:=if_neg (by omega)
 have:=h.f0
 have:=h.f1
 rw [chkRd,e0,hg,if_neg (fun k=>k rfl),mkR_f h5 h.len,chkSet,hp,if_neg (fun k=>k rfl),if_neg (by omega)]
theorem rd_of {n:Nat} {r:List Int} (hl:r.length=7) (h:chkRd r=0) (hn:r.getD 0 0=(n:Int)):(1≤n∧n≤5)∧∃ hs f,RdN n hs f∧r=mkR n hs f:=by
 obtain ⟨m,h0,g1,g2,g3,g4,f,rfl⟩:=seven hl
 have hn:m=(n:Int):=hn
 subst hn
 have hg:chkGr (n:Int) [h0,g1,g2,g3,g4]=0:=by
  by_cases hc:chkGr (n:Int) [h0,g1,g2,g3,g4]=0
  ·exact hc
  ·rw [chkRd_1 hc] at h; exact h
 have hf:chkSet (n:Int) f=0:=by rw [chkRd_2 hg] at h; exact h
 rw [chkGr] at hg
 by_cases hb:(n:Int) < 1∨5 < (n:Int)
 ·rw [if_pos hb] at hg; cases hg
 rw [if_neg hb,hGo_iff] at hg
 have b1:1≤n:=by omega
 have b5:n≤5:=by omega
 obtain ⟨e1,e2⟩:=fullI_pow b5 b1
 have hp:procE (n:Int)=0:=if_neg hb
 rw [chkSet,hp,if_neg (fun k=>k rfl)] at hf
 have hf':0≤f∧f < 2 ^ n:=by
  by_cases hc:f < 0∨twoI (n:Int)≤f
  ·rw [if_pos hc] at hf; cases hf
  ·omega
 have hin:∀ i,i < n→(0 ≤ [h0,g1,g2,g3,g4].getD i 0∧[h0,g1,g2,g3,g4].getD i 0 < 2 ^ n)∧hasI ([h0,g1,g2,g3,g4].getD i 0) (i:Int)=true:=fun i hi=>by
  have:=hg i (by simp; omega)
  rw [hErr,if_neg (by omega),show (0:Int)+(i:Int)=(i:Int) by omega] at this
  split at this
  ·cases this
  ·split at this
   ·rename_i k1 k2
    exact ⟨by omega,k2⟩
   ·cases this
 have hout:∀ i,n≤i→i < 5→[h0,g1,g2,g3,g4].getD i 0=0:=fun i hi h5=>by
  have:=hg i (by simpa using h5)
  rw [hErr,if_pos (by omega)] at this
  split at this
  ·assumption
  ·cases this
 refine ⟨⟨b1,b5⟩,[h0,g1,g2,g3,g4].take n,f,⟨by simp; omega,fun x hx=>?_,fun p hp=>?_,hf'.1,hf'.2⟩,?_⟩
 ·obtain ⟨i,hi,rfl⟩:=List.mem_iff_getElem.1 hx
  have hin':=(hin i (by simp at hi; omega)).1
  rw [List.getElem_take]
  rwa [getD_eq (by simp at hi ⊢; omega)] at hin'
 ·have:=(hin p hp).2
  rw [List.getD_eq_getElem?_getD,List.getElem?_take,if_pos hp,← List.getD_eq_getElem?_getD]
  exact this
 ·have z4:=hout 4
  have z3:=hout 3
  have z2:=hout 2
  have z1:=hout 1
  have:n=1∨n=2∨n=3∨n=4∨n=5:=by omega
  rcases this with rfl | rfl | rfl | rfl | rfl
  ·obtain rfl:g1=0:=z1 (by omega) (by omega)
   obtain rfl:g2=0:=z2 (by omega) (by omega)
   obtain rfl:g3=0:=z3 (by omega) (by omega)
   obtain rfl:g4=0:=z4 (by omega) (by omega)
   rfl
  ·obtain rfl:g2=0:=z2 (by omega) (by omega)
   obtain rfl:g3=0:=z3 (by omega) (by omega)
   obtain rfl:g4=0:=z4 (by omega) (by omega)
   rfl
  ·obtain rfl:g3=0:=z3 (by omega) (by omega)
   obtain rfl:g4=0:=z4 (by omega) (by omega)
   rfl
  ·obtain rfl:g4=0:=z4 (by omega) (by omega)
   rfl
  ·rfl
end Go.Proofs.YtmikofeildnpdaaGreat

/- Sorted lists: what is inserted from behind, and what is sorted. Plain lists. -/
namespace Go.Proofs.YtmikofeildnpdaaGreat
def bkK {α:Type} (cmp:α→α→Int) (d x:α) (l:List α):Nat→Nat
 | 0=>0
 | k+1=>if cmp x (l.getD k d) < 0 then bkK cmp d x l k else k+1
def insB {α:Type} (cmp:α→α→Int) (d x:α) (l:List α):List α:=l.take (bkK cmp d x l l.length)++x::l.drop (bkK cmp d x l l.length)
def srtB {α:Type} (cmp:α→α→Int) (d:α) (l:List α):List α:=l.foldl (fun o x=>insB cmp d x o) []
structure WeakO {α:Type} (cmp:α→α→Int):Prop where
 asymm:∀ a b,cmp a b < 0→¬ cmp b a < 0
 ntrans:∀ a b c,¬ cmp a b < 0→¬ cmp b c < 0→¬ cmp a c < 0
def SrtG {α:Type} (cmp:α→α→Int) (l:List α):Prop:=l.Pairwise fun a b=>¬ cmp b a < 0
section
variable {α:Type} {cmp:α→α→Int} {d x:α}
theorem bkK_le (l:List α):∀ k,bkK cmp d x l k≤k
 | 0=>Nat.le_refl _
 | k+1=>by
  rw [bkK]
  split
  ·have:=bkK_le l k; omega
  ·exact Nat.le_refl _
theorem bkK_gt (l:List α):∀ k j,bkK cmp d x l k≤j→j < k→cmp x (l.getD j d) < 0
 | 0,_,_,h=>absurd h (by omega)
 | k+1,j,h1,h2=>by
  rw [bkK] at h1
  split at h1
  ·rename_i h
   by_cases e:j=k
   ·subst e; exact h
   ·exact bkK_gt l k j h1 (by omega)
  ·omega
theorem bkK_at (l:List α):∀ k p,bkK cmp d x l k=p+1→¬ cmp x (l.getD p d) < 0
 | 0,p,h=>by rw [bkK] at h; omega
 | k+1,p,h=>by
  rw [bkK] at h
  split at h
  ·exact bkK_at l k p h
  ·rename_i h1
   obtain rfl:k=p:=by omega
   exact h1
theorem insB_perm (l:List α):(insB cmp d x l).Perm (x::l):=by
 unfold insB
 refine List.perm_middle.trans ?_
 rw [List.take_append_drop]
theorem insB_sorted (hO:WeakO cmp) {l:List α} (h:SrtG cmp l):SrtG cmp (insB cmp d x l):=by
 obtain ⟨K,hK⟩:=exE (bkK cmp d x l l.length)
 have hKl:K≤l.length:=by rw [← hK]; exact bkK_le l l.length
 unfold insB
 rw [hK]
 have hlo:∀ a∈l.take K,¬ cmp x a < 0:=fun a ha=>by
  obtain ⟨i,hi,rfl⟩:=List.mem_iff_getElem.1 ha
  rw [List.length_take] at hi
  obtain ⟨p,rfl⟩:∃ p,K=p+1:=⟨K - 1,by omega⟩
  have h1:=bkK_at l l.length p hK
  rw [List.getElem_take]
  rw [List.getD_eq_getElem?_getD,List.getElem?_eq_getElem (by omega)] at h1
  by_cases e:i=p
  ·subst e; exact h1
  ·exact hO.ntrans _ _ _ h1 ((List.pairwise_iff_getElem.1 h) i p (by omega) (by omega) (by omega))
 have hhi:∀ b∈l.drop K,cmp x b < 0:=fun b hb=>by
  obtain ⟨i,hi,rfl⟩:=List.mem_iff_getElem.1 hb
  rw [List.length_drop] at hi
  have:=bkK_gt (cmp:=cmp) (d:=d) (x:=x) l l.length (K+i) (by rw [hK]; omega) (by omega)
  rw [List.getElem_drop]
  rwa [List.getD_eq_getElem?_getD,List.getElem?_eq_getElem (by omega)] at this
 rw [SrtG,List.pairwise_append,List.pairwise_cons]
 refine ⟨List.Pairwise.sublist (List.take_sublist _ _) h,⟨fun b hb=>hO.asymm _ _ (hhi b hb),List.Pairwise.sublist (List.drop_sublist _ _) h⟩,fun a ha b hb=>?_⟩
 rcases List.mem_cons.1 hb with rfl | hb
 ·exact hlo a ha
 ·intro hc
  exact hO.ntrans _ _ _ (hO.asymm _ _ (hhi b hb)) (hlo a ha) hc
theorem srtB_go (hO:WeakO cmp):∀ (l o:List α),SrtG cmp o→(l.foldl (fun o x=>insB cmp d x o) o).Perm (o++l)∧SrtG cmp (l.foldl (fun o x=>insB cmp d x o) o)
 | [],o,h=>⟨by simp,h⟩
 | x::l,o,h=>by
  obtain ⟨h1,h2⟩:=srtB_go hO l (insB cmp d x o) (insB_sorted hO h)
  rw [List.foldl_cons]
  refine ⟨h1.trans ?_,h2⟩
  refine ((insB_perm o).append_right l).trans ?_
  exact List.perm_middle.symm
theorem srtB_perm (hO:WeakO cmp) (l:List α):(srtB cmp d l).Perm l:=by
 have:=(srtB_go (d:=d) hO l [] (by simp [SrtG])).1
 simpa [srtB] using this
theorem srtB_sorted (hO:WeakO cmp) (l:List α):SrtG cmp (srtB cmp d l):=(srtB_go (d:=d) hO l [] (by simp [SrtG])).2
theorem srtB_uniq (hO:WeakO cmp) {l m:List α} (hp:m.Perm l) (hs:SrtG cmp m) (ha:∀ a∈l,∀ b∈l,¬ cmp a b < 0→¬ cmp b a < 0→a=b):m=srtB cmp d l:=by
 refine List.Perm.eq_of_pairwise (le:=fun a b=>¬ cmp b a < 0) (fun a b h1 h2 h3 h4=>?_) hs (srtB_sorted hO l) (hp.trans (srtB_perm hO l).symm)
 exact ha a (hp.mem_iff.1 h1) b ((srtB_perm hO l).mem_iff.1 h2) h4 h3
theorem srtB_id (hO:WeakO cmp) {l:List α} (hs:SrtG cmp l) (ha:∀ a∈l,∀ b∈l,¬ cmp a b < 0→¬ cmp b a < 0→a=b):srtB cmp d l=l:=(srtB_uniq hO (List.Perm.refl l) hs ha).symm
theorem srtB_len (hO:WeakO cmp) (l:List α):(srtB cmp d l).length=l.length:=(srtB_perm hO l).length_eq
theorem srtB_mem (hO:WeakO cmp) (l:List α) {z:α}:z∈srtB cmp d l↔z∈l:=(srtB_perm hO l).mem_iff
end
theorem weakL:WeakO cmpL:=⟨cmpL_asymm,cmpL_ntrans⟩
theorem cmpL_anti {a b:List Int} (h1 : ¬ cmpL a b < 0) (h2 : ¬ cmpL b a < 0):a=b:=by
 rcases cmpL_total a b with h | h | h
 ·exact absurd h h1
 ·exact h
 ·exact absurd h h2
def cmpM (m m':List Int):Int:=cmpL (rdOf m) (rdOf m')
theorem weakM:WeakO cmpM:=⟨fun _ _ h=>cmpL_asymm _ _ h,fun _ _ _ h k=>cmpL_ntrans _ _ _ h k⟩
end Go.Proofs.YtmikofeildnpdaaGreat

/- Renamed tasks: plain. -/
namespace Go.Proofs.YtmikofeildnpdaaGreat
def cmpC (c c':Cs):Int:=cmpL c.1 c'.1
theorem weakC:WeakO cmpC:=⟨fun _ _ h=>cmpL_asymm _ _ h,fun _ _ _ h k=>cmpL_ntrans _ _ _ h k⟩
def mvAll (a:List Int) (l:List (List Int)):List (List Int):=srtB cmpL [] (l.map (movedL a))
def renC (a:List Int) (c:Cs):Cs:=(movedL a c.1,mvAll a c.2.1,mvAll a c.2.2)
def renT (a:List Int) (cs:List Cs):List Cs:=srtB cmpC csNil (cs.map (renC a))
theorem mvAll_len (a:List Int) (l:List (List Int)):(mvAll a l).length=l.length:=by rw [mvAll,srtB_len weakL,List.length_map]
theorem renT_len (a:List Int) (cs:List Cs):(renT a cs).length=cs.length:=by rw [renT,srtB_len weakC,List.length_map]
theorem mvAll_of {a:List Int} {l m:List (List Int)} (hp:m.Perm (l.map (movedL a))) (hs:SrtG cmpL m):m=mvAll a l:=srtB_uniq weakL hp hs fun _ _ _ _ h1 h2=>cmpL_anti h1 h2
theorem getD_mem {α:Type} {l:List α} {d:α} {k:Nat} (h:k < l.length):l.getD k d∈l:=by rw [getD_eq h]; exact List.getElem_mem h
theorem asc_adj {l:List (List Int)}:(∀ k,k+1 < l.length→cmpL (l.getD k []) (l.getD (k+1) []) < 0)→AscL l:=by
 induction l with
 | nil=>exact fun _=>List.Pairwise.nil
 | cons x l ih=>
  intro h
  have hl:AscL l:=ih fun k hk=>by have:=h (k+1) (by simpa using hk); simpa using this
  refine List.pairwise_cons.2 ⟨fun y hy=>?_,hl⟩
  cases l with
  | nil=>cases hy
  | cons z l=>
   have h0:cmpL x z < 0:=by have:=h 0 (by simp); simpa using this
   rcases List.mem_cons.1 hy with rfl | hy
   ·exact h0
   ·exact cmpL_trans _ _ _ h0 ((List.pairwise_cons.1 hl).1 y hy)
structure TskOK (n:Nat) (ins outs:Int) (cs:List Cs):Prop where
 n1:1≤n
 n5:n≤5
 asc:AscL (cs.map fun c=>c.1)
 len:∀ c∈cs,c.1.length=n∧(∀ v∈c.2.1,v.length=n)∧∀ v∈c.2.2,v.length=n
 short:1≤cs.length∧cs.length≤1024
 outs:∀ c∈cs,c.2.1.length≤1024
theorem vecE_len {v:List Int} {n most:Int} (h:vecE v n most=0):(v.length:Int)=n:=by
 unfold vecE at h
 by_cases e:(v.length:Int)=n
 ·exact e
 ·rw [if_pos e] at h; cases h
theorem TskOK.of {n:Nat} {ins outs:Int} {cs:List Cs} (h:chkT (n:Int) ins outs cs=0):TskOK n ins outs cs:=by
 unfold chkT at h
 split at h
 ·cases h
 next h1=>
 split at h
 ·cases h
 next h2=>
 have hf:=(firstE_zero _ _).1 h
 have hcase:∀ k,k < cs.length→vecE (cs.getD k csNil).1 (n:Int) ins=0∧(0 < k→cmpL (cs.getD (k - 1) csNil).1 (cs.getD k csNil).1 < 0)∧outsE (n:Int) outs (cs.getD k csNil)=0:=by
  intro k hk
  have e:=hf k (Nat.zero_le _) (by omega)
  unfold caseE at e
  split at e
  ·rename_i e1; exact absurd e e1
  next e1=>
  split at e
  ·cases e
  next e2=>exact ⟨Decidable.not_not.1 e1,fun h0=>by by_cases h:cmpL (cs.getD (k - 1) csNil).1 (cs.getD k csNil).1 < 0; exact h; exact absurd ⟨h0,by omega⟩ e2,e⟩
 have houts:∀ c∈cs,c.2.1.length≤1024∧(∀ v∈c.2.1,v.length=n)∧∀ v∈c.2.2,v∈c.2.1:=by
  intro c hc
  obtain ⟨k,hk,rfl⟩:=List.mem_iff_getElem.1 hc
  have e:=(hcase k hk).2.2
  rw [getD_eq hk] at e
  unfold outsE at e
  split at e
  ·cases e
  next e1=>
  split at e
  ·rename_i e2; exact absurd e e2
  next e2=>
  refine ⟨by omega,fun v hv=>?_,fun v hv=>?_⟩
  ·obtain ⟨j,hj,rfl⟩:=List.mem_iff_getElem.1 hv
   have:=(firstE_zero _ _).1 (Decidable.not_not.1 e2) j (Nat.zero_le _) (by omega)
   unfold outE at this
   split at this
   ·rename_i e3; exact absurd this e3
   next e3=>
   have:=vecE_len (Decidable.not_not.1 e3)
   rw [getD_eq hj] at this
   omega
  ·obtain ⟨j,hj,rfl⟩:=List.mem_iff_getElem.1 hv
   have:=(firstE_zero _ _).1 e j (Nat.zero_le _) (by omega)
   unfold calmE at this
   split at this
   ·cases this
   next e3=>rw [getD_eq hj] at e3; exact Decidable.not_not.1 e3
 refine ⟨by omega,by omega,?_,?_,by omega,fun c hc=>(houts c hc).1⟩
 ·refine asc_adj fun k hk=>?_
  rw [List.length_map] at hk
  have:=(hcase (k+1) hk).2.1 (by omega)
  rw [Nat.add_sub_cancel,getD_eq hk,getD_eq (show k < cs.length by omega)] at this
  rw [getD_eq (by rw [List.length_map]; omega),getD_eq (by rw [List.length_map]; exact hk),List.getElem_map,List.getElem_map]
  exact this
 ·intro c hc
  refine ⟨?_,(houts c hc).2.1,fun v hv=>(houts c hc).2.1 v ((houts c hc).2.2 v hv)⟩
  obtain ⟨k,hk,rfl⟩:=List.mem_iff_getElem.1 hc
  have:=vecE_len (hcase k hk).1
  rw [getD_eq hk] at this
  omega
theorem moved_inj {n:Nat} {a v w:List Int} (ha:IsP n a) (hv:v.length=n) (hw:w.length=n) (h:movedL a v=movedL a w):v=w:=by rw [← times_moved ha hv,h,times_moved ha hw]
theorem renC_anti {n:Nat} {ins outs:Int} {cs:List Cs} (h:TskOK n ins outs cs) {a:List Int} (ha:IsP n a):∀ x∈cs.map (renC a),∀ y∈cs.map (renC a),¬ cmpC x y < 0→¬ cmpC y x < 0→x=y:=fun x hx y hy h2 h3=>by
 obtain ⟨c,hc,rfl⟩:=List.mem_map.1 hx
 obtain ⟨c',hc',rfl⟩:=List.mem_map.1 hy
 have e:=moved_inj ha (h.len c hc).1 (h.len c' hc').1 (cmpL_anti h2 h3)
 obtain ⟨i,hi,rfl⟩:=List.mem_iff_getElem.1 hc
 obtain ⟨j,hj,rfl⟩:=List.mem_iff_getElem.1 hc'
 have hA:=h.asc
 rw [AscL,List.pairwise_iff_getElem] at hA
 have key:∀ i j (hi:i < cs.length) (hj:j < cs.length),i < j→cs[i].1=cs[j].1→False:=fun i j hi hj hij e=>by
  have:=hA i j (by rw [List.length_map]; exact hi) (by rw [List.length_map]; exact hj) hij
  rw [List.getElem_map,List.getElem_map,e,cmpL_self] at this
  omega
 rcases Nat.lt_trichotomy i j with hlt | hlt | hlt
 ·exact (key i j hi hj hlt e).elim
 ·subst hlt; rfl
 ·exact (key j i hj hi hlt e.symm).elim
theorem renT_of {n:Nat} {ins outs:Int} {cs m:List Cs} (h:TskOK n ins outs cs) {a:List Int} (ha:IsP n a) (hp:m.Perm (cs.map (renC a))) (hs:SrtG cmpC m):m=renT a cs:=srtB_uniq weakC hp hs (renC_anti h ha)
end Go.Proofs.YtmikofeildnpdaaGreat

/- symmetry.chosen, relate.kept: walks. -/
namespace Go.Proofs.YtmikofeildnpdaaGreat
open Go.RowKit
theorem OII.form2 {w:World} {B n:Nat} {v:Value} {xss:List (List Int)} (h:OII w B v n xss) (hn:0 < n):∃ g cap,v = .slice (some ⟨g,0,none⟩) n cap:=by
 obtain ⟨vs,h1,_⟩:=h
 rcases h1.2 with ⟨_,h0⟩ | ⟨g,cap,cur,rfl,_⟩
 ·omega
 ·exact ⟨g,cap,rfl⟩
theorem chosenG {w:World} {v:Value} {B0:Nat} {caps:Array Value} {l:List (List Int)} {p:List Int→Bool} (h:OII w B0 v l.length l) (hl:l.length≤1000)
  (HF:∀ W,Below w.heap.size w W→∀ x∈l,∀ u,OI W 0 u x.length x→Calls Tryz.prog 58 (#[u]++caps) W fun e w'=>e = .returned (.tuple #[.bool (p x),.int .i64 0])∧Below W.heap.size W w') :
  Calls Tryz.prog 57 #[v,.func (.func 58) #[] caps] w (RII w (l.filter p) 0):=by
 have h':=Lib.hid h
 obtain ⟨va,vc,rfl⟩:=h.shape
 replace HF:=Lib.hid HF
 have ho0:OII w w.heap.size (.slice none 0 0) ((l.take 0).filter p).length ((l.take 0).filter p):=OII.nil _ _
 have hb0:=Below.refl w.heap.size w
 clear h
 go_enter Tryz.func57, Tryz.ntmps57
 go_wp2_with fail
 go_loopw [6,13] (fun ov jv wr=>∃ k:Nat,jv = .int .i64 (k:Int)∧k≤l.length∧OII wr w.heap.size ov ((l.take k).filter p).length ((l.take k).filter p)∧Hid (Below w.heap.size w wr)) (fun _ jv _=>l.length - (intOf jv).toNat)
 case atStart=>exact ⟨0,rfl,Nat.zero_le _,ho0,hb0⟩
 case round=>
  clear ho0 hb0
  obtain ⟨k,rfl,hk,ho,hb⟩:=hrel
  obtain ⟨oa,oc,hov⟩:=ho.shape
  subst hov
  by_cases hlt:k < l.length
  ·have hltI:(k:Int) < (l.length:Int):=by omega
   obtain ⟨g,cap,he⟩:=h'.out.form2 (by omega)
   obtain ⟨rfl,rfl⟩:va=some ⟨g,0,none⟩∧vc=cap:=by injection he with h1 h2 h3; exact ⟨h1,h3⟩
   obtain ⟨u,hcu,hu⟩:=OII.get (h'.out.keep hb.out) hlt
   obtain ⟨x,hx⟩:=exE (l.getD k [])
   have hxm:x∈l:=by rw [← hx]; exact getD_mem hlt
   rw [hx] at hu
   obtain ⟨ua,uc,huv⟩:=hu.shape
   subst huv
   have hfs:(l.take (k+1)).filter p=(l.take k).filter p++if p x then [x] else []:=by
    rw [take_snoc hlt [],hx,List.filter_append]
    cases hp:p x <;> simp [hp]
   have HC:=HF.out wr hb.out x hxm _ hu
   obtain ⟨N,hN⟩:=exE (((l.take k).filter p).length)
   have hNl:N≤l.length:=by rw [← hN]; exact Nat.le_trans (List.length_filter_le _ _) (by rw [List.length_take]; omega)
   rw [hN] at ho ⊢
   cases hp:p x with
   | true=>
    rw [hp] at HC
    rw [if_pos hp] at hfs
    replace HC:=Lib.hid HC
    have hfl:((l.take (k+1)).filter p).length=N+1:=by rw [hfs,List.length_append,hN]; rfl
    replace hfs:=Lib.hid hfs
    replace hfl:=Lib.hid hfl
    replace hN:=Lib.hid hN
    clear hx he
    go_wp2_with fail
    refine HC.out.mono ?_
    rintro e w1 ⟨rfl,hb1⟩
    have ho1:=ho.keep hb1
    have hu1:=hu.keep hb1
    have hbw:=bt hb.out hb1 hb.out.size
    clear ho hu hcu
    go_wp2_with (at_builtin; refine wpApp1S rfl _ _ rfl rfl ho1 rfl hu1 rfl (by omega) hbw.size ?_; intro v2 w2 ho2 hb2 hm2)
    have hfin:OII w2 w.heap.size v2 ((l.take (k+1)).filter p).length ((l.take (k+1)).filter p):=by rw [hfl.out,hfs.out]; exact ho2
    clear ho2 ho1
    go_wp2_with fail
    go_roundw
    case rel=>exact ⟨k+1,by go_num,by omega,hfin,hbw.trans hb2⟩
    case measure=>simp [intOf]; omega
   | false=>
    rw [hp] at HC
    rw [if_neg (by rw [hp]; decide),List.append_nil] at hfs
    replace HC:=Lib.hid HC
    have hfl:((l.take (k+1)).filter p).length=N:=by rw [hfs,hN]
    replace hfs:=Lib.hid hfs
    replace hfl:=Lib.hid hfl
    replace hN:=Lib.hid hN
    clear hx he
    go_wp2_with fail
    refine HC.out.mono ?_
    rintro e w1 ⟨rfl,hb1⟩
    have hbw:=bt hb.out hb1 hb.out.size
    have hfin:OII w1 w.heap.size (.slice oa N oc) ((l.take (k+1)).filter p).length ((l.take (k+1)).filter p):=by rw [hfl.out,hfs.out]; exact ho.keep hb1
    clear ho hu hcu
    go_wp2_with fail
    go_roundw
    case rel=>exact ⟨k+1,by go_num,by omega,hfin,hbw⟩
    case measure=>simp [intOf]; omega
  ·obtain rfl:k=l.length:=by omega
   rw [List.take_length] at ho ⊢
   go_wp2
   go_ret2
   exact ⟨_,rfl,ho,hb.out⟩
theorem chosenS {w:World} {v:Value} {B0:Nat} {caps:Array Value} {l:List (List Int)} {p:List Int→Bool} (h:OII w B0 v l.length l) (hl:l.length≤1000)
  (HF:∀ W,Below w.heap.size w W→∀ x∈l,∀ u,OI W 0 u x.length x→Calls Tryz.prog 80 (#[u]++caps) W fun e w'=>e = .returned (.tuple #[.bool (p x),.int .i64 0])∧Below W.heap.size W w') :
  Calls Tryz.prog 57 #[v,.func (.func 80) #[] caps] w (RII w (l.filter p) 0):=by
 have h':=Lib.hid h
 obtain ⟨va,vc,rfl⟩:=h.shape
 replace HF:=Lib.hid HF
 have ho0:OII w w.heap.size (.slice none 0 0) ((l.take 0).filter p).length ((l.take 0).filter p):=OII.nil _ _
 have hb0:=Below.refl w.heap.size w
 clear h
 go_enter Tryz.func57, Tryz.ntmps57
 go_wp2_with fail
 go_loopw [6,13] (fun ov jv wr=>∃ k:Nat,jv = .int .i64 (k:Int)∧k≤l.length∧OII wr w.heap.size ov ((l.take k).filter p).length ((l.take k).filter p)∧Hid (Below w.heap.size w wr)) (fun _ jv _=>l.length - (intOf jv).toNat)
 case atStart=>exact ⟨0,rfl,Nat.zero_le _,ho0,hb0⟩
 case round=>
  clear ho0 hb0
  obtain ⟨k,rfl,hk,ho,hb⟩:=hrel
  obtain ⟨oa,oc,hov⟩:=ho.shape
  subst hov
  by_cases hlt:k < l.length
  ·have hltI:(k:Int) < (l.length:Int):=by omega
   obtain ⟨g,cap,he⟩:=h'.out.form2 (by omega)
   obtain ⟨rfl,rfl⟩:va=some ⟨g,0,none⟩∧vc=cap:=by injection he with h1 h2 h3; exact ⟨h1,h3⟩
   obtain ⟨u,hcu,hu⟩:=OII.get (h'.out.keep hb.out) hlt
   obtain ⟨x,hx⟩:=exE (l.getD k [])
   have hxm:x∈l:=by rw [← hx]; exact getD_mem hlt
   rw [hx] at hu
   obtain ⟨ua,uc,huv⟩:=hu.shape
   subst huv
   have hfs:(l.take (k+1)).filter p=(l.take k).filter p++if p x then [x] else []:=by
    rw [take_snoc hlt [],hx,List.filter_append]
    cases hp:p x <;> simp [hp]
   have HC:=HF.out wr hb.out x hxm _ hu
   obtain ⟨N,hN⟩:=exE (((l.take k).filter p).length)
   have hNl:N≤l.length:=by rw [← hN]; exact Nat.le_trans (List.length_filter_le _ _) (by rw [List.length_take]; omega)
   rw [hN] at ho ⊢
   cases hp:p x with
   | true=>
    rw [hp] at HC
    rw [if_pos hp] at hfs
    replace HC:=Lib.hid HC
    have hfl:((l.take (k+1)).filter p).length=N+1:=by rw [hfs,List.length_append,hN]; rfl
    replace hfs:=Lib.hid hfs
    replace hfl:=Lib.hid hfl
    replace hN:=Lib.hid hN
    clear hx he
    go_wp2_with fail
    refine HC.out.mono ?_
    rintro e w1 ⟨rfl,hb1⟩
    have ho1:=ho.keep hb1
    have hu1:=hu.keep hb1
    have hbw:=bt hb.out hb1 hb.out.size
    clear ho hu hcu
    go_wp2_with (at_builtin; refine wpApp1S rfl _ _ rfl rfl ho1 rfl hu1 rfl (by omega) hbw.size ?_; intro v2 w2 ho2 hb2 hm2)
    have hfin:OII w2 w.heap.size v2 ((l.take (k+1)).filter p).length ((l.take (k+1)).filter p):=by rw [hfl.out,hfs.out]; exact ho2
    clear ho2 ho1
    go_wp2_with fail
    go_roundw
    case rel=>exact ⟨k+1,by go_num,by omega,hfin,hbw.trans hb2⟩
    case measure=>simp [intOf]; omega
   | false=>
    rw [hp] at HC
    rw [if_neg (by rw [hp]; decide),List.append_nil] at hfs
    replace HC:=Lib.hid HC
    have hfl:((l.take (k+1)).filter p).length=N:=by rw [hfs,hN]
    replace hfs:=Lib.hid hfs
    replace hfl:=Lib.hid hfl
    replace hN:=Lib.hid hN
    clear hx he
    go_wp2_with fail
    refine HC.out.mono ?_
    rintro e w1 ⟨rfl,hb1⟩
    have hbw:=bt hb.out hb1 hb.out.size
    have hfin:OII w1 w.heap.size (.slice oa N oc) ((l.take (k+1)).filter p).length ((l.take (k+1)).filter p):=by rw [hfl.out,hfs.out]; exact ho.keep hb1
    clear ho hu hcu
    go_wp2_with fail
    go_roundw
    case rel=>exact ⟨k+1,by go_num,by omega,hfin,hbw⟩
    case measure=>simp [intOf]; omega
  ·obtain rfl:k=l.length:=by omega
   rw [List.take_length] at ho ⊢
   go_wp2
   go_ret2
   exact ⟨_,rfl,ho,hb.out⟩
theorem keptS {w:World} {v:Value} {B0:Nat} {caps:Array Value} {l:List (List Int)} {p:List Int→Bool} (h:OII w B0 v l.length l) (hl:l.length≤1000)
  (HF:∀ W,Below w.heap.size w W→∀ x∈l,∀ u,OI W 0 u x.length x→Calls Tryz.prog 120 (#[u]++caps) W fun e w'=>e = .returned (.bool (p x))∧Below W.heap.size W w') :
  Calls Tryz.prog 119 #[v,.func (.func 120) #[] caps] w fun e w'=>∃ r,e = .returned r∧OII w' w.heap.size r (l.filter p).length (l.filter p)∧Below w.heap.size w w':=by
 have h':=Lib.hid h
 obtain ⟨va,vc,rfl⟩:=h.shape
 replace HF:=Lib.hid HF
 have ho0:OII w w.heap.size (.slice none 0 0) ((l.take 0).filter p).length ((l.take 0).filter p):=OII.nil _ _
 have hb0:=Below.refl w.heap.size w
 clear h
 go_enter Tryz.func119, Tryz.ntmps119
 go_wp2_with fail
 go_loopw [5,10] (fun ov jv wr=>∃ k:Nat,jv = .int .i64 (k:Int)∧k≤l.length∧OII wr w.heap.size ov ((l.take k).filter p).length ((l.take k).filter p)∧Hid (Below w.heap.size w wr)) (fun _ jv _=>l.length - (intOf jv).toNat)
 case atStart=>exact ⟨0,rfl,Nat.zero_le _,ho0,hb0⟩
 case round=>
  clear ho0 hb0
  obtain ⟨k,rfl,hk,ho,hb⟩:=hrel
  obtain ⟨oa,oc,hov⟩:=ho.shape
  subst hov
  by_cases hlt:k < l.length
  ·have hltI:(k:Int) < (l.length:Int):=by omega
   obtain ⟨g,cap,he⟩:=h'.out.form2 (by omega)
   obtain ⟨rfl,rfl⟩:va=some ⟨g,0,none⟩∧vc=cap:=by injection he with h1 h2 h3; exact ⟨h1,h3⟩
   obtain ⟨u,hcu,hu⟩:=OII.get (h'.out.keep hb.out) hlt
   obtain ⟨x,hx⟩:=exE (l.getD k [])
   have hxm:x∈l:=by rw [← hx]; exact getD_mem hlt
   rw [hx] at hu
   obtain ⟨ua,uc,huv⟩:=hu.shape
   subst huv
   have hfs:(l.take (k+1)).filter p=(l.take k).filter p++if p x then [x] else []:=by
    rw [take_snoc hlt [],hx,List.filter_append]
    cases hp:p x <;> simp [hp]
   have HC:=HF.out wr hb.out x hxm _ hu
   obtain ⟨N,hN⟩:=exE (((l.take k).filter p).length)
   have hNl:N≤l.length:=by rw [← hN]; exact Nat.le_trans (List.length_filter_le _ _) (by rw [List.length_take]; omega)
   rw [hN] at ho ⊢
   cases hp:p x with
   | true=>
    rw [hp] at HC
    rw [if_pos hp] at hfs
    replace HC:=Lib.hid HC
    have hfl:((l.take (k+1)).filter p).length=N+1:=by rw [hfs,List.length_append,hN]; rfl
    replace hfs:=Lib.hid hfs
    replace hfl:=Lib.hid hfl
    replace hN:=Lib.hid hN
    clear hx he
    go_wp2_with fail
    refine HC.out.mono ?_
    rintro e w1 ⟨rfl,hb1⟩
    have ho1:=ho.keep hb1
    have hu1:=hu.keep hb1
    have hbw:=bt hb.out hb1 hb.out.size
    clear ho hu hcu
    go_wp2_with (at_builtin; refine wpApp1S rfl _ _ rfl rfl ho1 rfl hu1 rfl (by omega) hbw.size ?_; intro v2 w2 ho2 hb2 hm2)
    have hfin:OII w2 w.heap.size v2 ((l.take (k+1)).filter p).length ((l.take (k+1)).filter p):=by rw [hfl.out,hfs.out]; exact ho2
    clear ho2 ho1
    go_wp2_with fail
    go_roundw
    case rel=>exact ⟨k+1,by go_num,by omega,hfin,hbw.trans hb2⟩
    case measure=>simp [intOf]; omega
   | false=>
    rw [hp] at HC
    rw [if_neg (by rw [hp]; decide),List.append_nil] at hfs
    replace HC:=Lib.hid HC
    have hfl:((l.take (k+1)).filter p).length=N:=by rw [hfs,hN]
    replace hfs:=Lib.hid hfs
    replace hfl:=Lib.hid hfl
    replace hN:=Lib.hid hN
    clear hx he
    go_wp2_with fail
    refine HC.out.mono ?_
    rintro e w1 ⟨rfl,hb1⟩
    have hbw:=bt hb.out hb1 hb.out.size
    have hfin:OII w1 w.heap.size (.slice oa N oc) ((l.take (k+1)).filter p).length ((l.take (k+1)).filter p):=by rw [hfl.out,hfs.out]; exact ho.keep hb1
    clear ho hu hcu
    go_wp2_with fail
    go_roundw
    case rel=>exact ⟨k+1,by go_num,by omega,hfin,hbw⟩
    case measure=>simp [intOf]; omega
  ·obtain rfl:k=l.length:=by omega
   rw [List.take_length] at ho ⊢
   go_wp2
   go_ret
   exact ⟨_,rfl,ho,hb.out⟩
end Go.Proofs.YtmikofeildnpdaaGreat

/- Texts of this claim, put together: QM L0 SE2 ZD. -/
import Derived.Test.YtmikofeildnpdaaGreatKYp
import Derived.Test.YtmikofeildnpdaaGreatKYr
import Derived.Test.YtmikofeildnpdaaGreatKYj
import Derived.Test.YtmikofeildnpdaaGreatKYq
import Derived.Test.YtmikofeildnpdaaGreatKYo
import Derived.Test.YtmikofeildnpdaaGreatKYh
import Derived.Test.YtmikofeildnpdaaGreatKYs
import Derived.Test.YtmikofeildnpdaaGreatKYt
import Derived.Deep.Cut

set_option maxRecDepth 100000
set_option maxHeartbeats 12800000
/- Adversaries with renamed processes: well-formed, their words, compositions. Plain lists. -/
namespace Go.Proofs.YtmikofeildnpdaaGreat
def MvN (n:Nat) (m:List Int):Prop:=m.length=8∧∃ hs f,RdN n hs f∧rdOf m=mkR n hs f
structure WfN (n:Nat) (ss:List (List (List Int))):Prop where
 h1:1≤n
 h5:n≤5
 l1:1≤ss.length
 l2:ss.length≤256
 l3:movesN ss≤4096
 ne:∀ s∈ss,0 < s.length
 mv:∀ s∈ss,∀ m∈s,MvN n m
 lead:LeadOK ss
 asc:∀ s∈ss,AscL (s.map rdOf)
 gr:growsB ss=true
theorem WfN.s {n:Nat} {ss:List (List (List Int))} (h:WfN n ss):WfS ss:=⟨h.asc,h.lead,h.l1⟩
theorem WfN.of {n:Nat} {ss:List (List (List Int))} (h8:∀ s∈ss,∀ m∈s,m.length=8) (h:chkA (n:Int) ss=0):WfN n ss:=by
 obtain ⟨⟨q1,q5⟩,⟨l1,l2,l3⟩,h3,h4⟩:=chkA_facts h
 have hst:∀ s∈ss,0 < s.length∧∀ j,j < s.length→mvErr (n:Int) ss.length s j=0:=fun s hs=>by
  have h5:=ssGo_zero h3 s hs
  unfold stErr at h5
  by_cases he:s.length=0
  ·rw [if_pos he] at h5; cases h5
  rw [if_neg he] at h5
  exact ⟨by omega,fun j hj=>mvGo_zero h5 j (by omega) (by omega)⟩
 have hmv:∀ s∈ss,∀ m∈s,chkRd (rdOf m)=0∧m.getD 0 0=(n:Int)∧0≤m.getD 7 0∧m.getD 7 0 < (ss.length:Int):=fun s hs m hm=>by
  obtain ⟨j,hj,rfl⟩:=List.mem_iff_getElem.1 hm
  obtain ⟨c1,c2,_,c4,c5⟩:=mvErr_zero ((hst s hs).2 j hj)
  rw [getD_eq hj] at c1 c2 c4 c5
  exact ⟨c1,c2,c4,c5⟩
 refine ⟨by omega,by omega,l1,l2,l3,fun s hs=>(hst s hs).1,fun s hs m hm=>?_,fun s hs m hm=>⟨(hmv s hs m hm).2.2.1,(hmv s hs m hm).2.2.2⟩,ascL_of h,h4⟩
 obtain ⟨c1,c2,_,_⟩:=hmv s hs m hm
 have hl:=h8 s hs m hm
 have e0:(rdOf m).getD 0 0=(n:Int):=by
  rw [← c2,rdOf,List.getD_eq_getElem?_getD,List.getElem?_take,if_pos (by omega),← List.getD_eq_getElem?_getD]
 obtain ⟨_,hs',f,r1,r2⟩:=rd_of (by rw [rdOf,List.length_take,hl]; rfl) c1 e0
 exact ⟨hl,hs',f,r1,r2⟩
theorem ssGo_ofN {n:Int} {len:Nat}:∀ {ss:List (List (List Int))},(∀ s∈ss,stErr n len s=0)→ssGo n len ss=0
 | [],_=>rfl
 | s::r,h=>by rw [ssGo,if_neg (fun k=>k (h s (by simp)))]; exact ssGo_ofN fun x hx=>h x (by simp [hx])
theorem mvGo_ofN {n:Int} {len:Nat} {ms:List (List Int)}:∀ (k i:Nat),(∀ j,i≤j→j < i+k→mvErr n len ms j=0)→mvGo n len ms i k=0
 | 0,_,_=>rfl
 | k+1,i,h=>by rw [mvGo,if_neg (fun q=>q (h i (by omega) (by omega)))]; exact mvGo_ofN k (i+1) fun j h1 h2=>h j (by omega) (by omega)
theorem WfN.chk {n:Nat} {ss:List (List (List Int))} (h:WfN n ss):chkA (n:Int) ss=0:=by
 have hs:ssGo (n:Int) ss.length ss=0:=ssGo_ofN fun s hs=>by
  have hne:=h.ne s hs
  rw [stErr,if_neg (by omega)]
  refine mvGo_ofN _ _ fun j _ hj=>?_
  have hj:j < s.length:=by omega
  have hm:s.getD j []∈s:=by rw [getD_eq hj]; exact List.getElem_mem hj
  obtain ⟨hl,hh,f,r1,r2⟩:=h.mv s hs _ hm
  obtain ⟨d1,d2⟩:=h.lead s hs _ hm
  have e0:(s.getD j []).getD 0 0=(n:Int):=by
   have:(rdOf (s.getD j [])).getD 0 0=(n:Int):=by rw [r2]; rfl
   rwa [rdOf,List.getD_eq_getElem?_getD,List.getElem?_take,if_pos (by omega),← List.getD_eq_getElem?_getD] at this
  have hc:chkRd ((s.getD j []).take 7)=0:=by
   have:=chkRd_mk h.h1 h.h5 r1
   rw [← r2] at this; exact this
  rw [mvErr,if_neg (fun k=>k hc),if_neg (fun k=>k e0),if_neg,if_neg (by omega)]
  rintro ⟨j0,hcm⟩
  have ha:=h.asc s hs
  rw [AscL,List.pairwise_iff_getElem] at ha
  have:=ha (j - 1) j (by rw [List.length_map]; omega) (by rw [List.length_map]; exact hj) (by omega)
  rw [List.getElem_map,List.getElem_map] at this
  rw [getD_eq hj,getD_eq (show j - 1 < s.length by omega)] at hcm
  have this:cmpL ((s[j - 1]'(by omega)).take 7) (s[j].take 7) < 0:=this
  omega
 have q1:=h.h1
 have q5:=h.h5
 have q2:=h.l1
 have q3:=h.l2
 have q4:=h.l3
 rw [chkA,if_neg (by omega),if_neg (by omega),hs,if_neg (fun k=>k rfl),h.gr,if_pos rfl]
def renM (a:List Int) (m:List Int):List Int:=renR a (rdOf m) ++ [m.getD 7 0]
def renS (a:List Int) (s:List (List Int)):List (List Int):=srtB cmpM [] (s.map (renM a))
def renA (a:List Int) (ss:List (List (List Int))):List (List (List Int)):=ss.map (renS a)
section
variable {n:Nat} {a b:List Int} {ss:List (List (List Int))} {s:List (List Int)} {m m':List Int}
theorem renM_facts (h1:1≤n) (h5:n≤5) (ha:IsP n a) (h:MvN n m):rdOf (renM a m)=renR a (rdOf m)∧(renM a m).getD 7 0=m.getD 7 0∧MvN n (renM a m)∧mvTo (renM a m)=mvTo m:=by
 obtain ⟨hl,hs,f,r1,r2⟩:=h
 have hR:=r1.ren h1 h5 ha
 have e:renR a (rdOf m)=mkR n (movedL a (hs.map fun x=>imgP a x n)) (imgP a f n):=by rw [r2,renR_mk ha h5 r1.len]
 have hl7:(renR a (rdOf m)).length=7:=by rw [e]; exact mkR_len h5 hR.len
 have e7:rdOf (renM a m)=renR a (rdOf m):=by rw [rdOf,renM,List.take_append_of_le_length (by omega),List.take_of_length_le (by omega)]
 have et:(renM a m).getD 7 0=m.getD 7 0:=by rw [renM,List.getD_eq_getElem?_getD,List.getElem?_append_right (by omega),hl7]; rfl
 refine ⟨e7,et,⟨by rw [renM,List.length_append,hl7]; rfl,_,_,hR,by rw [e7,e]⟩,by rw [mvTo,mvTo,et]⟩
theorem renS_mem {x:List Int}:x∈renS a s↔∃ m∈s,renM a m=x:=by rw [renS,srtB_mem weakM,List.mem_map]
theorem renS_len:(renS a s).length=s.length:=by rw [renS,srtB_len weakM,List.length_map]
theorem renM_inj (h1:1≤n) (h5:n≤5) (ha:IsP n a) (h:MvN n m) (h':MvN n m') (e:rdOf (renM a m)=rdOf (renM a m')):rdOf m=rdOf m':=by
 rw [(renM_facts h1 h5 ha h).1,(renM_facts h1 h5 ha h').1] at e
 obtain ⟨_,hs,f,r1,r2⟩:=h
 obtain ⟨_,hs',f',r1',r2'⟩:=h'
 rw [r2,r2'] at e ⊢
 exact renR_inj h1 h5 ha r1 r1' e
theorem asc_rd (hA:AscL (s.map rdOf)) (hm:m∈s) (hm':m'∈s) (e:rdOf m=rdOf m'):m=m':=by
 obtain ⟨i,hi,rfl⟩:=List.mem_iff_getElem.1 hm
 obtain ⟨j,hj,rfl⟩:=List.mem_iff_getElem.1 hm'
 rw [AscL,List.pairwise_iff_getElem] at hA
 have key:∀ i j (hi:i < s.length) (hj:j < s.length),i < j→rdOf s[i]=rdOf s[j]→False:=fun i j hi hj hij e=>by
  have:=hA i j (by rw [List.length_map]; exact hi) (by rw [List.length_map]; exact hj) hij
  rw [List.getElem_map,List.getElem_map,e,cmpL_self] at this
  omega
 rcases Nat.lt_trichotomy i j with h | h | h
 ·exact (key i j hi hj h e).elim
 ·subst h; rfl
 ·exact (key j i hj hi h e.symm).elim
theorem renS_anti (h1:1≤n) (h5:n≤5) (ha:IsP n a) (hA:AscL (s.map rdOf)) (hv:∀ m∈s,MvN n m):∀ x∈s.map (renM a),∀ y∈s.map (renM a),¬ cmpM x y < 0→¬ cmpM y x < 0→x=y:=fun x hx y hy h2 h3=>by
 obtain ⟨m,hm,rfl⟩:=List.mem_map.1 hx
 obtain ⟨m',hm',rfl⟩:=List.mem_map.1 hy
 rw [asc_rd hA hm hm' (renM_inj h1 h5 ha (hv m hm) (hv m' hm') (cmpL_anti h2 h3))]
theorem renS_asc (h1:1≤n) (h5:n≤5) (ha:IsP n a) (hA:AscL (s.map rdOf)) (hv:∀ m∈s,MvN n m):AscL ((renS a s).map rdOf):=by
 have hsrt:SrtG cmpM (renS a s):=srtB_sorted weakM _
 have hnd:(renS a s).Nodup:=by
  refine (srtB_perm weakM _).nodup_iff.2 ?_
  rw [List.Nodup,List.pairwise_map]
  refine List.Pairwise.imp_of_mem (fun {x y} hx hy hxy e=>?_) (List.pairwise_map.1 hA)
  have:=renM_inj h1 h5 ha (hv x hx) (hv y hy) (by rw [e])
  rw [this,cmpL_self] at hxy
  omega
 rw [AscL,List.pairwise_map]
 refine List.Pairwise.imp_of_mem (fun {x y} hx hy hxy=>?_) (List.pairwise_and_iff.2 ⟨hsrt,hnd⟩)
 rcases cmpL_total (rdOf x) (rdOf y) with h | h | h
 ·exact h
 ·refine absurd ?_ hxy.2
  have hx':=(srtB_mem weakM _).1 hx
  have hy':=(srtB_mem weakM _).1 hy
  have hz : ¬ cmpM x y < 0:=by show ¬ cmpL _ _ < 0; rw [h,cmpL_self]; omega
  exact renS_anti h1 h5 ha hA hv x hx' y hy' hz hxy.1
 ·exact absurd h hxy.1
theorem movesN_ren (a:List Int) (ss:List (List (List Int))):movesN (renA a ss)=movesN ss:=by
 unfold movesN renA
 rw [List.map_map]
 congr 1
 exact List.map_congr_left fun s _=>renS_len
theorem renA_getD (a:List Int) (ss:List (List (List Int))) (k:Nat):(renA a ss).getD k []=renS a (ss.getD k []):=by
 unfold renA
 rw [List.getD_eq_getElem?_getD,List.getD_eq_getElem?_getD,List.getElem?_map]
 cases ss[k]? with
 | none=>rfl
 | some x=>rfl
theorem insideB_iff {x y:Int}:insideB x y=true↔∀ p:Nat,p < 5→hasI x (p:Int)=true→hasI y (p:Int)=true:=by
 unfold insideB
 simp only [List.all_cons,List.all_nil,Bool.and_true,Bool.and_eq_true,Bool.or_eq_true,Bool.not_eq_true']
 constructor
 ·rintro ⟨a0,a1,a2,a3,a4⟩ p hp hx
  have:p=0∨p=1∨p=2∨p=3∨p=4:=by omega
  rcases this with rfl | rfl | rfl | rfl | rfl
  ·exact a0.resolve_left fun h=>by rw [show ((0:Nat):Int)=0 from rfl,h] at hx; cases hx
  ·exact a1.resolve_left fun h=>by rw [show ((1:Nat):Int)=1 from rfl,h] at hx; cases hx
  ·exact a2.resolve_left fun h=>by rw [show ((2:Nat):Int)=2 from rfl,h] at hx; cases hx
  ·exact a3.resolve_left fun h=>by rw [show ((3:Nat):Int)=3 from rfl,h] at hx; cases hx
  ·exact a4.resolve_left fun h=>by rw [show ((4:Nat):Int)=4 from rfl,h] at hx; cases hx
 ·intro h
  have g:∀ p:Nat,p < 5→hasI x (p:Int)=false∨hasI y (p:Int)=true:=fun p hp=>by
   cases e:hasI x (p:Int) with
   | false=>exact .inl rfl
   | true=>exact .inr (h p hp e)
  exact ⟨g 0 (by omega),g 1 (by omega),g 2 (by omega),g 3 (by omega),g 4 (by omega)⟩
theorem hasI_big {x:Int} (x0:0≤x) (hx:x < 2 ^ n) {p:Nat} (hp:n≤p) (h5:p < 5):hasI x (p:Int)=false:=by
 rw [hasI,twoI_pow h5]
 have:(2:Int) ^ n≤2 ^ p:=by
  exact_mod_cast Nat.pow_le_pow_right (by omega:0 < 2) hp
 rw [Int.ediv_eq_zero_of_lt x0 (by omega)]
 rfl
theorem inside_img (h1:1≤n) (h5:n≤5) (ha:IsP n a) {x y:Int} (x0:0≤x) (x1:x < 2 ^ n) (y0:0≤y) (y1:y < 2 ^ n) (h:insideB x y=true):insideB (imgP a x n) (imgP a y n)=true:=by
 rw [insideB_iff] at h ⊢
 intro q hq hx
 obtain ⟨q0,q1⟩:=img_rng h1 h5 ha x0 x1
 by_cases hqn:q < n
 ·obtain ⟨p,hp,e⟩:=perm_onto h1 h5 ha hqn
  rw [← e,img_has h1 h5 ha x0 x1 hp] at hx
  rw [← e,img_has h1 h5 ha y0 y1 hp]
  exact h p (by omega) hx
 ·rw [hasI_big q0 q1 (by omega) hq] at hx; cases hx
theorem MvN.f (h:MvN n m) (h5:n≤5):∃ hs f,RdN n hs f∧rdOf m=mkR n hs f∧m.getD 6 0=f:=by
 obtain ⟨hl,hs,f,r1,r2⟩:=h
 refine ⟨hs,f,r1,r2,?_⟩
 have:=mkR_f (f:=f) h5 r1.len
 rwa [← r2,rdOf,List.getD_eq_getElem?_getD,List.getElem?_take,if_pos (by omega),← List.getD_eq_getElem?_getD] at this
theorem WfN.ren (h:WfN n ss) (ha:IsP n a):WfN n (renA a ss) where
 h1:=h.h1
 h5:=h.h5
 l1:=by rw [renA,List.length_map]; exact h.l1
 l2:=by rw [renA,List.length_map]; exact h.l2
 l3:=by rw [movesN_ren]; exact h.l3
 ne s hs:=by
  obtain ⟨t,ht,rfl⟩:=List.mem_map.1 hs
  rw [renS_len]; exact h.ne t ht
 mv s hs m hm:=by
  obtain ⟨t,ht,rfl⟩:=List.mem_map.1 hs
  obtain ⟨x,hx,rfl⟩:=renS_mem.1 hm
  exact (renM_facts h.h1 h.h5 ha (h.mv t ht x hx)).2.2.1
 lead s hs m hm:=by
  obtain ⟨t,ht,rfl⟩:=List.mem_map.1 hs
  obtain ⟨x,hx,rfl⟩:=renS_mem.1 hm
  rw [(renM_facts h.h1 h.h5 ha (h.mv t ht x hx)).2.1,renA,List.length_map]
  exact h.lead t ht x hx
 asc s hs:=by
  obtain ⟨t,ht,rfl⟩:=List.mem_map.1 hs
  exact renS_asc h.h1 h.h5 ha (h.asc t ht) (h.mv t ht)
 gr:=by
  have hg:=h.gr
  rw [growsB,List.all_eq_true] at hg ⊢
  intro s hs
  obtain ⟨t,ht,rfl⟩:=List.mem_map.1 hs
  have hg:=hg t ht
  rw [gr2,List.all_eq_true] at hg ⊢
  intro m hm
  obtain ⟨x,hx,rfl⟩:=renS_mem.1 hm
  have hX:=h.mv t ht x hx
  obtain ⟨e1,e2,e3,e4⟩:=renM_facts h.h1 h.h5 ha hX
  have hg:=hg x hx
  rw [gr3,List.all_eq_true] at hg ⊢
  intro k hk
  rw [e2,renA_getD] at hk
  obtain ⟨y,hy,rfl⟩:=renS_mem.1 hk
  have hst:=stIn hy
  have hY:=h.mv _ hst.1 y hy
  have hg:=hg y hy
  obtain ⟨hsx,fx,rx1,rx2,rx3⟩:=hX.f h.h5
  obtain ⟨hsy,fy,ry1,ry2,ry3⟩:=hY.f h.h5
  obtain ⟨_,fx',qx1,qx2,qx3⟩:=e3.f h.h5
  obtain ⟨_,fy',qy1,qy2,qy3⟩:=(renM_facts h.h1 h.h5 ha hY).2.2.1.f h.h5
  rw [e1,rx2,renR_mk ha h.h5 rx1.len] at qx2
  rw [(renM_facts h.h1 h.h5 ha hY).1,ry2,renR_mk ha h.h5 ry1.len] at qy2
  have ex:=(mkR_inj (rx1.ren h.h1 h.h5 ha).len qx1.len qx2).2
  have ey:=(mkR_inj (ry1.ren h.h1 h.h5 ha).len qy1.len qy2).2
  rw [rx3,ry3] at hg
  rw [qx3,qy3,← ex,← ey]
  exact inside_img h.h1 h.h5 ha rx1.f0 rx1.f1 ry1.f0 ry1.f1 hg
theorem ren_alw (h:WfN n ss) (ha:IsP n a):∀ (w:List (List Int)) (s:Nat),alw (renA a ss) w s↔∃ u,alw ss u s∧w=u.map (renR a)
 | [],s=>⟨fun _=>⟨[],trivial,rfl⟩,fun _=>trivial⟩
 | r::w,s=>by
  have hR:=(h.ren ha)
  constructor
  ·intro hw
   obtain ⟨m,hm,rfl,h2⟩:=alw_cons_some hw
   rw [renA_getD] at hm
   obtain ⟨x,hx,rfl⟩:=renS_mem.1 hm
   obtain ⟨e1,e2,e3,e4⟩:=renM_facts h.h1 h.h5 ha (h.mv _ (stIn hx).1 x hx)
   rw [e4] at h2
   obtain ⟨u,hu,rfl⟩:=(ren_alw h ha w _).1 h2
   exact ⟨rdOf x::u,(alw_cons_mem h.asc h.lead hx).2 hu,by rw [List.map_cons,e1]⟩
  ·rintro ⟨u,hu,e⟩
   match u,e with
   | r'::u,e=>
    rw [List.map_cons] at e
    injection e with er ew
    subst ew
    obtain ⟨x,hx,rfl,h2⟩:=alw_cons_some hu
    obtain ⟨e1,e2,e3,e4⟩:=renM_facts h.h1 h.h5 ha (h.mv _ (stIn hx).1 x hx)
    rw [er,← e1]
    refine (alw_cons_mem hR.asc hR.lead (by rw [renA_getD]; exact renS_mem.2 ⟨x,hx,rfl⟩)).2 ?_
    rw [e4]
    exact (ren_alw h ha _ _).2 ⟨u,h2,rfl⟩
theorem renA_times (h:WfN n ss) (ha:IsP n a) (hb:IsP n b):renA a (renA b ss)=renA (timesL a b) ss:=by
 unfold renA
 rw [List.map_map]
 refine List.map_congr_left fun s hs=>?_
 have hv:=h.mv s hs
 have key:∀ m∈s,renM a (renM b m)=renM (timesL a b) m:=fun m hm=>by
  obtain ⟨e1,e2,_,_⟩:=renM_facts h.h1 h.h5 hb (hv m hm)
  obtain ⟨_,hh,f,r1,r2⟩:=hv m hm
  unfold renM at e1 e2 ⊢
  rw [e1,e2,r2,renR_times h.h1 h.h5 ha hb r1]
 refine srtB_uniq weakM (l:=s.map (renM (timesL a b))) ?_ (srtB_sorted weakM _) (renS_anti h.h1 h.h5 (ha.times hb) (h.asc s hs) hv)
 refine (srtB_perm weakM _).trans ?_
 refine ((srtB_perm weakM _).map _).trans ?_
 rw [List.map_map]
 have:s.map (renM a ∘ renM b)=s.map (renM (timesL a b)):=List.map_congr_left key
 rw [this]
theorem renA_one (h:WfN n ss):renA (oneL n) ss=ss:=by
 unfold renA
 conv=>rhs; rw [← List.map_id ss]
 refine List.map_congr_left fun s hs=>?_
 have hv:=h.mv s hs
 have:s.map (renM (oneL n))=s:=by
  conv=>rhs; rw [← List.map_id s]
  refine List.map_congr_left fun m hm=>?_
  obtain ⟨hl,hh,f,r1,r2⟩:=hv m hm
  rw [renM,r2,renR_one h.h1 h.h5 r1,← r2]
  show m.take 7 ++ [m.getD 7 0]=m
  conv=>rhs; rw [← List.take_append_drop 7 m]
  rw [List.drop_eq_getElem_cons (by omega),getD_eq (by omega:7 < m.length),List.drop_of_length_le (by omega)]
 rw [renS,this]
 refine srtB_id weakM ?_ fun x hx y hy h2 h3=>asc_rd (h.asc s hs) hx hy (cmpL_anti h2 h3)
 exact List.Pairwise.imp (fun h=>cmpL_asymm _ _ h) (List.pairwise_map.1 (h.asc s hs))
theorem eqW.symm {x y:List (List (List Int))} (h:eqW x y):eqW y x:=fun w=>(h w).symm
theorem eqW.trans {x y z:List (List (List Int))} (h:eqW x y) (g:eqW y z):eqW x z:=fun w=>(h w).trans (g w)
theorem eqW.ren {tt:List (List (List Int))} (h:WfN n ss) (h':WfN n tt) (ha:IsP n a) (e:eqW ss tt):eqW (renA a ss) (renA a tt):=fun w=>by
 rw [ren_alw h ha,ren_alw h' ha]
 exact ⟨fun ⟨u,h1,h2⟩=>⟨u,(e u).1 h1,h2⟩,fun ⟨u,h1,h2⟩=>⟨u,(e u).2 h1,h2⟩⟩
def kpA (ss:List (List (List Int))) (a:List Int):Prop:=eqW ss (renA a ss)
theorem kpA.one (h:WfN n ss):kpA ss (oneL n):=fun w=>by rw [renA_one h]
theorem kpA.times (h:WfN n ss) (ha:IsP n a) (hb:IsP n b) (ka:kpA ss a) (kb:kpA ss b):kpA ss (timesL a b):=by
 unfold kpA
 rw [← renA_times h ha hb]
 exact ka.trans (eqW.ren h (h.ren hb) ha kb)
theorem kpA.back (h:WfN n ss) (ha:IsP n a) (ka:kpA ss a):kpA ss (backL a):=by
 have hb:=back_isP h.h1 h.h5 ha
 have:=(eqW.ren h (h.ren ha) hb ka).symm
 rw [renA_times h hb ha,(back_left (chk_of h.h1 h.h5 ha)).1,ha.1,renA_one h] at this
 exact this
end
end Go.Proofs.YtmikofeildnpdaaGreat

/- The reference: letters. -/
namespace Go.Proofs.YtmikofeildnpdaaGreat
open Go.RowKit
def KSC (k:Nat) (w:World) (v:Value) (xs:List (List Int)):Prop:=
 ∃ a c b off,v = .slice a xs.length c∧(0 < xs.length→a=some ⟨b,off,none⟩)∧CK k w b off xs∧xs.length≤2199023255552∧xs.length≤c
theorem KSC.ks {k:Nat} {w:World} {v:Value} {xs:List (List Int)} (h:KSC k w v xs):KS k w v xs:=by
 obtain ⟨a,c,b,off,h1,h2,h3,h4,_⟩:=h
 exact ⟨a,c,b,off,h1,h2,h3,h4⟩
theorem KSC.keep {k:Nat} {w w':World} {v:Value} {xs:List (List Int)} (h:KSC k w v xs) (hb:Below w.heap.size w w'):KSC k w' v xs:=by
 obtain ⟨a,c,b,off,h1,h2,h3,h4⟩:=h
 exact ⟨a,c,b,off,h1,h2,h3.keep hb,h4⟩
theorem KSC.tl {k:Nat} {w:World} {b off n c:Nat} {x:List Int} {xs:List (List Int)} (h:KSC k w (.slice (some ⟨b,off,none⟩) n c) (x::xs)) :
  KSC k w (.slice (if c=1 then some ⟨b,off,none⟩ else some ⟨b,off+k,none⟩) (n - 1) (c - 1)) xs:=by
 obtain ⟨a',c',b',off',h1,h2,h3,h4,h5⟩:=h
 injection h1 with e1 e2 e3
 subst e2 e3
 have ha:=h2 (by simp)
 rw [← e1] at ha
 injection ha with ha
 injection ha with hb ho
 subst hb ho
 simp only [List.length_cons] at h4 h5 ⊢
 refine ⟨_,_,b,off+k,by rw [Nat.add_sub_cancel],fun hp=>if_neg (by omega),fun j hj=>?_,by omega,by omega⟩
 have:=h3 (j+1) (by simp only [List.length_cons]; omega)
 rw [List.getD_cons_succ] at this
 refine ⟨this.1,?_⟩
 have e:off+(j+1) * k=off+k+j * k:=by rw [Nat.succ_mul]; omega
 rw [← e]; exact this.2
def AdvC (w:World) (v:Value) (n:Int) (ss:List (List (List Int))):Prop:=
 ∃ a c b off,v = .agg #[.int .i64 n,.slice a ss.length c]∧(0 < ss.length→a=some ⟨b,off,none⟩)∧(∀ j,j < ss.length→∃ u,w.cell? ⟨b,off+j,none⟩=some u∧KSC 8 w u (ss.getD j []))∧ss.length≤5864062014805
theorem AdvC.adv {w:World} {v:Value} {n:Int} {ss:List (List (List Int))} (h:AdvC w v n ss):AdvV w v n ss:=by
 obtain ⟨a,c,b,off,h1,h2,h3,h4⟩:=h
 exact ⟨_,h1,a,c,b,off,rfl,h2,fun j hj=>let ⟨u,k1,k2⟩:=h3 j hj; ⟨u,k1,k2.ks⟩,h4⟩
theorem AdvC.keep {w w':World} {v:Value} {n:Int} {ss:List (List (List Int))} (h:AdvC w v n ss) (hb:Below w.heap.size w w'):AdvC w' v n ss:=by
 obtain ⟨a,c,b,off,h1,h2,h3,h4⟩:=h
 exact ⟨a,c,b,off,h1,h2,fun j hj=>let ⟨u,k1,k2⟩:=h3 j hj; ⟨u,cell_kept hb k1,k2.keep hb⟩,h4⟩
end Go.Proofs.YtmikofeildnpdaaGreat

/- Whole structs stored into boxes. -/
namespace Go.Proofs.YtmikofeildnpdaaGreat
open Go.RowKit
theorem storeEnd2 {w:World} {b:Nat} {t:TypeId} {x0 x1 u0 u1:Value} {G:Prop} (h:w.heap[b]? = some (.cells #[x0,x1] t))
  (k:∀ W,W=((w.setCell ⟨b,0,none⟩ u0).setCell ⟨b,1,none⟩ u1)→(∀ (B:Nat) (w0:World),B≤b→Below B w0 w→Below B w0 W)→KeepX t w W→W.heap[b]? = some (.cells #[u0,u1] t)→
   W.cell? ⟨b,0,none⟩=some u0→W.cell? ⟨b,1,none⟩=some u1→G):G:=by
 obtain ⟨W0,e0⟩:=exF (w.setCell ⟨b,0,none⟩ u0)
 have h0:W0.heap[b]? = some (.cells #[u0,x1] t):=by rw [e0]; exact heap_setCell_same w b 0 _ t u0 h
 have k0:KeepX t w W0:=by rw [e0]; exact KeepX.trans (KeepX.refl t w) (KeepX.setCell (p:=⟨b,0,none⟩) h u0)
 have b0:∀ (B:Nat) (w0:World),B≤b→Below B w0 w→Below B w0 W0:=fun B w0 hB hw=>by rw [e0]; exact (hw).setCell (p:=⟨b,0,none⟩) hB _
 obtain ⟨W1,e1⟩:=exF (W0.setCell ⟨b,1,none⟩ u1)
 have h1:W1.heap[b]? = some (.cells #[u0,u1] t):=by rw [e1]; exact heap_setCell_same W0 b 1 _ t u1 h0
 have k1:KeepX t w W1:=by rw [e1]; exact KeepX.trans k0 (KeepX.setCell (p:=⟨b,1,none⟩) h0 u1)
 have b1:∀ (B:Nat) (w0:World),B≤b→Below B w0 w→Below B w0 W1:=fun B w0 hB hw=>by rw [e1]; exact (b0 B w0 hB hw).setCell (p:=⟨b,1,none⟩) hB _
 exact k W1 (by rw [e1,e0]) b1 k1 h1 (box_cell h1 rfl) (box_cell h1 rfl)
end Go.Proofs.YtmikofeildnpdaaGreat

/- symmetry.renamed. -/
namespace Go.Proofs.YtmikofeildnpdaaGreat
open Go.RowKit
theorem OwX.capD {α:Type} {E:TypeId} {k:Nat} {El:World→List Value→α→Prop} {w:World} {B n m c:Nat} {a:Option Addr} {xs:List α} (h:OwX E k El w B (.slice a m c) n xs):n≤c:=by
 obtain ⟨vs,h1,_⟩:=h
 rcases h1.2 with ⟨he,h0⟩ | ⟨g,cap,cur,he,_,_,hc,_⟩
 ·omega
 ·injection he with _ _ e3
  subst e3; exact hc
theorem OwX.ksc {w:World} {B n:Nat} {v:Value} {xs:List (List Int)} (h:OwX 100 8 EI w B v n xs) (hn:n≤2199023255552):KSC 8 w v xs:=by
 have hl:=h.length
 subst hl
 obtain ⟨a,c,rfl⟩:=h.shape
 have hcap:=h.capD
 obtain ⟨a',c',b,off,he,h1,h2,h3⟩:=h.ks hn
 injection he with e1 e2 e3
 subst e1 e3
 exact ⟨_,_,b,off,rfl,h1,h2,h3,hcap⟩
theorem OwAdv.advC {w:World} {v:Value} {n:Int} {ss:List (List (List Int))} (h:OwAdv w v n ss):AdvC w v n ss:=by
 obtain ⟨sv,rfl,hO,hl,hx⟩:=h
 rcases Nat.eq_zero_or_pos ss.length with h0 | h0
 ·obtain ⟨a,c,rfl⟩:=hO.shape
  obtain rfl:=List.length_eq_zero_iff.1 h0
  exact ⟨a,c,0,0,rfl,by simp,fun j hj=>by simp at hj,hl⟩
 ·obtain ⟨g,cap,rfl,_⟩:=hO.form h0
  refine ⟨_,cap,g,0,rfl,fun _=>rfl,fun j hj=>?_,hl⟩
  have hx':ss[j]? = some (ss.getD j []):=by rw [getD_eq hj]; exact List.getElem?_eq_some_iff.2 ⟨hj,rfl⟩
  obtain ⟨cs,h1,⟨u,h2,h3⟩,h4⟩:=hO.cells hx'
  refine ⟨u,?_,h3.ksc (hx _ (List.mem_of_getElem? hx'))⟩
  have:=h4 0 u (by rw [h2]; rfl)
  rw [Nat.mul_one,Nat.add_zero] at this
  rw [Nat.zero_add]; exact this
theorem moveM {w:World} {u:Value} {n:Nat} {a mv:List Int} (h1:1≤n) (h5:n≤5) (hM:MvN n mv) (ha:IsP n a) (hu:Ints w u a) :
  Calls Tryz.prog 98 #[u,mVal mv] w fun e w'=>e = .returned (.tuple #[mVal (renM a mv),.int .i64 0])∧Below w.heap.size w w':=by
 obtain ⟨hl,hs,f,hR,hrd⟩:=hM
 obtain ⟨y0,y1,y2,y3,y4,y5,y6,y7,rfl⟩:=eight hl
 have e1 : [y0,y1,y2,y3,y4,y5,y6,y7]=mkR n hs f ++ [y7]:=by rw [← hrd]; rfl
 have e2:renM a [y0,y1,y2,y3,y4,y5,y6,y7]=renR a (mkR n hs f) ++ [y7]:=by rw [renM,hrd]; rfl
 rw [e2,e1]
 exact moveC h1 h5 hR ha hu
theorem renamedC {w:World} {v u:Value} {n:Nat} {a:List Int} {ss:List (List (List Int))} (hA:AdvV w v n ss) (hW:WfN n ss) (ha:IsP n a) (hu:Ints w u a) :
  Calls Tryz.prog 52 #[v,u] w fun e w'=>∃ r,e = .returned (.tuple #[r,.int .i64 0])∧OwAdv w' r n (renA a ss)∧Below w.heap.size w w':=by
 obtain ⟨sv,rfl,hK⟩:=hA
 obtain ⟨sa,sc,hsv⟩:=hK.shape
 subst hsv
 obtain ⟨W1,hW1⟩:=exF (((w.alloc (.cells #[.int .i64 (n:Int),.slice sa ss.length sc] 24)).alloc (.cells #[.int .i64 0,.slice none 0 0] 24)).alloc (.cells #[.int .i64 (n:Int),.slice none 0 0] 24))
 have hb1:Below w.heap.size w W1:=by rw [hW1]; exact (((Below.refl _ w).alloc (Nat.le_refl _) _).alloc (by simp) _).alloc (by simp; omega) _
 have hs1:W1.heap.size=w.heap.size+3:=by rw [hW1]; simp
 have m0:W1.heap[w.heap.size]? = some (.cells #[.int .i64 (n:Int),.slice sa ss.length sc] 24):=by rw [hW1]; exact (Below.heap_alloc _ _ _ (by simp; omega)).trans ((Below.heap_alloc _ _ _ (by simp)).trans (heap_alloc_new _ _))
 have m1:W1.heap[w.heap.size+1]? = some (.cells #[.int .i64 0,.slice none 0 0] 24):=by
  have h:=heap_alloc_new (w.alloc (.cells #[.int .i64 (n:Int),.slice sa ss.length sc] 24)) (.cells #[.int .i64 0,.slice none 0 0] 24)
  rw [World.size_alloc] at h
  rw [hW1]; exact (Below.heap_alloc _ _ _ (by simp)).trans h
 have m2:W1.heap[w.heap.size+2]? = some (.cells #[.int .i64 (n:Int),.slice none 0 0] 24):=by
  have h:=heap_alloc_new ((w.alloc (.cells #[.int .i64 (n:Int),.slice sa ss.length sc] 24)).alloc (.cells #[.int .i64 0,.slice none 0 0] 24)) (.cells #[.int .i64 (n:Int),.slice none 0 0] 24)
  rw [World.size_alloc,World.size_alloc] at h
  rw [hW1]; exact h
 obtain ⟨p0,p1⟩:=boxL2 m0
 have HM:=Lib.hid (fun W (h:Below w.heap.size w W) mv (hm:MvN n mv)=>moveM hW.h1 hW.h5 hm ha (hu.keep h))
 have hUS:∃ ua uc,u = .slice ua a.length uc:=by obtain ⟨ua,uc,_,_,h,_⟩:=hu; exact ⟨ua,uc,h⟩
 obtain ⟨ua,uc,rfl⟩:=hUS
 have hKh:=Lib.hid hK
 have hmv:=Lib.hid hW.mv
 have hne:=Lib.hid hW.ne
 have h1:=hW.h1
 have h5:=hW.h5
 have hl2:=hW.l2
 have hml:Hid (∀ s∈ss,s.length≤4096):=fun s hs=>Nat.le_trans (mem_movesN hs) hW.l3
 have hasc:=Lib.hid hW.asc
 have hah:=Lib.hid ha
 replace hs1:=Lib.hid hs1
 have hMl:Hid (∀ mv,MvN n mv→(renM a mv).length=8):=fun mv hm=>(renM_facts h1 h5 hah.out hm).2.2.1.1
 obtain ⟨RS,hRS⟩:=exE (renA a ss)
 have hRSl:Hid (RS.length=ss.length):=by rw [← hRS,renA,List.length_map]; exact rfl
 have hRSi:Hid (∀ i,i < ss.length→RS.getD i []=renS a (ss.getD i [])):=fun i hi=>by rw [← hRS,renA_getD]
 rw [hRS]
 replace hRS:=Lib.hid hRS
 have ho1:OwX 98 1 ESt W1 (w.heap.size+3) (.slice none 0 0) 0 (RS.take 0):=OwX.nil _ _
 clear hK hu hW ha
 go_enter Tryz.func52, Tryz.ntmps52
 go_wp2_with fail
 rw [← hW1]
 replace hW1:=Lib.hid hW1
 go_loopw [23] (fun iv wr=>∃ (i:Nat) (sv:Value),iv = .int .i64 (i:Int)∧i≤ss.length∧Hid (Below w.heap.size w wr)∧wr.heap[w.heap.size+1]? = some (.cells #[.int .i64 0,.slice none 0 0] 24)∧wr.heap[w.heap.size+2]? = some (.cells #[.int .i64 (n:Int),sv] 24)∧
  OwX 98 1 ESt wr (w.heap.size+3) sv i (RS.take i)∧w.heap.size+3≤wr.heap.size) (fun iv _=>ss.length - (intOf iv).toNat)
 case atStart=>exact ⟨0,_,rfl,Nat.zero_le _,hb1,m1,m2,ho1,by rw [hs1.out]; exact Nat.le_refl _⟩
 case round=>
  clear m0 m1 m2 ho1 p0 p1 hW1 hb1
  obtain ⟨i,sv,rfl,hi,hb,c1,c2,ho,hsz⟩:=hrel
  obtain ⟨va,vc,hsv⟩:=ho.shape
  subst hsv
  by_cases hlt:i < ss.length
  ·have hltI:(i:Int) < (ss.length:Int):=by omega
   obtain ⟨aa,ac,ab,ao,hav,hab,hacc,_⟩:=hKh.out.keep hb.out
   injection hav with hav1 hav2 hav3
   have hab:=hab (by omega)
   rw [← hav1] at hab
   subst hab
   obtain ⟨um,hcu,hum⟩:=hacc i hlt
   obtain ⟨ms,hms⟩:=exE (ss.getD i [])
   have hmem:ms∈ss:=by rw [← hms]; exact getD_mem hlt
   rw [hms] at hum
   have hmm:=Lib.hid (hmv.out ms hmem)
   have hm0:=hne.out ms hmem
   have hm9:=hml.out ms hmem
   obtain ⟨ma,mc,mb,mo,rfl,hma,hmc,_⟩:=hum
   obtain rfl:=hma (by omega)
   replace hmc:Hid (∀ j,j < ms.length→(ms.getD j []).length=8∧CI wr mb (mo+j * 8) (ms.getD j [])):=hmc
   obtain ⟨wo,hwo⟩:=exF (wr)
   subst hwo
   obtain ⟨M,hMM⟩:=exE (ms.map (renM a))
   have hMMl:Hid (M.length=ms.length):=by rw [← hMM,List.length_map]; exact rfl
   have hMi:Hid (∀ j,j < ms.length→M.getD j []=renM a (ms.getD j [])):=fun j hj=>by rw [← hMM,getD_eq (by rw [List.length_map]; exact hj),List.getElem_map,getD_eq hj]
   replace hMM:=Lib.hid hMM
   have hown0:OwX 100 8 EI wo wo.heap.size (.slice none 0 0) 0 (M.take 0):=OwX.nil _ _
   have hbo:=Below.refl wo.heap.size wo
   clear hav2 hav3 hacc hav1
   go_wp2_with fail
   go_loopw [10,29] (fun ov jv wr=>∃ j:Nat,jv = .int .i64 (j:Int)∧j≤ms.length∧OwX 100 8 EI wr wo.heap.size ov j (M.take j)∧Hid (Below wo.heap.size wo wr)) (fun _ jv _=>ms.length - (intOf jv).toNat)
   case atStart=>exact ⟨0,rfl,Nat.zero_le _,hown0,hbo⟩
   case round=>
    clear hown0 hbo
    obtain ⟨j,rfl,hj,how,hbo⟩:=hrel
    obtain ⟨oa,oc,hov⟩:=how.shape
    subst hov
    by_cases hltj:j < ms.length
    ·have hltJ:(j:Int) < (ms.length:Int):=by omega
     obtain ⟨hx8,hxc⟩:=hmc.out j hltj
     obtain ⟨x,hx⟩:=exE (ms.getD j [])
     have hxM:MvN n x:=hmm.out x (by rw [← hx]; exact getD_mem hltj)
     have hstep:M.take (j+1)=M.take j ++ [renM a x]:=by rw [take_snoc (by rw [hMMl.out]; exact hltj) [],hMi.out j hltj,hx]
     rw [hx] at hx8 hxc
     have hr8:=hMl.out x hxM
     obtain ⟨rm,hrm⟩:=exE (renM a x)
     have HC:=Lib.hid (fun W (h:Below w.heap.size w W)=>HM.out W h x hxM)
     rw [hrm] at HC hr8 hstep
     obtain ⟨k0,k1,k2,k3,k4,k5,k6,k7,rfl⟩:=eight hr8
     obtain ⟨y0,y1,y2,y3,y4,y5,y6,y7,rfl⟩:=eight hx8
     simp only [mVal,List.map_cons,List.map_nil] at HC
     obtain ⟨q0,q1,q2,q3,q4,q5,q6,q7⟩:=(hxc.keep hbo.out).all8
     have hbw:Below w.heap.size w wr:=bt hb.out hbo.out hb.out.size
     obtain ⟨W5,hW5⟩:=exF (wr.alloc (.cells #[.int .i64 y0,.int .i64 y1,.int .i64 y2,.int .i64 y3,.int .i64 y4,.int .i64 y5,.int .i64 y6,.int .i64 y7] 100))
     have hb5:Below wr.heap.size wr W5:=by rw [hW5]; exact (Below.refl _ _).alloc (Nat.le_refl _) _
     replace hstep:=Lib.hid hstep
     clear hx hxM hx8 hxc hr8 hrm
     go_wp2_with fail
     rw [← hW5]
     replace hW5:=Lib.hid hW5
     refine (HC.out W5 (bt hbw hb5 hbw.size)).mono ?_
     rintro e w6 ⟨rfl,hb6⟩
     clear q0 q1 q2 q3 q4 q5 q6 q7
     obtain ⟨W7,hW7⟩:=exF (w6.alloc (.cells #[.int .i64 k0,.int .i64 k1,.int .i64 k2,.int .i64 k3,.int .i64 k4,.int .i64 k5,.int .i64 k6,.int .i64 k7] 100))
     have hb7:Below w6.heap.size w6 W7:=by rw [hW7]; exact (Below.refl _ _).alloc (Nat.le_refl _) _
     have m7:W7.heap[w6.heap.size]? = some (.cells #[.int .i64 k0,.int .i64 k1,.int .i64 k2,.int .i64 k3,.int .i64 k4,.int .i64 k5,.int .i64 k6,.int .i64 k7] 100):=by rw [hW7]; exact heap_alloc_new _ _
     have hb17:Below wr.heap.size wr W7:=btt hb5 (btt hb6 hb7)
     have how7:=how.keep (EI.stab _) hb17
     have hbo7:Below wo.heap.size wo W7:=bt hbo.out hb17 hbo.out.size
     obtain ⟨j0,j1,j2,j3,j4,j5,j6,j7⟩:=boxL8 m7
     have hEI:EI W7 [.int .i64 k0,.int .i64 k1,.int .i64 k2,.int .i64 k3,.int .i64 k4,.int .i64 k5,.int .i64 k6,.int .i64 k7] [k0,k1,k2,k3,k4,k5,k6,k7]:=rfl
     have hc8:∀ u∈(#[.int .i64 k0,.int .i64 k1,.int .i64 k2,.int .i64 k3,.int .i64 k4,.int .i64 k5,.int .i64 k6,.int .i64 k7]:Array Value).toList,u.oneCell'=true:=fun u hu=>by
      simp only [List.mem_cons,List.not_mem_nil,or_false] at hu
      rcases hu with rfl | rfl | rfl | rfl | rfl | rfl | rfl | rfl <;> rfl
     clear how m7
     go_upto_region 11 with fail
     rw [← hW7]
     replace hW7:=Lib.hid hW7
     go_wp2_with (at_builtin; refine wpAppX elemMv (by decide) (by decide) (EI.stab _) rfl _ _ rfl rfl how7 rfl rfl rfl hc8 hEI (by omega) hbo7.size ?_)
     intro v' w9 how9 _ hb9 _
     rw [← hstep.out] at how9
     clear how7 j0 j1 j2 j3 j4 j5 j6 j7
     go_wp2_with fail
     go_roundw
     case rel=>exact ⟨j+1,by go_num,by omega,how9,hbo7.trans hb9⟩
     case measure=>simp [intOf]; omega
    ·obtain rfl:j=ms.length:=by omega
     rw [List.take_of_length_le (by rw [hMMl.out]; exact Nat.le_refl _)] at how
     obtain ⟨g1,cap1,hge,hg1⟩:=how.form hm0
     injection hge with e1 e2 e3
     subst e1 e3
     have HS:=Lib.hid (sortMvs how (by omega))
     go_wp2_with fail
     refine HS.out.mono ?_
     rintro e w2 ⟨rfl,ys,hperm,hpw,hoy,hbs,hkx⟩
     obtain ⟨rs,hrs⟩:=exE (RS.getD i [])
     have hys:ys=rs:=by
      rw [← hrs,hRSi.out i hlt,hms,renS,hMM.out]
      exact srtB_uniq weakM hperm hpw (by rw [← hMM.out]; exact renS_anti h1 h5 hah.out (hasc.out ms hmem) hmm.out)
     have hbo2:Below wo.heap.size wo w2:=hbo.out.trans hbs
     have d2:=(hbo2.block _ (Array.getElem?_eq_some_iff.1 c2).1).trans c2
     have d1:=(hbo2.block _ (Array.getElem?_eq_some_iff.1 c1).1).trans c1
     have ho2:=ho.keep (ESt.stab (by decide)) hbo2
     have hES:ESt w2 [.slice (some ⟨g1,0,none⟩) ms.length oc] rs:=⟨_,rfl,by rw [← hys,hoy.length]; exact hoy.base (Nat.zero_le _)⟩
     have hc1:∀ u∈(#[.slice (some ⟨g1,0,none⟩) ms.length oc]:Array Value).toList,u.oneCell'=true:=fun u hu=>by rw [List.mem_singleton.1 hu]; rfl
     have hSt:Stab 98 ESt:=ESt.stab (by decide)
     have hstep:=take_snoc (xs:=RS) (k:=i) (by rw [hRSl.out]; exact hlt) []
     rw [hrs] at hstep
     replace hrs:=Lib.hid hrs
     obtain ⟨z0,z1⟩:=boxL2 d2
     have hsz2:w.heap.size+3≤w2.heap.size:=Nat.le_trans hsz hbo2.size
     have hb2:Below w.heap.size w w2:=bt hb.out hbo2 hb.out.size
     replace hstep:=Lib.hid hstep
     clear how hoy HS c1 c2 ho hys hperm hpw
     go_wp2_with (at_builtin; refine wpAppX elemSt (by decide) (by decide) hSt rfl _ _ rfl rfl ho2 rfl rfl rfl hc1 hES (by omega) hsz2 ?_)
     intro v' w3 ho3 hgr3 hb3 hx3
     rw [← hstep.out] at ho3
     have c2':=(hb3.block _ (by omega)).trans d2
     have c1':=(hb3.block _ (by omega)).trans d1
     obtain ⟨va',vc',hv'⟩:=ho3.shape
     subst hv'
     obtain ⟨y0,y1⟩:=boxL2 c2'
     obtain ⟨f0,f1⟩:=freeL2 c2'
     have hset:=heap_setCell_same w3 (w.heap.size+2) 1 _ 24 (.slice va' (i+1) vc') c2'
     have ho4:=ho3.other (E':=24) (ESt.stab (by decide)) (by decide) (KeepX.setCell (p:=⟨w.heap.size+2,1,none⟩) c2' (.slice va' (i+1) vc'))
     have hb4:Below w.heap.size w (w3.setCell ⟨w.heap.size+2,1,none⟩ (.slice va' (i+1) vc')):=(hb2.trans (hb3.mono (by omega))).setCell (p:=⟨w.heap.size+2,1,none⟩) (by simp) _
     have hc14:=(Below.heap_setCell w3 ⟨w.heap.size+2,1,none⟩ (.slice va' (i+1) vc') (w.heap.size+1) (by simp)).trans c1'
     have hsz4:w.heap.size+3≤(w3.setCell ⟨w.heap.size+2,1,none⟩ (.slice va' (i+1) vc')).heap.size:=by have:=hb3.size; simp [World.setCell]; omega
     clear ho2 ho3 hES hgr3 hx3 z0 z1 d1 d2
     go_wp2_with fail
     go_roundw
     case rel=>exact ⟨i+1,_,by go_num,by omega,hb4,hc14,hset,ho4,hsz4⟩
     case measure=>simp [intOf]; omega
  ·obtain rfl:i=ss.length:=by omega
   rw [List.take_of_length_le (by rw [hRSl.out]; exact Nat.le_refl _)] at ho
   obtain ⟨z0,z1⟩:=boxL2 c1
   obtain ⟨y0,y1⟩:=boxL2 c2
   obtain ⟨f0,f1⟩:=freeL2 c1
   have hRl:RS.length=ss.length:=hRSl.out
   have hRx:∀ x∈RS,x.length≤2199023255552:=fun x hx=>by
    obtain ⟨j,hj,rfl⟩:=List.mem_iff_getElem.1 hx
    rw [← getD_eq hj [],hRSi.out j (by omega),renS_len]
    have:=hml.out (ss.getD j []) (getD_mem (by omega))
    omega
   replace hRl:=Lib.hid hRl
   replace hRx:=Lib.hid hRx
   go_wp2
   refine storeEnd2 (u0:=.int .i64 (n:Int)) (u1:=.slice va ss.length vc) c1 ?_
   intro W9 hW9 hb9 hk9 _ e0 e1
   rw [← hW9]
   have hfin:OwAdv W9 (.agg #[.int .i64 (n:Int),.slice va ss.length vc]) n RS:=⟨_,rfl,by rw [hRl.out]; exact (ho.other (ESt.stab (by decide)) (by decide) hk9).base (Nat.zero_le _),by rw [hRl.out]; omega,hRx.out⟩
   refine bodyPost_ret (v:=.tuple #[.agg #[.int .i64 (n:Int),.slice va ss.length vc],.int .i64 0]) (by simp [results,Tryz.results52,go_sem,e0,e1]) rfl ?_
   exact ⟨_,rfl,hfin,hb9 _ _ (by omega) hb.out⟩
end Go.Proofs.YtmikofeildnpdaaGreat

/- Texts of this claim, put together: Lf Lg AP J1 G3 U0 L0 J2. -/
import Derived.Test.YtmikofeildnpdaaGreatKUk
import Derived.Test.YtmikofeildnpdaaGreatKUp
import Derived.Test.YtmikofeildnpdaaGreatKUi
import Derived.Test.YtmikofeildnpdaaGreatKUj
import Derived.Test.YtmikofeildnpdaaGreatKUg
import Derived.Deep.RegionHeld3
import Derived.Deep.DeepCutAuto
import Derived.Deep.AppendLies
import Derived.Maps.AppendAt
import Derived.Lib.SliceRun
import Derived.IntWalk
import Derived.Laws.IdiomCopy
import Derived.Test.YtmikofeildnpdaaGreatKUe
import Derived.Test.YtmikofeildnpdaaGreatKUo

set_option maxRecDepth 100000
set_option maxHeartbeats 12800000
/- The law PermutationGroup: the walk. -/
namespace Go.Proofs.YtmikofeildnpdaaGreat
open Go.RowKit
theorem composeP {n:Nat} (h1:1≤n) (h5:n≤5) {w:World} {u v:Value} {a b:List Int} (ha:IsP n a) (hb:IsP n b) (h:Ints w u a) (h':Ints w v b):Calls Tryz.prog 34 #[u,v] w (RI w (timesL a b) 0):=by
 have:=compose h h'
 rwa [(compL_of h1 h5 ha hb).1,(compL_of h1 h5 ha hb).2] at this
theorem inverseP {n:Nat} (h1:1≤n) (h5:n≤5) {w:World} {u:Value} {a:List Int} (ha:IsP n a) (h:Ints w u a):Calls Tryz.prog 33 #[u] w (RI w (backL a) 0):=by
 have:=inverse h
 rwa [invL,if_pos (chk_of h1 h5 ha),chk_of h1 h5 ha] at this
theorem IsP.ints {n:Nat} (h5:n≤5) {w:World} {B m:Nat} {v:Value} {a:List Int} (ha:IsP n a) (h:OI w B v m a):Ints w v a:=h.ints (by have:=h.length; have:=ha.1; omega)
end Go.Proofs.YtmikofeildnpdaaGreat

/- Generated groups; the law PermutationCloses: the walk. -/
namespace Go.Proofs.YtmikofeildnpdaaGreat
structure Grp (n:Nat) (G:List (List Int)):Prop where
 nodup:G.Nodup
 isP:∀ y∈G,IsP n y
 one:oneL n∈G
 mul:∀ y∈G,∀ z∈G,timesL y z∈G
theorem closure_grp {n:Nat} (_hn:n≤5) {l G:List (List Int)} (hl:∀ a∈l,IsP n a) (hG:clGo l 3126 0 [oneL n]=some G) (hI:InvG n G):Grp n G∧∀ a∈l,a∈G:=by
 obtain ⟨h1,h2⟩:=clGo_sub hG (by intro j hj; omega)
 have hone:oneL n∈G:=h1 _ (by simp)
 have hmul:∀ y∈G,∀ z∈G,timesL y z∈G:=by
  have key:∀ y∈G,IsP n y∧∀ z∈G,timesL y z∈G:=by
   refine clGo_all (Q:=fun y=>IsP n y∧∀ z∈G,timesL y z∈G) ?_ ?_ hG
   ·rintro a ha y ⟨k1,k2⟩
    refine ⟨(hl a ha).times k1,fun z hz=>?_⟩
    rw [times_assoc k1.1 (hI.2 z hz)]
    exact h2 _ (k2 z hz) a ha
   ·intro y hy
    rw [List.mem_singleton.1 hy]
    exact ⟨IsP.one n,fun z hz=>by rw [times_one (hI.2 z hz)]; exact hz⟩
  exact fun y hy=>(key y hy).2
 refine ⟨⟨hI.1,hI.2,hone,hmul⟩,fun a ha=>?_⟩
 have:=h2 _ hone a ha
 rwa [one_times (hl a ha)] at this
theorem times_inj {n:Nat} (h1:1≤n) (h5:n≤5) {x y z:List Int} (hx:IsP n x) (hy:IsP n y) (hz:IsP n z) (h:timesL x y=timesL x z):y=z:=by
 have hc:=chk_of h1 h5 hx
 obtain ⟨k1,_,_⟩:=back_left hc
 have e1:=times_assoc (a:=backL x) hx.1 hy
 have e2:=times_assoc (a:=backL x) hx.1 hz
 rw [k1,hx.1] at e1 e2
 rw [times_one hy] at e1
 rw [times_one hz] at e2
 rw [e1,h,← e2]
theorem nodup_maps {f:List Int→List Int}:∀ {l:List (List Int)},l.Nodup→(∀ x∈l,∀ y∈l,f x=f y→x=y)→(l.map f).Nodup
 | [],_,_=>by simp
 | x::l,h,hf=>by
  rw [List.nodup_cons] at h
  rw [List.map_cons,List.nodup_cons]
  refine ⟨fun hm=>?_,nodup_maps h.2 fun a ha b hb=>hf a (by simp [ha]) b (by simp [hb])⟩
  obtain ⟨y,hy,e⟩:=List.mem_map.1 hm
  rw [hf y (by simp [hy]) x (by simp) e] at hy
  exact h.1 hy
theorem Grp.inv {n:Nat} (h1:1≤n) (h5:n≤5) {G:List (List Int)} (hG:Grp n G) {y:List Int} (hy:y∈G):backL y∈G:=by
 have hyP:=hG.isP y hy
 have hc:=chk_of h1 h5 hyP
 have hm:oneL n∈G.map (timesL y):=by
  by_cases h:oneL n∈G.map (timesL y)
  ·exact h
  ·have hnd:(G.map (timesL y)).Nodup:=nodup_maps hG.nodup fun a ha b hb e=>times_inj h1 h5 hyP (hG.isP a ha) (hG.isP b hb) e
   have:(oneL n::G.map (timesL y)).length≤G.length:=nodup_le (List.nodup_cons.2 ⟨h,hnd⟩) fun x hx=>by
    rcases List.mem_cons.1 hx with rfl | hx
    ·exact hG.one
    ·obtain ⟨z,hz,rfl⟩:=List.mem_map.1 hx
     exact hG.mul y hy z hz
   rw [List.length_cons,List.length_map] at this
   omega
 obtain ⟨z,hz,e⟩:=List.mem_map.1 hm
 obtain ⟨k1,k2,k3⟩:=back_left hc
 have hB:IsP n (backL y):=by have:=chk_isP k3; rwa [show (backL y).length=n by rw [backL,movedL_length,hyP.1]] at this
 have:z=backL y:=times_inj h1 h5 hyP (hG.isP z hz) hB (by rw [e,k2,hyP.1])
 rwa [← this]
theorem same_len {α:Type} [DecidableEq α] {l m:List α} (hl:l.Nodup) (hm:m.Nodup) (h:∀ x,x∈l↔x∈m):l.length=m.length:=
 Nat.le_antisymm (nodup_le hl fun x hx=>(h x).1 hx) (nodup_le hm fun x hx=>(h x).2 hx)
theorem filter_split {α:Type} (p:α→Bool):∀ l:List α,l.length=(l.filter p).length+(l.filter fun x=>!p x).length
 | []=>rfl
 | x::l=>by
  have:=filter_split p l
  by_cases h:p x=true <;> simp [h] <;> omega
theorem lagrange {n:Nat} (h1:1≤n) (h5:n≤5) {G:List (List Int)} (hG:Grp n G):∀ (N:Nat) (L:List (List Int)),L.length≤N→L.Nodup→(∀ x∈L,IsP n x)→(∀ x∈L,∀ h∈G,timesL x h∈L)→∃ q,L.length=q * G.length
 | 0,L,hN,_,_,_=>⟨0,by omega⟩
 | N+1,[],_,_,_,_=>⟨0,by simp⟩
 | N+1,x::R,hN,hnd,hP,hc=>by
  have hx:=hP x (by simp)
  have hCnd:(G.map (timesL x)).Nodup:=nodup_maps hG.nodup fun a ha b hb e=>times_inj h1 h5 hx (hG.isP a ha) (hG.isP b hb) e
  have hxc:x∈G.map (timesL x):=List.mem_map.2 ⟨oneL n,hG.one,one_times hx⟩
  have e:=filter_split (fun y=>decide (y∈G.map (timesL x))) (x::R)
  have e1:((x::R).filter fun y=>decide (y∈G.map (timesL x))).length=G.length:=by
   rw [show G.length=(G.map (timesL x)).length by simp]
   refine same_len (hnd.filter _) hCnd fun y=>?_
   rw [List.mem_filter]
   constructor
   ·intro h; simpa using h.2
   ·intro h
    obtain ⟨z,hz,rfl⟩:=List.mem_map.1 h
    exact ⟨hc x (by simp) z hz,by simpa using ⟨z,hz,rfl⟩⟩
  have e2:((x::R).filter fun y=>!decide (y∈G.map (timesL x))).length≤N:=by
   have h2:1≤G.length:=by
    have:=hG.one
    cases hgg:G with
    | nil=>rw [hgg] at this; cases this
    | cons=>simp
   rw [e1] at e
   omega
  obtain ⟨q,hq⟩:=lagrange h1 h5 hG N ((x::R).filter fun y=>!decide (y∈G.map (timesL x))) e2 (hnd.filter _) (fun y hy=>hP y (List.mem_filter.1 hy).1) fun y hy h hh=>by
   obtain ⟨y1,y2⟩:=List.mem_filter.1 hy
   have hyP:=hP y y1
   have hhP:=hG.isP h hh
   rw [List.mem_filter]
   refine ⟨hc y y1 h hh,?_⟩
   have y2':y ∉ G.map (timesL x):=by simpa using y2
   have:timesL y h ∉ G.map (timesL x):=fun hm=>y2' (by
    obtain ⟨g,hg,e⟩:=List.mem_map.1 hm
    have hi:=hG.inv h1 h5 hh
    have hhc:=chk_of h1 h5 hhP
    obtain ⟨_,k2,k3⟩:=back_left hhc
    have hB:=hG.isP _ hi
    refine List.mem_map.2 ⟨timesL g (backL h),hG.mul g hg _ hi,?_⟩
    rw [← times_assoc (hG.isP g hg).1 hB,e,times_assoc hhP.1 hB,k2,hhP.1]
    exact one_times hyP)
   simpa using this
  exact ⟨q+1,by rw [e,e1,hq,Nat.add_mul,Nat.one_mul,Nat.add_comm]⟩
termination_by N=>N
structure Closed (k:Nat) (l g:List (List Int)):Prop where
 pos:0 < g.length
 le:g.length≤(everyL k).length
 dvd:(everyL k).length % g.length=0
 one:amongB g (oneL k)=true
 isP:∀ a∈g,IsP k a
 inv:∀ a∈g,amongB g (backL a)=true
 mul:∀ a∈g,∀ b∈l,amongB g (timesL a b)=true
 gen:∀ b∈l,amongB g b=true
 asc:∀ i,i+1 < g.length→cmpL (g.getD i []) (g.getD (i+1) []) < 0
theorem every_nodup (n:Nat) (hn:n≤5):(everyL n).Nodup:=
 (every_sorted n hn).imp fun {a b} h e=>by subst e; exact cmpL_asymm _ _ h h
theorem genR_closed {k:Nat} {l:List (List Int)} (hz:chkList k l=0):Closed k l (genR k l):=by
 obtain ⟨hn,hl,hP⟩:=chkList_ok hz
 have h1:1≤k:=by omega
 have h5:k≤5:=by omega
 rw [Int.toNat_natCast] at hP
 obtain ⟨G,hG,hI⟩:=clGo_start (n:=k) h5 hP
 obtain ⟨hGr,hgen⟩:=closure_grp h5 hP hG hI
 have hL:genR k l=(everyL k).filter (fun x=>decide (x∈G)):=by rw [genR,if_pos hz,closL,Int.toNat_natCast,hG]; rfl
 have hm:∀ x,x∈genR k l↔x∈G:=fun x=>by
  rw [hL,List.mem_filter]
  constructor
  ·intro h; simpa using h.2
  ·intro h; exact ⟨mem_everyL.2 (hI.2 x h),by simpa using h⟩
 have hlen:(genR k l).length=G.length:=same_len (by rw [hL]; exact (every_nodup k h5).filter _) hI.1 hm
 have hpos:0 < G.length:=by
  have:=hGr.one
  cases hgg:G with
  | nil=>rw [hgg] at this; cases this
  | cons=>simp
 have ham:∀ x,x∈G→amongB (genR k l) x=true:=fun x hx=>by rw [amongB,decide_eq_true_eq,hm]; exact hx
 refine ⟨by omega,?_,?_,ham _ hGr.one,fun a ha=>hI.2 a ((hm a).1 ha),fun a ha=>ham _ (hGr.inv h1 h5 ((hm a).1 ha)),fun a ha b hb=>ham _ (hGr.mul a ((hm a).1 ha) b (hgen b hb)),fun b hb=>ham b (hgen b hb),fun i hi=>?_⟩
 ·rw [hL]; exact List.length_filter_le _ _
 ·obtain ⟨q,hq⟩:=lagrange h1 h5 hGr _ (everyL k) (Nat.le_refl _) (every_nodup k h5) (fun x hx=>mem_everyL.1 hx) fun x hx h hh=>mem_everyL.2 ((mem_everyL.1 hx).times (hI.2 h hh))
  rw [hlen,hq,Nat.mul_mod_left]
 ·have:=(every_sorted k h5).filter (fun x=>decide (x∈G))
  rw [← hL,List.pairwise_iff_getElem] at this
  rw [getD_eq (by omega),getD_eq hi]
  exact this i (i+1) (by omega) hi (by omega)
end Go.Proofs.YtmikofeildnpdaaGreat
namespace Go.Proofs.YtmikofeildnpdaaGreat
open Go.RowKit
theorem wf_u8 {n:Int} (h:(Lit.int .u8 n).wf=true):0≤n∧n < 256:=by
 simp only [Lit.wf,IntKind.signed,IntKind.bits,IntKind.min,IntKind.max,Bool.and_eq_true] at h
 obtain ⟨h1,h2⟩:=h
 refine ⟨by simpa using h1,?_⟩
 have:n≤255:=by simpa using h2
 omega
theorem amongT {w:World} {u v:Value} {xs:List (List Int)} {y:List Int} (hm:amongB xs y=true) (h:Intss w u xs) (h':Ints w v y):Calls Tryz.prog 31 #[u,v] w fun e w'=>e = .returned (.bool true)∧Qt w w':=by
 have:=refAmong h h'
 rwa [hm] at this
theorem OII.get {w:World} {B n gb c:Nat} {xss:List (List Int)} (h:OII w B (.slice (some ⟨gb,0,none⟩) n c) n xss) {j:Nat} (hj:j < n):∃ u,w.cell? ⟨gb,j,none⟩=some u∧OI w 0 u (xss.getD j []).length (xss.getD j []):=by
 obtain ⟨a,c',b,hv,ha,hc⟩:=h.open'
 injection hv with e1 _ _
 rw [ha (by omega)] at e1
 injection e1 with e1
 injection e1 with e1
 subst e1
 exact hc j hj
end Go.Proofs.YtmikofeildnpdaaGreat

/- append onto rows that a call made: at any world, and at a step of a region that draws its order; no program in sight. -/
namespace Go.Proofs.YtmikofeildnpdaaGreat
open Go.RowKit
def NewAt (w:World) (v v':Value):Prop:=v'.ownBlock=v.ownBlock∨v'.ownBlock=some w.heap.size
section
variable {α:Type} {E:TypeId} {k:Nat} {El:World→List Value→α→Prop} {B n:Nat} {v:Value} {xs:List α}
theorem run_appX {P:Program} {T ty:TypeId} {z:Value} {bytes:Nat} (hE:ElemK P T E z k bytes) (hby:bytes≤128) (hk:0 < k) (hS:Stab E El) {w:World} {cs:List Value} {x:α}
  (hown:OwX E k El w B v n xs) (ad:Addr) (c:Nat) (hcs:cs.length=k) (hnews:∀ j u,cs[j]? = some u→w.cell? (ad.add j)=some u) (hc1:∀ u∈cs,u.oneCell'=true) (hEl:El w cs x) (hn:n≤1000000000000) (hB:B≤w.heap.size) :
  ∃ v' w',(Builtin.append_ #[T,T] ty #[v,.slice (some ad) 1 c]).run P w = .ok v' w'∧OwX E k El w' B v' (n+1) (xs ++ [x])∧w.grownBy w' v.ownBlock∧NewAt w v v'∧Below B w w'∧KeepX E w w':=by
 obtain ⟨i0,hi,hz0,hz1,hz2⟩:=info_parts hE.2.1
 obtain ⟨vs,k1,k2,k3,k4⟩:=hown
 have hvl:vs.length=n * k:=k1.1
 have hbd:(n+1) * bytes≤140737488355328:=by
  have:(n+1) * bytes≤1000000000001 * 128:=Nat.mul_le_mul (by omega) hby
  omega
 obtain ⟨v',w',hr,h1,hg,_,h5⟩:=run_append_own_at (P:=P) w B T ty E i0 z k bytes hE.1 hi hz0 hz1 hz2 hE.2.2 hk v n vs k1 ad 1 c cs (by simpa using hcs) hnews hc1 (by unfold maxLen; omega) hbd hB
 have hX:KeepX E w w':=KeepX.own k1 hg
 refine ⟨v',w',hr,⟨vs++cs,h1,by simp [k2],?_,fun j x' hj=>?_⟩,hg,h5,(Below.refl B w).grown hg hB (fun k hk=>(k1.lt k hk).1),hX⟩
 ·intro u hu
  rcases List.mem_append.1 hu with hu | hu
  ·exact k3 u hu
  ·exact hc1 u hu
 ·by_cases hjn:j < n
  ·rw [List.getElem?_append_left (by omega)] at hj
   have hle:j * k+k≤n * k:=by rw [← Nat.succ_mul]; exact Nat.mul_le_mul_right _ hjn
   rw [List.drop_append_of_le_length (by omega),List.take_append_of_le_length (by rw [List.length_drop]; omega)]
   exact hS _ _ _ _ (k4 j x' hj) hX
  ·rw [List.getElem?_append_right (by omega)] at hj
   have hj0:j - xs.length=0:=by
    have:=(List.getElem?_eq_some_iff.1 hj).1
    simpa using this
   rw [hj0] at hj
   simp only [List.getElem?_cons_zero,Option.some.injEq] at hj
   subst hj
   obtain rfl:j=n:=by omega
   rw [← hvl,List.drop_left,List.take_of_length_le (by omega)]
   exact hS _ _ _ _ hEl hX
theorem wp_appX {P:Program} {T:TypeId} {z:Value} {bytes:Nat} (hE:ElemK P T E z k bytes) (hby:bytes≤128) (hk:0 < k) (hS:Stab E El) {w:World} {cs:List Value} {x:α} {o:Oper} {a:Act} {K:Act→World→Prop} {Q:Exit→Act→World→Prop} (s y:Operand)
  (ho:o.op = .call { callee:=.builtin .append,args:=#[s,y],argTypes:=#[T,T] }) (hs:a.eval s=v) (hown:OwX E k El w B v n xs) (ad:Addr) (c:Nat) (hx:a.eval y = .slice (some ad) 1 c) (hcs:cs.length=k)
  (hnews:∀ j u,cs[j]? = some u→w.cell? (ad.add j)=some u) (hc1:∀ u∈cs,u.oneCell'=true) (hEl:El w cs x) (hn:n≤1000000000000) (hB:B≤w.heap.size)
  (h:∀ v' w',OwX E k El w' B v' (n+1) (xs ++ [x])→w.grownBy w' v.ownBlock→NewAt w v v'→Below B w w'→KeepX E w w'→K (a.put o.dst v') w'):o.wp P a w K Q:=by
 obtain ⟨v',w',hr,h2,h3,h4,h5,h6⟩:=run_appX (P:=P) (ty:=o.type) hE hby hk hS hown ad c hcs hnews hc1 hEl hn hB
 unfold Oper.wp execOp
 simp only [ho,resolve,invoke,builtin,Sem.run_bind,Sem.run_pure,Result.andThen_ok,List.map_toArray,List.map_cons,List.map_nil,hs,hx,hr]
 exact h v' w' h2 h3 h4 h5 h6
end
end Go.Proofs.YtmikofeildnpdaaGreat

/- slices.Compact at rows of rounds. -/
namespace Go.Proofs.YtmikofeildnpdaaGreat
open Go.RowKit
theorem OwX.store7 {w:World} {B g n cap:Nat} {xs:List (List Int)} (h:OwX 87 7 EI w B (.slice (some ⟨g,0,none⟩) n cap) n xs) {j:Nat} (hj:j < n) (y0 y1 y2 y3 y4 y5 y6:Int) :
  OwX 87 7 EI (((((((w.setCell ⟨g,j * 7,none⟩ (.int .i64 y0)).setCell ⟨g,j * 7+1,none⟩ (.int .i64 y1)).setCell ⟨g,j * 7+2,none⟩ (.int .i64 y2)).setCell ⟨g,j * 7+3,none⟩ (.int .i64 y3)).setCell ⟨g,j * 7+4,none⟩ (.int .i64 y4)).setCell ⟨g,j * 7+5,none⟩ (.int .i64 y5)).setCell ⟨g,j * 7+6,none⟩ (.int .i64 y6)) B (.slice (some ⟨g,0,none⟩) n cap) n (xs.set j [y0,y1,y2,y3,y4,y5,y6]):=by
 have hl:=h.length
 obtain ⟨h7,_⟩:=h.intCells hj
 have h0:=(h.storeI hj (i:=0) (by decide) y0).1
 have h1:=(h0.storeI hj (i:=1) (by decide) y1).1
 have h2:=(h1.storeI hj (i:=2) (by decide) y2).1
 have h3:=(h2.storeI hj (i:=3) (by decide) y3).1
 have h4:=(h3.storeI hj (i:=4) (by decide) y4).1
 have h5:=(h4.storeI hj (i:=5) (by decide) y5).1
 have h6:=(h5.storeI hj (i:=6) (by decide) y6).1
 have hg:∀ (a:List Int),(xs.set j a).getD j []=a:=fun a=>by
  rw [List.getD_eq_getElem?_getD,List.getElem?_set_self (by omega)]; rfl
 simp only [hg,List.set_set] at h6
 obtain ⟨a,b,c,d,e,f,i,hx⟩:=seven h7
 rw [hx] at h6
 exact h6
theorem below7 {w w':World} {B g:Nat} {a b c d e f i:Nat} {va vb vc vd ve vf vi:Value} (h:Below B w w') (hg:B≤g) :
  Below B w (((((((w'.setCell ⟨g,a,none⟩ va).setCell ⟨g,b,none⟩ vb).setCell ⟨g,c,none⟩ vc).setCell ⟨g,d,none⟩ vd).setCell ⟨g,e,none⟩ ve).setCell ⟨g,f,none⟩ vf).setCell ⟨g,i,none⟩ vi):=by
 have h1:=h.setCell (p:=⟨g,a,none⟩) hg va
 have h2:=h1.setCell (p:=⟨g,b,none⟩) hg vb
 have h3:=h2.setCell (p:=⟨g,c,none⟩) hg vc
 have h4:=h3.setCell (p:=⟨g,d,none⟩) hg vd
 have h5:=h4.setCell (p:=⟨g,e,none⟩) hg ve
 have h6:=h5.setCell (p:=⟨g,f,none⟩) hg vf
 exact h6.setCell (p:=⟨g,i,none⟩) hg vi
end Go.Proofs.YtmikofeildnpdaaGreat

/- The reference: Partition. -/
namespace Go.Proofs.YtmikofeildnpdaaGreat
open Go.RowKit
theorem LeadOK.ofCls {ss:List (List (List Int))} (h:ClsOK ss):LeadOK ss:=fun s hs m hm=>((h.2.2.2 s hs).2 m hm).2.2
end Go.Proofs.YtmikofeildnpdaaGreat

/- Two systems side by side: words, search and form of the one are those of the other; classes of states are classes of languages. Plain lists. -/
namespace Go.Proofs.YtmikofeildnpdaaGreat
theorem ascL_of {n:Int} {ss:List (List (List Int))} (h:chkA n ss=0):∀ s∈ss,AscL (s.map rdOf):=fun s hs=>by
 obtain ⟨_,_,h3,_⟩:=chkA_facts h
 have h4:=ssGo_zero h3 s hs
 unfold stErr at h4
 by_cases he:s.length=0
 ·rw [List.length_eq_zero_iff.1 he]; exact List.Pairwise.nil
 rw [if_neg he] at h4
 have hadj:∀ i,0 < i→i < s.length→cmpL (rdOf (s.getD (i - 1) [])) (rdOf (s.getD i [])) < 0:=fun i h0 hi=>by
  obtain ⟨_,_,c3,_,_⟩:=mvErr_zero (mvGo_zero h4 i (by omega) (by omega))
  have:=c3 h0
  unfold rdOf; omega
 unfold AscL
 rw [List.pairwise_iff_getElem]
 intro i j hi hj hij
 rw [List.length_map] at hi hj
 rw [List.getElem_map,List.getElem_map]
 obtain ⟨d,rfl⟩:∃ d,j=i+1+d:=⟨j - i - 1,by omega⟩
 induction d with
 | zero=>
  have:=hadj (i+1) (by omega) hj
  rw [Nat.add_sub_cancel,getD_eq hi,getD_eq hj] at this
  exact this
 | succ d ih=>
  have h1:=ih (by rw [List.length_map]; omega) (by omega) (by omega)
  have h2:=hadj (i+1+(d+1)) (by omega) hj
  rw [show i+1+(d+1) - 1=i+1+d by omega,getD_eq (by omega:i+1+d < s.length),getD_eq hj] at h2
  exact cmpL_trans _ _ _ h1 h2
section
variable {α β:Type} {R:α→β→Prop}
end
section
variable {ρ:Nat→Nat→Prop} {kf kf':Nat→Nat} {ss tt:List (List (List Int))}
end
def alw (ss:List (List (List Int))):List (List Int)→Nat→Prop
 | [],_=>True
 | r::w,s=>0≤toI r (ss.getD s [])∧alw ss w (toI r (ss.getD s [])).toNat
section
variable {ρ:Nat→Nat→Prop} {ss tt:List (List (List Int))}
theorem alw_after:∀ {w:List (List Int)} {s:Nat},alw ss w s↔0≤afterI ss w s
 | [],s=>by simp [alw,afterI]
 | r::w,s=>by
  rw [alw,afterI]
  by_cases h:toI r (ss.getD s []) < 0
  ·rw [if_pos h]
   exact ⟨fun h'=>absurd h'.1 (by omega),fun h'=>absurd h' (by decide)⟩
  ·rw [if_neg h,alw_after (w:=w)]
   exact ⟨fun h'=>h'.2,fun h'=>⟨by omega,h'⟩⟩
theorem toI_mem {m:List Int}:∀ {x:List (List Int)},AscL (x.map rdOf)→m∈x→toI (rdOf m) x=m.getD 7 0
 | [],_,h=>by cases h
 | a::x,ha,h=>by
  rw [List.map_cons] at ha
  unfold AscL at ha
  rw [List.pairwise_cons] at ha
  rw [toI]
  rcases List.mem_cons.1 h with rfl | h
  ·rw [if_pos rfl]
  ·rw [if_neg,toI_mem ha.2 h]
   intro e
   have h1:=ha.1 (rdOf m) (List.mem_map_of_mem h)
   rw [e] at h1
   exact cmpL_asymm _ _ h1 h1
theorem toI_out {r:List Int}:∀ {x:List (List Int)},r ∉ x.map rdOf→toI r x = -1
 | [],_=>rfl
 | a::x,h=>by
  rw [List.map_cons,List.mem_cons,not_or] at h
  rw [toI,if_neg (fun e=>h.1 e.symm),toI_out h.2]
theorem toI_in {r:List Int} {x:List (List Int)} (h0:∀ m∈x,0≤m.getD 7 0):0≤toI r x↔r∈x.map rdOf:=by
 constructor
 ·intro h
  by_cases hr:r∈x.map rdOf
  ·exact hr
  ·rw [toI_out hr] at h; exact absurd h (by decide)
 ·exact toI_self h0
end
end Go.Proofs.YtmikofeildnpdaaGreat

/- The reference: letters. -/
namespace Go.Proofs.YtmikofeildnpdaaGreat
open Go.RowKit
def KSC (k:Nat) (w:World) (v:Value) (xs:List (List Int)):Prop:=
 ∃ a c b off,v = .slice a xs.length c∧(0 < xs.length→a=some ⟨b,off,none⟩)∧CK k w b off xs∧xs.length≤2199023255552∧xs.length≤c
theorem KSC.ks {k:Nat} {w:World} {v:Value} {xs:List (List Int)} (h:KSC k w v xs):KS k w v xs:=by
 obtain ⟨a,c,b,off,h1,h2,h3,h4,_⟩:=h
 exact ⟨a,c,b,off,h1,h2,h3,h4⟩
theorem KSC.keep {k:Nat} {w w':World} {v:Value} {xs:List (List Int)} (h:KSC k w v xs) (hb:Below w.heap.size w w'):KSC k w' v xs:=by
 obtain ⟨a,c,b,off,h1,h2,h3,h4⟩:=h
 exact ⟨a,c,b,off,h1,h2,h3.keep hb,h4⟩
theorem KSC.tl {k:Nat} {w:World} {b off n c:Nat} {x:List Int} {xs:List (List Int)} (h:KSC k w (.slice (some ⟨b,off,none⟩) n c) (x::xs)) :
  KSC k w (.slice (if c=1 then some ⟨b,off,none⟩ else some ⟨b,off+k,none⟩) (n - 1) (c - 1)) xs:=by
 obtain ⟨a',c',b',off',h1,h2,h3,h4,h5⟩:=h
 injection h1 with e1 e2 e3
 subst e2 e3
 have ha:=h2 (by simp)
 rw [← e1] at ha
 injection ha with ha
 injection ha with hb ho
 subst hb ho
 simp only [List.length_cons] at h4 h5 ⊢
 refine ⟨_,_,b,off+k,by rw [Nat.add_sub_cancel],fun hp=>if_neg (by omega),fun j hj=>?_,by omega,by omega⟩
 have:=h3 (j+1) (by simp only [List.length_cons]; omega)
 rw [List.getD_cons_succ] at this
 refine ⟨this.1,?_⟩
 have e:off+(j+1) * k=off+k+j * k:=by rw [Nat.succ_mul]; omega
 rw [← e]; exact this.2
def AdvC (w:World) (v:Value) (n:Int) (ss:List (List (List Int))):Prop:=
 ∃ a c b off,v = .agg #[.int .i64 n,.slice a ss.length c]∧(0 < ss.length→a=some ⟨b,off,none⟩)∧(∀ j,j < ss.length→∃ u,w.cell? ⟨b,off+j,none⟩=some u∧KSC 8 w u (ss.getD j []))∧ss.length≤5864062014805
theorem AdvC.adv {w:World} {v:Value} {n:Int} {ss:List (List (List Int))} (h:AdvC w v n ss):AdvV w v n ss:=by
 obtain ⟨a,c,b,off,h1,h2,h3,h4⟩:=h
 exact ⟨_,h1,a,c,b,off,rfl,h2,fun j hj=>let ⟨u,k1,k2⟩:=h3 j hj; ⟨u,k1,k2.ks⟩,h4⟩
theorem AdvC.keep {w w':World} {v:Value} {n:Int} {ss:List (List (List Int))} (h:AdvC w v n ss) (hb:Below w.heap.size w w'):AdvC w' v n ss:=by
 obtain ⟨a,c,b,off,h1,h2,h3,h4⟩:=h
 exact ⟨a,c,b,off,h1,h2,fun j hj=>let ⟨u,k1,k2⟩:=h3 j hj; ⟨u,cell_kept hb k1,k2.keep hb⟩,h4⟩
end Go.Proofs.YtmikofeildnpdaaGreat

/- round.Compare as the library's sort asks it; slices.SortFunc at rounds. -/
namespace Go.Proofs.YtmikofeildnpdaaGreat
open Go.RowKit
theorem graphCompareG (n h0 h1 h2 h3 h4 m g0 g1 g2 g3 g4:Int) (w:World):Calls Tryz.prog 135 #[.agg #[.int .i64 n,.int .i64 h0,.int .i64 h1,.int .i64 h2,.int .i64 h3,.int .i64 h4],.agg #[.int .i64 m,.int .i64 g0,.int .i64 g1,.int .i64 g2,.int .i64 g3,.int .i64 g4]] w fun e w'=>e = .returned (.int .i64 (cmpL [n,h0,h1,h2,h3,h4] [m,g0,g1,g2,g3,g4]))∧Below w.heap.size w w'∧w.drawn≤w'.drawn:=by
 by_cases he : [n,h0,h1,h2,h3,h4] = [m,g0,g1,g2,g3,g4]
 ·have hE:=Lib.hid (show cmpL [n,h0,h1,h2,h3,h4] [m,g0,g1,g2,g3,g4]=0 by rw [he]; exact cmpL_self _)
  have he':=Lib.hid (eqL_true.2 he)
  clear he
  go_enter Tryz.func135, Tryz.ntmps135
  have he1:=he'.out
  go_wp2
  go_ret
  exact ⟨ret_int hE.out.symm,(((Below.refl w.heap.size w).alloc (Nat.le_refl _) _).alloc (by simp) _),(by first | exact Nat.le_refl _ | exact hd1 | exact Nat.le_add_right _ _ | exact Nat.le_trans (Nat.le_add_right _ _) (Nat.le_add_right _ _))⟩
 ·have he':=eqL_false.2 he
  clear he
  obtain ⟨E,hE⟩:=exE (cmpL [n,h0,h1,h2,h3,h4] [m,g0,g1,g2,g3,g4])
  rw [hE]
  by_cases hn:n=m
  ·have hE0:=Lib.hid (show cmpL [h0,h1,h2,h3,h4] [g0,g1,g2,g3,g4]=E by rw [← hE]; exact (cmpL_hd (cmpI_zero.2 hn)).symm)
   have hn':(n != m)=false:=by simp [hn]
   replace hn:=Lib.hid hn
   clear hE
   go_enter Tryz.func135, Tryz.ntmps135
   go_wp2
   go_loopw [20] (fun iv wr=>∃ (k:Int) (dn:Nat),wr=((w.alloc (.cells #[.int .i64 n,.int .i64 h0,.int .i64 h1,.int .i64 h2,.int .i64 h3,.int .i64 h4] 85)).alloc (.cells #[.int .i64 m,.int .i64 g0,.int .i64 g1,.int .i64 g2,.int .i64 g3,.int .i64 g4] 85)).drewN dn∧iv = .int .i64 k∧((k=0∧Hid (cmpL [h0,h1,h2,h3,h4] [g0,g1,g2,g3,g4]=E))∨(k=1∧Hid (cmpL [h1,h2,h3,h4] [g1,g2,g3,g4]=E))∨(k=2∧Hid (cmpL [h2,h3,h4] [g2,g3,g4]=E))∨(k=3∧Hid (cmpL [h3,h4] [g3,g4]=E))∨(k=4∧Hid (cmpL [h4] [g4]=E))∨(k=5∧Hid (cmpL [] []=E)))) (fun iv _=>5 - (intOf iv).toNat)
   case atStart=>exact ⟨0,0,(by first | rfl | simp),rfl,.inl ⟨rfl,hE0⟩⟩
   case round=>
    clear hE0
    obtain ⟨k,dn,rfl,rfl,hk⟩:=hrel
    rcases hk with ⟨rfl,hg⟩ | ⟨rfl,hg⟩ | ⟨rfl,hg⟩ | ⟨rfl,hg⟩ | ⟨rfl,hg⟩ | ⟨rfl,hg⟩
    ·obtain ⟨c,hc⟩:=exE (cmpI h0 g0)
     have hq:=fun W=>cmpIntQ h0 g0 W
     simp only [hc] at hq
     replace hq:=Lib.hid hq
     by_cases hz0:c=0
     ·subst hz0
      have hz:=Lib.hid hc
      clear hc
      go_wp2
      go_quiet ((go_at_call 111; exact quietOn (hq.out _)))
      go_wp2
      go_roundw
      case rel=>exact ⟨1,_,(by first | exact rfl | exact World.drewN_drewN _ _ _),rfl,.inr (.inl ⟨rfl,by show _=_; rw [← hg.out,cmpL_hd hz.out]⟩)⟩
      case measure=>simp [intOf]
     ·have hz':(c != 0)=true:=by simpa using hz0
      have hz:=Lib.hid (show ¬ cmpI h0 g0=0 by rw [hc]; exact hz0)
      replace hc:=Lib.hid hc
      clear hz0
      go_wp2
      go_quiet ((go_at_call 111; exact quietOn (hq.out _)))
      go_wp2
      go_ret
      exact ⟨ret_int (by rw [← hg.out,cmpL_ne hz.out,hc.out]),(by first | exact below_drewN (((Below.refl w.heap.size w).alloc (Nat.le_refl _) _).alloc (by simp) _) _ | exact below_drewN (below_drewN (((Below.refl w.heap.size w).alloc (Nat.le_refl _) _).alloc (by simp) _) _) _ | exact below_drewN (below_drewN (below_drewN (((Below.refl w.heap.size w).alloc (Nat.le_refl _) _).alloc (by simp) _) _) _) _),(by first | exact Nat.le_refl _ | exact hd1 | exact Nat.le_add_right _ _ | exact Nat.le_trans (Nat.le_add_right _ _) (Nat.le_add_right _ _))⟩
    ·obtain ⟨c,hc⟩:=exE (cmpI h1 g1)
     have hq:=fun W=>cmpIntQ h1 g1 W
     simp only [hc] at hq
     replace hq:=Lib.hid hq
     by_cases hz0:c=0
     ·subst hz0
      have hz:=Lib.hid hc
      clear hc
      go_wp2
      go_quiet ((go_at_call 111; exact quietOn (hq.out _)))
      go_wp2
      go_roundw
      case rel=>exact ⟨2,_,(by first | exact rfl | exact World.drewN_drewN _ _ _),rfl,.inr (.inr (.inl ⟨rfl,by show _=_; rw [← hg.out,cmpL_hd hz.out]⟩))⟩
      case measure=>simp [intOf]
     ·have hz':(c != 0)=true:=by simpa using hz0
      have hz:=Lib.hid (show ¬ cmpI h1 g1=0 by rw [hc]; exact hz0)
      replace hc:=Lib.hid hc
      clear hz0
      go_wp2
      go_quiet ((go_at_call 111; exact quietOn (hq.out _)))
      go_wp2
      go_ret
      exact ⟨ret_int (by rw [← hg.out,cmpL_ne hz.out,hc.out]),(by first | exact below_drewN (((Below.refl w.heap.size w).alloc (Nat.le_refl _) _).alloc (by simp) _) _ | exact below_drewN (below_drewN (((Below.refl w.heap.size w).alloc (Nat.le_refl _) _).alloc (by simp) _) _) _ | exact below_drewN (below_drewN (below_drewN (((Below.refl w.heap.size w).alloc (Nat.le_refl _) _).alloc (by simp) _) _) _) _),(by first | exact Nat.le_refl _ | exact hd1 | exact Nat.le_add_right _ _ | exact Nat.le_trans (Nat.le_add_right _ _) (Nat.le_add_right _ _))⟩
    ·obtain ⟨c,hc⟩:=exE (cmpI h2 g2)
     have hq:=fun W=>cmpIntQ h2 g2 W
     simp only [hc] at hq
     replace hq:=Lib.hid hq
     by_cases hz0:c=0
     ·subst hz0
      have hz:=Lib.hid hc
      clear hc
      go_wp2
      go_quiet ((go_at_call 111; exact quietOn (hq.out _)))
      go_wp2
      go_roundw
      case rel=>exact ⟨3,_,(by first | exact rfl | exact World.drewN_drewN _ _ _),rfl,.inr (.inr (.inr (.inl ⟨rfl,by show _=_; rw [← hg.out,cmpL_hd hz.out]⟩)))⟩
      case measure=>simp [intOf]
     ·have hz':(c != 0)=true:=by simpa using hz0
      have hz:=Lib.hid (show ¬ cmpI h2 g2=0 by rw [hc]; exact hz0)
      replace hc:=Lib.hid hc
      clear hz0
      go_wp2
      go_quiet ((go_at_call 111; exact quietOn (hq.out _)))
      go_wp2
      go_ret
      exact ⟨ret_int (by rw [← hg.out,cmpL_ne hz.out,hc.out]),(by first | exact below_drewN (((Below.refl w.heap.size w).alloc (Nat.le_refl _) _).alloc (by simp) _) _ | exact below_drewN (below_drewN (((Below.refl w.heap.size w).alloc (Nat.le_refl _) _).alloc (by simp) _) _) _ | exact below_drewN (below_drewN (below_drewN (((Below.refl w.heap.size w).alloc (Nat.le_refl _) _).alloc (by simp) _) _) _) _),(by first | exact Nat.le_refl _ | exact hd1 | exact Nat.le_add_right _ _ | exact Nat.le_trans (Nat.le_add_right _ _) (Nat.le_add_right _ _))⟩
    ·obtain ⟨c,hc⟩:=exE (cmpI h3 g3)
     have hq:=fun W=>cmpIntQ h3 g3 W
     simp only [hc] at hq
     replace hq:=Lib.hid hq
     by_cases hz0:c=0
     ·subst hz0
      have hz:=Lib.hid hc
      clear hc
      go_wp2
      go_quiet ((go_at_call 111; exact quietOn (hq.out _)))
      go_wp2
      go_roundw
      case rel=>exact ⟨4,_,(by first | exact rfl | exact World.drewN_drewN _ _ _),rfl,.inr (.inr (.inr (.inr (.inl ⟨rfl,by show _=_; rw [← hg.out,cmpL_hd hz.out]⟩))))⟩
      case measure=>simp [intOf]
     ·have hz':(c != 0)=true:=by simpa using hz0
      have hz:=Lib.hid (show ¬ cmpI h3 g3=0 by rw [hc]; exact hz0)
      replace hc:=Lib.hid hc
      clear hz0
      go_wp2
      go_quiet ((go_at_call 111; exact quietOn (hq.out _)))
      go_wp2
      go_ret
      exact ⟨ret_int (by rw [← hg.out,cmpL_ne hz.out,hc.out]),(by first | exact below_drewN (((Below.refl w.heap.size w).alloc (Nat.le_refl _) _).alloc (by simp) _) _ | exact below_drewN (below_drewN (((Below.refl w.heap.size w).alloc (Nat.le_refl _) _).alloc (by simp) _) _) _ | exact below_drewN (below_drewN (below_drewN (((Below.refl w.heap.size w).alloc (Nat.le_refl _) _).alloc (by simp) _) _) _) _),(by first | exact Nat.le_refl _ | exact hd1 | exact Nat.le_add_right _ _ | exact Nat.le_trans (Nat.le_add_right _ _) (Nat.le_add_right _ _))⟩
    ·obtain ⟨c,hc⟩:=exE (cmpI h4 g4)
     have hq:=fun W=>cmpIntQ h4 g4 W
     simp only [hc] at hq
     replace hq:=Lib.hid hq
     by_cases hz0:c=0
     ·subst hz0
      have hz:=Lib.hid hc
      clear hc
      go_wp2
      go_quiet ((go_at_call 111; exact quietOn (hq.out _)))
      go_wp2
      go_roundw
      case rel=>exact ⟨5,_,(by first | exact rfl | exact World.drewN_drewN _ _ _),rfl,.inr (.inr (.inr (.inr (.inr (⟨rfl,by show _=_; rw [← hg.out,cmpL_hd hz.out]⟩)))))⟩
      case measure=>simp [intOf]
     ·have hz':(c != 0)=true:=by simpa using hz0
      have hz:=Lib.hid (show ¬ cmpI h4 g4=0 by rw [hc]; exact hz0)
      replace hc:=Lib.hid hc
      clear hz0
      go_wp2
      go_quiet ((go_at_call 111; exact quietOn (hq.out _)))
      go_wp2
      go_ret
      exact ⟨ret_int (by rw [← hg.out,cmpL_ne hz.out,hc.out]),(by first | exact below_drewN (((Below.refl w.heap.size w).alloc (Nat.le_refl _) _).alloc (by simp) _) _ | exact below_drewN (below_drewN (((Below.refl w.heap.size w).alloc (Nat.le_refl _) _).alloc (by simp) _) _) _ | exact below_drewN (below_drewN (below_drewN (((Below.refl w.heap.size w).alloc (Nat.le_refl _) _).alloc (by simp) _) _) _) _),(by first | exact Nat.le_refl _ | exact hd1 | exact Nat.le_add_right _ _ | exact Nat.le_trans (Nat.le_add_right _ _) (Nat.le_add_right _ _))⟩
    ·go_wp2
     go_ret
     exact ⟨ret_int hg.out,(by first | exact below_drewN (((Below.refl w.heap.size w).alloc (Nat.le_refl _) _).alloc (by simp) _) _ | exact below_drewN (below_drewN (((Below.refl w.heap.size w).alloc (Nat.le_refl _) _).alloc (by simp) _) _) _ | exact below_drewN (below_drewN (below_drewN (((Below.refl w.heap.size w).alloc (Nat.le_refl _) _).alloc (by simp) _) _) _) _),(by first | exact Nat.le_refl _ | exact hd1 | exact Nat.le_add_right _ _ | exact Nat.le_trans (Nat.le_add_right _ _) (Nat.le_add_right _ _))⟩
  ·have hE0:=Lib.hid (show cmpI n m=E by rw [← hE,cmpL_ne (fun h=>hn (cmpI_zero.1 h))])
   have hn':(n != m)=true:=by simpa using hn
   clear hE hn
   go_enter Tryz.func135, Tryz.ntmps135
   go_wp2_with (go_at_call 111; refine (cmpInt _ _ _).mono ?_; rintro e w1 ⟨rfl,rfl⟩)
   go_ret
   exact ⟨ret_int hE0.out,(((Below.refl w.heap.size w).alloc (Nat.le_refl _) _).alloc (by simp) _),(by first | exact Nat.le_refl _ | exact hd1 | exact Nat.le_add_right _ _ | exact Nat.le_trans (Nat.le_add_right _ _) (Nat.le_add_right _ _))⟩
theorem roundCompareG (n h0 h1 h2 h3 h4 f m g0 g1 g2 g3 g4 g:Int) (w:World):Calls Tryz.prog 101 #[.agg #[.int .i64 n,.int .i64 h0,.int .i64 h1,.int .i64 h2,.int .i64 h3,.int .i64 h4,.int .i64 f],.agg #[.int .i64 m,.int .i64 g0,.int .i64 g1,.int .i64 g2,.int .i64 g3,.int .i64 g4,.int .i64 g]] w fun e w'=>e = .returned (.int .i64 (cmpL [n,h0,h1,h2,h3,h4,f] [m,g0,g1,g2,g3,g4,g]))∧Below w.heap.size w w'∧w.drawn≤w'.drawn:=by
 have hb:Below w.heap.size w ((w.alloc (.cells #[.int .i64 n,.int .i64 h0,.int .i64 h1,.int .i64 h2,.int .i64 h3,.int .i64 h4,.int .i64 f] 87)).alloc (.cells #[.int .i64 m,.int .i64 g0,.int .i64 g1,.int .i64 g2,.int .i64 g3,.int .i64 g4,.int .i64 g] 87)):=((Below.refl _ _).alloc (Nat.le_refl _) _).alloc (by simp) _
 have HG:=Lib.hid (fun W=>graphCompareG n h0 h1 h2 h3 h4 m g0 g1 g2 g3 g4 W)
 by_cases he : [n,h0,h1,h2,h3,h4,f] = [m,g0,g1,g2,g3,g4,g]
 ·have hE:=Lib.hid (show cmpL [n,h0,h1,h2,h3,h4,f] [m,g0,g1,g2,g3,g4,g]=0 from cmpL_zero.2 he)
  have he':=Lib.hid (eqL_true.2 he)
  clear he
  go_enter Tryz.func101, Tryz.ntmps101
  have he1:=he'.out
  go_wp2
  go_ret
  exact ⟨ret_int hE.out.symm,hb,(by first | exact Nat.le_refl _ | exact hd1 | exact Nat.le_add_right _ _ | exact Nat.le_trans (Nat.le_add_right _ _) (Nat.le_add_right _ _))⟩
 ·have he':=eqL_false.2 he
  clear he
  by_cases hg : [n,h0,h1,h2,h3,h4] = [m,g0,g1,g2,g3,g4]
  ·have hE:=Lib.hid (cmp7_2 (f:=f) (g:=g) hg)
   have hg':=Lib.hid (eqL_true.2 hg)
   clear hg
   go_enter Tryz.func101, Tryz.ntmps101
   have hg1:=hg'.out
   go_wp2_with fail
   refine (cmpInt f g _).mono ?_; rintro e w1 ⟨rfl,rfl⟩
   go_wp2
   go_ret
   exact ⟨ret_int hE.out.symm,hb,(by first | exact Nat.le_refl _ | exact hd1 | exact Nat.le_add_right _ _ | exact Nat.le_trans (Nat.le_add_right _ _) (Nat.le_add_right _ _))⟩
  ·have hE:=Lib.hid (cmp7_1 (f:=f) (g:=g) hg)
   have hg':=eqL_false.2 hg
   clear hg
   go_enter Tryz.func101, Tryz.ntmps101
   go_wp2_with fail
   refine (HG.out _).mono ?_; rintro e w1 ⟨rfl,hb1,hd1⟩
   go_wp2
   go_ret
   exact ⟨ret_int hE.out.symm,bt hb hb1 hb.size,(by first | exact Nat.le_refl _ | exact hd1 | exact Nat.le_add_right _ _ | exact Nat.le_trans (Nat.le_add_right _ _) (Nat.le_add_right _ _))⟩
open Go.Shelf Go.Lib Go.Sort
theorem grown_of {w w':World} (hb:Go.RowKit.Below w.heap.size w w') (hd:w.drawn≤w'.drawn):∃ q os,w'=grow (w.drewN q) os:=by
 refine ⟨w'.drawn - w.drawn,w'.heap.extract w.heap.size w'.heap.size,?_⟩
 have hh:w'.heap=w.heap++w'.heap.extract w.heap.size w'.heap.size:=by
  apply Array.ext_getElem?
  intro k
  by_cases hk:k < w.heap.size
  ·rw [Array.getElem?_append_left hk]; exact hb.block k hk
  ·have hs:=hb.size
   rw [Array.getElem?_append_right (by omega),Array.getElem?_extract]
   by_cases hk2:k < w'.heap.size
   ·rw [if_pos (by omega)]; congr 1; omega
   ·rw [if_neg (by omega),Array.getElem?_eq_none (by omega)]
 have h1:=hb.os
 have h2:=hb.tape
 have h3:=hb.output
 have hdd:w.drawn+(w'.drawn - w.drawn)=w'.drawn:=by omega
 cases w with
 | mk heap tape drawn os output=>
  cases w' with
  | mk heap' tape' drawn' os' output'=>
   simp only at h1 h2 h3 hh hdd
   subst h1 h2 h3
   simp only [grow,World.drewN]
   rw [hdd,← hh]
theorem heap_sortWorld_other {α:Type} [Inhabited α] {enc:α→Value} {w:World} {blk k:Nat} (off n:Nat) (d:Array α) (os:Array Obj) (hne:k ≠ blk) (hk:k < w.heap.size):(sortWorld enc w blk off n d os).heap[k]? = w.heap[k]?:=by
 simp only [sortWorld,grow,putRow,mapBlock,Sort.ahead]
 rw [Array.getElem?_append_left (by simpa using hk),Array.getElem?_modify,if_neg (fun h=>hne h.symm)]
theorem heap_sortWorld_same {α:Type} [Inhabited α] {enc:α→Value} {w:World} {blk:Nat} (off n:Nat) (d:Array α) (os:Array Obj) {cs:Array Value} {t:TypeId} {fz:Nat × Nat} (h:w.heap[blk]? = some (.cells cs t fz)):(sortWorld enc w blk off n d os).heap[blk]? = some (.cells (putCells enc off d cs) t fz):=by
 simp only [sortWorld,grow,putRow,mapBlock,Sort.ahead]
 rw [Array.getElem?_append_left (by simpa using (Array.getElem?_eq_some_iff.1 h).1),Array.getElem?_modify,if_pos rfl,h]
 rfl
theorem below_sortWorld {α:Type} [Inhabited α] {enc:α→Value} {w:World} {blk:Nat} (n:Nat) (d:Array α) (os:Array Obj) {B:Nat} (hB:B≤blk) (hb:blk < w.heap.size):Go.RowKit.Below B w (sortWorld enc w blk 0 n d os):=by
 refine ⟨rfl,rfl,rfl,?_,fun k hk=>heap_sortWorld_other _ _ _ _ (by omega) (by omega)⟩
 simp [sortWorld,grow,putRow,mapBlock,Sort.ahead]
theorem putCells_take {α:Type} [Inhabited α] (enc:α→Value) (d:Array α) (cs:Array Value) (hd:d.size≤cs.size):(putCells enc 0 d cs).toList.take d.size=d.toList.map enc:=by
 apply List.ext_getElem?
 intro k
 rw [List.getElem?_take]
 by_cases hk:k < d.size
 ·rw [if_pos hk,Array.getElem?_toList]
  simp only [putCells,Array.getElem?_mapIdx]
  rw [Array.getElem?_eq_getElem (by omega:k < cs.size)]
  simp [hk]
 ·rw [if_neg hk,List.getElem?_eq_none (by simp; omega)]
end Go.Proofs.YtmikofeildnpdaaGreat

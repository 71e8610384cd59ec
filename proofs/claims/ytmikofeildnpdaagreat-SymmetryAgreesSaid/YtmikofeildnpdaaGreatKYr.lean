/- Texts of this claim, put together: E6 U0 CS GC QE QS. -/
import Derived.Test.YtmikofeildnpdaaGreatKYj
import Derived.Test.YtmikofeildnpdaaGreatKYd
import Derived.Test.YtmikofeildnpdaaGreatKYo
import Derived.Test.YtmikofeildnpdaaGreatKYf
import Derived.Test.YtmikofeildnpdaaGreatKYq
import Derived.Test.YtmikofeildnpdaaGreatKYi
import Derived.Test.YtmikofeildnpdaaGreatKYc
import Derived.Deep.LoopGhost
import Derived.IntWalk
import Derived.Lib.AppendZeros
import Derived.Laws.AppendOwnNone
import Derived.Deep.RegionHeld3
import Derived.Deep.DeepCutAuto
import Derived.Laws.EntriesVeiled
import Derived.Laws.CopyRow

set_option maxRecDepth 100000
set_option maxHeartbeats 12800000
/- Is and Equal. -/
namespace Go.Proofs.YtmikofeildnpdaaGreat
open Go.RowKit Go.ChangeMaps Go.MapKept
def eqErr (m n:Int) (xs ys:List (List (List Int))):Int:=if chkA m xs ≠ 0 then chkA m xs else if chkA n ys ≠ 0 then chkA n ys else if m ≠ n then 22 else 0
end Go.Proofs.YtmikofeildnpdaaGreat

/- Two systems side by side: words, search and form of the one are those of the other; classes of states are classes of languages. Plain lists. -/
namespace Go.Proofs.YtmikofeildnpdaaGreat
theorem ascL_of {n:Int} {ss:List (List (List Int))} (h:chkA n ss=0):∀ s∈ss,AscL (s.map rdOf):=fun s hs=>by
 obtain ⟨_,_,h3,_⟩:=chkA_facts h
 have h4:=ssGo_zero h3 s hs
 unfold stErr at h4
 by_cases he:s.length=0
 ·rw [List.length_eq_zero_iff.1 he]; exact List.Pairwise.nil
 rw [if_neg he] at h4
 have hadj:∀ i,0 < i→i < s.length→cmpL (rdOf (s.getD (i - 1) [])) (rdOf (s.getD i [])) < 0:=fun i h0 hi=>by
  obtain ⟨_,_,c3,_,_⟩:=mvErr_zero (mvGo_zero h4 i (by omega) (by omega))
  have:=c3 h0
  unfold rdOf; omega
 unfold AscL
 rw [List.pairwise_iff_getElem]
 intro i j hi hj hij
 rw [List.length_map] at hi hj
 rw [List.getElem_map,List.getElem_map]
 obtain ⟨d,rfl⟩:∃ d,j=i+1+d:=⟨j - i - 1,by omega⟩
 induction d with
 | zero=>
  have:=hadj (i+1) (by omega) hj
  rw [Nat.add_sub_cancel,getD_eq hi,getD_eq hj] at this
  exact this
 | succ d ih=>
  have h1:=ih (by rw [List.length_map]; omega) (by omega) (by omega)
  have h2:=hadj (i+1+(d+1)) (by omega) hj
  rw [show i+1+(d+1) - 1=i+1+d by omega,getD_eq (by omega:i+1+d < s.length),getD_eq hj] at h2
  exact cmpL_trans _ _ _ h1 h2
section
variable {α β:Type} {R:α→β→Prop}
end
section
variable {ρ:Nat→Nat→Prop} {kf kf':Nat→Nat} {ss tt:List (List (List Int))}
end
def alw (ss:List (List (List Int))):List (List Int)→Nat→Prop
 | [],_=>True
 | r::w,s=>0≤toI r (ss.getD s [])∧alw ss w (toI r (ss.getD s [])).toNat
section
variable {ρ:Nat→Nat→Prop} {ss tt:List (List (List Int))}
theorem toI_mem {m:List Int}:∀ {x:List (List Int)},AscL (x.map rdOf)→m∈x→toI (rdOf m) x=m.getD 7 0
 | [],_,h=>by cases h
 | a::x,ha,h=>by
  rw [List.map_cons] at ha
  unfold AscL at ha
  rw [List.pairwise_cons] at ha
  rw [toI]
  rcases List.mem_cons.1 h with rfl | h
  ·rw [if_pos rfl]
  ·rw [if_neg,toI_mem ha.2 h]
   intro e
   have h1:=ha.1 (rdOf m) (List.mem_map_of_mem h)
   rw [e] at h1
   exact cmpL_asymm _ _ h1 h1
theorem toI_out {r:List Int}:∀ {x:List (List Int)},r ∉ x.map rdOf→toI r x = -1
 | [],_=>rfl
 | a::x,h=>by
  rw [List.map_cons,List.mem_cons,not_or] at h
  rw [toI,if_neg (fun e=>h.1 e.symm),toI_out h.2]
theorem toI_in {r:List Int} {x:List (List Int)} (h0:∀ m∈x,0≤m.getD 7 0):0≤toI r x↔r∈x.map rdOf:=by
 constructor
 ·intro h
  by_cases hr:r∈x.map rdOf
  ·exact hr
  ·rw [toI_out hr] at h; exact absurd h (by decide)
 ·exact toI_self h0
end
end Go.Proofs.YtmikofeildnpdaaGreat

/- Rows of bools; the reference's alive. -/
namespace Go.Proofs.YtmikofeildnpdaaGreat
open Go.RowKit
def OB (w:World) (B:Nat) (v:Value) (n:Nat) (xs:List Bool):Prop:=w.ownsRow B 4 1 v n (xs.map Value.bool)
theorem OB.length {w:World} {B:Nat} {v:Value} {n:Nat} {xs:List Bool} (h:OB w B v n xs):xs.length=n:=by have:=h.1; simpa using this
theorem OB.store {w:World} {B g n cap:Nat} {xs:List Bool} (h:OB w B (.slice (some ⟨g,0,none⟩) n cap) n xs) (j:Nat) (y:Bool) :
  OB (w.setCell ⟨g,j,none⟩ (.bool y)) B (.slice (some ⟨g,0,none⟩) n cap) n (xs.set j y):=by
 have:=(World.ownsRow.stored h j (.bool y)).1
 unfold OB
 rw [List.map_set]
 exact this
end Go.Proofs.YtmikofeildnpdaaGreat

/- The words of And: those of the pairs that can be continued to every length. Plain lists. -/
namespace Go.Proofs.YtmikofeildnpdaaGreat
section
variable {ss:List (List (List Int))}
theorem toI_some {r:List Int}:∀ {x:List (List Int)},0≤toI r x→∃ m∈x,rdOf m=r∧toI r x=m.getD 7 0
 | [],h=>by simp [toI] at h
 | a::x,h=>by
  rw [toI] at h ⊢
  by_cases e:rdOf a=r
  ·rw [if_pos e]; exact ⟨a,by simp,e,rfl⟩
  ·rw [if_neg e] at h ⊢
   obtain ⟨m,h1,h2,h3⟩:=toI_some h
   exact ⟨m,by simp [h1],h2,h3⟩
theorem alw_cons_some {r:List Int} {w:List (List Int)} {s:Nat} (h:alw ss (r::w) s):∃ m∈ss.getD s [],rdOf m=r∧alw ss w (mvTo m):=by
 obtain ⟨m,h1,h2,h3⟩:=toI_some h.1
 refine ⟨m,h1,h2,?_⟩
 have h4:=h.2
 rw [h3] at h4
 exact h4
theorem alw_cons_mem (hA:∀ s∈ss,AscL (s.map rdOf)) (hM:LeadOK ss) {m:List Int} {w:List (List Int)} {s:Nat} (hm:m∈ss.getD s []):alw ss (rdOf m::w) s↔alw ss w (mvTo m):=by
 have hs:s < ss.length:=by
  rcases Nat.lt_or_ge s ss.length with h | h
  ·exact h
  ·rw [List.getD_eq_getElem?_getD,List.getElem?_eq_none h] at hm; cases hm
 have hin:ss.getD s []∈ss:=by rw [getD_eq hs]; exact List.getElem_mem hs
 have h1:=toI_mem (hA _ hin) hm
 have h2:=(hM _ hin m hm).1
 rw [alw,h1]
 exact ⟨fun h=>h.2,fun h=>⟨h2,h⟩⟩
end
end Go.Proofs.YtmikofeildnpdaaGreat

/- Two adversaries permit the same words: the search of the program, and the two searches of the reference. Plain lists. -/
namespace Go.Proofs.YtmikofeildnpdaaGreat
theorem getD_app2 {α:Type} {l t:List α} {j:Nat} {d:α} (h:j < l.length):(l++t).getD j d=l.getD j d:=by
 rw [List.getD_eq_getElem?_getD,List.getD_eq_getElem?_getD,List.getElem?_append_left h]
section
variable {aa bb:List (List (List Int))}
structure WfS (ss:List (List (List Int))):Prop where
 asc:∀ s∈ss,AscL (s.map rdOf)
 lead:LeadOK ss
 pos:0 < ss.length
abbrev Pq:=List (Nat × Nat)
def pushP (Q:Pq) (y:Nat × Nat):Pq:=if y∈Q then Q else Q ++ [y]
def fsIn (aa:List (List (List Int))) (t:Nat) (k:Pq→Option Bool):List (List Int)→Pq→Option Bool
 | [],Q=>k Q
 | m::ms,Q=>if toI (rdOf m) (aa.getD t []) < 0 then some true else fsIn aa t k ms (pushP Q (mvTo m,(toI (rdOf m) (aa.getD t [])).toNat))
def fsGo (aa bb:List (List (List Int))):Nat→Nat→Pq→Option Bool
 | 0,_,_=>none
 | f+1,n,Q=>if n < Q.length then fsIn aa (Q.getD n (0,0)).2 (fsGo aa bb f (n+1)) (bb.getD (Q.getD n (0,0)).1 []) Q else some false
def esIn (k:Pq→Option Bool):List (List Int)→List (List Int)→Pq→Option Bool
 | [],[],Q=>k Q
 | m::ms,m'::ms',Q=>if rdOf m=rdOf m' then esIn k ms ms' (pushP Q (mvTo m,mvTo m')) else some true
 | [],_::_,_=>some true
 | _::_,[],_=>some true
def esGo (aa bb:List (List (List Int))):Nat→Nat→Pq→Option Bool
 | 0,_,_=>none
 | f+1,n,Q=>if n < Q.length then esIn (esGo aa bb f (n+1)) (aa.getD (Q.getD n (0,0)).1 []) (bb.getD (Q.getD n (0,0)).2 []) Q else some false
theorem pushP_pre (Q:Pq) (y:Nat × Nat):∃ T,pushP Q y=Q++T:=by
 unfold pushP
 split
 ·exact ⟨[],by simp⟩
 ·exact ⟨[y],rfl⟩
theorem pushP_mem {Q:Pq} {x y:Nat × Nat}:x∈pushP Q y↔x∈Q∨x=y:=by
 unfold pushP
 split
 ·rename_i h
  exact ⟨.inl,fun h'=>h'.elim id fun e=>e ▸ h⟩
 ·rw [List.mem_append,List.mem_singleton]
theorem pushP_nodup {Q:Pq} {y:Nat × Nat} (h:Q.Nodup):(pushP Q y).Nodup:=by
 unfold pushP
 split
 ·exact h
 ·rename_i hn
  rw [List.nodup_append]
  exact ⟨h,by simp,fun a ha b hb e=>by rw [List.mem_singleton] at hb; subst hb; subst e; exact hn ha⟩
theorem stIn {ss:List (List (List Int))} {s:Nat} {m:List Int} (h:m∈ss.getD s []):ss.getD s []∈ss∧s < ss.length:=by
 have hs:s < ss.length:=by
  rcases Nat.lt_or_ge s ss.length with h1 | h1
  ·exact h1
  ·rw [List.getD_eq_getElem?_getD,List.getElem?_eq_none h1] at h; cases h
 exact ⟨by rw [getD_eq hs]; exact List.getElem_mem hs,hs⟩
theorem WfS.to {ss:List (List (List Int))} (h:WfS ss) {s:Nat} {m:List Int} (hm:m∈ss.getD s []):mvTo m < ss.length:=by
 obtain ⟨h1,_⟩:=stIn hm
 have:=h.lead _ h1 m hm
 rw [mvTo]; omega
theorem WfS.toLt {ss:List (List (List Int))} (h:WfS ss) {s:Nat} {r:List Int} (hr : ¬ toI r (ss.getD s []) < 0):(toI r (ss.getD s [])).toNat < ss.length:=by
 have hin:=(toI_in (r:=r) (x:=ss.getD s []) fun m hm=>(h.lead _ (stIn hm).1 m hm).1).1 (by omega)
 obtain ⟨m,hm,rfl⟩:=List.mem_map.1 hin
 rw [toI_mem (h.asc _ (stIn hm).1) hm]
 exact h.to hm
def ClF (aa bb:List (List (List Int))) (Q:Pq) (p:Nat × Nat):Prop:=∀ m∈bb.getD p.1 [],0≤toI (rdOf m) (aa.getD p.2 [])∧(mvTo m,(toI (rdOf m) (aa.getD p.2 [])).toNat)∈Q
def ClE (aa bb:List (List (List Int))) (Q:Pq) (p:Nat × Nat):Prop:=(aa.getD p.1 []).map rdOf=(bb.getD p.2 []).map rdOf∧∀ i,i < (aa.getD p.1 []).length→(mvTo ((aa.getD p.1 []).getD i []),mvTo ((bb.getD p.2 []).getD i []))∈Q
inductive ReP (aa bb:List (List (List Int))):Nat × Nat→Prop
 | zero:ReP aa bb (0,0)
 | step {s t:Nat} {m m':List Int}:ReP aa bb (s,t)→m∈aa.getD s []→m'∈bb.getD t []→rdOf m=rdOf m'→ReP aa bb (mvTo m,mvTo m')
theorem ReP.word (ha:WfS aa) (hb:WfS bb) {p:Nat × Nat} (h:ReP aa bb p):∃ u:List (List Int),∀ w,(alw aa (u++w) 0↔alw aa w p.1)∧(alw bb (u++w) 0↔alw bb w p.2):=by
 induction h with
 | zero=>exact ⟨[],fun w=>⟨Iff.rfl,Iff.rfl⟩⟩
 | @step s t m m' _ hm hm' e ih=>
  obtain ⟨u,hu⟩:=ih
  refine ⟨u ++ [rdOf m],fun w=>?_⟩
  rw [List.append_assoc]
  constructor
  ·rw [(hu _).1]; exact alw_cons_mem ha.asc ha.lead hm
  ·rw [(hu _).2,e]; exact alw_cons_mem hb.asc hb.lead hm'
theorem fsIn_spec (hb:WfS bb) (ha:WfS aa) {s t:Nat} {k:Pq→Option Bool}:∀ (ms:List (List Int)) (Q:Pq) {R:Bool},(∀ m∈ms,m∈bb.getD s [])→(ReP aa bb (t,s))→(∀ p∈Q,ReP aa bb (p.2,p.1))→fsIn aa t k ms Q=some R→
  (R=true→(∃ m∈ms,toI (rdOf m) (aa.getD t []) < 0)∨∃ T,(∀ p∈Q++T,ReP aa bb (p.2,p.1))∧k (Q++T)=some true)∧
  (R=false→∃ T,(∀ p∈Q++T,ReP aa bb (p.2,p.1))∧k (Q++T)=some false∧∀ m∈ms,0≤toI (rdOf m) (aa.getD t [])∧(mvTo m,(toI (rdOf m) (aa.getD t [])).toNat)∈Q++T)
 | [],Q,R,_,_,hQ,h=>by
  rw [fsIn] at h
  refine ⟨fun e=>.inr ⟨[],by simpa using hQ,by rw [List.append_nil,h,e]⟩,fun e=>⟨[],by simpa using hQ,by rw [List.append_nil,h,e],fun m hm=>by cases hm⟩⟩
 | m::ms,Q,R,hm,hr,hQ,h=>by
  rw [fsIn] at h
  split at h
  ·rename_i hlt
   injection h with h
   subst h
   exact ⟨fun _=>.inl ⟨m,by simp,hlt⟩,fun e=>by cases e⟩
  ·rename_i hlt
   obtain ⟨T0,hT0⟩:=pushP_pre Q (mvTo m,(toI (rdOf m) (aa.getD t [])).toNat)
   have hmm:=hm m (by simp)
   have hin:=(toI_in (r:=rdOf m) (x:=aa.getD t []) fun x hx=>(ha.lead _ (stIn hx).1 x hx).1).1 (by omega)
   obtain ⟨m',hm',he⟩:=List.mem_map.1 hin
   have hto:toI (rdOf m) (aa.getD t [])=m'.getD 7 0:=by rw [← he]; exact toI_mem (ha.asc _ (stIn hm').1) hm'
   have hnew:ReP aa bb ((toI (rdOf m) (aa.getD t [])).toNat,mvTo m):=by
    rw [hto]; exact ReP.step hr hm' hmm he
   have hQ':∀ p∈pushP Q (mvTo m,(toI (rdOf m) (aa.getD t [])).toNat),ReP aa bb (p.2,p.1):=fun p hp=>by
    rcases pushP_mem.1 hp with hp | rfl
    ·exact hQ p hp
    ·exact hnew
   obtain ⟨i1,i2⟩:=fsIn_spec hb ha ms _ (fun x hx=>hm x (by simp [hx])) hr hQ' h
   rw [hT0] at i1 i2
   refine ⟨fun e=>?_,fun e=>?_⟩
   ·rcases i1 e with ⟨x,hx,h1⟩ | ⟨T,h1,h2⟩
    ·exact .inl ⟨x,by simp [hx],h1⟩
    ·exact .inr ⟨T0++T,by rw [← List.append_assoc]; exact h1,by rw [← List.append_assoc]; exact h2⟩
   ·obtain ⟨T,h1,h2,h3⟩:=i2 e
    refine ⟨T0++T,by rw [← List.append_assoc]; exact h1,by rw [← List.append_assoc]; exact h2,fun x hx=>?_⟩
    rw [← List.append_assoc]
    rcases List.mem_cons.1 hx with rfl | hx
    ·refine ⟨by omega,List.mem_append_left _ ?_⟩
     rw [← hT0]; exact pushP_mem.2 (.inr rfl)
    ·exact h3 x hx
theorem fsGo_spec (hb:WfS bb) (ha:WfS aa):∀ (f n:Nat) (Q:Pq) {R:Bool},(∀ p∈Q,ReP aa bb (p.2,p.1))→n≤Q.length→fsGo aa bb f n Q=some R→
  (R=true→∃ s t m,ReP aa bb (t,s)∧m∈bb.getD s []∧toI (rdOf m) (aa.getD t []) < 0)∧
  (R=false→∃ T,∀ i,n≤i→i < (Q++T).length→ClF aa bb (Q++T) ((Q++T).getD i (0,0)))
 | 0,_,_,_,_,_,h=>by cases h
 | f+1,n,Q,R,hQ,hn,h=>by
  rw [fsGo] at h
  split at h
  ·rename_i hlt
   have hp:Q.getD n (0,0)∈Q:=by rw [getD_eq hlt]; exact List.getElem_mem hlt
   obtain ⟨i1,i2⟩:=fsIn_spec hb ha _ Q (fun m hm=>hm) (hQ _ hp) hQ h
   refine ⟨fun e=>?_,fun e=>?_⟩
   ·rcases i1 e with ⟨m,hm,h1⟩ | ⟨T,h1,h2⟩
    ·exact ⟨_,_,m,hQ _ hp,hm,h1⟩
    ·exact (fsGo_spec hb ha f (n+1) (Q++T) h1 (by rw [List.length_append]; omega) h2).1 rfl
   ·obtain ⟨T,h1,h2,h3⟩:=i2 e
    obtain ⟨U,hU⟩:=(fsGo_spec hb ha f (n+1) (Q++T) h1 (by rw [List.length_append]; omega) h2).2 rfl
    refine ⟨T++U,fun i hi1 hi2=>?_⟩
    rw [← List.append_assoc] at hi2 ⊢
    by_cases e:i=n
    ·subst e
     intro m hm
     rw [List.append_assoc,getD_app2 hlt] at hm ⊢
     obtain ⟨q1,q2⟩:=h3 m hm
     exact ⟨q1,by rw [← List.append_assoc]; exact List.mem_append_left _ q2⟩
    ·exact hU i (by omega) hi2
  ·injection h with h
   subst h
   exact ⟨fun e=>(by cases e),fun _=>⟨[],fun i h1 h2=>absurd h2 (by rw [List.append_nil]; omega)⟩⟩
theorem clF_alw (hb:WfS bb) {Q:Pq} (hQ:∀ p∈Q,ClF aa bb Q p):∀ (w:List (List Int)) (p:Nat × Nat),p∈Q→alw bb w p.1→alw aa w p.2
 | [],_,_,_=>trivial
 | r::w,p,hp,h=>by
  obtain ⟨m,hm,rfl,h2⟩:=alw_cons_some h
  obtain ⟨q1,q2⟩:=hQ p hp m hm
  exact ⟨q1,clF_alw hb hQ w _ q2 h2⟩
def inW (aa bb:List (List (List Int))):Prop:=∀ w,alw bb w 0→alw aa w 0
def eqW (aa bb:List (List (List Int))):Prop:=∀ w,alw aa w 0↔alw bb w 0
theorem fs_iff (hb:WfS bb) (ha:WfS aa) {f:Nat} {R:Bool} (h:fsGo aa bb f 0 [(0,0)]=some R):R=false↔inW aa bb:=by
 obtain ⟨h1,h2⟩:=fsGo_spec hb ha f 0 [(0,0)] (fun p hp=>by rw [List.mem_singleton] at hp; subst hp; exact .zero) (Nat.zero_le _) h
 constructor
 ·intro e w hw
  obtain ⟨T,hT⟩:=h2 e
  refine clF_alw hb (Q:=[(0,0)]++T) (fun p hp=>?_) w (0,0) (by simp) hw
  obtain ⟨i,hi,rfl⟩:=List.mem_iff_getElem.1 hp
  have:=hT i (Nat.zero_le _) hi
  rwa [getD_eq hi] at this
 ·intro hi
  cases R with
  | false=>rfl
  | true=>
   obtain ⟨s,t,m,hr,hm,hlt⟩:=h1 rfl
   obtain ⟨u,hu⟩:=hr.word ha hb
   have:=(hu [rdOf m]).1.1 (hi _ ((hu [rdOf m]).2.2 ((alw_cons_mem hb.asc hb.lead hm).2 trivial)))
   exact absurd this.1 (by show ¬ _≤toI (rdOf m) (aa.getD t []); omega)
theorem esIn_spec {s t:Nat} {k:Pq→Option Bool}:∀ (x y:List (List Int)) (Q:Pq) {R:Bool},(∀ m∈x,m∈aa.getD s [])→(∀ m∈y,m∈bb.getD t [])→ReP aa bb (s,t)→(∀ p∈Q,ReP aa bb p)→esIn k x y Q=some R→
  (R=true→x.map rdOf ≠ y.map rdOf∨∃ T,(∀ p∈Q++T,ReP aa bb p)∧k (Q++T)=some true)∧
  (R=false→∃ T,(∀ p∈Q++T,ReP aa bb p)∧k (Q++T)=some false∧x.map rdOf=y.map rdOf∧∀ i,i < x.length→(mvTo (x.getD i []),mvTo (y.getD i []))∈Q++T)
 | [],[],Q,R,_,_,_,hQ,h=>by
  rw [esIn] at h
  exact ⟨fun e=>.inr ⟨[],by simpa using hQ,by rw [List.append_nil,h,e]⟩,fun e=>⟨[],by simpa using hQ,by rw [List.append_nil,h,e],rfl,fun i hi=>absurd hi (Nat.not_lt_zero _)⟩⟩
 | [],m'::y,Q,R,_,_,_,_,h=>by
  rw [esIn] at h
  injection h with h
  subst h
  exact ⟨fun _=>.inl (by simp),fun e=>by cases e⟩
 | m::x,[],Q,R,_,_,_,_,h=>by
  rw [esIn] at h
  injection h with h
  subst h
  exact ⟨fun _=>.inl (by simp),fun e=>by cases e⟩
 | m::x,m'::y,Q,R,hx,hy,hr,hQ,h=>by
  rw [esIn] at h
  split at h
  ·rename_i he
   obtain ⟨T0,hT0⟩:=pushP_pre Q (mvTo m,mvTo m')
   have hQ':∀ p∈pushP Q (mvTo m,mvTo m'),ReP aa bb p:=fun p hp=>by
    rcases pushP_mem.1 hp with hp | rfl
    ·exact hQ p hp
    ·exact ReP.step hr (hx m (by simp)) (hy m' (by simp)) he
   obtain ⟨i1,i2⟩:=esIn_spec x y _ (fun z hz=>hx z (by simp [hz])) (fun z hz=>hy z (by simp [hz])) hr hQ' h
   rw [hT0] at i1 i2
   refine ⟨fun e=>?_,fun e=>?_⟩
   ·rcases i1 e with h1 | ⟨T,h1,h2⟩
    ·refine .inl fun h3=>h1 ?_
     rw [List.map_cons,List.map_cons] at h3
     injection h3
    ·exact .inr ⟨T0++T,by rw [← List.append_assoc]; exact h1,by rw [← List.append_assoc]; exact h2⟩
   ·obtain ⟨T,h1,h2,h3,h4⟩:=i2 e
    refine ⟨T0++T,by rw [← List.append_assoc]; exact h1,by rw [← List.append_assoc]; exact h2,by rw [List.map_cons,List.map_cons,he,h3],fun i hi=>?_⟩
    rw [← List.append_assoc]
    cases i with
    | zero=>exact List.mem_append_left _ (by rw [← hT0]; exact pushP_mem.2 (.inr rfl))
    | succ i=>exact h4 i (by simpa using hi)
  ·rename_i he
   injection h with h
   subst h
   refine ⟨fun _=>.inl fun h3=>he ?_,fun e=>by cases e⟩
   rw [List.map_cons,List.map_cons] at h3
   injection h3
theorem esGo_spec:∀ (f n:Nat) (Q:Pq) {R:Bool},(∀ p∈Q,ReP aa bb p)→n≤Q.length→esGo aa bb f n Q=some R→
  (R=true→∃ s t,ReP aa bb (s,t)∧(aa.getD s []).map rdOf ≠ (bb.getD t []).map rdOf)∧
  (R=false→∃ T,∀ i,n≤i→i < (Q++T).length→ClE aa bb (Q++T) ((Q++T).getD i (0,0)))
 | 0,_,_,_,_,_,h=>by cases h
 | f+1,n,Q,R,hQ,hn,h=>by
  rw [esGo] at h
  split at h
  ·rename_i hlt
   have hp:Q.getD n (0,0)∈Q:=by rw [getD_eq hlt]; exact List.getElem_mem hlt
   obtain ⟨i1,i2⟩:=esIn_spec (s:=(Q.getD n (0,0)).1) (t:=(Q.getD n (0,0)).2) _ _ Q (fun m hm=>hm) (fun m hm=>hm) (hQ _ hp) hQ h
   refine ⟨fun e=>?_,fun e=>?_⟩
   ·rcases i1 e with h1 | ⟨T,h1,h2⟩
    ·exact ⟨_,_,hQ _ hp,h1⟩
    ·exact (esGo_spec f (n+1) (Q++T) h1 (by rw [List.length_append]; omega) h2).1 rfl
   ·obtain ⟨T,h1,h2,h3,h4⟩:=i2 e
    obtain ⟨U,hU⟩:=(esGo_spec f (n+1) (Q++T) h1 (by rw [List.length_append]; omega) h2).2 rfl
    refine ⟨T++U,fun i hi1 hi2=>?_⟩
    rw [← List.append_assoc] at hi2 ⊢
    by_cases e:i=n
    ·subst e
     rw [List.append_assoc,getD_app2 hlt]
     exact ⟨h3,fun i hi=>by rw [← List.append_assoc]; exact List.mem_append_left _ (h4 i hi)⟩
    ·exact hU i (by omega) hi2
  ·injection h with h
   subst h
   exact ⟨fun e=>(by cases e),fun _=>⟨[],fun i h1 h2=>absurd h2 (by rw [List.append_nil]; omega)⟩⟩
theorem clE_alw (ha:WfS aa) (hb:WfS bb) {Q:Pq} (hQ:∀ p∈Q,ClE aa bb Q p):∀ (w:List (List Int)) (p:Nat × Nat),p∈Q→(alw aa w p.1↔alw bb w p.2)
 | [],_,_=>Iff.rfl
 | r::w,p,hp=>by
  obtain ⟨h1,h2⟩:=hQ p hp
  have hlen:(aa.getD p.1 []).length=(bb.getD p.2 []).length:=by have:=congrArg List.length h1; simpa using this
  have hat:∀ i,(hi:i < (aa.getD p.1 []).length)→rdOf ((aa.getD p.1 [])[i])=rdOf ((bb.getD p.2 [])[i]'(by omega)):=fun i hi=>by
   have:=congrArg (fun l=>l[i]?) h1
   simp only [List.getElem?_map] at this
   rw [List.getElem?_eq_getElem hi,List.getElem?_eq_getElem (show i < (bb.getD p.2 []).length by omega)] at this
   simpa using this
  have key:∀ i,(hi:i < (aa.getD p.1 []).length)→(alw aa w (mvTo ((aa.getD p.1 [])[i]))↔alw bb w (mvTo ((bb.getD p.2 [])[i]'(by omega)))):=fun i hi=>by
   have:=h2 i hi
   rw [getD_eq hi,getD_eq (show i < (bb.getD p.2 []).length by omega)] at this
   exact clE_alw ha hb hQ w _ this
  constructor
  ·intro h
   obtain ⟨m,hm,rfl,h3⟩:=alw_cons_some h
   obtain ⟨i,hi,rfl⟩:=List.mem_iff_getElem.1 hm
   rw [hat i hi]
   exact (alw_cons_mem hb.asc hb.lead (List.getElem_mem _)).2 ((key i hi).1 h3)
  ·intro h
   obtain ⟨m,hm,rfl,h3⟩:=alw_cons_some h
   obtain ⟨i,hi,rfl⟩:=List.mem_iff_getElem.1 hm
   have hi':i < (aa.getD p.1 []).length:=by omega
   rw [← hat i hi']
   exact (alw_cons_mem ha.asc ha.lead (List.getElem_mem _)).2 ((key i hi').2 h3)
theorem es_iff (hb:WfS bb) (ha:WfS aa) {f:Nat} {R:Bool} (h:esGo aa bb f 0 [(0,0)]=some R):R=false↔eqW aa bb:=by
 obtain ⟨h1,h2⟩:=esGo_spec f 0 [(0,0)] (fun p hp=>by rw [List.mem_singleton] at hp; subst hp; exact .zero) (Nat.zero_le _) h
 constructor
 ·intro e w
  obtain ⟨T,hT⟩:=h2 e
  refine clE_alw ha hb (Q:=[(0,0)]++T) (fun p hp=>?_) w (0,0) (by simp)
  obtain ⟨i,hi,rfl⟩:=List.mem_iff_getElem.1 hp
  have:=hT i (Nat.zero_le _) hi
  rwa [getD_eq hi] at this
 ·intro hi
  cases R with
  | false=>rfl
  | true=>
   obtain ⟨s,t,hr,hne⟩:=h1 rfl
   obtain ⟨u,hu⟩:=hr.word ha hb
   refine absurd ?_ hne
   have asc:∀ {ss:List (List (List Int))},WfS ss→∀ s,AscL ((ss.getD s []).map rdOf):=fun {ss} h s=>by
    rcases Nat.lt_or_ge s ss.length with h1 | h1
    ·exact h.asc _ (by rw [getD_eq h1]; exact List.getElem_mem h1)
    ·rw [List.getD_eq_getElem?_getD,List.getElem?_eq_none h1]; exact List.Pairwise.nil
   refine asc_unique (asc ha s) (asc hb t) fun r=>?_
   have h3:alw aa [r] s↔alw bb [r] t:=((hu [r]).1.symm.trans (hi _)).trans (hu [r]).2
   simp only [alw,and_true] at h3
   rw [toI_in fun m hm=>(ha.lead _ (stIn hm).1 m hm).1,toI_in fun m hm=>(hb.lead _ (stIn hm).1 m hm).1] at h3
   exact h3
theorem nat_nodup:∀ (n:Nat) (l:List Nat),l.Nodup→(∀ k∈l,k < n)→l.length≤n
 | 0,[],_,_=>Nat.le_refl _
 | 0,a::_,_,h=>absurd (h a (by simp)) (by omega)
 | n+1,l,h1,h2=>by
  have h3:=nat_nodup n (l.erase n) (h1.erase _) fun k hk=>by
   have e:=h2 k (List.mem_of_mem_erase hk)
   have:k ≠ n:=fun e=>by subst e; exact (List.Nodup.not_mem_erase h1) hk
   omega
  rw [List.length_erase] at h3
  split at h3 <;> omega
def PqOK (A B:Nat) (Q:Pq):Prop:=Q.Nodup∧∀ p∈Q,p.1 < A∧p.2 < B
theorem PqOK.len {A B:Nat} {Q:Pq} (h:PqOK A B Q):Q.length≤A * B:=by
 obtain ⟨h1,h2⟩:=h
 have hn:(Q.map fun p=>p.1 * B+p.2).Nodup:=by
  rw [List.Nodup,List.pairwise_map]
  refine List.Pairwise.imp_of_mem (fun {a b} ha hb hab e=>hab ?_) h1
  obtain ⟨_,a2⟩:=h2 a ha
  obtain ⟨_,b2⟩:=h2 b hb
  have e1:a.2=b.2:=by
   have:=congrArg (· % B) e
   simpa [Nat.mul_comm,Nat.mul_add_mod,Nat.mod_eq_of_lt a2,Nat.mod_eq_of_lt b2] using this
  have e2:a.1=b.1:=Nat.eq_of_mul_eq_mul_right (by omega) (by omega:a.1 * B=b.1 * B)
  exact Prod.ext e2 e1
 have hlt:∀ k∈Q.map (fun p=>p.1 * B+p.2),k < A * B:=fun k hk=>by
  obtain ⟨p,hp,rfl⟩:=List.mem_map.1 hk
  obtain ⟨p1,p2⟩:=h2 p hp
  calc p.1 * B+p.2 < p.1 * B+B:=by omega
   _=(p.1+1) * B:=by rw [Nat.succ_mul]
   _≤A * B:=Nat.mul_le_mul_right _ p1
 have:=(nat_nodup _ _ hn hlt)
 rwa [List.length_map] at this
theorem PqOK.push {A B:Nat} {Q:Pq} (h:PqOK A B Q) {y:Nat × Nat} (h1:y.1 < A) (h2:y.2 < B):PqOK A B (pushP Q y):=
 ⟨pushP_nodup h.1,fun p hp=>by
  rcases pushP_mem.1 hp with hp | rfl
  ·exact h.2 p hp
  ·exact ⟨h1,h2⟩⟩
theorem fsIn_some (ha:WfS aa) (hb:WfS bb) {s t:Nat} {k:Pq→Option Bool}:∀ (ms:List (List Int)) (Q:Pq),(∀ m∈ms,m∈bb.getD s [])→PqOK bb.length aa.length Q→(∀ Q',PqOK bb.length aa.length Q'→Q.length≤Q'.length→∃ R,k Q'=some R)→∃ R,fsIn aa t k ms Q=some R
 | [],Q,_,hQ,hk=>by rw [fsIn]; exact hk Q hQ (Nat.le_refl _)
 | m::ms,Q,hm,hQ,hk=>by
  rw [fsIn]
  split
  ·exact ⟨true,rfl⟩
  ·rename_i hlt
   obtain ⟨T,hT⟩:=pushP_pre Q (mvTo m,(toI (rdOf m) (aa.getD t [])).toNat)
   refine fsIn_some ha hb ms _ (fun x hx=>hm x (by simp [hx])) (hQ.push (hb.to (hm m (by simp))) (ha.toLt hlt)) fun Q' h1 h2=>hk Q' h1 ?_
   rw [hT,List.length_append] at h2; omega
theorem fsGo_some (ha:WfS aa) (hb:WfS bb):∀ (f n:Nat) (Q:Pq),PqOK bb.length aa.length Q→bb.length * aa.length+1≤n+f→n≤Q.length→∃ R,fsGo aa bb f n Q=some R
 | 0,n,Q,hQ,h,hn=>by have:=hQ.len; omega
 | f+1,n,Q,hQ,h,hn=>by
  rw [fsGo]
  split
  ·exact fsIn_some ha hb _ Q (fun m hm=>hm) hQ fun Q' h1 h2=>fsGo_some ha hb f (n+1) Q' h1 (by omega) (by omega)
  ·exact ⟨false,rfl⟩
theorem esIn_some (ha:WfS aa) (hb:WfS bb) {s t:Nat} {k:Pq→Option Bool}:∀ (x y:List (List Int)) (Q:Pq),(∀ m∈x,m∈aa.getD s [])→(∀ m∈y,m∈bb.getD t [])→PqOK aa.length bb.length Q→(∀ Q',PqOK aa.length bb.length Q'→Q.length≤Q'.length→∃ R,k Q'=some R)→∃ R,esIn k x y Q=some R
 | [],[],Q,_,_,hQ,hk=>by rw [esIn]; exact hk Q hQ (Nat.le_refl _)
 | [],_::_,_,_,_,_,_=>⟨true,rfl⟩
 | _::_,[],_,_,_,_,_=>⟨true,rfl⟩
 | m::x,m'::y,Q,hx,hy,hQ,hk=>by
  rw [esIn]
  split
  ·obtain ⟨T,hT⟩:=pushP_pre Q (mvTo m,mvTo m')
   refine esIn_some ha hb x y _ (fun z hz=>hx z (by simp [hz])) (fun z hz=>hy z (by simp [hz])) (hQ.push (ha.to (hx m (by simp))) (hb.to (hy m' (by simp)))) fun Q' h1 h2=>hk Q' h1 ?_
   rw [hT,List.length_append] at h2; omega
  ·exact ⟨true,rfl⟩
theorem esGo_some (ha:WfS aa) (hb:WfS bb):∀ (f n:Nat) (Q:Pq),PqOK aa.length bb.length Q→aa.length * bb.length+1≤n+f→n≤Q.length→∃ R,esGo aa bb f n Q=some R
 | 0,n,Q,hQ,h,hn=>by have:=hQ.len; omega
 | f+1,n,Q,hQ,h,hn=>by
  rw [esGo]
  split
  ·exact esIn_some ha hb _ _ Q (fun m hm=>hm) (fun m hm=>hm) hQ fun Q' h1 h2=>esGo_some ha hb f (n+1) Q' h1 (by omega) (by omega)
  ·exact ⟨false,rfl⟩
end
end Go.Proofs.YtmikofeildnpdaaGreat

/- Sorted lists: what is inserted from behind, and what is sorted. Plain lists. -/
namespace Go.Proofs.YtmikofeildnpdaaGreat
def bkK {α:Type} (cmp:α→α→Int) (d x:α) (l:List α):Nat→Nat
 | 0=>0
 | k+1=>if cmp x (l.getD k d) < 0 then bkK cmp d x l k else k+1
def insB {α:Type} (cmp:α→α→Int) (d x:α) (l:List α):List α:=l.take (bkK cmp d x l l.length)++x::l.drop (bkK cmp d x l l.length)
def srtB {α:Type} (cmp:α→α→Int) (d:α) (l:List α):List α:=l.foldl (fun o x=>insB cmp d x o) []
structure WeakO {α:Type} (cmp:α→α→Int):Prop where
 asymm:∀ a b,cmp a b < 0→¬ cmp b a < 0
 ntrans:∀ a b c,¬ cmp a b < 0→¬ cmp b c < 0→¬ cmp a c < 0
def SrtG {α:Type} (cmp:α→α→Int) (l:List α):Prop:=l.Pairwise fun a b=>¬ cmp b a < 0
section
variable {α:Type} {cmp:α→α→Int} {d x:α}
theorem bkK_le (l:List α):∀ k,bkK cmp d x l k≤k
 | 0=>Nat.le_refl _
 | k+1=>by
  rw [bkK]
  split
  ·have:=bkK_le l k; omega
  ·exact Nat.le_refl _
theorem bkK_gt (l:List α):∀ k j,bkK cmp d x l k≤j→j < k→cmp x (l.getD j d) < 0
 | 0,_,_,h=>absurd h (by omega)
 | k+1,j,h1,h2=>by
  rw [bkK] at h1
  split at h1
  ·rename_i h
   by_cases e:j=k
   ·subst e; exact h
   ·exact bkK_gt l k j h1 (by omega)
  ·omega
theorem bkK_at (l:List α):∀ k p,bkK cmp d x l k=p+1→¬ cmp x (l.getD p d) < 0
 | 0,p,h=>by rw [bkK] at h; omega
 | k+1,p,h=>by
  rw [bkK] at h
  split at h
  ·exact bkK_at l k p h
  ·rename_i h1
   obtain rfl:k=p:=by omega
   exact h1
theorem insB_perm (l:List α):(insB cmp d x l).Perm (x::l):=by
 unfold insB
 refine List.perm_middle.trans ?_
 rw [List.take_append_drop]
theorem insB_sorted (hO:WeakO cmp) {l:List α} (h:SrtG cmp l):SrtG cmp (insB cmp d x l):=by
 obtain ⟨K,hK⟩:=exE (bkK cmp d x l l.length)
 have hKl:K≤l.length:=by rw [← hK]; exact bkK_le l l.length
 unfold insB
 rw [hK]
 have hlo:∀ a∈l.take K,¬ cmp x a < 0:=fun a ha=>by
  obtain ⟨i,hi,rfl⟩:=List.mem_iff_getElem.1 ha
  rw [List.length_take] at hi
  obtain ⟨p,rfl⟩:∃ p,K=p+1:=⟨K - 1,by omega⟩
  have h1:=bkK_at l l.length p hK
  rw [List.getElem_take]
  rw [List.getD_eq_getElem?_getD,List.getElem?_eq_getElem (by omega)] at h1
  by_cases e:i=p
  ·subst e; exact h1
  ·exact hO.ntrans _ _ _ h1 ((List.pairwise_iff_getElem.1 h) i p (by omega) (by omega) (by omega))
 have hhi:∀ b∈l.drop K,cmp x b < 0:=fun b hb=>by
  obtain ⟨i,hi,rfl⟩:=List.mem_iff_getElem.1 hb
  rw [List.length_drop] at hi
  have:=bkK_gt (cmp:=cmp) (d:=d) (x:=x) l l.length (K+i) (by rw [hK]; omega) (by omega)
  rw [List.getElem_drop]
  rwa [List.getD_eq_getElem?_getD,List.getElem?_eq_getElem (by omega)] at this
 rw [SrtG,List.pairwise_append,List.pairwise_cons]
 refine ⟨List.Pairwise.sublist (List.take_sublist _ _) h,⟨fun b hb=>hO.asymm _ _ (hhi b hb),List.Pairwise.sublist (List.drop_sublist _ _) h⟩,fun a ha b hb=>?_⟩
 rcases List.mem_cons.1 hb with rfl | hb
 ·exact hlo a ha
 ·intro hc
  exact hO.ntrans _ _ _ (hO.asymm _ _ (hhi b hb)) (hlo a ha) hc
theorem srtB_go (hO:WeakO cmp):∀ (l o:List α),SrtG cmp o→(l.foldl (fun o x=>insB cmp d x o) o).Perm (o++l)∧SrtG cmp (l.foldl (fun o x=>insB cmp d x o) o)
 | [],o,h=>⟨by simp,h⟩
 | x::l,o,h=>by
  obtain ⟨h1,h2⟩:=srtB_go hO l (insB cmp d x o) (insB_sorted hO h)
  rw [List.foldl_cons]
  refine ⟨h1.trans ?_,h2⟩
  refine ((insB_perm o).append_right l).trans ?_
  exact List.perm_middle.symm
theorem srtB_perm (hO:WeakO cmp) (l:List α):(srtB cmp d l).Perm l:=by
 have:=(srtB_go (d:=d) hO l [] (by simp [SrtG])).1
 simpa [srtB] using this
theorem srtB_sorted (hO:WeakO cmp) (l:List α):SrtG cmp (srtB cmp d l):=(srtB_go (d:=d) hO l [] (by simp [SrtG])).2
theorem srtB_uniq (hO:WeakO cmp) {l m:List α} (hp:m.Perm l) (hs:SrtG cmp m) (ha:∀ a∈l,∀ b∈l,¬ cmp a b < 0→¬ cmp b a < 0→a=b):m=srtB cmp d l:=by
 refine List.Perm.eq_of_pairwise (le:=fun a b=>¬ cmp b a < 0) (fun a b h1 h2 h3 h4=>?_) hs (srtB_sorted hO l) (hp.trans (srtB_perm hO l).symm)
 exact ha a (hp.mem_iff.1 h1) b ((srtB_perm hO l).mem_iff.1 h2) h4 h3
theorem srtB_id (hO:WeakO cmp) {l:List α} (hs:SrtG cmp l) (ha:∀ a∈l,∀ b∈l,¬ cmp a b < 0→¬ cmp b a < 0→a=b):srtB cmp d l=l:=(srtB_uniq hO (List.Perm.refl l) hs ha).symm
theorem srtB_len (hO:WeakO cmp) (l:List α):(srtB cmp d l).length=l.length:=(srtB_perm hO l).length_eq
theorem srtB_mem (hO:WeakO cmp) (l:List α) {z:α}:z∈srtB cmp d l↔z∈l:=(srtB_perm hO l).mem_iff
end
theorem weakL:WeakO cmpL:=⟨cmpL_asymm,cmpL_ntrans⟩
theorem cmpL_anti {a b:List Int} (h1 : ¬ cmpL a b < 0) (h2 : ¬ cmpL b a < 0):a=b:=by
 rcases cmpL_total a b with h | h | h
 ·exact absurd h h1
 ·exact h
 ·exact absurd h h2
def cmpM (m m':List Int):Int:=cmpL (rdOf m) (rdOf m')
theorem weakM:WeakO cmpM:=⟨fun _ _ h=>cmpL_asymm _ _ h,fun _ _ _ h k=>cmpL_ntrans _ _ _ h k⟩
end Go.Proofs.YtmikofeildnpdaaGreat

/- Texts of this claim, put together: Lf Lg QO QN QT ZE ZI RA RD RE RF QM ZD. -/
import Derived.Test.YtmikofeildnpdaaGreatKZq
import Derived.Test.YtmikofeildnpdaaGreatKZr
import Derived.Test.YtmikofeildnpdaaGreatKZp
import Derived.Deep.Cut

set_option maxRecDepth 100000
set_option maxHeartbeats 12800000
namespace Go.Proofs.YtmikofeildnpdaaGreat
open Go.RowKit
theorem inverseP {n:Nat}(h1:1≤n) (h5:n≤5) {w:World}{u:Value}{a:List Int}(ha:IsP n a) (h:Ints w u a):Calls Tryz.prog 33 #[u] w (RI w (backL a) 0):=by
 have:=inverse h
 rwa [invL,if_pos (chk_of h1 h5 ha),chk_of h1 h5 ha] at this
end Go.Proofs.YtmikofeildnpdaaGreat
namespace Go.Proofs.YtmikofeildnpdaaGreat
structure Grp (n:Nat) (G:List (List Int)):Prop where
 nodup:G.Nodup
 isP:∀y∈G,IsP n y
 one:oneL n∈G
 mul:∀y∈G,∀z∈G,timesL y z∈G
theorem closure_grp {n:Nat}(_hn:n≤5) {l G:List (List Int)}(hl:∀a∈l,IsP n a) (hG:clGo l 3126 0 [oneL n]=some G) (hI:InvG n G):Grp n G∧∀a∈l,a∈G:=by
 obtain⟨h1,h2⟩:=clGo_sub hG (by intro j hj;omega);have hone:oneL n∈G:=h1 _ (by simp)
 have hmul:∀y∈G,∀z∈G,timesL y z∈G:=by
  have key:∀y∈G,IsP n y∧∀z∈G,timesL y z∈G:=by
   refine clGo_all (Q:=fun y=>IsP n y∧∀z∈G,timesL y z∈G) ?_ ?_ hG
   ·rintro a ha y ⟨k1,k2⟩;refine⟨(hl a ha).times k1,fun z hz=>?_⟩;rw[times_assoc k1.1 (hI.2 z hz)];exact h2 _ (k2 z hz) a ha
   ·intro y hy;rw[List.mem_singleton.1 hy];exact⟨IsP.one n,fun z hz=>by rw[times_one (hI.2 z hz)];exact hz⟩
  exact fun y hy=>(key y hy).2
 refine⟨⟨hI.1,hI.2,hone,hmul⟩,fun a ha=>?_⟩;have:=h2 _ hone a ha
 rwa [one_times (hl a ha)] at this
theorem times_inj {n:Nat}(h1:1≤n) (h5:n≤5) {x y z:List Int}(hx:IsP n x) (hy:IsP n y) (hz:IsP n z) (h:timesL x y=timesL x z):y=z:=by
 have hc:=chk_of h1 h5 hx;obtain⟨k1,_,_⟩:=back_left hc;have e1:=times_assoc (a:=backL x) hx.1 hy;have e2:=times_assoc (a:=backL x) hx.1 hz;rw[k1,hx.1] at e1 e2;rw[times_one hy] at e1;rw[times_one hz] at e2;rw[e1,h,←e2]
theorem nodup_maps {f:List Int→List Int}:∀ {l:List (List Int)},l.Nodup→(∀x∈l,∀y∈l,f x=f y→x=y)→(l.map f).Nodup
 | [],_,_=>by simp
 | x::l,h,hf=>by
  rw[List.nodup_cons] at h;rw[List.map_cons,List.nodup_cons];refine⟨fun hm=>?_,nodup_maps h.2 fun a ha b hb=>hf a (by simp[ha]) b (by simp[hb])⟩;obtain⟨y,hy,e⟩:=List.mem_map.1 hm;rw[hf y (by simp[hy]) x (by simp) e] at hy;exact h.1 hy
theorem Grp.inv {n:Nat}(h1:1≤n) (h5:n≤5) {G:List (List Int)}(hG:Grp n G) {y:List Int}(hy:y∈G):backL y∈G:=by
 have hyP:=hG.isP y hy;have hc:=chk_of h1 h5 hyP
 have hm:oneL n∈G.map (timesL y):=by
  by_cases h:oneL n∈G.map (timesL y)
  ·exact h
  ·have hnd:(G.map (timesL y)).Nodup:=nodup_maps hG.nodup fun a ha b hb e=>times_inj h1 h5 hyP (hG.isP a ha) (hG.isP b hb) e
   have:(oneL n::G.map (timesL y)).length≤G.length:=nodup_le (List.nodup_cons.2 ⟨h,hnd⟩) fun x hx=>by
    rcases List.mem_cons.1 hx with rfl|hx
    ·exact hG.one
    ·obtain⟨z,hz,rfl⟩:=List.mem_map.1 hx;exact hG.mul y hy z hz
   rw[List.length_cons,List.length_map] at this;omega
 obtain⟨z,hz,e⟩:=List.mem_map.1 hm;obtain⟨k1,k2,k3⟩:=back_left hc;have hB:IsP n (backL y):=by have:=chk_isP k3;rwa [show(backL y).length=n by rw[backL,movedL_length,hyP.1]] at this
 have:z=backL y:=times_inj h1 h5 hyP (hG.isP z hz) hB (by rw[e,k2,hyP.1])
 rwa [←this]
theorem every_nodup (n:Nat) (hn:n≤5):(everyL n).Nodup:=
 (every_sorted n hn).imp fun {a b} h e=>by subst e;exact cmpL_asymm _ _ h h
end Go.Proofs.YtmikofeildnpdaaGreat
namespace Go.Proofs.YtmikofeildnpdaaGreat
open Go.RowKit
theorem OII.get {w:World}{B n gb c:Nat}{xss:List (List Int)}(h:OII w B (.slice (some ⟨gb,0,none⟩) n c) n xss) {j:Nat}(hj:j < n):∃u,w.cell? ⟨gb,j,none⟩=some u∧OI w 0 u (xss.getD j []).length (xss.getD j []):=by
 obtain⟨a,c',b,hv,ha,hc⟩:=h.open';injection hv with e1 _ _;rw[ha (by omega)] at e1;injection e1 with e1;injection e1 with e1;subst e1;exact hc j hj
end Go.Proofs.YtmikofeildnpdaaGreat
namespace Go.Proofs.YtmikofeildnpdaaGreat
def obIn (p:Nat):List (List Int)→List Bool × List Int→List Bool × List Int
 | [],st=>st
 | g::G,st=>obIn p G (if st.1.getD (g.getD p 0).toNat false then st else (st.1.set (g.getD p 0).toNat true,st.2 ++ [g.getD p 0]))
def obGo (G:List (List Int)):Nat→Nat→List Bool × List (List Int)→List (List Int)
 | 0,_,st=>st.2
 | k+1,p,st=>obGo G k (p+1) (if st.1.getD p false then st else ((obIn p G (st.1,[])).1,st.2 ++ [sortL (obIn p G (st.1,[])).2]))
def orbP (G:List (List Int)) (n:Nat):List (List Int):=obGo G n 0 (List.replicate n false,[])
def mpsB (G:List (List Int)) (p:Nat) (q:Int):Bool:=G.any fun g=>decide (g.getD p 0=q)
def obR (G:List (List Int)) (n p:Nat):List Int:=((List.range n).map Int.ofNat).filter (mpsB G p)
def lstB (G:List (List Int)) (n p:Nat):Bool:=(obR G n p).all fun q=>decide ((p:Int)≤q)
def orbK (G:List (List Int)) (n k:Nat):List (List Int):=((List.range k).filter (lstB G n)).map (obR G n)
def orbR (G:List (List Int)) (n:Nat):List (List Int):=orbK G n n
section
variable {n:Nat} {G:List (List Int)}
theorem mpsB_iff {p:Nat}{q:Int}:mpsB G p q=true↔∃g∈G,g.getD p 0=q:=by simp[mpsB]
theorem IsP.at {x:List Int}(h:IsP n x) {p:Nat}(hp:p < n):0≤x.getD p 0∧x.getD p 0 < (n:Int):=by
 rw[getD_eq (by rw[h.1];exact hp)];exact h.2.1 _ (List.getElem_mem _)
theorem oneL_at {p:Nat}(hp:p < n):(oneL n).getD p 0=(p:Int):=by simp[oneL,hp]
theorem obR_mem (hG:Grp n G) {p:Nat}(hp:p < n) {q:Int}:q∈obR G n p↔∃g∈G,g.getD p 0=q:=by
 rw[obR,List.mem_filter,mpsB_iff];constructor
 ·exact fun h=>h.2
 ·rintro⟨g,hg,rfl⟩;have:=(hG.isP g hg).at hp
  refine⟨List.mem_map.2 ⟨(g.getD p 0).toNat,List.mem_range.2 (by omega),?_⟩,g,hg,rfl⟩;show(((g.getD p 0).toNat:Nat):Int)=_
  omega
theorem obR_asc (p:Nat):(obR G n p).Pairwise fun a b=>a < b:=by
 refine List.Pairwise.filter _ ?_;rw[List.pairwise_map];exact List.Pairwise.imp (fun h=>by show((_:Nat):Int) < ((_:Nat):Int);omega) List.pairwise_lt_range
theorem ob_refl (hG:Grp n G) {p:Nat}(hp:p < n):∃g∈G,g.getD p 0=(p:Int):=⟨_,hG.one,oneL_at hp⟩
theorem ob_symm (h1:1≤n) (h5:n≤5) (hG:Grp n G) {p:Nat}(hp:p < n) {g:List Int}(hg:g∈G):∃h∈G,h.getD (g.getD p 0).toNat 0=(p:Int):=by
 have hP:=hG.isP g hg;refine⟨_,hG.inv h1 h5 hg,?_⟩;rw[←timesL_getD _ _ _ (by rw[hP.1];exact hp),(back_left (chk_of h1 h5 hP)).1,hP.1,oneL_at hp]
theorem ob_trans (hG:Grp n G) {p:Nat}(hp:p < n) {g h:List Int}(hg:g∈G) (hh:h∈G):∃k∈G,k.getD p 0=h.getD (g.getD p 0).toNat 0:=
 ⟨_,hG.mul h hh g hg,timesL_getD _ _ _ (by rw[(hG.isP g hg).1];exact hp)⟩
theorem obIn_spec {p:Nat}(hp:p < n):∀ {L:List (List Int)}{S:List Bool}{o:List Int},(∀g∈L,IsP n g)→S.length=n→
  (obIn p L (S,o)).1.length=n∧(∀q,q < n→((obIn p L (S,o)).1.getD q false=true↔S.getD q false=true∨∃g∈L,g.getD p 0=(q:Int)))∧
  (o.Nodup→(∀q∈o,0≤q∧q < (n:Int)∧S.getD q.toNat false=true)→(obIn p L (S,o)).2.Nodup∧∀q∈(obIn p L (S,o)).2,0≤q∧q < (n:Int))∧
  ∀q:Int,q∈(obIn p L (S,o)).2↔q∈o∨((∃g∈L,g.getD p 0=q)∧S.getD q.toNat false=false)
 | [],S,o,_,hS=>by
  refine⟨hS,fun q _=>by simp[obIn],fun h1 h2=>⟨h1,fun q hq=>⟨(h2 q hq).1,(h2 q hq).2.1⟩⟩,fun q=>by simp[obIn]⟩
 | g::L,S,o,hL,hS=>by
  have hg:=(hL g (by simp)).at hp;have hq0:((g.getD p 0).toNat:Int)=g.getD p 0:=by omega
  obtain⟨t,ht⟩:=exE ((g.getD p 0).toNat);have htn:t < n:=by omega
  rw[ht] at hq0;have hst:obIn p (g::L) (S,o)=obIn p L (if S.getD t false then (S,o) else (S.set t true,o ++ [g.getD p 0])):=by rw[obIn,ht]
  rw[hst];by_cases hs:S.getD t false=true
  ·rw[if_pos hs];obtain⟨i1,i2,i3,i4⟩:=obIn_spec hp (L:=L) (S:=S) (o:=o) (fun g hg=>hL g (by simp[hg])) hS;refine⟨i1,fun q hq=>?_,i3,fun q=>?_⟩
   ·rw[i2 q hq];constructor
    ·rintro(h|⟨x,hx,h⟩)
     ·exact .inl h
     ·exact .inr ⟨x,by simp[hx],h⟩
    ·rintro(h|⟨x,hx,h⟩)
     ·exact .inl h
     ·rcases List.mem_cons.1 hx with rfl|hx
      ·left;rw[show q=t by omega];exact hs
      ·exact .inr ⟨x,hx,h⟩
   ·rw[i4 q];constructor
    ·rintro(h|⟨⟨x,hx,h⟩,h'⟩)
     ·exact .inl h
     ·exact .inr ⟨⟨x,by simp[hx],h⟩,h'⟩
    ·rintro(h|⟨⟨x,hx,h⟩,h'⟩)
     ·exact .inl h
     ·rcases List.mem_cons.1 hx with rfl|hx
      ·rw[←h,←hq0,Int.toNat_natCast,hs] at h';cases h'
      ·exact .inr ⟨⟨x,hx,h⟩,h'⟩
  ·rw[if_neg hs]
   have hset:∀q,q < n→((S.set t true).getD q false=true↔S.getD q false=true∨q=t):=fun q hq=>by
    simp only[List.getD_eq_getElem?_getD,List.getElem?_set];by_cases e:t=q
    ·subst e;simp[hS,htn]
    ·simp[e];omega
   obtain⟨i1,i2,i3,i4⟩:=obIn_spec hp (L:=L) (S:=S.set t true) (o:=o ++ [g.getD p 0]) (fun g hg=>hL g (by simp[hg])) (by simpa using hS);refine⟨i1,fun q hq=>?_,fun h1 h2=>i3 ?_ ?_,fun q=>?_⟩
   ·rw[i2 q hq,hset q hq];constructor
    ·rintro((h|h)|⟨x,hx,h⟩)
     ·exact .inl h
     ·exact .inr ⟨g,by simp,by omega⟩
     ·exact .inr ⟨x,by simp[hx],h⟩
    ·rintro(h|⟨x,hx,h⟩)
     ·exact .inl (.inl h)
     ·rcases List.mem_cons.1 hx with rfl|hx
      ·exact .inl (.inr (by omega))
      ·exact .inr ⟨x,hx,h⟩
   ·rw[List.nodup_append];refine⟨h1,by simp,?_⟩;intro a ha b hb e;rw[List.mem_singleton] at hb;subst hb;subst e;have:=(h2 _ ha).2.2
    rw[ht] at this;exact hs this
   ·intro q hq;rcases List.mem_append.1 hq with hq|hq
    ·obtain⟨k1,k2,k3⟩:=h2 q hq;exact⟨k1,k2,(hset q.toNat (by omega)).2 (.inl k3)⟩
    ·rw[List.mem_singleton] at hq;subst hq;exact⟨hg.1,hg.2,by rw[ht];exact(hset t htn).2 (.inr rfl)⟩
   ·rw[i4 q];constructor
    ·rintro(h|⟨⟨x,hx,h⟩,h'⟩)
     ·rcases List.mem_append.1 h with h|h
      ·exact .inl h
      ·rw[List.mem_singleton] at h;subst h;exact .inr ⟨⟨g,by simp,rfl⟩,by rw[ht];simpa using hs⟩
     ·refine .inr ⟨⟨x,by simp[hx],h⟩,?_⟩;have hxp:=(hL x (by simp[hx])).at hp;rw[h] at hxp;have:=hset q.toNat (by omega)
      cases e:S.getD q.toNat false with
      | false=>rfl
      | true=>rw[this.2 (.inl e)] at h';cases h'
    ·rintro(h|⟨⟨x,hx,h⟩,h'⟩)
     ·exact .inl (List.mem_append_left _ h)
     ·by_cases e:q=g.getD p 0
      ·left;rw[e];simp
      ·rcases List.mem_cons.1 hx with rfl|hx
       ·exact absurd h.symm e
       ·refine .inr ⟨⟨x,hx,h⟩,?_⟩;have hxp:=(hL x (by simp[hx])).at hp;rw[h] at hxp;have:=hset q.toNat (by omega)
        cases e2:(S.set t true).getD q.toNat false with
        | false=>rfl
        | true=>
         rcases this.1 e2 with k|k
         ·rw[k] at h';cases h'
         ·omega
def SnP (G:List (List Int)) (n p:Nat) (S:List Bool):Prop:=S.length=n∧∀q,q < n→(S.getD q false=true↔∃p',p' < p∧∃g∈G,g.getD p' 0=(q:Int))
theorem lstB_iff (h1:1≤n) (h5:n≤5) (hG:Grp n G) {p:Nat}(hp:p < n) {S:List Bool}(hS:SnP G n p S):lstB G n p=true↔S.getD p false=false:=by
 have hlst:lstB G n p=true↔∀q∈obR G n p,(p:Int)≤q:=by simp[lstB]
 rw[hlst];constructor
 ·intro h;cases e:S.getD p false with
  | false=>rfl
  | true=>
   obtain⟨p',hp',g,hg,hgp⟩:=(hS.2 p hp).1 e;obtain⟨k,hk,hkp⟩:=ob_symm h1 h5 hG (p:=p') (by omega) hg;rw[hgp,Int.toNat_natCast] at hkp;have:=h _ ((obR_mem hG hp).2 ⟨k,hk,hkp⟩)
   omega
 ·intro h q hq;obtain⟨g,hg,rfl⟩:=(obR_mem hG hp).1 hq;have hgp:=(hG.isP g hg).at hp;by_cases hlt:(p:Int)≤g.getD p 0
  ·exact hlt
  ·obtain⟨k,hk,hkp⟩:=ob_symm h1 h5 hG hp hg;rw[(hS.2 p hp).2 ⟨(g.getD p 0).toNat,by omega,k,hk,hkp⟩] at h;cases h
theorem SnP.next (h1:1≤n) (h5:n≤5) (hG:Grp n G) {p:Nat}(hp:p < n) {S:List Bool}(hS:SnP G n p S) :
  SnP G n (p+1) (if S.getD p false then S else (obIn p G (S,[])).1)∧(S.getD p false=false→sortL (obIn p G (S,[])).2=obR G n p):=by
 obtain⟨i1,i2,i3,i4⟩:=obIn_spec hp (L:=G) (S:=S) (o:=[]) hG.isP hS.1;obtain⟨i3,i5⟩:=i3 List.nodup_nil (by simp);constructor
 ·split
  next e=>
   refine⟨hS.1,fun q hq=>?_⟩;rw[hS.2 q hq];constructor
   ·rintro⟨p',h,h'⟩;exact⟨p',by omega,h'⟩
   ·rintro⟨p',h,g,hg,h'⟩;by_cases e2:p' < p
    ·exact⟨p',e2,g,hg,h'⟩
    ·obtain rfl:p'=p:=(by omega);obtain⟨p2,hp2,g2,hg2,hgp2⟩:=(hS.2 p' hp).1 e;obtain⟨k,hk,hkp⟩:=ob_trans hG (p:=p2) (by omega) hg2 hg;rw[hgp2,Int.toNat_natCast] at hkp;exact⟨p2,hp2,k,hk,hkp.trans h'⟩
  next e=>
   refine⟨i1,fun q hq=>?_⟩;rw[i2 q hq,hS.2 q hq];constructor
   ·rintro(⟨p',h,h'⟩|h')
    ·exact⟨p',by omega,h'⟩
    ·exact⟨p,by omega,h'⟩
   ·rintro⟨p',h,h'⟩;by_cases e2:p' < p
    ·exact .inl ⟨p',e2,h'⟩
    ·obtain rfl:p'=p:=(by omega);exact .inr h'
 ·intro hs;refine sorted_unique (lt:=fun a b=>a < b) (fun a b h=>by omega) ?_ (obR_asc p) fun q=>?_
  ·have hnd:(sortL (obIn p G (S,[])).2).Nodup:=by
    have hp2:(sortL (obIn p G (S,[])).2).Perm (obIn p G (S,[])).2:=List.mergeSort_perm _ _;exact hp2.nodup_iff.2 i3
   exact List.Pairwise.imp (fun {a b} (h:a≤b∧a ≠ b)=>by omega) (List.Pairwise.and (sortL_asc _) hnd)
  ·rw[sortL_mem,i4 q,obR_mem hG hp];constructor
   ·rintro(h|h)
    ·cases h
    ·exact h.1
   ·rintro⟨g,hg,h⟩;refine .inr ⟨⟨g,hg,h⟩,?_⟩;have hgp:=(hG.isP g hg).at hp;cases e:S.getD q.toNat false with
    | false=>rfl
    | true=>
     obtain⟨p',hp',k,hk,hkp⟩:=(hS.2 q.toNat (by omega)).1 e;obtain⟨a,ha,hap⟩:=ob_symm h1 h5 hG hp hg;obtain⟨b,hb,hbp⟩:=ob_trans hG (p:=p') (by omega) hk ha;rw[hkp,Int.toNat_natCast] at hbp;rw[h] at hap;have:=(hS.2 p hp).2 ⟨p',hp',b,hb,hbp.trans hap⟩
     rw[hs] at this;cases this
theorem orbK_succ (k:Nat):orbK G n (k+1)=if lstB G n k then orbK G n k ++ [obR G n k] else orbK G n k:=by
 rw[orbK,List.range_succ,List.filter_append,List.map_append,←orbK];cases h:lstB G n k<;>simp[h]
theorem obGo_eq (h1:1≤n) (h5:n≤5) (hG:Grp n G):∀(k p:Nat) (S:List Bool),k+p=n→SnP G n p S→obGo G k p (S,orbK G n p)=orbR G n
 | 0,p,S,e,_=>by
  obtain rfl:p=n:=by omega
  rw[obGo,orbR]
 | k+1,p,S,e,hS=>by
  obtain⟨j1,j2⟩:=hS.next h1 h5 hG (by omega);have hl:=lstB_iff h1 h5 hG (by omega) hS;rw[obGo];by_cases hs:S.getD p false=true
  ·rw[if_pos hs] at j1⊢
   have:lstB G n p=false:=by
    cases e2:lstB G n p with
    | false=>rfl
    | true=>rw[hl.1 e2] at hs;cases hs
   have h2:=obGo_eq h1 h5 hG k (p+1) S (by omega) j1;rw[orbK_succ,this] at h2;exact h2
  ·have hs':S.getD p false=false:=(by simpa using hs);rw[if_neg hs] at j1⊢;have h2:=obGo_eq h1 h5 hG k (p+1) _ (by omega) j1;rw[orbK_succ,if_pos (hl.2 hs')] at h2;simp only[j2 hs'];exact h2
theorem orb_eq (h1:1≤n) (h5:n≤5) (hG:Grp n G):orbP G n=orbR G n:=
 obGo_eq h1 h5 hG n 0 _ (by omega) ⟨by simp,fun q hq=>by simp[hq]⟩
end
end Go.Proofs.YtmikofeildnpdaaGreat
namespace Go.Proofs.YtmikofeildnpdaaGreat
theorem twoI_pow {k:Nat}(h:k < 5):twoI (k:Int)=2 ^ k:=by
 have:k=0∨k=1∨k=2∨k=3∨k=4:=by omega
 rcases this with rfl|rfl|rfl|rfl|rfl<;>rfl
theorem hasI_bits {s:Int}{n k:Nat}(hk:k < n) (hn:n≤5):hasI s (k:Int)=((bitsL s n).getD k 0 == 1):=by
 have:(bitsL s n).getD k 0=s / 2 ^ k % 2:=by simp[bitsL,hk]
 rw[this,hasI,twoI_pow (by omega)]
theorem moved_at {n:Nat}{a v:List Int}(ha:IsP n a) {p:Nat}(hp:p < n):(movedL a v).getD (a.getD p 0).toNat 0=v.getD p 0:=by
 unfold movedL;rw[ha.1];exact scat_get ha (Nat.le_refl n) p hp
theorem img_has {n:Nat}{a:List Int}(h1:1≤n) (h5:n≤5) (ha:IsP n a) {s:Int}(k0:0≤s) (k1:s < 2 ^ n) {p:Nat}(hp:p < n):hasI (imgP a s n) (a.getD p 0)=hasI s (p:Int):=by
 obtain⟨e,_,_,_⟩:=set_facts (chk_of h1 h5 ha) ha k0 k1;have hg:=ha.2.1 (a.getD p 0) (by rw[getD_eq (by rw[ha.1];exact hp)];exact List.getElem_mem _);have hn:(((a.getD p 0).toNat:Nat):Int)=a.getD p 0:=by omega
 rw[←hn,hasI_bits (s:=imgP a s n) (show(a.getD p 0).toNat < n by omega) h5,e,moved_at ha hp,hasI_bits hp h5]
theorem perm_onto {n:Nat}{a:List Int}(h1:1≤n) (h5:n≤5) (ha:IsP n a) {q:Nat}(hq:q < n):∃p:Nat,p < n∧a.getD p 0=(q:Int):=by
 have hz:=chk_of h1 h5 ha;obtain⟨_,k2,k3⟩:=back_left hz;have hb:=chk_isP k3;have hbl:(backL a).length=n:=by rw[backL,movedL_length,ha.1]
 rw[hbl] at hb;obtain⟨g1,g2⟩:=hb.idx (q:=(backL a).getD q 0) (by rw[getD_eq (by rw[hbl];exact hq)];exact List.getElem_mem _);refine⟨((backL a).getD q 0).toNat,g1,?_⟩;have:=congrArg (fun l=>l.getD q 0) k2
 simp only[timesL_getD a (backL a) q (by rw[hbl];exact hq)] at this;rw[this,ha.1,oneL_getD hq]
def mkR (n:Nat) (hs:List Int) (f:Int):List Int:=(n:Int)::(hs++(List.replicate (5 - n) 0 ++ [f]))
structure RdN (n:Nat) (hs:List Int) (f:Int):Prop where
 len:hs.length=n
 rng:∀x∈hs,0≤x∧x < 2 ^ n
 self:∀p,p < n→hasI (hs.getD p 0) (p:Int)=true
 f0:0≤f
 f1:f < 2 ^ n
theorem mkR_len {n:Nat}{hs:List Int}{f:Int}(hn:n≤5) (h:hs.length=n):(mkR n hs f).length=7:=by
 simp[mkR,h];omega
theorem mkR_inj {n:Nat}{hs hs':List Int}{f f':Int}(h:hs.length=n) (h':hs'.length=n) (e:mkR n hs f=mkR n hs' f'):hs=hs'∧f=f':=by
 unfold mkR at e;injection e with _ e;obtain⟨e1,e2⟩:=List.append_inj e (by omega);exact⟨e1,by simpa using e2⟩
theorem mkR_at {n:Nat}{hs:List Int}{f:Int}(h:hs.length=n) {p:Nat}(hp:p < n):(mkR n hs f).getD (1+p) 0=hs.getD p 0:=by
 rw[mkR,Nat.add_comm 1 p,List.getD_cons_succ,List.getD_eq_getElem?_getD,List.getElem?_append_left (by omega),←List.getD_eq_getElem?_getD]
theorem mkR_z {n:Nat}{hs:List Int}{f:Int}(h:hs.length=n) {p:Nat}(hp:n≤p) (h5:p < 5):(mkR n hs f).getD (1+p) 0=0:=by
 rw[mkR,Nat.add_comm 1 p,List.getD_cons_succ,List.getD_eq_getElem?_getD,List.getElem?_append_right (by omega),List.getElem?_append_left (by simp;omega),List.getElem?_replicate,if_pos (by omega)];rfl
theorem mkR_f {n:Nat}{hs:List Int}{f:Int}(hn:n≤5) (h:hs.length=n):(mkR n hs f).getD 6 0=f:=by
 rw[mkR,List.getD_cons_succ,List.getD_eq_getElem?_getD,List.getElem?_append_right (by omega),List.getElem?_append_right (by simp;omega)];simp[show 5 - hs.length - (5 - n)=0 by omega]
theorem mkR_rows {n:Nat}{hs:List Int}{f:Int}(h:hs.length=n):((mkR n hs f).drop 1).take n=hs:=by
 rw[mkR,List.drop_succ_cons,List.drop_zero,List.take_append_of_le_length (by omega),List.take_of_length_le (by omega)]
def renR (a:List Int) (r:List Int):List Int:=mkR a.length (movedL a (((r.drop 1).take a.length).map fun x=>imgP a x a.length)) (imgP a (r.getD 6 0) a.length)
section
variable {n:Nat} {a b hs hs':List Int} {f f':Int}
theorem renR_mk (ha:IsP n a) (hn:n≤5) (h:hs.length=n):renR a (mkR n hs f)=mkR n (movedL a (hs.map fun x=>imgP a x n)) (imgP a f n):=by
 unfold renR;rw[ha.1,mkR_rows h,mkR_f hn h]
theorem img_rng (h1:1≤n) (h5:n≤5) (ha:IsP n a) {s:Int}(k0:0≤s) (k1:s < 2 ^ n):0≤imgP a s n∧imgP a s n < 2 ^ n:=by
 obtain⟨_,e1,e2,_⟩:=set_facts (chk_of h1 h5 ha) ha k0 k1;exact⟨e1,e2⟩
theorem moved_mem (h1:1≤n) (h5:n≤5) (ha:IsP n a) {v:List Int}(hv:v.length=n) {x:Int}:x∈movedL a v↔x∈v:=(moved_perm (chk_of h1 h5 ha) ha hv).mem_iff
theorem RdN.ren (h1:1≤n) (h5:n≤5) (ha:IsP n a) (h:RdN n hs f):RdN n (movedL a (hs.map fun x=>imgP a x n)) (imgP a f n) where
 len:=by rw[movedL_length,ha.1]
 rng x hx:=by
  rw[moved_mem h1 h5 ha (by rw[List.length_map];exact h.len)] at hx;obtain⟨y,hy,rfl⟩:=List.mem_map.1 hx;exact img_rng h1 h5 ha (h.rng y hy).1 (h.rng y hy).2
 self q hq:=by
  obtain⟨p,hp,e⟩:=perm_onto h1 h5 ha hq;have hm:=moved_at (v:=hs.map fun x=>imgP a x n) ha hp;rw[e,Int.toNat_natCast] at hm;have hpl:p < hs.length:=by rw[h.len];exact hp
  have e2:(hs.map fun x=>imgP a x n).getD p 0=imgP a (hs.getD p 0) n:=by simp[hpl]
  rw[hm,e2,←e];obtain⟨q0,q1⟩:=h.rng (hs.getD p 0) (by rw[getD_eq hpl];exact List.getElem_mem hpl);rw[img_has h1 h5 ha q0 q1 hp];exact h.self p hp
 f0:=(img_rng h1 h5 ha h.f0 h.f1).1
 f1:=(img_rng h1 h5 ha h.f0 h.f1).2
theorem moved_map (h1:1≤n) (h5:n≤5) (ha:IsP n a) (g:Int→Int) {v:List Int}(hv:v.length=n):(movedL a v).map g=movedL a (v.map g):=by
 refine times_injR (chk_of h1 h5 ha) ha (by rw[List.length_map,movedL_length,ha.1]) (by rw[movedL_length,ha.1]) ?_;rw[times_moved ha (by rw[List.length_map];exact hv)]
 have:timesL ((movedL a v).map g) a=(timesL (movedL a v) a).map g:=by
  unfold timesL;rw[List.map_map];refine List.map_congr_left fun q hq=>?_;obtain⟨g1,_⟩:=ha.idx hq;simp[movedL_length,ha.1,g1]
 rw[this,times_moved ha hv]
theorem renR_times (h1:1≤n) (h5:n≤5) (ha:IsP n a) (hb:IsP n b) (h:RdN n hs f):renR a (renR b (mkR n hs f))=renR (timesL a b) (mkR n hs f):=by
 have hR:=h.ren h1 h5 hb;rw[renR_mk hb h5 h.len,renR_mk ha h5 hR.len,renR_mk (ha.times hb) h5 h.len];have e1:imgP a (imgP b f n) n=imgP (timesL a b) f n:=set_set h1 h5 ha hb h.f0 h.f1;rw[moved_map h1 h5 hb _ (by rw[List.length_map];exact h.len),List.map_map,moved_moved h1 h5 ha hb (by rw[List.length_map];exact h.len),e1];congr 2
 refine List.map_congr_left fun x hx=>?_;exact set_set h1 h5 ha hb (h.rng x hx).1 (h.rng x hx).2
theorem bits_inj (h5:n≤5) {s t:Int}(s0:0≤s) (s1:s < 2 ^ n) (t0:0≤t) (t1:t < 2 ^ n) (e:bitsL s n=bitsL t n):s=t:=by
 have h:=List.all_eq_true.1 bits_inj_ok n (by rw[List.mem_range];omega);have h:=List.all_eq_true.1 h s.toNat (by rw[List.mem_range];exact(Int.toNat_lt s0).2 (by simpa using s1));have h:=List.all_eq_true.1 h t.toNat (by rw[List.mem_range];exact(Int.toNat_lt t0).2 (by simpa using t1));have h:=of_decide_eq_true h;rw[show((s.toNat:Nat):Int)=s by omega,show((t.toNat:Nat):Int)=t by omega] at h;have:=h e
 omega
theorem moved_one {v:List Int}(hv:v.length=n):movedL (oneL n) v=v:=by
 have hp:=IsP.one n;have:=times_moved hp hv
 rwa [times_oneR (by rw[movedL_length,oneL_length])] at this
theorem img_one (h1:1≤n) (h5:n≤5) {s:Int}(k0:0≤s) (k1:s < 2 ^ n):imgP (oneL n) s n=s:=by
 obtain⟨e,e1,e2,_⟩:=set_facts (chk_of h1 h5 (IsP.one n)) (IsP.one n) k0 k1;refine bits_inj h5 e1 e2 k0 k1 ?_;rw[e,moved_one (bitsL_len s n)]
theorem renR_one (h1:1≤n) (h5:n≤5) (h:RdN n hs f):renR (oneL n) (mkR n hs f)=mkR n hs f:=by
 rw[renR_mk (IsP.one n) h5 h.len,img_one h1 h5 h.f0 h.f1]
 have:(hs.map fun x=>imgP (oneL n) x n)=hs:=by
  conv=>rhs;rw[←List.map_id hs]
  exact List.map_congr_left fun x hx=>img_one h1 h5 (h.rng x hx).1 (h.rng x hx).2
 rw[this,moved_one h.len]
theorem back_isP (h1:1≤n) (h5:n≤5) (ha:IsP n a):IsP n (backL a):=by
 obtain⟨_,_,k3⟩:=back_left (chk_of h1 h5 ha);have h:=chk_isP k3;rwa [show(backL a).length=n by rw[backL,movedL_length,ha.1]] at h
theorem renR_back (h1:1≤n) (h5:n≤5) (ha:IsP n a) (h:RdN n hs f):renR (backL a) (renR a (mkR n hs f))=mkR n hs f:=by
 rw[renR_times h1 h5 (back_isP h1 h5 ha) ha h,(back_left (chk_of h1 h5 ha)).1,ha.1,renR_one h1 h5 h]
theorem renR_inj (h1:1≤n) (h5:n≤5) (ha:IsP n a) (h:RdN n hs f) (h':RdN n hs' f') (e:renR a (mkR n hs f)=renR a (mkR n hs' f')):mkR n hs f=mkR n hs' f':=by
 rw[←renR_back h1 h5 ha h,e,renR_back h1 h5 ha h']
end
theorem hGo_iff {n:Int}:∀ {l:List Int}{p:Int},hGo n p l=0↔∀i,i < l.length→hErr n (p+(i:Int)) (l.getD i 0)=0
 | [],p=>⟨fun _ i hi=>absurd hi (by simp),fun _=>rfl⟩
 | x::r,p=>by
  rw[hGo];by_cases h:hErr n p x=0
  ·rw[if_neg (fun k=>k h),hGo_iff];constructor
   ·intro g i hi;cases i with
    | zero=>simpa using h
    | succ i=>
     have:=g i (by simpa using hi)
     rw[List.getD_cons_succ,show p+((i+1:Nat):Int)=p+1+(i:Int) by omega];exact this
   ·intro g i hi;have:=g (i+1) (by simpa using hi)
    rwa [List.getD_cons_succ,show p+((i+1:Nat):Int)=p+1+(i:Int) by omega] at this
  ·rw[if_pos h];refine⟨fun g=>absurd g h,fun g=>absurd ?_ h⟩;have:=g 0 (by simp)
   simpa using this
theorem fullI_pow {n:Nat}(h5:n≤5) (h1:1≤n):fullI (n:Int)=2 ^ n - 1∧twoI (n:Int)=2 ^ n:=by
 have:n=1∨n=2∨n=3∨n=4∨n=5:=by omega
 rcases this with rfl|rfl|rfl|rfl|rfl<;>exact⟨rfl,rfl⟩
theorem chkRd_mk {n:Nat}{hs:List Int}{f:Int}(h1:1≤n) (h5:n≤5) (h:RdN n hs f):chkRd (mkR n hs f)=0:=by
 obtain⟨e1,e2⟩:=fullI_pow h5 h1
 have hg:chkGr (n:Int) (((mkR n hs f).drop 1).take 5)=0:=by
  rw[chkGr,if_neg (by omega),hGo_iff];intro i hi;have hi5:i < 5:=by rw[List.length_take] at hi;omega
  have e:(((mkR n hs f).drop 1).take 5).getD i 0=(mkR n hs f).getD (1+i) 0:=by
   rw[List.getD_eq_getElem?_getD,List.getElem?_take,if_pos hi5,List.getElem?_drop,←List.getD_eq_getElem?_getD]
  rw[e,hErr];by_cases hin:i < n
  ·rw[if_neg (by omega),mkR_at h.len hin];obtain⟨q0,q1⟩:=h.rng (hs.getD i 0) (by rw[getD_eq (by rw[h.len];exact hin)];exact List.getElem_mem _);rw[if_neg (by omega),show(0:Int)+(i:Int)=(i:Int) by omega,h.self i hin];rfl
  ·rw[if_pos (by omega),mkR_z h.len (by omega) hi5,if_pos rfl]
 have e0:(mkR n hs f).getD 0 0=(n:Int):=rfl;have hp:procE (n:Int)=0:=if_neg (by omega);have:=h.f0
 have:=h.f1
 rw[chkRd,e0,hg,if_neg (fun k=>k rfl),mkR_f h5 h.len,chkSet,hp,if_neg (fun k=>k rfl),if_neg (by omega)]
theorem rd_of {n:Nat}{r:List Int}(hl:r.length=7) (h:chkRd r=0) (hn:r.getD 0 0=(n:Int)):(1≤n∧n≤5)∧∃hs f,RdN n hs f∧r=mkR n hs f:=by
 obtain⟨m,h0,g1,g2,g3,g4,f,rfl⟩:=seven hl;have hn:m=(n:Int):=hn;subst hn
 have hg:chkGr (n:Int) [h0,g1,g2,g3,g4]=0:=by
  by_cases hc:chkGr (n:Int) [h0,g1,g2,g3,g4]=0
  ·exact hc
  ·rw[chkRd_1 hc] at h;exact h
 have hf:chkSet (n:Int) f=0:=by rw[chkRd_2 hg] at h;exact h
 rw[chkGr] at hg;by_cases hb:(n:Int) < 1∨5 < (n:Int)
 ·rw[if_pos hb] at hg;cases hg
 rw[if_neg hb,hGo_iff] at hg;have b1:1≤n:=by omega
 have b5:n≤5:=by omega
 obtain⟨e1,e2⟩:=fullI_pow b5 b1;have hp:procE (n:Int)=0:=if_neg hb;rw[chkSet,hp,if_neg (fun k=>k rfl)] at hf
 have hf':0≤f∧f < 2 ^ n:=by
  by_cases hc:f < 0∨twoI (n:Int)≤f
  ·rw[if_pos hc] at hf;cases hf
  ·omega
 have hin:∀i,i < n→(0 ≤ [h0,g1,g2,g3,g4].getD i 0∧[h0,g1,g2,g3,g4].getD i 0 < 2 ^ n)∧hasI ([h0,g1,g2,g3,g4].getD i 0) (i:Int)=true:=fun i hi=>by
  have:=hg i (by simp;omega)
  rw[hErr,if_neg (by omega),show(0:Int)+(i:Int)=(i:Int) by omega] at this;split at this
  ·cases this
  ·split at this
   ·rename_i k1 k2
    exact⟨by omega,k2⟩
   ·cases this
 have hout:∀i,n≤i→i < 5→[h0,g1,g2,g3,g4].getD i 0=0:=fun i hi h5=>by
  have:=hg i (by simpa using h5)
  rw[hErr,if_pos (by omega)] at this;split at this
  ·assumption
  ·cases this
 refine⟨⟨b1,b5⟩,[h0,g1,g2,g3,g4].take n,f,⟨by simp;omega,fun x hx=>?_,fun p hp=>?_,hf'.1,hf'.2⟩,?_⟩
 ·obtain⟨i,hi,rfl⟩:=List.mem_iff_getElem.1 hx;have hin':=(hin i (by simp at hi;omega)).1;rw[List.getElem_take];rwa [getD_eq (by simp at hi⊢;omega)] at hin'
 ·have:=(hin p hp).2
  rw[List.getD_eq_getElem?_getD,List.getElem?_take,if_pos hp,←List.getD_eq_getElem?_getD];exact this
 ·have z4:=hout 4;have z3:=hout 3;have z2:=hout 2;have z1:=hout 1;have:n=1∨n=2∨n=3∨n=4∨n=5:=by omega
  rcases this with rfl|rfl|rfl|rfl|rfl
  ·obtain rfl:g1=0:=z1 (by omega) (by omega);obtain rfl:g2=0:=z2 (by omega) (by omega);obtain rfl:g3=0:=z3 (by omega) (by omega);obtain rfl:g4=0:=z4 (by omega) (by omega);rfl
  ·obtain rfl:g2=0:=z2 (by omega) (by omega);obtain rfl:g3=0:=z3 (by omega) (by omega);obtain rfl:g4=0:=z4 (by omega) (by omega);rfl
  ·obtain rfl:g3=0:=z3 (by omega) (by omega);obtain rfl:g4=0:=z4 (by omega) (by omega);rfl
  ·obtain rfl:g4=0:=z4 (by omega) (by omega);rfl
  ·rfl
end Go.Proofs.YtmikofeildnpdaaGreat
namespace Go.Proofs.YtmikofeildnpdaaGreat
def cmpC (c c':Cs):Int:=cmpL c.1 c'.1
theorem weakC:WeakO cmpC:=⟨fun _ _ h=>cmpL_asymm _ _ h,fun _ _ _ h k=>cmpL_ntrans _ _ _ h k⟩
def mvAll (a:List Int) (l:List (List Int)):List (List Int):=srtB cmpL [] (l.map (movedL a))
def renC (a:List Int) (c:Cs):Cs:=(movedL a c.1,mvAll a c.2.1,mvAll a c.2.2)
def renT (a:List Int) (cs:List Cs):List Cs:=srtB cmpC csNil (cs.map (renC a))
theorem mvAll_len (a:List Int) (l:List (List Int)):(mvAll a l).length=l.length:=by rw[mvAll,srtB_len weakL,List.length_map]
theorem renT_len (a:List Int) (cs:List Cs):(renT a cs).length=cs.length:=by rw[renT,srtB_len weakC,List.length_map]
theorem mvAll_of {a:List Int}{l m:List (List Int)}(hp:m.Perm (l.map (movedL a))) (hs:SrtG cmpL m):m=mvAll a l:=srtB_uniq weakL hp hs fun _ _ _ _ h1 h2=>cmpL_anti h1 h2
theorem getD_mem {α:Type}{l:List α}{d:α}{k:Nat}(h:k < l.length):l.getD k d∈l:=by rw[getD_eq h];exact List.getElem_mem h
theorem asc_adj {l:List (List Int)}:(∀k,k+1 < l.length→cmpL (l.getD k []) (l.getD (k+1) []) < 0)→AscL l:=by
 induction l with
 | nil=>exact fun _=>List.Pairwise.nil
 | cons x l ih=>
  intro h;have hl:AscL l:=ih fun k hk=>by have:=h (k+1) (by simpa using hk);simpa using this
  refine List.pairwise_cons.2 ⟨fun y hy=>?_,hl⟩;cases l with
  | nil=>cases hy
  | cons z l=>
   have h0:cmpL x z < 0:=(by have:=h 0 (by simp);simpa using this);rcases List.mem_cons.1 hy with rfl|hy
   ·exact h0
   ·exact cmpL_trans _ _ _ h0 ((List.pairwise_cons.1 hl).1 y hy)
structure TskOK (n:Nat) (ins outs:Int) (cs:List Cs):Prop where
 n1:1≤n
 n5:n≤5
 asc:AscL (cs.map fun c=>c.1)
 len:∀c∈cs,c.1.length=n∧(∀v∈c.2.1,v.length=n)∧∀v∈c.2.2,v.length=n
 short:1≤cs.length∧cs.length≤1024
 outs:∀c∈cs,c.2.1.length≤1024
theorem vecE_len {v:List Int}{n most:Int}(h:vecE v n most=0):(v.length:Int)=n:=by
 unfold vecE at h;by_cases e:(v.length:Int)=n
 ·exact e
 ·rw[if_pos e] at h;cases h
theorem TskOK.of {n:Nat}{ins outs:Int}{cs:List Cs}(h:chkT (n:Int) ins outs cs=0):TskOK n ins outs cs:=by
 unfold chkT at h;split at h
 ·cases h
 next h1=>
 split at h
 ·cases h
 next h2=>
 have hf:=(firstE_zero _ _).1 h
 have hcase:∀k,k < cs.length→vecE (cs.getD k csNil).1 (n:Int) ins=0∧(0 < k→cmpL (cs.getD (k - 1) csNil).1 (cs.getD k csNil).1 < 0)∧outsE (n:Int) outs (cs.getD k csNil)=0:=by
  intro k hk;have e:=hf k (Nat.zero_le _) (by omega);unfold caseE at e;split at e
  ·rename_i e1;exact absurd e e1
  next e1=>
  split at e
  ·cases e
  next e2=>exact⟨Decidable.not_not.1 e1,fun h0=>by by_cases h:cmpL (cs.getD (k - 1) csNil).1 (cs.getD k csNil).1 < 0;exact h;exact absurd ⟨h0,by omega⟩ e2,e⟩
 have houts:∀c∈cs,c.2.1.length≤1024∧(∀v∈c.2.1,v.length=n)∧∀v∈c.2.2,v∈c.2.1:=by
  intro c hc;obtain⟨k,hk,rfl⟩:=List.mem_iff_getElem.1 hc;have e:=(hcase k hk).2.2;rw[getD_eq hk] at e;unfold outsE at e;split at e
  ·cases e
  next e1=>
  split at e
  ·rename_i e2;exact absurd e e2
  next e2=>
  refine⟨by omega,fun v hv=>?_,fun v hv=>?_⟩
  ·obtain⟨j,hj,rfl⟩:=List.mem_iff_getElem.1 hv;have:=(firstE_zero _ _).1 (Decidable.not_not.1 e2) j (Nat.zero_le _) (by omega)
   unfold outE at this;split at this
   ·rename_i e3;exact absurd this e3
   next e3=>
   have:=vecE_len (Decidable.not_not.1 e3)
   rw[getD_eq hj] at this;omega
  ·obtain⟨j,hj,rfl⟩:=List.mem_iff_getElem.1 hv;have:=(firstE_zero _ _).1 e j (Nat.zero_le _) (by omega)
   unfold calmE at this;split at this
   ·cases this
   next e3=>rw[getD_eq hj] at e3;exact Decidable.not_not.1 e3
 refine⟨by omega,by omega,?_,?_,by omega,fun c hc=>(houts c hc).1⟩
 ·refine asc_adj fun k hk=>?_;rw[List.length_map] at hk;have:=(hcase (k+1) hk).2.1 (by omega)
  rw[Nat.add_sub_cancel,getD_eq hk,getD_eq (show k < cs.length by omega)] at this;rw[getD_eq (by rw[List.length_map];omega),getD_eq (by rw[List.length_map];exact hk),List.getElem_map,List.getElem_map];exact this
 ·intro c hc;refine⟨?_,(houts c hc).2.1,fun v hv=>(houts c hc).2.1 v ((houts c hc).2.2 v hv)⟩;obtain⟨k,hk,rfl⟩:=List.mem_iff_getElem.1 hc;have:=vecE_len (hcase k hk).1
  rw[getD_eq hk] at this;omega
theorem moved_inj {n:Nat}{a v w:List Int}(ha:IsP n a) (hv:v.length=n) (hw:w.length=n) (h:movedL a v=movedL a w):v=w:=by rw[←times_moved ha hv,h,times_moved ha hw]
theorem renC_anti {n:Nat}{ins outs:Int}{cs:List Cs}(h:TskOK n ins outs cs) {a:List Int}(ha:IsP n a):∀x∈cs.map (renC a),∀y∈cs.map (renC a),¬cmpC x y < 0→¬cmpC y x < 0→x=y:=fun x hx y hy h2 h3=>by
 obtain⟨c,hc,rfl⟩:=List.mem_map.1 hx;obtain⟨c',hc',rfl⟩:=List.mem_map.1 hy;have e:=moved_inj ha (h.len c hc).1 (h.len c' hc').1 (cmpL_anti h2 h3);obtain⟨i,hi,rfl⟩:=List.mem_iff_getElem.1 hc;obtain⟨j,hj,rfl⟩:=List.mem_iff_getElem.1 hc';have hA:=h.asc;rw[AscL,List.pairwise_iff_getElem] at hA
 have key:∀i j (hi:i < cs.length) (hj:j < cs.length),i < j→cs[i].1=cs[j].1→False:=fun i j hi hj hij e=>by
  have:=hA i j (by rw[List.length_map];exact hi) (by rw[List.length_map];exact hj) hij
  rw[List.getElem_map,List.getElem_map,e,cmpL_self] at this;omega
 rcases Nat.lt_trichotomy i j with hlt|hlt|hlt
 ·exact(key i j hi hj hlt e).elim
 ·subst hlt;rfl
 ·exact(key j i hj hi hlt e.symm).elim
theorem renT_of {n:Nat}{ins outs:Int}{cs m:List Cs}(h:TskOK n ins outs cs) {a:List Int}(ha:IsP n a) (hp:m.Perm (cs.map (renC a))) (hs:SrtG cmpC m):m=renT a cs:=srtB_uniq weakC hp hs (renC_anti h ha)
end Go.Proofs.YtmikofeildnpdaaGreat
namespace Go.Proofs.YtmikofeildnpdaaGreat
open Go.RowKit
theorem OII.form2 {w:World}{B n:Nat}{v:Value}{xss:List (List Int)}(h:OII w B v n xss) (hn:0 < n):∃g cap,v = .slice (some ⟨g,0,none⟩) n cap:=by
 obtain⟨vs,h1,_⟩:=h;rcases h1.2 with⟨_,h0⟩|⟨g,cap,cur,rfl,_⟩
 ·omega
 ·exact⟨g,cap,rfl⟩
theorem chosenG {w:World}{v:Value}{B0:Nat}{caps:Array Value}{l:List (List Int)}{p:List Int→Bool}(h:OII w B0 v l.length l) (hl:l.length≤1000)
  (HF:∀W,Below w.heap.size w W→∀x∈l,∀u,OI W 0 u x.length x→Calls Tryz.prog 58 (#[u]++caps) W fun e w'=>e = .returned (.tuple #[.bool (p x),.int .i64 0])∧Below W.heap.size W w') :
  Calls Tryz.prog 57 #[v,.func (.func 58) #[] caps] w (RII w (l.filter p) 0):=by
 have h':=qH h;obtain⟨va,vc,rfl⟩:=h.shape;replace HF:=qH HF;have ho0:OII w w.heap.size (.slice none 0 0) ((l.take 0).filter p).length ((l.take 0).filter p):=OII.nil _ _;have hb0:=Below.refl w.heap.size w;clear h;go_enter Tryz.func57, Tryz.ntmps57
 go_wp2_with fail
 go_loopw [6,13] (fun ov jv wr=>∃k:Nat,jv = .int .i64 (k:Int)∧k≤l.length∧OII wr w.heap.size ov ((l.take k).filter p).length ((l.take k).filter p)∧Hid (Below w.heap.size w wr)) (fun _ jv _=>l.length - (intOf jv).toNat)
 case atStart=>exact⟨0,rfl,Nat.zero_le _,ho0,hb0⟩
 case round=>
  clear ho0 hb0;obtain⟨k,rfl,hk,ho,hb⟩:=hrel;obtain⟨oa,oc,hov⟩:=ho.shape;subst hov;by_cases hlt:k < l.length
  ·have hltI:(k:Int) < (l.length:Int):=(by omega);obtain⟨g,cap,he⟩:=h'.out.form2 (by omega);obtain⟨rfl,rfl⟩:va=some ⟨g,0,none⟩∧vc=cap:=(by injection he with h1 h2 h3;exact⟨h1,h3⟩);obtain⟨u,hcu,hu⟩:=OII.get (h'.out.keep hb.out) hlt;obtain⟨x,hx⟩:=exE (l.getD k []);have hxm:x∈l:=(by rw[←hx];exact getD_mem hlt);rw[hx] at hu;obtain⟨ua,uc,huv⟩:=hu.shape;subst huv
   have hfs:(l.take (k+1)).filter p=(l.take k).filter p++if p x then [x] else []:=by
    rw[take_snoc hlt [],hx,List.filter_append];cases hp:p x<;>simp[hp]
   have HC:=HF.out wr hb.out x hxm _ hu;obtain⟨N,hN⟩:=exE (((l.take k).filter p).length);have hNl:N≤l.length:=(by rw[←hN];exact Nat.le_trans (List.length_filter_le _ _) (by rw[List.length_take];omega));rw[hN] at ho⊢;cases hp:p x with
   | true=>
    rw[hp] at HC;rw[if_pos hp] at hfs;replace HC:=qH HC;have hfl:((l.take (k+1)).filter p).length=N+1:=(by rw[hfs,List.length_append,hN];rfl);replace hfs:=qH hfs;replace hfl:=qH hfl;replace hN:=qH hN;clear hx he;go_wp2_with fail
    refine HC.out.mono ?_;rintro e w1 ⟨rfl,hb1⟩;have ho1:=ho.keep hb1;have hu1:=hu.keep hb1;have hbw:=bt hb.out hb1 hb.out.size;clear ho hu hcu;go_wp2_with (at_builtin;refine wpApp1S rfl _ _ rfl rfl ho1 rfl hu1 rfl (by omega) hbw.size ?_;intro v2 w2 ho2 hb2 hm2)
    have hfin:OII w2 w.heap.size v2 ((l.take (k+1)).filter p).length ((l.take (k+1)).filter p):=(by rw[hfl.out,hfs.out];exact ho2);clear ho2 ho1;go_wp2_with fail
    go_roundw
    case rel=>exact⟨k+1,by go_num,by omega,hfin,hbw.trans hb2⟩
    case measure=>simp[intOf];omega
   | false=>
    rw[hp] at HC;rw[if_neg (by rw[hp];decide),List.append_nil] at hfs;replace HC:=qH HC;have hfl:((l.take (k+1)).filter p).length=N:=(by rw[hfs,hN]);replace hfs:=qH hfs;replace hfl:=qH hfl;replace hN:=qH hN;clear hx he;go_wp2_with fail
    refine HC.out.mono ?_;rintro e w1 ⟨rfl,hb1⟩;have hbw:=bt hb.out hb1 hb.out.size;have hfin:OII w1 w.heap.size (.slice oa N oc) ((l.take (k+1)).filter p).length ((l.take (k+1)).filter p):=(by rw[hfl.out,hfs.out];exact ho.keep hb1);clear ho hu hcu;go_wp2_with fail
    go_roundw
    case rel=>exact⟨k+1,by go_num,by omega,hfin,hbw⟩
    case measure=>simp[intOf];omega
  ·obtain rfl:k=l.length:=(by omega);rw[List.take_length] at ho⊢;go_wp2;go_ret2
   exact⟨_,rfl,ho,hb.out⟩
theorem chosenS {w:World}{v:Value}{B0:Nat}{caps:Array Value}{l:List (List Int)}{p:List Int→Bool}(h:OII w B0 v l.length l) (hl:l.length≤1000)
  (HF:∀W,Below w.heap.size w W→∀x∈l,∀u,OI W 0 u x.length x→Calls Tryz.prog 80 (#[u]++caps) W fun e w'=>e = .returned (.tuple #[.bool (p x),.int .i64 0])∧Below W.heap.size W w') :
  Calls Tryz.prog 57 #[v,.func (.func 80) #[] caps] w (RII w (l.filter p) 0):=by
 have h':=qH h;obtain⟨va,vc,rfl⟩:=h.shape;replace HF:=qH HF;have ho0:OII w w.heap.size (.slice none 0 0) ((l.take 0).filter p).length ((l.take 0).filter p):=OII.nil _ _;have hb0:=Below.refl w.heap.size w;clear h;go_enter Tryz.func57, Tryz.ntmps57
 go_wp2_with fail
 go_loopw [6,13] (fun ov jv wr=>∃k:Nat,jv = .int .i64 (k:Int)∧k≤l.length∧OII wr w.heap.size ov ((l.take k).filter p).length ((l.take k).filter p)∧Hid (Below w.heap.size w wr)) (fun _ jv _=>l.length - (intOf jv).toNat)
 case atStart=>exact⟨0,rfl,Nat.zero_le _,ho0,hb0⟩
 case round=>
  clear ho0 hb0;obtain⟨k,rfl,hk,ho,hb⟩:=hrel;obtain⟨oa,oc,hov⟩:=ho.shape;subst hov;by_cases hlt:k < l.length
  ·have hltI:(k:Int) < (l.length:Int):=(by omega);obtain⟨g,cap,he⟩:=h'.out.form2 (by omega);obtain⟨rfl,rfl⟩:va=some ⟨g,0,none⟩∧vc=cap:=(by injection he with h1 h2 h3;exact⟨h1,h3⟩);obtain⟨u,hcu,hu⟩:=OII.get (h'.out.keep hb.out) hlt;obtain⟨x,hx⟩:=exE (l.getD k []);have hxm:x∈l:=(by rw[←hx];exact getD_mem hlt);rw[hx] at hu;obtain⟨ua,uc,huv⟩:=hu.shape;subst huv
   have hfs:(l.take (k+1)).filter p=(l.take k).filter p++if p x then [x] else []:=by
    rw[take_snoc hlt [],hx,List.filter_append];cases hp:p x<;>simp[hp]
   have HC:=HF.out wr hb.out x hxm _ hu;obtain⟨N,hN⟩:=exE (((l.take k).filter p).length);have hNl:N≤l.length:=(by rw[←hN];exact Nat.le_trans (List.length_filter_le _ _) (by rw[List.length_take];omega));rw[hN] at ho⊢;cases hp:p x with
   | true=>
    rw[hp] at HC;rw[if_pos hp] at hfs;replace HC:=qH HC;have hfl:((l.take (k+1)).filter p).length=N+1:=(by rw[hfs,List.length_append,hN];rfl);replace hfs:=qH hfs;replace hfl:=qH hfl;replace hN:=qH hN;clear hx he;go_wp2_with fail
    refine HC.out.mono ?_;rintro e w1 ⟨rfl,hb1⟩;have ho1:=ho.keep hb1;have hu1:=hu.keep hb1;have hbw:=bt hb.out hb1 hb.out.size;clear ho hu hcu;go_wp2_with (at_builtin;refine wpApp1S rfl _ _ rfl rfl ho1 rfl hu1 rfl (by omega) hbw.size ?_;intro v2 w2 ho2 hb2 hm2)
    have hfin:OII w2 w.heap.size v2 ((l.take (k+1)).filter p).length ((l.take (k+1)).filter p):=(by rw[hfl.out,hfs.out];exact ho2);clear ho2 ho1;go_wp2_with fail
    go_roundw
    case rel=>exact⟨k+1,by go_num,by omega,hfin,hbw.trans hb2⟩
    case measure=>simp[intOf];omega
   | false=>
    rw[hp] at HC;rw[if_neg (by rw[hp];decide),List.append_nil] at hfs;replace HC:=qH HC;have hfl:((l.take (k+1)).filter p).length=N:=(by rw[hfs,hN]);replace hfs:=qH hfs;replace hfl:=qH hfl;replace hN:=qH hN;clear hx he;go_wp2_with fail
    refine HC.out.mono ?_;rintro e w1 ⟨rfl,hb1⟩;have hbw:=bt hb.out hb1 hb.out.size;have hfin:OII w1 w.heap.size (.slice oa N oc) ((l.take (k+1)).filter p).length ((l.take (k+1)).filter p):=(by rw[hfl.out,hfs.out];exact ho.keep hb1);clear ho hu hcu;go_wp2_with fail
    go_roundw
    case rel=>exact⟨k+1,by go_num,by omega,hfin,hbw⟩
    case measure=>simp[intOf];omega
  ·obtain rfl:k=l.length:=(by omega);rw[List.take_length] at ho⊢;go_wp2;go_ret2
   exact⟨_,rfl,ho,hb.out⟩
theorem keptS {w:World}{v:Value}{B0:Nat}{caps:Array Value}{l:List (List Int)}{p:List Int→Bool}(h:OII w B0 v l.length l) (hl:l.length≤1000)
  (HF:∀W,Below w.heap.size w W→∀x∈l,∀u,OI W 0 u x.length x→Calls Tryz.prog 120 (#[u]++caps) W fun e w'=>e = .returned (.bool (p x))∧Below W.heap.size W w') :
  Calls Tryz.prog 119 #[v,.func (.func 120) #[] caps] w fun e w'=>∃r,e = .returned r∧OII w' w.heap.size r (l.filter p).length (l.filter p)∧Below w.heap.size w w':=by
 have h':=qH h;obtain⟨va,vc,rfl⟩:=h.shape;replace HF:=qH HF;have ho0:OII w w.heap.size (.slice none 0 0) ((l.take 0).filter p).length ((l.take 0).filter p):=OII.nil _ _;have hb0:=Below.refl w.heap.size w;clear h;go_enter Tryz.func119, Tryz.ntmps119
 go_wp2_with fail
 go_loopw [5,10] (fun ov jv wr=>∃k:Nat,jv = .int .i64 (k:Int)∧k≤l.length∧OII wr w.heap.size ov ((l.take k).filter p).length ((l.take k).filter p)∧Hid (Below w.heap.size w wr)) (fun _ jv _=>l.length - (intOf jv).toNat)
 case atStart=>exact⟨0,rfl,Nat.zero_le _,ho0,hb0⟩
 case round=>
  clear ho0 hb0;obtain⟨k,rfl,hk,ho,hb⟩:=hrel;obtain⟨oa,oc,hov⟩:=ho.shape;subst hov;by_cases hlt:k < l.length
  ·have hltI:(k:Int) < (l.length:Int):=(by omega);obtain⟨g,cap,he⟩:=h'.out.form2 (by omega);obtain⟨rfl,rfl⟩:va=some ⟨g,0,none⟩∧vc=cap:=(by injection he with h1 h2 h3;exact⟨h1,h3⟩);obtain⟨u,hcu,hu⟩:=OII.get (h'.out.keep hb.out) hlt;obtain⟨x,hx⟩:=exE (l.getD k []);have hxm:x∈l:=(by rw[←hx];exact getD_mem hlt);rw[hx] at hu;obtain⟨ua,uc,huv⟩:=hu.shape;subst huv
   have hfs:(l.take (k+1)).filter p=(l.take k).filter p++if p x then [x] else []:=by
    rw[take_snoc hlt [],hx,List.filter_append];cases hp:p x<;>simp[hp]
   have HC:=HF.out wr hb.out x hxm _ hu;obtain⟨N,hN⟩:=exE (((l.take k).filter p).length);have hNl:N≤l.length:=(by rw[←hN];exact Nat.le_trans (List.length_filter_le _ _) (by rw[List.length_take];omega));rw[hN] at ho⊢;cases hp:p x with
   | true=>
    rw[hp] at HC;rw[if_pos hp] at hfs;replace HC:=qH HC;have hfl:((l.take (k+1)).filter p).length=N+1:=(by rw[hfs,List.length_append,hN];rfl);replace hfs:=qH hfs;replace hfl:=qH hfl;replace hN:=qH hN;clear hx he;go_wp2_with fail
    refine HC.out.mono ?_;rintro e w1 ⟨rfl,hb1⟩;have ho1:=ho.keep hb1;have hu1:=hu.keep hb1;have hbw:=bt hb.out hb1 hb.out.size;clear ho hu hcu;go_wp2_with (at_builtin;refine wpApp1S rfl _ _ rfl rfl ho1 rfl hu1 rfl (by omega) hbw.size ?_;intro v2 w2 ho2 hb2 hm2)
    have hfin:OII w2 w.heap.size v2 ((l.take (k+1)).filter p).length ((l.take (k+1)).filter p):=(by rw[hfl.out,hfs.out];exact ho2);clear ho2 ho1;go_wp2_with fail
    go_roundw
    case rel=>exact⟨k+1,by go_num,by omega,hfin,hbw.trans hb2⟩
    case measure=>simp[intOf];omega
   | false=>
    rw[hp] at HC;rw[if_neg (by rw[hp];decide),List.append_nil] at hfs;replace HC:=qH HC;have hfl:((l.take (k+1)).filter p).length=N:=(by rw[hfs,hN]);replace hfs:=qH hfs;replace hfl:=qH hfl;replace hN:=qH hN;clear hx he;go_wp2_with fail
    refine HC.out.mono ?_;rintro e w1 ⟨rfl,hb1⟩;have hbw:=bt hb.out hb1 hb.out.size;have hfin:OII w1 w.heap.size (.slice oa N oc) ((l.take (k+1)).filter p).length ((l.take (k+1)).filter p):=(by rw[hfl.out,hfs.out];exact ho.keep hb1);clear ho hu hcu;go_wp2_with fail
    go_roundw
    case rel=>exact⟨k+1,by go_num,by omega,hfin,hbw⟩
    case measure=>simp[intOf];omega
  ·obtain rfl:k=l.length:=(by omega);rw[List.take_length] at ho⊢;go_wp2;go_ret;exact⟨_,rfl,ho,hb.out⟩
theorem elemBl:ElemOK Tryz.prog 106 4 (.bool false) 1:=⟨by kernel_rfl,by kernel_rfl,rfl⟩
theorem bMake {w:World}{ops:Array Oper}{rest:List Oper}{o:Oper}{a:Act}{Q:Exit→Act→World→Prop}(hgd:o.guard=none) (l c:Operand)
  (ho:o.op = .makeSlice 106 l c) (n:Nat) (hl:a.eval l = .int .i64 (n:Int)) (hc:a.eval c = .int .i64 (n:Int)) (hn:n≤1000000000000) {B:Nat} (hB:B≤w.heap.size)
  (h:∀w',OB w' B (.slice (some ⟨w.heap.size,0,none⟩) n n) n (List.replicate n false)→w.grownBy w' none→Below w.heap.size w w'→wpList Tryz.prog ops Q rest (a.put o.dst (.slice (some ⟨w.heap.size,0,none⟩) n n)) w') :
  wpList Tryz.prog ops Q (o::rest) a w:=
 wpMake elemBl (by decide) hgd l c ho n hl hc hn hB fun w' h1 h2 h3=>h w' (by unfold OB;rw[List.map_replicate];exact h1) h2 h3
theorem OB.cellB {w:World}{B g n cap:Nat}{xs:List Bool}(h:OB w B (.slice (some ⟨g,0,none⟩) n cap) n xs) {j:Nat}(hj:j < n):w.cell? ⟨g,j,none⟩=some (.bool (xs.getD j false)):=by
 have hl:=h.length;rw[World.ownsRow.cellAt h j (by omega)];simp[show j < xs.length by omega]
theorem OB.freeB {w:World}{B g n cap:Nat}{xs:List Bool}(h:OB w B (.slice (some ⟨g,0,none⟩) n cap) n xs) (j:Nat):w.frozen? ⟨g,j,none⟩=false:=World.ownsRow.frozenAt h j
theorem OB.same {w w':World}{B g n cap:Nat}{xs:List Bool}(h:OB w B (.slice (some ⟨g,0,none⟩) n cap) n xs) (hk:w'.heap[g]? = w.heap[g]?):OB w' B (.slice (some ⟨g,0,none⟩) n cap) n xs:=by
 refine⟨h.1,?_⟩;rcases h.2 with h'|⟨g',c',cur,he,h2,h3,h4⟩
 ·exact .inl h'
 ·injection he with e1 e2 e3;injection e1 with e1;injection e1 with e1;subst e1;exact .inr ⟨g,c',cur,by rw[e3],h2,hk.trans h3,h4⟩
theorem OB.lt {w:World}{B g n cap:Nat}{xs:List Bool}(h:OB w B (.slice (some ⟨g,0,none⟩) n cap) n xs):g < w.heap.size∧∃cs,w.heap[g]? = some (.cells cs 4):=by
 obtain⟨cs,hc⟩:=ownsRow_ty h g rfl;exact⟨(Array.getElem?_eq_some_iff.1 hc).1,cs,hc⟩
theorem OII.otherX {w w':World}{B n:Nat}{v:Value}{xss:List (List Int)}{E':TypeId}(h:OII w B v n xss) (h1:25 ≠ E') (h2:3 ≠ E') (hx:KeepX E' w w'):OII w' B v n xss:=by
 obtain⟨vs,k1,k2,k3,k4⟩:=h;exact⟨vs,ownsRow_X k1 h1 hx,k2,k3,fun j hj=>ownsRow_X (k4 j hj) h2 hx⟩
theorem keepB {w w':World}{g:Nat}{cs:Array Value}(hg:w.heap[g]? = some (.cells cs 4)) (h:Only (fun k=>k=g) w w'):KeepX 4 w w':=fun k cs' t hk ht=>by
 refine h.same k (Array.getElem?_eq_some_iff.1 hk).1 fun e=>?_;have e:k=g:=e;rw[e,hg] at hk;injection hk with hk;injection hk with _ hk;exact ht hk.symm
theorem sortL_len21 (xs:List Int):(sortL xs).length=xs.length:=by simp[sortL,List.length_mergeSort]
theorem genR_grp {k:Nat}{l:List (List Int)}(hz:chkList k l=0):Grp k (genR k l)∧(1≤k∧k≤5)∧(∀a∈l,IsP k a)∧∃G,clGo l 3126 0 [oneL k]=some G∧InvG k G∧∀x,x∈genR k l↔x∈G:=by
 obtain⟨hn,hl,hP⟩:=chkList_ok hz;have h1:1≤k:=by omega
 have h5:k≤5:=by omega
 rw[Int.toNat_natCast] at hP;obtain⟨G,hG,hI⟩:=clGo_start (n:=k) h5 hP;obtain⟨hGr,hgen⟩:=closure_grp h5 hP hG hI
 have hm:∀x,x∈genR k l↔x∈G:=fun x=>by
  rw[genR,if_pos hz,Int.toNat_natCast,List.mem_filter,decide_eq_true_iff,closL,hG,Option.getD_some];exact⟨fun h=>h.2,fun h=>⟨mem_everyL.2 (hI.2 x h),h⟩⟩
 refine⟨⟨?_,fun y hy=>hGr.isP y ((hm y).1 hy),(hm _).2 hGr.one,fun y hy z hz=>(hm _).2 (hGr.mul y ((hm y).1 hy) z ((hm z).1 hz))⟩,⟨h1,h5⟩,hP,G,hG,hI,hm⟩;rw[genR,if_pos hz,Int.toNat_natCast];exact(every_nodup k h5).filter _
theorem genR_len {k:Nat}{l:List (List Int)}(hz:chkList k l=0) (h5:k≤5):(genR k l).length≤1000:=by
 rw[genR,if_pos hz,Int.toNat_natCast];refine Nat.le_trans (List.length_filter_le _ _) ?_;have:k=0∨k=1∨k=2∨k=3∨k=4∨k=5:=by omega
 rcases this with rfl|rfl|rfl|rfl|rfl|rfl<;>decide +kernel
open Go.Sort in
theorem sortI21 {w:World}{B n:Nat}{v:Value}{xs:List Int}(h:OI w B v n xs) (hn:0 < n) (hn2:n≤1000) :
  Calls Tryz.prog 61 #[v] w fun e w'=>e = .returned (.tuple #[])∧OI w' B v n (sortL xs)∧Below B w w'∧w.grownBy w' v.ownBlock:=by
 have hne:v ≠ .slice none 0 0:=by
  rintro rfl;rcases h.2 with⟨_,h0⟩|⟨g,cap,cur,h1,_⟩
  ·omega
  ·cases h1
 obtain⟨g,cap,rfl,hB,hg,hnc,hcm,hl,hH⟩:=Lib.holds_of_ownsRow h hne;have hc:=AnyM.slices_Sort_int Tryz.sortI g 0 cap xs w hH hg (by omega);rw[hl] at hc;refine hc.mono ?_;rintro e w' ⟨rfl,q,os,rfl⟩;have h1:=Lib.ownsRow_putRow (q:=q) (k:=n) (ys:=sortL xs) h (by rw[sortL_len21,hl]) (Nat.le_refl _);have ht:(sortL xs).take n=sortL xs:=List.take_of_length_le (by rw[sortL_len21];omega);rw[ht] at h1;have h2:OI (grow (putRow (Value.int .i64) (Sort.ahead w q) g 0 (sortL xs).toArray) os) B (.slice (some ⟨g,0,none⟩) n cap) n (sortL xs):=OI.keep h1 ⟨rfl,rfl,rfl,by simp[grow],fun k hk=>Array.getElem?_append_left hk⟩;have hgb:=grownBy_sortedI (w:=w) (g:=g) (n:=q) (os:=os) (sortL xs).toArray;refine⟨rfl,h2,(Below.refl B w).grown hgb ?_ ?_,hgb⟩
 ·omega
 ·intro k hk;injection hk with hk;omega
theorem obIn_cons (p:Nat) (g:List Int) (G:List (List Int)) (S:List Bool) (o:List Int):obIn p (g::G) (S,o)=obIn p G (if S.getD (g.getD p 0).toNat false then (S,o) else (S.set (g.getD p 0).toNat true,o ++ [g.getD p 0])):=rfl
theorem obIn_len (p:Nat):∀(G:List (List Int)) (S:List Bool) (o:List Int),(obIn p G (S,o)).1.length=S.length
 | [],_,_=>rfl
 | g::G,S,o=>by
  rw[obIn_cons];split
  ·exact obIn_len p G S o
  ·rw[obIn_len p G,List.length_set]
theorem obIn_le (p:Nat):∀(G:List (List Int)) (S:List Bool) (o:List Int),(obIn p G (S,o)).2.length≤o.length+G.length
 | [],_,_=>by simp[obIn]
 | g::G,S,o=>by
  rw[obIn_cons,List.length_cons];split
  ·have:=obIn_le p G S o;omega
  ·have:=obIn_le p G (S.set (g.getD p 0).toNat true) (o ++ [g.getD p 0]);rw[List.length_append] at this;simp only[List.length_cons,List.length_nil] at this;omega
theorem obIn_pos {n p:Nat}{G:List (List Int)}(hG:Grp n G) (hp:p < n) {S:List Bool}(hS:S.length=n) (hs:S.getD p false=false):0 < (obIn p G (S,[])).2.length:=by
 obtain⟨_,_,_,i4⟩:=obIn_spec hp (L:=G) (S:=S) (o:=[]) hG.isP hS;have:=(i4 (p:Int)).2 (.inr ⟨ob_refl hG hp,by rw[Int.toNat_natCast];exact hs⟩)
 exact List.length_pos_of_mem this
theorem obGo_skip (G:List (List Int)) (k p:Nat) {S:List Bool}(o:List (List Int)) (h:S.getD p false=true):obGo G (k+1) p (S,o)=obGo G k (p+1) (S,o):=by rw[obGo,if_pos h]
theorem obGo_take (G:List (List Int)) (k p:Nat) {S:List Bool}(o:List (List Int)) (h:S.getD p false=false):obGo G (k+1) p (S,o)=obGo G k (p+1) ((obIn p G (S,[])).1,o ++ [sortL (obIn p G (S,[])).2]):=by rw[obGo,if_neg (by rw[h];decide)]
def obsR (n:Int) (l:List (List Int)):List (List Int):=if chkList n l=0 then orbP (genR n l) n.toNat else []
theorem orbitsC {w:World}{v:Value}{l:List (List Int)}(n:Int) (h:Intss w v l):Calls Tryz.prog 22 #[.int .i64 n,v] w (RII w (obsR n l) (chkList n l)):=by
 have HG:=qH (generate n h);obtain⟨va,vc,hv⟩:∃a c,v = .slice a l.length c:=by obtain⟨a,c,_,_,h,_⟩:=h;exact⟨a,c,h⟩
 subst hv;clear h;obtain⟨E,hE⟩:=exE (chkList n l);rw[hE] at HG;by_cases h0:E=0
 ·subst h0;obtain⟨k,rfl⟩:∃k:Nat,n=(k:Int):=⟨n.toNat,by have:=(chkList_ok hE).1;omega⟩;obtain⟨hGr,⟨h1,h5⟩,_⟩:=genR_grp hE;have hGl:=genR_len hE h5;have hR:obsR k l=orbP (genR k l) k:=by rw[obsR,if_pos hE,Int.toNat_natCast]
  rw[hR,hE];obtain⟨G,hGG⟩:=exE (genR k l);rw[hGG] at HG hGr hGl⊢;have hgp:=qH hGr
  have hg0:Hid (∀(g:List Int),g∈G→∀p,p < k→∃q:Nat,g.getD p 0=(q:Int)∧q < k∧g.length=k):=fun g hg p hp=>by
   have hP:=hGr.isP g hg;have:=hP.at hp
   exact⟨(g.getD p 0).toNat,by omega,by omega,hP.1⟩
  clear hR hE hGG hGr;go_enter Tryz.func22, Tryz.ntmps22
  go_wp2_with fail
  refine HG.out.mono ?_;rintro e W3 ⟨r,rfl,hO,hb3⟩;obtain⟨ra,rc,rfl⟩:=hO.shape;have hOk:=qH hO;clear hO HG;go_wp2_with (at_make;refine bMake rfl _ _ rfl k rfl rfl (by omega) (Nat.le_refl _) ?_;intro W4 ho4 _ hb4)
  obtain⟨gs,hgs⟩:=exF (W3.heap.size);rw[←hgs] at ho4 hb4⊢;have hgl:gs≤W3.heap.size∧W3.heap.size≤gs:=by omega
  have hout0:OII W4 (gs+1) (.slice none 0 0) ([]:List (List Int)).length []:=OII.nil _ _;have hst0:Hid (obGo G (k - 0) 0 (List.replicate k false,[])=orbP G k):=rfl;replace hb4:Below gs W3 W4:=hb4;replace hgs:=qH hgs;go_loopw [9,26] (fun ov pv wr=>∃(p:Nat) (S:List Bool) (o:List (List Int)),pv = .int .i64 (p:Int)∧p≤k∧OB wr gs (.slice (some ⟨gs,0,none⟩) k k) k S∧OII wr (gs+1) ov o.length o∧Below gs W3 wr∧Hid (obGo G (k - p) p (S,o)=orbP G k)∧gs+1≤wr.heap.size∧o.length≤p) (fun _ pv _=>k - (intOf pv).toNat)
  case atStart=>exact⟨0,_,[],rfl,Nat.zero_le _,ho4,hout0,hb4,hst0,ho4.lt.1,Nat.le_refl _⟩
  case round=>
   clear ho4 hout0 hb4 hst0;obtain⟨p,S,o,rfl,hp,hS,ho,hbr,hst,hsz,hol⟩:=hrel;obtain⟨oa,oc,hov⟩:=ho.shape;subst hov;have hSl:=hS.length;by_cases hlt:p < k
   ·have hltI:(p:Int) < (k:Int):=(by omega);have cs:=hS.cellB hlt;obtain⟨b,hb⟩:=exE (S.getD p false);rw[hb] at cs;obtain⟨f,hf⟩:∃f,k - p=f+1:=⟨k - p - 1,by omega⟩;have hf2:k - (p+1)=f:=(by omega);cases b with
    | true=>
     have hst2:Hid (obGo G (k - (p+1)) (p+1) (S,o)=orbP G k):=by
      have:=hst.out
      rw[hf,obGo_skip G f p o hb,←hf2] at this;exact this
     clear hst hb hf hf2;go_wp2_with fail
     go_roundw
     case rel=>exact⟨p+1,S,o,by go_num,by omega,hS,ho,hbr,hst2,hsz,by omega⟩
     case measure=>simp[intOf];omega
    | false=>
     have hst2:Hid (obGo G (k - (p+1)) (p+1) ((obIn p G (S,[])).1,o ++ [sortL (obIn p G (S,[])).2])=orbP G k):=by
      have:=hst.out
      rw[hf,obGo_take G f p o hb,←hf2] at this;exact this
     have hpos:=obIn_pos hgp.out hlt hSl hb;have hle:=obIn_le p G S [];have hle2:=obIn_len p G S [];obtain⟨S',hS'⟩:∃S',(obIn p G (S,[])).1=S':=⟨_,rfl⟩;obtain⟨o',ho'⟩:∃o',(obIn p G (S,[])).2=o':=⟨_,rfl⟩;rw[hS'] at hst2 hle2;rw[ho'] at hst2 hpos hle;simp only[List.length_nil,Nat.zero_add] at hle
     have hin0:Hid (obIn p (G.drop 0) (S,[])=(S',o')):=by
      show obIn p G (S,[])=(S',o');rw[←hS',←ho']
     obtain⟨wo,hwo⟩:=exF (wr);subst hwo;have hOr:=hOk.out;have hri0:OI wo wo.heap.size (.slice none 0 0) ([]:List Int).length []:=OI.nil _ _;have hon0:=Only.refl (fun k=>k=gs) wo;obtain⟨hgs2,csb,hcsb⟩:=hS.lt;replace hst2:=qH hst2;replace hSl:=qH hSl;replace hle2:=qH hle2;clear hst hb hf hf2 hS' ho';go_wp2_with fail
     go_loopw [11,35] (fun rv jv wr=>∃(j:Nat) (T:List Bool) (q:List Int),jv = .int .i64 (j:Int)∧j≤G.length∧OB wr gs (.slice (some ⟨gs,0,none⟩) k k) k T∧OI wr wo.heap.size rv q.length q∧Only (fun k=>k=gs) wo wr∧Hid (obIn p (G.drop j) (T,q)=(S',o'))∧q.length≤j) (fun _ jv _=>G.length - (intOf jv).toNat)
     case atStart=>exact⟨0,S,[],rfl,Nat.zero_le _,hS,hri0,hon0,hin0,Nat.le_refl _⟩
     case round=>
      clear hS hri0 hon0 hin0;obtain⟨j,T,q,rfl,hj,hT,hq,hon,hin,hql⟩:=hrel;obtain⟨qa,qc,hqv⟩:=hq.shape;subst hqv;have hbr2:Below gs W3 wr:=hbr.trans (hon.below (by omega) (fun k hk=>by have hk:k=gs:=hk;omega));by_cases hltj:j < G.length
      ·have hltJ:(j:Int) < (G.length:Int):=(by omega);obtain⟨g,cap,he⟩:=hOk.out.form2 (by omega);obtain⟨rfl,rfl⟩:ra=some ⟨g,0,none⟩∧rc=cap:=(by injection he with h1 h2 h3;exact⟨h1,h3⟩);obtain⟨u,hcu,hu⟩:=OII.get (hOk.out.keep (hbr2.mono hgl.2)) hltj;obtain⟨x,hx⟩:=exE (G.getD j []);obtain⟨y,hxy,hyk,hxl⟩:=hg0.out x (by rw[←hx];exact getD_mem hltj) p hlt;have hin2:=hin.out;rw[drop_cons hltj ([]:List Int),hx,obIn_cons,hxy,Int.toNat_natCast] at hin2;rw[hx,hxl] at hu;obtain⟨ua,uc,huv⟩:=hu.shape;subst huv;have hpos1:0 < k:=by omega
       obtain⟨g1,rfl⟩:∃g1,ua=some ⟨g1,0,none⟩:=by
        rcases hu.2 with⟨_,h0⟩|⟨g1,c1,cur,he1,_⟩
        ·omega
        ·injection he1 with e1 _ _;exact⟨g1,e1⟩
       have c1:=hu.cell hlt;rw[hxy] at c1;have c2:=hT.cellB hyk;obtain⟨t,ht⟩:=exE (T.getD y false);rw[ht] at c2 hin2;have hyI:(y:Int) < (k:Int):=(by omega);have hy0:(0:Int)≤(y:Int):=(by omega);obtain⟨hgT,csT,hcsT⟩:=hT.lt;cases t with
       | true=>
        rw[if_pos rfl] at hin2;replace hin2:=qH hin2;clear hx hxy hxl ht he hin;go_wp2_with fail
        go_roundw
        case rel=>exact⟨j+1,T,q,by go_num,by omega,hT,hq,hon,hin2,by omega⟩
        case measure=>simp[intOf];omega
       | false=>
        rw[if_neg (by decide)] at hin2;have fz:=hT.freeB y;have hT1:=OB.store hT y true;obtain⟨W5,hW5⟩:=exF (wr.setCell ⟨gs,y,none⟩ (.bool true));rw[←hW5] at hT1
        have hne1:g1 ≠ gs:=fun e=>by
         rcases hu.2 with⟨_,h0⟩|⟨g2,c3,cur,he1,_,hg2,_⟩
         ·omega
         ·injection he1 with e1 _ _;injection e1 with e1;injection e1 with e1;rw[←e1,e,hcsT] at hg2;injection hg2 with hg2;injection hg2 with _ hg2;exact absurd hg2 (by decide)
        have hk5:∀z,z ≠ gs→W5.heap[z]? = wr.heap[z]?:=fun z hz=>by rw[hW5];exact Below.heap_setCell _ _ _ _ hz
        have c15:W5.cell? ⟨g1,p,none⟩=some (.int .i64 (y:Int)):=(World.cell?_of_block (hk5 g1 hne1)).trans c1
        have hcu5:W5.cell? ⟨g,j,none⟩=some (.slice (some ⟨g1,0,none⟩) k uc):=by
         refine(World.cell?_of_block (hk5 g fun e=>?_)).trans hcu;obtain⟨vs,v1,_⟩:=hOk.out.keep (hbr2.mono hgl.2);obtain⟨cs5,hcs5⟩:=ownsRow_ty v1 g rfl;rw[e,hcsT] at hcs5;injection hcs5 with hcs5;injection hcs5 with _ hcs5;exact absurd hcs5 (by decide)
        have hon5:Only (fun k=>k=gs) wo W5:=by rw[hW5];exact hon.setCell (p:=⟨gs,y,none⟩) rfl _
        have hq5:OI W5 wo.heap.size (.slice qa q.length qc) q.length q:=by
         rw[hW5];exact ownsRow_X hq (by decide) (KeepX.setCell (p:=⟨gs,y,none⟩) hcsT _)
        replace hin2:=qH hin2;have hsz5:wo.heap.size≤W5.heap.size:=hon5.size;clear hx hxy hxl ht he hin hT hq;go_upto_region 16 with fail
        rw[←hW5];replace hW5:=qH hW5;go_wp2_with (at_builtin;refine wpAppI rfl _ _ rfl rfl hq5 rfl (by omega) hsz5 ?_;intro v6 w6 hq6 hg6 hb6)
        have hT6:=hT1.same (hb6.block gs (by omega));have hon6:=hon5.thenBelow hb6;have hq7:OI w6 wo.heap.size v6 (q ++ [(y:Int)]).length (q ++ [(y:Int)]):=(by rw[List.length_append];exact hq6);clear hq5 hq6 hT1 c15 hcu5;go_wp2_with fail
        go_roundw
        case rel=>exact⟨j+1,_,_,by go_num,by omega,hT6,hq7,hon6,hin2,by rw[List.length_append];simp;omega⟩
        case measure=>simp[intOf];omega
      ·obtain rfl:j=G.length:=(by omega);have hin2:=hin.out;rw[List.drop_eq_nil_of_le (Nat.le_refl _)] at hin2;have hin3:(T,q)=(S',o'):=hin2;injection hin3 with e1 e2;subst e1 e2;have HS:=qH (sortI21 hq hpos (by omega));clear hin hin2;go_wp2_with fail
       refine HS.out.mono ?_;rintro e w6 ⟨rfl,hq6,hb6,_⟩;have hT6:=hT.same (hb6.block gs (by omega));have hon6:=hon.thenBelow hb6;have ho6:=ho.otherX (E':=4) (by decide) (by decide) (keepB hcsb hon6);obtain⟨z,hz⟩:=exE (sortL q);have hzl:z.length=q.length:=(by rw[←hz,sortL_len21]);rw[hz] at hq6;have hst3:=hst2.out;rw[hz] at hst3;have hu6:OI w6 0 (.slice qa q.length qc) z.length z:=(by rw[hzl];exact hq6.base (Nat.zero_le _));have hsz6:gs+1≤w6.heap.size:=Nat.le_trans hsz hon6.size;have hbr6:Below gs W3 w6:=hbr2.trans (hb6.mono (by omega));replace hst3:=qH hst3;replace hz:=qH hz;replace hzl:=qH hzl;have hol6:o.length≤1000:=(by omega);clear hq hq6 hT ho hst2;go_wp2_with (at_builtin;refine wpApp1S rfl _ _ rfl rfl ho6 rfl hu6 rfl (by omega) hsz6 ?_;intro v7 w7 ho7 hb7 _)
       have hT7:=hT6.same (hb7.block gs (by omega));have ho8:OII w7 (gs+1) v7 (o ++ [z]).length (o ++ [z]):=(by rw[List.length_append];exact ho7);have hbr7:Below gs W3 w7:=hbr6.trans (hb7.mono (by omega));have hsz7:gs+1≤w7.heap.size:=Nat.le_trans hsz6 hb7.size;have hl7:(o ++ [z]).length≤p+1:=(by rw[List.length_append];simp;omega);clear hT6 ho6 ho7 hu6;go_wp2_with fail
       go_roundw
       case rel=>exact⟨p+1,T,o ++ [z],by go_num,by omega,hT7,ho8,hbr7,hst3,hsz7,hl7⟩
       case measure=>simp[intOf];omega
   ·obtain rfl:p=k:=(by omega);have hst2:=hst.out;rw[Nat.sub_self,obGo] at hst2;replace hst2:=qH hst2;have hfin:OII wr w.heap.size (.slice oa o.length oc) (orbP G p).length (orbP G p):=(by rw[←hst2.out];exact ho.base (by have:=hb3.size;omega));clear hst ho;go_wp2;go_ret2
    exact⟨_,rfl,hfin,hb3.trans (hbr.mono (by have:=hb3.size;omega))⟩
 ·have hgl:obsR n l = []:=by rw[obsR,if_neg (by rw[hE];exact h0)]
  have hEb:(E != 0)=true:=by simp[h0]
  rw[hgl,hE];clear hgl hE;go_enter Tryz.func22, Tryz.ntmps22
  go_wp2_with fail
  refine HG.out.mono ?_;rintro e W3 ⟨r,rfl,hO,hb3⟩;obtain⟨ra,rc,rfl⟩:=hO.shape;clear HG hO;go_wp2;go_ret2
  exact⟨_,rfl,OII.nil _ _,hb3⟩
theorem setP_of {n:Nat}{a:List Int}{s:Int}(h1:1≤n) (h5:n≤5) (ha:IsP n a) (h0:0≤s) (hs:s < 2 ^ n):setP a s=imgP a s n∧setE a s=0:=by
 have hz:=chk_of h1 h5 ha
 have hw:wrap64 (2 ^ n)=2 ^ n:=by
  have:n=1∨n=2∨n=3∨n=4∨n=5:=by omega
  rcases this with rfl|rfl|rfl|rfl|rfl<;>decide +kernel
 have he:setE a s=0:=by rw[setE,if_neg (fun h=>h hz),if_neg (by rw[ha.1,hw];omega)]
 exact⟨by rw[setP,if_pos he,ha.1],he⟩
theorem permRow {w:World}{bp bg bk n q p:Nat}{a bl:List Int}{u v:Value}{h:Int}(h1:1≤n) (h5:n≤5) (ha:IsP n a) (cp:w.cell? ⟨bp,0,none⟩=some u) (hu:Ints w u a) (ck:w.cell? ⟨bk,0,none⟩=some v) (hv:Ints w v bl)
  (hq:q < bl.length) (hbq:bl.getD q 0=(p:Int)) (hp:p < 5) (cg:w.cell? ⟨bg,1+p,none⟩=some (.int .i64 h)) (h0:0≤h) (hlt:h < 2 ^ n) :
  Calls Tryz.prog 132 #[.int .i64 (q:Int),.pointer (some ⟨bp,0,none⟩),.pointer (some ⟨bg,0,none⟩),.pointer (some ⟨bk,0,none⟩)] w fun e w'=>e = .returned (.int .i64 (imgP a h n))∧Below w.heap.size w w':=by
 obtain⟨e1,e2⟩:=setP_of h1 h5 ha h0 hlt;have hmx : Tryz.prog.follows .mixedOrders=true:=by kernel_rfl
 have HS:Hid (∀W,Below w.heap.size w W→Calls Tryz.prog 96 #[u,.int .i64 h] W (R2 W (imgP a h n) 0)):=fun W hW=>by
  have:=setCall (hu.keep hW) h
  rwa [e1,e2] at this
 obtain⟨va,vc,vb,vo,rfl,hva,hvc,_⟩:=hv;obtain rfl:=hva (by omega);have cq:=hvc q hq;rw[hbq] at cq
 have KS:Hid (∀W,Below w.heap.size w W→W.cell? ⟨bp,0,none⟩=some u∧W.cell? ⟨bk,0,none⟩=some (.slice (some ⟨vb,vo,none⟩) bl.length vc)∧W.cell? ⟨vb,vo+q,none⟩=some (.int .i64 (p:Int))∧W.cell? ⟨bg,1+p,none⟩=some (.int .i64 h)):=
  fun W hW=>⟨cell_kept hW cp,cell_kept hW ck,cell_kept hW cq,cell_kept hW cg⟩
 have hqi:(q:Int) < (bl.length:Int):=by omega
 have hpi:(p:Int) < 5:=by omega
 clear hva hvc hu e1 e2 hbq cp ck cq cg;go_enter Tryz.func132, Tryz.ntmps132
 go_wp2_with fail
 refine wp_region_bw hmx (by kernel_rfl) ?_
 repeat (refine WQ.step fun K hK=>?_;go_simp;first|(refine hK _ ?_;clear hK K)|(apply Exists.intro;refine⟨fun wq hC=>?_,hK _ ?_⟩;(·(first|with_reducible rfl|(obtain⟨k1,k2,k3,k4⟩:=KS.out wq hC;go_simp;first|done|with_reducible rfl|with_reducible exact⟨rfl,rfl⟩)|(refine(HS.out wq hC).mono ?_;rintro e w' ⟨rfl,hb⟩;exact⟨rfl,btt hC hb⟩)));clear hK K))
 refine WQ.nil ?_;intro w4 hq4;go_wp2;go_ret;exact⟨rfl,hq4⟩
theorem five {x:List Int}(h:x.length=5):∃a b c d e,x = [a,b,c,d,e]:=by
 match x,h with
 | [a,b,c,d,e],_=>exact⟨a,b,c,d,e,rfl⟩
def mdR (row:Nat→Int) (k:Nat):List Int:=(List.range 5).map fun j=>if j < k then row j else 0
theorem mdR_zero (row:Nat→Int):mdR row 0 = [0,0,0,0,0]:=by simp[mdR,List.range_succ]
theorem mdR_set (row:Nat→Int) {k:Nat}(_:k < 5):(mdR row k).set k (row k)=mdR row (k+1):=by
 refine List.ext_getElem (by simp[mdR]) fun j h1 h2=>?_;have hj:j < 5:=by simpa [mdR] using h2
 rw[List.getElem_set];simp only[mdR,List.getElem_map,List.getElem_range];by_cases e:k=j
 ·subst e;rw[if_pos rfl,if_pos (by omega)]
 ·rw[if_neg e];by_cases e2:j < k
  ·rw[if_pos e2,if_pos (by omega)]
  ·rw[if_neg e2,if_neg (by omega)]
theorem mdR_len (row:Nat→Int) (k:Nat):(mdR row k).length=5:=by simp[mdR]
theorem mdR_end (row:Nat→Int) {n:Nat}(hn:n≤5) {l:List Int}(hl:l.length=n) (h:∀j,j < n→l.getD j 0=row j):mdR row n=l++List.replicate (5 - n) 0:=by
 refine List.ext_getElem (by simp[mdR,hl];omega) fun j h1 h2=>?_;simp only[mdR,List.getElem_map,List.getElem_range];by_cases e:j < n
 ·rw[if_pos e,←h j e,getD_eq (by omega),List.getElem_append_left]
 ·rw[if_neg e,List.getElem_append_right (by omega),List.getElem_replicate]
def gBox (n:Int) (l:List Int):Obj:=.cells (((n::l).map (Value.int .i64)).toArray) 85
theorem gBox_set {W:World}{b k:Nat}{n y:Int}{l:List Int}(h:W.heap[b]? = some (gBox n l)):(W.setCell ⟨b,1+k,none⟩ (.int .i64 y)).heap[b]? = some (gBox n (l.set k y)):=by
 unfold gBox at h⊢;rw[heap_setCell_same W b (1+k) _ _ _ h];congr 2
 rw[show 1+k=k+1 by omega,List.map_cons,List.map_cons,List.map_set];simp
theorem gBox_cell {W:World}{b k:Nat}{n:Int}{l:List Int}(h:W.heap[b]? = some (gBox n l)) (hk:k < l.length):W.cell? ⟨b,1+k,none⟩=some (.int .i64 (l.getD k 0)):=by
 unfold gBox at h;rw[cell_of_row _ _ _ _ _ _ h,show 1+k=k+1 by omega];simp[hk]
theorem gBox_free {W:World}{b j:Nat}{n:Int}{l:List Int}(h:W.heap[b]? = some (gBox n l)):W.frozen? ⟨b,j,none⟩=false:=by
 unfold gBox at h;simp[World.frozen?,h]
theorem madeC {w:World}{n:Nat}{row:Nat→Int}{caps:Array Value}{l:List Int}(h5:n≤5) (hl:l.length=n) (hrow:∀j,j < n→l.getD j 0=row j)
  (HF:∀W,Below w.heap.size w W→∀q,q < n→Calls Tryz.prog 132 (#[.int .i64 (q:Int)]++caps) W fun e w'=>e = .returned (.int .i64 (row q))∧Below W.heap.size W w') :
  Calls Tryz.prog 131 #[.int .i64 (n:Int),.func (.func 132) #[] caps] w fun e w'=>e = .returned (.agg (((n::(l++List.replicate (5 - n) 0):List Int).map (Value.int .i64)).toArray))∧Below w.heap.size w w':=by
 have hfin:=mdR_end row h5 hl hrow;replace HF:=qH HF;replace hfin:=qH hfin;clear hrow hl;obtain⟨W2,hW2⟩:=exF ((w.alloc (.cells #[.int .i64 0,.int .i64 0,.int .i64 0,.int .i64 0,.int .i64 0,.int .i64 0] 85)).alloc (.cells #[.int .i64 (n:Int),.int .i64 0,.int .i64 0,.int .i64 0,.int .i64 0,.int .i64 0] 85));have hb2:Below w.heap.size w W2:=by rw[hW2];exact((Below.refl _ _).alloc (Nat.le_refl _) _).alloc (by simp) _
 have hs2:W2.heap.size=w.heap.size+2:=by rw[hW2];simp
 have m1:W2.heap[w.heap.size]? = some (.cells #[.int .i64 0,.int .i64 0,.int .i64 0,.int .i64 0,.int .i64 0,.int .i64 0] 85):=by rw[hW2];exact(Below.heap_alloc _ _ _ (by simp)).trans (heap_alloc_new _ _)
 have m2:W2.heap[w.heap.size+1]? = some (gBox n (mdR row 0)):=by
  rw[mdR_zero,hW2];have:=heap_alloc_new (w.alloc (.cells #[.int .i64 0,.int .i64 0,.int .i64 0,.int .i64 0,.int .i64 0,.int .i64 0] 85)) (.cells #[.int .i64 (n:Int),.int .i64 0,.int .i64 0,.int .i64 0,.int .i64 0,.int .i64 0] 85)
  rwa [World.size_alloc] at this
 go_enter Tryz.func131, Tryz.ntmps131
 go_wp2_with fail
 rw[←hW2];replace hW2:=qH hW2;go_loopw [10] (fun i wr=>∃k:Nat,k≤n∧i = .int .i64 (k:Int)∧wr.heap[w.heap.size+1]? = some (gBox n (mdR row k))∧wr.heap[w.heap.size]? = some (.cells #[.int .i64 0,.int .i64 0,.int .i64 0,.int .i64 0,.int .i64 0,.int .i64 0] 85)∧Hid (Below w.heap.size w wr)) (fun i _=>n - (intOf i).toNat)
 case atStart=>exact⟨0,Nat.zero_le _,rfl,m2,m1,hb2⟩
 case round=>
  clear hb2 hs2 m1 m2 hW2;obtain⟨k,hk,rfl,c2,c1,hb⟩:=hrel;by_cases hlt:k < n
  ·have hltI:(k:Int) < (n:Int):=(by omega);have HC:=qH (HF.out wr hb.out k hlt);go_wp2_with (go_at_call 132;refine HC.out.mono ?_;rintro e w1 ⟨rfl,hb1⟩;have d2:=(hb1.block _ (Array.getElem?_eq_some_iff.1 c2).1).trans c2;have d1:=(hb1.block _ (Array.getElem?_eq_some_iff.1 c1).1).trans c1;have fz:=gBox_free (j:=1+k) d2;have cc:=gBox_cell (k:=k) d2 (by rw[mdR_len];omega))
   go_roundw
   case rel=>exact⟨k+1,by omega,by go_num,by rw[←mdR_set row (by omega)];exact gBox_set d2,(Below.heap_setCell _ _ _ _ (by simp)).trans d1,(bt hb.out hb1 hb.out.size).setCell (p:=⟨w.heap.size+1,1+k,none⟩) (by simp) _⟩
   case measure=>simp[intOf];omega
  ·obtain rfl:k=n:=(by omega);obtain⟨g,hg⟩:=exE (l++List.replicate (5 - k) 0);have hfin2:=hfin.out;rw[hg] at hfin2;have hgl:g.length=5:=(by rw[←hfin2,mdR_len]);obtain⟨g0,g1,g2,g3,g4,rfl⟩:=five hgl;rw[hfin2] at c2;obtain⟨q0,q1,q2,q3,q4,q5⟩:=boxL6 (show wr.heap[w.heap.size+1]? = some (.cells #[.int .i64 (k:Int),.int .i64 g0,.int .i64 g1,.int .i64 g2,.int .i64 g3,.int .i64 g4] 85) from c2);clear hfin hfin2 HF c2;obtain⟨z0,z1,z2,z3,z4,z5⟩:=boxL6 c1;obtain⟨f0,f1,f2,f3,f4,f5⟩:=freeL6 c1;go_wp2;refine storeEnd6 (u0:=.int .i64 (k:Int)) (u1:=.int .i64 g0) (u2:=.int .i64 g1) (u3:=.int .i64 g2) (u4:=.int .i64 g3) (u5:=.int .i64 g4) c1 ?_;intro W9 hW9 hb9 _ _ e0 e1 e2 e3 e4 e5;rw[←hW9];refine bodyPost_ret (v:=.agg #[.int .i64 (k:Int),.int .i64 g0,.int .i64 g1,.int .i64 g2,.int .i64 g3,.int .i64 g4]) (by simp[results,Tryz.results131,go_sem,e0,e1,e2,e3,e4,e5]) rfl ?_;exact⟨by rw[hg];rfl,hb9 _ _ (Nat.le_refl _) hb.out⟩
theorem moved_back {n:Nat}{a v:List Int}(h1:1≤n) (h5:n≤5) (ha:IsP n a) {q:Nat}(hq:q < n):∃p:Nat,p < n∧(backL a).getD q 0=(p:Int)∧(movedL a v).getD q 0=v.getD p 0:=by
 obtain⟨p,hp,hpq⟩:=perm_onto h1 h5 ha hq;refine⟨p,hp,?_,?_⟩
 ·have:=moved_at (v:=oneL n) ha hp
  rw[hpq,Int.toNat_natCast,oneL_getD hp] at this;rw[backL,ha.1];exact this
 ·have:=moved_at (v:=v) ha hp
  rwa [hpq,Int.toNat_natCast] at this
def gVal (n:Nat) (hs:List Int):Value:=.agg ((((n:Int)::(hs++List.replicate (5 - n) 0)).map (Value.int .i64)).toArray)
theorem graphPerm {w:World}{u:Value}{n:Nat}{a hs:List Int}{f:Int}(h1:1≤n) (h5:n≤5) (hR:RdN n hs f) (ha:IsP n a) (hu:Ints w u a) :
  Calls Tryz.prog 95 #[gVal n hs,u] w fun e w'=>e = .returned (.tuple #[gVal n (movedL a (hs.map fun x=>imgP a x n)),.int .i64 0])∧Below w.heap.size w w':=by
 have hz:=chkRd_mk h1 h5 hR;have hml:(movedL a (hs.map fun x=>imgP a x n)).length=n:=by rw[movedL_length,ha.1]
 obtain⟨pad,hpad⟩:=exE (hs++List.replicate (5 - n) 0);have hpl:pad.length=5:=by rw[←hpad];simp[hR.len];omega
 have hpg:∀p,p < n→pad.getD p 0=hs.getD p 0:=fun p hp=>by rw[←hpad,getD_app2 (by rw[hR.len];exact hp)]
 obtain⟨g0,g1,g2,g3,g4,rfl⟩:=five hpl;have hv:gVal n hs = .agg #[.int .i64 (n:Int),.int .i64 g0,.int .i64 g1,.int .i64 g2,.int .i64 g3,.int .i64 g4]:=by rw[gVal,hpad];rfl
 have hzg:chkGr (n:Int) [g0,g1,g2,g3,g4]=0:=by
  have e:mkR n hs f = [(n:Int),g0,g1,g2,g3,g4,f]:=by rw[mkR,←List.append_assoc,hpad];rfl
  rw[e] at hz;by_cases k:chkGr (n:Int) [g0,g1,g2,g3,g4]=0
  ·exact k
  ·rw[chkRd_1 k] at hz;exact absurd hz k
 have HC:=graphCheck (n:Int) g0 g1 g2 g3 g4;rw[hzg] at HC;replace HC:=qH HC;have HI:=qH (fun W (hW:Below w.heap.size w W)=>inverseP h1 h5 ha (hu.keep hW));rw[hv];clear hz hpad hpl hzg hv;obtain⟨row,hrow⟩:∃row:Nat→Int,row=fun q=>(movedL a (hs.map fun x=>imgP a x n)).getD q 0:=⟨_,rfl⟩
 have hrw:Hid (∀q,q < n→∃p h,(backL a).getD q 0=((p:Nat):Int)∧p < 5∧p < n∧[g0,g1,g2,g3,g4].getD p 0=h∧0≤h∧h < 2 ^ n∧row q=imgP a h n):=fun q hq=>by
  obtain⟨p,hp,e1,e2⟩:=moved_back (v:=hs.map fun x=>imgP a x n) h1 h5 ha hq;refine⟨p,hs.getD p 0,e1,by omega,hp,hpg p hp,(hR.rng _ (getD_mem (by rw[hR.len];exact hp))).1,(hR.rng _ (getD_mem (by rw[hR.len];exact hp))).2,?_⟩;rw[hrow];show(movedL a _).getD q 0=_
  rw[e2,getD_eq (by rw[List.length_map,hR.len];exact hp),List.getElem_map,getD_eq (by rw[hR.len];exact hp)]
 have hRO:Hid (∀j,j < n→(movedL a (hs.map fun x=>imgP a x n)).getD j 0=row j):=fun j _=>by rw[hrow]
 clear hrow hpg;obtain⟨L,hL⟩:∃L,movedL a (hs.map fun x=>imgP a x n)=L:=⟨_,rfl⟩;rw[hL] at hRO hml⊢;clear hL hR;have hub:=ha.1;have hu':=qH hu;obtain⟨aa,ac,ab,ao,rfl,haa,-,-⟩:=hu;obtain rfl:=haa (by omega);rw[hub] at hu' ⊢;rw[hub] at HI;replace hub:=qH hub;obtain⟨W1,hW1⟩:=exF (((w.alloc (.cells #[.int .i64 (n:Int),.int .i64 g0,.int .i64 g1,.int .i64 g2,.int .i64 g3,.int .i64 g4] 85)).alloc (.cells #[.slice (some ⟨ab,ao,none⟩) n ac] 25)).alloc (.cells #[.int .i64 0,.int .i64 0,.int .i64 0,.int .i64 0,.int .i64 0,.int .i64 0] 85));have hb1:Below w.heap.size w W1:=by rw[hW1];exact(((Below.refl _ _).alloc (Nat.le_refl _) _).alloc (by simp) _).alloc (by simp;omega) _
 have m0:W1.heap[w.heap.size]? = some (gBox n [g0,g1,g2,g3,g4]):=by rw[hW1];exact(Below.heap_alloc _ _ _ (by simp;omega)).trans ((Below.heap_alloc _ _ _ (by simp)).trans (heap_alloc_new _ _))
 have m1:W1.heap[w.heap.size+1]? = some (.cells #[.slice (some ⟨ab,ao,none⟩) n ac] 25):=by
  rw[hW1];have:=heap_alloc_new (w.alloc (.cells #[.int .i64 (n:Int),.int .i64 g0,.int .i64 g1,.int .i64 g2,.int .i64 g3,.int .i64 g4] 85)) (.cells #[.slice (some ⟨ab,ao,none⟩) n ac] 25)
  rw[World.size_alloc] at this;exact(Below.heap_alloc _ _ _ (by simp)).trans this
 have m2:W1.heap[w.heap.size+2]? = some (.cells #[.int .i64 0,.int .i64 0,.int .i64 0,.int .i64 0,.int .i64 0,.int .i64 0] 85):=by
  rw[hW1];have:=heap_alloc_new ((w.alloc (.cells #[.int .i64 (n:Int),.int .i64 g0,.int .i64 g1,.int .i64 g2,.int .i64 g3,.int .i64 g4] 85)).alloc (.cells #[.slice (some ⟨ab,ao,none⟩) n ac] 25)) (.cells #[.int .i64 0,.int .i64 0,.int .i64 0,.int .i64 0,.int .i64 0,.int .i64 0] 85)
  simpa using this
 have hs1:Hid (W1.heap.size=w.heap.size+3):=by rw[hW1];simp[Hid]
 obtain⟨p0,p1,p2,p3,p4,p5⟩:=boxL6 (show W1.heap[w.heap.size]? = some (.cells #[.int .i64 (n:Int),.int .i64 g0,.int .i64 g1,.int .i64 g2,.int .i64 g3,.int .i64 g4] 85) from m0);have q0:=cell_of_one m1;go_enter Tryz.func95, Tryz.ntmps95
 go_wp2_with fail
 rw[←hW1];replace hW1:=qH hW1;refine(HC.out _).mono ?_;rintro e w2 ⟨rfl,hb2⟩;replace q0:=cell_kept hb2 q0;replace p0:=cell_kept hb2 p0;replace m0:=(hb2.block _ (Array.getElem?_eq_some_iff.1 m0).1).trans m0;replace m1:=(hb2.block _ (Array.getElem?_eq_some_iff.1 m1).1).trans m1;replace m2:=(hb2.block _ (Array.getElem?_eq_some_iff.1 m2).1).trans m2;replace hb2:=bt hb1 hb2 hb1.size;clear p1 p2 p3 p4 p5;go_wp2_with fail
 refine(HI.out w2 hb2).mono ?_;rintro e w3 ⟨r,rfl,hO,hb3⟩;replace q0:=cell_kept hb3 q0;replace p0:=cell_kept hb3 p0;replace m0:=(hb3.block _ (Array.getElem?_eq_some_iff.1 m0).1).trans m0;replace m1:=(hb3.block _ (Array.getElem?_eq_some_iff.1 m1).1).trans m1;replace m2:=(hb3.block _ (Array.getElem?_eq_some_iff.1 m2).1).trans m2;replace hb3:=bt hb2 hb3 hb2.size;have hbl:(backL a).length=n:=by rw[backL,movedL_length,hub.out]
 have hOi:=hO.ints (by omega);obtain⟨ra,rc,rfl⟩:=hO.shape;rw[hbl] at hOi⊢;obtain⟨W4,hW4⟩:=exF (w3.alloc (.cells #[.slice ra n rc] 25));have hb4:Below w3.heap.size w3 W4:=by rw[hW4];exact(Below.refl _ _).alloc (Nat.le_refl _) _
 have m4:W4.heap[w3.heap.size]? = some (.cells #[.slice ra n rc] 25):=by rw[hW4];exact heap_alloc_new _ _
 have p0':=cell_kept hb4 p0;have q0':=cell_kept hb4 q0
 have HM:=madeC (w:=W4) (n:=n) (row:=row) (caps:=#[.pointer (some ⟨w.heap.size+1,0,none⟩),.pointer (some ⟨w.heap.size,0,none⟩),.pointer (some ⟨w3.heap.size,0,none⟩)]) (l:=L) h5 hml hRO.out fun W hW q hq=>by
  obtain⟨p,h,k1,k2,k3,k4,k5,k6,k7⟩:=hrw.out q hq;have g0':=(hW.block _ (Array.getElem?_eq_some_iff.1 ((hb4.block _ (Array.getElem?_eq_some_iff.1 m0).1).trans m0)).1).trans ((hb4.block _ (Array.getElem?_eq_some_iff.1 m0).1).trans m0);have cg:=gBox_cell (k:=p) g0' (by simpa using k2);rw[k4] at cg;rw[k7];exact permRow h1 h5 ha (cell_kept hW q0') (hu'.out.keep (hb3.trans ((hb4.trans (hW.mono hb4.size)).mono hb3.size))) (cell_kept hW (cell_of_one m4)) (hOi.keep (hb4.trans (hW.mono hb4.size))) (by omega) k1 k2 cg k5 k6
 replace HM:=qH HM;have m2':=(hb4.block _ (Array.getElem?_eq_some_iff.1 m2).1).trans m2;rw[hW4] at p0' q0';clear m4 m0 m1 m2 p0 q0 hO hOi;go_wp2_with fail
 rw[←hW4];replace hW4:=qH hW4;refine HM.out.mono ?_;rintro e w5 ⟨rfl,hb5⟩;have m5:=(hb5.block _ (Array.getElem?_eq_some_iff.1 m2').1).trans m2';obtain⟨pad',hpad'⟩:∃pad,L++List.replicate (5 - n) 0=pad:=⟨_,rfl⟩;have hpl':pad'.length=5:=by rw[←hpad'];simp[hml];omega
 obtain⟨k0,k1,k2,k3,k4,rfl⟩:=five hpl';rw[hpad'];replace hpad':=qH hpad';simp only[List.map_cons,List.map_nil];obtain⟨z0,z1,z2,z3,z4,z5⟩:=boxL6 m5;obtain⟨f0,f1,f2,f3,f4,f5⟩:=freeL6 m5;clear p0' q0' m2' HM HI HC hrw hRO hu' hpl';go_wp2;refine storeEnd6 (u0:=.int .i64 (n:Int)) (u1:=.int .i64 k0) (u2:=.int .i64 k1) (u3:=.int .i64 k2) (u4:=.int .i64 k3) (u5:=.int .i64 k4) m5 ?_;intro W9 hW9 hb9 _ _ e0 e1 e2 e3 e4 e5;rw[←hW9];refine bodyPost_ret (v:=.tuple #[.agg #[.int .i64 (n:Int),.int .i64 k0,.int .i64 k1,.int .i64 k2,.int .i64 k3,.int .i64 k4],.int .i64 0]) (by simp[results,Tryz.results95,go_sem,e0,e1,e2,e3,e4,e5]) rfl ?_;exact⟨by rw[gVal,hpad'.out];rfl,hb9 _ _ (by omega) (hb3.trans ((hb4.trans (hb5.mono hb4.size)).mono hb3.size))⟩
def rVal (r:List Int):Value:=.agg ((r.map (Value.int .i64)).toArray)
theorem roundPerm {w:World}{u:Value}{n:Nat}{a hs:List Int}{f:Int}(h1:1≤n) (h5:n≤5) (hR:RdN n hs f) (ha:IsP n a) (hu:Ints w u a) :
  Calls Tryz.prog 46 #[rVal (mkR n hs f),u] w fun e w'=>e = .returned (.tuple #[rVal (renR a (mkR n hs f)),.int .i64 0])∧Below w.heap.size w w':=by
 have hz:=chkRd_mk h1 h5 hR;have hml:(movedL a (hs.map fun x=>imgP a x n)).length=n:=by rw[movedL_length,ha.1]
 have HGP:=qH (fun W (hW:Below w.heap.size w W)=>graphPerm h1 h5 hR ha (hu.keep hW))
 have HSP:Hid (∀W,Below w.heap.size w W→Calls Tryz.prog 96 #[u,.int .i64 f] W (R2 W (imgP a f n) 0)):=fun W hW=>by
  have:=setCall (hu.keep hW) f
  rwa [(setP_of h1 h5 ha hR.f0 hR.f1).1,(setP_of h1 h5 ha hR.f0 hR.f1).2] at this
 rw[renR_mk ha h5 hR.len];obtain⟨L,hL⟩:∃L,movedL a (hs.map fun x=>imgP a x n)=L:=⟨_,rfl⟩;rw[hL] at HGP hml⊢;obtain⟨pad,hpad⟩:=exE (hs++List.replicate (5 - n) 0);obtain⟨pad',hpad'⟩:∃pad,L++List.replicate (5 - n) 0=pad:=⟨_,rfl⟩;have hpl:pad.length=5:=by rw[←hpad];simp[hR.len];omega
 have hpl':pad'.length=5:=by rw[←hpad'];simp[hml];omega
 obtain⟨g0,g1,g2,g3,g4,rfl⟩:=five hpl;obtain⟨k0,k1,k2,k3,k4,rfl⟩:=five hpl';have eR:mkR n hs f = [(n:Int),g0,g1,g2,g3,g4,f]:=by rw[mkR,←List.append_assoc,hpad];rfl
 have eR':∀x,mkR n L x = [(n:Int),k0,k1,k2,k3,k4,x]:=fun x=>by rw[mkR,←List.append_assoc,hpad'];rfl
 simp only[gVal,hpad,hpad'] at HGP;rw[eR] at hz⊢;rw[eR'];have HC:=roundCheck (n:Int) g0 g1 g2 g3 g4 f;rw[hz] at HC;replace HC:=qH HC;obtain⟨F,hF⟩:=exE (imgP a f n);rw[hF] at HSP⊢;simp only[rVal,List.map_cons,List.map_nil];clear hpad hpad' hpl hpl' eR eR' hz hL hml hF hR;obtain⟨aa,ac,ab,ao,rfl,-,-,-⟩:=hu;obtain⟨W1,hW1⟩:=exF ((w.alloc (.cells #[.int .i64 (n:Int),.int .i64 g0,.int .i64 g1,.int .i64 g2,.int .i64 g3,.int .i64 g4,.int .i64 f] 87)).alloc (.cells #[.int .i64 0,.int .i64 0,.int .i64 0,.int .i64 0,.int .i64 0,.int .i64 0,.int .i64 0] 87));have hb1:Below w.heap.size w W1:=by rw[hW1];exact((Below.refl _ _).alloc (Nat.le_refl _) _).alloc (by simp) _
 have m0:W1.heap[w.heap.size]? = some (.cells #[.int .i64 (n:Int),.int .i64 g0,.int .i64 g1,.int .i64 g2,.int .i64 g3,.int .i64 g4,.int .i64 f] 87):=by rw[hW1];exact(Below.heap_alloc _ _ _ (by simp)).trans (heap_alloc_new _ _)
 have m1:W1.heap[w.heap.size+1]? = some (.cells #[.int .i64 0,.int .i64 0,.int .i64 0,.int .i64 0,.int .i64 0,.int .i64 0,.int .i64 0] 87):=by
  rw[hW1];have:=heap_alloc_new (w.alloc (.cells #[.int .i64 (n:Int),.int .i64 g0,.int .i64 g1,.int .i64 g2,.int .i64 g3,.int .i64 g4,.int .i64 f] 87)) (.cells #[.int .i64 0,.int .i64 0,.int .i64 0,.int .i64 0,.int .i64 0,.int .i64 0,.int .i64 0] 87)
  rwa [World.size_alloc] at this
 have HK:Hid (∀W,Below W1.heap.size W1 W→W.cell? ⟨w.heap.size,0,none⟩=some (.int .i64 (n:Int))∧W.cell? ⟨w.heap.size,1,none⟩=some (.int .i64 g0)∧W.cell? ⟨w.heap.size,2,none⟩=some (.int .i64 g1)∧W.cell? ⟨w.heap.size,3,none⟩=some (.int .i64 g2)∧W.cell? ⟨w.heap.size,4,none⟩=some (.int .i64 g3)∧W.cell? ⟨w.heap.size,5,none⟩=some (.int .i64 g4)∧W.cell? ⟨w.heap.size,6,none⟩=some (.int .i64 f)):=fun W hW=>boxL7 ((hW.block _ (Array.getElem?_eq_some_iff.1 m0).1).trans m0);obtain⟨p0,p1,p2,p3,p4,p5,p6⟩:=HK.out W1 (Below.refl _ _);clear m0;go_enter Tryz.func46, Tryz.ntmps46
 go_wp2_with fail
 rw[←hW1];replace hW1:=qH hW1;refine(HC.out _).mono ?_;rintro e w2 ⟨rfl,hb2⟩;clear p0 p1 p2 p3 p4 p5 p6;obtain⟨p0,p1,p2,p3,p4,p5,p6⟩:=HK.out w2 hb2;have hw2:=bt hb1 hb2 hb1.size;go_wp2_with fail
 refine(HGP.out w2 hw2).mono ?_;rintro e w3 ⟨rfl,hb3⟩;clear p0 p1 p2 p3 p4 p5 p6;obtain⟨W4,hW4⟩:=exF (w3.alloc (.cells #[.int .i64 (n:Int),.int .i64 k0,.int .i64 k1,.int .i64 k2,.int .i64 k3,.int .i64 k4] 85));have hb4:Below w3.heap.size w3 W4:=by rw[hW4];exact(Below.refl _ _).alloc (Nat.le_refl _) _
 have m4:W4.heap[w3.heap.size]? = some (.cells #[.int .i64 (n:Int),.int .i64 k0,.int .i64 k1,.int .i64 k2,.int .i64 k3,.int .i64 k4] 85):=by rw[hW4];exact heap_alloc_new _ _
 have hb14:Below W1.heap.size W1 W4:=btt hb2 (btt hb3 hb4);obtain⟨p0,p1,p2,p3,p4,p5,p6⟩:=HK.out W4 hb14;have hb4':Below w.heap.size w W4:=hw2.trans ((hb3.trans (hb4.mono hb3.size)).mono hw2.size);have m1':=(hb14.block _ (Array.getElem?_eq_some_iff.1 m1).1).trans m1;obtain⟨j0,j1,j2,j3,j4,j5⟩:=boxL6 m4;rw[hW4] at p0 p1 p2 p3 p4 p5 p6;simp only[List.map_cons,List.map_nil];go_wp2_with fail
 rw[←hW4];replace hW4:=qH hW4;refine(HSP.out _ hb4').mono ?_;rintro e w5 ⟨rfl,hb5⟩;replace j0:=cell_kept hb5 j0;replace j1:=cell_kept hb5 j1;replace j2:=cell_kept hb5 j2;replace j3:=cell_kept hb5 j3;replace j4:=cell_kept hb5 j4;replace j5:=cell_kept hb5 j5;have m5:=(hb5.block _ (Array.getElem?_eq_some_iff.1 m1').1).trans m1';obtain⟨z0,z1,z2,z3,z4,z5,z6⟩:=boxL7 m5;obtain⟨f0,f1,f2,f3,f4,f5,f6⟩:=freeL7 m5;clear p0 p1 p2 p3 p4 p5 p6 m1' m1 m4 HGP HSP HC HK;go_wp2;refine storeEnd7 (u0:=.int .i64 (n:Int)) (u1:=.int .i64 k0) (u2:=.int .i64 k1) (u3:=.int .i64 k2) (u4:=.int .i64 k3) (u5:=.int .i64 k4) (u6:=.int .i64 F) m5 ?_;intro W9 hW9 hb9 _ _ e0 e1 e2 e3 e4 e5 e6;rw[←hW9];refine bodyPost_ret (v:=.tuple #[.agg #[.int .i64 (n:Int),.int .i64 k0,.int .i64 k1,.int .i64 k2,.int .i64 k3,.int .i64 k4,.int .i64 F],.int .i64 0]) (by simp[results,Tryz.results46,go_sem,e0,e1,e2,e3,e4,e5,e6]) rfl ?_;exact⟨rfl,hb9 _ _ (by omega) (bt hb4' hb5 hb4'.size)⟩
def tgR (a hs:List Int) (n:Nat):Nat→List Int
 | 0=>[0,0,0,0,0]
 | k+1=>(tgR a hs n k).set (a.getD k 0).toNat (imgR a (hs.getD k 0) n)
theorem tgR_len (a hs:List Int) (n:Nat):∀k,(tgR a hs n k).length=5
 | 0=>rfl
 | k+1=>by rw[tgR,List.length_set,tgR_len a hs n k]
theorem IsP.inj {n:Nat}{a:List Int}(ha:IsP n a) {i j:Nat}(hi:i < n) (hj:j < n) (e:(a.getD i 0).toNat=(a.getD j 0).toNat):i=j:=by
 have h1:=ha.good i (by rw[ha.1];exact hi);have h2:=ha.good j (by rw[ha.1];exact hj);exact nodup_getD ha.2.2 (by rw[ha.1];exact hi) (by rw[ha.1];exact hj) (by omega)
theorem tgR_z {n:Nat}{a hs:List Int}(ha:IsP n a):∀k p,k≤p→p < n→(tgR a hs n k).getD (a.getD p 0).toNat 0=0
 | 0,p,_,hp=>by
  have h1:=ha.good p (by rw[ha.1];exact hp);rw[tgR,List.getD_eq_getElem?_getD];obtain⟨j,hj⟩:=exE ((a.getD p 0).toNat);rw[hj];match j with
  | 0=>rfl
  | 1=>rfl
  | 2=>rfl
  | 3=>rfl
  | 4=>rfl
  | j+5=>rfl
 | k+1,p,hk,hp=>by
  rw[tgR,List.getD_eq_getElem?_getD,List.getElem?_set_ne (fun e=>by have:=ha.inj (i:=k) (j:=p) (by omega) hp e;omega),←List.getD_eq_getElem?_getD];exact tgR_z ha k p (by omega) hp
theorem tgR_at {n:Nat}{a hs:List Int}(h5:n≤5) (ha:IsP n a):∀k p,p < k→k≤n→(tgR a hs n k).getD (a.getD p 0).toNat 0=imgR a (hs.getD p 0) n
 | k+1,p,hp,hk=>by
  have h1:=ha.good p (by rw[ha.1];omega);rw[tgR];by_cases e:p=k
  ·subst e;rw[List.getD_eq_getElem?_getD,List.getElem?_set_self (by rw[tgR_len];omega)];rfl
  ·rw[List.getD_eq_getElem?_getD,List.getElem?_set_ne (fun h=>by have:=ha.inj (i:=k) (j:=p) (by omega) (by omega) h;omega),←List.getD_eq_getElem?_getD];exact tgR_at h5 ha k p (by omega) (by omega)
theorem tgR_hi {n:Nat}{a hs:List Int}(ha:IsP n a):∀k j,n≤j→k≤n→(tgR a hs n k).getD j 0=0
 | 0,j,_,_=>by
  rw[tgR];match j with
  | 0=>rfl
  | 1=>rfl
  | 2=>rfl
  | 3=>rfl
  | 4=>rfl
  | j+5=>rfl
 | k+1,j,hj,hk=>by
  have h1:=ha.good k (by rw[ha.1];omega);rw[tgR,List.getD_eq_getElem?_getD,List.getElem?_set_ne (by omega),←List.getD_eq_getElem?_getD];exact tgR_hi ha k j hj (by omega)
theorem imgR_eq {n:Nat}{a:List Int}(h1:1≤n) (h5:n≤5) (ha:IsP n a) {s:Int}(s0:0≤s) (hs:s < 2 ^ n):imgR a s n=imgP a s n:=by
 have:=List.all_eq_true.1 (perm_all img_same (chk_of h1 h5 ha)) s.toNat (List.mem_range.2 (by
  have:(2:Int) ^ n≤32:=by
   have:n=1∨n=2∨n=3∨n=4∨n=5:=by omega
   rcases this with rfl|rfl|rfl|rfl|rfl<;>decide
  omega))
 have:=of_decide_eq_true this
 rw[ha.1,Int.toNat_of_nonneg s0] at this;exact this
theorem tgR_end {n:Nat}{a hs:List Int}{f:Int}(h1:1≤n) (h5:n≤5) (hR:RdN n hs f) (ha:IsP n a):tgR a hs n n=movedL a (hs.map fun x=>imgP a x n)++List.replicate (5 - n) 0:=by
 have hml:(movedL a (hs.map fun x=>imgP a x n)).length=n:=by rw[movedL_length,ha.1]
 refine List.ext_getElem (by rw[tgR_len];simp[hml];omega) fun j j1 j2=>?_;rw[←getD_eq j1 0,←getD_eq j2 0];by_cases hj:j < n
 ·obtain⟨p,hp,hpj⟩:=perm_onto h1 h5 ha hj;have e1:=tgR_at (hs:=hs) h5 ha n p hp (Nat.le_refl _);have e2:=moved_at (v:=hs.map fun x=>imgP a x n) ha hp;rw[hpj,Int.toNat_natCast] at e1 e2;rw[getD_app2 (by rw[hml];exact hj),e1,e2,getD_eq (xs:=hs) (by rw[hR.len];exact hp),getD_eq (by rw[List.length_map,hR.len];exact hp),List.getElem_map];exact imgR_eq h1 h5 ha (hR.rng _ (List.getElem_mem _)).1 (hR.rng _ (List.getElem_mem _)).2
 ·rw[tgR_hi ha n j (by omega) (Nat.le_refl _),List.getD_eq_getElem?_getD,List.getElem?_append_right (by omega),hml,List.getElem?_replicate];rw[tgR_len] at j1;rw[if_pos (by omega)];rfl
theorem tgR_row0 {n:Nat}{a hs:List Int}(ha:IsP n a) {k:Nat}(hk:k < n):(tgR a hs n k).set (a.getD k 0).toNat (imgR a (hs.getD k 0) 0)=tgR a hs n k:=by
 have hz:=tgR_z (hs:=hs) ha k k (Nat.le_refl _) hk;refine List.ext_getElem (by rw[List.length_set]) fun j j1 j2=>?_;rw[List.getElem_set];split
 next e=>subst e;rw[getD_eq j2] at hz;rw[hz];rfl
 next e=>rfl
theorem hasI_and {s:Int}{k:Nat}(h0:0≤s) (h1:s≤31) (hk:k≤4):(bits BinOp.and IntKind.i64 (s / 2 ^ k) 1 == 1)=hasI s (k:Int):=by
 have:=and1 (x:=s) (p:=(k:Int)) h0 h1 (by omega) (by omega)
 rw[twoI_pow (by omega)] at this;rw[this];cases hasI s (k:Int)<;>rfl
theorem cell_kept' {w w':World}(h:Below w.heap.size w w') {p:Addr}{v:Value}(hc:w.cell? p=some v):w'.cell? p=some v:=cell_kept h hc
theorem refGraphRen {w:World}{u:Value}{n:Nat}{a hs:List Int}{f:Int}(h1:1≤n) (h5:n≤5) (hR:RdN n hs f) (ha:IsP n a) (hu:Ints w u a) :
  Calls Tryz.prog 136 #[gVal n hs,u] w fun e w'=>e = .returned (gVal n (movedL a (hs.map fun x=>imgP a x n)))∧Below w.heap.size w w':=by
 have hend:=qH (tgR_end h1 h5 hR ha);obtain⟨pad,hpad⟩:=exE (hs++List.replicate (5 - n) 0);have hpl:pad.length=5:=by rw[←hpad];simp[hR.len];omega
 have hpg:∀p,p < n→pad.getD p 0=hs.getD p 0:=fun p hp=>by rw[←hpad,getD_app2 (by rw[hR.len];exact hp)]
 have hrg:Hid (∀p,p < n→0≤hs.getD p 0∧hs.getD p 0≤31):=fun p hp=>by
  have:=hR.rng _ (getD_mem (l:=hs) (d:=0) (k:=p) (by rw[hR.len];exact hp))
  have h32:(2:Int) ^ n≤32:=by
   have:n=1∨n=2∨n=3∨n=4∨n=5:=by omega
   rcases this with rfl|rfl|rfl|rfl|rfl<;>decide
  omega
 have hst:=qH (fun k (hk:k < n)=>tgR_row0 (hs:=hs) ha hk)
 have hgd:Hid (∀k,k < n→∃p:Nat,a.getD k 0=(p:Int)∧p < 5):=fun k hk=>by
  have:=ha.good k (by rw[ha.1];exact hk)
  exact⟨(a.getD k 0).toNat,by omega,by omega⟩
 have hgi:Hid (∀k,k < n→0≤a.getD k 0∧a.getD k 0 < 5):=fun k hk=>by
  have:=ha.good k (by rw[ha.1];exact hk)
  omega
 obtain⟨g0,g1,g2,g3,g4,rfl⟩:=five hpl;have hv:gVal n hs = .agg #[.int .i64 (n:Int),.int .i64 g0,.int .i64 g1,.int .i64 g2,.int .i64 g3,.int .i64 g4]:=by rw[gVal,hpad];rfl
 rw[hv];have hmx : Tryz.prog.follows .mixedOrders=true:=by kernel_rfl
 have han:=ha.1;obtain⟨aa,ac,ab,ao,rfl,haa,hac,-⟩:=hu;obtain rfl:=haa (by omega);rw[han];replace hac:Hid (∀k,k < n→w.cell? ⟨ab,ao+k,none⟩=some (.int .i64 (a.getD k 0))):=fun k hk=>hac k (by rw[han];exact hk);replace hpg:=qH hpg;clear hpad hpl hv hR ha han haa;obtain⟨W1,hW1⟩:=exF (((w.alloc (.cells #[.int .i64 (n:Int),.int .i64 g0,.int .i64 g1,.int .i64 g2,.int .i64 g3,.int .i64 g4] 85)).alloc (.cells #[.int .i64 0,.int .i64 0,.int .i64 0,.int .i64 0,.int .i64 0,.int .i64 0] 85)).alloc (.cells #[.int .i64 (n:Int),.int .i64 0,.int .i64 0,.int .i64 0,.int .i64 0,.int .i64 0] 85));have hb1:Below w.heap.size w W1:=by rw[hW1];exact(((Below.refl _ _).alloc (Nat.le_refl _) _).alloc (by simp) _).alloc (by simp;omega) _
 have m0:W1.heap[w.heap.size]? = some (gBox n [g0,g1,g2,g3,g4]):=by rw[hW1];exact(Below.heap_alloc _ _ _ (by simp;omega)).trans ((Below.heap_alloc _ _ _ (by simp)).trans (heap_alloc_new _ _))
 have m1:W1.heap[w.heap.size+1]? = some (.cells #[.int .i64 0,.int .i64 0,.int .i64 0,.int .i64 0,.int .i64 0,.int .i64 0] 85):=by
  rw[hW1];have:=heap_alloc_new (w.alloc (.cells #[.int .i64 (n:Int),.int .i64 g0,.int .i64 g1,.int .i64 g2,.int .i64 g3,.int .i64 g4] 85)) (.cells #[.int .i64 0,.int .i64 0,.int .i64 0,.int .i64 0,.int .i64 0,.int .i64 0] 85)
  rw[World.size_alloc] at this;exact(Below.heap_alloc _ _ _ (by simp)).trans this
 have m2:W1.heap[w.heap.size+2]? = some (gBox n (tgR a hs n 0)):=by
  rw[hW1];have:=heap_alloc_new ((w.alloc (.cells #[.int .i64 (n:Int),.int .i64 g0,.int .i64 g1,.int .i64 g2,.int .i64 g3,.int .i64 g4] 85)).alloc (.cells #[.int .i64 0,.int .i64 0,.int .i64 0,.int .i64 0,.int .i64 0,.int .i64 0] 85)) (.cells #[.int .i64 (n:Int),.int .i64 0,.int .i64 0,.int .i64 0,.int .i64 0,.int .i64 0] 85)
  rw[World.size_alloc,World.size_alloc] at this;exact this
 go_enter Tryz.func136, Tryz.ntmps136
 go_wp2_with fail
 rw[←hW1];replace hW1:=qH hW1;go_loopw [6] (fun i wr=>∃k:Nat,k≤n∧i = .int .i64 (k:Int)∧wr.heap[w.heap.size+2]? = some (gBox n (tgR a hs n k))∧wr.heap[w.heap.size+1]? = some (.cells #[.int .i64 0,.int .i64 0,.int .i64 0,.int .i64 0,.int .i64 0,.int .i64 0] 85)∧wr.heap[w.heap.size]? = some (gBox n [g0,g1,g2,g3,g4])∧Hid (Below w.heap.size w wr)) (fun i _=>n - (intOf i).toNat)
 case atStart=>exact⟨0,Nat.zero_le _,rfl,m2,m1,m0,hb1⟩
 case round=>
  clear hb1 m2 m1 m0 hW1;obtain⟨k,hk,rfl,c2,c1,c0,hb⟩:=hrel;obtain⟨p0,p1,p2,p3,p4,p5⟩:=boxL6 (show wr.heap[w.heap.size]? = some (.cells #[.int .i64 (n:Int),.int .i64 g0,.int .i64 g1,.int .i64 g2,.int .i64 g3,.int .i64 g4] 85) from c0);clear p1 p2 p3 p4 p5;by_cases hlt:k < n
  ·have hltI:(k:Int) < (n:Int):=(by omega);rw[←hst.out k hlt] at c2;obtain⟨wo,hwo⟩:=exF (wr);subst hwo;go_wp2_with fail
   go_loopw [7] (fun i wr=>∃q:Nat,q≤n∧i = .int .i64 (q:Int)∧wr.heap[w.heap.size+2]? = some (gBox n ((tgR a hs n k).set (a.getD k 0).toNat (imgR a (hs.getD k 0) q)))∧wr.heap[w.heap.size+1]? = some (.cells #[.int .i64 0,.int .i64 0,.int .i64 0,.int .i64 0,.int .i64 0,.int .i64 0] 85)∧wr.heap[w.heap.size]? = some (gBox n [g0,g1,g2,g3,g4])∧Hid (Below w.heap.size w wr)) (fun i _=>n - (intOf i).toNat)
   case atStart=>exact⟨0,Nat.zero_le _,rfl,c2,c1,c0,hb⟩
   case round=>
    clear c2 c1 c0 hb p0;obtain⟨q,hq,rfl,c2,c1,c0,hb⟩:=hrel;obtain⟨p0,p1,p2,p3,p4,p5⟩:=boxL6 (show wr.heap[w.heap.size]? = some (.cells #[.int .i64 (n:Int),.int .i64 g0,.int .i64 g1,.int .i64 g2,.int .i64 g3,.int .i64 g4] 85) from c0);clear p1 p2 p3 p4 p5;by_cases hltq:q < n
    ·have hltQ:(q:Int) < (n:Int):=(by omega);have cg:=gBox_cell (k:=k) c0 (by simp;omega);rw[hpg.out k hlt] at cg;have hh:=hrg.out k hlt;obtain⟨h,hhd⟩:=exE (hs.getD k 0);rw[hhd] at cg hh;have HH:=qH (refHas h (q:Int) wr hh.1 (by omega) (by omega) (by omega));have hkb:(k:Int) < 5:=(by omega);obtain⟨p,hpe,hp5⟩:=hgd.out k hlt;obtain⟨e,hee⟩:=exE (a.getD q 0);have heb:=hgi.out q hltq;have cak:=cell_kept' hb.out (hac.out k hlt);have caq:=cell_kept' hb.out (hac.out q hltq);rw[hee] at heb caq;rw[hpe] at cak c2;rw[Int.toNat_natCast,hhd] at c2;have hs1:=imgR_succ a h q;rw[hee,imgRs,hasI_and hh.1 hh.2 (by omega)] at hs1;have cp:=gBox_cell (k:=p) c2 (by rw[List.length_set,tgR_len];exact hp5);rw[List.getD_eq_getElem?_getD,List.getElem?_set_self (by rw[tgR_len];exact hp5),Option.getD_some] at cp;obtain⟨o,ho⟩:=exE (imgR a h q);rw[ho] at cp hs1;have hpb:(p:Int) < 5:=(by omega);by_cases hhas:hasI h (q:Int)=true
     ·rw[hhas] at HH;rw[if_pos hhas] at hs1;replace hs1:=qH hs1;have fz:=gBox_free (j:=1+p) c2;replace c2:=qH c2;clear hhas hee;replace hpe:=qH hpe;replace hhd:=qH hhd;replace ho:=qH ho;go_wp2_with fail
      refine HH.out.mono ?_;rintro e1 w1 ⟨rfl,rfl⟩;go_wp2_with fail
      refine wp_region_qtail 15 hmx (by kernel_rfl) (by kernel_rfl) ?_ ?_
      ·rintro⟨a,wx,h⟩;first|exact h|(obtain⟨h,_⟩:=h;cases h;done)|(obtain⟨_,h,_⟩:=h;cases h;done)|(obtain⟨_,_,h,_⟩:=h;cases h;done)
      ·intro ops';simp only[List.take_succ_cons,List.take_zero,List.drop_succ_cons,List.drop_zero]
       repeat (quiet_step (fail))
       refine wpQuiet_nil ?_;intro d;go_wp2;go_roundw
       case rel=>
        refine⟨q+1,by omega,by go_num,by rw[hpe.out,Int.toNat_natCast,hhd.out,hs1.out,←List.set_set (a:=imgR a h q)];exact gBox_set (W:=wr.drewN d) (ho.out▸c2.out),(Below.heap_setCell _ _ _ _ (by simp)).trans c1,(Below.heap_setCell _ _ _ _ (by simp;omega)).trans c0,(below_drewN hb.out d).setCell (p:=⟨w.heap.size+2,1+p,none⟩) (by simp) _⟩
       case measure=>simp[intOf];omega
     ·replace hhas:hasI h (q:Int)=false:=(by simpa using hhas);rw[hhas] at HH;rw[if_neg (by rw[hhas];decide)] at hs1;replace hs1:=qH hs1;replace hpe:=qH hpe;replace hhd:=qH hhd;replace ho:=qH ho;replace c2:=qH c2;clear hhas hee cak caq cp;go_wp2_with fail
      refine HH.out.mono ?_;rintro e1 w1 ⟨rfl,rfl⟩;go_wp2_with fail
      go_roundw
      case rel=>exact⟨q+1,by omega,by go_num,by rw[hpe.out,Int.toNat_natCast,hhd.out,hs1.out,←ho.out];exact c2.out,c1,c0,hb⟩
      case measure=>simp[intOf];omega
    ·obtain rfl:q=n:=(by omega);clear hst hrg;go_wp2;go_roundw
     case rel=>exact⟨k+1,by omega,by go_num,c2,c1,c0,hb⟩
     case measure=>simp[intOf];omega
  ·obtain rfl:k=n:=(by omega);obtain⟨l,hl⟩:∃l,movedL a (hs.map fun x=>imgP a x k)=l:=⟨_,rfl⟩;obtain⟨g,hg⟩:=exE (l++List.replicate (5 - k) 0);have hend2:=hend.out;rw[hl,hg] at hend2;have hgl:g.length=5:=(by rw[←hend2,tgR_len]);obtain⟨k0,k1,k2,k3,k4,rfl⟩:=five hgl;rw[hend2] at c2;obtain⟨q0,q1,q2,q3,q4,q5⟩:=boxL6 (show wr.heap[w.heap.size+2]? = some (.cells #[.int .i64 (k:Int),.int .i64 k0,.int .i64 k1,.int .i64 k2,.int .i64 k3,.int .i64 k4] 85) from c2);obtain⟨z0,z1,z2,z3,z4,z5⟩:=boxL6 c1;obtain⟨f0,f1,f2,f3,f4,f5⟩:=freeL6 c1;replace hg:=qH hg;replace hl:=qH hl;clear hend hend2 c2 c0 hst hrg hgd hgi hgl hpg;go_wp2;refine storeEnd6 (u0:=.int .i64 (k:Int)) (u1:=.int .i64 k0) (u2:=.int .i64 k1) (u3:=.int .i64 k2) (u4:=.int .i64 k3) (u5:=.int .i64 k4) c1 ?_;intro W9 hW9 hb9 _ _ e0 e1 e2 e3 e4 e5;rw[←hW9];refine bodyPost_ret (v:=.agg #[.int .i64 (k:Int),.int .i64 k0,.int .i64 k1,.int .i64 k2,.int .i64 k3,.int .i64 k4]) (by simp[results,Tryz.results136,go_sem,e0,e1,e2,e3,e4,e5]) rfl ?_;exact⟨by rw[gVal,hl.out,hg.out];rfl,hb9 _ _ (by omega) hb.out⟩
theorem refRoundRen {w:World}{u:Value}{n:Nat}{a hs:List Int}{f:Int}(h1:1≤n) (h5:n≤5) (hR:RdN n hs f) (ha:IsP n a) (hu:Ints w u a) :
  Calls Tryz.prog 102 #[rVal (mkR n hs f),u] w fun e w'=>e = .returned (rVal (renR a (mkR n hs f)))∧Below w.heap.size w w':=by
 have hml:(movedL a (hs.map fun x=>imgP a x n)).length=n:=by rw[movedL_length,ha.1]
 have hmx : Tryz.prog.follows .mixedOrders=true:=by kernel_rfl
 have HGP:=qH (fun W (hW:Below w.heap.size w W)=>refGraphRen h1 h5 hR ha (hu.keep hW))
 have HSP:Hid (∀W,Below w.heap.size w W→Calls Tryz.prog 137 #[u,.int .i64 f] W fun e w'=>e = .returned (.int .i64 (imgP a f n))∧Qt W w'):=fun W hW=>by
  have:=refImage (hu.keep hW) (by rw[ha.1];exact ha.good) (by rw[ha.1];exact h5) f hR.f0
  rwa [ha.1,imgR_eq h1 h5 ha hR.f0 hR.f1] at this
 rw[renR_mk ha h5 hR.len];obtain⟨L,hL⟩:∃L,movedL a (hs.map fun x=>imgP a x n)=L:=⟨_,rfl⟩;rw[hL] at HGP hml⊢;obtain⟨pad,hpad⟩:=exE (hs++List.replicate (5 - n) 0);obtain⟨pad',hpad'⟩:∃pad,L++List.replicate (5 - n) 0=pad:=⟨_,rfl⟩;have hpl:pad.length=5:=by rw[←hpad];simp[hR.len];omega
 have hpl':pad'.length=5:=by rw[←hpad'];simp[hml];omega
 obtain⟨g0,g1,g2,g3,g4,rfl⟩:=five hpl;obtain⟨k0,k1,k2,k3,k4,rfl⟩:=five hpl';have eR:mkR n hs f = [(n:Int),g0,g1,g2,g3,g4,f]:=by rw[mkR,←List.append_assoc,hpad];rfl
 have eR':∀x,mkR n L x = [(n:Int),k0,k1,k2,k3,k4,x]:=fun x=>by rw[mkR,←List.append_assoc,hpad'];rfl
 simp only[gVal,hpad,hpad',List.map_cons,List.map_nil] at HGP;rw[eR,eR'];obtain⟨F,hF⟩:=exE (imgP a f n);rw[hF] at HSP⊢;simp only[rVal,List.map_cons,List.map_nil];clear hpad hpad' hpl hpl' eR eR' hL hml hF hR;obtain⟨aa,ac,ab,ao,rfl,-,-,-⟩:=hu;obtain⟨W1,hW1⟩:=exF ((w.alloc (.cells #[.int .i64 (n:Int),.int .i64 g0,.int .i64 g1,.int .i64 g2,.int .i64 g3,.int .i64 g4,.int .i64 f] 87)).alloc (.cells #[.int .i64 0,.int .i64 0,.int .i64 0,.int .i64 0,.int .i64 0,.int .i64 0,.int .i64 0] 87));have hb1:Below w.heap.size w W1:=by rw[hW1];exact((Below.refl _ _).alloc (Nat.le_refl _) _).alloc (by simp) _
 have m0:W1.heap[w.heap.size]? = some (.cells #[.int .i64 (n:Int),.int .i64 g0,.int .i64 g1,.int .i64 g2,.int .i64 g3,.int .i64 g4,.int .i64 f] 87):=by rw[hW1];exact(Below.heap_alloc _ _ _ (by simp)).trans (heap_alloc_new _ _)
 have m1:W1.heap[w.heap.size+1]? = some (.cells #[.int .i64 0,.int .i64 0,.int .i64 0,.int .i64 0,.int .i64 0,.int .i64 0,.int .i64 0] 87):=by
  rw[hW1];have:=heap_alloc_new (w.alloc (.cells #[.int .i64 (n:Int),.int .i64 g0,.int .i64 g1,.int .i64 g2,.int .i64 g3,.int .i64 g4,.int .i64 f] 87)) (.cells #[.int .i64 0,.int .i64 0,.int .i64 0,.int .i64 0,.int .i64 0,.int .i64 0,.int .i64 0] 87)
  rwa [World.size_alloc] at this
 have HK:Hid (∀W,Below W1.heap.size W1 W→W.cell? ⟨w.heap.size,0,none⟩=some (.int .i64 (n:Int))∧W.cell? ⟨w.heap.size,1,none⟩=some (.int .i64 g0)∧W.cell? ⟨w.heap.size,2,none⟩=some (.int .i64 g1)∧W.cell? ⟨w.heap.size,3,none⟩=some (.int .i64 g2)∧W.cell? ⟨w.heap.size,4,none⟩=some (.int .i64 g3)∧W.cell? ⟨w.heap.size,5,none⟩=some (.int .i64 g4)∧W.cell? ⟨w.heap.size,6,none⟩=some (.int .i64 f)):=fun W hW=>boxL7 ((hW.block _ (Array.getElem?_eq_some_iff.1 m0).1).trans m0);have hb1':=qH hb1;clear m0;go_enter Tryz.func102, Tryz.ntmps102
 go_wp2_with fail
 rw[←hW1];replace hW1:=qH hW1;refine wp_region_btail 9 hmx (by kernel_rfl) (by kernel_rfl) ?_ ?_
 ·rintro⟨a,wx,h⟩;first|exact h|(obtain⟨h,_⟩:=h;cases h;done)|(obtain⟨_,h,_⟩:=h;cases h;done)
 ·intro ops';simp only[List.take_succ_cons,List.take_zero,List.drop_succ_cons,List.drop_zero]
  repeat (refine wpQuiet_step fun K hK=>?_;go_simp;first|(refine hK _ ?_;clear hK K)|(apply Exists.intro;refine⟨fun wq hC=>?_,hK _ ?_⟩;(·(first|with_reducible rfl|(obtain⟨x0,x1,x2,x3,x4,x5,x6⟩:=HK.out wq hC;go_simp;first|done|with_reducible rfl|with_reducible exact⟨rfl,rfl⟩)|(refine(HGP.out wq (bt hb1'.out hC hb1'.out.size)).mono ?_;rintro e w' ⟨rfl,hb⟩;exact⟨rfl,btt hC hb⟩)|(refine(HSP.out wq (bt hb1'.out hC hb1'.out.size)).mono ?_;rintro e w' ⟨rfl,hb⟩;exact⟨rfl,btt hC hb.below⟩)));clear hK K))
  refine wpQuiet_nil ?_;intro w5 hb5;have m5:=(hb5.block _ (Array.getElem?_eq_some_iff.1 m1).1).trans m1;obtain⟨z0,z1,z2,z3,z4,z5,z6⟩:=boxL7 m5;obtain⟨f0,f1,f2,f3,f4,f5,f6⟩:=freeL7 m5;clear m1 HGP HSP HK;go_wp2;refine storeEnd7 (u0:=.int .i64 (n:Int)) (u1:=.int .i64 k0) (u2:=.int .i64 k1) (u3:=.int .i64 k2) (u4:=.int .i64 k3) (u5:=.int .i64 k4) (u6:=.int .i64 F) m5 ?_;intro W9 hW9 hb9 _ _ e0 e1 e2 e3 e4 e5 e6;rw[←hW9];refine bodyPost_ret (v:=.agg #[.int .i64 (n:Int),.int .i64 k0,.int .i64 k1,.int .i64 k2,.int .i64 k3,.int .i64 k4,.int .i64 F]) (by simp[results,Tryz.results102,go_sem,e0,e1,e2,e3,e4,e5,e6]) rfl ?_;exact⟨rfl,hb9 _ _ (by omega) (bt hb1 hb5 hb1.size)⟩
def mVal (m:List Int):Value:=.agg ((m.map (Value.int .i64)).toArray)
theorem moveC {w:World}{u:Value}{n:Nat}{a hs:List Int}{f t:Int}(h1:1≤n) (h5:n≤5) (hR:RdN n hs f) (ha:IsP n a) (hu:Ints w u a) :
  Calls Tryz.prog 98 #[u,mVal (mkR n hs f ++ [t])] w fun e w'=>e = .returned (.tuple #[mVal (renR a (mkR n hs f) ++ [t]),.int .i64 0])∧Below w.heap.size w w':=by
 have hml:(movedL a (hs.map fun x=>imgP a x n)).length=n:=by rw[movedL_length,ha.1]
 have HGP:=qH (fun W (hW:Below w.heap.size w W)=>roundPerm h1 h5 hR ha (hu.keep hW));rw[renR_mk ha h5 hR.len] at HGP⊢;obtain⟨L,hL⟩:∃L,movedL a (hs.map fun x=>imgP a x n)=L:=⟨_,rfl⟩;rw[hL] at HGP hml⊢;obtain⟨pad,hpad⟩:=exE (hs++List.replicate (5 - n) 0);obtain⟨pad',hpad'⟩:∃pad,L++List.replicate (5 - n) 0=pad:=⟨_,rfl⟩;have hpl:pad.length=5:=by rw[←hpad];simp[hR.len];omega
 have hpl':pad'.length=5:=by rw[←hpad'];simp[hml];omega
 obtain⟨g0,g1,g2,g3,g4,rfl⟩:=five hpl;obtain⟨k0,k1,k2,k3,k4,rfl⟩:=five hpl';have eR:mkR n hs f = [(n:Int),g0,g1,g2,g3,g4,f]:=by rw[mkR,←List.append_assoc,hpad];rfl
 have eR':∀x,mkR n L x = [(n:Int),k0,k1,k2,k3,k4,x]:=fun x=>by rw[mkR,←List.append_assoc,hpad'];rfl
 rw[eR,eR'] at HGP⊢;obtain⟨F,hF⟩:=exE (imgP a f n);rw[hF] at HGP⊢;simp only[rVal,List.map_cons,List.map_nil] at HGP;simp only[mVal,List.map_cons,List.map_nil,List.cons_append,List.nil_append];clear hpad hpad' hpl hpl' eR eR' hL hml hF hR;obtain⟨aa,ac,ab,ao,rfl,-,-,-⟩:=hu;obtain⟨W1,hW1⟩:=exF ((w.alloc (.cells #[.int .i64 (n:Int),.int .i64 g0,.int .i64 g1,.int .i64 g2,.int .i64 g3,.int .i64 g4,.int .i64 f,.int .i64 t] 100)).alloc (.cells #[.int .i64 0,.int .i64 0,.int .i64 0,.int .i64 0,.int .i64 0,.int .i64 0,.int .i64 0,.int .i64 0] 100));have hb1:Below w.heap.size w W1:=by rw[hW1];exact((Below.refl _ _).alloc (Nat.le_refl _) _).alloc (by simp) _
 have m0:W1.heap[w.heap.size]? = some (.cells #[.int .i64 (n:Int),.int .i64 g0,.int .i64 g1,.int .i64 g2,.int .i64 g3,.int .i64 g4,.int .i64 f,.int .i64 t] 100):=by rw[hW1];exact(Below.heap_alloc _ _ _ (by simp)).trans (heap_alloc_new _ _)
 have m1:W1.heap[w.heap.size+1]? = some (.cells #[.int .i64 0,.int .i64 0,.int .i64 0,.int .i64 0,.int .i64 0,.int .i64 0,.int .i64 0,.int .i64 0] 100):=by
  rw[hW1];have:=heap_alloc_new (w.alloc (.cells #[.int .i64 (n:Int),.int .i64 g0,.int .i64 g1,.int .i64 g2,.int .i64 g3,.int .i64 g4,.int .i64 f,.int .i64 t] 100)) (.cells #[.int .i64 0,.int .i64 0,.int .i64 0,.int .i64 0,.int .i64 0,.int .i64 0,.int .i64 0,.int .i64 0] 100)
  rwa [World.size_alloc] at this
 obtain⟨p0,p1,p2,p3,p4,p5,p6,p7⟩:=boxL8 m0;go_enter Tryz.func98, Tryz.ntmps98
 go_wp2_with fail
 rw[←hW1];replace hW1:=qH hW1;refine(HGP.out _ hb1).mono ?_;rintro e w2 ⟨rfl,hb2⟩;obtain⟨W4,hW4⟩:=exF (w2.alloc (.cells #[.int .i64 (n:Int),.int .i64 k0,.int .i64 k1,.int .i64 k2,.int .i64 k3,.int .i64 k4,.int .i64 F] 87));have hb4:Below w2.heap.size w2 W4:=by rw[hW4];exact(Below.refl _ _).alloc (Nat.le_refl _) _
 have m4:W4.heap[w2.heap.size]? = some (.cells #[.int .i64 (n:Int),.int .i64 k0,.int .i64 k1,.int .i64 k2,.int .i64 k3,.int .i64 k4,.int .i64 F] 87):=by rw[hW4];exact heap_alloc_new _ _
 have hb14:Below W1.heap.size W1 W4:=btt hb2 hb4;have m0':=(hb14.block _ (Array.getElem?_eq_some_iff.1 m0).1).trans m0;have m1':=(hb14.block _ (Array.getElem?_eq_some_iff.1 m1).1).trans m1;have hs4:w.heap.size+1 < w2.heap.size:=Nat.lt_of_lt_of_le (Array.getElem?_eq_some_iff.1 m1).1 hb2.size;clear p0 p1 p2 p3 p4 p5 p6 p7;obtain⟨p0,p1,p2,p3,p4,p5,p6,p7⟩:=boxL8 m0';obtain⟨j0,j1,j2,j3,j4,j5,j6⟩:=boxL7 m4;obtain⟨z0,z1,z2,z3,z4,z5,z6,z7⟩:=boxL8 m1';obtain⟨f0,f1,f2,f3,f4,f5,f6,f7⟩:=freeL8 m1';clear p0 p1 p2 p3 p4 p5 p6;have hb4':=bt hb1 hb14 hb1.size;clear m0 m1 m0' m4 HGP;go_upto_region 2 with fail
 rw[←hW4];replace hW4:=qH hW4;go_wp2;refine storeEnd8 (u0:=.int .i64 (n:Int)) (u1:=.int .i64 k0) (u2:=.int .i64 k1) (u3:=.int .i64 k2) (u4:=.int .i64 k3) (u5:=.int .i64 k4) (u6:=.int .i64 F) (u7:=.int .i64 t) m1' ?_;intro W9 hW9 hb9 _ _ e0 e1 e2 e3 e4 e5 e6 e7;rw[←hW9];refine bodyPost_ret (v:=.tuple #[.agg #[.int .i64 (n:Int),.int .i64 k0,.int .i64 k1,.int .i64 k2,.int .i64 k3,.int .i64 k4,.int .i64 F,.int .i64 t],.int .i64 0]) (by simp[results,Tryz.results98,go_sem,e0,e1,e2,e3,e4,e5,e6,e7]) rfl ?_;exact⟨rfl,hb9 _ _ (by omega) hb4'⟩
end Go.Proofs.YtmikofeildnpdaaGreat
namespace Go.Proofs.YtmikofeildnpdaaGreat
def MvN (n:Nat) (m:List Int):Prop:=m.length=8∧∃hs f,RdN n hs f∧rdOf m=mkR n hs f
structure WfN (n:Nat) (ss:List (List (List Int))):Prop where
 h1:1≤n
 h5:n≤5
 l1:1≤ss.length
 l2:ss.length≤256
 l3:movesN ss≤4096
 ne:∀s∈ss,0 < s.length
 mv:∀s∈ss,∀m∈s,MvN n m
 lead:LeadOK ss
 asc:∀s∈ss,AscL (s.map rdOf)
 gr:growsB ss=true
theorem WfN.s {n:Nat}{ss:List (List (List Int))}(h:WfN n ss):WfS ss:=⟨h.asc,h.lead,h.l1⟩
theorem WfN.of {n:Nat}{ss:List (List (List Int))}(h8:∀s∈ss,∀m∈s,m.length=8) (h:chkA (n:Int) ss=0):WfN n ss:=by
 obtain⟨⟨q1,q5⟩,⟨l1,l2,l3⟩,h3,h4⟩:=chkA_facts h
 have hst:∀s∈ss,0 < s.length∧∀j,j < s.length→mvErr (n:Int) ss.length s j=0:=fun s hs=>by
  have h5:=ssGo_zero h3 s hs;unfold stErr at h5;by_cases he:s.length=0
  ·rw[if_pos he] at h5;cases h5
  rw[if_neg he] at h5;exact⟨by omega,fun j hj=>mvGo_zero h5 j (by omega) (by omega)⟩
 have hmv:∀s∈ss,∀m∈s,chkRd (rdOf m)=0∧m.getD 0 0=(n:Int)∧0≤m.getD 7 0∧m.getD 7 0 < (ss.length:Int):=fun s hs m hm=>by
  obtain⟨j,hj,rfl⟩:=List.mem_iff_getElem.1 hm;obtain⟨c1,c2,_,c4,c5⟩:=mvErr_zero ((hst s hs).2 j hj);rw[getD_eq hj] at c1 c2 c4 c5;exact⟨c1,c2,c4,c5⟩
 refine⟨by omega,by omega,l1,l2,l3,fun s hs=>(hst s hs).1,fun s hs m hm=>?_,fun s hs m hm=>⟨(hmv s hs m hm).2.2.1,(hmv s hs m hm).2.2.2⟩,ascL_of h,h4⟩;obtain⟨c1,c2,_,_⟩:=hmv s hs m hm;have hl:=h8 s hs m hm
 have e0:(rdOf m).getD 0 0=(n:Int):=by
  rw[←c2,rdOf,List.getD_eq_getElem?_getD,List.getElem?_take,if_pos (by omega),←List.getD_eq_getElem?_getD]
 obtain⟨_,hs',f,r1,r2⟩:=rd_of (by rw[rdOf,List.length_take,hl];rfl) c1 e0;exact⟨hl,hs',f,r1,r2⟩
theorem ssGo_ofN {n:Int}{len:Nat}:∀ {ss:List (List (List Int))},(∀s∈ss,stErr n len s=0)→ssGo n len ss=0
 | [],_=>rfl
 | s::r,h=>by rw[ssGo,if_neg (fun k=>k (h s (by simp)))];exact ssGo_ofN fun x hx=>h x (by simp[hx])
theorem mvGo_ofN {n:Int}{len:Nat}{ms:List (List Int)}:∀(k i:Nat),(∀j,i≤j→j < i+k→mvErr n len ms j=0)→mvGo n len ms i k=0
 | 0,_,_=>rfl
 | k+1,i,h=>by rw[mvGo,if_neg (fun q=>q (h i (by omega) (by omega)))];exact mvGo_ofN k (i+1) fun j h1 h2=>h j (by omega) (by omega)
theorem WfN.chk {n:Nat}{ss:List (List (List Int))}(h:WfN n ss):chkA (n:Int) ss=0:=by
 have hs:ssGo (n:Int) ss.length ss=0:=ssGo_ofN fun s hs=>by
  have hne:=h.ne s hs;rw[stErr,if_neg (by omega)];refine mvGo_ofN _ _ fun j _ hj=>?_;have hj:j < s.length:=by omega
  have hm:s.getD j []∈s:=by rw[getD_eq hj];exact List.getElem_mem hj
  obtain⟨hl,hh,f,r1,r2⟩:=h.mv s hs _ hm;obtain⟨d1,d2⟩:=h.lead s hs _ hm
  have e0:(s.getD j []).getD 0 0=(n:Int):=by
   have:(rdOf (s.getD j [])).getD 0 0=(n:Int):=by rw[r2];rfl
   rwa [rdOf,List.getD_eq_getElem?_getD,List.getElem?_take,if_pos (by omega),←List.getD_eq_getElem?_getD] at this
  have hc:chkRd ((s.getD j []).take 7)=0:=by
   have:=chkRd_mk h.h1 h.h5 r1
   rw[←r2] at this;exact this
  rw[mvErr,if_neg (fun k=>k hc),if_neg (fun k=>k e0),if_neg,if_neg (by omega)];rintro⟨j0,hcm⟩;have ha:=h.asc s hs;rw[AscL,List.pairwise_iff_getElem] at ha;have:=ha (j - 1) j (by rw[List.length_map];omega) (by rw[List.length_map];exact hj) (by omega)
  rw[List.getElem_map,List.getElem_map] at this;rw[getD_eq hj,getD_eq (show j - 1 < s.length by omega)] at hcm;have this:cmpL ((s[j - 1]'(by omega)).take 7) (s[j].take 7) < 0:=this;omega
 have q1:=h.h1;have q5:=h.h5;have q2:=h.l1;have q3:=h.l2;have q4:=h.l3;rw[chkA,if_neg (by omega),if_neg (by omega),hs,if_neg (fun k=>k rfl),h.gr,if_pos rfl]
def renM (a:List Int) (m:List Int):List Int:=renR a (rdOf m) ++ [m.getD 7 0]
def renS (a:List Int) (s:List (List Int)):List (List Int):=srtB cmpM [] (s.map (renM a))
def renA (a:List Int) (ss:List (List (List Int))):List (List (List Int)):=ss.map (renS a)
section
variable {n:Nat} {a b:List Int} {ss:List (List (List Int))} {s:List (List Int)} {m m':List Int}
theorem renM_facts (h1:1≤n) (h5:n≤5) (ha:IsP n a) (h:MvN n m):rdOf (renM a m)=renR a (rdOf m)∧(renM a m).getD 7 0=m.getD 7 0∧MvN n (renM a m)∧mvTo (renM a m)=mvTo m:=by
 obtain⟨hl,hs,f,r1,r2⟩:=h;have hR:=r1.ren h1 h5 ha;have e:renR a (rdOf m)=mkR n (movedL a (hs.map fun x=>imgP a x n)) (imgP a f n):=by rw[r2,renR_mk ha h5 r1.len]
 have hl7:(renR a (rdOf m)).length=7:=by rw[e];exact mkR_len h5 hR.len
 have e7:rdOf (renM a m)=renR a (rdOf m):=by rw[rdOf,renM,List.take_append_of_le_length (by omega),List.take_of_length_le (by omega)]
 have et:(renM a m).getD 7 0=m.getD 7 0:=by rw[renM,List.getD_eq_getElem?_getD,List.getElem?_append_right (by omega),hl7];rfl
 refine⟨e7,et,⟨by rw[renM,List.length_append,hl7];rfl,_,_,hR,by rw[e7,e]⟩,by rw[mvTo,mvTo,et]⟩
theorem renS_mem {x:List Int}:x∈renS a s↔∃m∈s,renM a m=x:=by rw[renS,srtB_mem weakM,List.mem_map]
theorem renS_len:(renS a s).length=s.length:=by rw[renS,srtB_len weakM,List.length_map]
theorem renM_inj (h1:1≤n) (h5:n≤5) (ha:IsP n a) (h:MvN n m) (h':MvN n m') (e:rdOf (renM a m)=rdOf (renM a m')):rdOf m=rdOf m':=by
 rw[(renM_facts h1 h5 ha h).1,(renM_facts h1 h5 ha h').1] at e;obtain⟨_,hs,f,r1,r2⟩:=h;obtain⟨_,hs',f',r1',r2'⟩:=h';rw[r2,r2'] at e⊢;exact renR_inj h1 h5 ha r1 r1' e
theorem asc_rd (hA:AscL (s.map rdOf)) (hm:m∈s) (hm':m'∈s) (e:rdOf m=rdOf m'):m=m':=by
 obtain⟨i,hi,rfl⟩:=List.mem_iff_getElem.1 hm;obtain⟨j,hj,rfl⟩:=List.mem_iff_getElem.1 hm';rw[AscL,List.pairwise_iff_getElem] at hA
 have key:∀i j (hi:i < s.length) (hj:j < s.length),i < j→rdOf s[i]=rdOf s[j]→False:=fun i j hi hj hij e=>by
  have:=hA i j (by rw[List.length_map];exact hi) (by rw[List.length_map];exact hj) hij
  rw[List.getElem_map,List.getElem_map,e,cmpL_self] at this;omega
 rcases Nat.lt_trichotomy i j with h|h|h
 ·exact(key i j hi hj h e).elim
 ·subst h;rfl
 ·exact(key j i hj hi h e.symm).elim
theorem renS_anti (h1:1≤n) (h5:n≤5) (ha:IsP n a) (hA:AscL (s.map rdOf)) (hv:∀m∈s,MvN n m):∀x∈s.map (renM a),∀y∈s.map (renM a),¬cmpM x y < 0→¬cmpM y x < 0→x=y:=fun x hx y hy h2 h3=>by
 obtain⟨m,hm,rfl⟩:=List.mem_map.1 hx;obtain⟨m',hm',rfl⟩:=List.mem_map.1 hy;rw[asc_rd hA hm hm' (renM_inj h1 h5 ha (hv m hm) (hv m' hm') (cmpL_anti h2 h3))]
theorem renS_asc (h1:1≤n) (h5:n≤5) (ha:IsP n a) (hA:AscL (s.map rdOf)) (hv:∀m∈s,MvN n m):AscL ((renS a s).map rdOf):=by
 have hsrt:SrtG cmpM (renS a s):=srtB_sorted weakM _
 have hnd:(renS a s).Nodup:=by
  refine(srtB_perm weakM _).nodup_iff.2 ?_;rw[List.Nodup,List.pairwise_map];refine List.Pairwise.imp_of_mem (fun {x y} hx hy hxy e=>?_) (List.pairwise_map.1 hA);have:=renM_inj h1 h5 ha (hv x hx) (hv y hy) (by rw[e])
  rw[this,cmpL_self] at hxy;omega
 rw[AscL,List.pairwise_map];refine List.Pairwise.imp_of_mem (fun {x y} hx hy hxy=>?_) (List.pairwise_and_iff.2 ⟨hsrt,hnd⟩);rcases cmpL_total (rdOf x) (rdOf y) with h|h|h
 ·exact h
 ·refine absurd ?_ hxy.2;have hx':=(srtB_mem weakM _).1 hx;have hy':=(srtB_mem weakM _).1 hy;have hz : ¬cmpM x y < 0:=by show ¬cmpL _ _ < 0;rw[h,cmpL_self];omega
  exact renS_anti h1 h5 ha hA hv x hx' y hy' hz hxy.1
 ·exact absurd h hxy.1
theorem movesN_ren (a:List Int) (ss:List (List (List Int))):movesN (renA a ss)=movesN ss:=by
 unfold movesN renA;rw[List.map_map];congr 1
 exact List.map_congr_left fun s _=>renS_len
theorem renA_getD (a:List Int) (ss:List (List (List Int))) (k:Nat):(renA a ss).getD k []=renS a (ss.getD k []):=by
 unfold renA;rw[List.getD_eq_getElem?_getD,List.getD_eq_getElem?_getD,List.getElem?_map];cases ss[k]? with
 | none=>rfl
 | some x=>rfl
theorem insideB_iff {x y:Int}:insideB x y=true↔∀p:Nat,p < 5→hasI x (p:Int)=true→hasI y (p:Int)=true:=by
 unfold insideB;simp only[List.all_cons,List.all_nil,Bool.and_true,Bool.and_eq_true,Bool.or_eq_true,Bool.not_eq_true'];constructor
 ·rintro⟨a0,a1,a2,a3,a4⟩ p hp hx;have:p=0∨p=1∨p=2∨p=3∨p=4:=by omega
  rcases this with rfl|rfl|rfl|rfl|rfl
  ·exact a0.resolve_left fun h=>by rw[show((0:Nat):Int)=0 from rfl,h] at hx;cases hx
  ·exact a1.resolve_left fun h=>by rw[show((1:Nat):Int)=1 from rfl,h] at hx;cases hx
  ·exact a2.resolve_left fun h=>by rw[show((2:Nat):Int)=2 from rfl,h] at hx;cases hx
  ·exact a3.resolve_left fun h=>by rw[show((3:Nat):Int)=3 from rfl,h] at hx;cases hx
  ·exact a4.resolve_left fun h=>by rw[show((4:Nat):Int)=4 from rfl,h] at hx;cases hx
 ·intro h
  have g:∀p:Nat,p < 5→hasI x (p:Int)=false∨hasI y (p:Int)=true:=fun p hp=>by
   cases e:hasI x (p:Int) with
   | false=>exact .inl rfl
   | true=>exact .inr (h p hp e)
  exact⟨g 0 (by omega),g 1 (by omega),g 2 (by omega),g 3 (by omega),g 4 (by omega)⟩
theorem hasI_big {x:Int}(x0:0≤x) (hx:x < 2 ^ n) {p:Nat}(hp:n≤p) (h5:p < 5):hasI x (p:Int)=false:=by
 rw[hasI,twoI_pow h5]
 have:(2:Int) ^ n≤2 ^ p:=by
  exact_mod_cast Nat.pow_le_pow_right (by omega:0 < 2) hp
 rw[Int.ediv_eq_zero_of_lt x0 (by omega)];rfl
theorem inside_img (h1:1≤n) (h5:n≤5) (ha:IsP n a) {x y:Int}(x0:0≤x) (x1:x < 2 ^ n) (y0:0≤y) (y1:y < 2 ^ n) (h:insideB x y=true):insideB (imgP a x n) (imgP a y n)=true:=by
 rw[insideB_iff] at h⊢;intro q hq hx;obtain⟨q0,q1⟩:=img_rng h1 h5 ha x0 x1;by_cases hqn:q < n
 ·obtain⟨p,hp,e⟩:=perm_onto h1 h5 ha hqn;rw[←e,img_has h1 h5 ha x0 x1 hp] at hx;rw[←e,img_has h1 h5 ha y0 y1 hp];exact h p (by omega) hx
 ·rw[hasI_big q0 q1 (by omega) hq] at hx;cases hx
theorem MvN.f (h:MvN n m) (h5:n≤5):∃hs f,RdN n hs f∧rdOf m=mkR n hs f∧m.getD 6 0=f:=by
 obtain⟨hl,hs,f,r1,r2⟩:=h;refine⟨hs,f,r1,r2,?_⟩;have:=mkR_f (f:=f) h5 r1.len
 rwa [←r2,rdOf,List.getD_eq_getElem?_getD,List.getElem?_take,if_pos (by omega),←List.getD_eq_getElem?_getD] at this
theorem WfN.ren (h:WfN n ss) (ha:IsP n a):WfN n (renA a ss) where
 h1:=h.h1
 h5:=h.h5
 l1:=by rw[renA,List.length_map];exact h.l1
 l2:=by rw[renA,List.length_map];exact h.l2
 l3:=by rw[movesN_ren];exact h.l3
 ne s hs:=by
  obtain⟨t,ht,rfl⟩:=List.mem_map.1 hs;rw[renS_len];exact h.ne t ht
 mv s hs m hm:=by
  obtain⟨t,ht,rfl⟩:=List.mem_map.1 hs;obtain⟨x,hx,rfl⟩:=renS_mem.1 hm;exact(renM_facts h.h1 h.h5 ha (h.mv t ht x hx)).2.2.1
 lead s hs m hm:=by
  obtain⟨t,ht,rfl⟩:=List.mem_map.1 hs;obtain⟨x,hx,rfl⟩:=renS_mem.1 hm;rw[(renM_facts h.h1 h.h5 ha (h.mv t ht x hx)).2.1,renA,List.length_map];exact h.lead t ht x hx
 asc s hs:=by
  obtain⟨t,ht,rfl⟩:=List.mem_map.1 hs;exact renS_asc h.h1 h.h5 ha (h.asc t ht) (h.mv t ht)
 gr:=by
  have hg:=h.gr;rw[growsB,List.all_eq_true] at hg⊢;intro s hs;obtain⟨t,ht,rfl⟩:=List.mem_map.1 hs;have hg:=hg t ht;rw[gr2,List.all_eq_true] at hg⊢;intro m hm;obtain⟨x,hx,rfl⟩:=renS_mem.1 hm;have hX:=h.mv t ht x hx;obtain⟨e1,e2,e3,e4⟩:=renM_facts h.h1 h.h5 ha hX;have hg:=hg x hx;rw[gr3,List.all_eq_true] at hg⊢;intro k hk;rw[e2,renA_getD] at hk;obtain⟨y,hy,rfl⟩:=renS_mem.1 hk;have hst:=stIn hy;have hY:=h.mv _ hst.1 y hy;have hg:=hg y hy;obtain⟨hsx,fx,rx1,rx2,rx3⟩:=hX.f h.h5;obtain⟨hsy,fy,ry1,ry2,ry3⟩:=hY.f h.h5;obtain⟨_,fx',qx1,qx2,qx3⟩:=e3.f h.h5;obtain⟨_,fy',qy1,qy2,qy3⟩:=(renM_facts h.h1 h.h5 ha hY).2.2.1.f h.h5;rw[e1,rx2,renR_mk ha h.h5 rx1.len] at qx2;rw[(renM_facts h.h1 h.h5 ha hY).1,ry2,renR_mk ha h.h5 ry1.len] at qy2;have ex:=(mkR_inj (rx1.ren h.h1 h.h5 ha).len qx1.len qx2).2;have ey:=(mkR_inj (ry1.ren h.h1 h.h5 ha).len qy1.len qy2).2;rw[rx3,ry3] at hg;rw[qx3,qy3,←ex,←ey];exact inside_img h.h1 h.h5 ha rx1.f0 rx1.f1 ry1.f0 ry1.f1 hg
def kpA (ss:List (List (List Int))) (a:List Int):Prop:=eqW ss (renA a ss)
end
end Go.Proofs.YtmikofeildnpdaaGreat
namespace Go.Proofs.YtmikofeildnpdaaGreat
open Go.RowKit
theorem OwX.capD {α:Type}{E:TypeId}{k:Nat}{El:World→List Value→α→Prop}{w:World}{B n m c:Nat}{a:Option Addr}{xs:List α}(h:OwX E k El w B (.slice a m c) n xs):n≤c:=by
 obtain⟨vs,h1,_⟩:=h;rcases h1.2 with⟨he,h0⟩|⟨g,cap,cur,he,_,_,hc,_⟩
 ·omega
 ·injection he with _ _ e3;subst e3;exact hc
theorem OwX.ksc {w:World}{B n:Nat}{v:Value}{xs:List (List Int)}(h:OwX 100 8 EI w B v n xs) (hn:n≤2199023255552):KSC 8 w v xs:=by
 have hl:=h.length;subst hl;obtain⟨a,c,rfl⟩:=h.shape;have hcap:=h.capD;obtain⟨a',c',b,off,he,h1,h2,h3⟩:=h.ks hn;injection he with e1 e2 e3;subst e1 e3;exact⟨_,_,b,off,rfl,h1,h2,h3,hcap⟩
theorem OwAdv.advC {w:World}{v:Value}{n:Int}{ss:List (List (List Int))}(h:OwAdv w v n ss):AdvC w v n ss:=by
 obtain⟨sv,rfl,hO,hl,hx⟩:=h;rcases Nat.eq_zero_or_pos ss.length with h0|h0
 ·obtain⟨a,c,rfl⟩:=hO.shape;obtain rfl:=List.length_eq_zero_iff.1 h0;exact⟨a,c,0,0,rfl,by simp,fun j hj=>by simp at hj,hl⟩
 ·obtain⟨g,cap,rfl,_⟩:=hO.form h0;refine⟨_,cap,g,0,rfl,fun _=>rfl,fun j hj=>?_,hl⟩;have hx':ss[j]? = some (ss.getD j []):=by rw[getD_eq hj];exact List.getElem?_eq_some_iff.2 ⟨hj,rfl⟩
  obtain⟨cs,h1,⟨u,h2,h3⟩,h4⟩:=hO.cells hx';refine⟨u,?_,h3.ksc (hx _ (List.mem_of_getElem? hx'))⟩;have:=h4 0 u (by rw[h2];rfl)
  rw[Nat.mul_one,Nat.add_zero] at this;rw[Nat.zero_add];exact this
theorem moveM {w:World}{u:Value}{n:Nat}{a mv:List Int}(h1:1≤n) (h5:n≤5) (hM:MvN n mv) (ha:IsP n a) (hu:Ints w u a) :
  Calls Tryz.prog 98 #[u,mVal mv] w fun e w'=>e = .returned (.tuple #[mVal (renM a mv),.int .i64 0])∧Below w.heap.size w w':=by
 obtain⟨hl,hs,f,hR,hrd⟩:=hM;obtain⟨y0,y1,y2,y3,y4,y5,y6,y7,rfl⟩:=eight hl;have e1 : [y0,y1,y2,y3,y4,y5,y6,y7]=mkR n hs f ++ [y7]:=by rw[←hrd];rfl
 have e2:renM a [y0,y1,y2,y3,y4,y5,y6,y7]=renR a (mkR n hs f) ++ [y7]:=by rw[renM,hrd];rfl
 rw[e2,e1];exact moveC h1 h5 hR ha hu
theorem renamedC {w:World}{v u:Value}{n:Nat}{a:List Int}{ss:List (List (List Int))}(hA:AdvV w v n ss) (hW:WfN n ss) (ha:IsP n a) (hu:Ints w u a) :
  Calls Tryz.prog 52 #[v,u] w fun e w'=>∃r,e = .returned (.tuple #[r,.int .i64 0])∧OwAdv w' r n (renA a ss)∧Below w.heap.size w w':=by
 obtain⟨sv,rfl,hK⟩:=hA;obtain⟨sa,sc,hsv⟩:=hK.shape;subst hsv;obtain⟨W1,hW1⟩:=exF (((w.alloc (.cells #[.int .i64 (n:Int),.slice sa ss.length sc] 24)).alloc (.cells #[.int .i64 0,.slice none 0 0] 24)).alloc (.cells #[.int .i64 (n:Int),.slice none 0 0] 24));have hb1:Below w.heap.size w W1:=by rw[hW1];exact(((Below.refl _ w).alloc (Nat.le_refl _) _).alloc (by simp) _).alloc (by simp;omega) _
 have hs1:W1.heap.size=w.heap.size+3:=by rw[hW1];simp
 have m0:W1.heap[w.heap.size]? = some (.cells #[.int .i64 (n:Int),.slice sa ss.length sc] 24):=by rw[hW1];exact(Below.heap_alloc _ _ _ (by simp;omega)).trans ((Below.heap_alloc _ _ _ (by simp)).trans (heap_alloc_new _ _))
 have m1:W1.heap[w.heap.size+1]? = some (.cells #[.int .i64 0,.slice none 0 0] 24):=by
  have h:=heap_alloc_new (w.alloc (.cells #[.int .i64 (n:Int),.slice sa ss.length sc] 24)) (.cells #[.int .i64 0,.slice none 0 0] 24);rw[World.size_alloc] at h;rw[hW1];exact(Below.heap_alloc _ _ _ (by simp)).trans h
 have m2:W1.heap[w.heap.size+2]? = some (.cells #[.int .i64 (n:Int),.slice none 0 0] 24):=by
  have h:=heap_alloc_new ((w.alloc (.cells #[.int .i64 (n:Int),.slice sa ss.length sc] 24)).alloc (.cells #[.int .i64 0,.slice none 0 0] 24)) (.cells #[.int .i64 (n:Int),.slice none 0 0] 24);rw[World.size_alloc,World.size_alloc] at h;rw[hW1];exact h
 obtain⟨p0,p1⟩:=boxL2 m0;have HM:=qH (fun W (h:Below w.heap.size w W) mv (hm:MvN n mv)=>moveM hW.h1 hW.h5 hm ha (hu.keep h));have hUS:∃ua uc,u = .slice ua a.length uc:=by obtain⟨ua,uc,_,_,h,_⟩:=hu;exact⟨ua,uc,h⟩
 obtain⟨ua,uc,rfl⟩:=hUS;have hKh:=qH hK;have hmv:=qH hW.mv;have hne:=qH hW.ne;have h1:=hW.h1;have h5:=hW.h5;have hl2:=hW.l2;have hml:Hid (∀s∈ss,s.length≤4096):=fun s hs=>Nat.le_trans (mem_movesN hs) hW.l3;have hasc:=qH hW.asc;have hah:=qH ha;replace hs1:=qH hs1;have hMl:Hid (∀mv,MvN n mv→(renM a mv).length=8):=fun mv hm=>(renM_facts h1 h5 hah.out hm).2.2.1.1;obtain⟨RS,hRS⟩:=exE (renA a ss);have hRSl:Hid (RS.length=ss.length):=by rw[←hRS,renA,List.length_map];exact rfl
 have hRSi:Hid (∀i,i < ss.length→RS.getD i []=renS a (ss.getD i [])):=fun i hi=>by rw[←hRS,renA_getD]
 rw[hRS];replace hRS:=qH hRS;have ho1:OwX 98 1 ESt W1 (w.heap.size+3) (.slice none 0 0) 0 (RS.take 0):=OwX.nil _ _;clear hK hu hW ha;go_enter Tryz.func52, Tryz.ntmps52
 go_wp2_with fail
 rw[←hW1];replace hW1:=qH hW1
 go_loopw [23] (fun iv wr=>∃(i:Nat) (sv:Value),iv = .int .i64 (i:Int)∧i≤ss.length∧Hid (Below w.heap.size w wr)∧wr.heap[w.heap.size+1]? = some (.cells #[.int .i64 0,.slice none 0 0] 24)∧wr.heap[w.heap.size+2]? = some (.cells #[.int .i64 (n:Int),sv] 24)∧
  OwX 98 1 ESt wr (w.heap.size+3) sv i (RS.take i)∧w.heap.size+3≤wr.heap.size) (fun iv _=>ss.length - (intOf iv).toNat)
 case atStart=>exact⟨0,_,rfl,Nat.zero_le _,hb1,m1,m2,ho1,by rw[hs1.out];exact Nat.le_refl _⟩
 case round=>
  clear m0 m1 m2 ho1 p0 p1 hW1 hb1;obtain⟨i,sv,rfl,hi,hb,c1,c2,ho,hsz⟩:=hrel;obtain⟨va,vc,hsv⟩:=ho.shape;subst hsv;by_cases hlt:i < ss.length
  ·have hltI:(i:Int) < (ss.length:Int):=(by omega);obtain⟨aa,ac,ab,ao,hav,hab,hacc,_⟩:=hKh.out.keep hb.out;injection hav with hav1 hav2 hav3;have hab:=hab (by omega);rw[←hav1] at hab;subst hab;obtain⟨um,hcu,hum⟩:=hacc i hlt;obtain⟨ms,hms⟩:=exE (ss.getD i []);have hmem:ms∈ss:=(by rw[←hms];exact getD_mem hlt);rw[hms] at hum;have hmm:=qH (hmv.out ms hmem);have hm0:=hne.out ms hmem;have hm9:=hml.out ms hmem;obtain⟨ma,mc,mb,mo,rfl,hma,hmc,_⟩:=hum;obtain rfl:=hma (by omega);replace hmc:Hid (∀j,j < ms.length→(ms.getD j []).length=8∧CI wr mb (mo+j * 8) (ms.getD j [])):=hmc;obtain⟨wo,hwo⟩:=exF (wr);subst hwo;obtain⟨M,hMM⟩:=exE (ms.map (renM a));have hMMl:Hid (M.length=ms.length):=(by rw[←hMM,List.length_map];exact rfl);have hMi:Hid (∀j,j < ms.length→M.getD j []=renM a (ms.getD j [])):=fun j hj=>by rw[←hMM,getD_eq (by rw[List.length_map];exact hj),List.getElem_map,getD_eq hj]
   replace hMM:=qH hMM;have hown0:OwX 100 8 EI wo wo.heap.size (.slice none 0 0) 0 (M.take 0):=OwX.nil _ _;have hbo:=Below.refl wo.heap.size wo;clear hav2 hav3 hacc hav1;go_wp2_with fail
   go_loopw [10,29] (fun ov jv wr=>∃j:Nat,jv = .int .i64 (j:Int)∧j≤ms.length∧OwX 100 8 EI wr wo.heap.size ov j (M.take j)∧Hid (Below wo.heap.size wo wr)) (fun _ jv _=>ms.length - (intOf jv).toNat)
   case atStart=>exact⟨0,rfl,Nat.zero_le _,hown0,hbo⟩
   case round=>
    clear hown0 hbo;obtain⟨j,rfl,hj,how,hbo⟩:=hrel;obtain⟨oa,oc,hov⟩:=how.shape;subst hov;by_cases hltj:j < ms.length
    ·have hltJ:(j:Int) < (ms.length:Int):=(by omega);obtain⟨hx8,hxc⟩:=hmc.out j hltj;obtain⟨x,hx⟩:=exE (ms.getD j []);have hxM:MvN n x:=hmm.out x (by rw[←hx];exact getD_mem hltj);have hstep:M.take (j+1)=M.take j ++ [renM a x]:=(by rw[take_snoc (by rw[hMMl.out];exact hltj) [],hMi.out j hltj,hx]);rw[hx] at hx8 hxc;have hr8:=hMl.out x hxM;obtain⟨rm,hrm⟩:=exE (renM a x);have HC:=qH (fun W (h:Below w.heap.size w W)=>HM.out W h x hxM);rw[hrm] at HC hr8 hstep;obtain⟨k0,k1,k2,k3,k4,k5,k6,k7,rfl⟩:=eight hr8;obtain⟨y0,y1,y2,y3,y4,y5,y6,y7,rfl⟩:=eight hx8;simp only[mVal,List.map_cons,List.map_nil] at HC;obtain⟨q0,q1,q2,q3,q4,q5,q6,q7⟩:=(hxc.keep hbo.out).all8;have hbw:Below w.heap.size w wr:=bt hb.out hbo.out hb.out.size;obtain⟨W5,hW5⟩:=exF (wr.alloc (.cells #[.int .i64 y0,.int .i64 y1,.int .i64 y2,.int .i64 y3,.int .i64 y4,.int .i64 y5,.int .i64 y6,.int .i64 y7] 100));have hb5:Below wr.heap.size wr W5:=(by rw[hW5];exact(Below.refl _ _).alloc (Nat.le_refl _) _);replace hstep:=qH hstep;clear hx hxM hx8 hxc hr8 hrm;go_wp2_with fail
     rw[←hW5];replace hW5:=qH hW5;refine(HC.out W5 (bt hbw hb5 hbw.size)).mono ?_;rintro e w6 ⟨rfl,hb6⟩;clear q0 q1 q2 q3 q4 q5 q6 q7;obtain⟨W7,hW7⟩:=exF (w6.alloc (.cells #[.int .i64 k0,.int .i64 k1,.int .i64 k2,.int .i64 k3,.int .i64 k4,.int .i64 k5,.int .i64 k6,.int .i64 k7] 100));have hb7:Below w6.heap.size w6 W7:=(by rw[hW7];exact(Below.refl _ _).alloc (Nat.le_refl _) _);have m7:W7.heap[w6.heap.size]? = some (.cells #[.int .i64 k0,.int .i64 k1,.int .i64 k2,.int .i64 k3,.int .i64 k4,.int .i64 k5,.int .i64 k6,.int .i64 k7] 100):=(by rw[hW7];exact heap_alloc_new _ _);have hb17:Below wr.heap.size wr W7:=btt hb5 (btt hb6 hb7);have how7:=how.keep (EI.stab _) hb17;have hbo7:Below wo.heap.size wo W7:=bt hbo.out hb17 hbo.out.size;obtain⟨j0,j1,j2,j3,j4,j5,j6,j7⟩:=boxL8 m7;have hEI:EI W7 [.int .i64 k0,.int .i64 k1,.int .i64 k2,.int .i64 k3,.int .i64 k4,.int .i64 k5,.int .i64 k6,.int .i64 k7] [k0,k1,k2,k3,k4,k5,k6,k7]:=rfl
     have hc8:∀u∈(#[.int .i64 k0,.int .i64 k1,.int .i64 k2,.int .i64 k3,.int .i64 k4,.int .i64 k5,.int .i64 k6,.int .i64 k7]:Array Value).toList,u.oneCell'=true:=fun u hu=>by
      simp only[List.mem_cons,List.not_mem_nil,or_false] at hu;rcases hu with rfl|rfl|rfl|rfl|rfl|rfl|rfl|rfl<;>rfl
     clear how m7;go_upto_region 11 with fail
     rw[←hW7];replace hW7:=qH hW7;go_wp2_with (at_builtin;refine wpAppX elemMv (by decide) (by decide) (EI.stab _) rfl _ _ rfl rfl how7 rfl rfl rfl hc8 hEI (by omega) hbo7.size ?_)
     intro v' w9 how9 _ hb9 _;rw[←hstep.out] at how9;clear how7 j0 j1 j2 j3 j4 j5 j6 j7;go_wp2_with fail
     go_roundw
     case rel=>exact⟨j+1,by go_num,by omega,how9,hbo7.trans hb9⟩
     case measure=>simp[intOf];omega
    ·obtain rfl:j=ms.length:=(by omega);rw[List.take_of_length_le (by rw[hMMl.out];exact Nat.le_refl _)] at how;obtain⟨g1,cap1,hge,hg1⟩:=how.form hm0;injection hge with e1 e2 e3;subst e1 e3;have HS:=qH (sortMvs how (by omega));go_wp2_with fail
     refine HS.out.mono ?_;rintro e w2 ⟨rfl,ys,hperm,hpw,hoy,hbs,hkx⟩;obtain⟨rs,hrs⟩:=exE (RS.getD i [])
     have hys:ys=rs:=by
      rw[←hrs,hRSi.out i hlt,hms,renS,hMM.out];exact srtB_uniq weakM hperm hpw (by rw[←hMM.out];exact renS_anti h1 h5 hah.out (hasc.out ms hmem) hmm.out)
     have hbo2:Below wo.heap.size wo w2:=hbo.out.trans hbs;have d2:=(hbo2.block _ (Array.getElem?_eq_some_iff.1 c2).1).trans c2;have d1:=(hbo2.block _ (Array.getElem?_eq_some_iff.1 c1).1).trans c1;have ho2:=ho.keep (ESt.stab (by decide)) hbo2;have hES:ESt w2 [.slice (some ⟨g1,0,none⟩) ms.length oc] rs:=⟨_,rfl,by rw[←hys,hoy.length];exact hoy.base (Nat.zero_le _)⟩;have hc1:∀u∈(#[.slice (some ⟨g1,0,none⟩) ms.length oc]:Array Value).toList,u.oneCell'=true:=fun u hu=>by rw[List.mem_singleton.1 hu];rfl
     have hSt:Stab 98 ESt:=ESt.stab (by decide);have hstep:=take_snoc (xs:=RS) (k:=i) (by rw[hRSl.out];exact hlt) [];rw[hrs] at hstep;replace hrs:=qH hrs;obtain⟨z0,z1⟩:=boxL2 d2;have hsz2:w.heap.size+3≤w2.heap.size:=Nat.le_trans hsz hbo2.size;have hb2:Below w.heap.size w w2:=bt hb.out hbo2 hb.out.size;replace hstep:=qH hstep;clear how hoy HS c1 c2 ho hys hperm hpw;go_wp2_with (at_builtin;refine wpAppX elemSt (by decide) (by decide) hSt rfl _ _ rfl rfl ho2 rfl rfl rfl hc1 hES (by omega) hsz2 ?_)
     intro v' w3 ho3 hgr3 hb3 hx3;rw[←hstep.out] at ho3;have c2':=(hb3.block _ (by omega)).trans d2;have c1':=(hb3.block _ (by omega)).trans d1;obtain⟨va',vc',hv'⟩:=ho3.shape;subst hv';obtain⟨y0,y1⟩:=boxL2 c2';obtain⟨f0,f1⟩:=freeL2 c2';have hset:=heap_setCell_same w3 (w.heap.size+2) 1 _ 24 (.slice va' (i+1) vc') c2';have ho4:=ho3.other (E':=24) (ESt.stab (by decide)) (by decide) (KeepX.setCell (p:=⟨w.heap.size+2,1,none⟩) c2' (.slice va' (i+1) vc'));have hb4:Below w.heap.size w (w3.setCell ⟨w.heap.size+2,1,none⟩ (.slice va' (i+1) vc')):=(hb2.trans (hb3.mono (by omega))).setCell (p:=⟨w.heap.size+2,1,none⟩) (by simp) _;have hc14:=(Below.heap_setCell w3 ⟨w.heap.size+2,1,none⟩ (.slice va' (i+1) vc') (w.heap.size+1) (by simp)).trans c1';have hsz4:w.heap.size+3≤(w3.setCell ⟨w.heap.size+2,1,none⟩ (.slice va' (i+1) vc')).heap.size:=(by have:=hb3.size;simp[World.setCell];omega);clear ho2 ho3 hES hgr3 hx3 z0 z1 d1 d2;go_wp2_with fail
     go_roundw
     case rel=>exact⟨i+1,_,by go_num,by omega,hb4,hc14,hset,ho4,hsz4⟩
     case measure=>simp[intOf];omega
  ·obtain rfl:i=ss.length:=(by omega);rw[List.take_of_length_le (by rw[hRSl.out];exact Nat.le_refl _)] at ho;obtain⟨z0,z1⟩:=boxL2 c1;obtain⟨y0,y1⟩:=boxL2 c2;obtain⟨f0,f1⟩:=freeL2 c1;have hRl:RS.length=ss.length:=hRSl.out
   have hRx:∀x∈RS,x.length≤2199023255552:=fun x hx=>by
    obtain⟨j,hj,rfl⟩:=List.mem_iff_getElem.1 hx;rw[←getD_eq hj [],hRSi.out j (by omega),renS_len];have:=hml.out (ss.getD j []) (getD_mem (by omega))
    omega
   replace hRl:=qH hRl;replace hRx:=qH hRx;go_wp2;refine storeEnd2 (u0:=.int .i64 (n:Int)) (u1:=.slice va ss.length vc) c1 ?_;intro W9 hW9 hb9 hk9 _ e0 e1;rw[←hW9];have hfin:OwAdv W9 (.agg #[.int .i64 (n:Int),.slice va ss.length vc]) n RS:=⟨_,rfl,by rw[hRl.out];exact(ho.other (ESt.stab (by decide)) (by decide) hk9).base (Nat.zero_le _),by rw[hRl.out];omega,hRx.out⟩;refine bodyPost_ret (v:=.tuple #[.agg #[.int .i64 (n:Int),.slice va ss.length vc],.int .i64 0]) (by simp[results,Tryz.results52,go_sem,e0,e1]) rfl ?_;exact⟨_,rfl,hfin,hb9 _ _ (by omega) hb.out⟩
end Go.Proofs.YtmikofeildnpdaaGreat

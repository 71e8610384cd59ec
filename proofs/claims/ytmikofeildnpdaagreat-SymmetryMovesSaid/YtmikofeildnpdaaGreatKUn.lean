/- Texts of this claim, put together: Wl Pa Pb Wm Wc. -/
import Derived.Test.YtmikofeildnpdaaGreatKUm
import Derived.Deep.LoopGhost
import Derived.Test.YtmikofeildnpdaaGreatKUg
import Derived.Test.YtmikofeildnpdaaGreatKUl

set_option maxRecDepth 100000
set_option maxHeartbeats 12800000
/- The walks of Clone, all, All. -/
namespace Go.Proofs.YtmikofeildnpdaaGreat
open Go.RowKit
theorem und22 : Tryz.prog.underlying 25=some (.slice 3):=by kernel_rfl
theorem clone {w:World} {B n:Nat} {v:Value} {b:List Int} (h:OI w B v n b) (hn:n≤1000000) :
  Calls Tryz.prog 142 #[v] w fun e w'=>∃ r,e = .returned r∧OI w' w.heap.size r n b∧Below w.heap.size w w':=by
 have hl:=h.length
 rcases h.2 with ⟨rfl,h0⟩ | ⟨g,cap,cur,rfl,_⟩
 ·subst h0
  obtain rfl:b = []:=List.length_eq_zero_iff.1 hl
  have hnil:=fun w:World=>Lib.run_eql_slice_nil (P:=Tryz.prog) w 25 3 none 0 0 0 0 und22
  go_enter Tryz.func142,Tryz.ntmps142
  go_wp2
  go_ret
  exact ⟨_,rfl,OI.nil _ _,Below.refl _ _⟩
 ·subst hl
  have hnil:=fun w:World=>Lib.run_eql_slice_nil (P:=Tryz.prog) w 25 3 (some ⟨g,0,none⟩) b.length cap 0 0 und22
  go_enter Tryz.func142,Tryz.ntmps142
  go_wp2_with (at_builtin; refine wpAppManyI (w:=w.alloc (.cells #[] 3)) (B:=w.heap.size) (xs:=[]) (n:=0) rfl _ _ rfl rfl (⟨rfl,.inr ⟨w.heap.size,0,#[],rfl,Nat.le_refl _,heap_alloc_new _ _,Nat.le_refl _,by decide,rfl,rfl⟩⟩) rfl (h.keep ((Below.refl _ _).alloc (Nat.le_refl _) _)) (by omega) (by simp) ?_; intro v2 w2 hv2 _ hb2)
  rw [Nat.zero_add,List.nil_append] at hv2
  go_ret
  exact ⟨_,rfl,hv2,((Below.refl _ _).alloc (Nat.le_refl _) _).trans hb2⟩
theorem OII.one {w:World} {u:Value} {x:List Int} {B:Nat} (hu:OI w B u x.length x):OII (w.alloc (.cells #[u] 25)) w.heap.size (.slice (some ⟨w.heap.size,0,none⟩) 1 1) 1 [x]:=by
 refine ⟨[u],⟨rfl,.inr ⟨w.heap.size,1,_,rfl,Nat.le_refl _,heap_alloc_new _ _,Nat.le_refl _,by decide,rfl,rfl⟩⟩,rfl,?_,?_⟩
 ·intro y hy; rw [List.mem_singleton.1 hy]; exact oneCell_slice hu
 ·intro j hj
  obtain rfl:j=0:=by omega
  exact (hu.keep ((Below.refl _ _).alloc (Nat.le_refl _) _)).base (Nat.zero_le _)
theorem allRec (n:Nat) (hn:n≤5) (f:Nat):∀ (b:List Int) (v:Value) (w:World),b.length+f=n→OI w 0 v b.length b→
  Calls Tryz.prog 105 #[.int .i64 n,v] w fun e w'=>∃ r,e = .returned r∧OII w' w.heap.size r (furF n f b).length (furF n f b)∧Below w.heap.size w w':=by
 induction f with
 | zero=>
  intro b v w hbn hv
  have H:=Lib.hid (clone hv (by omega))
  have hi:=hv.ints (by omega)
  obtain ⟨a,c,bb,off,rfl,ha,hc,hl⟩:=hi
  have he:((b.length:Int) == (n:Int))=true:=by simp; omega
  clear ha hc
  replace hbn:=Lib.hid hbn
  go_enter Tryz.func105,Tryz.ntmps105
  go_wp2_with (go_at_call 142; refine H.out.mono ?_; rintro e w1 ⟨r,rfl,ho,hb⟩; obtain ⟨a1,c1,rfl⟩:=ho.shape)
  go_ret
  exact ⟨_,rfl,(OII.one ho).base hb.size,hb.alloc hb.size _⟩
 | succ f ih=>
  intro b v w hbn hv
  have hi:=hv.ints (by omega)
  have hi0:=hi
  obtain ⟨a,c,bb,off,rfl,ha,hc,hl⟩:=hi
  have he:((b.length:Int) == (n:Int))=false:=by simp; omega
  have hb5:b.length≤5:=by omega
  have hf5:f≤5:=by omega
  clear ha hc
  replace hbn:=Lib.hid hbn
  replace ih:=Lib.hid ih
  go_enter Tryz.func105,Tryz.ntmps105
  go_wp2
  go_loopw [5,15] (fun o i wr=>∃ k:Nat,k≤n∧i = .int .i64 k∧OII wr w.heap.size o (furK n f b k).length (furK n f b k)∧Below w.heap.size w wr) (fun _ i _=>n - (intOf i).toNat)
  case atStart=>exact ⟨0,by omega,rfl,OII.nil _ _,Below.refl _ _⟩
  case round=>
   obtain ⟨k,hk,rfl,ho,hb⟩:=hrel
   have hbs:=hb.size
   by_cases hlt:k < n
   ·have H1:=Lib.hid (slContains (k:Int) (hi0.keep hb))
    have e1:=Lib.hid (furK_succ n f b k)
    have hle:=furK_le n f 3125 (fun b=>furF_small n f hn hf5 b) b k
    have hle2:=furF_small n f hn hf5 (b ++ [(k:Int)])
    by_cases hm:(k:Int)∈b
    ·rw [show hasB b k=true by simp [hasB,hm]] at H1
     rw [if_pos hm,List.append_nil] at e1
     clear hm hle hle2
     go_wp2_with (go_at_call 28; refine H1.out.mono ?_; rintro e w1 ⟨rfl,hq⟩)
     go_roundw
     case rel=>exact ⟨k+1,by omega,by go_num,by rw [e1.out]; exact ho.keep hq.below,hb.trans (hq.belowB _)⟩
     case measure=>simp [intOf]; omega
    ·rw [show hasB b k=false by simp [hasB,hm]] at H1
     rw [if_neg hm] at e1
     clear hm
     have hlb:=Lib.hid (show (b ++ [(k:Int)]).length=b.length+1 by simp)
     go_wp2_with (first | (go_at_call 28; refine H1.out.mono ?_; rintro e w1 ⟨rfl,hq⟩; have hb1:=hb.trans (hq.belowB w.heap.size); replace ho:=ho.keep hq.below; have HC:=Lib.hid (clone (hv.keep hb1) (by omega)); clear hq hb hbs H1) | (go_at_call 142; refine HC.out.mono ?_; rintro e w2 ⟨v2,rfl,hv2,hb2⟩; have hs2:=hb2.size; clear HC) | (at_builtin; refine wpAppI rfl _ _ rfl rfl hv2 rfl (by omega) hs2 ?_; intro v3 w3 hv3 _ hb4; rw [← hlb.out] at hv3; have hb24:=hb2.trans hb4; replace ho:=ho.keep hb24; have hb5:=bt hb1 hb24 hb1.size; have H2:=Lib.hid (ih.out (b ++ [(k:Int)]) v3 w3 (by have:=hbn.out; have:=hlb.out; omega) (hv3.base (Nat.zero_le _))); clear hb1 hb2 hb4 hb24 hv2 hs2) | (go_at_call 105; refine H2.out.mono ?_; rintro e w4 ⟨r4,rfl,ho4,hb6⟩; replace ho:=ho.keep hb6; have hb7:=bt hb5 hb6 hb5.size; have hb7s:=hb7.size; clear hb5 hb6 hv3 H2) | (at_builtin; refine wpAppManyS rfl _ _ rfl rfl ho rfl ho4 (by omega) hb7s ?_; intro v5 w5 ho5 hb8 _; have hb9:=hb7.trans hb8; clear hb7 hb8 ho ho4))
     go_roundw
     case rel=>exact ⟨k+1,by omega,by go_num,by rw [e1.out,List.length_append]; exact ho5,hb9⟩
     case measure=>simp [intOf]; omega
   ·obtain rfl:k=n:=by omega
    go_wp2
    go_ret
    exact ⟨_,rfl,ho,hb⟩
theorem allCall (n:Int) (w:World):Calls Tryz.prog 56 #[.int .i64 n] w (RII w (allL n) (numE n)):=by
 have H:=Lib.hid (number n w)
 by_cases hz:numE n=0
 ·obtain ⟨k,rfl⟩:∃ k:Nat,n=k:=⟨n.toNat,by unfold numE at hz; split at hz <;> omega⟩
  have hk:k≤5:=by unfold numE at hz; split at hz <;> omega
  have hL:=Lib.hid (show allL k=everyL k by rw [allL,if_pos hz]; rfl)
  rw [hz] at H
  replace hz:=Lib.hid hz
  have H2:=Lib.hid (allRec k hk k [] (.slice none 0 0) w (by simp) (OI.nil _ _))
  go_enter Tryz.func56,Tryz.ntmps56
  go_wp2_with (first | (go_at_call 64; refine H.out.mono ?_; rintro e w1 ⟨rfl,rfl⟩) | (go_at_call 105; refine H2.out.mono ?_; rintro e w2 ⟨r,rfl,ho,hb⟩))
  go_ret2
  exact RII.some hL.out hz.out ho (Nat.le_refl _) hb
 ·obtain ⟨E,hE⟩:=exE (numE n)
  have hL:=Lib.hid (show allL n = [] by rw [allL,if_neg hz])
  rw [hE] at H hz
  replace hE:=Lib.hid hE
  have hz':(E != 0)=true:=by simpa using hz
  clear hz
  go_enter Tryz.func56,Tryz.ntmps56
  go_wp2_with fail
  refine H.out.mono ?_; rintro e w1 ⟨rfl,rfl⟩
  go_wp2
  go_ret2
  exact RII.none hL.out hE.out.symm (Below.refl _ _)
end Go.Proofs.YtmikofeildnpdaaGreat

/- Plain facts on permutations as lists: which they are, their compositions, the closure of a list of them. -/
namespace Go.Proofs.YtmikofeildnpdaaGreat
def IsP (n:Nat) (x:List Int):Prop:=x.length=n∧(∀ e∈x,0≤e∧e < (n:Int))∧x.Nodup
theorem IsP.good {n:Nat} {x:List Int} (h:IsP n x):Good n x:=fun j hj=>by rw [getD_eq hj]; exact h.2.1 _ (List.getElem_mem hj)
theorem mem_furF (n:Nat):∀ (f:Nat) (b x:List Int),x∈furF n f b↔∃ s,x=b++s∧s.length=f∧(∀ e∈s,0≤e∧e < (n:Int))∧s.Nodup∧∀ e∈s,e ∉ b
 | 0,b,x=>by
  simp only [furF,List.mem_singleton]
  constructor
  ·rintro rfl; exact ⟨[],by simp⟩
  ·rintro ⟨s,rfl,hs,_⟩; rw [List.length_eq_zero_iff.1 hs]; simp
 | f+1,b,x=>by
  simp only [furF,List.mem_flatMap,List.mem_range]
  constructor
  ·rintro ⟨p,hp,hx⟩
   by_cases hb:(p:Int)∈b
   ·rw [if_pos hb] at hx; cases hx
   ·rw [if_neg hb,mem_furF n f] at hx
    obtain ⟨s,rfl,h1,h2,h3,h4⟩:=hx
    refine ⟨(p:Int)::s,by simp,by simp [h1],?_,?_,?_⟩
    ·intro e he
     rcases List.mem_cons.1 he with rfl | he
     ·omega
     ·exact h2 e he
    ·rw [List.nodup_cons]
     exact ⟨fun hm=>h4 _ hm (by simp),h3⟩
    ·intro e he
     rcases List.mem_cons.1 he with rfl | he
     ·exact hb
     ·exact fun h=>h4 e he (by simp [h])
  ·rintro ⟨s,rfl,h1,h2,h3,h4⟩
   match s,h1 with
   | p::s,h1=>
    obtain ⟨g1,g2⟩:=h2 p (by simp)
    rw [List.nodup_cons] at h3
    refine ⟨p.toNat,by omega,?_⟩
    have hp:((p.toNat:Nat):Int)=p:=by omega
    rw [hp,if_neg (h4 p (by simp)),mem_furF n f]
    refine ⟨s,by simp,by simpa using h1,fun e he=>h2 e (by simp [he]),h3.2,fun e he=>?_⟩
    rw [List.mem_append,List.mem_singleton]
    rintro (h | rfl)
    ·exact h4 e (by simp [he]) h
    ·exact h3.1 he
theorem mem_everyL {n:Nat} {x:List Int}:x∈everyL n↔IsP n x:=by
 rw [everyL,mem_furF]
 constructor
 ·rintro ⟨s,rfl,h1,h2,h3,_⟩; exact ⟨by simpa using h1,by simpa using h2,by simpa using h3⟩
 ·rintro ⟨h1,h2,h3⟩; exact ⟨x,by simp,h1,h2,h3,by simp⟩
theorem chkGo_ok {n:Nat}:∀ {r seen:List Int},(∀ x∈r,0≤x∧x < (n:Int))→(∀ x∈r,x ∉ seen)→r.Nodup→chkGo n seen r=0
 | [],_,_,_,_=>rfl
 | x::r,seen,h1,h2,h3=>by
  have:=h1 x (by simp)
  rw [List.nodup_cons] at h3
  rw [chkGo,if_neg (by omega),if_neg (h2 x (by simp))]
  refine chkGo_ok (fun y hy=>h1 y (by simp [hy])) (fun y hy=>?_) h3.2
  rw [List.mem_append,List.mem_singleton]
  rintro (h | rfl)
  ·exact h2 y (by simp [hy]) h
  ·exact h3.1 hy
theorem chk_iff {x:List Int}:chk x=0↔(1≤x.length∧x.length≤5)∧IsP x.length x:=by
 constructor
 ·intro h
  obtain ⟨h1,h5,hG,hN⟩:=chk_good h
  refine ⟨⟨h1,h5⟩,rfl,fun e he=>?_,hN⟩
  obtain ⟨j,hj,rfl⟩:=List.mem_iff_getElem.1 he
  have:=hG j hj
  rwa [getD_eq hj] at this
 ·rintro ⟨⟨h1,h5⟩,_,h2,h3⟩
  rw [chk,if_neg (by omega)]
  exact chkGo_ok h2 (by simp) h3
theorem nodup_map {f:Int→Int}:∀ {l:List Int},l.Nodup→(∀ x∈l,∀ y∈l,f x=f y→x=y)→(l.map f).Nodup
 | [],_,_=>by simp
 | a::l,h,hf=>by
  rw [List.nodup_cons] at h
  rw [List.map_cons,List.nodup_cons]
  refine ⟨?_,nodup_map h.2 fun x hx y hy=>hf x (by simp [hx]) y (by simp [hy])⟩
  intro hm
  obtain ⟨y,hy,e⟩:=List.mem_map.1 hm
  have:=hf y (by simp [hy]) a (by simp) e
  subst this
  exact h.1 hy
theorem nodup_getD {l:List Int} (h:l.Nodup) {i j:Nat} (hi:i < l.length) (hj:j < l.length) (e:l.getD i 0=l.getD j 0):i=j:=by
 rw [getD_eq hi,getD_eq hj] at e
 have hp:=List.pairwise_iff_getElem.1 h
 rcases Nat.lt_trichotomy i j with h1 | h1 | h1
 ·exact absurd e (hp i j hi hj h1)
 ·exact h1
 ·exact absurd e.symm (hp j i hj hi h1)
theorem IsP.times {n:Nat} {a b:List Int} (ha:IsP n a) (hb:IsP n b):IsP n (timesL a b):=by
 refine ⟨by rw [timesL_length]; exact hb.1,?_,?_⟩
 ·intro e he
  obtain ⟨q,hq,rfl⟩:=List.mem_map.1 he
  have:=hb.2.1 q hq
  exact ha.good q.toNat (by rw [ha.1]; omega)
 ·refine nodup_map hb.2.2 fun x hx y hy e=>?_
  have h1:=hb.2.1 x hx
  have h2:=hb.2.1 y hy
  have:=nodup_getD ha.2.2 (by rw [ha.1]; omega) (by rw [ha.1]; omega) e
  omega
theorem IsP.one (n:Nat):IsP n (oneL n):=by
 refine ⟨oneL_length n,?_,?_⟩
 ·intro e he
  obtain ⟨q,hq,rfl⟩:=List.mem_map.1 he
  have:=List.mem_range.1 hq
  show 0≤(q:Int)∧(q:Int) < n
  omega
 ·refine List.pairwise_iff_getElem.2 fun i j hi hj hij=>?_
  rw [← getD_eq hi 0,← getD_eq hj 0]
  rw [oneL_length] at hi hj
  rw [oneL_getD hi,oneL_getD hj]
  omega
theorem nodup_le {α:Type} [DecidableEq α]:∀ {l m:List α},l.Nodup→(∀ x∈l,x∈m)→l.length≤m.length
 | [],_,_,_=>by simp
 | a::l,m,h,hs=>by
  rw [List.nodup_cons] at h
  have ha:=hs a (by simp)
  have h1:l.length≤(m.erase a).length:=nodup_le h.2 fun x hx=>by
   have hne:x ≠ a:=by rintro rfl; exact h.1 hx
   rw [List.mem_erase_of_ne hne]
   exact hs x (by simp [hx])
  rw [List.length_erase_of_mem ha] at h1
  have:0 < m.length:=List.length_pos_of_mem ha
  simp only [List.length_cons]
  omega
def clIn (y:List Int):List (List Int)→List (List Int)→List (List Int)
 | [],g=>g
 | a::l,g=>clIn y l (if timesL a y∈g then g else g ++ [timesL a y])
def clGo (l:List (List Int)):Nat→Nat→List (List Int)→Option (List (List Int))
 | 0,_,_=>none
 | f+1,i,g=>if i < g.length then clGo l f (i+1) (clIn (g.getD i []) l g) else some g
def InvG (n:Nat) (g:List (List Int)):Prop:=g.Nodup∧∀ y∈g,IsP n y
theorem InvG.le {n:Nat} (hn:n≤5) {g:List (List Int)} (h:InvG n g):g.length≤3125:=
 Nat.le_trans (nodup_le h.1 fun y hy=>mem_everyL.2 (h.2 y hy)) (furF_small n n hn hn [])
theorem InvG.step {n:Nat} {g:List (List Int)} {a y:List Int} (h:InvG n g) (ha:IsP n a) (hy:IsP n y):InvG n (if timesL a y∈g then g else g ++ [timesL a y]):=by
 split
 ·exact h
 ·rename_i hm
  refine ⟨?_,?_⟩
  ·rw [List.nodup_append]
   refine ⟨h.1,by simp,?_⟩
   intro x hx z hz
   rw [List.mem_singleton.1 hz]
   rintro rfl
   exact hm hx
  ·intro z hz
   rcases List.mem_append.1 hz with hz | hz
   ·exact h.2 z hz
   ·rw [List.mem_singleton.1 hz]; exact ha.times hy
theorem InvG.inner {n:Nat} {y:List Int} (hy:IsP n y):∀ {l g:List (List Int)},InvG n g→(∀ a∈l,IsP n a)→InvG n (clIn y l g)
 | [],_,h,_=>h
 | a::l,g,h,hl=>by
  rw [clIn]
  exact InvG.inner hy (h.step (hl a (by simp)) hy) fun b hb=>hl b (by simp [hb])
theorem clIn_le (y:List Int):∀ (l g:List (List Int)),g.length≤(clIn y l g).length
 | [],_=>Nat.le_refl _
 | a::l,g=>by
  rw [clIn]
  refine Nat.le_trans ?_ (clIn_le y l _)
  split
  ·exact Nat.le_refl _
  ·simp
theorem clGo_total {n:Nat} (hn:n≤5) {l:List (List Int)} (hl:∀ a∈l,IsP n a):∀ (f i:Nat) (g:List (List Int)),InvG n g→3126≤f+i→i≤g.length→∃ G,clGo l f i g=some G∧InvG n G
 | 0,i,g,h,hf,hi=>by have:=h.le hn; omega
 | f+1,i,g,h,hf,hi=>by
  rw [clGo]
  by_cases hlt:i < g.length
  ·rw [if_pos hlt]
   refine clGo_total hn hl f (i+1) _ (InvG.inner ?_ h hl) (by omega) (Nat.le_trans hlt (clIn_le _ _ _))
   rw [getD_eq hlt]; exact h.2 _ (List.getElem_mem hlt)
  ·rw [if_neg hlt]; exact ⟨g,rfl,h⟩
theorem clGo_start {n:Nat} (hn:n≤5) {l:List (List Int)} (hl:∀ a∈l,IsP n a):∃ G,clGo l 3126 0 [oneL n]=some G∧InvG n G:=
 clGo_total hn hl 3126 0 [oneL n] ⟨by simp,fun y hy=>by rw [List.mem_singleton.1 hy]; exact IsP.one n⟩ (by omega) (by simp)
end Go.Proofs.YtmikofeildnpdaaGreat

/- What holds of the 153 permutations, looked up one by one. -/
namespace Go.Proofs.YtmikofeildnpdaaGreat
def permsAll:List (List Int):=[1,2,3,4,5].flatMap everyL
theorem mem_permsAll {a:List Int} (h:chk a=0):a∈permsAll:=by
 obtain ⟨⟨h1,h5⟩,hP⟩:=chk_iff.1 h
 rw [permsAll,List.mem_flatMap]
 exact ⟨a.length,by simp; omega,mem_everyL.2 hP⟩
theorem perm_all {p:List Int→Bool} (h:permsAll.all p=true) {a:List Int} (ha:chk a=0):p a=true:=List.all_eq_true.1 h a (mem_permsAll ha)
theorem img_same:permsAll.all (fun a=>(List.range 32).all (fun s=>decide (imgR a s a.length=imgP a s a.length)))=true:=by decide +kernel
end Go.Proofs.YtmikofeildnpdaaGreat

/- The walk of the reference's Closure. -/
namespace Go.Proofs.YtmikofeildnpdaaGreat
open Go.RowKit
theorem OII.open' {w:World} {B:Nat} {v:Value} {n:Nat} {xss:List (List Int)} (h:OII w B v n xss) :
  ∃ a c b,v = .slice a n c∧(0 < n→a=some ⟨b,0,none⟩)∧∀ j,j < n→∃ u,w.cell? ⟨b,j,none⟩=some u∧OI w 0 u (xss.getD j []).length (xss.getD j []):=by
 obtain ⟨vs,h1,h2,_,h3⟩:=h
 have hvl:vs.length=n:=by have:=h1.1; omega
 rcases h1.2 with ⟨rfl,rfl⟩ | ⟨g,cap,cur,rfl,_,h4,h5,h6,h7,h8⟩
 ·exact ⟨none,0,0,rfl,by simp,by simp⟩
 ·refine ⟨_,cap,g,rfl,fun _=>rfl,fun j hj=>⟨vs.getD j undef,?_,h3 j hj⟩⟩
  rw [cell_of_row w g j cur 25 (0,0) h4]
  have:(cur.toList.take (n * 1))[j]? = some (vs.getD j undef):=by rw [h8]; simp [show j < vs.length by omega]
  rw [List.getElem?_take,if_pos (by omega)] at this
  simpa using this
theorem clIn_step {y:List Int} {l g:List (List Int)} {k:Nat} (h:k < l.length) {a:List Int} (ha:l.getD k []=a) :
  clIn y (l.drop k) g=clIn y (l.drop (k+1)) (if timesL a y∈g then g else g ++ [timesL a y]):=by
 rw [drop_cons h [],clIn,ha]
theorem clIn_end {y:List Int} {l g:List (List Int)} {k:Nat} (h : ¬ k < l.length):clIn y (l.drop k) g=g:=by
 rw [List.drop_eq_nil_of_le (by omega),clIn]
theorem IsP.len5 {n:Nat} (hn:n≤5) {g:List (List Int)} (h:InvG n g):∀ x∈g,x.length≤17592186044416:=fun x hx=>by have:=(h.2 x hx).1; omega
theorem filt_snoc {all G:List (List Int)} {k:Nat} (h:k < all.length) {x:List Int} (hx:all.getD k []=x) :
  (all.take (k+1)).filter (fun x=>decide (x∈G))=(all.take k).filter (fun x=>decide (x∈G))++if x∈G then [x] else []:=by
 rw [take_snoc h [],hx,List.filter_append]
 congr 1
 by_cases hm:x∈G <;> simp [hm]
theorem filt_le (all G:List (List Int)) (k:Nat):((all.take k).filter (fun x=>decide (x∈G))).length≤all.length:=
 Nat.le_trans (List.length_filter_le _ _) (by rw [List.length_take]; omega)
theorem everyL_le (n:Nat) (hn:n≤5):(everyL n).length≤3125:=furF_small n n hn hn []
theorem refClosure {w:World} {v:Value} {l:List (List Int)} (n:Nat) (hn:n≤5) (h:Intss w v l) (hl:∀ a∈l,IsP n a) {G:List (List Int)} (hG:clGo l 3126 0 [oneL n]=some G) (hGi:InvG n G) :
  Calls Tryz.prog 62 #[.int .i64 n,v] w fun e w'=>∃ r,e = .returned r∧OII w' w.heap.size r ((everyL n).filter (fun x=>decide (x∈G))).length ((everyL n).filter (fun x=>decide (x∈G)))∧Below w.heap.size w w':=by
 have h0:=h
 obtain ⟨la,lc,lb,lo,rfl,ha,hc,hll⟩:=h
 replace hG:=Lib.hid hG
 go_enter Tryz.func62,Tryz.ntmps62
 go_wp2_with (go_at_call 32; refine (refOne n _ (by omega)).mono ?_; rintro e w1 ⟨r,rfl,ho,hb⟩; have hO:=OII.one (by rw [oneL_length]; exact ho); have hbO:=hb.alloc hb.size (.cells #[r] 25); obtain ⟨a1,c1,rfl⟩:=ho.shape)
 obtain ⟨w2,hw2⟩:=exF (w1.alloc (.cells #[.slice a1 n c1] 25))
 obtain ⟨g0,hg0⟩:=exF (w1.heap.size)
 have hg1:w.heap.size≤g0:=by have:=hb.size; omega
 rw [← hw2,← hg0] at hO ⊢
 rw [← hw2] at hbO
 clear hw2 hg0 ho hb
 go_loopg [5,6] 3126 (fun f gv iv wr=>∃ (i:Nat) (g:List (List Int)),iv = .int .i64 i∧i≤g.length∧OII wr w.heap.size gv g.length g∧InvG n g∧Hid (clGo l f i g=some G)∧Below w.heap.size w wr)
 case atStart=>exact ⟨0,[oneL n],rfl,by simp,hO.base hg1,⟨by simp,fun y hy=>by rw [List.mem_singleton.1 hy]; exact IsP.one n⟩,hG.out,hbO⟩
 case round=>
  clear hO hbO hG hg1
  obtain ⟨i,g,rfl,hi,ho,hI,hg,hb⟩:=hrel
  obtain ⟨f,rfl⟩:∃ f,gk=f+1:=by
   cases gk with
   | zero=>have:=hg.out; simp [clGo] at this
   | succ f=>exact ⟨f,rfl⟩
  have hgl:=hI.le hn
  obtain ⟨ga,gc,gb,rfl,hga,hgc⟩:=ho.open'
  by_cases hlt:i < g.length
  ·have hg':=hg.out
   rw [clGo,if_pos hlt] at hg'
   replace hg':=Lib.hid hg'
   obtain ⟨y,hy⟩:=exE (g.getD i [])
   have hyP:IsP n y:=by rw [← hy,getD_eq hlt]; exact hI.2 _ (List.getElem_mem hlt)
   rw [hy] at hg'
   replace hy:=Lib.hid hy
   clear hg hga hgc
   go_wp2
   obtain ⟨wo,hwo⟩:=exF (wr)
   rw [← hwo] at ho hb ⊢
   clear hwo
   go_loopw [5,7] (fun gv kv wr=>∃ (k:Nat) (g':List (List Int)),k≤l.length∧kv = .int .i64 k∧i < g'.length∧Hid (g'.getD i []=y)∧OII wr w.heap.size gv g'.length g'∧InvG n g'∧Hid (clIn y (l.drop k) g'=clIn y l g)∧Below w.heap.size w wr) (fun _ kv _=>l.length - (intOf kv).toNat)
   case atStart=>exact ⟨0,g,by omega,rfl,hlt,hy,ho,hI,rfl,hb⟩
   case round=>
    clear ho hb hy hI hgl hlt hi
    obtain ⟨k,g',hk,rfl,hi,hy,ho,hI,hin,hb⟩:=hrel
    have hgl:=hI.le hn
    by_cases hlt:k < l.length
    ·obtain rfl:=ha (by omega)
     obtain ⟨u,hcu,hu⟩:=hc.keep hb k hlt
     obtain ⟨ga,gc,gb,rfl,hga,hgc⟩:=ho.open'
     obtain rfl:=hga (by omega)
     obtain ⟨u2,hcu2,hu2⟩:=hgc i hi
     rw [hy.out] at hu2
     obtain ⟨a,hka⟩:=exE (l.getD k [])
     have haP:IsP n a:=by rw [← hka,getD_eq hlt]; exact hl _ (List.getElem_mem hlt)
     rw [hka] at hu
     have hst:=Lib.hid (clIn_step (y:=y) (g:=g') hlt hka)
     clear hka hga hgc
     have HT:=fun (W:World) (hW:Qt wr W)=>refTimes (w:=W) (hu.qt hW) ((hu2.ints (by have:=hyP.1; omega)).qt hW) (by rw [haP.1]; exact hyP.good) (by have:=hyP.1; omega)
     replace HT:=Lib.hid HT
     by_cases hm:timesL a y∈g'
     ·rw [if_pos hm] at hst
      have hmb:=Lib.hid (show amongB g' (timesL a y)=true by simp [amongB,hm])
      clear hm
      go_wp2
      go_still_tail 8,(by kernel_rfl)
      go_wp2_with (first | (go_at_call 109; refine (HT.out _ (Qt.mk1 _)).mono ?_; rintro e w3 ⟨x,rfl,hx,hb3⟩; replace hb3:=below_of_drew hb3; have HA:=Lib.hid (refAmong ((ho.keep hb3).intss (by omega) (IsP.len5 hn hI)) (hx.ints (by have:=hyP.1; omega))); rw [hmb.out] at HA; obtain ⟨xa,xc,rfl⟩:=hx.shape) | (go_at_call 31; refine HA.out.mono ?_; rintro e w4 ⟨rfl,hq4⟩))
      go_roundw
      case rel=>exact ⟨k+1,g',by omega,by go_num,hi,hy,(ho.keep hb3).keep hq4.below,hI,by show _=_; rw [← hin.out,hst.out],(bt hb hb3 hb.size).trans (hq4.belowB _)⟩
      case measure=>simp [intOf]; omega
     ·rw [if_neg hm] at hst
      have hmb:=Lib.hid (show amongB g' (timesL a y)=false by simp [amongB,hm])
      have hI2:=hI.step haP hyP
      rw [if_neg hm] at hI2
      clear hm
      go_wp2
      go_still_tail 8,(by kernel_rfl)
      go_wp2_with (first | (go_at_call 109; refine (HT.out _ (Qt.mk1 _)).mono ?_; rintro e w3 ⟨x,rfl,hx,hb3⟩; replace hb3:=below_of_drew hb3; have ho3:=ho.keep hb3; have hbw:=bt hb hb3 hb.size; have HA:=Lib.hid (refAmong (ho3.intss (by omega) (IsP.len5 hn hI)) (hx.ints (by have:=hyP.1; omega))); rw [hmb.out] at HA; obtain ⟨xa,xc,rfl⟩:=hx.shape) | (go_at_call 31; refine HA.out.mono ?_; rintro e w4 ⟨rfl,hq4⟩; have ho4:=ho3.keep hq4.below; have hx4:=(hx.keep hq4.below).own; have hbw4:=hbw.trans (hq4.belowB w.heap.size); have hs4:=hbw4.size; clear ho3 hx hbw HA) | (at_builtin; refine wpApp1S rfl _ _ rfl rfl ho4 rfl hx4 rfl (by omega) hs4 ?_; intro v5 w5 ho5 hb5 _; have hbw5:=hbw4.trans hb5))
      go_roundw
      case rel=>exact ⟨k+1,g' ++ [timesL a y],by omega,by go_num,by simp; omega,by show _=_; rw [getD_append_left' hi]; exact hy.out,by rw [List.length_append]; exact ho5,hI2,by show _=_; rw [← hin.out,hst.out],hbw5⟩
      case measure=>simp [intOf]; omega
    ·have he:=Lib.hid (clIn_end (y:=y) (g:=g') hlt)
     have hlen:=clIn_le y l g
     obtain rfl:k=l.length:=by omega
     clear ha hc
     go_wp2
     go_roundg f
     case measure=>omega
     case rel=>
      have e1:=hin.out
      rw [he.out] at e1
      exact ⟨i+1,g',by go_num,by omega,ho,hI,by show _=_; rw [e1]; exact hg'.out,hb⟩
  ·have hg':=hg.out
   rw [clGo,if_neg hlt] at hg'
   obtain rfl:g=G:=Option.some.inj hg'
   clear hg hg' ha hc hga hgc
   go_wp2_with (go_at_call 59; refine (every n hn _).mono ?_; rintro e w3 ⟨al,rfl,hal,hb3⟩)
   have hbw:=bt hb hb3 hb.size
   replace ho:=ho.keep hb3
   clear hb hb3
   have hGl:=hGi.le hn
   have hal5:=everyL_le n hn
   have hfl:=filt_le (everyL n) g
   generalize hE:everyL n=A at *
   have hA:∀ x∈A,IsP n x:=fun x hx=>mem_everyL.1 (hE ▸ hx)
   replace hE:=Lib.hid hE
   have hal0:=hal
   obtain ⟨aa,ac,ab,rfl,haa,hac⟩:=hal.open'
   clear hal hlt hgl hi hI
   obtain ⟨w4,hw4⟩:=exF (w3)
   rw [← hw4] at ho hbw hal0 hac ⊢
   clear hw4
   go_loopw [9,11] (fun ov iv wr=>∃ k:Nat,k≤A.length∧iv = .int .i64 k∧OII wr w4.heap.size ov ((A.take k).filter (fun x=>decide (x∈g))).length ((A.take k).filter (fun x=>decide (x∈g)))∧Below w4.heap.size w4 wr) (fun _ iv _=>A.length - (intOf iv).toNat)
   case atStart=>exact ⟨0,by omega,rfl,OII.nil _ _,Below.refl _ _⟩
   case round=>
    obtain ⟨k,hk,rfl,hv,hb⟩:=hrel
    by_cases hlt:k < A.length
    ·obtain rfl:=haa (by omega)
     obtain ⟨u,hcu,hu⟩:=hac k hlt
     replace hcu:=cell_kept hb hcu
     replace hu:=hu.keep hb
     obtain ⟨x,hx⟩:=exE (A.getD k [])
     have hxP:IsP n x:=by rw [← hx,getD_eq hlt]; exact hA _ (List.getElem_mem hlt)
     rw [hx] at hu
     have hfs:=Lib.hid (filt_snoc (G:=g) hlt hx)
     have hle:=hfl k
     have HA:=Lib.hid (refAmong ((ho.keep hb).intss (by omega) (IsP.len5 hn hGi)) (hu.ints (by have:=hxP.1; omega)))
     obtain ⟨ua,uc,rfl⟩:=hu.shape
     clear hx haa hac hA hfl
     by_cases hm:x∈g
     ·rw [if_pos hm] at hfs
      rw [show amongB g x=true by simp [amongB,hm]] at HA
      clear hm
      go_wp2_with (first | (go_at_call 31; refine HA.out.mono ?_; rintro e w5 ⟨rfl,hq5⟩; have hv5:=hv.keep hq5.below; have hu5:=hu.keep hq5.below; have hcu5:=cell_kept hq5.below hcu; have hb5:=hb.trans (hq5.belowB w4.heap.size); have hs5:=hb5.size) | (at_builtin; refine wpApp1S rfl _ _ rfl rfl hv5 rfl hu5 rfl (by omega) hs5 ?_; intro v6 w6 hv6 hb6 _; have hb7:=hb5.trans hb6))
      go_roundw
      case rel=>exact ⟨k+1,by omega,by go_num,by rw [hfs.out,List.length_append]; exact hv6,hb7⟩
      case measure=>simp [intOf]; omega
     ·rw [if_neg hm,List.append_nil] at hfs
      rw [show amongB g x=false by simp [amongB,hm]] at HA
      clear hm
      go_wp2_with (first | (go_at_call 31; refine HA.out.mono ?_; rintro e w5 ⟨rfl,hq5⟩))
      go_roundw
      case rel=>exact ⟨k+1,by omega,by go_num,by rw [hfs.out]; exact hv.keep hq5.below,hb.trans (hq5.belowB _)⟩
      case measure=>simp [intOf]; omega
    ·obtain rfl:k=A.length:=by omega
     clear haa hac hA hfl
     rw [List.take_length,← hE.out] at hv
     go_wp2
     go_ret
     exact ⟨_,rfl,hv.base hbw.size,bt hbw hb hbw.size⟩
end Go.Proofs.YtmikofeildnpdaaGreat

/- The walks of Few, List, right. -/
namespace Go.Proofs.YtmikofeildnpdaaGreat
open Go.RowKit
theorem fewHd_false {l:List (List Int)} {k:Nat} (h:k < l.length) (h41:k≤40) (hk:60 < (l.getD k []).length):fewB l=false:=by
 have:(l.take 41).all (fun a=>decide (a.length≤60))=false:=by
  rw [List.all_eq_false]
  refine ⟨l.getD k [],?_,fun h=>by have:=of_decide_eq_true h; omega⟩
  rw [getD_eq h,List.mem_iff_getElem?]
  exact ⟨k,by rw [List.getElem?_take,if_pos (by omega),List.getElem?_eq_getElem h]⟩
 simp [fewB,this]
theorem fewB_end {l:List (List Int)} {k:Nat} (hp:∀ j,j < k→(l.getD j []).length≤60) (hend:l.length≤k∨40 < k) :
  fewB l=(decide (l.length≤40) || decide (1024 < l.length)):=by
 have:(l.take 41).all (fun a=>decide (a.length≤60))=true:=by
  rw [List.all_eq_true]
  intro a ha
  obtain ⟨j,hj⟩:=List.mem_iff_getElem?.1 ha
  rw [List.getElem?_take] at hj
  split at hj
  ·have:=hp j (by have:=(List.getElem?_eq_some_iff.1 hj).1; omega)
   rw [List.getD_eq_getElem?_getD,hj] at this
   simpa using this
  ·cases hj
 simp [fewB,this]
theorem refFew02 {w:World} {v:Value} {l:List (List Int)} (h:Intss w v l) :
  Calls Tryz.prog 21 #[v] w fun e w'=>e = .returned (.bool (fewB l))∧Qt w w':=by
 obtain ⟨a,c,b,off,rfl,ha,hc,hl⟩:=h
 go_enter Tryz.func21,Tryz.ntmps21
 go_wp2
 go_loopw [3] (fun i wr=>∃ k:Nat,k≤l.length∧k≤41∧i = .int .i64 k∧Hid (∀ j,j < k→(l.getD j []).length≤60)∧Hid (Qt w wr)) (fun i _=>l.length - (intOf i).toNat)
 case atStart=>exact ⟨0,by omega,by omega,rfl,by simp [Hid],Qt.refl _⟩
 case round=>
  obtain ⟨k,hk,h41,rfl,hg,hq⟩:=hrel
  have fin:∀ x,(l.length≤k∨40 < k)→x=(decide (l.length≤40) || decide (1024 < l.length))→Ending.returned (.bool x)=Ending.returned (.bool (fewB l)):=
   fun x hx hy=>ret_bool (by rw [hy,fewB_end hg.out hx])
  have FIN:=Lib.hid fin
  clear fin
  by_cases hlt:k < l.length
  ·by_cases h40:k≤40
   ·obtain rfl:=ha (by omega)
    obtain ⟨u1,hck,a1,c1,b1,o1,rfl,_⟩:=hc.qt hq.out k hlt
    clear ha hc
    have hlen:∃ m,(l.getD k []).length=m:=⟨_,rfl⟩
    obtain ⟨m,hm⟩:=hlen
    rw [hm] at hck
    have hm:=Lib.hid hm
    by_cases h60:60 < m
    ·go_wp2
     go_ret
     exact ⟨ret_bool (fewHd_false hlt h40 (by have:=hm.out; omega)).symm,hq.out⟩
    ·go_wp2
     go_roundw
     case rel=>
      refine ⟨k+1,by omega,by omega,by go_num,fun j hj=>?_,hq⟩
      by_cases hjk:j < k
      ·exact hg.out j hjk
      ·obtain rfl:j=k:=by omega
       have:=hm.out; omega
     case measure=>simp [intOf]; omega
   ·clear ha hc
    have hd:decide ((k:Int)≤40)=false:=by simp; omega
    by_cases hl40:l.length≤40
    ·exfalso; omega
    ·have hl':decide ((l.length:Int)≤40)=false:=by simp; omega
     go_wp2
     go_ret
     exact ⟨FIN.out _ (by omega) (by rw [decide_eq_false hl40,Bool.false_or]; exact decide_eq_decide.2 (by omega)),hq.out⟩
  ·clear ha hc
   have hd:decide ((k:Int) < (l.length:Int))=false:=by simp; omega
   by_cases hl40:l.length≤40
   ·go_wp2
    go_ret
    exact ⟨FIN.out _ (by omega) (by rw [decide_eq_true hl40]; rfl),hq.out⟩
   ·have hl':decide ((l.length:Int)≤40)=false:=by simp; omega
    go_wp2
    go_ret
    exact ⟨FIN.out _ (by omega) (by rw [decide_eq_false hl40,Bool.false_or]; exact decide_eq_decide.2 (by omega)),hq.out⟩
theorem chkAll_step {n:Int} {l:List (List Int)} {k:Nat} (h:k < l.length) {x:List Int} (hx:l.getD k []=x) :
  chkAll n (l.drop k)=if chk x ≠ 0 then chk x else if (x.length:Int) ≠ n then 22 else chkAll n (l.drop (k+1)):=by
 rw [drop_cons h [],chkAll,hx]
theorem chkAll_end {n:Int} {l:List (List Int)} {k:Nat} (h : ¬ k < l.length):chkAll n (l.drop k)=0:=by
 rw [List.drop_eq_nil_of_le (by omega),chkAll]
theorem chkAll_1 {n:Int} {l:List (List Int)} {k:Nat} (h:k < l.length) {x:List Int} (hx:l.getD k []=x) {m:Nat} (hm:x.length=m) (hz:chk x=0) (hn:(m:Int)=n) :
  chkAll n (l.drop k)=chkAll n (l.drop (k+1)):=by rw [chkAll_step h hx,if_neg (fun h=>h hz),if_neg (fun h=>h (by rw [hm]; exact hn))]
theorem chkAll_2 {n:Int} {l:List (List Int)} {k:Nat} (h:k < l.length) {x:List Int} (hx:l.getD k []=x) {m:Nat} (hm:x.length=m) (hz:chk x=0) (hn : ¬ (m:Int)=n) :
  chkAll n (l.drop k)=22:=by rw [chkAll_step h hx,if_neg (fun h=>h hz),if_pos (by rw [hm]; exact hn)]
theorem chkAll_3 {n:Int} {l:List (List Int)} {k:Nat} (h:k < l.length) {x:List Int} (hx:l.getD k []=x) (hz : ¬ chk x=0) :
  chkAll n (l.drop k)=chk x:=by rw [chkAll_step h hx,if_pos hz]
theorem refList {w:World} {v:Value} {l:List (List Int)} (n:Int) (h:Intss w v l) :
  Calls Tryz.prog 24 #[.int .i64 n,v] w fun e w'=>e = .returned (.int .i64 (chkList n l))∧Qt w w':=by
 obtain ⟨a,c,b,off,rfl,ha,hc,hl⟩:=h
 by_cases h1:n < 1
 ·clear ha hc
  go_enter Tryz.func24,Tryz.ntmps24
  go_wp2
  go_ret
  exact ⟨ret_int (by simp [chkList,h1]),Qt.refl _⟩
 ·have h1':decide (n < 1)=false:=by simpa using h1
  by_cases h5:5 < n
  ·clear ha hc
   go_enter Tryz.func24,Tryz.ntmps24
   go_wp2
   go_ret
   exact ⟨ret_int (by simp [chkList,h5]),Qt.refl _⟩
  ·by_cases hm:1024 < l.length
   ·clear ha hc
    go_enter Tryz.func24,Tryz.ntmps24
    go_wp2
    go_ret
    exact ⟨ret_int (by rw [chkList,if_neg (by omega),if_pos hm]),Qt.refl _⟩
   ·have e0:=Lib.hid (show chkList n l=chkAll n l by rw [chkList,if_neg (by omega),if_neg hm])
    go_enter Tryz.func24,Tryz.ntmps24
    go_wp2
    go_loopw [5] (fun i wr=>∃ k:Nat,k≤l.length∧i = .int .i64 k∧Hid (chkAll n (l.drop k)=chkAll n l)∧Hid (Qt w wr)) (fun i _=>l.length - (intOf i).toNat)
    case atStart=>exact ⟨0,by omega,rfl,by simp [Hid],Qt.refl _⟩
    case round=>
     obtain ⟨k,hk,rfl,hg,hq⟩:=hrel
     by_cases hlt:k < l.length
     ·obtain rfl:=ha (by omega)
      obtain ⟨u1,hck,hi⟩:=hc.qt hq.out k hlt
      clear ha hc
      obtain ⟨x,hx⟩:=exE (l.getD k [])
      rw [hx] at hi
      replace hx:=Lib.hid hx
      have H:=Lib.hid (refCheck hi)
      obtain ⟨a1,c1,b1,o1,rfl,_⟩:=hi
      obtain ⟨m,hm'⟩:∃ m,x.length=m:=⟨_,rfl⟩
      rw [hm'] at hck H
      replace hm':=Lib.hid hm'
      obtain ⟨E,hE⟩:=exE (chk x)
      rw [hE] at H
      replace hE:=Lib.hid hE
      by_cases hz:E=0
      ·subst hz
       by_cases hmn:(m:Int)=n
       ·have hmn':((m:Int) != n)=false:=by simp [hmn]
        replace hmn:=Lib.hid hmn
        go_wp2_with (go_at_call 30; refine H.out.mono ?_; rintro e w' ⟨rfl,n1,rfl⟩)
        go_roundw
        case rel=>exact ⟨k+1,by omega,by go_num,by show _=_; rw [← hg.out,chkAll_1 hlt hx.out hm'.out hE.out hmn.out],hq.out.trans (Qt.mk' _ _)⟩
        case measure=>simp [intOf]; omega
       ·have hmn':((m:Int) != n)=true:=by simp [hmn]
        go_wp2_with (go_at_call 30; refine H.out.mono ?_; rintro e w' ⟨rfl,n1,rfl⟩)
        go_ret
        exact ⟨ret_int (by rw [e0.out,← hg.out,chkAll_2 hlt hx.out hm'.out hE.out hmn]),hq.out.trans (Qt.mk' _ _)⟩
      ·have hz':(E != 0)=true:=by simpa using hz
       replace hz:=Lib.hid hz
       go_wp2_with (go_at_call 30; refine H.out.mono ?_; rintro e w' ⟨rfl,n1,rfl⟩)
       go_ret
       exact ⟨ret_int (by rw [e0.out,← hg.out,chkAll_3 hlt hx.out (by rw [hE.out]; exact hz.out),hE.out]),hq.out.trans (Qt.mk' _ _)⟩
     ·have hst:=Lib.hid (chkAll_end (n:=n) hlt)
      clear ha hc
      go_wp2
      go_ret
      exact ⟨ret_int (by rw [e0.out,← hg.out,hst.out]),hq.out⟩
end Go.Proofs.YtmikofeildnpdaaGreat

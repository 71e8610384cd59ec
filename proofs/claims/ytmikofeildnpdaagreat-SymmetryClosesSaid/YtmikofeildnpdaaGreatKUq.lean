/- Texts of this claim, put together: QS QT ZE CS SE. -/
import Derived.Test.YtmikofeildnpdaaGreatKUh
import Derived.Test.YtmikofeildnpdaaGreatKUp
import Derived.Test.YtmikofeildnpdaaGreatKUo
import Derived.Test.YtmikofeildnpdaaGreatKUl
import Derived.Test.YtmikofeildnpdaaGreatKUe
import Derived.Test.YtmikofeildnpdaaGreatKUd
import Derived.Test.YtmikofeildnpdaaGreatKUg
import Derived.Test.YtmikofeildnpdaaGreatKUc
import Derived.Test.YtmikofeildnpdaaGreatKUi
import Derived.Deep.LoopGhost
import Derived.IntWalk
import Derived.Laws.AppendOwnNone
import Derived.Lib.AppendZeros
import Derived.Deep.RegionHeld3
import Derived.Deep.DeepCutAuto
import Derived.Laws.EntriesVeiled
import Derived.Test.YtmikofeildnpdaaGreatKUf

set_option maxRecDepth 100000
set_option maxHeartbeats 12800000
/- Sorted lists: what is inserted from behind, and what is sorted. Plain lists. -/
namespace Go.Proofs.YtmikofeildnpdaaGreat
def bkK {α : Type} (cmp : α→α→Int) (d x : α) (l : List α) : Nat→Nat
 | 0=>0
 | k + 1=>if cmp x (l.getD k d) < 0 then bkK cmp d x l k else k + 1
def insB {α : Type} (cmp : α→α→Int) (d x : α) (l : List α) : List α:=l.take (bkK cmp d x l l.length) ++ x::l.drop (bkK cmp d x l l.length)
def srtB {α : Type} (cmp : α→α→Int) (d : α) (l : List α) : List α:=l.foldl (fun o x=>insB cmp d x o) []
structure WeakO {α : Type} (cmp : α→α→Int) : Prop where
 asymm : ∀ a b,cmp a b < 0→¬ cmp b a < 0
 ntrans : ∀ a b c,¬ cmp a b < 0→¬ cmp b c < 0→¬ cmp a c < 0
def SrtG {α : Type} (cmp : α→α→Int) (l : List α) : Prop:=l.Pairwise fun a b=>¬ cmp b a < 0
section
variable {α : Type} {cmp : α→α→Int} {d x : α}
theorem bkK_le (l : List α) : ∀ k,bkK cmp d x l k ≤ k
 | 0=>Nat.le_refl _
 | k + 1=>by
  rw [bkK]
  split
  ·have:=bkK_le l k; omega
  ·exact Nat.le_refl _
theorem bkK_gt (l : List α) : ∀ k j,bkK cmp d x l k ≤ j→j < k→cmp x (l.getD j d) < 0
 | 0,_,_,h=>absurd h (by omega)
 | k + 1,j,h1,h2=>by
  rw [bkK] at h1
  split at h1
  ·rename_i h
   by_cases e : j = k
   ·subst e; exact h
   ·exact bkK_gt l k j h1 (by omega)
  ·omega
theorem bkK_at (l : List α) : ∀ k p,bkK cmp d x l k = p + 1→¬ cmp x (l.getD p d) < 0
 | 0,p,h=>by rw [bkK] at h; omega
 | k + 1,p,h=>by
  rw [bkK] at h
  split at h
  ·exact bkK_at l k p h
  ·rename_i h1
   obtain rfl : k = p:=by omega
   exact h1
theorem insB_perm (l : List α) : (insB cmp d x l).Perm (x::l):=by
 unfold insB
 refine List.perm_middle.trans ?_
 rw [List.take_append_drop]
theorem insB_sorted (hO : WeakO cmp) {l : List α} (h : SrtG cmp l) : SrtG cmp (insB cmp d x l):=by
 obtain ⟨K,hK⟩:=exE (bkK cmp d x l l.length)
 have hKl : K ≤ l.length:=by rw [← hK]; exact bkK_le l l.length
 unfold insB
 rw [hK]
 have hlo : ∀ a ∈ l.take K,¬ cmp x a < 0:=fun a ha=>by
  obtain ⟨i,hi,rfl⟩:=List.mem_iff_getElem.1 ha
  rw [List.length_take] at hi
  obtain ⟨p,rfl⟩ : ∃ p,K = p + 1:=⟨K - 1,by omega⟩
  have h1:=bkK_at l l.length p hK
  rw [List.getElem_take]
  rw [List.getD_eq_getElem?_getD,List.getElem?_eq_getElem (by omega)] at h1
  by_cases e : i = p
  ·subst e; exact h1
  ·exact hO.ntrans _ _ _ h1 ((List.pairwise_iff_getElem.1 h) i p (by omega) (by omega) (by omega))
 have hhi : ∀ b ∈ l.drop K,cmp x b < 0:=fun b hb=>by
  obtain ⟨i,hi,rfl⟩:=List.mem_iff_getElem.1 hb
  rw [List.length_drop] at hi
  have:=bkK_gt (cmp:=cmp) (d:=d) (x:=x) l l.length (K + i) (by rw [hK]; omega) (by omega)
  rw [List.getElem_drop]
  rwa [List.getD_eq_getElem?_getD,List.getElem?_eq_getElem (by omega)] at this
 rw [SrtG,List.pairwise_append,List.pairwise_cons]
 refine ⟨List.Pairwise.sublist (List.take_sublist _ _) h,⟨fun b hb=>hO.asymm _ _ (hhi b hb),List.Pairwise.sublist (List.drop_sublist _ _) h⟩,fun a ha b hb=>?_⟩
 rcases List.mem_cons.1 hb with rfl | hb
 ·exact hlo a ha
 ·intro hc
  exact hO.ntrans _ _ _ (hO.asymm _ _ (hhi b hb)) (hlo a ha) hc
theorem srtB_go (hO : WeakO cmp) : ∀ (l o : List α),SrtG cmp o→(l.foldl (fun o x=>insB cmp d x o) o).Perm (o ++ l)∧SrtG cmp (l.foldl (fun o x=>insB cmp d x o) o)
 | [],o,h=>⟨by simp,h⟩
 | x::l,o,h=>by
  obtain ⟨h1,h2⟩:=srtB_go hO l (insB cmp d x o) (insB_sorted hO h)
  rw [List.foldl_cons]
  refine ⟨h1.trans ?_,h2⟩
  refine ((insB_perm o).append_right l).trans ?_
  exact List.perm_middle.symm
theorem srtB_perm (hO : WeakO cmp) (l : List α) : (srtB cmp d l).Perm l:=by
 have:=(srtB_go (d:=d) hO l [] (by simp [SrtG])).1
 simpa [srtB] using this
theorem srtB_sorted (hO : WeakO cmp) (l : List α) : SrtG cmp (srtB cmp d l):=(srtB_go (d:=d) hO l [] (by simp [SrtG])).2
theorem srtB_uniq (hO : WeakO cmp) {l m : List α} (hp : m.Perm l) (hs : SrtG cmp m) (ha : ∀ a ∈ l,∀ b ∈ l,¬ cmp a b < 0→¬ cmp b a < 0→a = b) : m = srtB cmp d l:=by
 refine List.Perm.eq_of_pairwise (le:=fun a b=>¬ cmp b a < 0) (fun a b h1 h2 h3 h4=>?_) hs (srtB_sorted hO l) (hp.trans (srtB_perm hO l).symm)
 exact ha a (hp.mem_iff.1 h1) b ((srtB_perm hO l).mem_iff.1 h2) h4 h3
theorem srtB_id (hO : WeakO cmp) {l : List α} (hs : SrtG cmp l) (ha : ∀ a ∈ l,∀ b ∈ l,¬ cmp a b < 0→¬ cmp b a < 0→a = b) : srtB cmp d l = l:=(srtB_uniq hO (List.Perm.refl l) hs ha).symm
theorem srtB_len (hO : WeakO cmp) (l : List α) : (srtB cmp d l).length = l.length:=(srtB_perm hO l).length_eq
theorem srtB_mem (hO : WeakO cmp) (l : List α) {z : α} : z ∈ srtB cmp d l ↔ z ∈ l:=(srtB_perm hO l).mem_iff
end
theorem weakL : WeakO cmpL:=⟨cmpL_asymm,cmpL_ntrans⟩
theorem cmpL_anti {a b : List Int} (h1 : ¬ cmpL a b < 0) (h2 : ¬ cmpL b a < 0) : a = b:=by
 rcases cmpL_total a b with h | h | h
 ·exact absurd h h1
 ·exact h
 ·exact absurd h h2
def cmpM (m m' : List Int) : Int:=cmpL (rdOf m) (rdOf m')
theorem weakM : WeakO cmpM:=⟨fun _ _ h=>cmpL_asymm _ _ h,fun _ _ _ h k=>cmpL_ntrans _ _ _ h k⟩
end Go.Proofs.YtmikofeildnpdaaGreat

/- Renamed tasks: plain. -/
namespace Go.Proofs.YtmikofeildnpdaaGreat
def cmpC (c c' : Cs) : Int:=cmpL c.1 c'.1
theorem weakC : WeakO cmpC:=⟨fun _ _ h=>cmpL_asymm _ _ h,fun _ _ _ h k=>cmpL_ntrans _ _ _ h k⟩
def mvAll (a : List Int) (l : List (List Int)) : List (List Int):=srtB cmpL [] (l.map (movedL a))
def renC (a : List Int) (c : Cs) : Cs:=(movedL a c.1,mvAll a c.2.1,mvAll a c.2.2)
def renT (a : List Int) (cs : List Cs) : List Cs:=srtB cmpC csNil (cs.map (renC a))
theorem mvAll_len (a : List Int) (l : List (List Int)) : (mvAll a l).length = l.length:=by rw [mvAll,srtB_len weakL,List.length_map]
theorem renT_len (a : List Int) (cs : List Cs) : (renT a cs).length = cs.length:=by rw [renT,srtB_len weakC,List.length_map]
theorem mvAll_of {a : List Int} {l m : List (List Int)} (hp : m.Perm (l.map (movedL a))) (hs : SrtG cmpL m) : m = mvAll a l:=srtB_uniq weakL hp hs fun _ _ _ _ h1 h2=>cmpL_anti h1 h2
theorem getD_mem {α : Type} {l : List α} {d : α} {k : Nat} (h : k < l.length) : l.getD k d ∈ l:=by rw [getD_eq h]; exact List.getElem_mem h
theorem asc_adj {l : List (List Int)} : (∀ k,k + 1 < l.length→cmpL (l.getD k []) (l.getD (k + 1) []) < 0)→AscL l:=by
 induction l with
 | nil=>exact fun _=>List.Pairwise.nil
 | cons x l ih=>
  intro h
  have hl : AscL l:=ih fun k hk=>by have:=h (k + 1) (by simpa using hk); simpa using this
  refine List.pairwise_cons.2 ⟨fun y hy=>?_,hl⟩
  cases l with
  | nil=>cases hy
  | cons z l=>
   have h0 : cmpL x z < 0:=by have:=h 0 (by simp); simpa using this
   rcases List.mem_cons.1 hy with rfl | hy
   ·exact h0
   ·exact cmpL_trans _ _ _ h0 ((List.pairwise_cons.1 hl).1 y hy)
structure TskOK (n : Nat) (ins outs : Int) (cs : List Cs) : Prop where
 n1 : 1 ≤ n
 n5 : n ≤ 5
 asc : AscL (cs.map fun c=>c.1)
 len : ∀ c ∈ cs,c.1.length = n∧(∀ v ∈ c.2.1,v.length = n)∧∀ v ∈ c.2.2,v.length = n
 short : 1 ≤ cs.length∧cs.length ≤ 1024
 outs : ∀ c ∈ cs,c.2.1.length ≤ 1024
theorem vecE_len {v : List Int} {n most : Int} (h : vecE v n most = 0) : (v.length : Int) = n:=by
 unfold vecE at h
 by_cases e : (v.length : Int) = n
 ·exact e
 ·rw [if_pos e] at h; cases h
theorem TskOK.of {n : Nat} {ins outs : Int} {cs : List Cs} (h : chkT (n : Int) ins outs cs = 0) : TskOK n ins outs cs:=by
 unfold chkT at h
 split at h
 ·cases h
 next h1=>
 split at h
 ·cases h
 next h2=>
 have hf:=(firstE_zero _ _).1 h
 have hcase : ∀ k,k < cs.length→vecE (cs.getD k csNil).1 (n : Int) ins = 0∧(0 < k→cmpL (cs.getD (k - 1) csNil).1 (cs.getD k csNil).1 < 0)∧outsE (n : Int) outs (cs.getD k csNil) = 0:=by
  intro k hk
  have e:=hf k (Nat.zero_le _) (by omega)
  unfold caseE at e
  split at e
  ·rename_i e1; exact absurd e e1
  next e1=>
  split at e
  ·cases e
  next e2=>exact ⟨Decidable.not_not.1 e1,fun h0=>by by_cases h : cmpL (cs.getD (k - 1) csNil).1 (cs.getD k csNil).1 < 0; exact h; exact absurd ⟨h0,by omega⟩ e2,e⟩
 have houts : ∀ c ∈ cs,c.2.1.length ≤ 1024∧(∀ v ∈ c.2.1,v.length = n)∧∀ v ∈ c.2.2,v ∈ c.2.1:=by
  intro c hc
  obtain ⟨k,hk,rfl⟩:=List.mem_iff_getElem.1 hc
  have e:=(hcase k hk).2.2
  rw [getD_eq hk] at e
  unfold outsE at e
  split at e
  ·cases e
  next e1=>
  split at e
  ·rename_i e2; exact absurd e e2
  next e2=>
  refine ⟨by omega,fun v hv=>?_,fun v hv=>?_⟩
  ·obtain ⟨j,hj,rfl⟩:=List.mem_iff_getElem.1 hv
   have:=(firstE_zero _ _).1 (Decidable.not_not.1 e2) j (Nat.zero_le _) (by omega)
   unfold outE at this
   split at this
   ·rename_i e3; exact absurd this e3
   next e3=>
   have:=vecE_len (Decidable.not_not.1 e3)
   rw [getD_eq hj] at this
   omega
  ·obtain ⟨j,hj,rfl⟩:=List.mem_iff_getElem.1 hv
   have:=(firstE_zero _ _).1 e j (Nat.zero_le _) (by omega)
   unfold calmE at this
   split at this
   ·cases this
   next e3=>rw [getD_eq hj] at e3; exact Decidable.not_not.1 e3
 refine ⟨by omega,by omega,?_,?_,by omega,fun c hc=>(houts c hc).1⟩
 ·refine asc_adj fun k hk=>?_
  rw [List.length_map] at hk
  have:=(hcase (k + 1) hk).2.1 (by omega)
  rw [Nat.add_sub_cancel,getD_eq hk,getD_eq (show k < cs.length by omega)] at this
  rw [getD_eq (by rw [List.length_map]; omega),getD_eq (by rw [List.length_map]; exact hk),List.getElem_map,List.getElem_map]
  exact this
 ·intro c hc
  refine ⟨?_,(houts c hc).2.1,fun v hv=>(houts c hc).2.1 v ((houts c hc).2.2 v hv)⟩
  obtain ⟨k,hk,rfl⟩:=List.mem_iff_getElem.1 hc
  have:=vecE_len (hcase k hk).1
  rw [getD_eq hk] at this
  omega
theorem moved_inj {n : Nat} {a v w : List Int} (ha : IsP n a) (hv : v.length = n) (hw : w.length = n) (h : movedL a v = movedL a w) : v = w:=by rw [← times_moved ha hv,h,times_moved ha hw]
theorem renC_anti {n : Nat} {ins outs : Int} {cs : List Cs} (h : TskOK n ins outs cs) {a : List Int} (ha : IsP n a) : ∀ x ∈ cs.map (renC a),∀ y ∈ cs.map (renC a),¬ cmpC x y < 0→¬ cmpC y x < 0→x = y:=fun x hx y hy h2 h3=>by
 obtain ⟨c,hc,rfl⟩:=List.mem_map.1 hx
 obtain ⟨c',hc',rfl⟩:=List.mem_map.1 hy
 have e:=moved_inj ha (h.len c hc).1 (h.len c' hc').1 (cmpL_anti h2 h3)
 obtain ⟨i,hi,rfl⟩:=List.mem_iff_getElem.1 hc
 obtain ⟨j,hj,rfl⟩:=List.mem_iff_getElem.1 hc'
 have hA:=h.asc
 rw [AscL,List.pairwise_iff_getElem] at hA
 have key : ∀ i j (hi : i < cs.length) (hj : j < cs.length),i < j→cs[i].1 = cs[j].1→False:=fun i j hi hj hij e=>by
  have:=hA i j (by rw [List.length_map]; exact hi) (by rw [List.length_map]; exact hj) hij
  rw [List.getElem_map,List.getElem_map,e,cmpL_self] at this
  omega
 rcases Nat.lt_trichotomy i j with hlt | hlt | hlt
 ·exact (key i j hi hj hlt e).elim
 ·subst hlt; rfl
 ·exact (key j i hj hi hlt e.symm).elim
theorem renT_of {n : Nat} {ins outs : Int} {cs m : List Cs} (h : TskOK n ins outs cs) {a : List Int} (ha : IsP n a) (hp : m.Perm (cs.map (renC a))) (hs : SrtG cmpC m) : m = renT a cs:=srtB_uniq weakC hp hs (renC_anti h ha)
end Go.Proofs.YtmikofeildnpdaaGreat

/- symmetry.chosen, relate.kept: walks. -/
namespace Go.Proofs.YtmikofeildnpdaaGreat
open Go.RowKit
theorem OII.form2 {w : World} {B n : Nat} {v : Value} {xss : List (List Int)} (h : OII w B v n xss) (hn : 0 < n) : ∃ g cap,v = .slice (some ⟨g,0,none⟩) n cap:=by
 obtain ⟨vs,h1,_⟩:=h
 rcases h1.2 with ⟨_,h0⟩ | ⟨g,cap,cur,rfl,_⟩
 ·omega
 ·exact ⟨g,cap,rfl⟩
theorem chosenG {w : World} {v : Value} {B0 : Nat} {caps : Array Value} {l : List (List Int)} {p : List Int→Bool} (h : OII w B0 v l.length l) (hl : l.length ≤ 1000)
  (HF : ∀ W,Below w.heap.size w W→∀ x ∈ l,∀ u,OI W 0 u x.length x→Calls Tryz.prog 58 (#[u] ++ caps) W fun e w'=>e = .returned (.tuple #[.bool (p x),.int .i64 0])∧Below W.heap.size W w') :
  Calls Tryz.prog 57 #[v,.func (.func 58) #[] caps] w (RII w (l.filter p) 0):=by
 have h':=Lib.hid h
 obtain ⟨va,vc,rfl⟩:=h.shape
 replace HF:=Lib.hid HF
 have ho0 : OII w w.heap.size (.slice none 0 0) ((l.take 0).filter p).length ((l.take 0).filter p):=OII.nil _ _
 have hb0:=Below.refl w.heap.size w
 clear h
 go_enter Tryz.func57, Tryz.ntmps57
 go_wp2_with fail
 go_loopw [6,13] (fun ov jv wr=>∃ k : Nat,jv = .int .i64 (k : Int)∧k ≤ l.length∧OII wr w.heap.size ov ((l.take k).filter p).length ((l.take k).filter p)∧Hid (Below w.heap.size w wr)) (fun _ jv _=>l.length - (intOf jv).toNat)
 case atStart=>exact ⟨0,rfl,Nat.zero_le _,ho0,hb0⟩
 case round=>
  clear ho0 hb0
  obtain ⟨k,rfl,hk,ho,hb⟩:=hrel
  obtain ⟨oa,oc,hov⟩:=ho.shape
  subst hov
  by_cases hlt : k < l.length
  ·have hltI : (k : Int) < (l.length : Int):=by omega
   obtain ⟨g,cap,he⟩:=h'.out.form2 (by omega)
   obtain ⟨rfl,rfl⟩ : va = some ⟨g,0,none⟩∧vc = cap:=by injection he with h1 h2 h3; exact ⟨h1,h3⟩
   obtain ⟨u,hcu,hu⟩:=OII.get (h'.out.keep hb.out) hlt
   obtain ⟨x,hx⟩:=exE (l.getD k [])
   have hxm : x ∈ l:=by rw [← hx]; exact getD_mem hlt
   rw [hx] at hu
   obtain ⟨ua,uc,huv⟩:=hu.shape
   subst huv
   have hfs : (l.take (k + 1)).filter p = (l.take k).filter p ++ if p x then [x] else []:=by
    rw [take_snoc hlt [],hx,List.filter_append]
    cases hp : p x <;> simp [hp]
   have HC:=HF.out wr hb.out x hxm _ hu
   obtain ⟨N,hN⟩:=exE (((l.take k).filter p).length)
   have hNl : N ≤ l.length:=by rw [← hN]; exact Nat.le_trans (List.length_filter_le _ _) (by rw [List.length_take]; omega)
   rw [hN] at ho ⊢
   cases hp : p x with
   | true=>
    rw [hp] at HC
    rw [if_pos hp] at hfs
    replace HC:=Lib.hid HC
    have hfl : ((l.take (k + 1)).filter p).length = N + 1:=by rw [hfs,List.length_append,hN]; rfl
    replace hfs:=Lib.hid hfs
    replace hfl:=Lib.hid hfl
    replace hN:=Lib.hid hN
    clear hx he
    go_wp2_with fail
    refine HC.out.mono ?_
    rintro e w1 ⟨rfl,hb1⟩
    have ho1:=ho.keep hb1
    have hu1:=hu.keep hb1
    have hbw:=bt hb.out hb1 hb.out.size
    clear ho hu hcu
    go_wp2_with (at_builtin; refine wpApp1S rfl _ _ rfl rfl ho1 rfl hu1 rfl (by omega) hbw.size ?_; intro v2 w2 ho2 hb2 hm2)
    have hfin : OII w2 w.heap.size v2 ((l.take (k + 1)).filter p).length ((l.take (k + 1)).filter p):=by rw [hfl.out,hfs.out]; exact ho2
    clear ho2 ho1
    go_wp2_with fail
    go_roundw
    case rel=>exact ⟨k + 1,by go_num,by omega,hfin,hbw.trans hb2⟩
    case measure=>simp [intOf]; omega
   | false=>
    rw [hp] at HC
    rw [if_neg (by rw [hp]; decide),List.append_nil] at hfs
    replace HC:=Lib.hid HC
    have hfl : ((l.take (k + 1)).filter p).length = N:=by rw [hfs,hN]
    replace hfs:=Lib.hid hfs
    replace hfl:=Lib.hid hfl
    replace hN:=Lib.hid hN
    clear hx he
    go_wp2_with fail
    refine HC.out.mono ?_
    rintro e w1 ⟨rfl,hb1⟩
    have hbw:=bt hb.out hb1 hb.out.size
    have hfin : OII w1 w.heap.size (.slice oa N oc) ((l.take (k + 1)).filter p).length ((l.take (k + 1)).filter p):=by rw [hfl.out,hfs.out]; exact ho.keep hb1
    clear ho hu hcu
    go_wp2_with fail
    go_roundw
    case rel=>exact ⟨k + 1,by go_num,by omega,hfin,hbw⟩
    case measure=>simp [intOf]; omega
  ·obtain rfl : k = l.length:=by omega
   rw [List.take_length] at ho ⊢
   go_wp2
   go_ret2
   exact ⟨_,rfl,ho,hb.out⟩
theorem chosenS {w : World} {v : Value} {B0 : Nat} {caps : Array Value} {l : List (List Int)} {p : List Int→Bool} (h : OII w B0 v l.length l) (hl : l.length ≤ 1000)
  (HF : ∀ W,Below w.heap.size w W→∀ x ∈ l,∀ u,OI W 0 u x.length x→Calls Tryz.prog 80 (#[u] ++ caps) W fun e w'=>e = .returned (.tuple #[.bool (p x),.int .i64 0])∧Below W.heap.size W w') :
  Calls Tryz.prog 57 #[v,.func (.func 80) #[] caps] w (RII w (l.filter p) 0):=by
 have h':=Lib.hid h
 obtain ⟨va,vc,rfl⟩:=h.shape
 replace HF:=Lib.hid HF
 have ho0 : OII w w.heap.size (.slice none 0 0) ((l.take 0).filter p).length ((l.take 0).filter p):=OII.nil _ _
 have hb0:=Below.refl w.heap.size w
 clear h
 go_enter Tryz.func57, Tryz.ntmps57
 go_wp2_with fail
 go_loopw [6,13] (fun ov jv wr=>∃ k : Nat,jv = .int .i64 (k : Int)∧k ≤ l.length∧OII wr w.heap.size ov ((l.take k).filter p).length ((l.take k).filter p)∧Hid (Below w.heap.size w wr)) (fun _ jv _=>l.length - (intOf jv).toNat)
 case atStart=>exact ⟨0,rfl,Nat.zero_le _,ho0,hb0⟩
 case round=>
  clear ho0 hb0
  obtain ⟨k,rfl,hk,ho,hb⟩:=hrel
  obtain ⟨oa,oc,hov⟩:=ho.shape
  subst hov
  by_cases hlt : k < l.length
  ·have hltI : (k : Int) < (l.length : Int):=by omega
   obtain ⟨g,cap,he⟩:=h'.out.form2 (by omega)
   obtain ⟨rfl,rfl⟩ : va = some ⟨g,0,none⟩∧vc = cap:=by injection he with h1 h2 h3; exact ⟨h1,h3⟩
   obtain ⟨u,hcu,hu⟩:=OII.get (h'.out.keep hb.out) hlt
   obtain ⟨x,hx⟩:=exE (l.getD k [])
   have hxm : x ∈ l:=by rw [← hx]; exact getD_mem hlt
   rw [hx] at hu
   obtain ⟨ua,uc,huv⟩:=hu.shape
   subst huv
   have hfs : (l.take (k + 1)).filter p = (l.take k).filter p ++ if p x then [x] else []:=by
    rw [take_snoc hlt [],hx,List.filter_append]
    cases hp : p x <;> simp [hp]
   have HC:=HF.out wr hb.out x hxm _ hu
   obtain ⟨N,hN⟩:=exE (((l.take k).filter p).length)
   have hNl : N ≤ l.length:=by rw [← hN]; exact Nat.le_trans (List.length_filter_le _ _) (by rw [List.length_take]; omega)
   rw [hN] at ho ⊢
   cases hp : p x with
   | true=>
    rw [hp] at HC
    rw [if_pos hp] at hfs
    replace HC:=Lib.hid HC
    have hfl : ((l.take (k + 1)).filter p).length = N + 1:=by rw [hfs,List.length_append,hN]; rfl
    replace hfs:=Lib.hid hfs
    replace hfl:=Lib.hid hfl
    replace hN:=Lib.hid hN
    clear hx he
    go_wp2_with fail
    refine HC.out.mono ?_
    rintro e w1 ⟨rfl,hb1⟩
    have ho1:=ho.keep hb1
    have hu1:=hu.keep hb1
    have hbw:=bt hb.out hb1 hb.out.size
    clear ho hu hcu
    go_wp2_with (at_builtin; refine wpApp1S rfl _ _ rfl rfl ho1 rfl hu1 rfl (by omega) hbw.size ?_; intro v2 w2 ho2 hb2 hm2)
    have hfin : OII w2 w.heap.size v2 ((l.take (k + 1)).filter p).length ((l.take (k + 1)).filter p):=by rw [hfl.out,hfs.out]; exact ho2
    clear ho2 ho1
    go_wp2_with fail
    go_roundw
    case rel=>exact ⟨k + 1,by go_num,by omega,hfin,hbw.trans hb2⟩
    case measure=>simp [intOf]; omega
   | false=>
    rw [hp] at HC
    rw [if_neg (by rw [hp]; decide),List.append_nil] at hfs
    replace HC:=Lib.hid HC
    have hfl : ((l.take (k + 1)).filter p).length = N:=by rw [hfs,hN]
    replace hfs:=Lib.hid hfs
    replace hfl:=Lib.hid hfl
    replace hN:=Lib.hid hN
    clear hx he
    go_wp2_with fail
    refine HC.out.mono ?_
    rintro e w1 ⟨rfl,hb1⟩
    have hbw:=bt hb.out hb1 hb.out.size
    have hfin : OII w1 w.heap.size (.slice oa N oc) ((l.take (k + 1)).filter p).length ((l.take (k + 1)).filter p):=by rw [hfl.out,hfs.out]; exact ho.keep hb1
    clear ho hu hcu
    go_wp2_with fail
    go_roundw
    case rel=>exact ⟨k + 1,by go_num,by omega,hfin,hbw⟩
    case measure=>simp [intOf]; omega
  ·obtain rfl : k = l.length:=by omega
   rw [List.take_length] at ho ⊢
   go_wp2
   go_ret2
   exact ⟨_,rfl,ho,hb.out⟩
theorem keptS {w : World} {v : Value} {B0 : Nat} {caps : Array Value} {l : List (List Int)} {p : List Int→Bool} (h : OII w B0 v l.length l) (hl : l.length ≤ 1000)
  (HF : ∀ W,Below w.heap.size w W→∀ x ∈ l,∀ u,OI W 0 u x.length x→Calls Tryz.prog 120 (#[u] ++ caps) W fun e w'=>e = .returned (.bool (p x))∧Below W.heap.size W w') :
  Calls Tryz.prog 119 #[v,.func (.func 120) #[] caps] w fun e w'=>∃ r,e = .returned r∧OII w' w.heap.size r (l.filter p).length (l.filter p)∧Below w.heap.size w w':=by
 have h':=Lib.hid h
 obtain ⟨va,vc,rfl⟩:=h.shape
 replace HF:=Lib.hid HF
 have ho0 : OII w w.heap.size (.slice none 0 0) ((l.take 0).filter p).length ((l.take 0).filter p):=OII.nil _ _
 have hb0:=Below.refl w.heap.size w
 clear h
 go_enter Tryz.func119, Tryz.ntmps119
 go_wp2_with fail
 go_loopw [5,10] (fun ov jv wr=>∃ k : Nat,jv = .int .i64 (k : Int)∧k ≤ l.length∧OII wr w.heap.size ov ((l.take k).filter p).length ((l.take k).filter p)∧Hid (Below w.heap.size w wr)) (fun _ jv _=>l.length - (intOf jv).toNat)
 case atStart=>exact ⟨0,rfl,Nat.zero_le _,ho0,hb0⟩
 case round=>
  clear ho0 hb0
  obtain ⟨k,rfl,hk,ho,hb⟩:=hrel
  obtain ⟨oa,oc,hov⟩:=ho.shape
  subst hov
  by_cases hlt : k < l.length
  ·have hltI : (k : Int) < (l.length : Int):=by omega
   obtain ⟨g,cap,he⟩:=h'.out.form2 (by omega)
   obtain ⟨rfl,rfl⟩ : va = some ⟨g,0,none⟩∧vc = cap:=by injection he with h1 h2 h3; exact ⟨h1,h3⟩
   obtain ⟨u,hcu,hu⟩:=OII.get (h'.out.keep hb.out) hlt
   obtain ⟨x,hx⟩:=exE (l.getD k [])
   have hxm : x ∈ l:=by rw [← hx]; exact getD_mem hlt
   rw [hx] at hu
   obtain ⟨ua,uc,huv⟩:=hu.shape
   subst huv
   have hfs : (l.take (k + 1)).filter p = (l.take k).filter p ++ if p x then [x] else []:=by
    rw [take_snoc hlt [],hx,List.filter_append]
    cases hp : p x <;> simp [hp]
   have HC:=HF.out wr hb.out x hxm _ hu
   obtain ⟨N,hN⟩:=exE (((l.take k).filter p).length)
   have hNl : N ≤ l.length:=by rw [← hN]; exact Nat.le_trans (List.length_filter_le _ _) (by rw [List.length_take]; omega)
   rw [hN] at ho ⊢
   cases hp : p x with
   | true=>
    rw [hp] at HC
    rw [if_pos hp] at hfs
    replace HC:=Lib.hid HC
    have hfl : ((l.take (k + 1)).filter p).length = N + 1:=by rw [hfs,List.length_append,hN]; rfl
    replace hfs:=Lib.hid hfs
    replace hfl:=Lib.hid hfl
    replace hN:=Lib.hid hN
    clear hx he
    go_wp2_with fail
    refine HC.out.mono ?_
    rintro e w1 ⟨rfl,hb1⟩
    have ho1:=ho.keep hb1
    have hu1:=hu.keep hb1
    have hbw:=bt hb.out hb1 hb.out.size
    clear ho hu hcu
    go_wp2_with (at_builtin; refine wpApp1S rfl _ _ rfl rfl ho1 rfl hu1 rfl (by omega) hbw.size ?_; intro v2 w2 ho2 hb2 hm2)
    have hfin : OII w2 w.heap.size v2 ((l.take (k + 1)).filter p).length ((l.take (k + 1)).filter p):=by rw [hfl.out,hfs.out]; exact ho2
    clear ho2 ho1
    go_wp2_with fail
    go_roundw
    case rel=>exact ⟨k + 1,by go_num,by omega,hfin,hbw.trans hb2⟩
    case measure=>simp [intOf]; omega
   | false=>
    rw [hp] at HC
    rw [if_neg (by rw [hp]; decide),List.append_nil] at hfs
    replace HC:=Lib.hid HC
    have hfl : ((l.take (k + 1)).filter p).length = N:=by rw [hfs,hN]
    replace hfs:=Lib.hid hfs
    replace hfl:=Lib.hid hfl
    replace hN:=Lib.hid hN
    clear hx he
    go_wp2_with fail
    refine HC.out.mono ?_
    rintro e w1 ⟨rfl,hb1⟩
    have hbw:=bt hb.out hb1 hb.out.size
    have hfin : OII w1 w.heap.size (.slice oa N oc) ((l.take (k + 1)).filter p).length ((l.take (k + 1)).filter p):=by rw [hfl.out,hfs.out]; exact ho.keep hb1
    clear ho hu hcu
    go_wp2_with fail
    go_roundw
    case rel=>exact ⟨k + 1,by go_num,by omega,hfin,hbw⟩
    case measure=>simp [intOf]; omega
  ·obtain rfl : k = l.length:=by omega
   rw [List.take_length] at ho ⊢
   go_wp2
   go_ret
   exact ⟨_,rfl,ho,hb.out⟩
end Go.Proofs.YtmikofeildnpdaaGreat

/- Rows of bools; the reference's alive. -/
namespace Go.Proofs.YtmikofeildnpdaaGreat
open Go.RowKit
def OB (w : World) (B : Nat) (v : Value) (n : Nat) (xs : List Bool) : Prop:=w.ownsRow B 4 1 v n (xs.map Value.bool)
theorem OB.length {w : World} {B : Nat} {v : Value} {n : Nat} {xs : List Bool} (h : OB w B v n xs) : xs.length = n:=by have:=h.1; simpa using this
theorem OB.store {w : World} {B g n cap : Nat} {xs : List Bool} (h : OB w B (.slice (some ⟨g,0,none⟩) n cap) n xs) (j : Nat) (y : Bool) :
  OB (w.setCell ⟨g,j,none⟩ (.bool y)) B (.slice (some ⟨g,0,none⟩) n cap) n (xs.set j y):=by
 have:=(World.ownsRow.stored h j (.bool y)).1
 unfold OB
 rw [List.map_set]
 exact this
end Go.Proofs.YtmikofeildnpdaaGreat

/- Whole structs stored into boxes. -/
namespace Go.Proofs.YtmikofeildnpdaaGreat
open Go.RowKit
theorem boxL2 {w : World} {b : Nat} {t : TypeId} {u0 u1 : Value} (h : w.heap[b]? = some (.cells #[u0,u1] t)) :
  w.cell? ⟨b,0,none⟩ = some u0∧w.cell? ⟨b,1,none⟩ = some u1:=
 ⟨box_cell h rfl,box_cell h rfl⟩
theorem boxL3 {w : World} {b : Nat} {t : TypeId} {u0 u1 u2 : Value} (h : w.heap[b]? = some (.cells #[u0,u1,u2] t)) :
  w.cell? ⟨b,0,none⟩ = some u0∧w.cell? ⟨b,1,none⟩ = some u1∧w.cell? ⟨b,2,none⟩ = some u2:=
 ⟨box_cell h rfl,box_cell h rfl,box_cell h rfl⟩
theorem boxL4 {w : World} {b : Nat} {t : TypeId} {u0 u1 u2 u3 : Value} (h : w.heap[b]? = some (.cells #[u0,u1,u2,u3] t)) :
  w.cell? ⟨b,0,none⟩ = some u0∧w.cell? ⟨b,1,none⟩ = some u1∧w.cell? ⟨b,2,none⟩ = some u2∧w.cell? ⟨b,3,none⟩ = some u3:=
 ⟨box_cell h rfl,box_cell h rfl,box_cell h rfl,box_cell h rfl⟩
theorem boxL6 {w : World} {b : Nat} {t : TypeId} {u0 u1 u2 u3 u4 u5 : Value} (h : w.heap[b]? = some (.cells #[u0,u1,u2,u3,u4,u5] t)) :
  w.cell? ⟨b,0,none⟩ = some u0∧w.cell? ⟨b,1,none⟩ = some u1∧w.cell? ⟨b,2,none⟩ = some u2∧w.cell? ⟨b,3,none⟩ = some u3∧w.cell? ⟨b,4,none⟩ = some u4∧w.cell? ⟨b,5,none⟩ = some u5:=
 ⟨box_cell h rfl,box_cell h rfl,box_cell h rfl,box_cell h rfl,box_cell h rfl,box_cell h rfl⟩
theorem boxL7 {w : World} {b : Nat} {t : TypeId} {u0 u1 u2 u3 u4 u5 u6 : Value} (h : w.heap[b]? = some (.cells #[u0,u1,u2,u3,u4,u5,u6] t)) :
  w.cell? ⟨b,0,none⟩ = some u0∧w.cell? ⟨b,1,none⟩ = some u1∧w.cell? ⟨b,2,none⟩ = some u2∧w.cell? ⟨b,3,none⟩ = some u3∧w.cell? ⟨b,4,none⟩ = some u4∧w.cell? ⟨b,5,none⟩ = some u5∧w.cell? ⟨b,6,none⟩ = some u6:=
 ⟨box_cell h rfl,box_cell h rfl,box_cell h rfl,box_cell h rfl,box_cell h rfl,box_cell h rfl,box_cell h rfl⟩
theorem boxL8 {w : World} {b : Nat} {t : TypeId} {u0 u1 u2 u3 u4 u5 u6 u7 : Value} (h : w.heap[b]? = some (.cells #[u0,u1,u2,u3,u4,u5,u6,u7] t)) :
  w.cell? ⟨b,0,none⟩ = some u0∧w.cell? ⟨b,1,none⟩ = some u1∧w.cell? ⟨b,2,none⟩ = some u2∧w.cell? ⟨b,3,none⟩ = some u3∧w.cell? ⟨b,4,none⟩ = some u4∧w.cell? ⟨b,5,none⟩ = some u5∧w.cell? ⟨b,6,none⟩ = some u6∧w.cell? ⟨b,7,none⟩ = some u7:=
 ⟨box_cell h rfl,box_cell h rfl,box_cell h rfl,box_cell h rfl,box_cell h rfl,box_cell h rfl,box_cell h rfl,box_cell h rfl⟩
theorem boxL9 {w : World} {b : Nat} {t : TypeId} {u0 u1 u2 u3 u4 u5 u6 u7 u8 : Value} (h : w.heap[b]? = some (.cells #[u0,u1,u2,u3,u4,u5,u6,u7,u8] t)) :
  w.cell? ⟨b,0,none⟩ = some u0∧w.cell? ⟨b,1,none⟩ = some u1∧w.cell? ⟨b,2,none⟩ = some u2∧w.cell? ⟨b,3,none⟩ = some u3∧w.cell? ⟨b,4,none⟩ = some u4∧w.cell? ⟨b,5,none⟩ = some u5∧w.cell? ⟨b,6,none⟩ = some u6∧w.cell? ⟨b,7,none⟩ = some u7∧w.cell? ⟨b,8,none⟩ = some u8:=
 ⟨box_cell h rfl,box_cell h rfl,box_cell h rfl,box_cell h rfl,box_cell h rfl,box_cell h rfl,box_cell h rfl,box_cell h rfl,box_cell h rfl⟩
theorem freeL2 {w : World} {b : Nat} {t : TypeId} {cs : Array Value} (h : w.heap[b]? = some (.cells cs t)) : w.frozen? ⟨b,0,none⟩ = false∧w.frozen? ⟨b,1,none⟩ = false:=by
 simp [World.frozen?,h]
theorem freeL4 {w : World} {b : Nat} {t : TypeId} {cs : Array Value} (h : w.heap[b]? = some (.cells cs t)) : w.frozen? ⟨b,0,none⟩ = false∧w.frozen? ⟨b,1,none⟩ = false∧w.frozen? ⟨b,2,none⟩ = false∧w.frozen? ⟨b,3,none⟩ = false:=by
 simp [World.frozen?,h]
theorem freeL6 {w : World} {b : Nat} {t : TypeId} {cs : Array Value} (h : w.heap[b]? = some (.cells cs t)) : w.frozen? ⟨b,0,none⟩ = false∧w.frozen? ⟨b,1,none⟩ = false∧w.frozen? ⟨b,2,none⟩ = false∧w.frozen? ⟨b,3,none⟩ = false∧w.frozen? ⟨b,4,none⟩ = false∧w.frozen? ⟨b,5,none⟩ = false:=by
 simp [World.frozen?,h]
theorem freeL7 {w : World} {b : Nat} {t : TypeId} {cs : Array Value} (h : w.heap[b]? = some (.cells cs t)) : w.frozen? ⟨b,0,none⟩ = false∧w.frozen? ⟨b,1,none⟩ = false∧w.frozen? ⟨b,2,none⟩ = false∧w.frozen? ⟨b,3,none⟩ = false∧w.frozen? ⟨b,4,none⟩ = false∧w.frozen? ⟨b,5,none⟩ = false∧w.frozen? ⟨b,6,none⟩ = false:=by
 simp [World.frozen?,h]
theorem freeL8 {w : World} {b : Nat} {t : TypeId} {cs : Array Value} (h : w.heap[b]? = some (.cells cs t)) : w.frozen? ⟨b,0,none⟩ = false∧w.frozen? ⟨b,1,none⟩ = false∧w.frozen? ⟨b,2,none⟩ = false∧w.frozen? ⟨b,3,none⟩ = false∧w.frozen? ⟨b,4,none⟩ = false∧w.frozen? ⟨b,5,none⟩ = false∧w.frozen? ⟨b,6,none⟩ = false∧w.frozen? ⟨b,7,none⟩ = false:=by
 simp [World.frozen?,h]
theorem storeEnd4 {w : World} {b : Nat} {t : TypeId} {x0 x1 x2 x3 u0 u1 u2 u3 : Value} {G : Prop} (h : w.heap[b]? = some (.cells #[x0,x1,x2,x3] t))
  (k : ∀ W,W = ((((w.setCell ⟨b,0,none⟩ u0).setCell ⟨b,1,none⟩ u1).setCell ⟨b,2,none⟩ u2).setCell ⟨b,3,none⟩ u3)→(∀ (B : Nat) (w0 : World),B ≤ b→Below B w0 w→Below B w0 W)→KeepX t w W→W.heap[b]? = some (.cells #[u0,u1,u2,u3] t)→
   W.cell? ⟨b,0,none⟩ = some u0→W.cell? ⟨b,1,none⟩ = some u1→W.cell? ⟨b,2,none⟩ = some u2→W.cell? ⟨b,3,none⟩ = some u3→G) : G:=by
 obtain ⟨W0,e0⟩:=exF (w.setCell ⟨b,0,none⟩ u0)
 have h0 : W0.heap[b]? = some (.cells #[u0,x1,x2,x3] t):=by rw [e0]; exact heap_setCell_same w b 0 _ t u0 h
 have k0 : KeepX t w W0:=by rw [e0]; exact KeepX.trans (KeepX.refl t w) (KeepX.setCell (p:=⟨b,0,none⟩) h u0)
 have b0 : ∀ (B : Nat) (w0 : World),B ≤ b→Below B w0 w→Below B w0 W0:=fun B w0 hB hw=>by rw [e0]; exact (hw).setCell (p:=⟨b,0,none⟩) hB _
 obtain ⟨W1,e1⟩:=exF (W0.setCell ⟨b,1,none⟩ u1)
 have h1 : W1.heap[b]? = some (.cells #[u0,u1,x2,x3] t):=by rw [e1]; exact heap_setCell_same W0 b 1 _ t u1 h0
 have k1 : KeepX t w W1:=by rw [e1]; exact KeepX.trans k0 (KeepX.setCell (p:=⟨b,1,none⟩) h0 u1)
 have b1 : ∀ (B : Nat) (w0 : World),B ≤ b→Below B w0 w→Below B w0 W1:=fun B w0 hB hw=>by rw [e1]; exact (b0 B w0 hB hw).setCell (p:=⟨b,1,none⟩) hB _
 obtain ⟨W2,e2⟩:=exF (W1.setCell ⟨b,2,none⟩ u2)
 have h2 : W2.heap[b]? = some (.cells #[u0,u1,u2,x3] t):=by rw [e2]; exact heap_setCell_same W1 b 2 _ t u2 h1
 have k2 : KeepX t w W2:=by rw [e2]; exact KeepX.trans k1 (KeepX.setCell (p:=⟨b,2,none⟩) h1 u2)
 have b2 : ∀ (B : Nat) (w0 : World),B ≤ b→Below B w0 w→Below B w0 W2:=fun B w0 hB hw=>by rw [e2]; exact (b1 B w0 hB hw).setCell (p:=⟨b,2,none⟩) hB _
 obtain ⟨W3,e3⟩:=exF (W2.setCell ⟨b,3,none⟩ u3)
 have h3 : W3.heap[b]? = some (.cells #[u0,u1,u2,u3] t):=by rw [e3]; exact heap_setCell_same W2 b 3 _ t u3 h2
 have k3 : KeepX t w W3:=by rw [e3]; exact KeepX.trans k2 (KeepX.setCell (p:=⟨b,3,none⟩) h2 u3)
 have b3 : ∀ (B : Nat) (w0 : World),B ≤ b→Below B w0 w→Below B w0 W3:=fun B w0 hB hw=>by rw [e3]; exact (b2 B w0 hB hw).setCell (p:=⟨b,3,none⟩) hB _
 exact k W3 (by rw [e3,e2,e1,e0]) b3 k3 h3 (box_cell h3 rfl) (box_cell h3 rfl) (box_cell h3 rfl) (box_cell h3 rfl)
theorem storeEnd6 {w : World} {b : Nat} {t : TypeId} {x0 x1 x2 x3 x4 x5 u0 u1 u2 u3 u4 u5 : Value} {G : Prop} (h : w.heap[b]? = some (.cells #[x0,x1,x2,x3,x4,x5] t))
  (k : ∀ W,W = ((((((w.setCell ⟨b,0,none⟩ u0).setCell ⟨b,1,none⟩ u1).setCell ⟨b,2,none⟩ u2).setCell ⟨b,3,none⟩ u3).setCell ⟨b,4,none⟩ u4).setCell ⟨b,5,none⟩ u5)→(∀ (B : Nat) (w0 : World),B ≤ b→Below B w0 w→Below B w0 W)→KeepX t w W→W.heap[b]? = some (.cells #[u0,u1,u2,u3,u4,u5] t)→
   W.cell? ⟨b,0,none⟩ = some u0→W.cell? ⟨b,1,none⟩ = some u1→W.cell? ⟨b,2,none⟩ = some u2→W.cell? ⟨b,3,none⟩ = some u3→W.cell? ⟨b,4,none⟩ = some u4→W.cell? ⟨b,5,none⟩ = some u5→G) : G:=by
 obtain ⟨W0,e0⟩:=exF (w.setCell ⟨b,0,none⟩ u0)
 have h0 : W0.heap[b]? = some (.cells #[u0,x1,x2,x3,x4,x5] t):=by rw [e0]; exact heap_setCell_same w b 0 _ t u0 h
 have k0 : KeepX t w W0:=by rw [e0]; exact KeepX.trans (KeepX.refl t w) (KeepX.setCell (p:=⟨b,0,none⟩) h u0)
 have b0 : ∀ (B : Nat) (w0 : World),B ≤ b→Below B w0 w→Below B w0 W0:=fun B w0 hB hw=>by rw [e0]; exact (hw).setCell (p:=⟨b,0,none⟩) hB _
 obtain ⟨W1,e1⟩:=exF (W0.setCell ⟨b,1,none⟩ u1)
 have h1 : W1.heap[b]? = some (.cells #[u0,u1,x2,x3,x4,x5] t):=by rw [e1]; exact heap_setCell_same W0 b 1 _ t u1 h0
 have k1 : KeepX t w W1:=by rw [e1]; exact KeepX.trans k0 (KeepX.setCell (p:=⟨b,1,none⟩) h0 u1)
 have b1 : ∀ (B : Nat) (w0 : World),B ≤ b→Below B w0 w→Below B w0 W1:=fun B w0 hB hw=>by rw [e1]; exact (b0 B w0 hB hw).setCell (p:=⟨b,1,none⟩) hB _
 obtain ⟨W2,e2⟩:=exF (W1.setCell ⟨b,2,none⟩ u2)
 have h2 : W2.heap[b]? = some (.cells #[u0,u1,u2,x3,x4,x5] t):=by rw [e2]; exact heap_setCell_same W1 b 2 _ t u2 h1
 have k2 : KeepX t w W2:=by rw [e2]; exact KeepX.trans k1 (KeepX.setCell (p:=⟨b,2,none⟩) h1 u2)
 have b2 : ∀ (B : Nat) (w0 : World),B ≤ b→Below B w0 w→Below B w0 W2:=fun B w0 hB hw=>by rw [e2]; exact (b1 B w0 hB hw).setCell (p:=⟨b,2,none⟩) hB _
 obtain ⟨W3,e3⟩:=exF (W2.setCell ⟨b,3,none⟩ u3)
 have h3 : W3.heap[b]? = some (.cells #[u0,u1,u2,u3,x4,x5] t):=by rw [e3]; exact heap_setCell_same W2 b 3 _ t u3 h2
 have k3 : KeepX t w W3:=by rw [e3]; exact KeepX.trans k2 (KeepX.setCell (p:=⟨b,3,none⟩) h2 u3)
 have b3 : ∀ (B : Nat) (w0 : World),B ≤ b→Below B w0 w→Below B w0 W3:=fun B w0 hB hw=>by rw [e3]; exact (b2 B w0 hB hw).setCell (p:=⟨b,3,none⟩) hB _
 obtain ⟨W4,e4⟩:=exF (W3.setCell ⟨b,4,none⟩ u4)
 have h4 : W4.heap[b]? = some (.cells #[u0,u1,u2,u3,u4,x5] t):=by rw [e4]; exact heap_setCell_same W3 b 4 _ t u4 h3
 have k4 : KeepX t w W4:=by rw [e4]; exact KeepX.trans k3 (KeepX.setCell (p:=⟨b,4,none⟩) h3 u4)
 have b4 : ∀ (B : Nat) (w0 : World),B ≤ b→Below B w0 w→Below B w0 W4:=fun B w0 hB hw=>by rw [e4]; exact (b3 B w0 hB hw).setCell (p:=⟨b,4,none⟩) hB _
 obtain ⟨W5,e5⟩:=exF (W4.setCell ⟨b,5,none⟩ u5)
 have h5 : W5.heap[b]? = some (.cells #[u0,u1,u2,u3,u4,u5] t):=by rw [e5]; exact heap_setCell_same W4 b 5 _ t u5 h4
 have k5 : KeepX t w W5:=by rw [e5]; exact KeepX.trans k4 (KeepX.setCell (p:=⟨b,5,none⟩) h4 u5)
 have b5 : ∀ (B : Nat) (w0 : World),B ≤ b→Below B w0 w→Below B w0 W5:=fun B w0 hB hw=>by rw [e5]; exact (b4 B w0 hB hw).setCell (p:=⟨b,5,none⟩) hB _
 exact k W5 (by rw [e5,e4,e3,e2,e1,e0]) b5 k5 h5 (box_cell h5 rfl) (box_cell h5 rfl) (box_cell h5 rfl) (box_cell h5 rfl) (box_cell h5 rfl) (box_cell h5 rfl)
theorem storeEnd7 {w : World} {b : Nat} {t : TypeId} {x0 x1 x2 x3 x4 x5 x6 u0 u1 u2 u3 u4 u5 u6 : Value} {G : Prop} (h : w.heap[b]? = some (.cells #[x0,x1,x2,x3,x4,x5,x6] t))
  (k : ∀ W,W = (((((((w.setCell ⟨b,0,none⟩ u0).setCell ⟨b,1,none⟩ u1).setCell ⟨b,2,none⟩ u2).setCell ⟨b,3,none⟩ u3).setCell ⟨b,4,none⟩ u4).setCell ⟨b,5,none⟩ u5).setCell ⟨b,6,none⟩ u6)→(∀ (B : Nat) (w0 : World),B ≤ b→Below B w0 w→Below B w0 W)→KeepX t w W→W.heap[b]? = some (.cells #[u0,u1,u2,u3,u4,u5,u6] t)→
   W.cell? ⟨b,0,none⟩ = some u0→W.cell? ⟨b,1,none⟩ = some u1→W.cell? ⟨b,2,none⟩ = some u2→W.cell? ⟨b,3,none⟩ = some u3→W.cell? ⟨b,4,none⟩ = some u4→W.cell? ⟨b,5,none⟩ = some u5→W.cell? ⟨b,6,none⟩ = some u6→G) : G:=by
 obtain ⟨W0,e0⟩:=exF (w.setCell ⟨b,0,none⟩ u0)
 have h0 : W0.heap[b]? = some (.cells #[u0,x1,x2,x3,x4,x5,x6] t):=by rw [e0]; exact heap_setCell_same w b 0 _ t u0 h
 have k0 : KeepX t w W0:=by rw [e0]; exact KeepX.trans (KeepX.refl t w) (KeepX.setCell (p:=⟨b,0,none⟩) h u0)
 have b0 : ∀ (B : Nat) (w0 : World),B ≤ b→Below B w0 w→Below B w0 W0:=fun B w0 hB hw=>by rw [e0]; exact (hw).setCell (p:=⟨b,0,none⟩) hB _
 obtain ⟨W1,e1⟩:=exF (W0.setCell ⟨b,1,none⟩ u1)
 have h1 : W1.heap[b]? = some (.cells #[u0,u1,x2,x3,x4,x5,x6] t):=by rw [e1]; exact heap_setCell_same W0 b 1 _ t u1 h0
 have k1 : KeepX t w W1:=by rw [e1]; exact KeepX.trans k0 (KeepX.setCell (p:=⟨b,1,none⟩) h0 u1)
 have b1 : ∀ (B : Nat) (w0 : World),B ≤ b→Below B w0 w→Below B w0 W1:=fun B w0 hB hw=>by rw [e1]; exact (b0 B w0 hB hw).setCell (p:=⟨b,1,none⟩) hB _
 obtain ⟨W2,e2⟩:=exF (W1.setCell ⟨b,2,none⟩ u2)
 have h2 : W2.heap[b]? = some (.cells #[u0,u1,u2,x3,x4,x5,x6] t):=by rw [e2]; exact heap_setCell_same W1 b 2 _ t u2 h1
 have k2 : KeepX t w W2:=by rw [e2]; exact KeepX.trans k1 (KeepX.setCell (p:=⟨b,2,none⟩) h1 u2)
 have b2 : ∀ (B : Nat) (w0 : World),B ≤ b→Below B w0 w→Below B w0 W2:=fun B w0 hB hw=>by rw [e2]; exact (b1 B w0 hB hw).setCell (p:=⟨b,2,none⟩) hB _
 obtain ⟨W3,e3⟩:=exF (W2.setCell ⟨b,3,none⟩ u3)
 have h3 : W3.heap[b]? = some (.cells #[u0,u1,u2,u3,x4,x5,x6] t):=by rw [e3]; exact heap_setCell_same W2 b 3 _ t u3 h2
 have k3 : KeepX t w W3:=by rw [e3]; exact KeepX.trans k2 (KeepX.setCell (p:=⟨b,3,none⟩) h2 u3)
 have b3 : ∀ (B : Nat) (w0 : World),B ≤ b→Below B w0 w→Below B w0 W3:=fun B w0 hB hw=>by rw [e3]; exact (b2 B w0 hB hw).setCell (p:=⟨b,3,none⟩) hB _
 obtain ⟨W4,e4⟩:=exF (W3.setCell ⟨b,4,none⟩ u4)
 have h4 : W4.heap[b]? = some (.cells #[u0,u1,u2,u3,u4,x5,x6] t):=by rw [e4]; exact heap_setCell_same W3 b 4 _ t u4 h3
 have k4 : KeepX t w W4:=by rw [e4]; exact KeepX.trans k3 (KeepX.setCell (p:=⟨b,4,none⟩) h3 u4)
 have b4 : ∀ (B : Nat) (w0 : World),B ≤ b→Below B w0 w→Below B w0 W4:=fun B w0 hB hw=>by rw [e4]; exact (b3 B w0 hB hw).setCell (p:=⟨b,4,none⟩) hB _
 obtain ⟨W5,e5⟩:=exF (W4.setCell ⟨b,5,none⟩ u5)
 have h5 : W5.heap[b]? = some (.cells #[u0,u1,u2,u3,u4,u5,x6] t):=by rw [e5]; exact heap_setCell_same W4 b 5 _ t u5 h4
 have k5 : KeepX t w W5:=by rw [e5]; exact KeepX.trans k4 (KeepX.setCell (p:=⟨b,5,none⟩) h4 u5)
 have b5 : ∀ (B : Nat) (w0 : World),B ≤ b→Below B w0 w→Below B w0 W5:=fun B w0 hB hw=>by rw [e5]; exact (b4 B w0 hB hw).setCell (p:=⟨b,5,none⟩) hB _
 obtain ⟨W6,e6⟩:=exF (W5.setCell ⟨b,6,none⟩ u6)
 have h6 : W6.heap[b]? = some (.cells #[u0,u1,u2,u3,u4,u5,u6] t):=by rw [e6]; exact heap_setCell_same W5 b 6 _ t u6 h5
 have k6 : KeepX t w W6:=by rw [e6]; exact KeepX.trans k5 (KeepX.setCell (p:=⟨b,6,none⟩) h5 u6)
 have b6 : ∀ (B : Nat) (w0 : World),B ≤ b→Below B w0 w→Below B w0 W6:=fun B w0 hB hw=>by rw [e6]; exact (b5 B w0 hB hw).setCell (p:=⟨b,6,none⟩) hB _
 exact k W6 (by rw [e6,e5,e4,e3,e2,e1,e0]) b6 k6 h6 (box_cell h6 rfl) (box_cell h6 rfl) (box_cell h6 rfl) (box_cell h6 rfl) (box_cell h6 rfl) (box_cell h6 rfl) (box_cell h6 rfl)
theorem storeEnd8 {w : World} {b : Nat} {t : TypeId} {x0 x1 x2 x3 x4 x5 x6 x7 u0 u1 u2 u3 u4 u5 u6 u7 : Value} {G : Prop} (h : w.heap[b]? = some (.cells #[x0,x1,x2,x3,x4,x5,x6,x7] t))
  (k : ∀ W,W = ((((((((w.setCell ⟨b,0,none⟩ u0).setCell ⟨b,1,none⟩ u1).setCell ⟨b,2,none⟩ u2).setCell ⟨b,3,none⟩ u3).setCell ⟨b,4,none⟩ u4).setCell ⟨b,5,none⟩ u5).setCell ⟨b,6,none⟩ u6).setCell ⟨b,7,none⟩ u7)→(∀ (B : Nat) (w0 : World),B ≤ b→Below B w0 w→Below B w0 W)→KeepX t w W→W.heap[b]? = some (.cells #[u0,u1,u2,u3,u4,u5,u6,u7] t)→
   W.cell? ⟨b,0,none⟩ = some u0→W.cell? ⟨b,1,none⟩ = some u1→W.cell? ⟨b,2,none⟩ = some u2→W.cell? ⟨b,3,none⟩ = some u3→W.cell? ⟨b,4,none⟩ = some u4→W.cell? ⟨b,5,none⟩ = some u5→W.cell? ⟨b,6,none⟩ = some u6→W.cell? ⟨b,7,none⟩ = some u7→G) : G:=by
 obtain ⟨W0,e0⟩:=exF (w.setCell ⟨b,0,none⟩ u0)
 have h0 : W0.heap[b]? = some (.cells #[u0,x1,x2,x3,x4,x5,x6,x7] t):=by rw [e0]; exact heap_setCell_same w b 0 _ t u0 h
 have k0 : KeepX t w W0:=by rw [e0]; exact KeepX.trans (KeepX.refl t w) (KeepX.setCell (p:=⟨b,0,none⟩) h u0)
 have b0 : ∀ (B : Nat) (w0 : World),B ≤ b→Below B w0 w→Below B w0 W0:=fun B w0 hB hw=>by rw [e0]; exact (hw).setCell (p:=⟨b,0,none⟩) hB _
 obtain ⟨W1,e1⟩:=exF (W0.setCell ⟨b,1,none⟩ u1)
 have h1 : W1.heap[b]? = some (.cells #[u0,u1,x2,x3,x4,x5,x6,x7] t):=by rw [e1]; exact heap_setCell_same W0 b 1 _ t u1 h0
 have k1 : KeepX t w W1:=by rw [e1]; exact KeepX.trans k0 (KeepX.setCell (p:=⟨b,1,none⟩) h0 u1)
 have b1 : ∀ (B : Nat) (w0 : World),B ≤ b→Below B w0 w→Below B w0 W1:=fun B w0 hB hw=>by rw [e1]; exact (b0 B w0 hB hw).setCell (p:=⟨b,1,none⟩) hB _
 obtain ⟨W2,e2⟩:=exF (W1.setCell ⟨b,2,none⟩ u2)
 have h2 : W2.heap[b]? = some (.cells #[u0,u1,u2,x3,x4,x5,x6,x7] t):=by rw [e2]; exact heap_setCell_same W1 b 2 _ t u2 h1
 have k2 : KeepX t w W2:=by rw [e2]; exact KeepX.trans k1 (KeepX.setCell (p:=⟨b,2,none⟩) h1 u2)
 have b2 : ∀ (B : Nat) (w0 : World),B ≤ b→Below B w0 w→Below B w0 W2:=fun B w0 hB hw=>by rw [e2]; exact (b1 B w0 hB hw).setCell (p:=⟨b,2,none⟩) hB _
 obtain ⟨W3,e3⟩:=exF (W2.setCell ⟨b,3,none⟩ u3)
 have h3 : W3.heap[b]? = some (.cells #[u0,u1,u2,u3,x4,x5,x6,x7] t):=by rw [e3]; exact heap_setCell_same W2 b 3 _ t u3 h2
 have k3 : KeepX t w W3:=by rw [e3]; exact KeepX.trans k2 (KeepX.setCell (p:=⟨b,3,none⟩) h2 u3)
 have b3 : ∀ (B : Nat) (w0 : World),B ≤ b→Below B w0 w→Below B w0 W3:=fun B w0 hB hw=>by rw [e3]; exact (b2 B w0 hB hw).setCell (p:=⟨b,3,none⟩) hB _
 obtain ⟨W4,e4⟩:=exF (W3.setCell ⟨b,4,none⟩ u4)
 have h4 : W4.heap[b]? = some (.cells #[u0,u1,u2,u3,u4,x5,x6,x7] t):=by rw [e4]; exact heap_setCell_same W3 b 4 _ t u4 h3
 have k4 : KeepX t w W4:=by rw [e4]; exact KeepX.trans k3 (KeepX.setCell (p:=⟨b,4,none⟩) h3 u4)
 have b4 : ∀ (B : Nat) (w0 : World),B ≤ b→Below B w0 w→Below B w0 W4:=fun B w0 hB hw=>by rw [e4]; exact (b3 B w0 hB hw).setCell (p:=⟨b,4,none⟩) hB _
 obtain ⟨W5,e5⟩:=exF (W4.setCell ⟨b,5,none⟩ u5)
 have h5 : W5.heap[b]? = some (.cells #[u0,u1,u2,u3,u4,u5,x6,x7] t):=by rw [e5]; exact heap_setCell_same W4 b 5 _ t u5 h4
 have k5 : KeepX t w W5:=by rw [e5]; exact KeepX.trans k4 (KeepX.setCell (p:=⟨b,5,none⟩) h4 u5)
 have b5 : ∀ (B : Nat) (w0 : World),B ≤ b→Below B w0 w→Below B w0 W5:=fun B w0 hB hw=>by rw [e5]; exact (b4 B w0 hB hw).setCell (p:=⟨b,5,none⟩) hB _
 obtain ⟨W6,e6⟩:=exF (W5.setCell ⟨b,6,none⟩ u6)
 have h6 : W6.heap[b]? = some (.cells #[u0,u1,u2,u3,u4,u5,u6,x7] t):=by rw [e6]; exact heap_setCell_same W5 b 6 _ t u6 h5
 have k6 : KeepX t w W6:=by rw [e6]; exact KeepX.trans k5 (KeepX.setCell (p:=⟨b,6,none⟩) h5 u6)
 have b6 : ∀ (B : Nat) (w0 : World),B ≤ b→Below B w0 w→Below B w0 W6:=fun B w0 hB hw=>by rw [e6]; exact (b5 B w0 hB hw).setCell (p:=⟨b,6,none⟩) hB _
 obtain ⟨W7,e7⟩:=exF (W6.setCell ⟨b,7,none⟩ u7)
 have h7 : W7.heap[b]? = some (.cells #[u0,u1,u2,u3,u4,u5,u6,u7] t):=by rw [e7]; exact heap_setCell_same W6 b 7 _ t u7 h6
 have k7 : KeepX t w W7:=by rw [e7]; exact KeepX.trans k6 (KeepX.setCell (p:=⟨b,7,none⟩) h6 u7)
 have b7 : ∀ (B : Nat) (w0 : World),B ≤ b→Below B w0 w→Below B w0 W7:=fun B w0 hB hw=>by rw [e7]; exact (b6 B w0 hB hw).setCell (p:=⟨b,7,none⟩) hB _
 exact k W7 (by rw [e7,e6,e5,e4,e3,e2,e1,e0]) b7 k7 h7 (box_cell h7 rfl) (box_cell h7 rfl) (box_cell h7 rfl) (box_cell h7 rfl) (box_cell h7 rfl) (box_cell h7 rfl) (box_cell h7 rfl) (box_cell h7 rfl)
end Go.Proofs.YtmikofeildnpdaaGreat

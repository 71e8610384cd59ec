/- Texts of this claim, put together: QT SE RA. -/
import Derived.Test.YtmikofeildnpdaaGreatKYp
import Derived.Test.YtmikofeildnpdaaGreatKYr
import Derived.Test.YtmikofeildnpdaaGreatKYo
import Derived.Test.YtmikofeildnpdaaGreatKYh
import Derived.Test.YtmikofeildnpdaaGreatKYj
import Derived.Test.YtmikofeildnpdaaGreatKYl
import Derived.Test.YtmikofeildnpdaaGreatKYe

set_option maxRecDepth 100000
set_option maxHeartbeats 12800000
/- Renamed tasks: plain. -/
namespace Go.Proofs.YtmikofeildnpdaaGreat
def cmpC (c c':Cs):Int:=cmpL c.1 c'.1
theorem weakC:WeakO cmpC:=⟨fun _ _ h=>cmpL_asymm _ _ h,fun _ _ _ h k=>cmpL_ntrans _ _ _ h k⟩
def mvAll (a:List Int) (l:List (List Int)):List (List Int):=srtB cmpL [] (l.map (movedL a))
def renC (a:List Int) (c:Cs):Cs:=(movedL a c.1,mvAll a c.2.1,mvAll a c.2.2)
def renT (a:List Int) (cs:List Cs):List Cs:=srtB cmpC csNil (cs.map (renC a))
theorem mvAll_len (a:List Int) (l:List (List Int)):(mvAll a l).length=l.length:=by rw [mvAll,srtB_len weakL,List.length_map]
theorem renT_len (a:List Int) (cs:List Cs):(renT a cs).length=cs.length:=by rw [renT,srtB_len weakC,List.length_map]
theorem mvAll_of {a:List Int} {l m:List (List Int)} (hp:m.Perm (l.map (movedL a))) (hs:SrtG cmpL m):m=mvAll a l:=srtB_uniq weakL hp hs fun _ _ _ _ h1 h2=>cmpL_anti h1 h2
theorem getD_mem {α:Type} {l:List α} {d:α} {k:Nat} (h:k < l.length):l.getD k d∈l:=by rw [getD_eq h]; exact List.getElem_mem h
theorem asc_adj {l:List (List Int)}:(∀ k,k+1 < l.length→cmpL (l.getD k []) (l.getD (k+1) []) < 0)→AscL l:=by
 induction l with
 | nil=>exact fun _=>List.Pairwise.nil
 | cons x l ih=>
  intro h
  have hl:AscL l:=ih fun k hk=>by have:=h (k+1) (by simpa using hk); simpa using this
  refine List.pairwise_cons.2 ⟨fun y hy=>?_,hl⟩
  cases l with
  | nil=>cases hy
  | cons z l=>
   have h0:cmpL x z < 0:=by have:=h 0 (by simp); simpa using this
   rcases List.mem_cons.1 hy with rfl | hy
   ·exact h0
   ·exact cmpL_trans _ _ _ h0 ((List.pairwise_cons.1 hl).1 y hy)
structure TskOK (n:Nat) (ins outs:Int) (cs:List Cs):Prop where
 n1:1≤n
 n5:n≤5
 asc:AscL (cs.map fun c=>c.1)
 len:∀ c∈cs,c.1.length=n∧(∀ v∈c.2.1,v.length=n)∧∀ v∈c.2.2,v.length=n
 short:1≤cs.length∧cs.length≤1024
 outs:∀ c∈cs,c.2.1.length≤1024
theorem vecE_len {v:List Int} {n most:Int} (h:vecE v n most=0):(v.length:Int)=n:=by
 unfold vecE at h
 by_cases e:(v.length:Int)=n
 ·exact e
 ·rw [if_pos e] at h; cases h
theorem TskOK.of {n:Nat} {ins outs:Int} {cs:List Cs} (h:chkT (n:Int) ins outs cs=0):TskOK n ins outs cs:=by
 unfold chkT at h
 split at h
 ·cases h
 next h1=>
 split at h
 ·cases h
 next h2=>
 have hf:=(firstE_zero _ _).1 h
 have hcase:∀ k,k < cs.length→vecE (cs.getD k csNil).1 (n:Int) ins=0∧(0 < k→cmpL (cs.getD (k - 1) csNil).1 (cs.getD k csNil).1 < 0)∧outsE (n:Int) outs (cs.getD k csNil)=0:=by
  intro k hk
  have e:=hf k (Nat.zero_le _) (by omega)
  unfold caseE at e
  split at e
  ·rename_i e1; exact absurd e e1
  next e1=>
  split at e
  ·cases e
  next e2=>exact ⟨Decidable.not_not.1 e1,fun h0=>by by_cases h:cmpL (cs.getD (k - 1) csNil).1 (cs.getD k csNil).1 < 0; exact h; exact absurd ⟨h0,by omega⟩ e2,e⟩
 have houts:∀ c∈cs,c.2.1.length≤1024∧(∀ v∈c.2.1,v.length=n)∧∀ v∈c.2.2,v∈c.2.1:=by
  intro c hc
  obtain ⟨k,hk,rfl⟩:=List.mem_iff_getElem.1 hc
  have e:=(hcase k hk).2.2
  rw [getD_eq hk] at e
  unfold outsE at e
  split at e
  ·cases e
  next e1=>
  split at e
  ·rename_i e2; exact absurd e e2
  next e2=>
  refine ⟨by omega,fun v hv=>?_,fun v hv=>?_⟩
  ·obtain ⟨j,hj,rfl⟩:=List.mem_iff_getElem.1 hv
   have:=(firstE_zero _ _).1 (Decidable.not_not.1 e2) j (Nat.zero_le _) (by omega)
   unfold outE at this
   split at this
   ·rename_i e3; exact absurd this e3
   next e3=>
   have:=vecE_len (Decidable.not_not.1 e3)
   rw [getD_eq hj] at this
   omega
  ·obtain ⟨j,hj,rfl⟩:=List.mem_iff_getElem.1 hv
   have:=(firstE_zero _ _).1 e j (Nat.zero_le _) (by omega)
   unfold calmE at this
   split at this
   ·cases this
   next e3=>rw [getD_eq hj] at e3; exact Decidable.not_not.1 e3
 refine ⟨by omega,by omega,?_,?_,by omega,fun c hc=>(houts c hc).1⟩
 ·refine asc_adj fun k hk=>?_
  rw [List.length_map] at hk
  have:=(hcase (k+1) hk).2.1 (by omega)
  rw [Nat.add_sub_cancel,getD_eq hk,getD_eq (show k < cs.length by omega)] at this
  rw [getD_eq (by rw [List.length_map]; omega),getD_eq (by rw [List.length_map]; exact hk),List.getElem_map,List.getElem_map]
  exact this
 ·intro c hc
  refine ⟨?_,(houts c hc).2.1,fun v hv=>(houts c hc).2.1 v ((houts c hc).2.2 v hv)⟩
  obtain ⟨k,hk,rfl⟩:=List.mem_iff_getElem.1 hc
  have:=vecE_len (hcase k hk).1
  rw [getD_eq hk] at this
  omega
theorem moved_inj {n:Nat} {a v w:List Int} (ha:IsP n a) (hv:v.length=n) (hw:w.length=n) (h:movedL a v=movedL a w):v=w:=by rw [← times_moved ha hv,h,times_moved ha hw]
theorem renC_anti {n:Nat} {ins outs:Int} {cs:List Cs} (h:TskOK n ins outs cs) {a:List Int} (ha:IsP n a):∀ x∈cs.map (renC a),∀ y∈cs.map (renC a),¬ cmpC x y < 0→¬ cmpC y x < 0→x=y:=fun x hx y hy h2 h3=>by
 obtain ⟨c,hc,rfl⟩:=List.mem_map.1 hx
 obtain ⟨c',hc',rfl⟩:=List.mem_map.1 hy
 have e:=moved_inj ha (h.len c hc).1 (h.len c' hc').1 (cmpL_anti h2 h3)
 obtain ⟨i,hi,rfl⟩:=List.mem_iff_getElem.1 hc
 obtain ⟨j,hj,rfl⟩:=List.mem_iff_getElem.1 hc'
 have hA:=h.asc
 rw [AscL,List.pairwise_iff_getElem] at hA
 have key:∀ i j (hi:i < cs.length) (hj:j < cs.length),i < j→cs[i].1=cs[j].1→False:=fun i j hi hj hij e=>by
  have:=hA i j (by rw [List.length_map]; exact hi) (by rw [List.length_map]; exact hj) hij
  rw [List.getElem_map,List.getElem_map,e,cmpL_self] at this
  omega
 rcases Nat.lt_trichotomy i j with hlt | hlt | hlt
 ·exact (key i j hi hj hlt e).elim
 ·subst hlt; rfl
 ·exact (key j i hj hi hlt e.symm).elim
theorem renT_of {n:Nat} {ins outs:Int} {cs m:List Cs} (h:TskOK n ins outs cs) {a:List Int} (ha:IsP n a) (hp:m.Perm (cs.map (renC a))) (hs:SrtG cmpC m):m=renT a cs:=srtB_uniq weakC hp hs (renC_anti h ha)
end Go.Proofs.YtmikofeildnpdaaGreat

/- Whole structs stored into boxes. -/
namespace Go.Proofs.YtmikofeildnpdaaGreat
open Go.RowKit
theorem boxL2 {w:World} {b:Nat} {t:TypeId} {u0 u1:Value} (h:w.heap[b]? = some (.cells #[u0,u1] t)) :
  w.cell? ⟨b,0,none⟩=some u0∧w.cell? ⟨b,1,none⟩=some u1:=
 ⟨box_cell h rfl,box_cell h rfl⟩
theorem boxL3 {w:World} {b:Nat} {t:TypeId} {u0 u1 u2:Value} (h:w.heap[b]? = some (.cells #[u0,u1,u2] t)) :
  w.cell? ⟨b,0,none⟩=some u0∧w.cell? ⟨b,1,none⟩=some u1∧w.cell? ⟨b,2,none⟩=some u2:=
 ⟨box_cell h rfl,box_cell h rfl,box_cell h rfl⟩
theorem boxL4 {w:World} {b:Nat} {t:TypeId} {u0 u1 u2 u3:Value} (h:w.heap[b]? = some (.cells #[u0,u1,u2,u3] t)) :
  w.cell? ⟨b,0,none⟩=some u0∧w.cell? ⟨b,1,none⟩=some u1∧w.cell? ⟨b,2,none⟩=some u2∧w.cell? ⟨b,3,none⟩=some u3:=
 ⟨box_cell h rfl,box_cell h rfl,box_cell h rfl,box_cell h rfl⟩
theorem boxL6 {w:World} {b:Nat} {t:TypeId} {u0 u1 u2 u3 u4 u5:Value} (h:w.heap[b]? = some (.cells #[u0,u1,u2,u3,u4,u5] t)) :
  w.cell? ⟨b,0,none⟩=some u0∧w.cell? ⟨b,1,none⟩=some u1∧w.cell? ⟨b,2,none⟩=some u2∧w.cell? ⟨b,3,none⟩=some u3∧w.cell? ⟨b,4,none⟩=some u4∧w.cell? ⟨b,5,none⟩=some u5:=
 ⟨box_cell h rfl,box_cell h rfl,box_cell h rfl,box_cell h rfl,box_cell h rfl,box_cell h rfl⟩
theorem boxL7 {w:World} {b:Nat} {t:TypeId} {u0 u1 u2 u3 u4 u5 u6:Value} (h:w.heap[b]? = some (.cells #[u0,u1,u2,u3,u4,u5,u6] t)) :
  w.cell? ⟨b,0,none⟩=some u0∧w.cell? ⟨b,1,none⟩=some u1∧w.cell? ⟨b,2,none⟩=some u2∧w.cell? ⟨b,3,none⟩=some u3∧w.cell? ⟨b,4,none⟩=some u4∧w.cell? ⟨b,5,none⟩=some u5∧w.cell? ⟨b,6,none⟩=some u6:=
 ⟨box_cell h rfl,box_cell h rfl,box_cell h rfl,box_cell h rfl,box_cell h rfl,box_cell h rfl,box_cell h rfl⟩
theorem boxL8 {w:World} {b:Nat} {t:TypeId} {u0 u1 u2 u3 u4 u5 u6 u7:Value} (h:w.heap[b]? = some (.cells #[u0,u1,u2,u3,u4,u5,u6,u7] t)) :
  w.cell? ⟨b,0,none⟩=some u0∧w.cell? ⟨b,1,none⟩=some u1∧w.cell? ⟨b,2,none⟩=some u2∧w.cell? ⟨b,3,none⟩=some u3∧w.cell? ⟨b,4,none⟩=some u4∧w.cell? ⟨b,5,none⟩=some u5∧w.cell? ⟨b,6,none⟩=some u6∧w.cell? ⟨b,7,none⟩=some u7:=
 ⟨box_cell h rfl,box_cell h rfl,box_cell h rfl,box_cell h rfl,box_cell h rfl,box_cell h rfl,box_cell h rfl,box_cell h rfl⟩
theorem boxL9 {w:World} {b:Nat} {t:TypeId} {u0 u1 u2 u3 u4 u5 u6 u7 u8:Value} (h:w.heap[b]? = some (.cells #[u0,u1,u2,u3,u4,u5,u6,u7,u8] t)) :
  w.cell? ⟨b,0,none⟩=some u0∧w.cell? ⟨b,1,none⟩=some u1∧w.cell? ⟨b,2,none⟩=some u2∧w.cell? ⟨b,3,none⟩=some u3∧w.cell? ⟨b,4,none⟩=some u4∧w.cell? ⟨b,5,none⟩=some u5∧w.cell? ⟨b,6,none⟩=some u6∧w.cell? ⟨b,7,none⟩=some u7∧w.cell? ⟨b,8,none⟩=some u8:=
 ⟨box_cell h rfl,box_cell h rfl,box_cell h rfl,box_cell h rfl,box_cell h rfl,box_cell h rfl,box_cell h rfl,box_cell h rfl,box_cell h rfl⟩
theorem freeL2 {w:World} {b:Nat} {t:TypeId} {cs:Array Value} (h:w.heap[b]? = some (.cells cs t)):w.frozen? ⟨b,0,none⟩=false∧w.frozen? ⟨b,1,none⟩=false:=by
 simp [World.frozen?,h]
theorem freeL3 {w:World} {b:Nat} {t:TypeId} {cs:Array Value} (h:w.heap[b]? = some (.cells cs t)):w.frozen? ⟨b,0,none⟩=false∧w.frozen? ⟨b,1,none⟩=false∧w.frozen? ⟨b,2,none⟩=false:=by
 simp [World.frozen?,h]
theorem freeL4 {w:World} {b:Nat} {t:TypeId} {cs:Array Value} (h:w.heap[b]? = some (.cells cs t)):w.frozen? ⟨b,0,none⟩=false∧w.frozen? ⟨b,1,none⟩=false∧w.frozen? ⟨b,2,none⟩=false∧w.frozen? ⟨b,3,none⟩=false:=by
 simp [World.frozen?,h]
theorem freeL6 {w:World} {b:Nat} {t:TypeId} {cs:Array Value} (h:w.heap[b]? = some (.cells cs t)):w.frozen? ⟨b,0,none⟩=false∧w.frozen? ⟨b,1,none⟩=false∧w.frozen? ⟨b,2,none⟩=false∧w.frozen? ⟨b,3,none⟩=false∧w.frozen? ⟨b,4,none⟩=false∧w.frozen? ⟨b,5,none⟩=false:=by
 simp [World.frozen?,h]
theorem freeL7 {w:World} {b:Nat} {t:TypeId} {cs:Array Value} (h:w.heap[b]? = some (.cells cs t)):w.frozen? ⟨b,0,none⟩=false∧w.frozen? ⟨b,1,none⟩=false∧w.frozen? ⟨b,2,none⟩=false∧w.frozen? ⟨b,3,none⟩=false∧w.frozen? ⟨b,4,none⟩=false∧w.frozen? ⟨b,5,none⟩=false∧w.frozen? ⟨b,6,none⟩=false:=by
 simp [World.frozen?,h]
theorem freeL8 {w:World} {b:Nat} {t:TypeId} {cs:Array Value} (h:w.heap[b]? = some (.cells cs t)):w.frozen? ⟨b,0,none⟩=false∧w.frozen? ⟨b,1,none⟩=false∧w.frozen? ⟨b,2,none⟩=false∧w.frozen? ⟨b,3,none⟩=false∧w.frozen? ⟨b,4,none⟩=false∧w.frozen? ⟨b,5,none⟩=false∧w.frozen? ⟨b,6,none⟩=false∧w.frozen? ⟨b,7,none⟩=false:=by
 simp [World.frozen?,h]
theorem storeEnd3 {w:World} {b:Nat} {t:TypeId} {x0 x1 x2 u0 u1 u2:Value} {G:Prop} (h:w.heap[b]? = some (.cells #[x0,x1,x2] t))
  (k:∀ W,W=(((w.setCell ⟨b,0,none⟩ u0).setCell ⟨b,1,none⟩ u1).setCell ⟨b,2,none⟩ u2)→(∀ (B:Nat) (w0:World),B≤b→Below B w0 w→Below B w0 W)→KeepX t w W→W.heap[b]? = some (.cells #[u0,u1,u2] t)→
   W.cell? ⟨b,0,none⟩=some u0→W.cell? ⟨b,1,none⟩=some u1→W.cell? ⟨b,2,none⟩=some u2→G):G:=by
 obtain ⟨W0,e0⟩:=exF (w.setCell ⟨b,0,none⟩ u0)
 have h0:W0.heap[b]? = some (.cells #[u0,x1,x2] t):=by rw [e0]; exact heap_setCell_same w b 0 _ t u0 h
 have k0:KeepX t w W0:=by rw [e0]; exact KeepX.trans (KeepX.refl t w) (KeepX.setCell (p:=⟨b,0,none⟩) h u0)
 have b0:∀ (B:Nat) (w0:World),B≤b→Below B w0 w→Below B w0 W0:=fun B w0 hB hw=>by rw [e0]; exact (hw).setCell (p:=⟨b,0,none⟩) hB _
 obtain ⟨W1,e1⟩:=exF (W0.setCell ⟨b,1,none⟩ u1)
 have h1:W1.heap[b]? = some (.cells #[u0,u1,x2] t):=by rw [e1]; exact heap_setCell_same W0 b 1 _ t u1 h0
 have k1:KeepX t w W1:=by rw [e1]; exact KeepX.trans k0 (KeepX.setCell (p:=⟨b,1,none⟩) h0 u1)
 have b1:∀ (B:Nat) (w0:World),B≤b→Below B w0 w→Below B w0 W1:=fun B w0 hB hw=>by rw [e1]; exact (b0 B w0 hB hw).setCell (p:=⟨b,1,none⟩) hB _
 obtain ⟨W2,e2⟩:=exF (W1.setCell ⟨b,2,none⟩ u2)
 have h2:W2.heap[b]? = some (.cells #[u0,u1,u2] t):=by rw [e2]; exact heap_setCell_same W1 b 2 _ t u2 h1
 have k2:KeepX t w W2:=by rw [e2]; exact KeepX.trans k1 (KeepX.setCell (p:=⟨b,2,none⟩) h1 u2)
 have b2:∀ (B:Nat) (w0:World),B≤b→Below B w0 w→Below B w0 W2:=fun B w0 hB hw=>by rw [e2]; exact (b1 B w0 hB hw).setCell (p:=⟨b,2,none⟩) hB _
 exact k W2 (by rw [e2,e1,e0]) b2 k2 h2 (box_cell h2 rfl) (box_cell h2 rfl) (box_cell h2 rfl)
theorem storeEnd4 {w:World} {b:Nat} {t:TypeId} {x0 x1 x2 x3 u0 u1 u2 u3:Value} {G:Prop} (h:w.heap[b]? = some (.cells #[x0,x1,x2,x3] t))
  (k:∀ W,W=((((w.setCell ⟨b,0,none⟩ u0).setCell ⟨b,1,none⟩ u1).setCell ⟨b,2,none⟩ u2).setCell ⟨b,3,none⟩ u3)→(∀ (B:Nat) (w0:World),B≤b→Below B w0 w→Below B w0 W)→KeepX t w W→W.heap[b]? = some (.cells #[u0,u1,u2,u3] t)→
   W.cell? ⟨b,0,none⟩=some u0→W.cell? ⟨b,1,none⟩=some u1→W.cell? ⟨b,2,none⟩=some u2→W.cell? ⟨b,3,none⟩=some u3→G):G:=by
 obtain ⟨W0,e0⟩:=exF (w.setCell ⟨b,0,none⟩ u0)
 have h0:W0.heap[b]? = some (.cells #[u0,x1,x2,x3] t):=by rw [e0]; exact heap_setCell_same w b 0 _ t u0 h
 have k0:KeepX t w W0:=by rw [e0]; exact KeepX.trans (KeepX.refl t w) (KeepX.setCell (p:=⟨b,0,none⟩) h u0)
 have b0:∀ (B:Nat) (w0:World),B≤b→Below B w0 w→Below B w0 W0:=fun B w0 hB hw=>by rw [e0]; exact (hw).setCell (p:=⟨b,0,none⟩) hB _
 obtain ⟨W1,e1⟩:=exF (W0.setCell ⟨b,1,none⟩ u1)
 have h1:W1.heap[b]? = some (.cells #[u0,u1,x2,x3] t):=by rw [e1]; exact heap_setCell_same W0 b 1 _ t u1 h0
 have k1:KeepX t w W1:=by rw [e1]; exact KeepX.trans k0 (KeepX.setCell (p:=⟨b,1,none⟩) h0 u1)
 have b1:∀ (B:Nat) (w0:World),B≤b→Below B w0 w→Below B w0 W1:=fun B w0 hB hw=>by rw [e1]; exact (b0 B w0 hB hw).setCell (p:=⟨b,1,none⟩) hB _
 obtain ⟨W2,e2⟩:=exF (W1.setCell ⟨b,2,none⟩ u2)
 have h2:W2.heap[b]? = some (.cells #[u0,u1,u2,x3] t):=by rw [e2]; exact heap_setCell_same W1 b 2 _ t u2 h1
 have k2:KeepX t w W2:=by rw [e2]; exact KeepX.trans k1 (KeepX.setCell (p:=⟨b,2,none⟩) h1 u2)
 have b2:∀ (B:Nat) (w0:World),B≤b→Below B w0 w→Below B w0 W2:=fun B w0 hB hw=>by rw [e2]; exact (b1 B w0 hB hw).setCell (p:=⟨b,2,none⟩) hB _
 obtain ⟨W3,e3⟩:=exF (W2.setCell ⟨b,3,none⟩ u3)
 have h3:W3.heap[b]? = some (.cells #[u0,u1,u2,u3] t):=by rw [e3]; exact heap_setCell_same W2 b 3 _ t u3 h2
 have k3:KeepX t w W3:=by rw [e3]; exact KeepX.trans k2 (KeepX.setCell (p:=⟨b,3,none⟩) h2 u3)
 have b3:∀ (B:Nat) (w0:World),B≤b→Below B w0 w→Below B w0 W3:=fun B w0 hB hw=>by rw [e3]; exact (b2 B w0 hB hw).setCell (p:=⟨b,3,none⟩) hB _
 exact k W3 (by rw [e3,e2,e1,e0]) b3 k3 h3 (box_cell h3 rfl) (box_cell h3 rfl) (box_cell h3 rfl) (box_cell h3 rfl)
theorem storeEnd6 {w:World} {b:Nat} {t:TypeId} {x0 x1 x2 x3 x4 x5 u0 u1 u2 u3 u4 u5:Value} {G:Prop} (h:w.heap[b]? = some (.cells #[x0,x1,x2,x3,x4,x5] t))
  (k:∀ W,W=((((((w.setCell ⟨b,0,none⟩ u0).setCell ⟨b,1,none⟩ u1).setCell ⟨b,2,none⟩ u2).setCell ⟨b,3,none⟩ u3).setCell ⟨b,4,none⟩ u4).setCell ⟨b,5,none⟩ u5)→(∀ (B:Nat) (w0:World),B≤b→Below B w0 w→Below B w0 W)→KeepX t w W→W.heap[b]? = some (.cells #[u0,u1,u2,u3,u4,u5] t)→
   W.cell? ⟨b,0,none⟩=some u0→W.cell? ⟨b,1,none⟩=some u1→W.cell? ⟨b,2,none⟩=some u2→W.cell? ⟨b,3,none⟩=some u3→W.cell? ⟨b,4,none⟩=some u4→W.cell? ⟨b,5,none⟩=some u5→G):G:=by
 obtain ⟨W0,e0⟩:=exF (w.setCell ⟨b,0,none⟩ u0)
 have h0:W0.heap[b]? = some (.cells #[u0,x1,x2,x3,x4,x5] t):=by rw [e0]; exact heap_setCell_same w b 0 _ t u0 h
 have k0:KeepX t w W0:=by rw [e0]; exact KeepX.trans (KeepX.refl t w) (KeepX.setCell (p:=⟨b,0,none⟩) h u0)
 have b0:∀ (B:Nat) (w0:World),B≤b→Below B w0 w→Below B w0 W0:=fun B w0 hB hw=>by rw [e0]; exact (hw).setCell (p:=⟨b,0,none⟩) hB _
 obtain ⟨W1,e1⟩:=exF (W0.setCell ⟨b,1,none⟩ u1)
 have h1:W1.heap[b]? = some (.cells #[u0,u1,x2,x3,x4,x5] t):=by rw [e1]; exact heap_setCell_same W0 b 1 _ t u1 h0
 have k1:KeepX t w W1:=by rw [e1]; exact KeepX.trans k0 (KeepX.setCell (p:=⟨b,1,none⟩) h0 u1)
 have b1:∀ (B:Nat) (w0:World),B≤b→Below B w0 w→Below B w0 W1:=fun B w0 hB hw=>by rw [e1]; exact (b0 B w0 hB hw).setCell (p:=⟨b,1,none⟩) hB _
 obtain ⟨W2,e2⟩:=exF (W1.setCell ⟨b,2,none⟩ u2)
 have h2:W2.heap[b]? = some (.cells #[u0,u1,u2,x3,x4,x5] t):=by rw [e2]; exact heap_setCell_same W1 b 2 _ t u2 h1
 have k2:KeepX t w W2:=by rw [e2]; exact KeepX.trans k1 (KeepX.setCell (p:=⟨b,2,none⟩) h1 u2)
 have b2:∀ (B:Nat) (w0:World),B≤b→Below B w0 w→Below B w0 W2:=fun B w0 hB hw=>by rw [e2]; exact (b1 B w0 hB hw).setCell (p:=⟨b,2,none⟩) hB _
 obtain ⟨W3,e3⟩:=exF (W2.setCell ⟨b,3,none⟩ u3)
 have h3:W3.heap[b]? = some (.cells #[u0,u1,u2,u3,x4,x5] t):=by rw [e3]; exact heap_setCell_same W2 b 3 _ t u3 h2
 have k3:KeepX t w W3:=by rw [e3]; exact KeepX.trans k2 (KeepX.setCell (p:=⟨b,3,none⟩) h2 u3)
 have b3:∀ (B:Nat) (w0:World),B≤b→Below B w0 w→Below B w0 W3:=fun B w0 hB hw=>by rw [e3]; exact (b2 B w0 hB hw).setCell (p:=⟨b,3,none⟩) hB _
 obtain ⟨W4,e4⟩:=exF (W3.setCell ⟨b,4,none⟩ u4)
 have h4:W4.heap[b]? = some (.cells #[u0,u1,u2,u3,u4,x5] t):=by rw [e4]; exact heap_setCell_same W3 b 4 _ t u4 h3
 have k4:KeepX t w W4:=by rw [e4]; exact KeepX.trans k3 (KeepX.setCell (p:=⟨b,4,none⟩) h3 u4)
 have b4:∀ (B:Nat) (w0:World),B≤b→Below B w0 w→Below B w0 W4:=fun B w0 hB hw=>by rw [e4]; exact (b3 B w0 hB hw).setCell (p:=⟨b,4,none⟩) hB _
 obtain ⟨W5,e5⟩:=exF (W4.setCell ⟨b,5,none⟩ u5)
 have h5:W5.heap[b]? = some (.cells #[u0,u1,u2,u3,u4,u5] t):=by rw [e5]; exact heap_setCell_same W4 b 5 _ t u5 h4
 have k5:KeepX t w W5:=by rw [e5]; exact KeepX.trans k4 (KeepX.setCell (p:=⟨b,5,none⟩) h4 u5)
 have b5:∀ (B:Nat) (w0:World),B≤b→Below B w0 w→Below B w0 W5:=fun B w0 hB hw=>by rw [e5]; exact (b4 B w0 hB hw).setCell (p:=⟨b,5,none⟩) hB _
 exact k W5 (by rw [e5,e4,e3,e2,e1,e0]) b5 k5 h5 (box_cell h5 rfl) (box_cell h5 rfl) (box_cell h5 rfl) (box_cell h5 rfl) (box_cell h5 rfl) (box_cell h5 rfl)
theorem storeEnd7 {w:World} {b:Nat} {t:TypeId} {x0 x1 x2 x3 x4 x5 x6 u0 u1 u2 u3 u4 u5 u6:Value} {G:Prop} (h:w.heap[b]? = some (.cells #[x0,x1,x2,x3,x4,x5,x6] t))
  (k:∀ W,W=(((((((w.setCell ⟨b,0,none⟩ u0).setCell ⟨b,1,none⟩ u1).setCell ⟨b,2,none⟩ u2).setCell ⟨b,3,none⟩ u3).setCell ⟨b,4,none⟩ u4).setCell ⟨b,5,none⟩ u5).setCell ⟨b,6,none⟩ u6)→(∀ (B:Nat) (w0:World),B≤b→Below B w0 w→Below B w0 W)→KeepX t w W→W.heap[b]? = some (.cells #[u0,u1,u2,u3,u4,u5,u6] t)→
   W.cell? ⟨b,0,none⟩=some u0→W.cell? ⟨b,1,none⟩=some u1→W.cell? ⟨b,2,none⟩=some u2→W.cell? ⟨b,3,none⟩=some u3→W.cell? ⟨b,4,none⟩=some u4→W.cell? ⟨b,5,none⟩=some u5→W.cell? ⟨b,6,none⟩=some u6→G):G:=by
 obtain ⟨W0,e0⟩:=exF (w.setCell ⟨b,0,none⟩ u0)
 have h0:W0.heap[b]? = some (.cells #[u0,x1,x2,x3,x4,x5,x6] t):=by rw [e0]; exact heap_setCell_same w b 0 _ t u0 h
 have k0:KeepX t w W0:=by rw [e0]; exact KeepX.trans (KeepX.refl t w) (KeepX.setCell (p:=⟨b,0,none⟩) h u0)
 have b0:∀ (B:Nat) (w0:World),B≤b→Below B w0 w→Below B w0 W0:=fun B w0 hB hw=>by rw [e0]; exact (hw).setCell (p:=⟨b,0,none⟩) hB _
 obtain ⟨W1,e1⟩:=exF (W0.setCell ⟨b,1,none⟩ u1)
 have h1:W1.heap[b]? = some (.cells #[u0,u1,x2,x3,x4,x5,x6] t):=by rw [e1]; exact heap_setCell_same W0 b 1 _ t u1 h0
 have k1:KeepX t w W1:=by rw [e1]; exact KeepX.trans k0 (KeepX.setCell (p:=⟨b,1,none⟩) h0 u1)
 have b1:∀ (B:Nat) (w0:World),B≤b→Below B w0 w→Below B w0 W1:=fun B w0 hB hw=>by rw [e1]; exact (b0 B w0 hB hw).setCell (p:=⟨b,1,none⟩) hB _
 obtain ⟨W2,e2⟩:=exF (W1.setCell ⟨b,2,none⟩ u2)
 have h2:W2.heap[b]? = some (.cells #[u0,u1,u2,x3,x4,x5,x6] t):=by rw [e2]; exact heap_setCell_same W1 b 2 _ t u2 h1
 have k2:KeepX t w W2:=by rw [e2]; exact KeepX.trans k1 (KeepX.setCell (p:=⟨b,2,none⟩) h1 u2)
 have b2:∀ (B:Nat) (w0:World),B≤b→Below B w0 w→Below B w0 W2:=fun B w0 hB hw=>by rw [e2]; exact (b1 B w0 hB hw).setCell (p:=⟨b,2,none⟩) hB _
 obtain ⟨W3,e3⟩:=exF (W2.setCell ⟨b,3,none⟩ u3)
 have h3:W3.heap[b]? = some (.cells #[u0,u1,u2,u3,x4,x5,x6] t):=by rw [e3]; exact heap_setCell_same W2 b 3 _ t u3 h2
 have k3:KeepX t w W3:=by rw [e3]; exact KeepX.trans k2 (KeepX.setCell (p:=⟨b,3,none⟩) h2 u3)
 have b3:∀ (B:Nat) (w0:World),B≤b→Below B w0 w→Below B w0 W3:=fun B w0 hB hw=>by rw [e3]; exact (b2 B w0 hB hw).setCell (p:=⟨b,3,none⟩) hB _
 obtain ⟨W4,e4⟩:=exF (W3.setCell ⟨b,4,none⟩ u4)
 have h4:W4.heap[b]? = some (.cells #[u0,u1,u2,u3,u4,x5,x6] t):=by rw [e4]; exact heap_setCell_same W3 b 4 _ t u4 h3
 have k4:KeepX t w W4:=by rw [e4]; exact KeepX.trans k3 (KeepX.setCell (p:=⟨b,4,none⟩) h3 u4)
 have b4:∀ (B:Nat) (w0:World),B≤b→Below B w0 w→Below B w0 W4:=fun B w0 hB hw=>by rw [e4]; exact (b3 B w0 hB hw).setCell (p:=⟨b,4,none⟩) hB _
 obtain ⟨W5,e5⟩:=exF (W4.setCell ⟨b,5,none⟩ u5)
 have h5:W5.heap[b]? = some (.cells #[u0,u1,u2,u3,u4,u5,x6] t):=by rw [e5]; exact heap_setCell_same W4 b 5 _ t u5 h4
 have k5:KeepX t w W5:=by rw [e5]; exact KeepX.trans k4 (KeepX.setCell (p:=⟨b,5,none⟩) h4 u5)
 have b5:∀ (B:Nat) (w0:World),B≤b→Below B w0 w→Below B w0 W5:=fun B w0 hB hw=>by rw [e5]; exact (b4 B w0 hB hw).setCell (p:=⟨b,5,none⟩) hB _
 obtain ⟨W6,e6⟩:=exF (W5.setCell ⟨b,6,none⟩ u6)
 have h6:W6.heap[b]? = some (.cells #[u0,u1,u2,u3,u4,u5,u6] t):=by rw [e6]; exact heap_setCell_same W5 b 6 _ t u6 h5
 have k6:KeepX t w W6:=by rw [e6]; exact KeepX.trans k5 (KeepX.setCell (p:=⟨b,6,none⟩) h5 u6)
 have b6:∀ (B:Nat) (w0:World),B≤b→Below B w0 w→Below B w0 W6:=fun B w0 hB hw=>by rw [e6]; exact (b5 B w0 hB hw).setCell (p:=⟨b,6,none⟩) hB _
 exact k W6 (by rw [e6,e5,e4,e3,e2,e1,e0]) b6 k6 h6 (box_cell h6 rfl) (box_cell h6 rfl) (box_cell h6 rfl) (box_cell h6 rfl) (box_cell h6 rfl) (box_cell h6 rfl) (box_cell h6 rfl)
theorem storeEnd8 {w:World} {b:Nat} {t:TypeId} {x0 x1 x2 x3 x4 x5 x6 x7 u0 u1 u2 u3 u4 u5 u6 u7:Value} {G:Prop} (h:w.heap[b]? = some (.cells #[x0,x1,x2,x3,x4,x5,x6,x7] t))
  (k:∀ W,W=((((((((w.setCell ⟨b,0,none⟩ u0).setCell ⟨b,1,none⟩ u1).setCell ⟨b,2,none⟩ u2).setCell ⟨b,3,none⟩ u3).setCell ⟨b,4,none⟩ u4).setCell ⟨b,5,none⟩ u5).setCell ⟨b,6,none⟩ u6).setCell ⟨b,7,none⟩ u7)→(∀ (B:Nat) (w0:World),B≤b→Below B w0 w→Below B w0 W)→KeepX t w W→W.heap[b]? = some (.cells #[u0,u1,u2,u3,u4,u5,u6,u7] t)→
   W.cell? ⟨b,0,none⟩=some u0→W.cell? ⟨b,1,none⟩=some u1→W.cell? ⟨b,2,none⟩=some u2→W.cell? ⟨b,3,none⟩=some u3→W.cell? ⟨b,4,none⟩=some u4→W.cell? ⟨b,5,none⟩=some u5→W.cell? ⟨b,6,none⟩=some u6→W.cell? ⟨b,7,none⟩=some u7→G):G:=by
 obtain ⟨W0,e0⟩:=exF (w.setCell ⟨b,0,none⟩ u0)
 have h0:W0.heap[b]? = some (.cells #[u0,x1,x2,x3,x4,x5,x6,x7] t):=by rw [e0]; exact heap_setCell_same w b 0 _ t u0 h
 have k0:KeepX t w W0:=by rw [e0]; exact KeepX.trans (KeepX.refl t w) (KeepX.setCell (p:=⟨b,0,none⟩) h u0)
 have b0:∀ (B:Nat) (w0:World),B≤b→Below B w0 w→Below B w0 W0:=fun B w0 hB hw=>by rw [e0]; exact (hw).setCell (p:=⟨b,0,none⟩) hB _
 obtain ⟨W1,e1⟩:=exF (W0.setCell ⟨b,1,none⟩ u1)
 have h1:W1.heap[b]? = some (.cells #[u0,u1,x2,x3,x4,x5,x6,x7] t):=by rw [e1]; exact heap_setCell_same W0 b 1 _ t u1 h0
 have k1:KeepX t w W1:=by rw [e1]; exact KeepX.trans k0 (KeepX.setCell (p:=⟨b,1,none⟩) h0 u1)
 have b1:∀ (B:Nat) (w0:World),B≤b→Below B w0 w→Below B w0 W1:=fun B w0 hB hw=>by rw [e1]; exact (b0 B w0 hB hw).setCell (p:=⟨b,1,none⟩) hB _
 obtain ⟨W2,e2⟩:=exF (W1.setCell ⟨b,2,none⟩ u2)
 have h2:W2.heap[b]? = some (.cells #[u0,u1,u2,x3,x4,x5,x6,x7] t):=by rw [e2]; exact heap_setCell_same W1 b 2 _ t u2 h1
 have k2:KeepX t w W2:=by rw [e2]; exact KeepX.trans k1 (KeepX.setCell (p:=⟨b,2,none⟩) h1 u2)
 have b2:∀ (B:Nat) (w0:World),B≤b→Below B w0 w→Below B w0 W2:=fun B w0 hB hw=>by rw [e2]; exact (b1 B w0 hB hw).setCell (p:=⟨b,2,none⟩) hB _
 obtain ⟨W3,e3⟩:=exF (W2.setCell ⟨b,3,none⟩ u3)
 have h3:W3.heap[b]? = some (.cells #[u0,u1,u2,u3,x4,x5,x6,x7] t):=by rw [e3]; exact heap_setCell_same W2 b 3 _ t u3 h2
 have k3:KeepX t w W3:=by rw [e3]; exact KeepX.trans k2 (KeepX.setCell (p:=⟨b,3,none⟩) h2 u3)
 have b3:∀ (B:Nat) (w0:World),B≤b→Below B w0 w→Below B w0 W3:=fun B w0 hB hw=>by rw [e3]; exact (b2 B w0 hB hw).setCell (p:=⟨b,3,none⟩) hB _
 obtain ⟨W4,e4⟩:=exF (W3.setCell ⟨b,4,none⟩ u4)
 have h4:W4.heap[b]? = some (.cells #[u0,u1,u2,u3,u4,x5,x6,x7] t):=by rw [e4]; exact heap_setCell_same W3 b 4 _ t u4 h3
 have k4:KeepX t w W4:=by rw [e4]; exact KeepX.trans k3 (KeepX.setCell (p:=⟨b,4,none⟩) h3 u4)
 have b4:∀ (B:Nat) (w0:World),B≤b→Below B w0 w→Below B w0 W4:=fun B w0 hB hw=>by rw [e4]; exact (b3 B w0 hB hw).setCell (p:=⟨b,4,none⟩) hB _
 obtain ⟨W5,e5⟩:=exF (W4.setCell ⟨b,5,none⟩ u5)
 have h5:W5.heap[b]? = some (.cells #[u0,u1,u2,u3,u4,u5,x6,x7] t):=by rw [e5]; exact heap_setCell_same W4 b 5 _ t u5 h4
 have k5:KeepX t w W5:=by rw [e5]; exact KeepX.trans k4 (KeepX.setCell (p:=⟨b,5,none⟩) h4 u5)
 have b5:∀ (B:Nat) (w0:World),B≤b→Below B w0 w→Below B w0 W5:=fun B w0 hB hw=>by rw [e5]; exact (b4 B w0 hB hw).setCell (p:=⟨b,5,none⟩) hB _
 obtain ⟨W6,e6⟩:=exF (W5.setCell ⟨b,6,none⟩ u6)
 have h6:W6.heap[b]? = some (.cells #[u0,u1,u2,u3,u4,u5,u6,x7] t):=by rw [e6]; exact heap_setCell_same W5 b 6 _ t u6 h5
 have k6:KeepX t w W6:=by rw [e6]; exact KeepX.trans k5 (KeepX.setCell (p:=⟨b,6,none⟩) h5 u6)
 have b6:∀ (B:Nat) (w0:World),B≤b→Below B w0 w→Below B w0 W6:=fun B w0 hB hw=>by rw [e6]; exact (b5 B w0 hB hw).setCell (p:=⟨b,6,none⟩) hB _
 obtain ⟨W7,e7⟩:=exF (W6.setCell ⟨b,7,none⟩ u7)
 have h7:W7.heap[b]? = some (.cells #[u0,u1,u2,u3,u4,u5,u6,u7] t):=by rw [e7]; exact heap_setCell_same W6 b 7 _ t u7 h6
 have k7:KeepX t w W7:=by rw [e7]; exact KeepX.trans k6 (KeepX.setCell (p:=⟨b,7,none⟩) h6 u7)
 have b7:∀ (B:Nat) (w0:World),B≤b→Below B w0 w→Below B w0 W7:=fun B w0 hB hw=>by rw [e7]; exact (b6 B w0 hB hw).setCell (p:=⟨b,7,none⟩) hB _
 exact k W7 (by rw [e7,e6,e5,e4,e3,e2,e1,e0]) b7 k7 h7 (box_cell h7 rfl) (box_cell h7 rfl) (box_cell h7 rfl) (box_cell h7 rfl) (box_cell h7 rfl) (box_cell h7 rfl) (box_cell h7 rfl) (box_cell h7 rfl)
end Go.Proofs.YtmikofeildnpdaaGreat

/- graph.Permute: its walk, with graph.made. -/
namespace Go.Proofs.YtmikofeildnpdaaGreat
open Go.RowKit
theorem setP_of {n:Nat} {a:List Int} {s:Int} (h1:1≤n) (h5:n≤5) (ha:IsP n a) (h0:0≤s) (hs:s < 2 ^ n):setP a s=imgP a s n∧setE a s=0:=by
 have hz:=chk_of h1 h5 ha
 have hw:wrap64 (2 ^ n)=2 ^ n:=by
  have:n=1∨n=2∨n=3∨n=4∨n=5:=by omega
  rcases this with rfl | rfl | rfl | rfl | rfl <;> decide +kernel
 have he:setE a s=0:=by rw [setE,if_neg (fun h=>h hz),if_neg (by rw [ha.1,hw]; omega)]
 exact ⟨by rw [setP,if_pos he,ha.1],he⟩
theorem permRow {w:World} {bp bg bk n q p:Nat} {a bl:List Int} {u v:Value} {h:Int} (h1:1≤n) (h5:n≤5) (ha:IsP n a) (cp:w.cell? ⟨bp,0,none⟩=some u) (hu:Ints w u a) (ck:w.cell? ⟨bk,0,none⟩=some v) (hv:Ints w v bl)
  (hq:q < bl.length) (hbq:bl.getD q 0=(p:Int)) (hp:p < 5) (cg:w.cell? ⟨bg,1+p,none⟩=some (.int .i64 h)) (h0:0≤h) (hlt:h < 2 ^ n) :
  Calls Tryz.prog 132 #[.int .i64 (q:Int),.pointer (some ⟨bp,0,none⟩),.pointer (some ⟨bg,0,none⟩),.pointer (some ⟨bk,0,none⟩)] w fun e w'=>e = .returned (.int .i64 (imgP a h n))∧Below w.heap.size w w':=by
 obtain ⟨e1,e2⟩:=setP_of h1 h5 ha h0 hlt
 have hmx : Tryz.prog.follows .mixedOrders=true:=by kernel_rfl
 have HS:Hid (∀ W,Below w.heap.size w W→Calls Tryz.prog 96 #[u,.int .i64 h] W (R2 W (imgP a h n) 0)):=fun W hW=>by
  have:=setCall (hu.keep hW) h
  rwa [e1,e2] at this
 obtain ⟨va,vc,vb,vo,rfl,hva,hvc,_⟩:=hv
 obtain rfl:=hva (by omega)
 have cq:=hvc q hq
 rw [hbq] at cq
 have KS:Hid (∀ W,Below w.heap.size w W→W.cell? ⟨bp,0,none⟩=some u∧W.cell? ⟨bk,0,none⟩=some (.slice (some ⟨vb,vo,none⟩) bl.length vc)∧W.cell? ⟨vb,vo+q,none⟩=some (.int .i64 (p:Int))∧W.cell? ⟨bg,1+p,none⟩=some (.int .i64 h)):=
  fun W hW=>⟨cell_kept hW cp,cell_kept hW ck,cell_kept hW cq,cell_kept hW cg⟩
 have hqi:(q:Int) < (bl.length:Int):=by omega
 have hpi:(p:Int) < 5:=by omega
 clear hva hvc hu e1 e2 hbq cp ck cq cg
 go_enter Tryz.func132, Tryz.ntmps132
 go_wp2_with fail
 refine wp_region_bw hmx (by kernel_rfl) ?_
 repeat (refine WQ.step (fun K hK => ?_)
         go_simp
         first
           | (refine hK _ ?_; clear hK K)
           | (apply Exists.intro
              refine ⟨fun wq hC => ?_, hK _ ?_⟩
              · (first | with_reducible rfl | (obtain ⟨k1,k2,k3,k4⟩:=KS.out wq hC; go_simp; first | done | with_reducible rfl | with_reducible exact ⟨rfl,rfl⟩) | (refine (HS.out wq hC).mono ?_; rintro e w' ⟨rfl,hb⟩; exact ⟨rfl,btt hC hb⟩))
              clear hK K))
 refine WQ.nil ?_
 intro w4 hq4
 go_wp2
 go_ret
 exact ⟨rfl,hq4⟩
theorem five {x:List Int} (h:x.length=5):∃ a b c d e,x = [a,b,c,d,e]:=by
 match x,h with
 | [a,b,c,d,e],_=>exact ⟨a,b,c,d,e,rfl⟩
def mdR (row:Nat→Int) (k:Nat):List Int:=(List.range 5).map fun j=>if j < k then row j else 0
theorem mdR_zero (row:Nat→Int):mdR row 0 = [0,0,0,0,0]:=by simp [mdR,List.range_succ]
theorem mdR_set (row:Nat→Int) {k:Nat} (_:k < 5):(mdR row k).set k (row k)=mdR row (k+1):=by
 refine List.ext_getElem (by simp [mdR]) fun j h1 h2=>?_
 have hj:j < 5:=by simpa [mdR] using h2
 rw [List.getElem_set]
 simp only [mdR,List.getElem_map,List.getElem_range]
 by_cases e:k=j
 ·subst e; rw [if_pos rfl,if_pos (by omega)]
 ·rw [if_neg e]
  by_cases e2:j < k
  ·rw [if_pos e2,if_pos (by omega)]
  ·rw [if_neg e2,if_neg (by omega)]
theorem mdR_len (row:Nat→Int) (k:Nat):(mdR row k).length=5:=by simp [mdR]
theorem mdR_end (row:Nat→Int) {n:Nat} (hn:n≤5) {l:List Int} (hl:l.length=n) (h:∀ j,j < n→l.getD j 0=row j):mdR row n=l++List.replicate (5 - n) 0:=by
 refine List.ext_getElem (by simp [mdR,hl]; omega) fun j h1 h2=>?_
 simp only [mdR,List.getElem_map,List.getElem_range]
 by_cases e:j < n
 ·rw [if_pos e,← h j e,getD_eq (by omega),List.getElem_append_left]
 ·rw [if_neg e,List.getElem_append_right (by omega),List.getElem_replicate]
def gBox (n:Int) (l:List Int):Obj:=.cells (((n::l).map (Value.int .i64)).toArray) 85
theorem gBox_set {W:World} {b k:Nat} {n y:Int} {l:List Int} (h:W.heap[b]? = some (gBox n l)):(W.setCell ⟨b,1+k,none⟩ (.int .i64 y)).heap[b]? = some (gBox n (l.set k y)):=by
 unfold gBox at h ⊢
 rw [heap_setCell_same W b (1+k) _ _ _ h]
 congr 2
 rw [show 1+k=k+1 by omega,List.map_cons,List.map_cons,List.map_set]
 simp
theorem gBox_cell {W:World} {b k:Nat} {n:Int} {l:List Int} (h:W.heap[b]? = some (gBox n l)) (hk:k < l.length):W.cell? ⟨b,1+k,none⟩=some (.int .i64 (l.getD k 0)):=by
 unfold gBox at h
 rw [cell_of_row _ _ _ _ _ _ h,show 1+k=k+1 by omega]
 simp [hk]
theorem gBox_free {W:World} {b j:Nat} {n:Int} {l:List Int} (h:W.heap[b]? = some (gBox n l)):W.frozen? ⟨b,j,none⟩=false:=by
 unfold gBox at h
 simp [World.frozen?,h]
theorem madeC {w:World} {n:Nat} {row:Nat→Int} {caps:Array Value} {l:List Int} (h5:n≤5) (hl:l.length=n) (hrow:∀ j,j < n→l.getD j 0=row j)
  (HF:∀ W,Below w.heap.size w W→∀ q,q < n→Calls Tryz.prog 132 (#[.int .i64 (q:Int)]++caps) W fun e w'=>e = .returned (.int .i64 (row q))∧Below W.heap.size W w') :
  Calls Tryz.prog 131 #[.int .i64 (n:Int),.func (.func 132) #[] caps] w fun e w'=>e = .returned (.agg (((n::(l++List.replicate (5 - n) 0):List Int).map (Value.int .i64)).toArray))∧Below w.heap.size w w':=by
 have hfin:=mdR_end row h5 hl hrow
 replace HF:=Lib.hid HF
 replace hfin:=Lib.hid hfin
 clear hrow hl
 obtain ⟨W2,hW2⟩:=exF ((w.alloc (.cells #[.int .i64 0,.int .i64 0,.int .i64 0,.int .i64 0,.int .i64 0,.int .i64 0] 85)).alloc (.cells #[.int .i64 (n:Int),.int .i64 0,.int .i64 0,.int .i64 0,.int .i64 0,.int .i64 0] 85))
 have hb2:Below w.heap.size w W2:=by rw [hW2]; exact ((Below.refl _ _).alloc (Nat.le_refl _) _).alloc (by simp) _
 have hs2:W2.heap.size=w.heap.size+2:=by rw [hW2]; simp
 have m1:W2.heap[w.heap.size]? = some (.cells #[.int .i64 0,.int .i64 0,.int .i64 0,.int .i64 0,.int .i64 0,.int .i64 0] 85):=by rw [hW2]; exact (Below.heap_alloc _ _ _ (by simp)).trans (heap_alloc_new _ _)
 have m2:W2.heap[w.heap.size+1]? = some (gBox n (mdR row 0)):=by
  rw [mdR_zero,hW2]
  have:=heap_alloc_new (w.alloc (.cells #[.int .i64 0,.int .i64 0,.int .i64 0,.int .i64 0,.int .i64 0,.int .i64 0] 85)) (.cells #[.int .i64 (n:Int),.int .i64 0,.int .i64 0,.int .i64 0,.int .i64 0,.int .i64 0] 85)
  rwa [World.size_alloc] at this
 go_enter Tryz.func131, Tryz.ntmps131
 go_wp2_with fail
 rw [← hW2]
 replace hW2:=Lib.hid hW2
 go_loopw [10] (fun i wr=>∃ k:Nat,k≤n∧i = .int .i64 (k:Int)∧wr.heap[w.heap.size+1]? = some (gBox n (mdR row k))∧wr.heap[w.heap.size]? = some (.cells #[.int .i64 0,.int .i64 0,.int .i64 0,.int .i64 0,.int .i64 0,.int .i64 0] 85)∧Hid (Below w.heap.size w wr)) (fun i _=>n - (intOf i).toNat)
 case atStart=>exact ⟨0,Nat.zero_le _,rfl,m2,m1,hb2⟩
 case round=>
  clear hb2 hs2 m1 m2 hW2
  obtain ⟨k,hk,rfl,c2,c1,hb⟩:=hrel
  by_cases hlt:k < n
  ·have hltI:(k:Int) < (n:Int):=by omega
   have HC:=Lib.hid (HF.out wr hb.out k hlt)
   go_wp2_with (go_at_call 132; refine HC.out.mono ?_; rintro e w1 ⟨rfl,hb1⟩; have d2:=(hb1.block _ (Array.getElem?_eq_some_iff.1 c2).1).trans c2; have d1:=(hb1.block _ (Array.getElem?_eq_some_iff.1 c1).1).trans c1; have fz:=gBox_free (j:=1+k) d2; have cc:=gBox_cell (k:=k) d2 (by rw [mdR_len]; omega))
   go_roundw
   case rel=>exact ⟨k+1,by omega,by go_num,by rw [← mdR_set row (by omega)]; exact gBox_set d2,(Below.heap_setCell _ _ _ _ (by simp)).trans d1,(bt hb.out hb1 hb.out.size).setCell (p:=⟨w.heap.size+1,1+k,none⟩) (by simp) _⟩
   case measure=>simp [intOf]; omega
  ·obtain rfl:k=n:=by omega
   obtain ⟨g,hg⟩:=exE (l++List.replicate (5 - k) 0)
   have hfin2:=hfin.out
   rw [hg] at hfin2
   have hgl:g.length=5:=by rw [← hfin2,mdR_len]
   obtain ⟨g0,g1,g2,g3,g4,rfl⟩:=five hgl
   rw [hfin2] at c2
   obtain ⟨q0,q1,q2,q3,q4,q5⟩:=boxL6 (show wr.heap[w.heap.size+1]? = some (.cells #[.int .i64 (k:Int),.int .i64 g0,.int .i64 g1,.int .i64 g2,.int .i64 g3,.int .i64 g4] 85) from c2)
   clear hfin hfin2 HF c2
   obtain ⟨z0,z1,z2,z3,z4,z5⟩:=boxL6 c1
   obtain ⟨f0,f1,f2,f3,f4,f5⟩:=freeL6 c1
   go_wp2
   refine storeEnd6 (u0:=.int .i64 (k:Int)) (u1:=.int .i64 g0) (u2:=.int .i64 g1) (u3:=.int .i64 g2) (u4:=.int .i64 g3) (u5:=.int .i64 g4) c1 ?_
   intro W9 hW9 hb9 _ _ e0 e1 e2 e3 e4 e5
   rw [← hW9]
   refine bodyPost_ret (v:=.agg #[.int .i64 (k:Int),.int .i64 g0,.int .i64 g1,.int .i64 g2,.int .i64 g3,.int .i64 g4]) (by simp [results,Tryz.results131,go_sem,e0,e1,e2,e3,e4,e5]) rfl ?_
   exact ⟨by rw [hg]; rfl,hb9 _ _ (Nat.le_refl _) hb.out⟩
theorem moved_back {n:Nat} {a v:List Int} (h1:1≤n) (h5:n≤5) (ha:IsP n a) {q:Nat} (hq:q < n):∃ p:Nat,p < n∧(backL a).getD q 0=(p:Int)∧(movedL a v).getD q 0=v.getD p 0:=by
 obtain ⟨p,hp,hpq⟩:=perm_onto h1 h5 ha hq
 refine ⟨p,hp,?_,?_⟩
 ·have:=moved_at (v:=oneL n) ha hp
  rw [hpq,Int.toNat_natCast,oneL_getD hp] at this
  rw [backL,ha.1]; exact this
 ·have:=moved_at (v:=v) ha hp
  rwa [hpq,Int.toNat_natCast] at this
def gVal (n:Nat) (hs:List Int):Value:=.agg ((((n:Int)::(hs++List.replicate (5 - n) 0)).map (Value.int .i64)).toArray)
theorem graphPerm {w:World} {u:Value} {n:Nat} {a hs:List Int} {f:Int} (h1:1≤n) (h5:n≤5) (hR:RdN n hs f) (ha:IsP n a) (hu:Ints w u a) :
  Calls Tryz.prog 95 #[gVal n hs,u] w fun e w'=>e = .returned (.tuple #[gVal n (movedL a (hs.map fun x=>imgP a x n)),.int .i64 0])∧Below w.heap.size w w':=by
 have hz:=chkRd_mk h1 h5 hR
 have hml:(movedL a (hs.map fun x=>imgP a x n)).length=n:=by rw [movedL_length,ha.1]
 obtain ⟨pad,hpad⟩:=exE (hs++List.replicate (5 - n) 0)
 have hpl:pad.length=5:=by rw [← hpad]; simp [hR.len]; omega
 have hpg:∀ p,p < n→pad.getD p 0=hs.getD p 0:=fun p hp=>by rw [← hpad,getD_app2 (by rw [hR.len]; exact hp)]
 obtain ⟨g0,g1,g2,g3,g4,rfl⟩:=five hpl
 have hv:gVal n hs = .agg #[.int .i64 (n:Int),.int .i64 g0,.int .i64 g1,.int .i64 g2,.int .i64 g3,.int .i64 g4]:=by rw [gVal,hpad]; rfl
 have hzg:chkGr (n:Int) [g0,g1,g2,g3,g4]=0:=by
  have e:mkR n hs f = [(n:Int),g0,g1,g2,g3,g4,f]:=by rw [mkR,← List.append_assoc,hpad]; rfl
  rw [e] at hz
  by_cases k:chkGr (n:Int) [g0,g1,g2,g3,g4]=0
  ·exact k
  ·rw [chkRd_1 k] at hz; exact absurd hz k
 have HC:=graphCheck (n:Int) g0 g1 g2 g3 g4
 rw [hzg] at HC
 replace HC:=Lib.hid HC
 have HI:=Lib.hid (fun W (hW:Below w.heap.size w W)=>inverseP h1 h5 ha (hu.keep hW))
 rw [hv]
 clear hz hpad hpl hzg hv
 obtain ⟨row,hrow⟩:∃ row:Nat→Int,row=fun q=>(movedL a (hs.map fun x=>imgP a x n)).getD q 0:=⟨_,rfl⟩
 have hrw:Hid (∀ q,q < n→∃ p h,(backL a).getD q 0=((p:Nat):Int)∧p < 5∧p < n∧[g0,g1,g2,g3,g4].getD p 0=h∧0≤h∧h < 2 ^ n∧row q=imgP a h n):=fun q hq=>by
  obtain ⟨p,hp,e1,e2⟩:=moved_back (v:=hs.map fun x=>imgP a x n) h1 h5 ha hq
  refine ⟨p,hs.getD p 0,e1,by omega,hp,hpg p hp,(hR.rng _ (getD_mem (by rw [hR.len]; exact hp))).1,(hR.rng _ (getD_mem (by rw [hR.len]; exact hp))).2,?_⟩
  rw [hrow]
  show (movedL a _).getD q 0=_
  rw [e2,getD_eq (by rw [List.length_map,hR.len]; exact hp),List.getElem_map,getD_eq (by rw [hR.len]; exact hp)]
 have hRO:Hid (∀ j,j < n→(movedL a (hs.map fun x=>imgP a x n)).getD j 0=row j):=fun j _=>by rw [hrow]
 clear hrow hpg
 obtain ⟨L,hL⟩:∃ L,movedL a (hs.map fun x=>imgP a x n)=L:=⟨_,rfl⟩
 rw [hL] at hRO hml ⊢
 clear hL hR
 have hub:=ha.1
 have hu':=Lib.hid hu
 obtain ⟨aa,ac,ab,ao,rfl,haa,-,-⟩:=hu
 obtain rfl:=haa (by omega)
 rw [hub] at hu' ⊢
 rw [hub] at HI
 replace hub:=Lib.hid hub
 obtain ⟨W1,hW1⟩:=exF (((w.alloc (.cells #[.int .i64 (n:Int),.int .i64 g0,.int .i64 g1,.int .i64 g2,.int .i64 g3,.int .i64 g4] 85)).alloc (.cells #[.slice (some ⟨ab,ao,none⟩) n ac] 25)).alloc (.cells #[.int .i64 0,.int .i64 0,.int .i64 0,.int .i64 0,.int .i64 0,.int .i64 0] 85))
 have hb1:Below w.heap.size w W1:=by rw [hW1]; exact (((Below.refl _ _).alloc (Nat.le_refl _) _).alloc (by simp) _).alloc (by simp; omega) _
 have m0:W1.heap[w.heap.size]? = some (gBox n [g0,g1,g2,g3,g4]):=by rw [hW1]; exact (Below.heap_alloc _ _ _ (by simp; omega)).trans ((Below.heap_alloc _ _ _ (by simp)).trans (heap_alloc_new _ _))
 have m1:W1.heap[w.heap.size+1]? = some (.cells #[.slice (some ⟨ab,ao,none⟩) n ac] 25):=by
  rw [hW1]
  have:=heap_alloc_new (w.alloc (.cells #[.int .i64 (n:Int),.int .i64 g0,.int .i64 g1,.int .i64 g2,.int .i64 g3,.int .i64 g4] 85)) (.cells #[.slice (some ⟨ab,ao,none⟩) n ac] 25)
  rw [World.size_alloc] at this
  exact (Below.heap_alloc _ _ _ (by simp)).trans this
 have m2:W1.heap[w.heap.size+2]? = some (.cells #[.int .i64 0,.int .i64 0,.int .i64 0,.int .i64 0,.int .i64 0,.int .i64 0] 85):=by
  rw [hW1]
  have:=heap_alloc_new ((w.alloc (.cells #[.int .i64 (n:Int),.int .i64 g0,.int .i64 g1,.int .i64 g2,.int .i64 g3,.int .i64 g4] 85)).alloc (.cells #[.slice (some ⟨ab,ao,none⟩) n ac] 25)) (.cells #[.int .i64 0,.int .i64 0,.int .i64 0,.int .i64 0,.int .i64 0,.int .i64 0] 85)
  simpa using this
 have hs1:Hid (W1.heap.size=w.heap.size+3):=by rw [hW1]; simp [Hid]
 obtain ⟨p0,p1,p2,p3,p4,p5⟩:=boxL6 (show W1.heap[w.heap.size]? = some (.cells #[.int .i64 (n:Int),.int .i64 g0,.int .i64 g1,.int .i64 g2,.int .i64 g3,.int .i64 g4] 85) from m0)
 have q0:=cell_of_one m1
 go_enter Tryz.func95, Tryz.ntmps95
 go_wp2_with fail
 rw [← hW1]
 replace hW1:=Lib.hid hW1
 refine (HC.out _).mono ?_
 rintro e w2 ⟨rfl,hb2⟩
 replace q0:=cell_kept hb2 q0
 replace p0:=cell_kept hb2 p0
 replace m0:=(hb2.block _ (Array.getElem?_eq_some_iff.1 m0).1).trans m0
 replace m1:=(hb2.block _ (Array.getElem?_eq_some_iff.1 m1).1).trans m1
 replace m2:=(hb2.block _ (Array.getElem?_eq_some_iff.1 m2).1).trans m2
 replace hb2:=bt hb1 hb2 hb1.size
 clear p1 p2 p3 p4 p5
 go_wp2_with fail
 refine (HI.out w2 hb2).mono ?_
 rintro e w3 ⟨r,rfl,hO,hb3⟩
 replace q0:=cell_kept hb3 q0
 replace p0:=cell_kept hb3 p0
 replace m0:=(hb3.block _ (Array.getElem?_eq_some_iff.1 m0).1).trans m0
 replace m1:=(hb3.block _ (Array.getElem?_eq_some_iff.1 m1).1).trans m1
 replace m2:=(hb3.block _ (Array.getElem?_eq_some_iff.1 m2).1).trans m2
 replace hb3:=bt hb2 hb3 hb2.size
 have hbl:(backL a).length=n:=by rw [backL,movedL_length,hub.out]
 have hOi:=hO.ints (by omega)
 obtain ⟨ra,rc,rfl⟩:=hO.shape
 rw [hbl] at hOi ⊢
 obtain ⟨W4,hW4⟩:=exF (w3.alloc (.cells #[.slice ra n rc] 25))
 have hb4:Below w3.heap.size w3 W4:=by rw [hW4]; exact (Below.refl _ _).alloc (Nat.le_refl _) _
 have m4:W4.heap[w3.heap.size]? = some (.cells #[.slice ra n rc] 25):=by rw [hW4]; exact heap_alloc_new _ _
 have p0':=cell_kept hb4 p0
 have q0':=cell_kept hb4 q0
 have HM:=madeC (w:=W4) (n:=n) (row:=row) (caps:=#[.pointer (some ⟨w.heap.size+1,0,none⟩),.pointer (some ⟨w.heap.size,0,none⟩),.pointer (some ⟨w3.heap.size,0,none⟩)]) (l:=L) h5 hml hRO.out fun W hW q hq=>by
  obtain ⟨p,h,k1,k2,k3,k4,k5,k6,k7⟩:=hrw.out q hq
  have g0':=(hW.block _ (Array.getElem?_eq_some_iff.1 ((hb4.block _ (Array.getElem?_eq_some_iff.1 m0).1).trans m0)).1).trans ((hb4.block _ (Array.getElem?_eq_some_iff.1 m0).1).trans m0)
  have cg:=gBox_cell (k:=p) g0' (by simpa using k2)
  rw [k4] at cg
  rw [k7]
  exact permRow h1 h5 ha (cell_kept hW q0') (hu'.out.keep (hb3.trans ((hb4.trans (hW.mono hb4.size)).mono hb3.size))) (cell_kept hW (cell_of_one m4)) (hOi.keep (hb4.trans (hW.mono hb4.size))) (by omega) k1 k2 cg k5 k6
 replace HM:=Lib.hid HM
 have m2':=(hb4.block _ (Array.getElem?_eq_some_iff.1 m2).1).trans m2
 rw [hW4] at p0' q0'
 clear m4 m0 m1 m2 p0 q0 hO hOi
 go_wp2_with fail
 rw [← hW4]
 replace hW4:=Lib.hid hW4
 refine HM.out.mono ?_
 rintro e w5 ⟨rfl,hb5⟩
 have m5:=(hb5.block _ (Array.getElem?_eq_some_iff.1 m2').1).trans m2'
 obtain ⟨pad',hpad'⟩:∃ pad,L++List.replicate (5 - n) 0=pad:=⟨_,rfl⟩
 have hpl':pad'.length=5:=by rw [← hpad']; simp [hml]; omega
 obtain ⟨k0,k1,k2,k3,k4,rfl⟩:=five hpl'
 rw [hpad']
 replace hpad':=Lib.hid hpad'
 simp only [List.map_cons,List.map_nil]
 obtain ⟨z0,z1,z2,z3,z4,z5⟩:=boxL6 m5
 obtain ⟨f0,f1,f2,f3,f4,f5⟩:=freeL6 m5
 clear p0' q0' m2' HM HI HC hrw hRO hu' hpl'
 go_wp2
 refine storeEnd6 (u0:=.int .i64 (n:Int)) (u1:=.int .i64 k0) (u2:=.int .i64 k1) (u3:=.int .i64 k2) (u4:=.int .i64 k3) (u5:=.int .i64 k4) m5 ?_
 intro W9 hW9 hb9 _ _ e0 e1 e2 e3 e4 e5
 rw [← hW9]
 refine bodyPost_ret (v:=.tuple #[.agg #[.int .i64 (n:Int),.int .i64 k0,.int .i64 k1,.int .i64 k2,.int .i64 k3,.int .i64 k4],.int .i64 0]) (by simp [results,Tryz.results95,go_sem,e0,e1,e2,e3,e4,e5]) rfl ?_
 exact ⟨by rw [gVal,hpad'.out]; rfl,hb9 _ _ (by omega) (hb3.trans ((hb4.trans (hb5.mono hb4.size)).mono hb3.size))⟩
end Go.Proofs.YtmikofeildnpdaaGreat

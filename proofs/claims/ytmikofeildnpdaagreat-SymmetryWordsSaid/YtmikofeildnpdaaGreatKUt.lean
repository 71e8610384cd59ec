/- Texts of this claim, put together: CS SE SE2 ZI. -/
import Derived.Test.YtmikofeildnpdaaGreatKUg
import Derived.Test.YtmikofeildnpdaaGreatKUf
import Derived.Test.YtmikofeildnpdaaGreatKUr
import Derived.Test.YtmikofeildnpdaaGreatKUi
import Derived.Test.YtmikofeildnpdaaGreatKUq
import Derived.Test.YtmikofeildnpdaaGreatKUe
import Derived.Test.YtmikofeildnpdaaGreatKUk
import Derived.Test.YtmikofeildnpdaaGreatKUj
import Derived.Deep.LoopGhost
import Derived.IntWalk
import Derived.Laws.AppendOwnNone
import Derived.Lib.AppendZeros
import Derived.Deep.RegionHeld3
import Derived.Deep.DeepCutAuto
import Derived.Laws.EntriesVeiled
import Derived.Test.YtmikofeildnpdaaGreatKUh
import Derived.Test.YtmikofeildnpdaaGreatKUp
import Derived.Test.YtmikofeildnpdaaGreatKUs
import Derived.Test.YtmikofeildnpdaaGreatKUo
import Derived.Deep.Cut
import Derived.Lib.OwnBridge
import Derived.Sort.OwnSortedInts

set_option maxRecDepth 100000
set_option maxHeartbeats 12800000
/- Rows of bools; the reference's alive. -/
namespace Go.Proofs.YtmikofeildnpdaaGreat
open Go.RowKit
def OB (w:World) (B:Nat) (v:Value) (n:Nat) (xs:List Bool):Prop:=w.ownsRow B 4 1 v n (xs.map Value.bool)
theorem OB.length {w:World} {B:Nat} {v:Value} {n:Nat} {xs:List Bool} (h:OB w B v n xs):xs.length=n:=by have:=h.1; simpa using this
theorem OB.store {w:World} {B g n cap:Nat} {xs:List Bool} (h:OB w B (.slice (some ⟨g,0,none⟩) n cap) n xs) (j:Nat) (y:Bool) :
  OB (w.setCell ⟨g,j,none⟩ (.bool y)) B (.slice (some ⟨g,0,none⟩) n cap) n (xs.set j y):=by
 have:=(World.ownsRow.stored h j (.bool y)).1
 unfold OB
 rw [List.map_set]
 exact this
end Go.Proofs.YtmikofeildnpdaaGreat

/- Whole structs stored into boxes. -/
namespace Go.Proofs.YtmikofeildnpdaaGreat
open Go.RowKit
theorem boxL2 {w:World} {b:Nat} {t:TypeId} {u0 u1:Value} (h:w.heap[b]? = some (.cells #[u0,u1] t)) :
  w.cell? ⟨b,0,none⟩=some u0∧w.cell? ⟨b,1,none⟩=some u1:=
 ⟨box_cell h rfl,box_cell h rfl⟩
theorem boxL3 {w:World} {b:Nat} {t:TypeId} {u0 u1 u2:Value} (h:w.heap[b]? = some (.cells #[u0,u1,u2] t)) :
  w.cell? ⟨b,0,none⟩=some u0∧w.cell? ⟨b,1,none⟩=some u1∧w.cell? ⟨b,2,none⟩=some u2:=
 ⟨box_cell h rfl,box_cell h rfl,box_cell h rfl⟩
theorem boxL4 {w:World} {b:Nat} {t:TypeId} {u0 u1 u2 u3:Value} (h:w.heap[b]? = some (.cells #[u0,u1,u2,u3] t)) :
  w.cell? ⟨b,0,none⟩=some u0∧w.cell? ⟨b,1,none⟩=some u1∧w.cell? ⟨b,2,none⟩=some u2∧w.cell? ⟨b,3,none⟩=some u3:=
 ⟨box_cell h rfl,box_cell h rfl,box_cell h rfl,box_cell h rfl⟩
theorem boxL6 {w:World} {b:Nat} {t:TypeId} {u0 u1 u2 u3 u4 u5:Value} (h:w.heap[b]? = some (.cells #[u0,u1,u2,u3,u4,u5] t)) :
  w.cell? ⟨b,0,none⟩=some u0∧w.cell? ⟨b,1,none⟩=some u1∧w.cell? ⟨b,2,none⟩=some u2∧w.cell? ⟨b,3,none⟩=some u3∧w.cell? ⟨b,4,none⟩=some u4∧w.cell? ⟨b,5,none⟩=some u5:=
 ⟨box_cell h rfl,box_cell h rfl,box_cell h rfl,box_cell h rfl,box_cell h rfl,box_cell h rfl⟩
theorem boxL7 {w:World} {b:Nat} {t:TypeId} {u0 u1 u2 u3 u4 u5 u6:Value} (h:w.heap[b]? = some (.cells #[u0,u1,u2,u3,u4,u5,u6] t)) :
  w.cell? ⟨b,0,none⟩=some u0∧w.cell? ⟨b,1,none⟩=some u1∧w.cell? ⟨b,2,none⟩=some u2∧w.cell? ⟨b,3,none⟩=some u3∧w.cell? ⟨b,4,none⟩=some u4∧w.cell? ⟨b,5,none⟩=some u5∧w.cell? ⟨b,6,none⟩=some u6:=
 ⟨box_cell h rfl,box_cell h rfl,box_cell h rfl,box_cell h rfl,box_cell h rfl,box_cell h rfl,box_cell h rfl⟩
theorem boxL8 {w:World} {b:Nat} {t:TypeId} {u0 u1 u2 u3 u4 u5 u6 u7:Value} (h:w.heap[b]? = some (.cells #[u0,u1,u2,u3,u4,u5,u6,u7] t)) :
  w.cell? ⟨b,0,none⟩=some u0∧w.cell? ⟨b,1,none⟩=some u1∧w.cell? ⟨b,2,none⟩=some u2∧w.cell? ⟨b,3,none⟩=some u3∧w.cell? ⟨b,4,none⟩=some u4∧w.cell? ⟨b,5,none⟩=some u5∧w.cell? ⟨b,6,none⟩=some u6∧w.cell? ⟨b,7,none⟩=some u7:=
 ⟨box_cell h rfl,box_cell h rfl,box_cell h rfl,box_cell h rfl,box_cell h rfl,box_cell h rfl,box_cell h rfl,box_cell h rfl⟩
theorem boxL9 {w:World} {b:Nat} {t:TypeId} {u0 u1 u2 u3 u4 u5 u6 u7 u8:Value} (h:w.heap[b]? = some (.cells #[u0,u1,u2,u3,u4,u5,u6,u7,u8] t)) :
  w.cell? ⟨b,0,none⟩=some u0∧w.cell? ⟨b,1,none⟩=some u1∧w.cell? ⟨b,2,none⟩=some u2∧w.cell? ⟨b,3,none⟩=some u3∧w.cell? ⟨b,4,none⟩=some u4∧w.cell? ⟨b,5,none⟩=some u5∧w.cell? ⟨b,6,none⟩=some u6∧w.cell? ⟨b,7,none⟩=some u7∧w.cell? ⟨b,8,none⟩=some u8:=
 ⟨box_cell h rfl,box_cell h rfl,box_cell h rfl,box_cell h rfl,box_cell h rfl,box_cell h rfl,box_cell h rfl,box_cell h rfl,box_cell h rfl⟩
theorem freeL2 {w:World} {b:Nat} {t:TypeId} {cs:Array Value} (h:w.heap[b]? = some (.cells cs t)):w.frozen? ⟨b,0,none⟩=false∧w.frozen? ⟨b,1,none⟩=false:=by
 simp [World.frozen?,h]
theorem freeL4 {w:World} {b:Nat} {t:TypeId} {cs:Array Value} (h:w.heap[b]? = some (.cells cs t)):w.frozen? ⟨b,0,none⟩=false∧w.frozen? ⟨b,1,none⟩=false∧w.frozen? ⟨b,2,none⟩=false∧w.frozen? ⟨b,3,none⟩=false:=by
 simp [World.frozen?,h]
theorem freeL6 {w:World} {b:Nat} {t:TypeId} {cs:Array Value} (h:w.heap[b]? = some (.cells cs t)):w.frozen? ⟨b,0,none⟩=false∧w.frozen? ⟨b,1,none⟩=false∧w.frozen? ⟨b,2,none⟩=false∧w.frozen? ⟨b,3,none⟩=false∧w.frozen? ⟨b,4,none⟩=false∧w.frozen? ⟨b,5,none⟩=false:=by
 simp [World.frozen?,h]
theorem freeL7 {w:World} {b:Nat} {t:TypeId} {cs:Array Value} (h:w.heap[b]? = some (.cells cs t)):w.frozen? ⟨b,0,none⟩=false∧w.frozen? ⟨b,1,none⟩=false∧w.frozen? ⟨b,2,none⟩=false∧w.frozen? ⟨b,3,none⟩=false∧w.frozen? ⟨b,4,none⟩=false∧w.frozen? ⟨b,5,none⟩=false∧w.frozen? ⟨b,6,none⟩=false:=by
 simp [World.frozen?,h]
theorem freeL8 {w:World} {b:Nat} {t:TypeId} {cs:Array Value} (h:w.heap[b]? = some (.cells cs t)):w.frozen? ⟨b,0,none⟩=false∧w.frozen? ⟨b,1,none⟩=false∧w.frozen? ⟨b,2,none⟩=false∧w.frozen? ⟨b,3,none⟩=false∧w.frozen? ⟨b,4,none⟩=false∧w.frozen? ⟨b,5,none⟩=false∧w.frozen? ⟨b,6,none⟩=false∧w.frozen? ⟨b,7,none⟩=false:=by
 simp [World.frozen?,h]
theorem storeEnd4 {w:World} {b:Nat} {t:TypeId} {x0 x1 x2 x3 u0 u1 u2 u3:Value} {G:Prop} (h:w.heap[b]? = some (.cells #[x0,x1,x2,x3] t))
  (k:∀ W,W=((((w.setCell ⟨b,0,none⟩ u0).setCell ⟨b,1,none⟩ u1).setCell ⟨b,2,none⟩ u2).setCell ⟨b,3,none⟩ u3)→(∀ (B:Nat) (w0:World),B≤b→Below B w0 w→Below B w0 W)→KeepX t w W→W.heap[b]? = some (.cells #[u0,u1,u2,u3] t)→
   W.cell? ⟨b,0,none⟩=some u0→W.cell? ⟨b,1,none⟩=some u1→W.cell? ⟨b,2,none⟩=some u2→W.cell? ⟨b,3,none⟩=some u3→G):G:=by
 obtain ⟨W0,e0⟩:=exF (w.setCell ⟨b,0,none⟩ u0)
 have h0:W0.heap[b]? = some (.cells #[u0,x1,x2,x3] t):=by rw [e0]; exact heap_setCell_same w b 0 _ t u0 h
 have k0:KeepX t w W0:=by rw [e0]; exact KeepX.trans (KeepX.refl t w) (KeepX.setCell (p:=⟨b,0,none⟩) h u0)
 have b0:∀ (B:Nat) (w0:World),B≤b→Below B w0 w→Below B w0 W0:=fun B w0 hB hw=>by rw [e0]; exact (hw).setCell (p:=⟨b,0,none⟩) hB _
 obtain ⟨W1,e1⟩:=exF (W0.setCell ⟨b,1,none⟩ u1)
 have h1:W1.heap[b]? = some (.cells #[u0,u1,x2,x3] t):=by rw [e1]; exact heap_setCell_same W0 b 1 _ t u1 h0
 have k1:KeepX t w W1:=by rw [e1]; exact KeepX.trans k0 (KeepX.setCell (p:=⟨b,1,none⟩) h0 u1)
 have b1:∀ (B:Nat) (w0:World),B≤b→Below B w0 w→Below B w0 W1:=fun B w0 hB hw=>by rw [e1]; exact (b0 B w0 hB hw).setCell (p:=⟨b,1,none⟩) hB _
 obtain ⟨W2,e2⟩:=exF (W1.setCell ⟨b,2,none⟩ u2)
 have h2:W2.heap[b]? = some (.cells #[u0,u1,u2,x3] t):=by rw [e2]; exact heap_setCell_same W1 b 2 _ t u2 h1
 have k2:KeepX t w W2:=by rw [e2]; exact KeepX.trans k1 (KeepX.setCell (p:=⟨b,2,none⟩) h1 u2)
 have b2:∀ (B:Nat) (w0:World),B≤b→Below B w0 w→Below B w0 W2:=fun B w0 hB hw=>by rw [e2]; exact (b1 B w0 hB hw).setCell (p:=⟨b,2,none⟩) hB _
 obtain ⟨W3,e3⟩:=exF (W2.setCell ⟨b,3,none⟩ u3)
 have h3:W3.heap[b]? = some (.cells #[u0,u1,u2,u3] t):=by rw [e3]; exact heap_setCell_same W2 b 3 _ t u3 h2
 have k3:KeepX t w W3:=by rw [e3]; exact KeepX.trans k2 (KeepX.setCell (p:=⟨b,3,none⟩) h2 u3)
 have b3:∀ (B:Nat) (w0:World),B≤b→Below B w0 w→Below B w0 W3:=fun B w0 hB hw=>by rw [e3]; exact (b2 B w0 hB hw).setCell (p:=⟨b,3,none⟩) hB _
 exact k W3 (by rw [e3,e2,e1,e0]) b3 k3 h3 (box_cell h3 rfl) (box_cell h3 rfl) (box_cell h3 rfl) (box_cell h3 rfl)
theorem storeEnd6 {w:World} {b:Nat} {t:TypeId} {x0 x1 x2 x3 x4 x5 u0 u1 u2 u3 u4 u5:Value} {G:Prop} (h:w.heap[b]? = some (.cells #[x0,x1,x2,x3,x4,x5] t))
  (k:∀ W,W=((((((w.setCell ⟨b,0,none⟩ u0).setCell ⟨b,1,none⟩ u1).setCell ⟨b,2,none⟩ u2).setCell ⟨b,3,none⟩ u3).setCell ⟨b,4,none⟩ u4).setCell ⟨b,5,none⟩ u5)→(∀ (B:Nat) (w0:World),B≤b→Below B w0 w→Below B w0 W)→KeepX t w W→W.heap[b]? = some (.cells #[u0,u1,u2,u3,u4,u5] t)→
   W.cell? ⟨b,0,none⟩=some u0→W.cell? ⟨b,1,none⟩=some u1→W.cell? ⟨b,2,none⟩=some u2→W.cell? ⟨b,3,none⟩=some u3→W.cell? ⟨b,4,none⟩=some u4→W.cell? ⟨b,5,none⟩=some u5→G):G:=by
 obtain ⟨W0,e0⟩:=exF (w.setCell ⟨b,0,none⟩ u0)
 have h0:W0.heap[b]? = some (.cells #[u0,x1,x2,x3,x4,x5] t):=by rw [e0]; exact heap_setCell_same w b 0 _ t u0 h
 have k0:KeepX t w W0:=by rw [e0]; exact KeepX.trans (KeepX.refl t w) (KeepX.setCell (p:=⟨b,0,none⟩) h u0)
 have b0:∀ (B:Nat) (w0:World),B≤b→Below B w0 w→Below B w0 W0:=fun B w0 hB hw=>by rw [e0]; exact (hw).setCell (p:=⟨b,0,none⟩) hB _
 obtain ⟨W1,e1⟩:=exF (W0.setCell ⟨b,1,none⟩ u1)
 have h1:W1.heap[b]? = some (.cells #[u0,u1,x2,x3,x4,x5] t):=by rw [e1]; exact heap_setCell_same W0 b 1 _ t u1 h0
 have k1:KeepX t w W1:=by rw [e1]; exact KeepX.trans k0 (KeepX.setCell (p:=⟨b,1,none⟩) h0 u1)
 have b1:∀ (B:Nat) (w0:World),B≤b→Below B w0 w→Below B w0 W1:=fun B w0 hB hw=>by rw [e1]; exact (b0 B w0 hB hw).setCell (p:=⟨b,1,none⟩) hB _
 obtain ⟨W2,e2⟩:=exF (W1.setCell ⟨b,2,none⟩ u2)
 have h2:W2.heap[b]? = some (.cells #[u0,u1,u2,x3,x4,x5] t):=by rw [e2]; exact heap_setCell_same W1 b 2 _ t u2 h1
 have k2:KeepX t w W2:=by rw [e2]; exact KeepX.trans k1 (KeepX.setCell (p:=⟨b,2,none⟩) h1 u2)
 have b2:∀ (B:Nat) (w0:World),B≤b→Below B w0 w→Below B w0 W2:=fun B w0 hB hw=>by rw [e2]; exact (b1 B w0 hB hw).setCell (p:=⟨b,2,none⟩) hB _
 obtain ⟨W3,e3⟩:=exF (W2.setCell ⟨b,3,none⟩ u3)
 have h3:W3.heap[b]? = some (.cells #[u0,u1,u2,u3,x4,x5] t):=by rw [e3]; exact heap_setCell_same W2 b 3 _ t u3 h2
 have k3:KeepX t w W3:=by rw [e3]; exact KeepX.trans k2 (KeepX.setCell (p:=⟨b,3,none⟩) h2 u3)
 have b3:∀ (B:Nat) (w0:World),B≤b→Below B w0 w→Below B w0 W3:=fun B w0 hB hw=>by rw [e3]; exact (b2 B w0 hB hw).setCell (p:=⟨b,3,none⟩) hB _
 obtain ⟨W4,e4⟩:=exF (W3.setCell ⟨b,4,none⟩ u4)
 have h4:W4.heap[b]? = some (.cells #[u0,u1,u2,u3,u4,x5] t):=by rw [e4]; exact heap_setCell_same W3 b 4 _ t u4 h3
 have k4:KeepX t w W4:=by rw [e4]; exact KeepX.trans k3 (KeepX.setCell (p:=⟨b,4,none⟩) h3 u4)
 have b4:∀ (B:Nat) (w0:World),B≤b→Below B w0 w→Below B w0 W4:=fun B w0 hB hw=>by rw [e4]; exact (b3 B w0 hB hw).setCell (p:=⟨b,4,none⟩) hB _
 obtain ⟨W5,e5⟩:=exF (W4.setCell ⟨b,5,none⟩ u5)
 have h5:W5.heap[b]? = some (.cells #[u0,u1,u2,u3,u4,u5] t):=by rw [e5]; exact heap_setCell_same W4 b 5 _ t u5 h4
 have k5:KeepX t w W5:=by rw [e5]; exact KeepX.trans k4 (KeepX.setCell (p:=⟨b,5,none⟩) h4 u5)
 have b5:∀ (B:Nat) (w0:World),B≤b→Below B w0 w→Below B w0 W5:=fun B w0 hB hw=>by rw [e5]; exact (b4 B w0 hB hw).setCell (p:=⟨b,5,none⟩) hB _
 exact k W5 (by rw [e5,e4,e3,e2,e1,e0]) b5 k5 h5 (box_cell h5 rfl) (box_cell h5 rfl) (box_cell h5 rfl) (box_cell h5 rfl) (box_cell h5 rfl) (box_cell h5 rfl)
theorem storeEnd7 {w:World} {b:Nat} {t:TypeId} {x0 x1 x2 x3 x4 x5 x6 u0 u1 u2 u3 u4 u5 u6:Value} {G:Prop} (h:w.heap[b]? = some (.cells #[x0,x1,x2,x3,x4,x5,x6] t))
  (k:∀ W,W=(((((((w.setCell ⟨b,0,none⟩ u0).setCell ⟨b,1,none⟩ u1).setCell ⟨b,2,none⟩ u2).setCell ⟨b,3,none⟩ u3).setCell ⟨b,4,none⟩ u4).setCell ⟨b,5,none⟩ u5).setCell ⟨b,6,none⟩ u6)→(∀ (B:Nat) (w0:World),B≤b→Below B w0 w→Below B w0 W)→KeepX t w W→W.heap[b]? = some (.cells #[u0,u1,u2,u3,u4,u5,u6] t)→
   W.cell? ⟨b,0,none⟩=some u0→W.cell? ⟨b,1,none⟩=some u1→W.cell? ⟨b,2,none⟩=some u2→W.cell? ⟨b,3,none⟩=some u3→W.cell? ⟨b,4,none⟩=some u4→W.cell? ⟨b,5,none⟩=some u5→W.cell? ⟨b,6,none⟩=some u6→G):G:=by
 obtain ⟨W0,e0⟩:=exF (w.setCell ⟨b,0,none⟩ u0)
 have h0:W0.heap[b]? = some (.cells #[u0,x1,x2,x3,x4,x5,x6] t):=by rw [e0]; exact heap_setCell_same w b 0 _ t u0 h
 have k0:KeepX t w W0:=by rw [e0]; exact KeepX.trans (KeepX.refl t w) (KeepX.setCell (p:=⟨b,0,none⟩) h u0)
 have b0:∀ (B:Nat) (w0:World),B≤b→Below B w0 w→Below B w0 W0:=fun B w0 hB hw=>by rw [e0]; exact (hw).setCell (p:=⟨b,0,none⟩) hB _
 obtain ⟨W1,e1⟩:=exF (W0.setCell ⟨b,1,none⟩ u1)
 have h1:W1.heap[b]? = some (.cells #[u0,u1,x2,x3,x4,x5,x6] t):=by rw [e1]; exact heap_setCell_same W0 b 1 _ t u1 h0
 have k1:KeepX t w W1:=by rw [e1]; exact KeepX.trans k0 (KeepX.setCell (p:=⟨b,1,none⟩) h0 u1)
 have b1:∀ (B:Nat) (w0:World),B≤b→Below B w0 w→Below B w0 W1:=fun B w0 hB hw=>by rw [e1]; exact (b0 B w0 hB hw).setCell (p:=⟨b,1,none⟩) hB _
 obtain ⟨W2,e2⟩:=exF (W1.setCell ⟨b,2,none⟩ u2)
 have h2:W2.heap[b]? = some (.cells #[u0,u1,u2,x3,x4,x5,x6] t):=by rw [e2]; exact heap_setCell_same W1 b 2 _ t u2 h1
 have k2:KeepX t w W2:=by rw [e2]; exact KeepX.trans k1 (KeepX.setCell (p:=⟨b,2,none⟩) h1 u2)
 have b2:∀ (B:Nat) (w0:World),B≤b→Below B w0 w→Below B w0 W2:=fun B w0 hB hw=>by rw [e2]; exact (b1 B w0 hB hw).setCell (p:=⟨b,2,none⟩) hB _
 obtain ⟨W3,e3⟩:=exF (W2.setCell ⟨b,3,none⟩ u3)
 have h3:W3.heap[b]? = some (.cells #[u0,u1,u2,u3,x4,x5,x6] t):=by rw [e3]; exact heap_setCell_same W2 b 3 _ t u3 h2
 have k3:KeepX t w W3:=by rw [e3]; exact KeepX.trans k2 (KeepX.setCell (p:=⟨b,3,none⟩) h2 u3)
 have b3:∀ (B:Nat) (w0:World),B≤b→Below B w0 w→Below B w0 W3:=fun B w0 hB hw=>by rw [e3]; exact (b2 B w0 hB hw).setCell (p:=⟨b,3,none⟩) hB _
 obtain ⟨W4,e4⟩:=exF (W3.setCell ⟨b,4,none⟩ u4)
 have h4:W4.heap[b]? = some (.cells #[u0,u1,u2,u3,u4,x5,x6] t):=by rw [e4]; exact heap_setCell_same W3 b 4 _ t u4 h3
 have k4:KeepX t w W4:=by rw [e4]; exact KeepX.trans k3 (KeepX.setCell (p:=⟨b,4,none⟩) h3 u4)
 have b4:∀ (B:Nat) (w0:World),B≤b→Below B w0 w→Below B w0 W4:=fun B w0 hB hw=>by rw [e4]; exact (b3 B w0 hB hw).setCell (p:=⟨b,4,none⟩) hB _
 obtain ⟨W5,e5⟩:=exF (W4.setCell ⟨b,5,none⟩ u5)
 have h5:W5.heap[b]? = some (.cells #[u0,u1,u2,u3,u4,u5,x6] t):=by rw [e5]; exact heap_setCell_same W4 b 5 _ t u5 h4
 have k5:KeepX t w W5:=by rw [e5]; exact KeepX.trans k4 (KeepX.setCell (p:=⟨b,5,none⟩) h4 u5)
 have b5:∀ (B:Nat) (w0:World),B≤b→Below B w0 w→Below B w0 W5:=fun B w0 hB hw=>by rw [e5]; exact (b4 B w0 hB hw).setCell (p:=⟨b,5,none⟩) hB _
 obtain ⟨W6,e6⟩:=exF (W5.setCell ⟨b,6,none⟩ u6)
 have h6:W6.heap[b]? = some (.cells #[u0,u1,u2,u3,u4,u5,u6] t):=by rw [e6]; exact heap_setCell_same W5 b 6 _ t u6 h5
 have k6:KeepX t w W6:=by rw [e6]; exact KeepX.trans k5 (KeepX.setCell (p:=⟨b,6,none⟩) h5 u6)
 have b6:∀ (B:Nat) (w0:World),B≤b→Below B w0 w→Below B w0 W6:=fun B w0 hB hw=>by rw [e6]; exact (b5 B w0 hB hw).setCell (p:=⟨b,6,none⟩) hB _
 exact k W6 (by rw [e6,e5,e4,e3,e2,e1,e0]) b6 k6 h6 (box_cell h6 rfl) (box_cell h6 rfl) (box_cell h6 rfl) (box_cell h6 rfl) (box_cell h6 rfl) (box_cell h6 rfl) (box_cell h6 rfl)
theorem storeEnd8 {w:World} {b:Nat} {t:TypeId} {x0 x1 x2 x3 x4 x5 x6 x7 u0 u1 u2 u3 u4 u5 u6 u7:Value} {G:Prop} (h:w.heap[b]? = some (.cells #[x0,x1,x2,x3,x4,x5,x6,x7] t))
  (k:∀ W,W=((((((((w.setCell ⟨b,0,none⟩ u0).setCell ⟨b,1,none⟩ u1).setCell ⟨b,2,none⟩ u2).setCell ⟨b,3,none⟩ u3).setCell ⟨b,4,none⟩ u4).setCell ⟨b,5,none⟩ u5).setCell ⟨b,6,none⟩ u6).setCell ⟨b,7,none⟩ u7)→(∀ (B:Nat) (w0:World),B≤b→Below B w0 w→Below B w0 W)→KeepX t w W→W.heap[b]? = some (.cells #[u0,u1,u2,u3,u4,u5,u6,u7] t)→
   W.cell? ⟨b,0,none⟩=some u0→W.cell? ⟨b,1,none⟩=some u1→W.cell? ⟨b,2,none⟩=some u2→W.cell? ⟨b,3,none⟩=some u3→W.cell? ⟨b,4,none⟩=some u4→W.cell? ⟨b,5,none⟩=some u5→W.cell? ⟨b,6,none⟩=some u6→W.cell? ⟨b,7,none⟩=some u7→G):G:=by
 obtain ⟨W0,e0⟩:=exF (w.setCell ⟨b,0,none⟩ u0)
 have h0:W0.heap[b]? = some (.cells #[u0,x1,x2,x3,x4,x5,x6,x7] t):=by rw [e0]; exact heap_setCell_same w b 0 _ t u0 h
 have k0:KeepX t w W0:=by rw [e0]; exact KeepX.trans (KeepX.refl t w) (KeepX.setCell (p:=⟨b,0,none⟩) h u0)
 have b0:∀ (B:Nat) (w0:World),B≤b→Below B w0 w→Below B w0 W0:=fun B w0 hB hw=>by rw [e0]; exact (hw).setCell (p:=⟨b,0,none⟩) hB _
 obtain ⟨W1,e1⟩:=exF (W0.setCell ⟨b,1,none⟩ u1)
 have h1:W1.heap[b]? = some (.cells #[u0,u1,x2,x3,x4,x5,x6,x7] t):=by rw [e1]; exact heap_setCell_same W0 b 1 _ t u1 h0
 have k1:KeepX t w W1:=by rw [e1]; exact KeepX.trans k0 (KeepX.setCell (p:=⟨b,1,none⟩) h0 u1)
 have b1:∀ (B:Nat) (w0:World),B≤b→Below B w0 w→Below B w0 W1:=fun B w0 hB hw=>by rw [e1]; exact (b0 B w0 hB hw).setCell (p:=⟨b,1,none⟩) hB _
 obtain ⟨W2,e2⟩:=exF (W1.setCell ⟨b,2,none⟩ u2)
 have h2:W2.heap[b]? = some (.cells #[u0,u1,u2,x3,x4,x5,x6,x7] t):=by rw [e2]; exact heap_setCell_same W1 b 2 _ t u2 h1
 have k2:KeepX t w W2:=by rw [e2]; exact KeepX.trans k1 (KeepX.setCell (p:=⟨b,2,none⟩) h1 u2)
 have b2:∀ (B:Nat) (w0:World),B≤b→Below B w0 w→Below B w0 W2:=fun B w0 hB hw=>by rw [e2]; exact (b1 B w0 hB hw).setCell (p:=⟨b,2,none⟩) hB _
 obtain ⟨W3,e3⟩:=exF (W2.setCell ⟨b,3,none⟩ u3)
 have h3:W3.heap[b]? = some (.cells #[u0,u1,u2,u3,x4,x5,x6,x7] t):=by rw [e3]; exact heap_setCell_same W2 b 3 _ t u3 h2
 have k3:KeepX t w W3:=by rw [e3]; exact KeepX.trans k2 (KeepX.setCell (p:=⟨b,3,none⟩) h2 u3)
 have b3:∀ (B:Nat) (w0:World),B≤b→Below B w0 w→Below B w0 W3:=fun B w0 hB hw=>by rw [e3]; exact (b2 B w0 hB hw).setCell (p:=⟨b,3,none⟩) hB _
 obtain ⟨W4,e4⟩:=exF (W3.setCell ⟨b,4,none⟩ u4)
 have h4:W4.heap[b]? = some (.cells #[u0,u1,u2,u3,u4,x5,x6,x7] t):=by rw [e4]; exact heap_setCell_same W3 b 4 _ t u4 h3
 have k4:KeepX t w W4:=by rw [e4]; exact KeepX.trans k3 (KeepX.setCell (p:=⟨b,4,none⟩) h3 u4)
 have b4:∀ (B:Nat) (w0:World),B≤b→Below B w0 w→Below B w0 W4:=fun B w0 hB hw=>by rw [e4]; exact (b3 B w0 hB hw).setCell (p:=⟨b,4,none⟩) hB _
 obtain ⟨W5,e5⟩:=exF (W4.setCell ⟨b,5,none⟩ u5)
 have h5:W5.heap[b]? = some (.cells #[u0,u1,u2,u3,u4,u5,x6,x7] t):=by rw [e5]; exact heap_setCell_same W4 b 5 _ t u5 h4
 have k5:KeepX t w W5:=by rw [e5]; exact KeepX.trans k4 (KeepX.setCell (p:=⟨b,5,none⟩) h4 u5)
 have b5:∀ (B:Nat) (w0:World),B≤b→Below B w0 w→Below B w0 W5:=fun B w0 hB hw=>by rw [e5]; exact (b4 B w0 hB hw).setCell (p:=⟨b,5,none⟩) hB _
 obtain ⟨W6,e6⟩:=exF (W5.setCell ⟨b,6,none⟩ u6)
 have h6:W6.heap[b]? = some (.cells #[u0,u1,u2,u3,u4,u5,u6,x7] t):=by rw [e6]; exact heap_setCell_same W5 b 6 _ t u6 h5
 have k6:KeepX t w W6:=by rw [e6]; exact KeepX.trans k5 (KeepX.setCell (p:=⟨b,6,none⟩) h5 u6)
 have b6:∀ (B:Nat) (w0:World),B≤b→Below B w0 w→Below B w0 W6:=fun B w0 hB hw=>by rw [e6]; exact (b5 B w0 hB hw).setCell (p:=⟨b,6,none⟩) hB _
 obtain ⟨W7,e7⟩:=exF (W6.setCell ⟨b,7,none⟩ u7)
 have h7:W7.heap[b]? = some (.cells #[u0,u1,u2,u3,u4,u5,u6,u7] t):=by rw [e7]; exact heap_setCell_same W6 b 7 _ t u7 h6
 have k7:KeepX t w W7:=by rw [e7]; exact KeepX.trans k6 (KeepX.setCell (p:=⟨b,7,none⟩) h6 u7)
 have b7:∀ (B:Nat) (w0:World),B≤b→Below B w0 w→Below B w0 W7:=fun B w0 hB hw=>by rw [e7]; exact (b6 B w0 hB hw).setCell (p:=⟨b,7,none⟩) hB _
 exact k W7 (by rw [e7,e6,e5,e4,e3,e2,e1,e0]) b7 k7 h7 (box_cell h7 rfl) (box_cell h7 rfl) (box_cell h7 rfl) (box_cell h7 rfl) (box_cell h7 rfl) (box_cell h7 rfl) (box_cell h7 rfl) (box_cell h7 rfl)
end Go.Proofs.YtmikofeildnpdaaGreat

/- Whole structs stored into boxes. -/
namespace Go.Proofs.YtmikofeildnpdaaGreat
open Go.RowKit
theorem storeEnd2 {w:World} {b:Nat} {t:TypeId} {x0 x1 u0 u1:Value} {G:Prop} (h:w.heap[b]? = some (.cells #[x0,x1] t))
  (k:∀ W,W=((w.setCell ⟨b,0,none⟩ u0).setCell ⟨b,1,none⟩ u1)→(∀ (B:Nat) (w0:World),B≤b→Below B w0 w→Below B w0 W)→KeepX t w W→W.heap[b]? = some (.cells #[u0,u1] t)→
   W.cell? ⟨b,0,none⟩=some u0→W.cell? ⟨b,1,none⟩=some u1→G):G:=by
 obtain ⟨W0,e0⟩:=exF (w.setCell ⟨b,0,none⟩ u0)
 have h0:W0.heap[b]? = some (.cells #[u0,x1] t):=by rw [e0]; exact heap_setCell_same w b 0 _ t u0 h
 have k0:KeepX t w W0:=by rw [e0]; exact KeepX.trans (KeepX.refl t w) (KeepX.setCell (p:=⟨b,0,none⟩) h u0)
 have b0:∀ (B:Nat) (w0:World),B≤b→Below B w0 w→Below B w0 W0:=fun B w0 hB hw=>by rw [e0]; exact (hw).setCell (p:=⟨b,0,none⟩) hB _
 obtain ⟨W1,e1⟩:=exF (W0.setCell ⟨b,1,none⟩ u1)
 have h1:W1.heap[b]? = some (.cells #[u0,u1] t):=by rw [e1]; exact heap_setCell_same W0 b 1 _ t u1 h0
 have k1:KeepX t w W1:=by rw [e1]; exact KeepX.trans k0 (KeepX.setCell (p:=⟨b,1,none⟩) h0 u1)
 have b1:∀ (B:Nat) (w0:World),B≤b→Below B w0 w→Below B w0 W1:=fun B w0 hB hw=>by rw [e1]; exact (b0 B w0 hB hw).setCell (p:=⟨b,1,none⟩) hB _
 exact k W1 (by rw [e1,e0]) b1 k1 h1 (box_cell h1 rfl) (box_cell h1 rfl)
end Go.Proofs.YtmikofeildnpdaaGreat

/- symmetry.Orbits. -/
namespace Go.Proofs.YtmikofeildnpdaaGreat
open Go.RowKit
theorem elemBl:ElemOK Tryz.prog 106 4 (.bool false) 1:=⟨by kernel_rfl,by kernel_rfl,rfl⟩
theorem bMake {w:World} {ops:Array Oper} {rest:List Oper} {o:Oper} {a:Act} {Q:Exit→Act→World→Prop} (hgd:o.guard=none) (l c:Operand)
  (ho:o.op = .makeSlice 106 l c) (n:Nat) (hl:a.eval l = .int .i64 (n:Int)) (hc:a.eval c = .int .i64 (n:Int)) (hn:n≤1000000000000) {B:Nat} (hB:B≤w.heap.size)
  (h:∀ w',OB w' B (.slice (some ⟨w.heap.size,0,none⟩) n n) n (List.replicate n false)→w.grownBy w' none→Below w.heap.size w w'→wpList Tryz.prog ops Q rest (a.put o.dst (.slice (some ⟨w.heap.size,0,none⟩) n n)) w') :
  wpList Tryz.prog ops Q (o::rest) a w:=
 wpMake elemBl (by decide) hgd l c ho n hl hc hn hB fun w' h1 h2 h3=>h w' (by unfold OB; rw [List.map_replicate]; exact h1) h2 h3
theorem OB.cellB {w:World} {B g n cap:Nat} {xs:List Bool} (h:OB w B (.slice (some ⟨g,0,none⟩) n cap) n xs) {j:Nat} (hj:j < n):w.cell? ⟨g,j,none⟩=some (.bool (xs.getD j false)):=by
 have hl:=h.length
 rw [World.ownsRow.cellAt h j (by omega)]
 simp [show j < xs.length by omega]
theorem OB.freeB {w:World} {B g n cap:Nat} {xs:List Bool} (h:OB w B (.slice (some ⟨g,0,none⟩) n cap) n xs) (j:Nat):w.frozen? ⟨g,j,none⟩=false:=World.ownsRow.frozenAt h j
theorem OB.same {w w':World} {B g n cap:Nat} {xs:List Bool} (h:OB w B (.slice (some ⟨g,0,none⟩) n cap) n xs) (hk:w'.heap[g]? = w.heap[g]?):OB w' B (.slice (some ⟨g,0,none⟩) n cap) n xs:=by
 refine ⟨h.1,?_⟩
 rcases h.2 with h' | ⟨g',c',cur,he,h2,h3,h4⟩
 ·exact .inl h'
 ·injection he with e1 e2 e3
  injection e1 with e1
  injection e1 with e1
  subst e1
  exact .inr ⟨g,c',cur,by rw [e3],h2,hk.trans h3,h4⟩
theorem OB.lt {w:World} {B g n cap:Nat} {xs:List Bool} (h:OB w B (.slice (some ⟨g,0,none⟩) n cap) n xs):g < w.heap.size∧∃ cs,w.heap[g]? = some (.cells cs 4):=by
 obtain ⟨cs,hc⟩:=ownsRow_ty h g rfl
 exact ⟨(Array.getElem?_eq_some_iff.1 hc).1,cs,hc⟩
theorem OII.otherX {w w':World} {B n:Nat} {v:Value} {xss:List (List Int)} {E':TypeId} (h:OII w B v n xss) (h1:25 ≠ E') (h2:3 ≠ E') (hx:KeepX E' w w'):OII w' B v n xss:=by
 obtain ⟨vs,k1,k2,k3,k4⟩:=h
 exact ⟨vs,ownsRow_X k1 h1 hx,k2,k3,fun j hj=>ownsRow_X (k4 j hj) h2 hx⟩
theorem keepB {w w':World} {g:Nat} {cs:Array Value} (hg:w.heap[g]? = some (.cells cs 4)) (h:Only (fun k=>k=g) w w'):KeepX 4 w w':=fun k cs' t hk ht=>by
 refine h.same k (Array.getElem?_eq_some_iff.1 hk).1 fun e=>?_
 have e:k=g:=e
 rw [e,hg] at hk
 injection hk with hk
 injection hk with _ hk
 exact ht hk.symm
theorem sortL_len21 (xs:List Int):(sortL xs).length=xs.length:=by simp [sortL,List.length_mergeSort]
theorem genR_grp {k:Nat} {l:List (List Int)} (hz:chkList k l=0):Grp k (genR k l)∧(1≤k∧k≤5)∧(∀ a∈l,IsP k a)∧∃ G,clGo l 3126 0 [oneL k]=some G∧InvG k G∧∀ x,x∈genR k l↔x∈G:=by
 obtain ⟨hn,hl,hP⟩:=chkList_ok hz
 have h1:1≤k:=by omega
 have h5:k≤5:=by omega
 rw [Int.toNat_natCast] at hP
 obtain ⟨G,hG,hI⟩:=clGo_start (n:=k) h5 hP
 obtain ⟨hGr,hgen⟩:=closure_grp h5 hP hG hI
 have hm:∀ x,x∈genR k l↔x∈G:=fun x=>by
  rw [genR,if_pos hz,Int.toNat_natCast,List.mem_filter,decide_eq_true_iff,closL,hG,Option.getD_some]
  exact ⟨fun h=>h.2,fun h=>⟨mem_everyL.2 (hI.2 x h),h⟩⟩
 refine ⟨⟨?_,fun y hy=>hGr.isP y ((hm y).1 hy),(hm _).2 hGr.one,fun y hy z hz=>(hm _).2 (hGr.mul y ((hm y).1 hy) z ((hm z).1 hz))⟩,⟨h1,h5⟩,hP,G,hG,hI,hm⟩
 rw [genR,if_pos hz,Int.toNat_natCast]
 exact (every_nodup k h5).filter _
theorem genR_len {k:Nat} {l:List (List Int)} (hz:chkList k l=0) (h5:k≤5):(genR k l).length≤1000:=by
 rw [genR,if_pos hz,Int.toNat_natCast]
 refine Nat.le_trans (List.length_filter_le _ _) ?_
 have:k=0∨k=1∨k=2∨k=3∨k=4∨k=5:=by omega
 rcases this with rfl | rfl | rfl | rfl | rfl | rfl <;> decide +kernel
open Go.Sort in
theorem sortI21 {w:World} {B n:Nat} {v:Value} {xs:List Int} (h:OI w B v n xs) (hn:0 < n) (hn2:n≤1000) :
  Calls Tryz.prog 61 #[v] w fun e w'=>e = .returned (.tuple #[])∧OI w' B v n (sortL xs)∧Below B w w'∧w.grownBy w' v.ownBlock:=by
 have hne:v ≠ .slice none 0 0:=by
  rintro rfl
  rcases h.2 with ⟨_,h0⟩ | ⟨g,cap,cur,h1,_⟩
  ·omega
  ·cases h1
 obtain ⟨g,cap,rfl,hB,hg,hnc,hcm,hl,hH⟩:=Lib.holds_of_ownsRow h hne
 have hc:=AnyM.slices_Sort_int Tryz.sortI g 0 cap xs w hH hg (by omega)
 rw [hl] at hc
 refine hc.mono ?_
 rintro e w' ⟨rfl,q,os,rfl⟩
 have h1:=Lib.ownsRow_putRow (q:=q) (k:=n) (ys:=sortL xs) h (by rw [sortL_len21,hl]) (Nat.le_refl _)
 have ht:(sortL xs).take n=sortL xs:=List.take_of_length_le (by rw [sortL_len21]; omega)
 rw [ht] at h1
 have h2:OI (grow (putRow (Value.int .i64) (Sort.ahead w q) g 0 (sortL xs).toArray) os) B (.slice (some ⟨g,0,none⟩) n cap) n (sortL xs):=OI.keep h1 ⟨rfl,rfl,rfl,by simp [grow],fun k hk=>Array.getElem?_append_left hk⟩
 have hgb:=grownBy_sortedI (w:=w) (g:=g) (n:=q) (os:=os) (sortL xs).toArray
 refine ⟨rfl,h2,(Below.refl B w).grown hgb ?_ ?_,hgb⟩
 ·omega
 ·intro k hk; injection hk with hk; omega
theorem obIn_cons (p:Nat) (g:List Int) (G:List (List Int)) (S:List Bool) (o:List Int):obIn p (g::G) (S,o)=obIn p G (if S.getD (g.getD p 0).toNat false then (S,o) else (S.set (g.getD p 0).toNat true,o ++ [g.getD p 0])):=rfl
theorem obIn_len (p:Nat):∀ (G:List (List Int)) (S:List Bool) (o:List Int),(obIn p G (S,o)).1.length=S.length
 | [],_,_=>rfl
 | g::G,S,o=>by
  rw [obIn_cons]
  split
  ·exact obIn_len p G S o
  ·rw [obIn_len p G,List.length_set]
theorem obIn_le (p:Nat):∀ (G:List (List Int)) (S:List Bool) (o:List Int),(obIn p G (S,o)).2.length≤o.length+G.length
 | [],_,_=>by simp [obIn]
 | g::G,S,o=>by
  rw [obIn_cons,List.length_cons]
  split
  ·have:=obIn_le p G S o; omega
  ·have:=obIn_le p G (S.set (g.getD p 0).toNat true) (o ++ [g.getD p 0]); rw [List.length_append] at this; simp only [List.length_cons,List.length_nil] at this; omega
theorem obIn_pos {n p:Nat} {G:List (List Int)} (hG:Grp n G) (hp:p < n) {S:List Bool} (hS:S.length=n) (hs:S.getD p false=false):0 < (obIn p G (S,[])).2.length:=by
 obtain ⟨_,_,_,i4⟩:=obIn_spec hp (L:=G) (S:=S) (o:=[]) hG.isP hS
 have:=(i4 (p:Int)).2 (.inr ⟨ob_refl hG hp,by rw [Int.toNat_natCast]; exact hs⟩)
 exact List.length_pos_of_mem this
theorem obGo_skip (G:List (List Int)) (k p:Nat) {S:List Bool} (o:List (List Int)) (h:S.getD p false=true):obGo G (k+1) p (S,o)=obGo G k (p+1) (S,o):=by rw [obGo,if_pos h]
theorem obGo_take (G:List (List Int)) (k p:Nat) {S:List Bool} (o:List (List Int)) (h:S.getD p false=false):obGo G (k+1) p (S,o)=obGo G k (p+1) ((obIn p G (S,[])).1,o ++ [sortL (obIn p G (S,[])).2]):=by rw [obGo,if_neg (by rw [h]; decide)]
def obsR (n:Int) (l:List (List Int)):List (List Int):=if chkList n l=0 then orbP (genR n l) n.toNat else []
theorem orbitsC {w:World} {v:Value} {l:List (List Int)} (n:Int) (h:Intss w v l):Calls Tryz.prog 22 #[.int .i64 n,v] w (RII w (obsR n l) (chkList n l)):=by
 have HG:=Lib.hid (generate n h)
 obtain ⟨va,vc,hv⟩:∃ a c,v = .slice a l.length c:=by obtain ⟨a,c,_,_,h,_⟩:=h; exact ⟨a,c,h⟩
 subst hv
 clear h
 obtain ⟨E,hE⟩:=exE (chkList n l)
 rw [hE] at HG
 by_cases h0:E=0
 ·subst h0
  obtain ⟨k,rfl⟩:∃ k:Nat,n=(k:Int):=⟨n.toNat,by have:=(chkList_ok hE).1; omega⟩
  obtain ⟨hGr,⟨h1,h5⟩,_⟩:=genR_grp hE
  have hGl:=genR_len hE h5
  have hR:obsR k l=orbP (genR k l) k:=by rw [obsR,if_pos hE,Int.toNat_natCast]
  rw [hR,hE]
  obtain ⟨G,hGG⟩:=exE (genR k l)
  rw [hGG] at HG hGr hGl ⊢
  have hgp:=Lib.hid hGr
  have hg0:Hid (∀ (g:List Int),g∈G→∀ p,p < k→∃ q:Nat,g.getD p 0=(q:Int)∧q < k∧g.length=k):=fun g hg p hp=>by
   have hP:=hGr.isP g hg
   have:=hP.at hp
   exact ⟨(g.getD p 0).toNat,by omega,by omega,hP.1⟩
  clear hR hE hGG hGr
  go_enter Tryz.func22, Tryz.ntmps22
  go_wp2_with fail
  refine HG.out.mono ?_
  rintro e W3 ⟨r,rfl,hO,hb3⟩
  obtain ⟨ra,rc,rfl⟩:=hO.shape
  have hOk:=Lib.hid hO
  clear hO HG
  go_wp2_with (at_make; refine bMake rfl _ _ rfl k rfl rfl (by omega) (Nat.le_refl _) ?_; intro W4 ho4 _ hb4)
  obtain ⟨gs,hgs⟩:=exF (W3.heap.size)
  rw [← hgs] at ho4 hb4 ⊢
  have hgl:gs≤W3.heap.size∧W3.heap.size≤gs:=by omega
  have hout0:OII W4 (gs+1) (.slice none 0 0) ([]:List (List Int)).length []:=OII.nil _ _
  have hst0:Hid (obGo G (k - 0) 0 (List.replicate k false,[])=orbP G k):=rfl
  replace hb4:Below gs W3 W4:=hb4
  replace hgs:=Lib.hid hgs
  go_loopw [9,26] (fun ov pv wr=>∃ (p:Nat) (S:List Bool) (o:List (List Int)),pv = .int .i64 (p:Int)∧p≤k∧OB wr gs (.slice (some ⟨gs,0,none⟩) k k) k S∧OII wr (gs+1) ov o.length o∧Below gs W3 wr∧Hid (obGo G (k - p) p (S,o)=orbP G k)∧gs+1≤wr.heap.size∧o.length≤p) (fun _ pv _=>k - (intOf pv).toNat)
  case atStart=>exact ⟨0,_,[],rfl,Nat.zero_le _,ho4,hout0,hb4,hst0,ho4.lt.1,Nat.le_refl _⟩
  case round=>
   clear ho4 hout0 hb4 hst0
   obtain ⟨p,S,o,rfl,hp,hS,ho,hbr,hst,hsz,hol⟩:=hrel
   obtain ⟨oa,oc,hov⟩:=ho.shape
   subst hov
   have hSl:=hS.length
   by_cases hlt:p < k
   ·have hltI:(p:Int) < (k:Int):=by omega
    have cs:=hS.cellB hlt
    obtain ⟨b,hb⟩:=exE (S.getD p false)
    rw [hb] at cs
    obtain ⟨f,hf⟩:∃ f,k - p=f+1:=⟨k - p - 1,by omega⟩
    have hf2:k - (p+1)=f:=by omega
    cases b with
    | true=>
     have hst2:Hid (obGo G (k - (p+1)) (p+1) (S,o)=orbP G k):=by
      have:=hst.out
      rw [hf,obGo_skip G f p o hb,← hf2] at this
      exact this
     clear hst hb hf hf2
     go_wp2_with fail
     go_roundw
     case rel=>exact ⟨p+1,S,o,by go_num,by omega,hS,ho,hbr,hst2,hsz,by omega⟩
     case measure=>simp [intOf]; omega
    | false=>
     have hst2:Hid (obGo G (k - (p+1)) (p+1) ((obIn p G (S,[])).1,o ++ [sortL (obIn p G (S,[])).2])=orbP G k):=by
      have:=hst.out
      rw [hf,obGo_take G f p o hb,← hf2] at this
      exact this
     have hpos:=obIn_pos hgp.out hlt hSl hb
     have hle:=obIn_le p G S []
     have hle2:=obIn_len p G S []
     obtain ⟨S',hS'⟩:∃ S',(obIn p G (S,[])).1=S':=⟨_,rfl⟩
     obtain ⟨o',ho'⟩:∃ o',(obIn p G (S,[])).2=o':=⟨_,rfl⟩
     rw [hS'] at hst2 hle2
     rw [ho'] at hst2 hpos hle
     simp only [List.length_nil,Nat.zero_add] at hle
     have hin0:Hid (obIn p (G.drop 0) (S,[])=(S',o')):=by
      show obIn p G (S,[])=(S',o')
      rw [← hS',← ho']
     obtain ⟨wo,hwo⟩:=exF (wr)
     subst hwo
     have hOr:=hOk.out
     have hri0:OI wo wo.heap.size (.slice none 0 0) ([]:List Int).length []:=OI.nil _ _
     have hon0:=Only.refl (fun k=>k=gs) wo
     obtain ⟨hgs2,csb,hcsb⟩:=hS.lt
     replace hst2:=Lib.hid hst2
     replace hSl:=Lib.hid hSl
     replace hle2:=Lib.hid hle2
     clear hst hb hf hf2 hS' ho'
     go_wp2_with fail
     go_loopw [11,35] (fun rv jv wr=>∃ (j:Nat) (T:List Bool) (q:List Int),jv = .int .i64 (j:Int)∧j≤G.length∧OB wr gs (.slice (some ⟨gs,0,none⟩) k k) k T∧OI wr wo.heap.size rv q.length q∧Only (fun k=>k=gs) wo wr∧Hid (obIn p (G.drop j) (T,q)=(S',o'))∧q.length≤j) (fun _ jv _=>G.length - (intOf jv).toNat)
     case atStart=>exact ⟨0,S,[],rfl,Nat.zero_le _,hS,hri0,hon0,hin0,Nat.le_refl _⟩
     case round=>
      clear hS hri0 hon0 hin0
      obtain ⟨j,T,q,rfl,hj,hT,hq,hon,hin,hql⟩:=hrel
      obtain ⟨qa,qc,hqv⟩:=hq.shape
      subst hqv
      have hbr2:Below gs W3 wr:=hbr.trans (hon.below (by omega) (fun k hk=>by have hk:k=gs:=hk; omega))
      by_cases hltj:j < G.length
      ·have hltJ:(j:Int) < (G.length:Int):=by omega
       obtain ⟨g,cap,he⟩:=hOk.out.form2 (by omega)
       obtain ⟨rfl,rfl⟩:ra=some ⟨g,0,none⟩∧rc=cap:=by injection he with h1 h2 h3; exact ⟨h1,h3⟩
       obtain ⟨u,hcu,hu⟩:=OII.get (hOk.out.keep (hbr2.mono hgl.2)) hltj
       obtain ⟨x,hx⟩:=exE (G.getD j [])
       obtain ⟨y,hxy,hyk,hxl⟩:=hg0.out x (by rw [← hx]; exact getD_mem hltj) p hlt
       have hin2:=hin.out
       rw [drop_cons hltj ([]:List Int),hx,obIn_cons,hxy,Int.toNat_natCast] at hin2
       rw [hx,hxl] at hu
       obtain ⟨ua,uc,huv⟩:=hu.shape
       subst huv
       have hpos1:0 < k:=by omega
       obtain ⟨g1,rfl⟩:∃ g1,ua=some ⟨g1,0,none⟩:=by
        rcases hu.2 with ⟨_,h0⟩ | ⟨g1,c1,cur,he1,_⟩
        ·omega
        ·injection he1 with e1 _ _; exact ⟨g1,e1⟩
       have c1:=hu.cell hlt
       rw [hxy] at c1
       have c2:=hT.cellB hyk
       obtain ⟨t,ht⟩:=exE (T.getD y false)
       rw [ht] at c2 hin2
       have hyI:(y:Int) < (k:Int):=by omega
       have hy0:(0:Int)≤(y:Int):=by omega
       obtain ⟨hgT,csT,hcsT⟩:=hT.lt
       cases t with
       | true=>
        rw [if_pos rfl] at hin2
        replace hin2:=Lib.hid hin2
        clear hx hxy hxl ht he hin
        go_wp2_with fail
        go_roundw
        case rel=>exact ⟨j+1,T,q,by go_num,by omega,hT,hq,hon,hin2,by omega⟩
        case measure=>simp [intOf]; omega
       | false=>
        rw [if_neg (by decide)] at hin2
        have fz:=hT.freeB y
        have hT1:=OB.store hT y true
        obtain ⟨W5,hW5⟩:=exF (wr.setCell ⟨gs,y,none⟩ (.bool true))
        rw [← hW5] at hT1
        have hne1:g1 ≠ gs:=fun e=>by
         rcases hu.2 with ⟨_,h0⟩ | ⟨g2,c3,cur,he1,_,hg2,_⟩
         ·omega
         ·injection he1 with e1 _ _
          injection e1 with e1
          injection e1 with e1
          rw [← e1,e,hcsT] at hg2
          injection hg2 with hg2
          injection hg2 with _ hg2
          exact absurd hg2 (by decide)
        have hk5:∀ z,z ≠ gs→W5.heap[z]? = wr.heap[z]?:=fun z hz=>by rw [hW5]; exact Below.heap_setCell _ _ _ _ hz
        have c15:W5.cell? ⟨g1,p,none⟩=some (.int .i64 (y:Int)):=(World.cell?_of_block (hk5 g1 hne1)).trans c1
        have hcu5:W5.cell? ⟨g,j,none⟩=some (.slice (some ⟨g1,0,none⟩) k uc):=by
         refine (World.cell?_of_block (hk5 g fun e=>?_)).trans hcu
         obtain ⟨vs,v1,_⟩:=hOk.out.keep (hbr2.mono hgl.2)
         obtain ⟨cs5,hcs5⟩:=ownsRow_ty v1 g rfl
         rw [e,hcsT] at hcs5
         injection hcs5 with hcs5
         injection hcs5 with _ hcs5
         exact absurd hcs5 (by decide)
        have hon5:Only (fun k=>k=gs) wo W5:=by rw [hW5]; exact hon.setCell (p:=⟨gs,y,none⟩) rfl _
        have hq5:OI W5 wo.heap.size (.slice qa q.length qc) q.length q:=by
         rw [hW5]
         exact ownsRow_X hq (by decide) (KeepX.setCell (p:=⟨gs,y,none⟩) hcsT _)
        replace hin2:=Lib.hid hin2
        have hsz5:wo.heap.size≤W5.heap.size:=hon5.size
        clear hx hxy hxl ht he hin hT hq
        go_upto_region 16 with fail
        rw [← hW5]
        replace hW5:=Lib.hid hW5
        go_wp2_with (at_builtin; refine wpAppI rfl _ _ rfl rfl hq5 rfl (by omega) hsz5 ?_; intro v6 w6 hq6 hg6 hb6)
        have hT6:=hT1.same (hb6.block gs (by omega))
        have hon6:=hon5.thenBelow hb6
        have hq7:OI w6 wo.heap.size v6 (q ++ [(y:Int)]).length (q ++ [(y:Int)]):=by rw [List.length_append]; exact hq6
        clear hq5 hq6 hT1 c15 hcu5
        go_wp2_with fail
        go_roundw
        case rel=>exact ⟨j+1,_,_,by go_num,by omega,hT6,hq7,hon6,hin2,by rw [List.length_append]; simp; omega⟩
        case measure=>simp [intOf]; omega
      ·obtain rfl:j=G.length:=by omega
       have hin2:=hin.out
       rw [List.drop_eq_nil_of_le (Nat.le_refl _)] at hin2
       have hin3:(T,q)=(S',o'):=hin2
       injection hin3 with e1 e2
       subst e1 e2
       have HS:=Lib.hid (sortI21 hq hpos (by omega))
       clear hin hin2
       go_wp2_with fail
       refine HS.out.mono ?_
       rintro e w6 ⟨rfl,hq6,hb6,_⟩
       have hT6:=hT.same (hb6.block gs (by omega))
       have hon6:=hon.thenBelow hb6
       have ho6:=ho.otherX (E':=4) (by decide) (by decide) (keepB hcsb hon6)
       obtain ⟨z,hz⟩:=exE (sortL q)
       have hzl:z.length=q.length:=by rw [← hz,sortL_len21]
       rw [hz] at hq6
       have hst3:=hst2.out
       rw [hz] at hst3
       have hu6:OI w6 0 (.slice qa q.length qc) z.length z:=by rw [hzl]; exact hq6.base (Nat.zero_le _)
       have hsz6:gs+1≤w6.heap.size:=Nat.le_trans hsz hon6.size
       have hbr6:Below gs W3 w6:=hbr2.trans (hb6.mono (by omega))
       replace hst3:=Lib.hid hst3
       replace hz:=Lib.hid hz
       replace hzl:=Lib.hid hzl
       have hol6:o.length≤1000:=by omega
       clear hq hq6 hT ho hst2
       go_wp2_with (at_builtin; refine wpApp1S rfl _ _ rfl rfl ho6 rfl hu6 rfl (by omega) hsz6 ?_; intro v7 w7 ho7 hb7 _)
       have hT7:=hT6.same (hb7.block gs (by omega))
       have ho8:OII w7 (gs+1) v7 (o ++ [z]).length (o ++ [z]):=by rw [List.length_append]; exact ho7
       have hbr7:Below gs W3 w7:=hbr6.trans (hb7.mono (by omega))
       have hsz7:gs+1≤w7.heap.size:=Nat.le_trans hsz6 hb7.size
       have hl7:(o ++ [z]).length≤p+1:=by rw [List.length_append]; simp; omega
       clear hT6 ho6 ho7 hu6
       go_wp2_with fail
       go_roundw
       case rel=>exact ⟨p+1,T,o ++ [z],by go_num,by omega,hT7,ho8,hbr7,hst3,hsz7,hl7⟩
       case measure=>simp [intOf]; omega
   ·obtain rfl:p=k:=by omega
    have hst2:=hst.out
    rw [Nat.sub_self,obGo] at hst2
    replace hst2:=Lib.hid hst2
    have hfin:OII wr w.heap.size (.slice oa o.length oc) (orbP G p).length (orbP G p):=by rw [← hst2.out]; exact ho.base (by have:=hb3.size; omega)
    clear hst ho
    go_wp2
    go_ret2
    exact ⟨_,rfl,hfin,hb3.trans (hbr.mono (by have:=hb3.size; omega))⟩
 ·have hgl:obsR n l = []:=by rw [obsR,if_neg (by rw [hE]; exact h0)]
  have hEb:(E != 0)=true:=by simp [h0]
  rw [hgl,hE]
  clear hgl hE
  go_enter Tryz.func22, Tryz.ntmps22
  go_wp2_with fail
  refine HG.out.mono ?_
  rintro e W3 ⟨r,rfl,hO,hb3⟩
  obtain ⟨ra,rc,rfl⟩:=hO.shape
  clear HG hO
  go_wp2
  go_ret2
  exact ⟨_,rfl,OII.nil _ _,hb3⟩
end Go.Proofs.YtmikofeildnpdaaGreat

/- Texts of this claim, put together: EL FA FT. -/
import Derived.Test.YtiiiegflobihjaaGreatKChainsze
import Derived.Test.YtiiiegflobihjaaGreatKChainszf
import Derived.Test.YtiiiegflobihjaaGreatKChainsk
import Derived.Deep.RegionHeld3
import Derived.Deep.DeepCutAuto
import Derived.Test.YtiiiegflobihjaaGreatKChainsr
import Derived.Test.YtiiiegflobihjaaGreatKChainst
import Derived.Test.YtiiiegflobihjaaGreatKChainszd
import Derived.Deep.CutBlock

/- awake. -/
namespace Go.Proofs.YtiiiegflobihjaaGreat
open Go.RowKit

theorem allc {W : World} {b j : Nat} {v : Value} (h : W.cell? ⟨b, j, none⟩ = some v) : (∀ o, (W.alloc o).cell? ⟨b, j, none⟩ = some v) ∧ (∀ o o', ((W.alloc o).alloc o').cell? ⟨b, j, none⟩ = some v) :=
  ⟨fun o => cell_kept ((Below.refl _ _).alloc (Nat.le_refl _) o) h, fun o o' => cell_kept (((Below.refl _ _).alloc (Nat.le_refl _) o).alloc (by simp) o') h⟩
def exO : List (List (List Int)) := [[rdS ++ [1], rdC ++ [2]], [rdS ++ [1]], [rdC ++ [2]]]
def exT : List (List (List Int)) := [[rdC ++ [1]], [rdC ++ [2]], [rdS ++ [2]]]
def exF : List (List (List Int)) := [[rdF ++ [1]], [rdF ++ [2]], [rdH ++ [2]]]
theorem orEx {W : World} {a5 aB : Option Addr} {c5 cB : Nat} (hA : AdvV W (.agg #[.int .i64 2, .slice a5 1 c5]) 2 (alw1 rdC)) (hB : AdvV W (.agg #[.int .i64 2, .slice aB 1 cB]) 2 (alw1 rdS)) :
    Calls Tryz.prog 10 #[.agg #[.int .i64 2, .slice a5 1 c5], .agg #[.int .i64 2, .slice aB 1 cB]] W fun e W' => ∃ a6 c6, e = .returned (.tuple #[.agg #[.int .i64 2, .slice a6 3 c6], .int .i64 0]) ∧ OwAdv W' (.agg #[.int .i64 2, .slice a6 3 c6]) 2 exO ∧ Below W.heap.size W W' := by
  have h := orGood hA hB (by decide) (by decide) (eq_err chk_C chk_S) (alw_S rfl chk_C).ok (alw_S rfl chk_S).ok
  rw [ex_or] at h
  refine h.mono ?_
  rintro e W' ⟨u, rfl, h1, h2⟩
  obtain ⟨a, c, rfl⟩ := h1.shp (k := 3) rfl
  exact ⟨a, c, rfl, h1, h2⟩
theorem andEx {W : World} {a5 aB : Option Addr} {c5 cB : Nat} (hA : AdvV W (.agg #[.int .i64 2, .slice a5 1 c5]) 2 (alw1 rdC)) (hB : AdvV W (.agg #[.int .i64 2, .slice aB 1 cB]) 2 (alw1 rdS)) :
    Calls Tryz.prog 13 #[.agg #[.int .i64 2, .slice a5 1 c5], .agg #[.int .i64 2, .slice aB 1 cB]] W fun e W' => e = .returned (.tuple #[.agg #[.int .i64 0, .slice none 0 0], .int .i64 16]) ∧ Below W.heap.size W W' := by
  have h := andGood hA hB (by decide) (by decide) (eq_err chk_C chk_S) (alw_S rfl chk_C).ok (alw_S rfl chk_S).ok
  rw [ex_and] at h
  refine h.mono ?_
  intro e W' h1
  have h1 : (if (lvA [[]]).getD 0 false = true then BdOut W 2 (lvR [[]]) e W' else e = .returned (.tuple #[.agg #[.int .i64 0, .slice none 0 0], .int .i64 16]) ∧ Below W.heap.size W W') := h1
  rw [if_neg (by rw [ex_live]; decide)] at h1
  exact h1
theorem thenEx2 {W : World} {a5 aB : Option Addr} {c5 cB : Nat} (hA : AdvV W (.agg #[.int .i64 2, .slice a5 1 c5]) 2 (alw1 rdC)) (hB : AdvV W (.agg #[.int .i64 2, .slice aB 1 cB]) 2 (alw1 rdS)) :
    Calls Tryz.prog 15 #[.agg #[.int .i64 2, .slice a5 1 c5], .int .i64 2, .agg #[.int .i64 2, .slice aB 1 cB]] W fun e W' => ∃ a6 c6, e = .returned (.tuple #[.agg #[.int .i64 2, .slice a6 3 c6], .int .i64 0]) ∧ OwAdv W' (.agg #[.int .i64 2, .slice a6 3 c6]) 2 exT ∧ Below W.heap.size W W' := by
  have h := thenGood (k := 2) hA hB (by decide) (by decide) (eq_err chk_C chk_S) (alw_S rfl chk_C) (alw_S rfl chk_S) (by decide)
  rw [ex_then] at h
  refine h.mono ?_
  rintro e W' ⟨u, rfl, h1, h2⟩
  obtain ⟨a, c, rfl⟩ := h1.shp (k := 3) rfl
  exact ⟨a, c, rfl, h1, h2⟩

set_option maxRecDepth 100000 in
set_option maxHeartbeats 3200000 in
theorem awakeCall {w : World} : Calls Tryz.prog 9 #[] w fun e w' => e = .returned (.bool true) ∧ Below w.heap.size w w' := by
  obtain ⟨W2, hW2⟩ : ∃ W2, W2 = (w.alloc (.cells #[.int .i64 2, .int .i64 1, .int .i64 2, .int .i64 0, .int .i64 0, .int .i64 0, .int .i64 0] 51)).alloc (.cells #[.int .i64 2, .int .i64 3, .int .i64 3, .int .i64 0, .int .i64 0, .int .i64 0, .int .i64 0] 51) := ⟨_, rfl⟩
  have kS : W2.heap[w.heap.size]? = some (.cells #[.int .i64 2, .int .i64 1, .int .i64 2, .int .i64 0, .int .i64 0, .int .i64 0, .int .i64 0] 51) := by rw [hW2]; exact (Below.heap_alloc _ _ _ (by simp)).trans (heap_alloc_new w _)
  have kC : W2.heap[w.heap.size + 1]? = some (.cells #[.int .i64 2, .int .i64 3, .int .i64 3, .int .i64 0, .int .i64 0, .int .i64 0, .int .i64 0] 51) := by
    rw [hW2]
    have := heap_alloc_new (w.alloc (.cells #[.int .i64 2, .int .i64 1, .int .i64 2, .int .i64 0, .int .i64 0, .int .i64 0, .int .i64 0] 51)) (.cells #[.int .i64 2, .int .i64 3, .int .i64 3, .int .i64 0, .int .i64 0, .int .i64 0, .int .i64 0] 51)
    rwa [World.size_alloc] at this
  have hb2 : Below w.heap.size w W2 := by rw [hW2]; exact ((Below.refl _ w).alloc (Nat.le_refl _) _).alloc (by simp) _
  have hR := Lib.hid (fun W (hb : Below W2.heap.size W2 W) => And.intro (row7 (kept hb kS)) (row7 (kept hb kC)))
  have hR3 : Hid (∀ W, Below W2.heap.size W2 W → (True ∧ W.cell? ⟨w.heap.size, 0, none⟩ = some (.int .i64 2) ∧ W.cell? ⟨w.heap.size, 1, none⟩ = some (.int .i64 1) ∧ W.cell? ⟨w.heap.size, 2, none⟩ = some (.int .i64 2) ∧ W.cell? ⟨w.heap.size, 3, none⟩ = some (.int .i64 0) ∧ W.cell? ⟨w.heap.size, 4, none⟩ = some (.int .i64 0) ∧ W.cell? ⟨w.heap.size, 5, none⟩ = some (.int .i64 0) ∧ W.cell? ⟨w.heap.size, 6, none⟩ = some (.int .i64 0)) ∧
    (True ∧ W.cell? ⟨w.heap.size + 1, 0, none⟩ = some (.int .i64 2) ∧ W.cell? ⟨w.heap.size + 1, 1, none⟩ = some (.int .i64 3) ∧ W.cell? ⟨w.heap.size + 1, 2, none⟩ = some (.int .i64 3) ∧ W.cell? ⟨w.heap.size + 1, 3, none⟩ = some (.int .i64 0) ∧ W.cell? ⟨w.heap.size + 1, 4, none⟩ = some (.int .i64 0) ∧ W.cell? ⟨w.heap.size + 1, 5, none⟩ = some (.int .i64 0) ∧ W.cell? ⟨w.heap.size + 1, 6, none⟩ = some (.int .i64 0))) := fun W hb => ⟨⟨trivial, (hR.out W hb).1.2⟩, ⟨trivial, (hR.out W hb).2.2⟩⟩
  go_enter Tryz.func9, Tryz.ntmps9
  go_upto_region 3 with fail
  rw [← hW2]
  refine regAw3 hR3 ?_
  intro W3 hb3 a5 c5 hA a6 c6 hB b3 h3 k3 b4 h4 k4 hne
  clear hW2
  have HK := Lib.hid (fun X (hX : Below W3.heap.size W3 X) => And.intro (box2 (kept hX k3)) (And.intro (box2 (kept hX k4)) (And.intro (hA.adv.keep hX) (hB.adv.keep hX))))
  have hbw3 := bt hb2 hb3 hb2.size
  have B3 : Below W3.heap.size W3 W3 := Below.refl _ _
  obtain ⟨⟨p0, p1⟩, ⟨q0, q1⟩, _, _⟩ := HK.out W3 B3
  replace hne := Lib.hid hne
  clear k3 k4 hA hB
  go_wp2_with fail
  clear p0 p1 q0 q1
  refine (orEx (HK.out W3 B3).2.2.1 (HK.out W3 B3).2.2.2).mono ?_
  rintro e W4 ⟨xa, xc, rfl, hX, hb4⟩
  obtain ⟨W5, hW5⟩ : ∃ W5, W5 = W4.alloc (.cells #[.int .i64 2, .slice xa 3 xc] 24) := ⟨_, rfl⟩
  have hb5 : Below W4.heap.size W4 W5 := by rw [hW5]; exact (Below.refl _ _).alloc (Nat.le_refl _) _
  have kX5 : W5.heap[W4.heap.size]? = some (.cells #[.int .i64 2, .slice xa 3 xc] 24) := by rw [hW5]; exact heap_alloc_new _ _
  have hX5 := hX.keep hb5
  have B5 := btt hb4 hb5
  obtain ⟨⟨p0, p1⟩, ⟨q0, q1⟩, _, _⟩ := HK.out W5 B5
  rw [hW5] at p0 p1 q0 q1
  go_wp2_with fail
  rw [← hW5]
  replace hW5 := Lib.hid hW5
  clear p0 p1 q0 q1
  refine (andEx (HK.out W5 B5).2.2.1 (HK.out W5 B5).2.2.2).mono ?_
  rintro e W6 ⟨rfl, hb6⟩
  obtain ⟨W7, hW7⟩ : ∃ W7, W7 = W6.alloc (.cells #[.int .i64 0, .slice none 0 0] 24) := ⟨_, rfl⟩
  have hb7 : Below W6.heap.size W6 W7 := by rw [hW7]; exact (Below.refl _ _).alloc (Nat.le_refl _) _
  have B57 := btt hb6 hb7
  have B7 := btt B5 B57
  obtain ⟨⟨p0, p1⟩, ⟨q0, q1⟩, _, _⟩ := HK.out W7 B7
  rw [hW7] at p0 p1 q0 q1
  go_wp2_with fail
  rw [← hW7]
  replace hW7 := Lib.hid hW7
  clear p0 p1 q0 q1
  refine (thenEx2 (HK.out W7 B7).2.2.1 (HK.out W7 B7).2.2.2).mono ?_
  rintro e W8 ⟨ya, yc, rfl, hY, hb8⟩
  obtain ⟨W9, hW9⟩ : ∃ W9, W9 = W8.alloc (.cells #[.int .i64 2, .slice ya 3 yc] 24) := ⟨_, rfl⟩
  have hb9 : Below W8.heap.size W8 W9 := by rw [hW9]; exact (Below.refl _ _).alloc (Nat.le_refl _) _
  have kY9 : W9.heap[W8.heap.size]? = some (.cells #[.int .i64 2, .slice ya 3 yc] 24) := by rw [hW9]; exact heap_alloc_new _ _
  have hY9 := hY.keep hb9
  have B79 := btt hb8 hb9
  have B59 := btt B57 B79
  have B9 := btt B7 B79
  have kX9 := kept B59 kX5
  have hX9 := hX5.keep B59
  clear hX hY
  go_upto_region 9 with fail
  rw [← hW9]
  replace hW9 := Lib.hid hW9
  refine regAw9 (fun W hb => hR3.out W (btt (btt hb3 B9) hb)) ?_
  intro W10 hb10 b11 h11 k11 b12 h12 k12 hne2
  have y11 : W10.cell? ⟨b11, 6, none⟩ = some (.int .i64 0) := box_cell (j := 6) k11 rfl
  have f11 : W10.frozen? ⟨b11, 6, none⟩ = false := row_free k11 6
  have k12' : (W10.setCell ⟨b11, 6, none⟩ (.int .i64 1)).heap[b12]? = some (.cells #[.int .i64 2, .int .i64 1, .int .i64 2, .int .i64 0, .int .i64 0, .int .i64 0, .int .i64 0] 51) := hSn k12 hne2.symm
  have y12 : (W10.setCell ⟨b11, 6, none⟩ (.int .i64 1)).cell? ⟨b12, 6, none⟩ = some (.int .i64 0) := box_cell (j := 6) k12' rfl
  have f12 : (W10.setCell ⟨b11, 6, none⟩ (.int .i64 1)).frozen? ⟨b12, 6, none⟩ = false := row_free k12' 6
  obtain ⟨W11, hW11⟩ : ∃ W11, W11 = (W10.setCell ⟨b11, 6, none⟩ (.int .i64 1)).setCell ⟨b12, 6, none⟩ (.int .i64 1) := ⟨_, rfl⟩
  have hb11 : Below W9.heap.size W9 W11 := by rw [hW11]; exact gS (gS hb10 h11 6 _) h12 6 _
  have kF11 : W11.heap[b11]? = some (.cells #[.int .i64 2, .int .i64 3, .int .i64 3, .int .i64 0, .int .i64 0, .int .i64 0, .int .i64 1] 51) := by rw [hW11]; exact hSn (heap_setCell_same _ b11 6 _ _ (.int .i64 1) k11) hne2
  have kH11 : W11.heap[b12]? = some (.cells #[.int .i64 2, .int .i64 1, .int .i64 2, .int .i64 0, .int .i64 0, .int .i64 0, .int .i64 1] 51) := by rw [hW11]; exact heap_setCell_same _ b12 6 _ _ (.int .i64 1) k12'
  have B11 := btt B9 hb11
  clear k11 k12 k12' h11 h12
  replace hne2 := Lib.hid hne2
  go_upto_region 11 with fail
  rw [← hW11]
  clear y11 f11 y12 f12
  replace hW11 := Lib.hid hW11
  refine regAw11 (fun W hb => ⟨⟨trivial, (row7 (kept hb kF11)).2⟩, (HK.out W (btt B11 hb)).2.1.1, (HK.out W (btt B11 hb)).2.1.2, (HK.out W (btt B11 hb)).2.2.2⟩) ?_
  intro W12 hb12 a7 c7 hF a8 c8 hZ b13 h13 k13
  clear hF
  change OwAdv W12 _ 2 exF at hZ
  have B12 := btt B11 hb12
  have hb912 := btt hb11 hb12
  have kX12 := kept hb912 kX9
  have kY12 := kept hb912 kY9
  have hX12 := hX9.keep hb912
  have hY12 := hY9.keep hb912
  have kF12 := kept hb12 kF11
  have kH12 := kept hb12 kH11
  have hw12 := bt hbw3 B12 hbw3.size
  have HR := Lib.hid (fun X (hX : Below W12.heap.size W12 X) => And.intro (row7 (kept (btt B12 hX) (kept hb3 kS))) (row7 (kept (btt B12 hX) (kept hb3 kC))))
  have HF := Lib.hid (fun X (hX : Below W12.heap.size W12 X) => And.intro (row7 (kept hX kF12)) (row7 (kept hX kH12)))
  have HX := Lib.hid (fun X (hX : Below W12.heap.size W12 X) => And.intro (box2 (kept hX kX12)) (hX12.adv.keep hX))
  have HY := Lib.hid (fun X (hX : Below W12.heap.size W12 X) => And.intro (box2 (kept hX kY12)) (hY12.adv.keep hX))
  have HZ := Lib.hid (fun X (hX : Below W12.heap.size W12 X) => And.intro (box2 (kept hX k13)) (hZ.adv.keep hX))
  have B00 : Below W12.heap.size W12 W12 := Below.refl _ _
  clear kX5 hX5 kY9 kX9 hX9 hY9 kF11 kH11 kX12 kY12 hX12 hY12 kF12 kH12 k13 hZ
  obtain ⟨⟨_, s0, s1, s2, s3, s4, s5, s6⟩, ⟨_, d0, d1, d2, d3, d4, d5, d6⟩⟩ := HR.out W12 B00
  obtain ⟨s0a, s0b⟩ := allc s0
  obtain ⟨s1a, s1b⟩ := allc s1
  obtain ⟨s2a, s2b⟩ := allc s2
  obtain ⟨s3a, s3b⟩ := allc s3
  obtain ⟨s4a, s4b⟩ := allc s4
  obtain ⟨s5a, s5b⟩ := allc s5
  obtain ⟨s6a, s6b⟩ := allc s6
  obtain ⟨d0a, d0b⟩ := allc d0
  obtain ⟨d1a, d1b⟩ := allc d1
  obtain ⟨d2a, d2b⟩ := allc d2
  obtain ⟨d3a, d3b⟩ := allc d3
  obtain ⟨d4a, d4b⟩ := allc d4
  obtain ⟨d5a, d5b⟩ := allc d5
  obtain ⟨d6a, d6b⟩ := allc d6
  obtain ⟨⟨p0, p1⟩, _⟩ := HX.out W12 B00
  go_wp2_with fail
  clear p0 p1 s0 s0a s0b s1 s1a s1b s2 s2a s2b s3 s3a s3b s4 s4a s4b s5 s5a s5b s6 s6a s6b d0 d0a d0b d1 d1a d1b d2 d2a d2b d3 d3a d3b d4 d4a d4b d5 d5a d5b d6 d6a d6b
  generalize hW : World.alloc _ _ = V0
  have k0 : V0.heap[W12.heap.size]? = some (.cells #[.int .i64 2, .int .i64 1, .int .i64 2, .int .i64 0, .int .i64 0, .int .i64 0, .int .i64 0, .int .i64 1, .int .i64 2, .int .i64 3, .int .i64 3, .int .i64 0, .int .i64 0, .int .i64 0, .int .i64 0, .int .i64 2] 58) := by rw [← hW]; repeat (first | (refine ha_new ?_; first | rfl | (simp only [World.size_alloc]; done)) | (refine ha_old ?_ ?_; · (simp only [World.size_alloc] <;> omega)))
  have k1 : V0.heap[W12.heap.size + 1]? = some (.cells #[.int .i64 2, .int .i64 1, .int .i64 2, .int .i64 0, .int .i64 0, .int .i64 0, .int .i64 0, .int .i64 1] 58) := by rw [← hW]; repeat (first | (refine ha_new ?_; first | rfl | (simp only [World.size_alloc]; done)) | (refine ha_old ?_ ?_; · (simp only [World.size_alloc] <;> omega)))
  have k2 : V0.heap[W12.heap.size + 1 + 1]? = some (.cells #[.int .i64 2, .int .i64 3, .int .i64 3, .int .i64 0, .int .i64 0, .int .i64 0, .int .i64 0, .int .i64 2] 58) := by rw [← hW]; repeat (first | (refine ha_new ?_; first | rfl | (simp only [World.size_alloc]; done)) | (refine ha_old ?_ ?_; · (simp only [World.size_alloc] <;> omega)))
  have k3 : V0.heap[W12.heap.size + 1 + 1 + 1]? = some (.cells #[.slice (some ⟨W12.heap.size, 0, none⟩) 2 2, .slice (some ⟨W12.heap.size + 1, 0, none⟩) 1 1, .slice (some ⟨W12.heap.size + 1 + 1, 0, none⟩) 1 1] 59) := by rw [← hW]; repeat (first | (refine ha_new ?_; first | rfl | (simp only [World.size_alloc]; done)) | (refine ha_old ?_ ?_; · (simp only [World.size_alloc] <;> omega)))
  have hbV0 : Below W12.heap.size W12 V0 := by rw [← hW]; repeat (first | exact Below.refl _ _ | (refine Below.alloc ?_ ?_ _; rotate_left; · (first | exact Nat.le_refl _ | (simp only [World.size_alloc] <;> omega))))
  clear hW
  have m0 := (KSC.row (k := 8) (xs := [rdS ++ [1], rdC ++ [2]]) k0 (by decide) rfl (by decide)).ks
  have m1 := (KSC.row (k := 8) (xs := [rdS ++ [1]]) k1 (by decide) rfl (by decide)).ks
  have m2 := (KSC.row (k := 8) (xs := [rdC ++ [2]]) k2 (by decide) rfl (by decide)).ks
  have hL : AdvV V0 (.agg #[.int .i64 2, .slice (some ⟨W12.heap.size + 1 + 1 + 1, 0, none⟩) 3 3]) 2 exO := advOf (xs := exO) k3 rfl (by decide) (fun j hj => by
    have hj : j < 3 := hj
    rcases (by omega : j = 0 ∨ j = 1 ∨ j = 2) with rfl | rfl | rfl
    · exact m0
    · exact m1
    · exact m2)
  have BV0 := btt B00 hbV0
  refine (sameRef (HX.out _ BV0).2 hL).mono ?_
  rintro e W20 ⟨rfl, hb20⟩
  rw [show (decide ((2 : Int) = 2) && decide (exO = exO)) = true by decide]
  have C0 := btt BV0 hb20
  clear k0 k1 k2 k3 m0 m1 m2 hL hbV0
  obtain ⟨⟨_, s0, s1, s2, s3, s4, s5, s6⟩, ⟨_, d0, d1, d2, d3, d4, d5, d6⟩⟩ := HR.out W20 C0
  obtain ⟨s0a, s0b⟩ := allc s0
  obtain ⟨s1a, s1b⟩ := allc s1
  obtain ⟨s2a, s2b⟩ := allc s2
  obtain ⟨s3a, s3b⟩ := allc s3
  obtain ⟨s4a, s4b⟩ := allc s4
  obtain ⟨s5a, s5b⟩ := allc s5
  obtain ⟨s6a, s6b⟩ := allc s6
  obtain ⟨d0a, d0b⟩ := allc d0
  obtain ⟨d1a, d1b⟩ := allc d1
  obtain ⟨d2a, d2b⟩ := allc d2
  obtain ⟨d3a, d3b⟩ := allc d3
  obtain ⟨d4a, d4b⟩ := allc d4
  obtain ⟨d5a, d5b⟩ := allc d5
  obtain ⟨d6a, d6b⟩ := allc d6
  obtain ⟨⟨p0, p1⟩, _⟩ := HY.out W20 C0
  go_wp2_with fail
  clear p0 p1 s0 s0a s0b s1 s1a s1b s2 s2a s2b s3 s3a s3b s4 s4a s4b s5 s5a s5b s6 s6a s6b d0 d0a d0b d1 d1a d1b d2 d2a d2b d3 d3a d3b d4 d4a d4b d5 d5a d5b d6 d6a d6b
  generalize hW : World.alloc _ _ = V1
  have k0 : V1.heap[W20.heap.size]? = some (.cells #[.int .i64 2, .int .i64 3, .int .i64 3, .int .i64 0, .int .i64 0, .int .i64 0, .int .i64 0, .int .i64 1] 58) := by rw [← hW]; repeat (first | (refine ha_new ?_; first | rfl | (simp only [World.size_alloc]; done)) | (refine ha_old ?_ ?_; · (simp only [World.size_alloc] <;> omega)))
  have k1 : V1.heap[W20.heap.size + 1]? = some (.cells #[.int .i64 2, .int .i64 3, .int .i64 3, .int .i64 0, .int .i64 0, .int .i64 0, .int .i64 0, .int .i64 2] 58) := by rw [← hW]; repeat (first | (refine ha_new ?_; first | rfl | (simp only [World.size_alloc]; done)) | (refine ha_old ?_ ?_; · (simp only [World.size_alloc] <;> omega)))
  have k2 : V1.heap[W20.heap.size + 1 + 1]? = some (.cells #[.int .i64 2, .int .i64 1, .int .i64 2, .int .i64 0, .int .i64 0, .int .i64 0, .int .i64 0, .int .i64 2] 58) := by rw [← hW]; repeat (first | (refine ha_new ?_; first | rfl | (simp only [World.size_alloc]; done)) | (refine ha_old ?_ ?_; · (simp only [World.size_alloc] <;> omega)))
  have k3 : V1.heap[W20.heap.size + 1 + 1 + 1]? = some (.cells #[.slice (some ⟨W20.heap.size, 0, none⟩) 1 1, .slice (some ⟨W20.heap.size + 1, 0, none⟩) 1 1, .slice (some ⟨W20.heap.size + 1 + 1, 0, none⟩) 1 1] 59) := by rw [← hW]; repeat (first | (refine ha_new ?_; first | rfl | (simp only [World.size_alloc]; done)) | (refine ha_old ?_ ?_; · (simp only [World.size_alloc] <;> omega)))
  have hbV1 : Below W20.heap.size W20 V1 := by rw [← hW]; repeat (first | exact Below.refl _ _ | (refine Below.alloc ?_ ?_ _; rotate_left; · (first | exact Nat.le_refl _ | (simp only [World.size_alloc] <;> omega))))
  clear hW
  have m0 := (KSC.row (k := 8) (xs := [rdC ++ [1]]) k0 (by decide) rfl (by decide)).ks
  have m1 := (KSC.row (k := 8) (xs := [rdC ++ [2]]) k1 (by decide) rfl (by decide)).ks
  have m2 := (KSC.row (k := 8) (xs := [rdS ++ [2]]) k2 (by decide) rfl (by decide)).ks
  have hL : AdvV V1 (.agg #[.int .i64 2, .slice (some ⟨W20.heap.size + 1 + 1 + 1, 0, none⟩) 3 3]) 2 exT := advOf (xs := exT) k3 rfl (by decide) (fun j hj => by
    have hj : j < 3 := hj
    rcases (by omega : j = 0 ∨ j = 1 ∨ j = 2) with rfl | rfl | rfl
    · exact m0
    · exact m1
    · exact m2)
  have BV1 := btt C0 hbV1
  refine (sameRef (HY.out _ BV1).2 hL).mono ?_
  rintro e W21 ⟨rfl, hb21⟩
  rw [show (decide ((2 : Int) = 2) && decide (exT = exT)) = true by decide]
  have C1 := btt BV1 hb21
  clear k0 k1 k2 k3 m0 m1 m2 hL hbV1
  obtain ⟨⟨_, s0, s1, s2, s3, s4, s5, s6⟩, ⟨_, d0, d1, d2, d3, d4, d5, d6⟩⟩ := HF.out W21 C1
  obtain ⟨s0a, s0b⟩ := allc s0
  obtain ⟨s1a, s1b⟩ := allc s1
  obtain ⟨s2a, s2b⟩ := allc s2
  obtain ⟨s3a, s3b⟩ := allc s3
  obtain ⟨s4a, s4b⟩ := allc s4
  obtain ⟨s5a, s5b⟩ := allc s5
  obtain ⟨s6a, s6b⟩ := allc s6
  obtain ⟨d0a, d0b⟩ := allc d0
  obtain ⟨d1a, d1b⟩ := allc d1
  obtain ⟨d2a, d2b⟩ := allc d2
  obtain ⟨d3a, d3b⟩ := allc d3
  obtain ⟨d4a, d4b⟩ := allc d4
  obtain ⟨d5a, d5b⟩ := allc d5
  obtain ⟨d6a, d6b⟩ := allc d6
  obtain ⟨⟨p0, p1⟩, _⟩ := HZ.out W21 C1
  go_wp2_with fail
  clear p0 p1 s0 s0a s0b s1 s1a s1b s2 s2a s2b s3 s3a s3b s4 s4a s4b s5 s5a s5b s6 s6a s6b d0 d0a d0b d1 d1a d1b d2 d2a d2b d3 d3a d3b d4 d4a d4b d5 d5a d5b d6 d6a d6b
  generalize hW : World.alloc _ _ = V2
  have k0 : V2.heap[W21.heap.size]? = some (.cells #[.int .i64 2, .int .i64 3, .int .i64 3, .int .i64 0, .int .i64 0, .int .i64 0, .int .i64 1, .int .i64 1] 58) := by rw [← hW]; repeat (first | (refine ha_new ?_; first | rfl | (simp only [World.size_alloc]; done)) | (refine ha_old ?_ ?_; · (simp only [World.size_alloc] <;> omega)))
  have k1 : V2.heap[W21.heap.size + 1]? = some (.cells #[.int .i64 2, .int .i64 3, .int .i64 3, .int .i64 0, .int .i64 0, .int .i64 0, .int .i64 1, .int .i64 2] 58) := by rw [← hW]; repeat (first | (refine ha_new ?_; first | rfl | (simp only [World.size_alloc]; done)) | (refine ha_old ?_ ?_; · (simp only [World.size_alloc] <;> omega)))
  have k2 : V2.heap[W21.heap.size + 1 + 1]? = some (.cells #[.int .i64 2, .int .i64 1, .int .i64 2, .int .i64 0, .int .i64 0, .int .i64 0, .int .i64 1, .int .i64 2] 58) := by rw [← hW]; repeat (first | (refine ha_new ?_; first | rfl | (simp only [World.size_alloc]; done)) | (refine ha_old ?_ ?_; · (simp only [World.size_alloc] <;> omega)))
  have k3 : V2.heap[W21.heap.size + 1 + 1 + 1]? = some (.cells #[.slice (some ⟨W21.heap.size, 0, none⟩) 1 1, .slice (some ⟨W21.heap.size + 1, 0, none⟩) 1 1, .slice (some ⟨W21.heap.size + 1 + 1, 0, none⟩) 1 1] 59) := by rw [← hW]; repeat (first | (refine ha_new ?_; first | rfl | (simp only [World.size_alloc]; done)) | (refine ha_old ?_ ?_; · (simp only [World.size_alloc] <;> omega)))
  have hbV2 : Below W21.heap.size W21 V2 := by rw [← hW]; repeat (first | exact Below.refl _ _ | (refine Below.alloc ?_ ?_ _; rotate_left; · (first | exact Nat.le_refl _ | (simp only [World.size_alloc] <;> omega))))
  clear hW
  have m0 := (KSC.row (k := 8) (xs := [rdF ++ [1]]) k0 (by decide) rfl (by decide)).ks
  have m1 := (KSC.row (k := 8) (xs := [rdF ++ [2]]) k1 (by decide) rfl (by decide)).ks
  have m2 := (KSC.row (k := 8) (xs := [rdH ++ [2]]) k2 (by decide) rfl (by decide)).ks
  have hL : AdvV V2 (.agg #[.int .i64 2, .slice (some ⟨W21.heap.size + 1 + 1 + 1, 0, none⟩) 3 3]) 2 exF := advOf (xs := exF) k3 rfl (by decide) (fun j hj => by
    have hj : j < 3 := hj
    rcases (by omega : j = 0 ∨ j = 1 ∨ j = 2) with rfl | rfl | rfl
    · exact m0
    · exact m1
    · exact m2)
  have BV2 := btt C1 hbV2
  refine (sameRef (HZ.out _ BV2).2 hL).mono ?_
  rintro e W22 ⟨rfl, hb22⟩
  rw [show (decide ((2 : Int) = 2) && decide (exF = exF)) = true by decide]
  have C2 := btt BV2 hb22
  clear k0 k1 k2 k3 m0 m1 m2 hL hbV2
  have hbf := bt hw12 C2 hw12.size
  go_wp2
  go_ret
  exact ⟨rfl, hbf⟩
end Go.Proofs.YtiiiegflobihjaaGreat

/- Results of the combined adversaries, one form for program and reference. -/
namespace Go.Proofs.YtiiiegflobihjaaGreat
open Go.RowKit

/-- The error, the number of processes and the states that are handed back. -/
def rsOf (m : Int) (R : Option (List (List (List Int)))) : Int × Int × List (List (List Int)) := match R with | none => (17, 0, []) | some ss => (0, m, ss)
def RsOut (w : World) (r : Int × Int × List (List (List Int))) (e : Ending) (w' : World) : Prop := ∃ u, e = .returned (.tuple #[u, .int .i64 r.1]) ∧ AdvV w' u r.2.1 r.2.2 ∧ Below w.heap.size w w'
theorem advZero (w : World) : AdvV w (.agg #[.int .i64 0, .slice none 0 0]) 0 [] := ⟨_, rfl, none, 0, 0, 0, rfl, by simp, fun j hj => by simp at hj, by simp⟩
theorem RsOut.ofBd {w w' : World} {m : Int} {R : Option (List (List (List Int)))} {e : Ending} (h : BdOut w m R e w') : RsOut w (rsOf m R) e w' := by
  cases R with
  | none => exact ⟨_, h.1, advZero w', h.2⟩
  | some ss => obtain ⟨u, h1, h2, h3⟩ := h; exact ⟨u, h1, h2.adv, h3⟩
theorem eqErr_zero {m n : Int} {xs ys : List (List (List Int))} (h : eqErr m n xs ys = 0) : chkA m xs = 0 ∧ chkA n ys = 0 ∧ m = n := by
  unfold eqErr at h
  by_cases h1 : chkA m xs = 0
  · by_cases h2 : chkA n ys = 0
    · by_cases h3 : m = n
      · exact ⟨h1, h2, h3⟩
      · rw [if_neg (by rw [h1]; simp), if_neg (by rw [h2]; simp), if_pos h3] at h; cases h
    · rw [if_neg (by rw [h1]; simp), if_pos h2] at h; exact absurd h h2
  · rw [if_pos h1] at h; exact absurd h h1
theorem fewA_le {xs : List (List (List Int))} (h : fewA xs = true) : xs.length ≤ 8 ∧ movesN xs ≤ 40 := by simpa [fewA] using h
theorem awakeK {w0 : World} {B : Nat} (w : World) (h : Below B w0 w) (hB : B ≤ w.heap.size) : Calls Tryz.prog 9 #[] w fun e w' => e = .returned (.bool true) ∧ Below B w0 w' := awakeCall.mono fun _ _ ⟨h1, h2⟩ => ⟨h1, bt h h2 hB⟩
end Go.Proofs.YtiiiegflobihjaaGreat

/- The reference's Then. -/
namespace Go.Proofs.YtiiiegflobihjaaGreat
open Go.RowKit

theorem rfThen {w : World} {m n k : Int} {az bz : List (List (List Int))} {u v : Value} (hA : AdvV w u m az) (hB : AdvV w v n bz) (sA : AdS az) (sB : AdS bz) {x : Nd} (hx : PT az bz k x) {xv : Value} (hxv : OI w 0 xv x.2.2.length (natI x.2.2)) :
    Calls Tryz.prog 44 #[u, v, .int .i64 k, .agg #[.int .i64 x.1, .int .i64 (sgS x), .int .i64 (sgF x), xv]] w (NxOut w (rfRs az bz k x)) := by
  have hl := PT.setLen sB hx
  rcases hx with ⟨h1, h2, h3⟩ | ⟨h1, h2, h3, h4, h5⟩
  · exact refNextA hA hB sA h1 h2 h3
  · exact refNextB hA hB sB h1 h2 h3 hl h5 hxv
theorem rfLead {w : World} {m n k : Int} {az bz : List (List (List Int))} {u v : Value} (hA : AdvV w u m az) (hB : AdvV w v n bz) (sB : AdS bz) (hk : 0 ≤ k ∧ k ≤ 1000) {x : Nd} (hx : PT az bz k x) {xv : Value} (hxv : OI w 0 xv x.2.2.length (natI x.2.2)) (r0 r1 r2 r3 r4 r5 r6 : Int) (hr : [r0, r1, r2, r3, r4, r5, r6] ∈ rfRs az bz k x) :
    Calls Tryz.prog 45 #[u, v, .int .i64 k, .agg #[.int .i64 x.1, .int .i64 (sgS x), .int .i64 (sgF x), xv], .agg #[.int .i64 r0, .int .i64 r1, .int .i64 r2, .int .i64 r3, .int .i64 r4, .int .i64 r5, .int .i64 r6]] w (LdOut w (rfTo az bz k x [r0, r1, r2, r3, r4, r5, r6])) := by
  have hl := PT.setLen sB hx
  rcases hx with ⟨h1, h2, h3⟩ | ⟨h1, h2, h3, h4, h5⟩
  · by_cases h4 : x.1 < k - 1
    · exact refLeadsA hA hB hk.2 h1 ⟨h2.1, h4⟩ h3 r0 r1 r2 r3 r4 r5 r6
    · exact refLeadsM hA hB hk.2 h1 ⟨h2.1, by omega⟩ r0 r1 r2 r3 r4 r5 r6
  · exact refLeadsB hA hB sB hk h1 h2 h3 hl h5 hxv r0 r1 r2 r3 r4 r5 r6 hr
theorem thBox3 {w W1 : World} {m n : Int} {aa ba : Option Addr} {al bl ac bc : Nat} (hW1 : W1 = ((w.alloc (.cells #[.int .i64 m, .slice aa al ac] 24)).alloc (.cells #[.int .i64 n, .slice ba bl bc] 24)).alloc (.cells #[.int .i64 0, .slice none 0 0] 24)) :
    Below w.heap.size w W1 ∧ W1.heap[w.heap.size]? = some (.cells #[.int .i64 m, .slice aa al ac] 24) ∧ W1.heap[w.heap.size + 1]? = some (.cells #[.int .i64 n, .slice ba bl bc] 24) ∧ W1.heap[w.heap.size + 1 + 1]? = some (.cells #[.int .i64 0, .slice none 0 0] 24) ∧ W1.heap.size = w.heap.size + 1 + 1 + 1 := by
  obtain ⟨Wa, hWa⟩ : ∃ Wa, Wa = w.alloc (.cells #[.int .i64 m, .slice aa al ac] 24) := ⟨_, rfl⟩
  obtain ⟨Wb, hWb⟩ : ∃ Wb, Wb = Wa.alloc (.cells #[.int .i64 n, .slice ba bl bc] 24) := ⟨_, rfl⟩
  have hza : Wa.heap.size = w.heap.size + 1 := by rw [hWa, World.size_alloc]
  have hzb : Wb.heap.size = w.heap.size + 1 + 1 := by rw [hWb, World.size_alloc, hza]
  rw [← hWa, ← hWb] at hW1
  have ha : Below w.heap.size w Wa := by rw [hWa]; exact (Below.refl _ _).alloc (Nat.le_refl _) _
  have hb : Below Wa.heap.size Wa Wb := by rw [hWb]; exact (Below.refl _ _).alloc (Nat.le_refl _) _
  have hd : Below Wb.heap.size Wb W1 := by rw [hW1]; exact (Below.refl _ _).alloc (Nat.le_refl _) _
  have hbd := btt hb hd
  exact ⟨bt ha hbd ha.size, kept hbd (by rw [hWa]; exact heap_alloc_new w _), kept hd (by rw [hWb, ← hza]; exact heap_alloc_new Wa _), by rw [hW1, ← hzb]; exact heap_alloc_new Wb _, by rw [hW1, World.size_alloc, hzb]⟩

set_option maxRecDepth 100000 in
set_option maxHeartbeats 800000 in
theorem refThenBad {w : World} {u v : Value} {m n k : Int} {xs ys : List (List (List Int))} (hx : AdvV w u m xs) (hy : AdvV w v n ys) (h0 : eqErr m n xs ys ≠ 0) :
    Calls Tryz.prog 16 #[u, .int .i64 k, v] w fun e w' => e = .returned (.tuple #[.agg #[.int .i64 0, .slice none 0 0], .int .i64 (eqErr m n xs ys)]) ∧ Below w.heap.size w w' := by
  obtain ⟨xa, xc, hu⟩ := advShape' hx
  obtain ⟨ya, yc, hv⟩ := advShape' hy
  subst hu hv
  obtain ⟨W1, hW1⟩ : ∃ W1, W1 = ((w.alloc (.cells #[.int .i64 m, .slice xa xs.length xc] 24)).alloc (.cells #[.int .i64 n, .slice ya ys.length yc] 24)).alloc (.cells #[.int .i64 0, .slice none 0 0] 24) := ⟨_, rfl⟩
  obtain ⟨hb1, kA, kB, kR, hz1⟩ := thBox3 hW1
  have HC := Lib.hid (refBoth18 (hx.keep hb1) (hy.keep hb1))
  obtain ⟨E, hE⟩ : ∃ E, eqErr m n xs ys = E := ⟨_, rfl⟩
  rw [hE] at HC h0 ⊢
  have h1 : (E == 0) = false := by simp [h0]
  have h2 : (E != 0) = true := by simp [h0]
  obtain ⟨a0, a1⟩ := box2 kA
  obtain ⟨b0, b1⟩ := box2 kB
  rw [hW1] at a0 a1 b0 b1
  replace hz1 := Lib.hid hz1
  clear hx hy hE kA kB
  go_enter Tryz.func16, Tryz.ntmps16
  go_wp2_with fail
  rw [← hW1]
  clear a0 a1 b0 b1
  replace hW1 := Lib.hid hW1
  refine HC.out.mono ?_
  rintro e W2 ⟨rfl, hb2⟩
  have hbf := bt hb1 hb2 hb1.size
  have kR2 := kept hb2 kR
  obtain ⟨y0, y1⟩ := box2 kR2
  have yf0 := row_free kR2 0
  have yf1 := row_free kR2 1
  have z0 : W2.setCell ⟨w.heap.size + 1 + 1, 0, none⟩ (.int .i64 0) = W2 := setSame y0
  have z1 : W2.setCell ⟨w.heap.size + 1 + 1, 1, none⟩ (.slice none 0 0) = W2 := setSame y1
  go_wp2
  refine bodyPost_ret (v := .tuple #[.agg #[.int .i64 0, .slice none 0 0], .int .i64 E]) (by simp [results, Tryz.results16, go_sem, y0, y1]) rfl ?_
  exact ⟨rfl, hbf⟩

set_option maxRecDepth 100000 in
set_option maxHeartbeats 800000 in
theorem refThenRange {w : World} {u v : Value} {m n k : Int} {xs ys : List (List (List Int))} (hx : AdvV w u m xs) (hy : AdvV w v n ys) (h0 : eqErr m n xs ys = 0) (hk : k < 0 ∨ 6 < k) :
    Calls Tryz.prog 16 #[u, .int .i64 k, v] w fun e w' => e = .returned (.tuple #[.agg #[.int .i64 0, .slice none 0 0], .int .i64 2]) ∧ Below w.heap.size w w' := by
  obtain ⟨xa, xc, hu⟩ := advShape' hx
  obtain ⟨ya, yc, hv⟩ := advShape' hy
  subst hu hv
  obtain ⟨W1, hW1⟩ : ∃ W1, W1 = ((w.alloc (.cells #[.int .i64 m, .slice xa xs.length xc] 24)).alloc (.cells #[.int .i64 n, .slice ya ys.length yc] 24)).alloc (.cells #[.int .i64 0, .slice none 0 0] 24) := ⟨_, rfl⟩
  obtain ⟨hb1, kA, kB, kR, hz1⟩ := thBox3 hW1
  have HC := Lib.hid (refBoth18 (hx.keep hb1) (hy.keep hb1))
  rw [h0] at HC
  obtain ⟨a0, a1⟩ := box2 kA
  obtain ⟨b0, b1⟩ := box2 kB
  rw [hW1] at a0 a1 b0 b1
  replace hz1 := Lib.hid hz1
  clear hx hy kA kB h0
  go_enter Tryz.func16, Tryz.ntmps16
  go_wp2_with fail
  rw [← hW1]
  clear a0 a1 b0 b1
  replace hW1 := Lib.hid hW1
  refine HC.out.mono ?_
  rintro e W2 ⟨rfl, hb2⟩
  have hbf := bt hb1 hb2 hb1.size
  have kR2 := kept hb2 kR
  obtain ⟨y0, y1⟩ := box2 kR2
  have yf0 := row_free kR2 0
  have yf1 := row_free kR2 1
  have z0 : W2.setCell ⟨w.heap.size + 1 + 1, 0, none⟩ (.int .i64 0) = W2 := setSame y0
  have z1 : W2.setCell ⟨w.heap.size + 1 + 1, 1, none⟩ (.slice none 0 0) = W2 := setSame y1
  clear kR kR2
  rcases hk with hk | hk
  · go_wp2
    refine bodyPost_ret (v := .tuple #[.agg #[.int .i64 0, .slice none 0 0], .int .i64 2]) (by simp [results, Tryz.results16, go_sem, y0, y1]) rfl ?_
    exact ⟨rfl, hbf⟩
  · have hk0 : 0 ≤ k := by omega
    go_wp2
    refine bodyPost_ret (v := .tuple #[.agg #[.int .i64 0, .slice none 0 0], .int .i64 2]) (by simp [results, Tryz.results16, go_sem, y0, y1]) rfl ?_
    exact ⟨rfl, hbf⟩
end Go.Proofs.YtiiiegflobihjaaGreat

/- Texts of this claim, put together: EL FA S0 V0. -/
import Derived.Test.YtiiiegflobihjaaGreatKAWz
import Derived.Test.YtiiiegflobihjaaGreatKAWza
import Derived.Test.YtiiiegflobihjaaGreatKAWk
import Derived.Deep.RegionHeld3
import Derived.Deep.DeepCutAuto
import Derived.Test.YtiiiegflobihjaaGreatKAWp
import Derived.Test.YtiiiegflobihjaaGreatKAWu

/- awake. -/
namespace Go.Proofs.YtiiiegflobihjaaGreat
open Go.RowKit

theorem allc {W : World} {b j : Nat} {v : Value} (h : W.cell? ⟨b, j, none⟩ = some v) : (∀ o, (W.alloc o).cell? ⟨b, j, none⟩ = some v) ∧ (∀ o o', ((W.alloc o).alloc o').cell? ⟨b, j, none⟩ = some v) :=
  ⟨fun o => cell_kept ((Below.refl _ _).alloc (Nat.le_refl _) o) h, fun o o' => cell_kept (((Below.refl _ _).alloc (Nat.le_refl _) o).alloc (by simp) o') h⟩
def exO : List (List (List Int)) := [[rdS ++ [1], rdC ++ [2]], [rdS ++ [1]], [rdC ++ [2]]]
def exT : List (List (List Int)) := [[rdC ++ [1]], [rdC ++ [2]], [rdS ++ [2]]]
def exF : List (List (List Int)) := [[rdF ++ [1]], [rdF ++ [2]], [rdH ++ [2]]]
theorem orEx {W : World} {a5 aB : Option Addr} {c5 cB : Nat} (hA : AdvV W (.agg #[.int .i64 2, .slice a5 1 c5]) 2 (alw1 rdC)) (hB : AdvV W (.agg #[.int .i64 2, .slice aB 1 cB]) 2 (alw1 rdS)) :
    Calls Tryz.prog 10 #[.agg #[.int .i64 2, .slice a5 1 c5], .agg #[.int .i64 2, .slice aB 1 cB]] W fun e W' => ∃ a6 c6, e = .returned (.tuple #[.agg #[.int .i64 2, .slice a6 3 c6], .int .i64 0]) ∧ OwAdv W' (.agg #[.int .i64 2, .slice a6 3 c6]) 2 exO ∧ Below W.heap.size W W' := by
  have h := orGood hA hB (by decide) (by decide) (eq_err chk_C chk_S) (alw_S rfl chk_C).ok (alw_S rfl chk_S).ok
  rw [ex_or] at h
  refine h.mono ?_
  rintro e W' ⟨u, rfl, h1, h2⟩
  obtain ⟨a, c, rfl⟩ := h1.shp (k := 3) rfl
  exact ⟨a, c, rfl, h1, h2⟩
theorem andEx {W : World} {a5 aB : Option Addr} {c5 cB : Nat} (hA : AdvV W (.agg #[.int .i64 2, .slice a5 1 c5]) 2 (alw1 rdC)) (hB : AdvV W (.agg #[.int .i64 2, .slice aB 1 cB]) 2 (alw1 rdS)) :
    Calls Tryz.prog 13 #[.agg #[.int .i64 2, .slice a5 1 c5], .agg #[.int .i64 2, .slice aB 1 cB]] W fun e W' => e = .returned (.tuple #[.agg #[.int .i64 0, .slice none 0 0], .int .i64 16]) ∧ Below W.heap.size W W' := by
  have h := andGood hA hB (by decide) (by decide) (eq_err chk_C chk_S) (alw_S rfl chk_C).ok (alw_S rfl chk_S).ok
  rw [ex_and] at h
  refine h.mono ?_
  intro e W' h1
  have h1 : (if (lvA [[]]).getD 0 false = true then BdOut W 2 (lvR [[]]) e W' else e = .returned (.tuple #[.agg #[.int .i64 0, .slice none 0 0], .int .i64 16]) ∧ Below W.heap.size W W') := h1
  rw [if_neg (by rw [ex_live]; decide)] at h1
  exact h1
theorem thenEx2 {W : World} {a5 aB : Option Addr} {c5 cB : Nat} (hA : AdvV W (.agg #[.int .i64 2, .slice a5 1 c5]) 2 (alw1 rdC)) (hB : AdvV W (.agg #[.int .i64 2, .slice aB 1 cB]) 2 (alw1 rdS)) :
    Calls Tryz.prog 15 #[.agg #[.int .i64 2, .slice a5 1 c5], .int .i64 2, .agg #[.int .i64 2, .slice aB 1 cB]] W fun e W' => ∃ a6 c6, e = .returned (.tuple #[.agg #[.int .i64 2, .slice a6 3 c6], .int .i64 0]) ∧ OwAdv W' (.agg #[.int .i64 2, .slice a6 3 c6]) 2 exT ∧ Below W.heap.size W W' := by
  have h := thenGood (k := 2) hA hB (by decide) (by decide) (eq_err chk_C chk_S) (alw_S rfl chk_C) (alw_S rfl chk_S) (by decide)
  rw [ex_then] at h
  refine h.mono ?_
  rintro e W' ⟨u, rfl, h1, h2⟩
  obtain ⟨a, c, rfl⟩ := h1.shp (k := 3) rfl
  exact ⟨a, c, rfl, h1, h2⟩

set_option maxRecDepth 100000 in
set_option maxHeartbeats 3200000 in
theorem awakeCall {w : World} : Calls Tryz.prog 9 #[] w fun e w' => e = .returned (.bool true) ∧ Below w.heap.size w w' := by
  obtain ⟨W2, hW2⟩ : ∃ W2, W2 = (w.alloc (.cells #[.int .i64 2, .int .i64 1, .int .i64 2, .int .i64 0, .int .i64 0, .int .i64 0, .int .i64 0] 51)).alloc (.cells #[.int .i64 2, .int .i64 3, .int .i64 3, .int .i64 0, .int .i64 0, .int .i64 0, .int .i64 0] 51) := ⟨_, rfl⟩
  have kS : W2.heap[w.heap.size]? = some (.cells #[.int .i64 2, .int .i64 1, .int .i64 2, .int .i64 0, .int .i64 0, .int .i64 0, .int .i64 0] 51) := by rw [hW2]; exact (Below.heap_alloc _ _ _ (by simp)).trans (heap_alloc_new w _)
  have kC : W2.heap[w.heap.size + 1]? = some (.cells #[.int .i64 2, .int .i64 3, .int .i64 3, .int .i64 0, .int .i64 0, .int .i64 0, .int .i64 0] 51) := by
    rw [hW2]
    have := heap_alloc_new (w.alloc (.cells #[.int .i64 2, .int .i64 1, .int .i64 2, .int .i64 0, .int .i64 0, .int .i64 0, .int .i64 0] 51)) (.cells #[.int .i64 2, .int .i64 3, .int .i64 3, .int .i64 0, .int .i64 0, .int .i64 0, .int .i64 0] 51)
    rwa [World.size_alloc] at this
  have hb2 : Below w.heap.size w W2 := by rw [hW2]; exact ((Below.refl _ w).alloc (Nat.le_refl _) _).alloc (by simp) _
  have hR := Lib.hid (fun W (hb : Below W2.heap.size W2 W) => And.intro (row7 (kept hb kS)) (row7 (kept hb kC)))
  have hR3 : Hid (∀ W, Below W2.heap.size W2 W → (True ∧ W.cell? ⟨w.heap.size, 0, none⟩ = some (.int .i64 2) ∧ W.cell? ⟨w.heap.size, 1, none⟩ = some (.int .i64 1) ∧ W.cell? ⟨w.heap.size, 2, none⟩ = some (.int .i64 2) ∧ W.cell? ⟨w.heap.size, 3, none⟩ = some (.int .i64 0) ∧ W.cell? ⟨w.heap.size, 4, none⟩ = some (.int .i64 0) ∧ W.cell? ⟨w.heap.size, 5, none⟩ = some (.int .i64 0) ∧ W.cell? ⟨w.heap.size, 6, none⟩ = some (.int .i64 0)) ∧
    (True ∧ W.cell? ⟨w.heap.size + 1, 0, none⟩ = some (.int .i64 2) ∧ W.cell? ⟨w.heap.size + 1, 1, none⟩ = some (.int .i64 3) ∧ W.cell? ⟨w.heap.size + 1, 2, none⟩ = some (.int .i64 3) ∧ W.cell? ⟨w.heap.size + 1, 3, none⟩ = some (.int .i64 0) ∧ W.cell? ⟨w.heap.size + 1, 4, none⟩ = some (.int .i64 0) ∧ W.cell? ⟨w.heap.size + 1, 5, none⟩ = some (.int .i64 0) ∧ W.cell? ⟨w.heap.size + 1, 6, none⟩ = some (.int .i64 0))) := fun W hb => ⟨⟨trivial, (hR.out W hb).1.2⟩, ⟨trivial, (hR.out W hb).2.2⟩⟩
  go_enter Tryz.func9, Tryz.ntmps9
  go_upto_region 3 with fail
  rw [← hW2]
  refine regAw3 hR3 ?_
  intro W3 hb3 a5 c5 hA a6 c6 hB b3 h3 k3 b4 h4 k4 hne
  clear hW2
  have HK := Lib.hid (fun X (hX : Below W3.heap.size W3 X) => And.intro (box2 (kept hX k3)) (And.intro (box2 (kept hX k4)) (And.intro (hA.adv.keep hX) (hB.adv.keep hX))))
  have hbw3 := bt hb2 hb3 hb2.size
  have B3 : Below W3.heap.size W3 W3 := Below.refl _ _
  obtain ⟨⟨p0, p1⟩, ⟨q0, q1⟩, _, _⟩ := HK.out W3 B3
  replace hne := Lib.hid hne
  clear k3 k4 hA hB
  go_wp2_with fail
  clear p0 p1 q0 q1
  refine (orEx (HK.out W3 B3).2.2.1 (HK.out W3 B3).2.2.2).mono ?_
  rintro e W4 ⟨xa, xc, rfl, hX, hb4⟩
  obtain ⟨W5, hW5⟩ : ∃ W5, W5 = W4.alloc (.cells #[.int .i64 2, .slice xa 3 xc] 24) := ⟨_, rfl⟩
  have hb5 : Below W4.heap.size W4 W5 := by rw [hW5]; exact (Below.refl _ _).alloc (Nat.le_refl _) _
  have kX5 : W5.heap[W4.heap.size]? = some (.cells #[.int .i64 2, .slice xa 3 xc] 24) := by rw [hW5]; exact heap_alloc_new _ _
  have hX5 := hX.keep hb5
  have B5 := btt hb4 hb5
  obtain ⟨⟨p0, p1⟩, ⟨q0, q1⟩, _, _⟩ := HK.out W5 B5
  rw [hW5] at p0 p1 q0 q1
  go_wp2_with fail
  rw [← hW5]
  replace hW5 := Lib.hid hW5
  clear p0 p1 q0 q1
  refine (andEx (HK.out W5 B5).2.2.1 (HK.out W5 B5).2.2.2).mono ?_
  rintro e W6 ⟨rfl, hb6⟩
  obtain ⟨W7, hW7⟩ : ∃ W7, W7 = W6.alloc (.cells #[.int .i64 0, .slice none 0 0] 24) := ⟨_, rfl⟩
  have hb7 : Below W6.heap.size W6 W7 := by rw [hW7]; exact (Below.refl _ _).alloc (Nat.le_refl _) _
  have B57 := btt hb6 hb7
  have B7 := btt B5 B57
  obtain ⟨⟨p0, p1⟩, ⟨q0, q1⟩, _, _⟩ := HK.out W7 B7
  rw [hW7] at p0 p1 q0 q1
  go_wp2_with fail
  rw [← hW7]
  replace hW7 := Lib.hid hW7
  clear p0 p1 q0 q1
  refine (thenEx2 (HK.out W7 B7).2.2.1 (HK.out W7 B7).2.2.2).mono ?_
  rintro e W8 ⟨ya, yc, rfl, hY, hb8⟩
  obtain ⟨W9, hW9⟩ : ∃ W9, W9 = W8.alloc (.cells #[.int .i64 2, .slice ya 3 yc] 24) := ⟨_, rfl⟩
  have hb9 : Below W8.heap.size W8 W9 := by rw [hW9]; exact (Below.refl _ _).alloc (Nat.le_refl _) _
  have kY9 : W9.heap[W8.heap.size]? = some (.cells #[.int .i64 2, .slice ya 3 yc] 24) := by rw [hW9]; exact heap_alloc_new _ _
  have hY9 := hY.keep hb9
  have B79 := btt hb8 hb9
  have B59 := btt B57 B79
  have B9 := btt B7 B79
  have kX9 := kept B59 kX5
  have hX9 := hX5.keep B59
  clear hX hY
  go_upto_region 9 with fail
  rw [← hW9]
  replace hW9 := Lib.hid hW9
  refine regAw9 (fun W hb => hR3.out W (btt (btt hb3 B9) hb)) ?_
  intro W10 hb10 b11 h11 k11 b12 h12 k12 hne2
  have y11 : W10.cell? ⟨b11, 6, none⟩ = some (.int .i64 0) := box_cell (j := 6) k11 rfl
  have f11 : W10.frozen? ⟨b11, 6, none⟩ = false := row_free k11 6
  have k12' : (W10.setCell ⟨b11, 6, none⟩ (.int .i64 1)).heap[b12]? = some (.cells #[.int .i64 2, .int .i64 1, .int .i64 2, .int .i64 0, .int .i64 0, .int .i64 0, .int .i64 0] 51) := hSn k12 hne2.symm
  have y12 : (W10.setCell ⟨b11, 6, none⟩ (.int .i64 1)).cell? ⟨b12, 6, none⟩ = some (.int .i64 0) := box_cell (j := 6) k12' rfl
  have f12 : (W10.setCell ⟨b11, 6, none⟩ (.int .i64 1)).frozen? ⟨b12, 6, none⟩ = false := row_free k12' 6
  obtain ⟨W11, hW11⟩ : ∃ W11, W11 = (W10.setCell ⟨b11, 6, none⟩ (.int .i64 1)).setCell ⟨b12, 6, none⟩ (.int .i64 1) := ⟨_, rfl⟩
  have hb11 : Below W9.heap.size W9 W11 := by rw [hW11]; exact gS (gS hb10 h11 6 _) h12 6 _
  have kF11 : W11.heap[b11]? = some (.cells #[.int .i64 2, .int .i64 3, .int .i64 3, .int .i64 0, .int .i64 0, .int .i64 0, .int .i64 1] 51) := by rw [hW11]; exact hSn (heap_setCell_same _ b11 6 _ _ (.int .i64 1) k11) hne2
  have kH11 : W11.heap[b12]? = some (.cells #[.int .i64 2, .int .i64 1, .int .i64 2, .int .i64 0, .int .i64 0, .int .i64 0, .int .i64 1] 51) := by rw [hW11]; exact heap_setCell_same _ b12 6 _ _ (.int .i64 1) k12'
  have B11 := btt B9 hb11
  clear k11 k12 k12' h11 h12
  replace hne2 := Lib.hid hne2
  go_upto_region 11 with fail
  rw [← hW11]
  clear y11 f11 y12 f12
  replace hW11 := Lib.hid hW11
  refine regAw11 (fun W hb => ⟨⟨trivial, (row7 (kept hb kF11)).2⟩, (HK.out W (btt B11 hb)).2.1.1, (HK.out W (btt B11 hb)).2.1.2, (HK.out W (btt B11 hb)).2.2.2⟩) ?_
  intro W12 hb12 a7 c7 hF a8 c8 hZ b13 h13 k13
  clear hF
  change OwAdv W12 _ 2 exF at hZ
  have B12 := btt B11 hb12
  have hb912 := btt hb11 hb12
  have kX12 := kept hb912 kX9
  have kY12 := kept hb912 kY9
  have hX12 := hX9.keep hb912
  have hY12 := hY9.keep hb912
  have kF12 := kept hb12 kF11
  have kH12 := kept hb12 kH11
  have hw12 := bt hbw3 B12 hbw3.size
  have HR := Lib.hid (fun X (hX : Below W12.heap.size W12 X) => And.intro (row7 (kept (btt B12 hX) (kept hb3 kS))) (row7 (kept (btt B12 hX) (kept hb3 kC))))
  have HF := Lib.hid (fun X (hX : Below W12.heap.size W12 X) => And.intro (row7 (kept hX kF12)) (row7 (kept hX kH12)))
  have HX := Lib.hid (fun X (hX : Below W12.heap.size W12 X) => And.intro (box2 (kept hX kX12)) (hX12.adv.keep hX))
  have HY := Lib.hid (fun X (hX : Below W12.heap.size W12 X) => And.intro (box2 (kept hX kY12)) (hY12.adv.keep hX))
  have HZ := Lib.hid (fun X (hX : Below W12.heap.size W12 X) => And.intro (box2 (kept hX k13)) (hZ.adv.keep hX))
  have B00 : Below W12.heap.size W12 W12 := Below.refl _ _
  clear kX5 hX5 kY9 kX9 hX9 hY9 kF11 kH11 kX12 kY12 hX12 hY12 kF12 kH12 k13 hZ
  obtain ⟨⟨_, s0, s1, s2, s3, s4, s5, s6⟩, ⟨_, d0, d1, d2, d3, d4, d5, d6⟩⟩ := HR.out W12 B00
  obtain ⟨s0a, s0b⟩ := allc s0
  obtain ⟨s1a, s1b⟩ := allc s1
  obtain ⟨s2a, s2b⟩ := allc s2
  obtain ⟨s3a, s3b⟩ := allc s3
  obtain ⟨s4a, s4b⟩ := allc s4
  obtain ⟨s5a, s5b⟩ := allc s5
  obtain ⟨s6a, s6b⟩ := allc s6
  obtain ⟨d0a, d0b⟩ := allc d0
  obtain ⟨d1a, d1b⟩ := allc d1
  obtain ⟨d2a, d2b⟩ := allc d2
  obtain ⟨d3a, d3b⟩ := allc d3
  obtain ⟨d4a, d4b⟩ := allc d4
  obtain ⟨d5a, d5b⟩ := allc d5
  obtain ⟨d6a, d6b⟩ := allc d6
  obtain ⟨⟨p0, p1⟩, _⟩ := HX.out W12 B00
  go_wp2_with fail
  clear p0 p1 s0 s0a s0b s1 s1a s1b s2 s2a s2b s3 s3a s3b s4 s4a s4b s5 s5a s5b s6 s6a s6b d0 d0a d0b d1 d1a d1b d2 d2a d2b d3 d3a d3b d4 d4a d4b d5 d5a d5b d6 d6a d6b
  generalize hW : World.alloc _ _ = V0
  have k0 : V0.heap[W12.heap.size]? = some (.cells #[.int .i64 2, .int .i64 1, .int .i64 2, .int .i64 0, .int .i64 0, .int .i64 0, .int .i64 0, .int .i64 1, .int .i64 2, .int .i64 3, .int .i64 3, .int .i64 0, .int .i64 0, .int .i64 0, .int .i64 0, .int .i64 2] 58) := by rw [← hW]; repeat (first | (refine ha_new ?_; first | rfl | (simp only [World.size_alloc]; done)) | (refine ha_old ?_ ?_; · (simp only [World.size_alloc] <;> omega)))
  have k1 : V0.heap[W12.heap.size + 1]? = some (.cells #[.int .i64 2, .int .i64 1, .int .i64 2, .int .i64 0, .int .i64 0, .int .i64 0, .int .i64 0, .int .i64 1] 58) := by rw [← hW]; repeat (first | (refine ha_new ?_; first | rfl | (simp only [World.size_alloc]; done)) | (refine ha_old ?_ ?_; · (simp only [World.size_alloc] <;> omega)))
  have k2 : V0.heap[W12.heap.size + 1 + 1]? = some (.cells #[.int .i64 2, .int .i64 3, .int .i64 3, .int .i64 0, .int .i64 0, .int .i64 0, .int .i64 0, .int .i64 2] 58) := by rw [← hW]; repeat (first | (refine ha_new ?_; first | rfl | (simp only [World.size_alloc]; done)) | (refine ha_old ?_ ?_; · (simp only [World.size_alloc] <;> omega)))
  have k3 : V0.heap[W12.heap.size + 1 + 1 + 1]? = some (.cells #[.slice (some ⟨W12.heap.size, 0, none⟩) 2 2, .slice (some ⟨W12.heap.size + 1, 0, none⟩) 1 1, .slice (some ⟨W12.heap.size + 1 + 1, 0, none⟩) 1 1] 59) := by rw [← hW]; repeat (first | (refine ha_new ?_; first | rfl | (simp only [World.size_alloc]; done)) | (refine ha_old ?_ ?_; · (simp only [World.size_alloc] <;> omega)))
  have hbV0 : Below W12.heap.size W12 V0 := by rw [← hW]; repeat (first | exact Below.refl _ _ | (refine Below.alloc ?_ ?_ _; rotate_left; · (first | exact Nat.le_refl _ | (simp only [World.size_alloc] <;> omega))))
  clear hW
  have m0 := (KSC.row (k := 8) (xs := [rdS ++ [1], rdC ++ [2]]) k0 (by decide) rfl (by decide)).ks
  have m1 := (KSC.row (k := 8) (xs := [rdS ++ [1]]) k1 (by decide) rfl (by decide)).ks
  have m2 := (KSC.row (k := 8) (xs := [rdC ++ [2]]) k2 (by decide) rfl (by decide)).ks
  have hL : AdvV V0 (.agg #[.int .i64 2, .slice (some ⟨W12.heap.size + 1 + 1 + 1, 0, none⟩) 3 3]) 2 exO := advOf (xs := exO) k3 rfl (by decide) (fun j hj => by
    have hj : j < 3 := hj
    rcases (by omega : j = 0 ∨ j = 1 ∨ j = 2) with rfl | rfl | rfl
    · exact m0
    · exact m1
    · exact m2)
  have BV0 := btt B00 hbV0
  refine (sameRef (HX.out _ BV0).2 hL).mono ?_
  rintro e W20 ⟨rfl, hb20⟩
  rw [show (decide ((2 : Int) = 2) && decide (exO = exO)) = true by decide]
  have C0 := btt BV0 hb20
  clear k0 k1 k2 k3 m0 m1 m2 hL hbV0
  obtain ⟨⟨_, s0, s1, s2, s3, s4, s5, s6⟩, ⟨_, d0, d1, d2, d3, d4, d5, d6⟩⟩ := HR.out W20 C0
  obtain ⟨s0a, s0b⟩ := allc s0
  obtain ⟨s1a, s1b⟩ := allc s1
  obtain ⟨s2a, s2b⟩ := allc s2
  obtain ⟨s3a, s3b⟩ := allc s3
  obtain ⟨s4a, s4b⟩ := allc s4
  obtain ⟨s5a, s5b⟩ := allc s5
  obtain ⟨s6a, s6b⟩ := allc s6
  obtain ⟨d0a, d0b⟩ := allc d0
  obtain ⟨d1a, d1b⟩ := allc d1
  obtain ⟨d2a, d2b⟩ := allc d2
  obtain ⟨d3a, d3b⟩ := allc d3
  obtain ⟨d4a, d4b⟩ := allc d4
  obtain ⟨d5a, d5b⟩ := allc d5
  obtain ⟨d6a, d6b⟩ := allc d6
  obtain ⟨⟨p0, p1⟩, _⟩ := HY.out W20 C0
  go_wp2_with fail
  clear p0 p1 s0 s0a s0b s1 s1a s1b s2 s2a s2b s3 s3a s3b s4 s4a s4b s5 s5a s5b s6 s6a s6b d0 d0a d0b d1 d1a d1b d2 d2a d2b d3 d3a d3b d4 d4a d4b d5 d5a d5b d6 d6a d6b
  generalize hW : World.alloc _ _ = V1
  have k0 : V1.heap[W20.heap.size]? = some (.cells #[.int .i64 2, .int .i64 3, .int .i64 3, .int .i64 0, .int .i64 0, .int .i64 0, .int .i64 0, .int .i64 1] 58) := by rw [← hW]; repeat (first | (refine ha_new ?_; first | rfl | (simp only [World.size_alloc]; done)) | (refine ha_old ?_ ?_; · (simp only [World.size_alloc] <;> omega)))
  have k1 : V1.heap[W20.heap.size + 1]? = some (.cells #[.int .i64 2, .int .i64 3, .int .i64 3, .int .i64 0, .int .i64 0, .int .i64 0, .int .i64 0, .int .i64 2] 58) := by rw [← hW]; repeat (first | (refine ha_new ?_; first | rfl | (simp only [World.size_alloc]; done)) | (refine ha_old ?_ ?_; · (simp only [World.size_alloc] <;> omega)))
  have k2 : V1.heap[W20.heap.size + 1 + 1]? = some (.cells #[.int .i64 2, .int .i64 1, .int .i64 2, .int .i64 0, .int .i64 0, .int .i64 0, .int .i64 0, .int .i64 2] 58) := by rw [← hW]; repeat (first | (refine ha_new ?_; first | rfl | (simp only [World.size_alloc]; done)) | (refine ha_old ?_ ?_; · (simp only [World.size_alloc] <;> omega)))
  have k3 : V1.heap[W20.heap.size + 1 + 1 + 1]? = some (.cells #[.slice (some ⟨W20.heap.size, 0, none⟩) 1 1, .slice (some ⟨W20.heap.size + 1, 0, none⟩) 1 1, .slice (some ⟨W20.heap.size + 1 + 1, 0, none⟩) 1 1] 59) := by rw [← hW]; repeat (first | (refine ha_new ?_; first | rfl | (simp only [World.size_alloc]; done)) | (refine ha_old ?_ ?_; · (simp only [World.size_alloc] <;> omega)))
  have hbV1 : Below W20.heap.size W20 V1 := by rw [← hW]; repeat (first | exact Below.refl _ _ | (refine Below.alloc ?_ ?_ _; rotate_left; · (first | exact Nat.le_refl _ | (simp only [World.size_alloc] <;> omega))))
  clear hW
  have m0 := (KSC.row (k := 8) (xs := [rdC ++ [1]]) k0 (by decide) rfl (by decide)).ks
  have m1 := (KSC.row (k := 8) (xs := [rdC ++ [2]]) k1 (by decide) rfl (by decide)).ks
  have m2 := (KSC.row (k := 8) (xs := [rdS ++ [2]]) k2 (by decide) rfl (by decide)).ks
  have hL : AdvV V1 (.agg #[.int .i64 2, .slice (some ⟨W20.heap.size + 1 + 1 + 1, 0, none⟩) 3 3]) 2 exT := advOf (xs := exT) k3 rfl (by decide) (fun j hj => by
    have hj : j < 3 := hj
    rcases (by omega : j = 0 ∨ j = 1 ∨ j = 2) with rfl | rfl | rfl
    · exact m0
    · exact m1
    · exact m2)
  have BV1 := btt C0 hbV1
  refine (sameRef (HY.out _ BV1).2 hL).mono ?_
  rintro e W21 ⟨rfl, hb21⟩
  rw [show (decide ((2 : Int) = 2) && decide (exT = exT)) = true by decide]
  have C1 := btt BV1 hb21
  clear k0 k1 k2 k3 m0 m1 m2 hL hbV1
  obtain ⟨⟨_, s0, s1, s2, s3, s4, s5, s6⟩, ⟨_, d0, d1, d2, d3, d4, d5, d6⟩⟩ := HF.out W21 C1
  obtain ⟨s0a, s0b⟩ := allc s0
  obtain ⟨s1a, s1b⟩ := allc s1
  obtain ⟨s2a, s2b⟩ := allc s2
  obtain ⟨s3a, s3b⟩ := allc s3
  obtain ⟨s4a, s4b⟩ := allc s4
  obtain ⟨s5a, s5b⟩ := allc s5
  obtain ⟨s6a, s6b⟩ := allc s6
  obtain ⟨d0a, d0b⟩ := allc d0
  obtain ⟨d1a, d1b⟩ := allc d1
  obtain ⟨d2a, d2b⟩ := allc d2
  obtain ⟨d3a, d3b⟩ := allc d3
  obtain ⟨d4a, d4b⟩ := allc d4
  obtain ⟨d5a, d5b⟩ := allc d5
  obtain ⟨d6a, d6b⟩ := allc d6
  obtain ⟨⟨p0, p1⟩, _⟩ := HZ.out W21 C1
  go_wp2_with fail
  clear p0 p1 s0 s0a s0b s1 s1a s1b s2 s2a s2b s3 s3a s3b s4 s4a s4b s5 s5a s5b s6 s6a s6b d0 d0a d0b d1 d1a d1b d2 d2a d2b d3 d3a d3b d4 d4a d4b d5 d5a d5b d6 d6a d6b
  generalize hW : World.alloc _ _ = V2
  have k0 : V2.heap[W21.heap.size]? = some (.cells #[.int .i64 2, .int .i64 3, .int .i64 3, .int .i64 0, .int .i64 0, .int .i64 0, .int .i64 1, .int .i64 1] 58) := by rw [← hW]; repeat (first | (refine ha_new ?_; first | rfl | (simp only [World.size_alloc]; done)) | (refine ha_old ?_ ?_; · (simp only [World.size_alloc] <;> omega)))
  have k1 : V2.heap[W21.heap.size + 1]? = some (.cells #[.int .i64 2, .int .i64 3, .int .i64 3, .int .i64 0, .int .i64 0, .int .i64 0, .int .i64 1, .int .i64 2] 58) := by rw [← hW]; repeat (first | (refine ha_new ?_; first | rfl | (simp only [World.size_alloc]; done)) | (refine ha_old ?_ ?_; · (simp only [World.size_alloc] <;> omega)))
  have k2 : V2.heap[W21.heap.size + 1 + 1]? = some (.cells #[.int .i64 2, .int .i64 1, .int .i64 2, .int .i64 0, .int .i64 0, .int .i64 0, .int .i64 1, .int .i64 2] 58) := by rw [← hW]; repeat (first | (refine ha_new ?_; first | rfl | (simp only [World.size_alloc]; done)) | (refine ha_old ?_ ?_; · (simp only [World.size_alloc] <;> omega)))
  have k3 : V2.heap[W21.heap.size + 1 + 1 + 1]? = some (.cells #[.slice (some ⟨W21.heap.size, 0, none⟩) 1 1, .slice (some ⟨W21.heap.size + 1, 0, none⟩) 1 1, .slice (some ⟨W21.heap.size + 1 + 1, 0, none⟩) 1 1] 59) := by rw [← hW]; repeat (first | (refine ha_new ?_; first | rfl | (simp only [World.size_alloc]; done)) | (refine ha_old ?_ ?_; · (simp only [World.size_alloc] <;> omega)))
  have hbV2 : Below W21.heap.size W21 V2 := by rw [← hW]; repeat (first | exact Below.refl _ _ | (refine Below.alloc ?_ ?_ _; rotate_left; · (first | exact Nat.le_refl _ | (simp only [World.size_alloc] <;> omega))))
  clear hW
  have m0 := (KSC.row (k := 8) (xs := [rdF ++ [1]]) k0 (by decide) rfl (by decide)).ks
  have m1 := (KSC.row (k := 8) (xs := [rdF ++ [2]]) k1 (by decide) rfl (by decide)).ks
  have m2 := (KSC.row (k := 8) (xs := [rdH ++ [2]]) k2 (by decide) rfl (by decide)).ks
  have hL : AdvV V2 (.agg #[.int .i64 2, .slice (some ⟨W21.heap.size + 1 + 1 + 1, 0, none⟩) 3 3]) 2 exF := advOf (xs := exF) k3 rfl (by decide) (fun j hj => by
    have hj : j < 3 := hj
    rcases (by omega : j = 0 ∨ j = 1 ∨ j = 2) with rfl | rfl | rfl
    · exact m0
    · exact m1
    · exact m2)
  have BV2 := btt C1 hbV2
  refine (sameRef (HZ.out _ BV2).2 hL).mono ?_
  rintro e W22 ⟨rfl, hb22⟩
  rw [show (decide ((2 : Int) = 2) && decide (exF = exF)) = true by decide]
  have C2 := btt BV2 hb22
  clear k0 k1 k2 k3 m0 m1 m2 hL hbV2
  have hbf := bt hw12 C2 hw12.size
  go_wp2
  go_ret
  exact ⟨rfl, hbf⟩
end Go.Proofs.YtiiiegflobihjaaGreat

/- Results of the combined adversaries, one form for program and reference. -/
namespace Go.Proofs.YtiiiegflobihjaaGreat
open Go.RowKit

theorem fewA_le {xs : List (List (List Int))} (h : fewA xs = true) : xs.length ≤ 8 ∧ movesN xs ≤ 40 := by simpa [fewA] using h
theorem awakeK {w0 : World} {B : Nat} (w : World) (h : Below B w0 w) (hB : B ≤ w.heap.size) : Calls Tryz.prog 9 #[] w fun e w' => e = .returned (.bool true) ∧ Below B w0 w' := awakeCall.mono fun _ _ ⟨h1, h2⟩ => ⟨h1, bt h h2 hB⟩
end Go.Proofs.YtiiiegflobihjaaGreat

/- The reference: Reached and Number. -/
namespace Go.Proofs.YtiiiegflobihjaaGreat
open Go.RowKit

/-- A row of bools that was made since block B. -/
def OBs (w : World) (B : Nat) (v : Value) (n : Nat) (xs : List Bool) : Prop := w.ownsRow B 4 1 v n (xs.map Value.bool)
theorem OBs.length {w : World} {B : Nat} {v : Value} {n : Nat} {xs : List Bool} (h : OBs w B v n xs) : xs.length = n := by have := h.1; simpa using this
theorem OBs.keep {w w' : World} {B : Nat} {v : Value} {n : Nat} {xs : List Bool} (h : OBs w B v n xs) (hb : Below w.heap.size w w') : OBs w' B v n xs := by
  refine ⟨h.1, ?_⟩
  rcases h.2 with h' | ⟨g, cap, cur, h1, h2, h3, h4⟩
  · exact .inl h'
  · exact .inr ⟨g, cap, cur, h1, h2, (hb.block g (Array.getElem?_eq_some_iff.1 h3).1).trans h3, h4⟩
theorem OBs.base {w : World} {B B' : Nat} {v : Value} {n : Nat} {xs : List Bool} (h : OBs w B v n xs) (hb : B' ≤ B) : OBs w B' v n xs := by
  refine ⟨h.1, ?_⟩
  rcases h.2 with h' | ⟨g, cap, cur, h1, h2, h3⟩
  · exact .inl h'
  · exact .inr ⟨g, cap, cur, h1, by omega, h3⟩
theorem OBs.store {w : World} {B g n cap : Nat} {xs : List Bool} (h : OBs w B (.slice (some ⟨g, 0, none⟩) n cap) n xs) (j : Nat) (y : Bool) :
    OBs (w.setCell ⟨g, j, none⟩ (.bool y)) B (.slice (some ⟨g, 0, none⟩) n cap) n (xs.set j y) := by
  have := (World.ownsRow.stored h j (.bool y)).1
  unfold OBs
  rw [List.map_set]
  exact this
theorem OBs.cell {w : World} {B g n cap : Nat} {xs : List Bool} (h : OBs w B (.slice (some ⟨g, 0, none⟩) n cap) n xs) {j : Nat} (hj : j < n) : w.cell? ⟨g, j, none⟩ = some (.bool (xs.getD j false)) := by
  have hl := h.length
  rw [World.ownsRow.cellAt h j (by omega)]
  simp [show j < xs.length by omega]
theorem OBs.free {w : World} {B g n cap : Nat} {xs : List Bool} (h : OBs w B (.slice (some ⟨g, 0, none⟩) n cap) n xs) (j : Nat) : w.frozen? ⟨g, j, none⟩ = false := World.ownsRow.frozenAt h j
theorem OBs.shape {w : World} {B : Nat} {v : Value} {n : Nat} {xs : List Bool} (h : OBs w B v n xs) : ∃ a c, v = .slice a n c := by
  rcases h.2 with ⟨rfl, rfl⟩ | ⟨g, cap, cur, rfl, _⟩
  · exact ⟨_, _, rfl⟩
  · exact ⟨_, _, rfl⟩
theorem OBs.form {w : World} {B : Nat} {v : Value} {n : Nat} {xs : List Bool} (h : OBs w B v n xs) (hn : 0 < n) : ∃ g cap, v = .slice (some ⟨g, 0, none⟩) n cap ∧ B ≤ g := by
  rcases h.2 with ⟨_, h'⟩ | ⟨g, cap, cur, rfl, hb, _⟩
  · first | omega | (rw [h'] at hn; omega)
  · exact ⟨g, cap, rfl, hb⟩
end Go.Proofs.YtiiiegflobihjaaGreat

/- The numbers of words: the reference's Number. -/
namespace Go.Proofs.YtiiiegflobihjaaGreat
open Go.RowKit

def stM (L : Nat) (prev : List Nat) (ms : List (List Int)) : Nat := ms.foldl (fun acc m => min (acc + prev.getD (mvTo m) 0) L) 0
/-- The numbers of words of so many rounds, cut off at L. -/
def numL (ss : List (List (List Int))) (L : Nat) : Nat → List Nat
  | 0 => List.replicate ss.length 1
  | k + 1 => ss.map (stM L (numL ss L k))
theorem numL_len (ss : List (List (List Int))) (L : Nat) : ∀ k, (numL ss L k).length = ss.length
  | 0 => by simp [numL]
  | k + 1 => by simp [numL]
/-- The number of words. -/
def cnt (ss : List (List (List Int))) : Nat → Nat → Nat
  | 0, _ => 1
  | k + 1, s => ((ss.getD s []).map fun m => cnt ss k (mvTo m)).sum
theorem fold_min (L : Nat) (f g : List Int → Nat) : ∀ (ms : List (List Int)) (a : Nat), (∀ m ∈ ms, g m = min (f m) L) → ms.foldl (fun acc m => min (acc + g m) L) (min a L) = min (a + (ms.map f).sum) L
  | [], a, _ => by simp
  | m :: r, a, h => by
    rw [List.foldl_cons, h m (by simp), List.map_cons, List.sum_cons]
    have := fold_min L f g r (a + f m) (fun x hx => h x (by simp [hx]))
    rw [show min (min a L + min (f m) L) L = min (a + f m) L by omega, this, Nat.add_assoc]
theorem numL_cnt {ss : List (List (List Int))} (hM : LeadOK ss) {L : Nat} (hL : 1 ≤ L) : ∀ (k s : Nat), s < ss.length → (numL ss L k).getD s 0 = min (cnt ss k s) L
  | 0, s, hs => by
    rw [numL, cnt, List.getD_eq_getElem?_getD, List.getElem?_replicate, if_pos hs]; simp; omega
  | k + 1, s, hs => by
    rw [numL, cnt, List.getD_eq_getElem?_getD, List.getElem?_map, List.getElem?_eq_getElem hs, Option.map_some, Option.getD_some, stM]
    have h1 : ss.getD s [] = ss[s] := getD_eq hs []
    rw [h1]
    have h2 := fold_min L (fun m => cnt ss k (mvTo m)) (fun m => (numL ss L k).getD (mvTo m) 0) ss[s] 0 (fun m hm => by
      have h3 := hM _ (List.getElem_mem hs) m hm
      have h4 : mvTo m < ss.length := by unfold mvTo; omega
      exact numL_cnt hM hL k (mvTo m) h4)
    rw [Nat.zero_add, Nat.zero_min] at h2
    exact h2
theorem stM_le (L : Nat) (prev : List Nat) (ms : List (List Int)) : stM L prev ms ≤ L := by
  have h : ∀ (ms : List (List Int)) (a : Nat), a ≤ L → ms.foldl (fun acc m => min (acc + prev.getD (mvTo m) 0) L) a ≤ L := by
    intro ms
    induction ms with
    | nil => intro a h; exact h
    | cons m r ih => intro a _; exact ih _ (Nat.min_le_right _ _)
  exact h ms 0 (Nat.zero_le _)
theorem numL_le (ss : List (List (List Int))) {L : Nat} (hL : 1 ≤ L) : ∀ (k j : Nat), (numL ss L k).getD j 0 ≤ L
  | 0, j => by rw [numL, List.getD_eq_getElem?_getD, List.getElem?_replicate]; split <;> simp <;> omega
  | k + 1, j => by
    rw [numL, List.getD_eq_getElem?_getD, List.getElem?_map]
    cases ss[j]? with
    | none => simp
    | some ms => exact stM_le _ _ _

set_option maxRecDepth 100000 in
set_option maxHeartbeats 6400000 in
theorem refNum {w : World} {v : Value} {n : Int} {ss : List (List (List Int))} (hA : AdvV w v n ss) (hM : LeadOK ss) (h0 : 0 < ss.length) (hl : ss.length ≤ 90) {k L : Nat} {lim : Int} (hk : k ≤ 100) (hL : lim + 1 = (L : Int)) (hL1 : 1 ≤ L) (hL9 : L ≤ 1000000) :
    Calls Tryz.prog 50 #[v, .int .i64 (k : Int), .int .i64 lim] w fun e w' => e = .returned (.int .i64 ((numL ss L k).getD 0 0 : Nat)) ∧ Below w.heap.size w w' := by
  obtain ⟨sv, rfl, sa, sc, sb, so, rfl, hsa, hsc, _⟩ := hA
  obtain rfl := hsa h0
  obtain ⟨W1, hW1⟩ : ∃ W1, W1 = w.alloc (.cells #[.int .i64 n, .slice (some ⟨sb, so, none⟩) ss.length sc] 24) := ⟨_, rfl⟩
  obtain ⟨hb1, p0, p1, _⟩ := boxAdv hW1
  obtain ⟨N, hN⟩ : ∃ N, ss.length = N := ⟨_, rfl⟩
  have hwL : IntKind.i64.wrap (lim + 1) = (L : Int) := by rw [hL]; exact IntWalk.i64_in _ (by omega)
  have hwL2 : IntKind.i64.wrap (L : Int) = (L : Int) := IntWalk.i64_in _ (by omega)
  replace hsc : ∀ j, j < ss.length → ∃ u, w.cell? ⟨sb, so + j, none⟩ = some u ∧ KS 8 w u (ss.getD j []) := hsc
  rw [hN] at h0 hl p1 hW1 hsc ⊢
  have hnl : OI W1 W1.heap.size (.slice none 0 0) 0 (natI (List.replicate 0 1)) := OI.nil _ _
  replace hsc := Lib.hid hsc
  replace hN := Lib.hid hN
  replace hL := Lib.hid hL
  have hMt : Hid (∀ j, j < N → ∀ m ∈ ss.getD j [], 0 ≤ m.getD 7 0 ∧ m.getD 7 0 < (N : Int)) := fun j hj m hm => by
    have hjs : j < ss.length := by rw [hN.out]; exact hj
    have := hM _ (by rw [getD_eq hjs]; exact List.getElem_mem hjs) m hm
    rw [hN.out] at this; exact this
  clear hM
  obtain ⟨Z, hZ⟩ : ∃ Z, (numL ss L k).getD 0 0 = Z := ⟨_, rfl⟩
  rw [hZ]
  replace hZ := Lib.hid hZ
  go_enter Tryz.func50, Tryz.ntmps50
  go_wp2_with fail
  rw [← hW1]
  replace hW1 := Lib.hid hW1
  go_loopw [7, 8] (fun lv iv wr => ∃ i : Nat, iv = .int .i64 i ∧ i ≤ N ∧ OI wr W1.heap.size lv i (natI (List.replicate i 1)) ∧ Below W1.heap.size W1 wr) (fun _ iv _ => N - (intOf iv).toNat)
  case atStart => exact ⟨0, rfl, by omega, hnl, Below.refl _ _⟩
  case round =>
    clear hnl
    obtain ⟨i, rfl, hi, hO, hbr⟩ := hrel
    have c1 := cell_kept hbr p1
    obtain ⟨la, lc, hls⟩ := hO.shape
    subst hls
    by_cases hlt : i < N
    · have hii : (i : Int) < (N : Int) := by omega
      have hr1 : natI (List.replicate i 1) ++ [(1 : Int)] = natI (List.replicate (i + 1) 1) := by
        rw [natI, natI, List.replicate_succ', List.map_append]; rfl
      replace hr1 := Lib.hid hr1
      go_wp2_with (at_builtin; refine wpAppI rfl _ _ rfl rfl hO rfl (by omega) hbr.size ?_)
      intro v2 w2 ho2 hg2 hb2
      rw [hr1.out] at ho2
      have hbf := hbr.trans hb2
      go_wp2
      go_roundw
      case rel => exact ⟨i + 1, by go_num, hlt, ho2, hbf⟩
      case measure => simp [intOf]; omega
    · obtain rfl : i = N := by omega
      have hii : ¬ ((i : Int) < (i : Int)) := by omega
      have hO0 : OI wr W1.heap.size (.slice la i lc) i (natI (numL ss L 0)) := by rw [numL, hN.out]; exact hO
      clear hO
      go_wp2_with fail
      obtain ⟨wa, hwa⟩ : ∃ wa, wa = wr := ⟨_, rfl⟩
      subst hwa
      obtain ⟨N, hNi⟩ : ∃ N, i = N := ⟨_, rfl⟩
      subst hNi
      go_loopw [7, 9] (fun lv iv wr => ∃ j : Nat, iv = .int .i64 j ∧ j ≤ k ∧ OI wr W1.heap.size lv i (natI (numL ss L j)) ∧ Below W1.heap.size W1 wr) (fun _ iv _ => k - (intOf iv).toNat)
      case atStart => exact ⟨0, rfl, by omega, hO0, hbr⟩
      case round =>
        clear hO0 hbr c1
        obtain ⟨r, rfl, hr, hO, hbr⟩ := hrel
        have c1 := cell_kept hbr p1
        obtain ⟨g, gc, hgs, hgb⟩ := hO.form h0
        subst hgs
        by_cases hltr : r < k
        · have hri : (r : Int) < (k : Int) := by omega
          obtain ⟨P, hP⟩ : ∃ P, numL ss L r = P := ⟨_, rfl⟩
          have hPl : P.length = i := by rw [← hP, numL_len]; exact hN.out
          have hPb : Hid (∀ j, P.getD j 0 ≤ L) := fun j => by rw [← hP]; exact numL_le ss hL1 r j
          have hQ : Hid (numL ss L (r + 1) = ss.map (stM L P)) := by show _ = _; rw [numL, hP]
          rw [hP] at hO
          obtain ⟨wo, hwo⟩ : ∃ wo, wo = wr := ⟨_, rfl⟩
          subst hwo
          have hc1 := Lib.hid (fun W (hb : Below wo.heap.size wo W) => cell_kept hb c1)
          have hcP := Lib.hid (fun W (hb : Below wo.heap.size wo W) q (hq : q < i) => by have := cell_kept hb (hO.cell hq); rwa [natI_getD] at this)
          have hsw := Lib.hid (fun W (hb : Below wo.heap.size wo W) j (hj : j < i) => let ⟨u, h1, h2⟩ := hsc.out j hj; (⟨u, cell_kept (bt (bt hb1 hbr hb1.size) hb (bt hb1 hbr hb1.size).size) h1, h2.keep (bt (bt hb1 hbr hb1.size) hb (bt hb1 hbr hb1.size).size)⟩ : ∃ u, W.cell? ⟨sb, so + j, none⟩ = some u ∧ KS 8 W u (ss.getD j [])))
          have hn2 : OI wo wo.heap.size (.slice none 0 0) 0 (natI ((ss.map (stM L P)).take 0)) := OI.nil _ _
          replace hP := Lib.hid hP
          go_wp2_with fail
          go_loopw [10, 11] (fun lv jv wr => ∃ j : Nat, jv = .int .i64 j ∧ j ≤ i ∧ OI wr wo.heap.size lv j (natI ((ss.map (stM L P)).take j)) ∧ Below wo.heap.size wo wr) (fun _ jv _ => i - (intOf jv).toNat)
          case atStart => exact ⟨0, rfl, by omega, hn2, Below.refl _ _⟩
          case round =>
            clear hn2 hO c1
            obtain ⟨j, rfl, hj, hO, hbo⟩ := hrel
            have c1 := hc1.out wr hbo
            obtain ⟨la, lc, hls⟩ := hO.shape
            subst hls
            by_cases hltj : j < i
            · have hji : (j : Int) < (i : Int) := by omega
              obtain ⟨u, hu, hks⟩ := hsw.out wr hbo j hltj
              obtain ⟨ms, hms⟩ : ∃ ms, ss.getD j [] = ms := ⟨_, rfl⟩
              have hmt := hMt.out j hltj
              rw [hms] at hks hmt
              have hst : Hid ((ss.map (stM L P)).take (j + 1) = (ss.map (stM L P)).take j ++ [stM L P ms]) := by
                have hjs : j < ss.length := by rw [hN.out]; exact hltj
                show _ = _
                rw [take_snoc (by rw [List.length_map]; exact hjs) 0]
                congr 1
                rw [List.getD_eq_getElem?_getD, List.getElem?_map, List.getElem?_eq_getElem hjs, Option.map_some, Option.getD_some, ← getD_eq hjs [], hms]
              obtain ⟨ma, mc, mb, mo, rfl, hma, hmc, hml⟩ := hks
              obtain ⟨wj, hwj⟩ : ∃ wj, wj = wr := ⟨_, rfl⟩
              subst hwj
              have hz : Hid (stM L P (ms.take 0) = 0) := rfl
              replace hmt := Lib.hid hmt
              replace hms := Lib.hid hms
              replace hmc := Lib.hid hmc
              go_wp2_with fail
              go_loopw [12, 13] (fun av xv wr => ∃ x a : Nat, av = .int .i64 a ∧ xv = .int .i64 x ∧ x ≤ ms.length ∧ a ≤ L ∧ Hid (stM L P (ms.take x) = a) ∧ wr = wj) (fun _ xv _ => ms.length - (intOf xv).toNat)
              case atStart => exact ⟨0, 0, rfl, rfl, by omega, by omega, hz, by first | rfl | trivial⟩
              case round =>
                clear hz
                obtain ⟨x, a, rfl, rfl, hx, haL, hax, rfl⟩ := hrel
                by_cases hltx : x < ms.length
                · have hxi : (x : Int) < (ms.length : Int) := by omega
                  obtain rfl := hma (by omega)
                  obtain ⟨hm8, hmk⟩ := hmc.out x hltx
                  obtain ⟨m, hm⟩ : ∃ m, ms.getD x [] = m := ⟨_, rfl⟩
                  have hmr := hmt.out m (by rw [← hm, getD_eq hltx]; exact List.getElem_mem hltx)
                  rw [hm] at hm8 hmk
                  obtain ⟨y0, y1, y2, y3, y4, y5, y6, y7, rfl⟩ := eight hm8
                  obtain ⟨_, _, _, _, _, _, _, c7⟩ := hmk.all8
                  obtain ⟨q, rfl⟩ : ∃ q : Nat, y7 = (q : Int) := ⟨y7.toNat, by have : 0 ≤ y7 := hmr.1; omega⟩
                  have hqN : q < i := by have : (q : Int) < (i : Int) := hmr.2; omega
                  have hqi : (q : Int) < (i : Int) := by omega
                  have hcq := hcP.out wr hbo q hqN
                  obtain ⟨b, hb⟩ : ∃ b, P.getD q 0 = b := ⟨_, rfl⟩
                  have hbL := hPb.out q
                  rw [hb] at hcq hbL
                  have hnx : Hid (stM L P (ms.take (x + 1)) = min (a + b) L) := by
                    show _ = _
                    rw [take_snoc hltx [], hm, stM, List.foldl_append, List.foldl_cons, List.foldl_nil]
                    have h1 : (ms.take x).foldl (fun acc m => min (acc + P.getD (mvTo m) 0) L) 0 = a := hax.out
                    rw [h1]
                    have h2 : mvTo [y0, y1, y2, y3, y4, y5, y6, (q : Int)] = q := rfl
                    rw [h2, hb]
                  have hws : IntKind.i64.wrap ((a : Int) + (b : Int)) = (a : Int) + (b : Int) := IntWalk.i64_in _ (by omega)
                  replace hb := Lib.hid hb
                  replace hm := Lib.hid hm
                  clear hax hmk hm8 hmr
                  by_cases hc : L < a + b
                  · have h1 : (L : Int) < (a : Int) + (b : Int) := by omega
                    have hn2 : Hid (stM L P (ms.take (x + 1)) = L) := by show _ = _; rw [hnx.out]; omega
                    clear hnx
                    go_wp2
                    go_roundw
                    case rel => exact ⟨x + 1, L, by go_num, by go_num, hltx, by omega, hn2, by first | rfl | trivial⟩
                    case measure => simp [intOf]; omega
                  · have h1 : ¬ ((L : Int) < (a : Int) + (b : Int)) := by omega
                    have hn2 : Hid (stM L P (ms.take (x + 1)) = a + b) := by show _ = _; rw [hnx.out]; omega
                    clear hnx
                    go_wp2
                    go_roundw
                    case rel => exact ⟨x + 1, a + b, by go_num, by go_num, hltx, by omega, hn2, by first | rfl | trivial⟩
                    case measure => simp [intOf]; omega
                · obtain rfl : x = ms.length := by omega
                  have hge : ¬ ((ms.length : Int) < (ms.length : Int)) := by omega
                  have hfa : stM L P ms = a := by have := hax.out; rwa [List.take_length] at this
                  have hst2 : natI ((ss.map (stM L P)).take j) ++ [(a : Int)] = natI ((ss.map (stM L P)).take (j + 1)) := by
                    rw [hst.out, hfa, natI, natI, List.map_append]; rfl
                  replace hst2 := Lib.hid hst2
                  clear hax hfa
                  go_wp2_with (at_builtin; refine wpAppI rfl _ _ rfl rfl hO rfl (by omega) hbo.size ?_)
                  intro v2 w2 ho2 hg2 hb2
                  rw [hst2.out] at ho2
                  have hbf := hbo.trans hb2
                  go_wp2
                  go_roundw
                  case rel => exact ⟨j + 1, by go_num, hltj, ho2, hbf⟩
                  case measure => simp [intOf]; omega
            · obtain rfl : j = i := by omega
              have hO2 : OI wr W1.heap.size (.slice la j lc) j (natI (numL ss L (r + 1))) := by
                have h1 := hO
                rw [List.take_of_length_le (by rw [List.length_map, hN.out]; exact Nat.le_refl _), ← hQ.out] at h1
                exact h1.base hbr.size
              have hbf := btt hbr hbo
              have hge : ¬ ((j : Int) < (j : Int)) := by omega
              clear hO
              go_wp2
              go_roundw
              case rel => exact ⟨r + 1, by go_num, hltr, hO2, hbf⟩
              case measure => simp [intOf]; omega
        · obtain rfl : r = k := by omega
          have hge : ¬ ((r : Int) < (r : Int)) := by omega
          have hc0 := hO.cell h0
          rw [natI_getD] at hc0
          have h0i : (0 : Int) < (i : Int) := by omega
          rw [hZ.out] at hc0
          go_wp2
          go_ret
          exact ⟨rfl, bt hb1 hbr hb1.size⟩
end Go.Proofs.YtiiiegflobihjaaGreat

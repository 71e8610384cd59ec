/- Texts of this claim, put together: EL FA CQ2. -/
import Derived.Test.YtiiiegflobihjaaGreatKMeetszb
import Derived.Test.YtiiiegflobihjaaGreatKMeetszc
import Derived.Test.YtiiiegflobihjaaGreatKMeetsk
import Derived.Deep.RegionHeld3
import Derived.Deep.DeepCutAuto
import Derived.Test.YtiiiegflobihjaaGreatKMeetsv
import Derived.Test.YtiiiegflobihjaaGreatKMeetsq

/- awake. -/
namespace Go.Proofs.YtiiiegflobihjaaGreat
open Go.RowKit

theorem allc {W : World} {b j : Nat} {v : Value} (h : W.cell? ⟨b, j, none⟩ = some v) : (∀ o, (W.alloc o).cell? ⟨b, j, none⟩ = some v) ∧ (∀ o o', ((W.alloc o).alloc o').cell? ⟨b, j, none⟩ = some v) :=
  ⟨fun o => cell_kept ((Below.refl _ _).alloc (Nat.le_refl _) o) h, fun o o' => cell_kept (((Below.refl _ _).alloc (Nat.le_refl _) o).alloc (by simp) o') h⟩
def exO : List (List (List Int)) := [[rdS ++ [1], rdC ++ [2]], [rdS ++ [1]], [rdC ++ [2]]]
def exT : List (List (List Int)) := [[rdC ++ [1]], [rdC ++ [2]], [rdS ++ [2]]]
def exF : List (List (List Int)) := [[rdF ++ [1]], [rdF ++ [2]], [rdH ++ [2]]]
theorem orEx {W : World} {a5 aB : Option Addr} {c5 cB : Nat} (hA : AdvV W (.agg #[.int .i64 2, .slice a5 1 c5]) 2 (alw1 rdC)) (hB : AdvV W (.agg #[.int .i64 2, .slice aB 1 cB]) 2 (alw1 rdS)) :
    Calls Tryz.prog 10 #[.agg #[.int .i64 2, .slice a5 1 c5], .agg #[.int .i64 2, .slice aB 1 cB]] W fun e W' => ∃ a6 c6, e = .returned (.tuple #[.agg #[.int .i64 2, .slice a6 3 c6], .int .i64 0]) ∧ OwAdv W' (.agg #[.int .i64 2, .slice a6 3 c6]) 2 exO ∧ Below W.heap.size W W' := by
  have h := orGood hA hB (by decide) (by decide) (eq_err chk_C chk_S) (alw_S rfl chk_C).ok (alw_S rfl chk_S).ok
  rw [ex_or] at h
  refine h.mono ?_
  rintro e W' ⟨u, rfl, h1, h2⟩
  obtain ⟨a, c, rfl⟩ := h1.shp (k := 3) rfl
  exact ⟨a, c, rfl, h1, h2⟩
theorem andEx {W : World} {a5 aB : Option Addr} {c5 cB : Nat} (hA : AdvV W (.agg #[.int .i64 2, .slice a5 1 c5]) 2 (alw1 rdC)) (hB : AdvV W (.agg #[.int .i64 2, .slice aB 1 cB]) 2 (alw1 rdS)) :
    Calls Tryz.prog 13 #[.agg #[.int .i64 2, .slice a5 1 c5], .agg #[.int .i64 2, .slice aB 1 cB]] W fun e W' => e = .returned (.tuple #[.agg #[.int .i64 0, .slice none 0 0], .int .i64 16]) ∧ Below W.heap.size W W' := by
  have h := andGood hA hB (by decide) (by decide) (eq_err chk_C chk_S) (alw_S rfl chk_C).ok (alw_S rfl chk_S).ok
  rw [ex_and] at h
  refine h.mono ?_
  intro e W' h1
  have h1 : (if (lvA [[]]).getD 0 false = true then BdOut W 2 (lvR [[]]) e W' else e = .returned (.tuple #[.agg #[.int .i64 0, .slice none 0 0], .int .i64 16]) ∧ Below W.heap.size W W') := h1
  rw [if_neg (by rw [ex_live]; decide)] at h1
  exact h1
theorem thenEx2 {W : World} {a5 aB : Option Addr} {c5 cB : Nat} (hA : AdvV W (.agg #[.int .i64 2, .slice a5 1 c5]) 2 (alw1 rdC)) (hB : AdvV W (.agg #[.int .i64 2, .slice aB 1 cB]) 2 (alw1 rdS)) :
    Calls Tryz.prog 15 #[.agg #[.int .i64 2, .slice a5 1 c5], .int .i64 2, .agg #[.int .i64 2, .slice aB 1 cB]] W fun e W' => ∃ a6 c6, e = .returned (.tuple #[.agg #[.int .i64 2, .slice a6 3 c6], .int .i64 0]) ∧ OwAdv W' (.agg #[.int .i64 2, .slice a6 3 c6]) 2 exT ∧ Below W.heap.size W W' := by
  have h := thenGood (k := 2) hA hB (by decide) (by decide) (eq_err chk_C chk_S) (alw_S rfl chk_C) (alw_S rfl chk_S) (by decide)
  rw [ex_then] at h
  refine h.mono ?_
  rintro e W' ⟨u, rfl, h1, h2⟩
  obtain ⟨a, c, rfl⟩ := h1.shp (k := 3) rfl
  exact ⟨a, c, rfl, h1, h2⟩

set_option maxRecDepth 100000 in
set_option maxHeartbeats 3200000 in
theorem awakeCall {w : World} : Calls Tryz.prog 9 #[] w fun e w' => e = .returned (.bool true) ∧ Below w.heap.size w w' := by
  obtain ⟨W2, hW2⟩ : ∃ W2, W2 = (w.alloc (.cells #[.int .i64 2, .int .i64 1, .int .i64 2, .int .i64 0, .int .i64 0, .int .i64 0, .int .i64 0] 51)).alloc (.cells #[.int .i64 2, .int .i64 3, .int .i64 3, .int .i64 0, .int .i64 0, .int .i64 0, .int .i64 0] 51) := ⟨_, rfl⟩
  have kS : W2.heap[w.heap.size]? = some (.cells #[.int .i64 2, .int .i64 1, .int .i64 2, .int .i64 0, .int .i64 0, .int .i64 0, .int .i64 0] 51) := by rw [hW2]; exact (Below.heap_alloc _ _ _ (by simp)).trans (heap_alloc_new w _)
  have kC : W2.heap[w.heap.size + 1]? = some (.cells #[.int .i64 2, .int .i64 3, .int .i64 3, .int .i64 0, .int .i64 0, .int .i64 0, .int .i64 0] 51) := by
    rw [hW2]
    have := heap_alloc_new (w.alloc (.cells #[.int .i64 2, .int .i64 1, .int .i64 2, .int .i64 0, .int .i64 0, .int .i64 0, .int .i64 0] 51)) (.cells #[.int .i64 2, .int .i64 3, .int .i64 3, .int .i64 0, .int .i64 0, .int .i64 0, .int .i64 0] 51)
    rwa [World.size_alloc] at this
  have hb2 : Below w.heap.size w W2 := by rw [hW2]; exact ((Below.refl _ w).alloc (Nat.le_refl _) _).alloc (by simp) _
  have hR := Lib.hid (fun W (hb : Below W2.heap.size W2 W) => And.intro (row7 (kept hb kS)) (row7 (kept hb kC)))
  have hR3 : Hid (∀ W, Below W2.heap.size W2 W → (True ∧ W.cell? ⟨w.heap.size, 0, none⟩ = some (.int .i64 2) ∧ W.cell? ⟨w.heap.size, 1, none⟩ = some (.int .i64 1) ∧ W.cell? ⟨w.heap.size, 2, none⟩ = some (.int .i64 2) ∧ W.cell? ⟨w.heap.size, 3, none⟩ = some (.int .i64 0) ∧ W.cell? ⟨w.heap.size, 4, none⟩ = some (.int .i64 0) ∧ W.cell? ⟨w.heap.size, 5, none⟩ = some (.int .i64 0) ∧ W.cell? ⟨w.heap.size, 6, none⟩ = some (.int .i64 0)) ∧
    (True ∧ W.cell? ⟨w.heap.size + 1, 0, none⟩ = some (.int .i64 2) ∧ W.cell? ⟨w.heap.size + 1, 1, none⟩ = some (.int .i64 3) ∧ W.cell? ⟨w.heap.size + 1, 2, none⟩ = some (.int .i64 3) ∧ W.cell? ⟨w.heap.size + 1, 3, none⟩ = some (.int .i64 0) ∧ W.cell? ⟨w.heap.size + 1, 4, none⟩ = some (.int .i64 0) ∧ W.cell? ⟨w.heap.size + 1, 5, none⟩ = some (.int .i64 0) ∧ W.cell? ⟨w.heap.size + 1, 6, none⟩ = some (.int .i64 0))) := fun W hb => ⟨⟨trivial, (hR.out W hb).1.2⟩, ⟨trivial, (hR.out W hb).2.2⟩⟩
  go_enter Tryz.func9, Tryz.ntmps9
  go_upto_region 3 with fail
  rw [← hW2]
  refine regAw3 hR3 ?_
  intro W3 hb3 a5 c5 hA a6 c6 hB b3 h3 k3 b4 h4 k4 hne
  clear hW2
  have HK := Lib.hid (fun X (hX : Below W3.heap.size W3 X) => And.intro (box2 (kept hX k3)) (And.intro (box2 (kept hX k4)) (And.intro (hA.adv.keep hX) (hB.adv.keep hX))))
  have hbw3 := bt hb2 hb3 hb2.size
  have B3 : Below W3.heap.size W3 W3 := Below.refl _ _
  obtain ⟨⟨p0, p1⟩, ⟨q0, q1⟩, _, _⟩ := HK.out W3 B3
  replace hne := Lib.hid hne
  clear k3 k4 hA hB
  go_wp2_with fail
  clear p0 p1 q0 q1
  refine (orEx (HK.out W3 B3).2.2.1 (HK.out W3 B3).2.2.2).mono ?_
  rintro e W4 ⟨xa, xc, rfl, hX, hb4⟩
  obtain ⟨W5, hW5⟩ : ∃ W5, W5 = W4.alloc (.cells #[.int .i64 2, .slice xa 3 xc] 24) := ⟨_, rfl⟩
  have hb5 : Below W4.heap.size W4 W5 := by rw [hW5]; exact (Below.refl _ _).alloc (Nat.le_refl _) _
  have kX5 : W5.heap[W4.heap.size]? = some (.cells #[.int .i64 2, .slice xa 3 xc] 24) := by rw [hW5]; exact heap_alloc_new _ _
  have hX5 := hX.keep hb5
  have B5 := btt hb4 hb5
  obtain ⟨⟨p0, p1⟩, ⟨q0, q1⟩, _, _⟩ := HK.out W5 B5
  rw [hW5] at p0 p1 q0 q1
  go_wp2_with fail
  rw [← hW5]
  replace hW5 := Lib.hid hW5
  clear p0 p1 q0 q1
  refine (andEx (HK.out W5 B5).2.2.1 (HK.out W5 B5).2.2.2).mono ?_
  rintro e W6 ⟨rfl, hb6⟩
  obtain ⟨W7, hW7⟩ : ∃ W7, W7 = W6.alloc (.cells #[.int .i64 0, .slice none 0 0] 24) := ⟨_, rfl⟩
  have hb7 : Below W6.heap.size W6 W7 := by rw [hW7]; exact (Below.refl _ _).alloc (Nat.le_refl _) _
  have B57 := btt hb6 hb7
  have B7 := btt B5 B57
  obtain ⟨⟨p0, p1⟩, ⟨q0, q1⟩, _, _⟩ := HK.out W7 B7
  rw [hW7] at p0 p1 q0 q1
  go_wp2_with fail
  rw [← hW7]
  replace hW7 := Lib.hid hW7
  clear p0 p1 q0 q1
  refine (thenEx2 (HK.out W7 B7).2.2.1 (HK.out W7 B7).2.2.2).mono ?_
  rintro e W8 ⟨ya, yc, rfl, hY, hb8⟩
  obtain ⟨W9, hW9⟩ : ∃ W9, W9 = W8.alloc (.cells #[.int .i64 2, .slice ya 3 yc] 24) := ⟨_, rfl⟩
  have hb9 : Below W8.heap.size W8 W9 := by rw [hW9]; exact (Below.refl _ _).alloc (Nat.le_refl _) _
  have kY9 : W9.heap[W8.heap.size]? = some (.cells #[.int .i64 2, .slice ya 3 yc] 24) := by rw [hW9]; exact heap_alloc_new _ _
  have hY9 := hY.keep hb9
  have B79 := btt hb8 hb9
  have B59 := btt B57 B79
  have B9 := btt B7 B79
  have kX9 := kept B59 kX5
  have hX9 := hX5.keep B59
  clear hX hY
  go_upto_region 9 with fail
  rw [← hW9]
  replace hW9 := Lib.hid hW9
  refine regAw9 (fun W hb => hR3.out W (btt (btt hb3 B9) hb)) ?_
  intro W10 hb10 b11 h11 k11 b12 h12 k12 hne2
  have y11 : W10.cell? ⟨b11, 6, none⟩ = some (.int .i64 0) := box_cell (j := 6) k11 rfl
  have f11 : W10.frozen? ⟨b11, 6, none⟩ = false := row_free k11 6
  have k12' : (W10.setCell ⟨b11, 6, none⟩ (.int .i64 1)).heap[b12]? = some (.cells #[.int .i64 2, .int .i64 1, .int .i64 2, .int .i64 0, .int .i64 0, .int .i64 0, .int .i64 0] 51) := hSn k12 hne2.symm
  have y12 : (W10.setCell ⟨b11, 6, none⟩ (.int .i64 1)).cell? ⟨b12, 6, none⟩ = some (.int .i64 0) := box_cell (j := 6) k12' rfl
  have f12 : (W10.setCell ⟨b11, 6, none⟩ (.int .i64 1)).frozen? ⟨b12, 6, none⟩ = false := row_free k12' 6
  obtain ⟨W11, hW11⟩ : ∃ W11, W11 = (W10.setCell ⟨b11, 6, none⟩ (.int .i64 1)).setCell ⟨b12, 6, none⟩ (.int .i64 1) := ⟨_, rfl⟩
  have hb11 : Below W9.heap.size W9 W11 := by rw [hW11]; exact gS (gS hb10 h11 6 _) h12 6 _
  have kF11 : W11.heap[b11]? = some (.cells #[.int .i64 2, .int .i64 3, .int .i64 3, .int .i64 0, .int .i64 0, .int .i64 0, .int .i64 1] 51) := by rw [hW11]; exact hSn (heap_setCell_same _ b11 6 _ _ (.int .i64 1) k11) hne2
  have kH11 : W11.heap[b12]? = some (.cells #[.int .i64 2, .int .i64 1, .int .i64 2, .int .i64 0, .int .i64 0, .int .i64 0, .int .i64 1] 51) := by rw [hW11]; exact heap_setCell_same _ b12 6 _ _ (.int .i64 1) k12'
  have B11 := btt B9 hb11
  clear k11 k12 k12' h11 h12
  replace hne2 := Lib.hid hne2
  go_upto_region 11 with fail
  rw [← hW11]
  clear y11 f11 y12 f12
  replace hW11 := Lib.hid hW11
  refine regAw11 (fun W hb => ⟨⟨trivial, (row7 (kept hb kF11)).2⟩, (HK.out W (btt B11 hb)).2.1.1, (HK.out W (btt B11 hb)).2.1.2, (HK.out W (btt B11 hb)).2.2.2⟩) ?_
  intro W12 hb12 a7 c7 hF a8 c8 hZ b13 h13 k13
  clear hF
  change OwAdv W12 _ 2 exF at hZ
  have B12 := btt B11 hb12
  have hb912 := btt hb11 hb12
  have kX12 := kept hb912 kX9
  have kY12 := kept hb912 kY9
  have hX12 := hX9.keep hb912
  have hY12 := hY9.keep hb912
  have kF12 := kept hb12 kF11
  have kH12 := kept hb12 kH11
  have hw12 := bt hbw3 B12 hbw3.size
  have HR := Lib.hid (fun X (hX : Below W12.heap.size W12 X) => And.intro (row7 (kept (btt B12 hX) (kept hb3 kS))) (row7 (kept (btt B12 hX) (kept hb3 kC))))
  have HF := Lib.hid (fun X (hX : Below W12.heap.size W12 X) => And.intro (row7 (kept hX kF12)) (row7 (kept hX kH12)))
  have HX := Lib.hid (fun X (hX : Below W12.heap.size W12 X) => And.intro (box2 (kept hX kX12)) (hX12.adv.keep hX))
  have HY := Lib.hid (fun X (hX : Below W12.heap.size W12 X) => And.intro (box2 (kept hX kY12)) (hY12.adv.keep hX))
  have HZ := Lib.hid (fun X (hX : Below W12.heap.size W12 X) => And.intro (box2 (kept hX k13)) (hZ.adv.keep hX))
  have B00 : Below W12.heap.size W12 W12 := Below.refl _ _
  clear kX5 hX5 kY9 kX9 hX9 hY9 kF11 kH11 kX12 kY12 hX12 hY12 kF12 kH12 k13 hZ
  obtain ⟨⟨_, s0, s1, s2, s3, s4, s5, s6⟩, ⟨_, d0, d1, d2, d3, d4, d5, d6⟩⟩ := HR.out W12 B00
  obtain ⟨s0a, s0b⟩ := allc s0
  obtain ⟨s1a, s1b⟩ := allc s1
  obtain ⟨s2a, s2b⟩ := allc s2
  obtain ⟨s3a, s3b⟩ := allc s3
  obtain ⟨s4a, s4b⟩ := allc s4
  obtain ⟨s5a, s5b⟩ := allc s5
  obtain ⟨s6a, s6b⟩ := allc s6
  obtain ⟨d0a, d0b⟩ := allc d0
  obtain ⟨d1a, d1b⟩ := allc d1
  obtain ⟨d2a, d2b⟩ := allc d2
  obtain ⟨d3a, d3b⟩ := allc d3
  obtain ⟨d4a, d4b⟩ := allc d4
  obtain ⟨d5a, d5b⟩ := allc d5
  obtain ⟨d6a, d6b⟩ := allc d6
  obtain ⟨⟨p0, p1⟩, _⟩ := HX.out W12 B00
  go_wp2_with fail
  clear p0 p1 s0 s0a s0b s1 s1a s1b s2 s2a s2b s3 s3a s3b s4 s4a s4b s5 s5a s5b s6 s6a s6b d0 d0a d0b d1 d1a d1b d2 d2a d2b d3 d3a d3b d4 d4a d4b d5 d5a d5b d6 d6a d6b
  generalize hW : World.alloc _ _ = V0
  have k0 : V0.heap[W12.heap.size]? = some (.cells #[.int .i64 2, .int .i64 1, .int .i64 2, .int .i64 0, .int .i64 0, .int .i64 0, .int .i64 0, .int .i64 1, .int .i64 2, .int .i64 3, .int .i64 3, .int .i64 0, .int .i64 0, .int .i64 0, .int .i64 0, .int .i64 2] 58) := by rw [← hW]; repeat (first | (refine ha_new ?_; first | rfl | (simp only [World.size_alloc]; done)) | (refine ha_old ?_ ?_; · (simp only [World.size_alloc] <;> omega)))
  have k1 : V0.heap[W12.heap.size + 1]? = some (.cells #[.int .i64 2, .int .i64 1, .int .i64 2, .int .i64 0, .int .i64 0, .int .i64 0, .int .i64 0, .int .i64 1] 58) := by rw [← hW]; repeat (first | (refine ha_new ?_; first | rfl | (simp only [World.size_alloc]; done)) | (refine ha_old ?_ ?_; · (simp only [World.size_alloc] <;> omega)))
  have k2 : V0.heap[W12.heap.size + 1 + 1]? = some (.cells #[.int .i64 2, .int .i64 3, .int .i64 3, .int .i64 0, .int .i64 0, .int .i64 0, .int .i64 0, .int .i64 2] 58) := by rw [← hW]; repeat (first | (refine ha_new ?_; first | rfl | (simp only [World.size_alloc]; done)) | (refine ha_old ?_ ?_; · (simp only [World.size_alloc] <;> omega)))
  have k3 : V0.heap[W12.heap.size + 1 + 1 + 1]? = some (.cells #[.slice (some ⟨W12.heap.size, 0, none⟩) 2 2, .slice (some ⟨W12.heap.size + 1, 0, none⟩) 1 1, .slice (some ⟨W12.heap.size + 1 + 1, 0, none⟩) 1 1] 59) := by rw [← hW]; repeat (first | (refine ha_new ?_; first | rfl | (simp only [World.size_alloc]; done)) | (refine ha_old ?_ ?_; · (simp only [World.size_alloc] <;> omega)))
  have hbV0 : Below W12.heap.size W12 V0 := by rw [← hW]; repeat (first | exact Below.refl _ _ | (refine Below.alloc ?_ ?_ _; rotate_left; · (first | exact Nat.le_refl _ | (simp only [World.size_alloc] <;> omega))))
  clear hW
  have m0 := (KSC.row (k := 8) (xs := [rdS ++ [1], rdC ++ [2]]) k0 (by decide) rfl (by decide)).ks
  have m1 := (KSC.row (k := 8) (xs := [rdS ++ [1]]) k1 (by decide) rfl (by decide)).ks
  have m2 := (KSC.row (k := 8) (xs := [rdC ++ [2]]) k2 (by decide) rfl (by decide)).ks
  have hL : AdvV V0 (.agg #[.int .i64 2, .slice (some ⟨W12.heap.size + 1 + 1 + 1, 0, none⟩) 3 3]) 2 exO := advOf (xs := exO) k3 rfl (by decide) (fun j hj => by
    have hj : j < 3 := hj
    rcases (by omega : j = 0 ∨ j = 1 ∨ j = 2) with rfl | rfl | rfl
    · exact m0
    · exact m1
    · exact m2)
  have BV0 := btt B00 hbV0
  refine (sameRef (HX.out _ BV0).2 hL).mono ?_
  rintro e W20 ⟨rfl, hb20⟩
  rw [show (decide ((2 : Int) = 2) && decide (exO = exO)) = true by decide]
  have C0 := btt BV0 hb20
  clear k0 k1 k2 k3 m0 m1 m2 hL hbV0
  obtain ⟨⟨_, s0, s1, s2, s3, s4, s5, s6⟩, ⟨_, d0, d1, d2, d3, d4, d5, d6⟩⟩ := HR.out W20 C0
  obtain ⟨s0a, s0b⟩ := allc s0
  obtain ⟨s1a, s1b⟩ := allc s1
  obtain ⟨s2a, s2b⟩ := allc s2
  obtain ⟨s3a, s3b⟩ := allc s3
  obtain ⟨s4a, s4b⟩ := allc s4
  obtain ⟨s5a, s5b⟩ := allc s5
  obtain ⟨s6a, s6b⟩ := allc s6
  obtain ⟨d0a, d0b⟩ := allc d0
  obtain ⟨d1a, d1b⟩ := allc d1
  obtain ⟨d2a, d2b⟩ := allc d2
  obtain ⟨d3a, d3b⟩ := allc d3
  obtain ⟨d4a, d4b⟩ := allc d4
  obtain ⟨d5a, d5b⟩ := allc d5
  obtain ⟨d6a, d6b⟩ := allc d6
  obtain ⟨⟨p0, p1⟩, _⟩ := HY.out W20 C0
  go_wp2_with fail
  clear p0 p1 s0 s0a s0b s1 s1a s1b s2 s2a s2b s3 s3a s3b s4 s4a s4b s5 s5a s5b s6 s6a s6b d0 d0a d0b d1 d1a d1b d2 d2a d2b d3 d3a d3b d4 d4a d4b d5 d5a d5b d6 d6a d6b
  generalize hW : World.alloc _ _ = V1
  have k0 : V1.heap[W20.heap.size]? = some (.cells #[.int .i64 2, .int .i64 3, .int .i64 3, .int .i64 0, .int .i64 0, .int .i64 0, .int .i64 0, .int .i64 1] 58) := by rw [← hW]; repeat (first | (refine ha_new ?_; first | rfl | (simp only [World.size_alloc]; done)) | (refine ha_old ?_ ?_; · (simp only [World.size_alloc] <;> omega)))
  have k1 : V1.heap[W20.heap.size + 1]? = some (.cells #[.int .i64 2, .int .i64 3, .int .i64 3, .int .i64 0, .int .i64 0, .int .i64 0, .int .i64 0, .int .i64 2] 58) := by rw [← hW]; repeat (first | (refine ha_new ?_; first | rfl | (simp only [World.size_alloc]; done)) | (refine ha_old ?_ ?_; · (simp only [World.size_alloc] <;> omega)))
  have k2 : V1.heap[W20.heap.size + 1 + 1]? = some (.cells #[.int .i64 2, .int .i64 1, .int .i64 2, .int .i64 0, .int .i64 0, .int .i64 0, .int .i64 0, .int .i64 2] 58) := by rw [← hW]; repeat (first | (refine ha_new ?_; first | rfl | (simp only [World.size_alloc]; done)) | (refine ha_old ?_ ?_; · (simp only [World.size_alloc] <;> omega)))
  have k3 : V1.heap[W20.heap.size + 1 + 1 + 1]? = some (.cells #[.slice (some ⟨W20.heap.size, 0, none⟩) 1 1, .slice (some ⟨W20.heap.size + 1, 0, none⟩) 1 1, .slice (some ⟨W20.heap.size + 1 + 1, 0, none⟩) 1 1] 59) := by rw [← hW]; repeat (first | (refine ha_new ?_; first | rfl | (simp only [World.size_alloc]; done)) | (refine ha_old ?_ ?_; · (simp only [World.size_alloc] <;> omega)))
  have hbV1 : Below W20.heap.size W20 V1 := by rw [← hW]; repeat (first | exact Below.refl _ _ | (refine Below.alloc ?_ ?_ _; rotate_left; · (first | exact Nat.le_refl _ | (simp only [World.size_alloc] <;> omega))))
  clear hW
  have m0 := (KSC.row (k := 8) (xs := [rdC ++ [1]]) k0 (by decide) rfl (by decide)).ks
  have m1 := (KSC.row (k := 8) (xs := [rdC ++ [2]]) k1 (by decide) rfl (by decide)).ks
  have m2 := (KSC.row (k := 8) (xs := [rdS ++ [2]]) k2 (by decide) rfl (by decide)).ks
  have hL : AdvV V1 (.agg #[.int .i64 2, .slice (some ⟨W20.heap.size + 1 + 1 + 1, 0, none⟩) 3 3]) 2 exT := advOf (xs := exT) k3 rfl (by decide) (fun j hj => by
    have hj : j < 3 := hj
    rcases (by omega : j = 0 ∨ j = 1 ∨ j = 2) with rfl | rfl | rfl
    · exact m0
    · exact m1
    · exact m2)
  have BV1 := btt C0 hbV1
  refine (sameRef (HY.out _ BV1).2 hL).mono ?_
  rintro e W21 ⟨rfl, hb21⟩
  rw [show (decide ((2 : Int) = 2) && decide (exT = exT)) = true by decide]
  have C1 := btt BV1 hb21
  clear k0 k1 k2 k3 m0 m1 m2 hL hbV1
  obtain ⟨⟨_, s0, s1, s2, s3, s4, s5, s6⟩, ⟨_, d0, d1, d2, d3, d4, d5, d6⟩⟩ := HF.out W21 C1
  obtain ⟨s0a, s0b⟩ := allc s0
  obtain ⟨s1a, s1b⟩ := allc s1
  obtain ⟨s2a, s2b⟩ := allc s2
  obtain ⟨s3a, s3b⟩ := allc s3
  obtain ⟨s4a, s4b⟩ := allc s4
  obtain ⟨s5a, s5b⟩ := allc s5
  obtain ⟨s6a, s6b⟩ := allc s6
  obtain ⟨d0a, d0b⟩ := allc d0
  obtain ⟨d1a, d1b⟩ := allc d1
  obtain ⟨d2a, d2b⟩ := allc d2
  obtain ⟨d3a, d3b⟩ := allc d3
  obtain ⟨d4a, d4b⟩ := allc d4
  obtain ⟨d5a, d5b⟩ := allc d5
  obtain ⟨d6a, d6b⟩ := allc d6
  obtain ⟨⟨p0, p1⟩, _⟩ := HZ.out W21 C1
  go_wp2_with fail
  clear p0 p1 s0 s0a s0b s1 s1a s1b s2 s2a s2b s3 s3a s3b s4 s4a s4b s5 s5a s5b s6 s6a s6b d0 d0a d0b d1 d1a d1b d2 d2a d2b d3 d3a d3b d4 d4a d4b d5 d5a d5b d6 d6a d6b
  generalize hW : World.alloc _ _ = V2
  have k0 : V2.heap[W21.heap.size]? = some (.cells #[.int .i64 2, .int .i64 3, .int .i64 3, .int .i64 0, .int .i64 0, .int .i64 0, .int .i64 1, .int .i64 1] 58) := by rw [← hW]; repeat (first | (refine ha_new ?_; first | rfl | (simp only [World.size_alloc]; done)) | (refine ha_old ?_ ?_; · (simp only [World.size_alloc] <;> omega)))
  have k1 : V2.heap[W21.heap.size + 1]? = some (.cells #[.int .i64 2, .int .i64 3, .int .i64 3, .int .i64 0, .int .i64 0, .int .i64 0, .int .i64 1, .int .i64 2] 58) := by rw [← hW]; repeat (first | (refine ha_new ?_; first | rfl | (simp only [World.size_alloc]; done)) | (refine ha_old ?_ ?_; · (simp only [World.size_alloc] <;> omega)))
  have k2 : V2.heap[W21.heap.size + 1 + 1]? = some (.cells #[.int .i64 2, .int .i64 1, .int .i64 2, .int .i64 0, .int .i64 0, .int .i64 0, .int .i64 1, .int .i64 2] 58) := by rw [← hW]; repeat (first | (refine ha_new ?_; first | rfl | (simp only [World.size_alloc]; done)) | (refine ha_old ?_ ?_; · (simp only [World.size_alloc] <;> omega)))
  have k3 : V2.heap[W21.heap.size + 1 + 1 + 1]? = some (.cells #[.slice (some ⟨W21.heap.size, 0, none⟩) 1 1, .slice (some ⟨W21.heap.size + 1, 0, none⟩) 1 1, .slice (some ⟨W21.heap.size + 1 + 1, 0, none⟩) 1 1] 59) := by rw [← hW]; repeat (first | (refine ha_new ?_; first | rfl | (simp only [World.size_alloc]; done)) | (refine ha_old ?_ ?_; · (simp only [World.size_alloc] <;> omega)))
  have hbV2 : Below W21.heap.size W21 V2 := by rw [← hW]; repeat (first | exact Below.refl _ _ | (refine Below.alloc ?_ ?_ _; rotate_left; · (first | exact Nat.le_refl _ | (simp only [World.size_alloc] <;> omega))))
  clear hW
  have m0 := (KSC.row (k := 8) (xs := [rdF ++ [1]]) k0 (by decide) rfl (by decide)).ks
  have m1 := (KSC.row (k := 8) (xs := [rdF ++ [2]]) k1 (by decide) rfl (by decide)).ks
  have m2 := (KSC.row (k := 8) (xs := [rdH ++ [2]]) k2 (by decide) rfl (by decide)).ks
  have hL : AdvV V2 (.agg #[.int .i64 2, .slice (some ⟨W21.heap.size + 1 + 1 + 1, 0, none⟩) 3 3]) 2 exF := advOf (xs := exF) k3 rfl (by decide) (fun j hj => by
    have hj : j < 3 := hj
    rcases (by omega : j = 0 ∨ j = 1 ∨ j = 2) with rfl | rfl | rfl
    · exact m0
    · exact m1
    · exact m2)
  have BV2 := btt C1 hbV2
  refine (sameRef (HZ.out _ BV2).2 hL).mono ?_
  rintro e W22 ⟨rfl, hb22⟩
  rw [show (decide ((2 : Int) = 2) && decide (exF = exF)) = true by decide]
  have C2 := btt BV2 hb22
  clear k0 k1 k2 k3 m0 m1 m2 hL hbV2
  have hbf := bt hw12 C2 hw12.size
  go_wp2
  go_ret
  exact ⟨rfl, hbf⟩
end Go.Proofs.YtiiiegflobihjaaGreat

/- Results of the combined adversaries, one form for program and reference. -/
namespace Go.Proofs.YtiiiegflobihjaaGreat
open Go.RowKit

/-- The error, the number of processes and the states that are handed back. -/
def rsOf (m : Int) (R : Option (List (List (List Int)))) : Int × Int × List (List (List Int)) := match R with | none => (17, 0, []) | some ss => (0, m, ss)
def RsOut (w : World) (r : Int × Int × List (List (List Int))) (e : Ending) (w' : World) : Prop := ∃ u, e = .returned (.tuple #[u, .int .i64 r.1]) ∧ AdvV w' u r.2.1 r.2.2 ∧ Below w.heap.size w w'
theorem advZero (w : World) : AdvV w (.agg #[.int .i64 0, .slice none 0 0]) 0 [] := ⟨_, rfl, none, 0, 0, 0, rfl, by simp, fun j hj => by simp at hj, by simp⟩
theorem RsOut.ofBd {w w' : World} {m : Int} {R : Option (List (List (List Int)))} {e : Ending} (h : BdOut w m R e w') : RsOut w (rsOf m R) e w' := by
  cases R with
  | none => exact ⟨_, h.1, advZero w', h.2⟩
  | some ss => obtain ⟨u, h1, h2, h3⟩ := h; exact ⟨u, h1, h2.adv, h3⟩
theorem eqErr_zero {m n : Int} {xs ys : List (List (List Int))} (h : eqErr m n xs ys = 0) : chkA m xs = 0 ∧ chkA n ys = 0 ∧ m = n := by
  unfold eqErr at h
  by_cases h1 : chkA m xs = 0
  · by_cases h2 : chkA n ys = 0
    · by_cases h3 : m = n
      · exact ⟨h1, h2, h3⟩
      · rw [if_neg (by rw [h1]; simp), if_neg (by rw [h2]; simp), if_pos h3] at h; cases h
    · rw [if_neg (by rw [h1]; simp), if_pos h2] at h; exact absurd h h2
  · rw [if_pos h1] at h; exact absurd h h1
theorem fewA_le {xs : List (List (List Int))} (h : fewA xs = true) : xs.length ≤ 8 ∧ movesN xs ≤ 40 := by simpa [fewA] using h
theorem awakeK {w0 : World} {B : Nat} (w : World) (h : Below B w0 w) (hB : B ≤ w.heap.size) : Calls Tryz.prog 9 #[] w fun e w' => e = .returned (.bool true) ∧ Below B w0 w' := awakeCall.mono fun _ _ ⟨h1, h2⟩ => ⟨h1, bt h h2 hB⟩
end Go.Proofs.YtiiiegflobihjaaGreat

/- The reference: paired, both = true. -/
namespace Go.Proofs.YtiiiegflobihjaaGreat
open Go.RowKit

set_option maxRecDepth 100000 in
set_option maxHeartbeats 12800000 in
theorem refPairedAnd {w : World} {u v : Value} {m n : Int} {az bz : List (List (List Int))} (hA : AdvV w u m az) (hB : AdvV w v n bz) (wA : AdOK az) (wB : AdOK bz) :
    Calls Tryz.prog 34 #[u, v, .bool true] w (BdOut w m (prA true az bz)) := by
  obtain ⟨aa, ac, hu⟩ := advShape' hA
  obtain ⟨ba, bc, hv⟩ := advShape' hB
  subst hu hv
  obtain ⟨W1, hW1⟩ : ∃ W1, W1 = ((((w.alloc (.cells #[.int .i64 m, .slice aa az.length ac] 24)).alloc (.cells #[.int .i64 n, .slice ba bz.length bc] 24)).alloc (.cells #[.int .i64 0, .slice none 0 0] 24)).alloc (.cells #[.int .i64 0, .int .i64 0] 113)).alloc (.cells #[.int .i64 m, .slice none 0 0] 24) := ⟨_, rfl⟩
  have hs1 : W1.heap.size = w.heap.size + 5 := by rw [hW1]; simp
  have hb1 : Below w.heap.size w W1 := by
    rw [hW1]; exact (((((Below.refl _ w).alloc (Nat.le_refl _) _).alloc (by simp) _).alloc (by first | (simp; done) | (simp; omega)) _).alloc (by first | (simp; done) | (simp; omega)) _).alloc (by first | (simp; done) | (simp; omega)) _
  have kA : W1.heap[w.heap.size]? = some (.cells #[.int .i64 m, .slice aa az.length ac] 24) := by
    rw [hW1]; exact (Below.heap_alloc _ _ _ (by first | (simp; done) | (simp; omega))).trans ((Below.heap_alloc _ _ _ (by first | (simp; done) | (simp; omega))).trans ((Below.heap_alloc _ _ _ (by first | (simp; done) | (simp; omega))).trans ((Below.heap_alloc _ _ _ (by first | (simp; done) | (simp; omega))).trans (heap_alloc_new w _))))
  have kB : W1.heap[w.heap.size + 1]? = some (.cells #[.int .i64 n, .slice ba bz.length bc] 24) := by
    rw [hW1]
    have := heap_alloc_new (w.alloc (.cells #[.int .i64 m, .slice aa az.length ac] 24)) (.cells #[.int .i64 n, .slice ba bz.length bc] 24)
    rw [World.size_alloc] at this
    exact (Below.heap_alloc _ _ _ (by first | (simp; done) | (simp; omega))).trans ((Below.heap_alloc _ _ _ (by first | (simp; done) | (simp; omega))).trans ((Below.heap_alloc _ _ _ (by first | (simp; done) | (simp; omega))).trans this))
  have kR : W1.heap[w.heap.size + 1 + 1]? = some (.cells #[.int .i64 0, .slice none 0 0] 24) := by
    rw [hW1]
    have := heap_alloc_new ((w.alloc (.cells #[.int .i64 m, .slice aa az.length ac] 24)).alloc (.cells #[.int .i64 n, .slice ba bz.length bc] 24)) (.cells #[.int .i64 0, .slice none 0 0] 24)
    rw [World.size_alloc, World.size_alloc] at this
    exact (Below.heap_alloc _ _ _ (by first | (simp; done) | (simp; omega))).trans ((Below.heap_alloc _ _ _ (by first | (simp; done) | (simp; omega))).trans this)
  have kN : W1.heap[w.heap.size + 1 + 1 + 1]? = some (.cells #[.int .i64 0, .int .i64 0] 113) := by
    rw [hW1]
    have := heap_alloc_new (((w.alloc (.cells #[.int .i64 m, .slice aa az.length ac] 24)).alloc (.cells #[.int .i64 n, .slice ba bz.length bc] 24)).alloc (.cells #[.int .i64 0, .slice none 0 0] 24)) (.cells #[.int .i64 0, .int .i64 0] 113)
    rw [World.size_alloc, World.size_alloc, World.size_alloc] at this
    exact (Below.heap_alloc _ _ _ (by first | (simp; done) | (simp; omega))).trans this
  have kO : W1.heap[w.heap.size + 1 + 1 + 1 + 1]? = some (.cells #[.int .i64 m, .slice none 0 0] 24) := by
    rw [hW1]
    have := heap_alloc_new ((((w.alloc (.cells #[.int .i64 m, .slice aa az.length ac] 24)).alloc (.cells #[.int .i64 n, .slice ba bz.length bc] 24)).alloc (.cells #[.int .i64 0, .slice none 0 0] 24)).alloc (.cells #[.int .i64 0, .int .i64 0] 113)) (.cells #[.int .i64 m, .slice none 0 0] 24)
    rwa [World.size_alloc, World.size_alloc, World.size_alloc, World.size_alloc] at this
  have HAV := Lib.hid (fun W (hb : Below w.heap.size w W) => hA.keep hb)
  have HBV := Lib.hid (fun W (hb : Below w.heap.size w W) => hB.keep hb)
  have hnd1 : OwX 113 2 EPr W1 w.heap.size (.slice (some ⟨w.heap.size + 1 + 1 + 1, 0, none⟩) 1 1) ([nd0] : List Nd).length [nd0] := by
    refine ⟨[.int .i64 0, .int .i64 0], ⟨rfl, .inr ⟨w.heap.size + 1 + 1 + 1, 1, _, rfl, by omega, kN, Nat.le_refl _, by unfold maxLen; omega, rfl, rfl⟩⟩, rfl, ?_, ?_⟩
    · intro u hu; simp only [List.mem_cons, List.not_mem_nil, or_false] at hu; rcases hu with rfl | rfl <;> rfl
    · intro j x hj
      cases j with
      | zero => simp only [List.getElem?_cons_zero, Option.some.injEq] at hj; subst hj; exact ⟨rfl, rfl⟩
      | succ j => simp at hj
  have hR := prA_eq true az bz
  obtain ⟨R, hRR⟩ : ∃ R, prA true az bz = R := ⟨_, rfl⟩
  rw [hRR] at hR ⊢
  have hK0 : Hid (exG (prSt true az bz) 300 0 [nd0] [] = some R) := hR
  have hP0 := PrP.first wA wB
  replace hRR := Lib.hid hRR
  replace hs1 := Lib.hid hs1
  clear hA hB kN hR
  go_enter Tryz.func34, Tryz.ntmps34
  go_wp2_with fail
  rw [← hW1]
  replace hW1 := Lib.hid hW1
  go_loopg [8, 10] 300 (fun f nv iv wr => ∃ (i : Nat) (nodes : List Nd) (out : List (List (List Int))) (sv : Value), iv = .int .i64 i ∧ OwX 113 2 EPr wr w.heap.size nv nodes.length nodes ∧ wr.heap[w.heap.size + 1 + 1 + 1 + 1]? = some (.cells #[.int .i64 m, sv] 24) ∧
    OwX 59 1 ESt wr w.heap.size sv out.length out ∧ Below w.heap.size w wr ∧ wr.heap[w.heap.size]? = some (.cells #[.int .i64 m, .slice aa az.length ac] 24) ∧ wr.heap[w.heap.size + 1]? = some (.cells #[.int .i64 n, .slice ba bz.length bc] 24) ∧ wr.heap[w.heap.size + 1 + 1]? = some (.cells #[.int .i64 0, .slice none 0 0] 24) ∧
    Hid (exG (prSt true az bz) f i nodes out = some R) ∧ i ≤ nodes.length ∧ nodes.length ≤ 256 ∧ movesN out ≤ 4096 ∧ Hid (out.length = i) ∧ Hid ((∀ x ∈ nodes, PrP az bz x) ∧ nodes.Nodup))
  case atStart => exact ⟨0, [nd0], [], .slice none 0 0, rfl, hnd1, kO, OwX.nil _ _, hb1, kA, kB, kR, hK0, by simp, by simp, by simp [movesN], rfl, ⟨by intro x hx; rw [List.mem_singleton.1 hx]; exact hP0, by simp⟩⟩
  case round =>
    clear hK0 hnd1 kO hb1 kA kB kR
    obtain ⟨i, nodes, out, sv, rfl, hnd, kO, hst, hbw, kA, kB, kR, hg, hi, hn256, hm4, hol, hPn⟩ := hrel
    obtain ⟨f, rfl⟩ : ∃ f, gk = f + 1 := by
      cases gk with
      | zero => exact absurd hg.out (by simp [exG])
      | succ f => exact ⟨f, rfl⟩
    have hol9 : out.length ≤ 256 := by rw [hol.out]; omega
    obtain ⟨sva, svc, hsv⟩ := hst.shape
    subst hsv
    by_cases hlt : i < nodes.length
    · obtain ⟨gn, cn, hnv, _⟩ := hnd.form (by omega)
      subst hnv
      obtain ⟨x, hxi⟩ : ∃ x, nodes[i]? = some x := ⟨_, List.getElem?_eq_getElem hlt⟩
      have hPx := hPn.out.1 x (List.mem_of_getElem? hxi)
      obtain ⟨e0, e1, e2⟩ := prCells hnd hxi
      have hx7 := prRs_len wA wB hPx
      have hps := Lib.hid (prSt_ok (bt := true) wA wB hPx).1
      obtain ⟨st, hstp⟩ : ∃ st, prSt true az bz x = st := ⟨_, rfl⟩
      have hsl := (prSt_ok (bt := true) wA wB hPx).2
      rw [hstp] at hps hsl
      obtain ⟨hxa, hxb, _, _⟩ := hPx
      obtain ⟨x0, x1, x2⟩ := x
      simp only at e0 e1 e2 hxa hxb
      subst e2
      have hii : (i : Int) < (nodes.length : Int) := by omega
      obtain ⟨Wx, hWx⟩ : ∃ Wx, Wx = wr.alloc (.cells #[.int .i64 x0, .int .i64 x1] 113) := ⟨_, rfl⟩
      have hbx : Below wr.heap.size wr Wx := by rw [hWx]; exact (Below.refl _ _).alloc (Nat.le_refl _) _
      have kX : Wx.heap[wr.heap.size]? = some (.cells #[.int .i64 x0, .int .i64 x1] 113) := by rw [hWx]; exact heap_alloc_new _ _
      have hbwx := bt hbw hbx hbw.size
      obtain ⟨uA, hKA, hMA, zA⟩ := refMv (HAV.out Wx hbwx) (fun s hs => (wA.st s hs).1) hxa
      obtain ⟨uB, hKB, hMB, zB⟩ := refMv (HBV.out Wx hbwx) (fun s hs => (wB.st s hs).1) hxb
      obtain ⟨ua, uc, huA⟩ := hKA.shape
      obtain ⟨va, vc, huB⟩ := hKB.shape
      subst huA huB
      have hlA := ndM_len wA x0
      have hlB := ndM_len wB x1
      obtain ⟨X, hX⟩ : ∃ X, ndM az x0 = X := ⟨_, rfl⟩
      obtain ⟨Y, hY⟩ : ∃ Y, ndM bz x1 = Y := ⟨_, rfl⟩
      have hRS : prRs az bz (x0, x1, []) = lets ((X ++ Y).map rdOf) := by rw [← hX, ← hY]; rfl
      have hst2 : prSt true az bz (x0, x1, []) = (lets ((X ++ Y).map rdOf)).filterMap (prF true az bz (x0, x1, [])) := by rw [← hRS]; rfl
      rw [hRS] at hx7
      rw [hstp] at hst2
      rw [hX] at hKA hMA hlA zA
      rw [hY] at hKB hMB hlB zB
      have zA2 : ua = none → uc = 0 := fun h => by
        rcases Nat.eq_zero_or_pos X.length with h0 | h0
        · have := zA h0; injection this with _ _ h3
        · obtain ⟨a', c', b', o', he, ha, _⟩ := hKA
          injection he with he1 _ _
          rw [ha h0] at he1
          rw [h] at he1; cases he1
      have zB2 : va = none → vc = 0 := fun h => by
        rcases Nat.eq_zero_or_pos Y.length with h0 | h0
        · have := zB h0; injection this with _ _ h3
        · obtain ⟨a', c', b', o', he, ha, _⟩ := hKB
          injection he with he1 _ _
          rw [ha h0] at he1
          rw [h] at he1; cases he1
      replace zA2 := Lib.hid zA2
      replace zB2 := Lib.hid zB2
      have hkk := Lib.hid (fun W (hb : Below Wx.heap.size Wx W) => And.intro (box2 ((hb.block _ (Array.getElem?_eq_some_iff.1 kX).1).trans kX)) (And.intro (box2 ((hb.block _ (Nat.lt_of_lt_of_le (Array.getElem?_eq_some_iff.1 kA).1 hbx.size)).trans ((hbx.block _ (Array.getElem?_eq_some_iff.1 kA).1).trans kA))) (box2 ((hb.block _ (Nat.lt_of_lt_of_le (Array.getElem?_eq_some_iff.1 kB).1 hbx.size)).trans ((hbx.block _ (Array.getElem?_eq_some_iff.1 kB).1).trans kB)))))
      have hKAk := Lib.hid (fun W (hb : Below Wx.heap.size Wx W) => hKA.keep hb)
      have hKBk := Lib.hid (fun W (hb : Below Wx.heap.size Wx W) => hKB.keep hb)
      replace hMA := Lib.hid hMA
      replace hMB := Lib.hid hMB
      replace hstp := Lib.hid hstp
      replace hxi := Lib.hid hxi
      replace hX := Lib.hid hX
      replace hY := Lib.hid hY
      replace hRS := Lib.hid hRS
      replace hst2 := Lib.hid hst2
      clear zA zB hKA hKB kX
      have h1 := hkk.out Wx (Below.refl _ _)
      obtain ⟨⟨k0, k1⟩, ⟨k2, k3⟩, _⟩ := h1
      rw [hWx] at k2 k3
      go_wp2_with fail
      rw [← hWx]
      replace hWx := Lib.hid hWx
      clear k0 k1 k2 k3
      refine (hMA.out Wx (Below.refl _ _)).mono ?_
      rintro e w2 ⟨rfl, hb2⟩
      have hn9 : 0 + X.length ≤ 1000000 := by omega
      have hO0 : OwX 58 8 EI w2 Wx.heap.size (.slice none 0 0) 0 [] := OwX.nil _ _
      have hB2 : Wx.heap.size ≤ w2.heap.size := hb2.size
      have hK2 := hKAk.out w2 hb2
      obtain ⟨⟨k0, k1⟩, _, ⟨k4, k5⟩⟩ := hkk.out w2 hb2
      go_wp2_with (at_builtin; refine wpList_appXs (ys := X) elemMv (by decide) (by decide) rfl _ _ rfl rfl hO0 rfl rfl hK2 zA2.out hn9 hB2 ?_)
      intro v3 w3 ho3 hg3 hb3 hx3
      have ho3 : OwX 58 8 EI w3 Wx.heap.size v3 X.length X := by simpa only [Nat.zero_add, List.nil_append] using ho3
      obtain ⟨a3, c3, hv3⟩ := ho3.shape
      subst hv3
      have hb03 := hb2.trans (hb3.mono (Nat.le_refl _))
      clear k0 k1 k4 k5
      obtain ⟨⟨k0, k1⟩, _, ⟨k4, k5⟩⟩ := hkk.out w3 hb03
      go_wp2_with fail
      clear k0 k1 k4 k5
      refine (hMB.out w3 hb03).mono ?_
      rintro e w4 ⟨rfl, hb4⟩
      have hb04 := bt hb03 hb4 hb03.size
      have ho4 := ho3.keep (EI.stab _) hb4
      have hK4 := hKBk.out w4 hb04
      have hn10 : X.length + Y.length ≤ 1000000 := by omega
      have hB4 : Wx.heap.size ≤ w4.heap.size := hb04.size
      go_wp2_with (at_builtin; refine wpList_appXs (ys := Y) elemMv (by decide) (by decide) rfl _ _ rfl rfl ho4 rfl rfl hK4 zB2.out hn10 hB4 ?_)
      intro v5 w5 ho5 hg5 hb5 hx5
      obtain ⟨a5, c5, hv5⟩ := ho5.shape
      subst hv5
      have hb05 := hb04.trans hb5
      have hL5 : (X ++ Y).length ≤ 1000 := by rw [List.length_append]; omega
      have HL := Lib.hid (refLets (ho5.ks (by omega)) hL5)
      clear hO0 hK2 hK4 ho3 ho4 ho5
      go_wp2_with fail
      refine HL.out.mono ?_
      rintro e w6 ⟨v6, rfl, hRo, hb6⟩
      have hb06 := bt hb05 hb6 hb05.size
      obtain ⟨RS, hRSe⟩ : ∃ RS, lets ((X ++ Y).map rdOf) = RS := ⟨_, rfl⟩
      rw [hRSe] at hRo hx7
      have hst3 : st = RS.filterMap (prF true az bz (x0, x1, [])) := by rw [← hRSe]; exact hst2.out
      replace hRSe := Lib.hid hRSe
      replace hst3 := Lib.hid hst3
      obtain ⟨ra, rc, hv6⟩ := hRo.shape
      subst hv6
      have hbr6 : Below wr.heap.size wr w6 := bt hbx hb06 hbx.size
      have hnd6 := hnd.keep (EPr.stab _) hbr6
      have hst6 := hst.keep (ESt.stab (by decide)) hbr6
      have kA6 := (hbr6.block _ (Array.getElem?_eq_some_iff.1 kA).1).trans kA
      have kB6 := (hbr6.block _ (Array.getElem?_eq_some_iff.1 kB).1).trans kB
      have kR6 := (hbr6.block _ (Array.getElem?_eq_some_iff.1 kR).1).trans kR
      have kO6 := (hbr6.block _ (Array.getElem?_eq_some_iff.1 kO).1).trans kO
      have kX6 : w6.heap[wr.heap.size]? = some (.cells #[.int .i64 x0, .int .i64 x1] 113) := by
        have hsx : wr.heap.size < Wx.heap.size := by rw [hWx.out]; simp
        refine (hb06.block _ hsx).trans ?_
        rw [hWx.out]; exact heap_alloc_new _ _
      have hgn : gn < wr.heap.size := World.block_lt_of_cell? _ _ e0
      have hsz6 : wr.heap.size < w6.heap.size := (Array.getElem?_eq_some_iff.1 kX6).1
      have hbw6 := bt hbw hbr6 hbw.size
      have hl0 : OwX 58 8 EI w6 w6.heap.size (.slice none 0 0) 0 ((exL nodes st).take 0) := OwX.nil _ _
      have hX0 : KeepX 113 w6 w6 := KeepX.below (Below.refl _ _)
      have hF0 : Hid ((RS.take 0).filterMap (prF true az bz (x0, x1, [])) = st.take 0) := rfl
      have hell : (exL nodes st).length = st.length := exL_length
      have hnP : Hid (∀ k z, z ∈ exN nodes (st.take k) → PrP az bz z) := fun k z hz => by
        rcases exN_mem hz with hz | ⟨a, ha, rfl⟩
        · exact hPn.out.1 z hz
        · exact (hps.out a (List.mem_of_mem_take ha)).1
      have hnL : Hid (∀ k, (exN nodes (st.take k)).length ≤ 1056) := fun k => by
        have h1 := exN_len (nodes := nodes) (az := st.take k)
        have h2 := List.length_take_le' k st
        omega
      have hRc := Lib.hid (fun W (hX : KeepX 113 w6 W) => hRo.other (E' := 113) (EI.stab _) (by decide) hX)
      have hne6 : (Value.slice (some ⟨gn, 0, none⟩) nodes.length cn).ownBlock ≠ some wr.heap.size := by
        simp only [Value.ownBlock, ne_eq, Option.some.injEq]; omega
      replace hell := Lib.hid hell
      clear hRo hnd hst kA kB kR kO e0 e1 hkk hKAk hKBk hMA hMB hbx hb2 hb3 hb4 hb5 hb6 hb03 hb04 hb05 hb06 hg3 hg5 hx3 hx5 hbr6 hB2 hB4
      obtain ⟨wo, hwo⟩ : ∃ wo, wo = wr := ⟨_, rfl⟩
      subst hwo
      go_wp2_with fail
      go_loopw [8, 14, 15] (fun nv lv jv wr => ∃ j c : Nat, jv = .int .i64 j ∧ j ≤ RS.length ∧ c ≤ st.length ∧ Hid ((RS.take j).filterMap (prF true az bz (x0, x1, [])) = st.take c) ∧ OwX 113 2 EPr wr w.heap.size nv (exN nodes (st.take c)).length (exN nodes (st.take c)) ∧ OwX 58 8 EI wr w6.heap.size lv c ((exL nodes st).take c) ∧
        KeepX 113 w6 wr ∧ Below w.heap.size w wr ∧ w6.heap.size ≤ wr.heap.size ∧ wr.heap[wo.heap.size]? = some (.cells #[.int .i64 x0, .int .i64 x1] 113) ∧ nv.ownBlock ≠ some wo.heap.size) (fun _ _ jv _ => RS.length - (intOf jv).toNat)
      case atStart => exact ⟨0, 0, rfl, by omega, by omega, hF0, hnd6, hl0, hX0, hbw6, Nat.le_refl _, kX6, hne6⟩
      case round =>
        clear hF0 hnd6 hl0 hX0 kX6 hne6
        obtain ⟨j, c, rfl, hj, hc, hF, hnd, hml, hX, hbr, hsz, kX, hne⟩ := hrel
        obtain ⟨la, lc, hlv⟩ := hml.shape
        subst hlv
        obtain ⟨na, nc, hnv⟩ := hnd.shape
        subst hnv
        have hRo := hRc.out wr hX
        by_cases hltj : j < RS.length
        · have hji : (j : Int) < (RS.length : Int) := by omega
          obtain ⟨gr, cr, hre, _⟩ := hRo.form (by omega)
          obtain ⟨rfl, rfl⟩ : ra = some ⟨gr, 0, none⟩ ∧ rc = cr := by injection hre with h1 h2 h3; exact ⟨h1, h3⟩
          obtain ⟨hm7, hmc⟩ := hRo.intCells hltj
          obtain ⟨r, hr⟩ : ∃ r, RS.getD j [] = r := ⟨_, rfl⟩
          rw [hr] at hm7 hmc
          have hRj : RS[j]? = some r := by rw [← hr, getD_eq hltj]; exact List.getElem?_eq_getElem hltj
          obtain ⟨r0, r1, r2, r3, r4, r5, r6, rfl⟩ := seven hm7
          obtain ⟨c0, c1, c2, c3, c4, c5, c6⟩ := hmc.all7
          obtain ⟨y0, hy0⟩ : ∃ y0, ndT az x0 [r0, r1, r2, r3, r4, r5, r6] = y0 := ⟨_, rfl⟩
          obtain ⟨y1, hy1⟩ : ∃ y1, ndT bz x1 [r0, r1, r2, r3, r4, r5, r6] = y1 := ⟨_, rfl⟩
          have hpF : prF true az bz (x0, x1, []) [r0, r1, r2, r3, r4, r5, r6] = if kpB true y0 y1 then some ([r0, r1, r2, r3, r4, r5, r6], (y0, y1, [])) else none := by rw [← hy0, ← hy1]; rfl
          have hRr := hRc.out
          have HT1 := Lib.hid (fun W (hb : Below wr.heap.size wr W) => refStep (HAV.out W (bt hbr hb hbr.size)) hxa r0 r1 r2 r3 r4 r5 r6)
          have HT2 := Lib.hid (fun W (hb : Below wr.heap.size wr W) => refStep (HBV.out W (bt hbr hb hbr.size)) hxb r0 r1 r2 r3 r4 r5 r6)
          rw [hy0] at HT1
          rw [hy1] at HT2
          have kA := hX.size kA6 (by decide)
          have kB := hX.size kB6 (by decide)
          have hS := Lib.hid (fun W (hb : Below wr.heap.size wr W) => let h1 := box2 ((hb.block _ (Array.getElem?_eq_some_iff.1 kA).1).trans kA); let h2 := box2 ((hb.block _ (Array.getElem?_eq_some_iff.1 kB).1).trans kB); let h3 := box2 ((hb.block _ (Array.getElem?_eq_some_iff.1 kX).1).trans kX); And.intro h1.1 (And.intro h1.2 (And.intro h2.1 (And.intro h2.2 (And.intro h3.1 (And.intro h3.2 (hmc.keep hb).all7))))))
          replace hRj := Lib.hid hRj
          replace hr := Lib.hid hr
          replace hy0 := Lib.hid hy0
          replace hy1 := Lib.hid hy1
          replace hpF := Lib.hid hpF
          obtain ⟨e1, e2, e3, e4, e5, e6, _⟩ := hS.out wr (Below.refl _ _)
          have HT1a := Lib.hid (HT1.out wr.drew ((Below.refl _ _).drew))
          have HT1b := Lib.hid (HT1.out (wr.alloc (.cells #[.int .i64 0, .int .i64 0] 113)).drew (((Below.refl _ _).alloc (Nat.le_refl _) _).drew))
          clear hmc hm7 hRr hRo hre
          go_upto_region 14 with fail
          go_cut [16] (fun pv wx => ∃ b, pv = .pointer (some ⟨b, 0, none⟩) ∧ wx.heap[b]? = some (.cells #[.int .i64 y0, .int .i64 y1] 113) ∧ Below wr.heap.size wr wx ∧ wr.heap.size ≤ b)
          case first =>
            go_region_held3 (fun w' => w'.cell? ⟨w.heap.size, 0, none⟩ = some (.int .i64 m) ∧ w'.cell? ⟨w.heap.size, 1, none⟩ = some (.slice aa az.length ac) ∧ w'.cell? ⟨w.heap.size + 1, 0, none⟩ = some (.int .i64 n) ∧ w'.cell? ⟨w.heap.size + 1, 1, none⟩ = some (.slice ba bz.length bc) ∧ w'.cell? ⟨wo.heap.size, 0, none⟩ = some (.int .i64 x0) ∧ w'.cell? ⟨wo.heap.size, 1, none⟩ = some (.int .i64 x1) ∧
                w'.cell? ⟨gr, j * 7, none⟩ = some (.int .i64 r0) ∧ w'.cell? ⟨gr, j * 7 + 1, none⟩ = some (.int .i64 r1) ∧ w'.cell? ⟨gr, j * 7 + 2, none⟩ = some (.int .i64 r2) ∧ w'.cell? ⟨gr, j * 7 + 3, none⟩ = some (.int .i64 r3) ∧ w'.cell? ⟨gr, j * 7 + 4, none⟩ = some (.int .i64 r4) ∧ w'.cell? ⟨gr, j * 7 + 5, none⟩ = some (.int .i64 r5) ∧ w'.cell? ⟨gr, j * 7 + 6, none⟩ = some (.int .i64 r6))
              (first
                | go_keep
                | (exact kep (hS.out _ hR6))
                | (exact kep (hS.out _ (hR6.alloc hR6.size _)))
                | (exact kep (hS.out _ (hR5.alloc hR5.size _)))
                | (exact kep (hS.out _ hR5))
                | (exact kep (hS.out _ ((Below.refl _ _).alloc (Nat.le_refl _) _).drew))
                | (exact kep (hS.out _ (Below.setCell (p := ⟨wr.heap.size, 1, none⟩) (Below.setCell (p := ⟨wr.heap.size, 0, none⟩) hR6 (Nat.le_refl _) _) (Nat.le_refl _) _)))
                | (exact kep (hS.out _ (Below.setCell (p := ⟨w5.heap.size, 1, none⟩) (Below.setCell (p := ⟨w5.heap.size, 0, none⟩) hR6 hR5.size _) hR5.size _))))
              (first
                | (go_at_call 71; (with_reducible refine (HT1.out _ (by first | exact (Below.refl _ _).drew | exact ((Below.refl _ _).alloc (Nat.le_refl _) _).drew)).mono ?_); rintro e w5 ⟨rfl, hb5⟩; have hR5 : Below wr.heap.size wr w5 := (by first | exact below_of_drew hb5 | exact bt ((Below.refl _ wr).alloc (Nat.le_refl _) _).drew hb5 ((Below.refl _ wr).alloc (Nat.le_refl _) _).drew.size); (first | (have kN5 : w5.heap[wr.heap.size]? = some (.cells #[.int .i64 0, .int .i64 0] 113) := (hb5.block wr.heap.size (by rw [World.size_drew, World.size_alloc]; omega)).trans (heap_alloc_new wr _)) | skip))
                | (go_at_call 71; (with_reducible refine (HT2.out _ (by first | exact hR5 | exact hR5.alloc hR5.size _)).mono ?_); rintro e w6 ⟨rfl, hb6⟩; have hR6 : Below wr.heap.size wr w6 := (by first | exact bt hR5 hb6 hR5.size | exact bt (hR5.alloc hR5.size _) hb6 (hR5.alloc hR5.size _).size); (first | (have kN6 : w6.heap[wr.heap.size]? = some (.cells #[.int .i64 0, .int .i64 0] 113) := (hb6.block wr.heap.size (Array.getElem?_eq_some_iff.1 kN5).1).trans kN5; have n60 := box_cell (j := 0) kN6 rfl; have n61 := box_cell (j := 1) kN6 rfl; have nf0 := row_free kN6 0; have nf1 := row_free kN6 1) | (have kN6 : w6.heap[w5.heap.size]? = some (.cells #[.int .i64 0, .int .i64 0] 113) := (hb6.block w5.heap.size (by rw [World.size_alloc]; omega)).trans (heap_alloc_new w5 _); have n60 := box_cell (j := 0) kN6 rfl; have n61 := box_cell (j := 1) kN6 rfl; have nf0 := row_free kN6 0; have nf1 := row_free kN6 1) | skip)))
            all_goals
              go_wp2
              go_meet
              first
                | exact ⟨w6.heap.size, rfl, heap_alloc_new _ _, hR6.alloc hR6.size _, hR6.size⟩
                | exact ⟨w5.heap.size, rfl, boxSet2' kN6, Below.setCell (p := ⟨w5.heap.size, 1, none⟩) (Below.setCell (p := ⟨w5.heap.size, 0, none⟩) hR6 hR5.size _) hR5.size _, hR5.size⟩
                | exact ⟨wr.heap.size, rfl, boxSet2' kN6, Below.setCell (p := ⟨wr.heap.size, 1, none⟩) (Below.setCell (p := ⟨wr.heap.size, 0, none⟩) hR6 (Nat.le_refl _) _) (Nat.le_refl _) _, Nat.le_refl _⟩
          case rest =>
            obtain ⟨bn, rfl, kN, hbn, hbnl⟩ := hcut
            have hndc := hnd.keep (EPr.stab _) hbn
            have hmlc := hml.keep (EI.stab _) hbn
            have kXc := (hbn.block _ (Array.getElem?_eq_some_iff.1 kX).1).trans kX
            have hXc := hX.trans (KeepX.below hbn)
            have hbrc := bt hbr hbn hbr.size
            have hszc := Nat.le_trans hsz hbn.size
            obtain ⟨n0, n1⟩ := box2 kN
            clear e1 e2 e3 e4 e5 e6 c0 c1 c2 c3 c4 c5 c6 HT1a HT1b kA kB
            have hst4 := hst3.out
            have hF2 := hF.out
            rw [hst4] at hF2
            by_cases hkp : kpB true y0 y1 = true
            · obtain ⟨ha, hF3⟩ := fm_at (a := ([r0, r1, r2, r3, r4, r5, r6], (y0, y1, []))) hRj.out hF2 (by rw [← hst4]; exact hc) (by rw [hpF.out, hkp]; rfl)
              rw [← hst4] at ha hF3
              have hc1 : c < st.length := (List.getElem?_eq_some_iff.1 ha).1
              replace hF3 := Lib.hid hF3
              replace hst4 := Lib.hid hst4
              have hd0 : decide (y0 < 0) = false := decide_eq_false (by simp [kpB] at hkp; omega)
              have hd1 : decide (y1 < 0) = false := decide_eq_false (by simp [kpB] at hkp; omega)
              clear hF2 hkp hF
              by_cases hin : (y0, y1, ([] : List Nat)) ∈ exN nodes (st.take c)
              · have hkd := hin
                obtain ⟨q, hq⟩ : ∃ q, ixOf (exN nodes (st.take c)) (y0, y1, []) = q := ⟨_, rfl⟩
                have hfq : fndI (exN nodes (st.take c)) (y0, y1, []) = (q : Int) := by rw [fndI, if_pos hin, hq]
                have hHF0 := Lib.hid (refFind hndc (Nat.le_trans (hnL.out c) (by decide)) y0 y1)
                rw [hfq] at hHF0
                have hdq : decide ((q : Int) < 0) = false := decide_eq_false (by omega)
                have hnl8 := Nat.le_trans (hnL.out c) (show 1056 ≤ 1000000 by decide)
                have hsn := Lib.hid (exL_in' (nodes := nodes) ha hin)
                have hnn := Lib.hid (exN_in' (nodes := nodes) ha hin)
                rw [hq] at hsn
                have hsn2 := Lib.hid (show (exL nodes st).take (c + 1) = (exL nodes st).take c ++ [[r0, r1, r2, r3, r4, r5, r6, (q : Int)]] from hsn.out)
                clear hsn
                have hsn := hsn2
                clear hsn2
                go_wp2_with fail
                refine hHF0.out.mono ?_
                rintro e w8 ⟨rfl, hb8⟩
                have hnd8 := hndc.keep (EPr.stab _) hb8
                have kN8 := (hb8.block _ (Array.getElem?_eq_some_iff.1 kN).1).trans kN
                have kX8 := (hb8.block _ (Array.getElem?_eq_some_iff.1 kXc).1).trans kXc
                have hml8 := hmlc.keep (EI.stab _) hb8
                have hX8 := hXc.trans (KeepX.below hb8)
                have hbr8 := bt hbrc hb8 hbrc.size
                have hsz8 := Nat.le_trans hszc hb8.size
                have hne8 := hne
                clear hndc kN kXc hmlc n0 n1 hml hnd kX

                have hHF := Lib.hid (refFind (hnd8.keep (EPr.stab _) ((Below.refl _ w8).drew)) hnl8 y0 y1)
                rw [hfq] at hHF
                have hmc8 := ((hRc.out w8 hX8).intCells hltj).2
                rw [hr.out] at hmc8
                obtain ⟨c0, c1, c2, c3, c4, c5, c6⟩ := hmc8.all7
                obtain ⟨n0, n1⟩ := box2 kN8
                have hc8 : ∀ u ∈ [Value.int .i64 r0, .int .i64 r1, .int .i64 r2, .int .i64 r3, .int .i64 r4, .int .i64 r5, .int .i64 r6, .int .i64 (q : Int)], u.oneCell' = true := fun u hu => by
                  simp only [List.mem_cons, List.not_mem_nil, or_false] at hu
                  rcases hu with rfl | rfl | rfl | rfl | rfl | rfl | rfl | rfl <;> rfl
                have hc9 : c ≤ 1000000000000 := by omega
                replace hc8 := Lib.hid hc8
                replace hfq := Lib.hid hfq
                replace hkd := Lib.hid hkd
                replace ha := Lib.hid ha
                have hK8 := Lib.hid (fun W (hb : Below w8.heap.size w8 W) => let h1 := box2 ((hb.block _ (Array.getElem?_eq_some_iff.1 kN8).1).trans kN8); let h2 := (hmc8.keep hb).all7; And.intro h1.1 (And.intro h1.2 h2))
                have hK9 := Lib.hid (fun W (hb : Below w8.heap.size w8 W) W' (hx : KeepX 58 W W') => let h1 := box2 (hx.size ((hb.block _ (Array.getElem?_eq_some_iff.1 kN8).1).trans kN8) (by decide)); And.intro h1.1 (And.intro h1.2 (show CI W' gr (j * 7) [r0, r1, r2, r3, r4, r5, r6] from by have h := ((((hRc.out w8 hX8).keep (EI.stab _) hb).other (E' := 58) (EI.stab _) (by decide) hx).intCells hltj).2; rw [hr.out] at h; exact h).all7))
                clear hmc8
                have hml8s := Lib.hid hml8
                go_wp2_with fail
                go_region_held3 (fun w' => w'.cell? ⟨bn, 0, none⟩ = some (.int .i64 y0) ∧ w'.cell? ⟨bn, 1, none⟩ = some (.int .i64 y1) ∧ w'.cell? ⟨gr, j * 7, none⟩ = some (.int .i64 r0) ∧ w'.cell? ⟨gr, j * 7 + 1, none⟩ = some (.int .i64 r1) ∧ w'.cell? ⟨gr, j * 7 + 2, none⟩ = some (.int .i64 r2) ∧ w'.cell? ⟨gr, j * 7 + 3, none⟩ = some (.int .i64 r3) ∧ w'.cell? ⟨gr, j * 7 + 4, none⟩ = some (.int .i64 r4) ∧ w'.cell? ⟨gr, j * 7 + 5, none⟩ = some (.int .i64 r5) ∧ w'.cell? ⟨gr, j * 7 + 6, none⟩ = some (.int .i64 r6))
                  (first
                    | go_keep
                    | (exact hK8.out _ hB9)
                    | (exact hK9.out _ (hB9.alloc hB9.size _) _ hx10))
                  (first
                    | (go_at_call 72; (with_reducible refine hHF.out.mono ?_); rintro e w9 ⟨rfl, hb9⟩; have hB9 : Below w8.heap.size w8 w9 := below_of_drew hb9; have hml9 := (hml8s.out.keep (EI.stab _) hB9).keep (EI.stab _) ((Below.refl _ w9).alloc (Nat.le_refl _) (.cells #[.int .i64 r0, .int .i64 r1, .int .i64 r2, .int .i64 r3, .int .i64 r4, .int .i64 r5, .int .i64 r6, .int .i64 (q : Int)] 58)); have hs9 : w6.heap.size ≤ (w9.alloc (.cells #[.int .i64 r0, .int .i64 r1, .int .i64 r2, .int .i64 r3, .int .i64 r4, .int .i64 r5, .int .i64 r6, .int .i64 (q : Int)] 58)).heap.size := Nat.le_trans hsz8 (Nat.le_trans hB9.size (by simp)))
                    | ((refine step_appX (cs := [.int .i64 r0, .int .i64 r1, .int .i64 r2, .int .i64 r3, .int .i64 r4, .int .i64 r5, .int .i64 r6, .int .i64 (q : Int)]) (x := [r0, r1, r2, r3, r4, r5, r6, (q : Int)]) elemMv (by decide) (by decide) (EI.stab _) (by rfl) _ _ (by rfl) (by rfl) hml9 ⟨w9.heap.size, 0, none⟩ 1 (by rfl) rfl newCells hc8.out rfl hc9 hs9 ?_; intro lv w10 hml10 hg10 hn10 hb10 hx10)))
                have hB10 := hB9.alloc hB9.size (.cells #[.int .i64 r0, .int .i64 r1, .int .i64 r2, .int .i64 r3, .int .i64 r4, .int .i64 r5, .int .i64 r6, .int .i64 (q : Int)] 58)
                have hnd10 := (hnd8.keep (EPr.stab _) hB10).other (E' := 58) (EPr.stab _) (by decide) hx10
                have hX10 := (hX8.trans (KeepX.below hB10)).behind hb10
                have hbr10 := (bt hbr8 hB10 hbr8.size).trans (hb10.mono hbw6.size)
                have hsz10 := Nat.le_trans hs9 hb10.size
                have kX10 := (hb10.block _ hsz6).trans ((hB10.block _ (Array.getElem?_eq_some_iff.1 kX8).1).trans kX8)
                rw [← hsn.out] at hml10
                clear hnd8 hml8 hml8s kN8 kX8
                go_wp2
                go_roundw
                case rel => exact ⟨j + 1, c + 1, by go_num, hltj, hc1, hF3, by rw [hnn.out]; exact hnd10, hml10, hX10, hbr10, hsz10, kX10, hne8⟩
                case measure => simp [intOf]; omega
              · have hkd := hin
                have hfq0 : fndI (exN nodes (st.take c)) (y0, y1, []) = -1 := by rw [fndI, if_neg hin]
                have hHF0 := Lib.hid (refFind hndc (Nat.le_trans (hnL.out c) (by decide)) y0 y1)
                rw [hfq0] at hHF0
                obtain ⟨q, hq⟩ : ∃ q, (exN nodes (st.take c)).length = q := ⟨_, rfl⟩
                have hfq : fndI (exN nodes (st.take c) ++ [(y0, y1, [])]) (y0, y1, []) = (q : Int) := by
                  rw [fndI, if_pos (by simp)]
                  simp [ixOf, List.idxOf_append, hin, hq]
                have hnl8 : (exN nodes (st.take c) ++ [(y0, y1, ([] : List Nat))]).length ≤ 1000000 := by
                  have := hnL.out c
                  rw [List.length_append]; show _ + 1 ≤ _; omega
                have hsn := Lib.hid (exL_out' (nodes := nodes) ha hin)
                have hnn := Lib.hid (exN_out' (nodes := nodes) ha hin)
                rw [hq] at hsn
                have hsn2 := Lib.hid (show (exL nodes st).take (c + 1) = (exL nodes st).take c ++ [[r0, r1, r2, r3, r4, r5, r6, (q : Int)]] from hsn.out)
                clear hsn
                have hsn := hsn2
                clear hsn2
                have hq9 : (exN nodes (st.take c)).length ≤ 1000000000000 := Nat.le_trans (hnL.out c) (by decide)
                obtain ⟨N8, hN8⟩ : ∃ N8, exN nodes (st.take c) ++ [(y0, y1, ([] : List Nat))] = N8 := ⟨_, rfl⟩
                rw [hN8] at hfq hnl8 hnn
                replace hN8 := Lib.hid hN8
                replace hq := Lib.hid hq
                go_wp2_with fail
                refine hHF0.out.mono ?_
                rintro e w7 ⟨rfl, hb7⟩
                have hA7 := hb7.alloc hb7.size (.cells #[.int .i64 y0, .int .i64 y1] 113)
                have hnd7 := hndc.keep (EPr.stab _) hA7
                have kN7 := (hb7.block _ (Array.getElem?_eq_some_iff.1 kN).1).trans kN
                obtain ⟨p0, p1⟩ := box2 kN7
                have kN7a := (hA7.block _ (Array.getElem?_eq_some_iff.1 kN).1).trans kN
                have kX7a := (hA7.block _ (Array.getElem?_eq_some_iff.1 kXc).1).trans kXc
                have hneN := hnd.ownLt hbnl
                have hc2 : ∀ u ∈ [Value.int .i64 y0, .int .i64 y1], u.oneCell' = true := fun u hu => by
                  simp only [List.mem_cons, List.not_mem_nil, or_false] at hu
                  rcases hu with rfl | rfl <;> rfl
                have hEn : EPr (w7.alloc (.cells #[.int .i64 y0, .int .i64 y1] 113)) [.int .i64 y0, .int .i64 y1] (y0, y1, []) := ⟨rfl, rfl⟩
                have hB9 : w.heap.size ≤ (w7.alloc (.cells #[.int .i64 y0, .int .i64 y1] 113)).heap.size := Nat.le_trans hbrc.size hA7.size
                replace hc2 := Lib.hid hc2
                replace hEn := Lib.hid hEn
                clear n0 n1
                go_wp2_with (at_builtin; refine wpList_appX (x := (y0, y1, [])) (cs := [.int .i64 y0, .int .i64 y1]) elemPr (by decide) (by decide) (EPr.stab _) rfl _ _ rfl rfl hnd7 ⟨w7.heap.size, 0, none⟩ 1 rfl rfl newCells hc2.out hEn.out hq9 hB9 ?_)
                intro nv2 w8 ho8 hg8 hn8 hb8 hx8
                have hnd8 : OwX 113 2 EPr w8 w.heap.size nv2 N8.length N8 := by rw [← hN8.out, List.length_append]; exact ho8
                have hne8 := NewAt.ne hn8 hne (Array.getElem?_eq_some_iff.1 kX7a).1
                obtain ⟨na2, nc2, hnv2⟩ := hnd8.shape
                subst hnv2
                have kN8 := grown_keep hg8 hneN kN7a
                have kX8 := grown_keep hg8 hne kX7a
                have hml8 := (hmlc.keep (EI.stab _) hA7).other (E' := 113) (EI.stab _) (by decide) hx8
                have hX8 := (hXc.trans (KeepX.below hA7)).trans hx8
                have hbr8 := (bt hbrc hA7 hbrc.size).trans hb8
                have hsz8 := Nat.le_trans (Nat.le_trans hszc hA7.size) hb8.size
                clear hndc kN kXc hmlc hml hnd kX p0 p1 hnd7 kN7 kN7a kX7a ho8 hB9
                have hHF := Lib.hid (refFind (hnd8.keep (EPr.stab _) ((Below.refl _ w8).drew)) hnl8 y0 y1)
                rw [hfq] at hHF
                have hmc8 := ((hRc.out w8 hX8).intCells hltj).2
                rw [hr.out] at hmc8
                obtain ⟨c0, c1, c2, c3, c4, c5, c6⟩ := hmc8.all7
                obtain ⟨n0, n1⟩ := box2 kN8
                have hc8 : ∀ u ∈ [Value.int .i64 r0, .int .i64 r1, .int .i64 r2, .int .i64 r3, .int .i64 r4, .int .i64 r5, .int .i64 r6, .int .i64 (q : Int)], u.oneCell' = true := fun u hu => by
                  simp only [List.mem_cons, List.not_mem_nil, or_false] at hu
                  rcases hu with rfl | rfl | rfl | rfl | rfl | rfl | rfl | rfl <;> rfl
                have hc9 : c ≤ 1000000000000 := by omega
                replace hc8 := Lib.hid hc8
                replace hfq := Lib.hid hfq
                replace hkd := Lib.hid hkd
                replace ha := Lib.hid ha
                have hK8 := Lib.hid (fun W (hb : Below w8.heap.size w8 W) => let h1 := box2 ((hb.block _ (Array.getElem?_eq_some_iff.1 kN8).1).trans kN8); let h2 := (hmc8.keep hb).all7; And.intro h1.1 (And.intro h1.2 h2))
                have hK9 := Lib.hid (fun W (hb : Below w8.heap.size w8 W) W' (hx : KeepX 58 W W') => let h1 := box2 (hx.size ((hb.block _ (Array.getElem?_eq_some_iff.1 kN8).1).trans kN8) (by decide)); And.intro h1.1 (And.intro h1.2 (show CI W' gr (j * 7) [r0, r1, r2, r3, r4, r5, r6] from by have h := ((((hRc.out w8 hX8).keep (EI.stab _) hb).other (E' := 58) (EI.stab _) (by decide) hx).intCells hltj).2; rw [hr.out] at h; exact h).all7))
                clear hmc8
                have hml8s := Lib.hid hml8
                go_wp2_with fail
                go_region_held3 (fun w' => w'.cell? ⟨bn, 0, none⟩ = some (.int .i64 y0) ∧ w'.cell? ⟨bn, 1, none⟩ = some (.int .i64 y1) ∧ w'.cell? ⟨gr, j * 7, none⟩ = some (.int .i64 r0) ∧ w'.cell? ⟨gr, j * 7 + 1, none⟩ = some (.int .i64 r1) ∧ w'.cell? ⟨gr, j * 7 + 2, none⟩ = some (.int .i64 r2) ∧ w'.cell? ⟨gr, j * 7 + 3, none⟩ = some (.int .i64 r3) ∧ w'.cell? ⟨gr, j * 7 + 4, none⟩ = some (.int .i64 r4) ∧ w'.cell? ⟨gr, j * 7 + 5, none⟩ = some (.int .i64 r5) ∧ w'.cell? ⟨gr, j * 7 + 6, none⟩ = some (.int .i64 r6))
                  (first
                    | go_keep
                    | (exact hK8.out _ hB9)
                    | (exact hK9.out _ (hB9.alloc hB9.size _) _ hx10))
                  (first
                    | (go_at_call 72; (with_reducible refine hHF.out.mono ?_); rintro e w9 ⟨rfl, hb9⟩; have hB9 : Below w8.heap.size w8 w9 := below_of_drew hb9; have hml9 := (hml8s.out.keep (EI.stab _) hB9).keep (EI.stab _) ((Below.refl _ w9).alloc (Nat.le_refl _) (.cells #[.int .i64 r0, .int .i64 r1, .int .i64 r2, .int .i64 r3, .int .i64 r4, .int .i64 r5, .int .i64 r6, .int .i64 (q : Int)] 58)); have hs9 : w6.heap.size ≤ (w9.alloc (.cells #[.int .i64 r0, .int .i64 r1, .int .i64 r2, .int .i64 r3, .int .i64 r4, .int .i64 r5, .int .i64 r6, .int .i64 (q : Int)] 58)).heap.size := Nat.le_trans hsz8 (Nat.le_trans hB9.size (by simp)))
                    | ((refine step_appX (cs := [.int .i64 r0, .int .i64 r1, .int .i64 r2, .int .i64 r3, .int .i64 r4, .int .i64 r5, .int .i64 r6, .int .i64 (q : Int)]) (x := [r0, r1, r2, r3, r4, r5, r6, (q : Int)]) elemMv (by decide) (by decide) (EI.stab _) (by rfl) _ _ (by rfl) (by rfl) hml9 ⟨w9.heap.size, 0, none⟩ 1 (by rfl) rfl newCells hc8.out rfl hc9 hs9 ?_; intro lv w10 hml10 hg10 hn10 hb10 hx10)))
                have hB10 := hB9.alloc hB9.size (.cells #[.int .i64 r0, .int .i64 r1, .int .i64 r2, .int .i64 r3, .int .i64 r4, .int .i64 r5, .int .i64 r6, .int .i64 (q : Int)] 58)
                have hnd10 := (hnd8.keep (EPr.stab _) hB10).other (E' := 58) (EPr.stab _) (by decide) hx10
                have hX10 := (hX8.trans (KeepX.below hB10)).behind hb10
                have hbr10 := (bt hbr8 hB10 hbr8.size).trans (hb10.mono hbw6.size)
                have hsz10 := Nat.le_trans hs9 hb10.size
                have kX10 := (hb10.block _ hsz6).trans ((hB10.block _ (Array.getElem?_eq_some_iff.1 kX8).1).trans kX8)
                rw [← hsn.out] at hml10
                clear hnd8 hml8 hml8s kN8 kX8
                go_wp2
                go_roundw
                case rel => exact ⟨j + 1, c + 1, by go_num, hltj, hc1, hF3, by rw [hnn.out]; exact hnd10, hml10, hX10, hbr10, hsz10, kX10, hne8⟩
                case measure => simp [intOf]; omega
            · have hF3 : Hid ((RS.take (j + 1)).filterMap (prF true az bz (x0, x1, [])) = st.take c) := by
                have h := fm_skip hRj.out hF2 (by rw [hpF.out, if_neg hkp])
                rw [← hst4] at h; exact h
              replace hst4 := Lib.hid hst4
              clear hF2 hF
              by_cases h0 : y0 < 0
              · have hd0 : decide (y0 < 0) = true := decide_eq_true h0
                replace hkp := Lib.hid hkp
                replace h0 := Lib.hid h0
                go_wp2
                go_roundw
                case rel => exact ⟨j + 1, c, by go_num, hltj, hc, hF3, hndc, hmlc, hXc, hbrc, hszc, kXc, hne⟩
                case measure => simp [intOf]; omega
              · have hd0 : decide (y0 < 0) = false := decide_eq_false h0
                have h1 : y1 < 0 := by
                  rcases Int.lt_or_le y1 0 with h | h
                  · exact h
                  · exact absurd (by simp [kpB, h]; omega) hkp
                have hd1 : decide (y1 < 0) = true := decide_eq_true h1
                replace hkp := Lib.hid hkp
                replace h0 := Lib.hid h0
                replace h1 := Lib.hid h1
                go_wp2
                go_roundw
                case rel => exact ⟨j + 1, c, by go_num, hltj, hc, hF3, hndc, hmlc, hXc, hbrc, hszc, kXc, hne⟩
                case measure => simp [intOf]; omega
        · obtain rfl : j = RS.length := by omega
          have hge : ¬ ((RS.length : Int) < (RS.length : Int)) := by omega
          have hF2 := hF.out
          rw [List.take_length, ← hst3.out] at hF2
          obtain rfl : c = st.length := by
            have h := congrArg List.length hF2
            rw [List.length_take] at h; omega
          have hlt2 : (exL nodes st).take st.length = exL nodes st := by rw [← hell.out, List.take_length]
          rw [hlt2] at hml
          rw [List.take_length] at hnd hne ⊢
          have hNP := Lib.hid (fun z (hz : z ∈ exN nodes st) => by have := hnP.out st.length z; rw [List.take_length] at this; exact this hz)
          have hND : Hid ((exN nodes st).Nodup) := exN_nodup hPn.out.2
          have hNL : (exN nodes st).length ≤ 1056 := by have := hnL.out st.length; rwa [List.take_length] at this
          have hst' := hst6.other (E' := 113) (ESt.stab (by decide)) (by decide) hX
          have kA := hX.size kA6 (by decide)
          have kB := hX.size kB6 (by decide)
          have kO := hX.size kO6 (by decide)
          have kR := hX.size kR6 (by decide)
          have hES : ESt wr [.slice la st.length lc] (exL nodes st) := ⟨_, rfl, by rw [hell.out]; exact hml.base (Nat.zero_le _)⟩
          have hmN := movesN_snoc out (exL nodes st)
          have hNg : nodes.length ≤ (exN nodes st).length := exN_ge
          rw [hell.out] at hmN
          have hgo := Lib.hid (fun (hb : ¬ (256 < (exN nodes st).length ∨ 4096 < movesN (out ++ [exL nodes st]))) => show exG (prSt true az bz) f (i + 1) (exN nodes st) (out ++ [exL nodes st]) = some R by
            rw [← hg.out]
            have h := exG_step (step := prSt true az bz) (f := f) (out := out) hxi.out (by rw [hstp.out]; exact hb)
            rw [hstp.out] at h
            exact h.symm)
          have hno := Lib.hid (fun (hb : 256 < (exN nodes st).length ∨ 4096 < movesN (out ++ [exL nodes st])) => show R = none by
            have h := exG_big (step := prSt true az bz) (f := f) (out := out) hxi.out (by rw [hstp.out]; exact hb)
            have h2 := hg.out
            rw [h] at h2
            injection h2 with h2
            exact h2.symm)
          rw [hmN] at hgo hno
          obtain ⟨Nn, hNn⟩ : ∃ Nn, exN nodes st = Nn := ⟨_, rfl⟩
          obtain ⟨l, hl⟩ : ∃ l, exL nodes st = l := ⟨_, rfl⟩
          rw [hNn] at hnd hNP hND hNL hgo hno hNg hne ⊢
          rw [hl] at hml hES hgo hmN
          obtain ⟨M, hM⟩ : ∃ M, movesN out = M := ⟨_, rfl⟩
          rw [hM] at hgo hno hmN hm4
          have hll : l.length = st.length := by rw [← hl]; exact hell.out
          have hc1 : ∀ u ∈ (#[.slice la st.length lc] : Array Value).toList, u.oneCell' = true := fun u hu => by
            rw [List.mem_singleton.1 hu]; rfl
          have hn9 : out.length ≤ 1000000000000 := by omega
          have d1 := box_cell (j := 1) kO rfl
          have hB9 : w.heap.size ≤ wr.heap.size := hbr.size
          have holi := hol.out
          have hol6 : out.length + 1 ≤ 256 := by omega
          replace hc1 := Lib.hid hc1
          replace hES := Lib.hid hES
          replace hmN := Lib.hid hmN
          replace hNn := Lib.hid hNn
          replace hl := Lib.hid hl
          replace hell := Lib.hid hell
          replace holi := Lib.hid holi
          replace hM := Lib.hid hM
          replace hll := Lib.hid hll
          clear hlt2 hnP hnL hX kA6 kB6 kR6 kO6 hst6 hg hF hF2 hRc hRo kX hst3 hst2 hRS hstp
          go_wp2_with (at_builtin; refine wpAppX (x := l) elemSt (by decide) (by decide) (ESt.stab (by decide)) rfl _ _ rfl rfl hst' rfl rfl rfl hc1.out hES.out hn9 hB9 ?_)
          intro sv2 w2 hst2 hg2 hb2 hx2
          obtain ⟨v2a, v2c, hsv2⟩ := hst2.shape
          subst hsv2
          have kA2 := hx2.size kA (by decide)
          have kB2 := hx2.size kB (by decide)
          have kO2 := hx2.size kO (by decide)
          have kR2 := hx2.size kR (by decide)
          have hnd2 := hnd.other (E' := 59) (EPr.stab _) (by decide) hx2
          have hbr2 := hbr.trans hb2
          obtain ⟨e0, e1⟩ := box2 kO2
          have ef1 := row_free kO2 1
          obtain ⟨w3, hw3⟩ : ∃ w3, w3 = w2.setCell ⟨w.heap.size + 1 + 1 + 1 + 1, 1, none⟩ (.slice v2a (out.length + 1) v2c) := ⟨_, rfl⟩
          have kO3 : w3.heap[w.heap.size + 1 + 1 + 1 + 1]? = some (.cells #[.int .i64 m, .slice v2a (out.length + 1) v2c] 24) := by rw [hw3]; exact two_setCell kO2
          have hX3 : KeepX 24 w2 w3 := by rw [hw3]; exact KeepX.setCell (p := ⟨w.heap.size + 1 + 1 + 1 + 1, 1, none⟩) kO2 _
          have hst3 := hst2.other (E' := 24) (ESt.stab (by decide)) (by decide) hX3
          have hnd3 := hnd2.other (E' := 24) (EPr.stab _) (by decide) hX3
          have kA3 : w3.heap[w.heap.size]? = some (.cells #[.int .i64 m, .slice aa az.length ac] 24) := by rw [hw3]; exact (Below.heap_setCell _ _ _ _ (by show w.heap.size ≠ w.heap.size + 1 + 1 + 1 + 1; omega)).trans kA2
          have kB3 : w3.heap[w.heap.size + 1]? = some (.cells #[.int .i64 n, .slice ba bz.length bc] 24) := by rw [hw3]; exact (Below.heap_setCell _ _ _ _ (by show w.heap.size + 1 ≠ w.heap.size + 1 + 1 + 1 + 1; omega)).trans kB2
          have kR3 : w3.heap[w.heap.size + 1 + 1]? = some (.cells #[.int .i64 0, .slice none 0 0] 24) := by rw [hw3]; exact (Below.heap_setCell _ _ _ _ (by show w.heap.size + 1 + 1 ≠ w.heap.size + 1 + 1 + 1 + 1; omega)).trans kR2
          have hbr3 : Below w.heap.size w w3 := by rw [hw3]; exact Below.setCell (p := ⟨w.heap.size + 1 + 1 + 1 + 1, 1, none⟩) hbr2 (by show w.heap.size ≤ w.heap.size + 1 + 1 + 1 + 1; omega) _
          have hmo : movesN (out ++ [l]) = M + st.length := hmN.out
          have hAd3 : AdvV w3 (.agg #[.int .i64 m, .slice v2a (out.length + 1) v2c]) m (out ++ [l]) := OwAdv.adv (show OwAdv w3 _ m (out ++ [l]) from ⟨_, rfl, by rw [List.length_append]; exact hst3.base (Nat.zero_le _), by rw [List.length_append]; show _ + 1 ≤ _; omega, fun x hx => by
            have h1 := mem_movesN hx
            rw [hmo] at h1; omega⟩)
          have HMv := Lib.hid (fun W (hb : Below w3.heap.size w3 W) => refMoves (hAd3.keep hb) (by rw [List.length_append]; exact hol6))
          rw [hmo] at HMv
          replace hmo := Lib.hid hmo
          have hK3 := Lib.hid (fun W (hb : Below w3.heap.size w3 W) => And.intro (hnd3.keep (EPr.stab _) hb) (And.intro (hst3.keep (ESt.stab (by decide)) hb) (And.intro (bt hbr3 hb hbr3.size) (And.intro ((hb.block _ (Array.getElem?_eq_some_iff.1 kO3).1).trans kO3) (And.intro ((hb.block _ (Array.getElem?_eq_some_iff.1 kA3).1).trans kA3) (And.intro ((hb.block _ (Array.getElem?_eq_some_iff.1 kB3).1).trans kB3) ((hb.block _ (Array.getElem?_eq_some_iff.1 kR3).1).trans kR3)))))))
          obtain ⟨o0, o1⟩ := box2 kO3
          obtain ⟨y0, y1⟩ := box2 kR3
          have yf0 := row_free kR3 0
          have yf1 := row_free kR3 1
          have z0 : w3.setCell ⟨w.heap.size + 1 + 1, 0, none⟩ (.int .i64 0) = w3 := setSame y0
          have z1 : w3.setCell ⟨w.heap.size + 1 + 1, 1, none⟩ (.slice none 0 0) = w3 := setSame y1
          replace hw3 := Lib.hid hw3.symm
          clear kA kB kO kR hst' hnd kA2 kB2 kO2 kR2 hst2 hnd2 d1 hAd3 hst3 hnd3
          by_cases h1 : 256 < Nn.length
          · have hd : decide (256 < (Nn.length : Int)) = true := decide_eq_true (by omega)
            have hRn := hno.out (.inl h1)
            subst hRn
            replace h1 := Lib.hid h1
            rw [← hw3.out] at y0 y1 yf0 yf1 z0 z1
            go_wp2
            refine bodyPost_ret (v := .tuple #[.agg #[.int .i64 0, .slice none 0 0], .int .i64 17]) (by simp [results, Tryz.results34, go_sem, y0, y1]) rfl ?_
            rw [hw3.out]
            exact BdOut.no hbr3
          · have hd : decide (256 < (Nn.length : Int)) = false := decide_eq_false (by omega)
            rw [← hw3.out] at o0 o1
            clear y0 y1 yf0 yf1 z0 z1
            go_wp2_with fail
            rw [hw3.out]
            refine (HMv.out w3 (Below.refl _ _)).mono ?_
            rintro e w4 ⟨rfl, hb4⟩
            obtain ⟨hnd4, hst4, hbr4, kO4, kA4, kB4, kR4⟩ := hK3.out w4 hb4
            by_cases h2 : 4096 < M + st.length
            · have hd2 : decide (4096 < (M : Int) + (st.length : Int)) = true := decide_eq_true (by omega)
              have hRn := hno.out (.inr h2)
              subst hRn
              replace h1 := Lib.hid h1
              replace h2 := Lib.hid h2
              obtain ⟨y0, y1⟩ := box2 kR4
              have yf0 := row_free kR4 0
              have yf1 := row_free kR4 1
              have z0 : w4.setCell ⟨w.heap.size + 1 + 1, 0, none⟩ (.int .i64 0) = w4 := setSame y0
              have z1 : w4.setCell ⟨w.heap.size + 1 + 1, 1, none⟩ (.slice none 0 0) = w4 := setSame y1
              go_wp2
              refine bodyPost_ret (v := .tuple #[.agg #[.int .i64 0, .slice none 0 0], .int .i64 17]) (by simp [results, Tryz.results34, go_sem, y0, y1]) rfl ?_
              exact BdOut.no hbr4
            · have hd2 : decide (4096 < (M : Int) + (st.length : Int)) = false := decide_eq_false (by omega)
              have hg3 := hgo.out (fun h => by rcases h with h | h; exact h1 h; exact h2 h)
              replace hg3 := Lib.hid hg3
              have hn3 : Nn.length ≤ 256 := by omega
              have hi3 : i + 1 ≤ Nn.length := by omega
              have hm3 : movesN (out ++ [l]) ≤ 4096 := by rw [hmo.out]; omega
              have hol3 : (out ++ [l]).length = i + 1 := by rw [List.length_append, holi.out]; rfl
              replace hol3 := Lib.hid hol3
              replace hm3 := Lib.hid hm3
              go_wp2
              go_roundg f
              case measure => omega
              case rel => exact ⟨i + 1, Nn, out ++ [l], .slice v2a (out.length + 1) v2c, by go_num, hnd4, kO4, by rw [List.length_append]; exact hst4, hbr4, kA4, kB4, kR4, hg3, hi3, hn3, hm3.out, hol3, ⟨hNP.out, hND.out⟩⟩
    · have hRs : R = some out := by
        have h := exG_end (step := prSt true az bz) (f := f) (out := out) hlt
        have h2 := hg.out
        rw [h] at h2
        injection h2 with h2
        exact h2.symm
      subst hRs
      obtain rfl : i = nodes.length := by omega
      obtain ⟨na, nc, hnv⟩ := hnd.shape
      subst hnv
      have hge : ¬ ((nodes.length : Int) < (nodes.length : Int)) := by omega
      obtain ⟨d0, d1⟩ := box2 kO
      obtain ⟨y0, y1⟩ := box2 kR
      have yf := row_free kR
      have hr1 := heap_setCell_same wr (w.heap.size + 1 + 1) 0 _ _ (.int .i64 m) kR
      have hr2 := two_setCell (u := .slice sva out.length svc) hr1
      have hx2 := (KeepX.setCell (p := ⟨w.heap.size + 1 + 1, 0, none⟩) kR (.int .i64 m)).trans (KeepX.setCell (p := ⟨w.heap.size + 1 + 1, 1, none⟩) hr1 (.slice sva out.length svc))
      have hbe := (hbw.setCell (p := ⟨w.heap.size + 1 + 1, 0, none⟩) (by show w.heap.size ≤ w.heap.size + 1 + 1; omega) (.int .i64 m)).setCell (p := ⟨w.heap.size + 1 + 1, 1, none⟩) (by show w.heap.size ≤ w.heap.size + 1 + 1; omega) (.slice sva out.length svc)
      obtain ⟨z0, z1⟩ := box2 hr2
      have hfin : OwAdv ((wr.setCell ⟨w.heap.size + 1 + 1, 0, none⟩ (.int .i64 m)).setCell ⟨w.heap.size + 1 + 1, 1, none⟩ (.slice sva out.length svc)) (.agg #[.int .i64 m, .slice sva out.length svc]) m out :=
        ⟨_, rfl, (hst.other (E' := 24) (ESt.stab (by decide)) (by decide) hx2).base (Nat.zero_le _), by omega, fun x hx => by have := mem_movesN hx; omega⟩
      replace hfin := Lib.hid hfin
      clear hr1 hr2 hx2 hst hnd kO kA kB
      go_wp2
      obtain ⟨W8, hW8⟩ : ∃ W8, W8 = (wr.setCell ⟨w.heap.size + 1 + 1, 0, none⟩ (.int .i64 m)).setCell ⟨w.heap.size + 1 + 1, 1, none⟩ (.slice sva out.length svc) := ⟨_, rfl⟩
      rw [← hW8] at z0 z1 hfin hbe ⊢
      clear hW8
      refine bodyPost_ret (v := .tuple #[.agg #[.int .i64 m, .slice sva out.length svc], .int .i64 0]) (by simp [results, Tryz.results34, go_sem, z0, z1]) rfl ?_
      exact BdOut.yes hfin.out hbe
end Go.Proofs.YtiiiegflobihjaaGreat

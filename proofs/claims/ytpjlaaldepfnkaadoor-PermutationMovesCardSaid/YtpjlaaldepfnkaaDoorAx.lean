/- awake: the walk. -/
import Derived.Test.YtpjlaaldepfnkaaDoorAw
namespace Go.Proofs.YtpjlaaldepfnkaaDoor
open Go.RowKit

theorem OI.i4 {w : World} {r : Value} {xs : List Int} (h : OI w 0 r xs.length xs) (hl : xs.length ≤ 1000) : Ints w r xs := h.ints (by omega)
theorem OII.i3 {w : World} {B : Nat} {r : Value} {xs : List (List Int)} (h : OII w B r xs.length xs) (hl : xs.length ≤ 1000) (hl' : ∀ x ∈ xs, x.length ≤ 1000) : Intss w r xs := h.intss (by omega) (fun x hx => by have := hl' x hx; omega)

theorem at1 {P : Nat → Prop} (h : P 0) : ∀ j, j < 1 → P j
  | 0, _ => h
  | j + 1, h => absurd h (by omega)
theorem at3 {P : Nat → Prop} (h : P 0) (h1 : P 1) (h2 : P 2) : ∀ j, j < 3 → P j
  | 0, _ => h
  | 1, _ => h1
  | 2, _ => h2
  | j + 3, h => absurd h (by omega)

set_option maxRecDepth 100000 in
set_option maxHeartbeats 6400000 in
theorem awake (w : World) : Calls Tryd.prog 12 #[] w fun e w' => e = .returned (.bool true) ∧ Below w.heap.size w w' := by
  have hb0 : Below w.heap.size w ((w.alloc (.cells #[.int .i64 1, .int .i64 2, .int .i64 0, .int .i64 3] 3)).alloc (.cells #[.int .i64 1, .int .i64 0, .int .i64 3, .int .i64 2] 3)) := ((Below.refl _ _).alloc (Nat.le_refl _) _).alloc (by simp) _
  have hA : Ints ((w.alloc (.cells #[.int .i64 1, .int .i64 2, .int .i64 0, .int .i64 3] 3)).alloc (.cells #[.int .i64 1, .int .i64 0, .int .i64 3, .int .i64 2] 3)) (.slice (some ⟨w.heap.size, 0, none⟩) 4 4) awA := (Ints.lit w awA 3 4 rfl (by decide)).keep ((Below.refl _ _).alloc (Nat.le_refl _) _)
  have hB : Ints ((w.alloc (.cells #[.int .i64 1, .int .i64 2, .int .i64 0, .int .i64 3] 3)).alloc (.cells #[.int .i64 1, .int .i64 0, .int .i64 3, .int .i64 2] 3)) (.slice (some ⟨w.heap.size + 1, 0, none⟩) 4 4) awB := Ints.lit _ awB 3 4 (by simp) (by decide)
  generalize hW0 : (w.alloc (.cells #[.int .i64 1, .int .i64 2, .int .i64 0, .int .i64 3] 3)).alloc (.cells #[.int .i64 1, .int .i64 0, .int .i64 3, .int .i64 2] 3) = W0 at hb0 hA hB
  replace hW0 := Lib.hid hW0
  go_enter Tryd.func12, Tryd.ntmps12
  go_wp2_with fail
  rw [hW0.out]
  clear hW0
  refine (aw1 hA hB).mono ?_
  rintro e w1 ⟨x, rfl, hx, hb1⟩
  replace hA := hA.keep hb1
  replace hB := hB.keep hb1
  replace hb0 := bt hb0 hb1 hb0.size
  clear hb1
  go_wp2_with fail
  refine (aw2 hA hB).mono ?_
  rintro e w2 ⟨y, rfl, hy, hb1⟩
  replace hA := hA.keep hb1
  replace hB := hB.keep hb1
  replace hx := hx.keep hb1
  replace hb0 := bt hb0 hb1 hb0.size
  clear hb1
  go_wp2_with fail
  refine (aw3 hA).mono ?_
  rintro e w3 ⟨z, rfl, hz, hb1⟩
  replace hA := hA.keep hb1
  replace hB := hB.keep hb1
  replace hx := hx.keep hb1
  replace hy := hy.keep hb1
  replace hb0 := bt hb0 hb1 hb0.size
  clear hb1
  go_wp2_with fail
  refine (aw4 hA).mono ?_
  rintro e w4 ⟨rfl, hb1⟩
  replace hA := hA.keep hb1
  replace hB := hB.keep hb1
  replace hx := hx.keep hb1
  replace hy := hy.keep hb1
  replace hz := hz.keep hb1
  replace hb0 := bt hb0 hb1 hb0.size
  clear hb1
  go_wp2_with fail
  refine (aw5 hB).mono ?_
  rintro e w5 ⟨rfl, hb1⟩
  replace hA := hA.keep hb1
  replace hB := hB.keep hb1
  replace hx := hx.keep hb1
  replace hy := hy.keep hb1
  replace hz := hz.keep hb1
  replace hb0 := bt hb0 hb1 hb0.size
  clear hb1
  go_wp2_with fail
  have hbl := (Below.refl w5.heap.size w5).alloc (Nat.le_refl _) (.cells #[.int .i64 2, .int .i64 1, .int .i64 3, .int .i64 0] 3)
  refine (awEq ((hx.keep hbl).i4 (by decide)) (Ints.lit w5 [2, 1, 3, 0] 3 4 rfl (by decide))).mono ?_
  rintro e w6 ⟨rfl, hq⟩
  replace hbl := btt hbl hq.below
  clear hq
  replace hA := hA.keep hbl
  replace hB := hB.keep hbl
  replace hy := hy.keep hbl
  replace hz := hz.keep hbl
  replace hb0 := bt hb0 hbl hb0.size
  clear hbl hx
  go_wp2_with fail
  have hbl := (Below.refl w6.heap.size w6).alloc (Nat.le_refl _) (.cells #[.int .i64 0, .int .i64 3, .int .i64 1, .int .i64 2] 3)
  refine (awEq ((hy.keep hbl).i4 (by decide)) (Ints.lit w6 [0, 3, 1, 2] 3 4 rfl (by decide))).mono ?_
  rintro e w7 ⟨rfl, hq⟩
  replace hbl := btt hbl hq.below
  clear hq
  replace hA := hA.keep hbl
  replace hB := hB.keep hbl
  replace hz := hz.keep hbl
  replace hb0 := bt hb0 hbl hb0.size
  clear hbl hy
  go_wp2_with fail
  have hbl := (Below.refl w7.heap.size w7).alloc (Nat.le_refl _) (.cells #[.int .i64 2, .int .i64 0, .int .i64 1, .int .i64 3] 3)
  refine (awEq ((hz.keep hbl).i4 (by decide)) (Ints.lit w7 [2, 0, 1, 3] 3 4 rfl (by decide))).mono ?_
  rintro e w8 ⟨rfl, hq⟩
  replace hbl := btt hbl hq.below
  clear hq
  replace hA := hA.keep hbl
  replace hB := hB.keep hbl
  replace hb0 := bt hb0 hbl hb0.size
  clear hbl hz
  go_wp2_with fail
  refine (aw6 hA).mono ?_
  rintro e w9 ⟨rfl, hb1⟩
  replace hA := hA.keep hb1
  replace hB := hB.keep hb1
  replace hb0 := bt hb0 hb1 hb0.size
  clear hb1
  go_wp2_with fail
  refine (aw7 hB).mono ?_
  rintro e w10 ⟨rfl, hb1⟩
  replace hA := hA.keep hb1
  replace hb0 := bt hb0 hb1 hb0.size
  clear hb1 hB
  go_wp2_with fail
  refine (aw8 hA).mono ?_
  rintro e w11 ⟨rfl, hb1⟩
  replace hA := hA.keep hb1
  replace hb0 := bt hb0 hb1 hb0.size
  clear hb1
  go_wp2_with fail
  have hbl := (Below.refl w11.heap.size w11).alloc (Nat.le_refl _) (.cells #[.int .i64 5, .int .i64 6, .int .i64 7, .int .i64 8] 3)
  refine (aw9 (hA.keep hbl) (Ints.lit w11 [5, 6, 7, 8] 3 4 rfl (by decide))).mono ?_
  rintro e w12 ⟨v, rfl, hv, hb1⟩
  replace hb1 := bt hbl hb1 hbl.size
  replace hA := hA.keep hb1
  replace hb0 := bt hb0 hb1 hb0.size
  clear hb1 hbl
  go_wp2_with fail
  have hl1 := Ints.lit w12 [1, 2, 0] 3 3 rfl (by decide)
  have hbl := ((Below.refl w12.heap.size w12).alloc (Nat.le_refl _) (.cells #[.int .i64 1, .int .i64 2, .int .i64 0] 3)).alloc (by simp) (.cells #[.slice (some ⟨w12.heap.size, 0, none⟩) 3 3] 22)
  refine (aw10 (Intss.lit (w12.alloc (.cells #[.int .i64 1, .int .i64 2, .int .i64 0] 3)) [.slice (some ⟨w12.heap.size, 0, none⟩) 3 3] [[1, 2, 0]] 22 1 (by simp) (by decide) rfl (at1 hl1))).mono ?_
  rintro e w13 ⟨g, rfl, hg, hb1⟩
  replace hb1 := bt hbl hb1 hbl.size
  replace hA := hA.keep hb1
  replace hv := hv.keep hb1
  replace hb0 := bt hb0 hb1 hb0.size
  clear hb1 hbl hl1
  go_wp2_with fail
  refine (aw11 hA).mono ?_
  rintro e w14 ⟨rfl, hb1⟩
  replace hv := hv.keep hb1
  replace hg := hg.keep hb1
  replace hb0 := bt hb0 hb1 hb0.size
  clear hb1 hA
  go_wp2_with fail
  have hbl := (Below.refl w14.heap.size w14).alloc (Nat.le_refl _) (.cells #[.int .i64 7, .int .i64 5, .int .i64 6, .int .i64 8] 3)
  refine (awEq ((hv.keep hbl).i4 (by decide)) (Ints.lit w14 [7, 5, 6, 8] 3 4 rfl (by decide))).mono ?_
  rintro e w15 ⟨rfl, hq⟩
  replace hbl := btt hbl hq.below
  clear hq
  replace hg := hg.keep hbl
  replace hb0 := bt hb0 hbl hb0.size
  clear hbl hv
  go_wp2_with fail
  obtain ⟨x1, e1⟩ : ∃ x, w15.alloc (.cells #[.int .i64 0, .int .i64 1, .int .i64 2] 3) = x := ⟨_, rfl⟩
  obtain ⟨x2, e2⟩ : ∃ x, x1.alloc (.cells #[.int .i64 1, .int .i64 2, .int .i64 0] 3) = x := ⟨_, rfl⟩
  obtain ⟨x3, e3⟩ : ∃ x, x2.alloc (.cells #[.int .i64 2, .int .i64 0, .int .i64 1] 3) = x := ⟨_, rfl⟩
  have h1 : Ints x1 (.slice (some ⟨w15.heap.size, 0, none⟩) 3 3) [0, 1, 2] := e1 ▸ Ints.lit w15 [0, 1, 2] 3 3 rfl (by decide)
  have h2 : Ints x2 (.slice (some ⟨w15.heap.size + 1, 0, none⟩) 3 3) [1, 2, 0] := e2 ▸ Ints.lit x1 [1, 2, 0] 3 3 (by rw [← e1]; simp) (by decide)
  have h3 : Ints x3 (.slice (some ⟨w15.heap.size + 1 + 1, 0, none⟩) 3 3) [2, 0, 1] := e3 ▸ Ints.lit x2 [2, 0, 1] 3 3 (by rw [← e2, ← e1]; simp) (by decide)
  have k1 : Below x1.heap.size x1 x2 := e2 ▸ (Below.refl _ _).alloc (Nat.le_refl _) _
  have k2 : Below x2.heap.size x2 x3 := e3 ▸ (Below.refl _ _).alloc (Nat.le_refl _) _
  have k0 : Below w15.heap.size w15 x1 := e1 ▸ (Below.refl _ _).alloc (Nat.le_refl _) _
  have k3 := btt (btt k0 k1) k2
  have s3 : x3.heap.size = w15.heap.size + 3 := by rw [← e3, ← e2, ← e1]; simp
  have hbl := k3.alloc k3.size (.cells #[.slice (some ⟨w15.heap.size, 0, none⟩) 3 3, .slice (some ⟨w15.heap.size + 1, 0, none⟩) 3 3, .slice (some ⟨w15.heap.size + 1 + 1, 0, none⟩) 3 3] 22)
  have hL := Intss.lit x3 [.slice (some ⟨w15.heap.size, 0, none⟩) 3 3, .slice (some ⟨w15.heap.size + 1, 0, none⟩) 3 3, .slice (some ⟨w15.heap.size + 1 + 1, 0, none⟩) 3 3] [[0, 1, 2], [1, 2, 0], [2, 0, 1]] 22 3 s3.symm (by decide) rfl (at3 ((h1.keep k1).keep k2) (h2.keep k2) h3)
  rw [e1, e2, e3]
  refine (awEqs ((hg.keep hbl).i3 (by decide) (by decide)) hL).mono ?_
  rintro e w16 ⟨rfl, hq⟩
  replace hbl := btt hbl hq.below
  replace hb0 := bt hb0 hbl hb0.size
  clear hbl hg hq hL h1 h2 h3 k0 k1 k2 k3 s3 e1 e2 e3
  go_wp2
  go_ret
  exact ⟨rfl, hb0⟩
end Go.Proofs.YtpjlaaldepfnkaaDoor

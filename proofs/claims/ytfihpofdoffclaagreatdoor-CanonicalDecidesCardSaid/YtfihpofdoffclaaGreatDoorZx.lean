/- Texts of this claim, put together: W3 X0 Y0 X1. -/
import Derived.Test.YtfihpofdoffclaaGreatDoorZw
import Derived.Test.YtfihpofdoffclaaGreatDoorZa
import Derived.Test.YtfihpofdoffclaaGreatDoorZn
import Derived.Lib.SmallJoins

/- awake. -/
namespace Go.Proofs.YtfihpofdoffclaaGreatDoor
open Go.RowKit

theorem AdvC.shape {w : World} {v : Value} {n : Int} {ss : List (List (List Int))} {k : Nat} (h : AdvC w v n ss) (hk : ss.length = k) : ∃ a c, v = .agg #[.int .i64 n, .slice a k c] := by
  obtain ⟨a, c, _, _, rfl, _⟩ := h; exact ⟨a, c, by rw [hk]⟩
theorem OwAdv.shape {w : World} {v : Value} {n : Int} {ss : List (List (List Int))} {k : Nat} (h : OwAdv w v n ss) (hk : ss.length = k) : ∃ a c, v = .agg #[.int .i64 n, .slice a k c] := by
  obtain ⟨sv, rfl, h1, _⟩ := h
  obtain ⟨a, c, rfl⟩ := h1.shape
  exact ⟨a, c, by rw [hk]⟩
theorem AdvC.addr {w : World} {a : Option Addr} {k c : Nat} {n : Int} {ss : List (List (List Int))} (h : AdvC w (.agg #[.int .i64 n, .slice a k c]) n ss) (h0 : 0 < ss.length) : ∃ b off, a = some ⟨b, off, none⟩ ∧ ∀ j, j < ss.length → ∃ ua uc, w.cell? ⟨b, off + j, none⟩ = some (.slice ua (ss.getD j []).length uc) ∧ KSC 8 w (.slice ua (ss.getD j []).length uc) (ss.getD j []) := by
  obtain ⟨a', c', b, off, h1, h2, h3, _⟩ := h
  injection h1 with h1
  have h4 := congrArg (fun x : Array Value => x[1]?) h1
  simp only [List.getElem?_toArray, List.getElem?_cons_succ, List.getElem?_cons_zero, Option.some.injEq, Value.slice.injEq] at h4
  obtain ⟨rfl, _, _⟩ := h4
  refine ⟨b, off, h2 h0, fun j hj => ?_⟩
  obtain ⟨u, k1, k2⟩ := h3 j hj
  obtain ⟨ua, uc, hu⟩ := k2.ks.shape
  subst hu
  exact ⟨ua, uc, k1, k2⟩
theorem disAt {w : World} {v : Value} (hA : AdvC w v 2 exA) {t : Nat} (ht : t < 3) {R : List (List Int)} (hR : dist exA 0 t = some R) :
    Calls Tryz.prog 23 #[v, .int .i64 0, .int .i64 (t : Int)] w fun e w' => ∃ u, e = .returned (.tuple #[u, .bool true, .int .i64 0]) ∧ OwX 79 7 EI w' w.heap.size u R.length R ∧ Below w.heap.size w w' := by
  have hO : ClsOK exA := clsOK_of hA.adv.len8 exA_ok (by decide) (by decide)
  have h := disGood hA.adv (by decide) exA_ok (s := 0) (t := t) (by decide) ht (R := some R) (fun W hb => by
    have h1 := distinguishA (hA.adv.keep hb) hO (ascL_of exA_ok) (s := 0) (t := t) (by decide) ht
    rw [hR] at h1; exact h1)
  exact h

set_option maxRecDepth 100000 in
set_option maxHeartbeats 3200000 in
theorem awakeCall {w : World} : Calls Tryz.prog 12 #[] w fun e w' => e = .returned (.bool true) ∧ Below w.heap.size w w' := by
  go_enter Tryz.func12, Tryz.ntmps12
  go_wp2_with fail
  refine exampleCall.mono ?_
  rintro e W1 ⟨a, b, rfl, hA, hB, hb1⟩
  obtain ⟨aa, ac, rfl⟩ := hA.shape (k := 3) rfl
  obtain ⟨ba, bc, rfl⟩ := hB.shape (k := 3) rfl
  unfold vS vC
  go_wp2_with fail
  generalize hW : World.alloc _ _ = W2
  have h0 : W2.heap[W1.heap.size]? = some (.cells #[.int .i64 2, .slice aa 3 ac] 24) := by rw [← hW]; repeat (first | (refine ha_new ?_; first | rfl | (simp only [World.size_alloc]; done)) | (refine ha_old ?_ ?_; · (simp only [World.size_alloc] <;> omega)))
  have h1 : W2.heap[W1.heap.size + 1]? = some (.cells #[.int .i64 2, .slice ba 3 bc] 24) := by rw [← hW]; repeat (first | (refine ha_new ?_; first | rfl | (simp only [World.size_alloc]; done)) | (refine ha_old ?_ ?_; · (simp only [World.size_alloc] <;> omega)))
  have h2 : W2.heap[W1.heap.size + 1 + 1]? = some (.cells #[.int .i64 2, .int .i64 1, .int .i64 2, .int .i64 0, .int .i64 0, .int .i64 0, .int .i64 0] 79) := by rw [← hW]; repeat (first | (refine ha_new ?_; first | rfl | (simp only [World.size_alloc]; done)) | (refine ha_old ?_ ?_; · (simp only [World.size_alloc] <;> omega)))
  have h3 : W2.heap[W1.heap.size + 1 + 1 + 1]? = some (.cells #[.int .i64 2, .int .i64 3, .int .i64 3, .int .i64 0, .int .i64 0, .int .i64 0, .int .i64 0] 79) := by rw [← hW]; repeat (first | (refine ha_new ?_; first | rfl | (simp only [World.size_alloc]; done)) | (refine ha_old ?_ ?_; · (simp only [World.size_alloc] <;> omega)))
  have hb2 : Below W1.heap.size W1 W2 := by rw [← hW]; repeat (first | exact Below.refl _ _ | (refine Below.alloc ?_ ?_ _; rotate_left; · (first | exact Nat.le_refl _ | (simp only [World.size_alloc] <;> omega))))
  clear hW
  have KA : Hid (∀ X, Below W2.heap.size W2 X → X.cell? ⟨W1.heap.size, 0, none⟩ = some (.int .i64 2) ∧ X.cell? ⟨W1.heap.size, 1, none⟩ = some (.slice aa 3 ac)) := fun X hX => ⟨cell_kept hX (by rw [cell_of_row _ _ 0 _ _ _ h0]; rfl), cell_kept hX (by rw [cell_of_row _ _ 1 _ _ _ h0]; rfl)⟩
  have KB : Hid (∀ X, Below W2.heap.size W2 X → X.cell? ⟨W1.heap.size + 1, 0, none⟩ = some (.int .i64 2) ∧ X.cell? ⟨W1.heap.size + 1, 1, none⟩ = some (.slice ba 3 bc)) := fun X hX => ⟨cell_kept hX (by rw [cell_of_row _ _ 0 _ _ _ h1]; rfl), cell_kept hX (by rw [cell_of_row _ _ 1 _ _ _ h1]; rfl)⟩
  have KT : Hid (∀ X, Below W2.heap.size W2 X → X.cell? ⟨W1.heap.size + 1 + 1, 0, none⟩ = some (.int .i64 2) ∧ X.cell? ⟨W1.heap.size + 1 + 1, 1, none⟩ = some (.int .i64 1) ∧ X.cell? ⟨W1.heap.size + 1 + 1, 2, none⟩ = some (.int .i64 2) ∧ X.cell? ⟨W1.heap.size + 1 + 1, 3, none⟩ = some (.int .i64 0) ∧ X.cell? ⟨W1.heap.size + 1 + 1, 4, none⟩ = some (.int .i64 0) ∧ X.cell? ⟨W1.heap.size + 1 + 1, 5, none⟩ = some (.int .i64 0) ∧ X.cell? ⟨W1.heap.size + 1 + 1, 6, none⟩ = some (.int .i64 0)) := fun X hX => ⟨cell_kept hX (by rw [cell_of_row _ _ 0 _ _ _ h2]; rfl), cell_kept hX (by rw [cell_of_row _ _ 1 _ _ _ h2]; rfl), cell_kept hX (by rw [cell_of_row _ _ 2 _ _ _ h2]; rfl), cell_kept hX (by rw [cell_of_row _ _ 3 _ _ _ h2]; rfl), cell_kept hX (by rw [cell_of_row _ _ 4 _ _ _ h2]; rfl), cell_kept hX (by rw [cell_of_row _ _ 5 _ _ _ h2]; rfl), cell_kept hX (by rw [cell_of_row _ _ 6 _ _ _ h2]; rfl)⟩
  have KC : Hid (∀ X, Below W2.heap.size W2 X → X.cell? ⟨W1.heap.size + 1 + 1 + 1, 0, none⟩ = some (.int .i64 2) ∧ X.cell? ⟨W1.heap.size + 1 + 1 + 1, 1, none⟩ = some (.int .i64 3) ∧ X.cell? ⟨W1.heap.size + 1 + 1 + 1, 2, none⟩ = some (.int .i64 3) ∧ X.cell? ⟨W1.heap.size + 1 + 1 + 1, 3, none⟩ = some (.int .i64 0) ∧ X.cell? ⟨W1.heap.size + 1 + 1 + 1, 4, none⟩ = some (.int .i64 0) ∧ X.cell? ⟨W1.heap.size + 1 + 1 + 1, 5, none⟩ = some (.int .i64 0) ∧ X.cell? ⟨W1.heap.size + 1 + 1 + 1, 6, none⟩ = some (.int .i64 0)) := fun X hX => ⟨cell_kept hX (by rw [cell_of_row _ _ 0 _ _ _ h3]; rfl), cell_kept hX (by rw [cell_of_row _ _ 1 _ _ _ h3]; rfl), cell_kept hX (by rw [cell_of_row _ _ 2 _ _ _ h3]; rfl), cell_kept hX (by rw [cell_of_row _ _ 3 _ _ _ h3]; rfl), cell_kept hX (by rw [cell_of_row _ _ 4 _ _ _ h3]; rfl), cell_kept hX (by rw [cell_of_row _ _ 5 _ _ _ h3]; rfl), cell_kept hX (by rw [cell_of_row _ _ 6 _ _ _ h3]; rfl)⟩
  clear h0 h1 h2 h3
  have hbw2 : Below w.heap.size w W2 := bt hb1 hb2 hb1.size
  have HA : Hid (∀ X, Below W2.heap.size W2 X → AdvC X (.agg #[.int .i64 2, .slice aa 3 ac]) 2 exA) := fun X hX => (hA.keep hb2).keep hX
  have HB : Hid (∀ X, Below W2.heap.size W2 X → AdvC X (.agg #[.int .i64 2, .slice ba 3 bc]) 2 exB) := fun X hX => (hB.keep hb2).keep hX
  clear hA hB hb1 hb2
  have B2 : Below W2.heap.size W2 W2 := Below.refl _ _
  refine (canonGood (HA.out W2 B2).adv (by decide) (by decide) exA_ok).mono ?_
  rintro e W3 ⟨x, rfl, hX, hb3⟩
  rw [exA_can] at hX
  obtain ⟨xa, xc, rfl⟩ := hX.shape (k := 3) rfl
  obtain ⟨W4, hW4⟩ : ∃ W4, W4 = W3.alloc (.cells #[.int .i64 2, .slice xa 3 xc] 24) := ⟨_, rfl⟩
  have hb34 : Below W3.heap.size W3 W4 := by rw [hW4]; exact (Below.refl _ _).alloc (Nat.le_refl _) _
  have hx4 : W4.heap[W3.heap.size]? = some (.cells #[.int .i64 2, .slice xa 3 xc] 24) := by rw [hW4]; exact heap_alloc_new _ _
  have B4 : Below W2.heap.size W2 W4 := btt hb3 hb34
  have hX4 := hX.keep hb34
  obtain ⟨ka0, ka1⟩ := KA.out W4 B4
  rw [hW4] at ka0 ka1
  go_wp2_with fail
  rw [← hW4]
  replace hW4 := Lib.hid hW4
  clear ka0 ka1
  have KX : Hid (∀ X, Below W4.heap.size W4 X → OwAdv X (.agg #[.int .i64 2, .slice xa 3 xc]) 2 exB ∧ X.cell? ⟨W3.heap.size, 0, none⟩ = some (.int .i64 2) ∧ X.cell? ⟨W3.heap.size, 1, none⟩ = some (.slice xa 3 xc)) := fun X hX => ⟨hX4.keep hX, cell_kept hX (by rw [cell_of_row _ _ 0 _ _ _ hx4]; rfl), cell_kept hX (by rw [cell_of_row _ _ 1 _ _ _ hx4]; rfl)⟩
  clear hX hX4 hx4 hb3 hb34
  refine (isGood (HA.out W4 B4).adv (by decide) (by decide) exA_ok).mono ?_
  rintro e W5 ⟨rfl, hb5⟩
  rw [show decide (exA = canS exA) = false by rw [exA_can]; decide]
  have B5 := btt B4 hb5
  obtain ⟨ka0, ka1⟩ := KA.out W5 B5
  go_wp2_with fail
  clear ka0 ka1
  refine (disAt (HA.out W5 B5) (t := 1) (by decide) exA_d1).mono ?_
  rintro e W6 ⟨u, rfl, hu, hb6⟩
  have B6 := btt B5 hb6
  obtain ⟨ua, uc, hus⟩ := hu.shape
  subst hus
  obtain ⟨ka0, ka1⟩ := KA.out W6 B6
  go_wp2_with fail
  clear ka0 ka1
  refine (disAt (HA.out W6 B6) (t := 2) (by decide) exA_d2).mono ?_
  rintro e W7 ⟨v, rfl, hv, hb7⟩
  have B7 := btt B6 hb7
  obtain ⟨va, vc, hvs⟩ := hv.shape
  subst hvs
  obtain ⟨kb0, kb1⟩ := KB.out W7 B7
  go_wp2_with fail
  clear kb0 kb1
  have hOB : ClsOK exB := clsOK_of (HB.out W7 B7).adv.len8 exB_ok (by decide) (by decide)
  refine (proveA (HB.out W7 B7).adv hOB exB_ok (by decide)).mono ?_
  rintro e W8 ⟨pr, rfl, hp, hb8⟩
  simp only [exB_min, exB_prv, if_true] at hp ⊢
  clear hOB
  have B8 := btt B7 hb8
  obtain ⟨pa, pc, hps⟩ := hp.shape
  subst hps
  have hb48 : Below W4.heap.size W4 W8 := ((hb5.trans (hb6.mono hb5.size)).trans (hb7.mono (Nat.le_trans hb5.size hb6.size))).trans (hb8.mono (Nat.le_trans (Nat.le_trans hb5.size hb6.size) hb7.size))
  obtain ⟨hX8, x0, x1⟩ := KX.out W8 hb48
  obtain ⟨kb0, kb1⟩ := KB.out W8 B8
  obtain ⟨kt0, kt1, kt2, kt3, kt4, kt5, kt6⟩ := KT.out W8 B8
  have HU : Hid (∀ X, Below W8.heap.size W8 X → KS 7 X (.slice ua ([rS, rS] : List (List Int)).length uc) [rS, rS]) := fun X hX => (OwX.keep (EI.stab _) (OwX.keep (EI.stab _) hu (btt hb7 hb8)) hX).ks (by decide)
  have HV : Hid (∀ X, Below W8.heap.size W8 X → KS 7 X (.slice va ([rS] : List (List Int)).length vc) [rS]) := fun X hX => (OwX.keep (EI.stab _) (OwX.keep (EI.stab _) hv hb8) hX).ks (by decide)
  have HP : Hid (∀ X, Below W8.heap.size W8 X → KSS 7 X (.slice pa exP.length pc) exP) := fun X hX => (OwX.keep (EWd.stab (by decide)) hp hX).kss7 (by decide) (by decide)
  clear hu hv hp hb5 hb6 hb7 hb8 hb48
  change OwAdv W8 _ 2 exB at hX8
  go_wp2_with fail
  refine (sameRef hX8.adv (HB.out W8 B8).adv).mono ?_
  rintro e W9 ⟨rfl, hb9⟩
  rw [show (decide ((2 : Int) = 2) && decide (exB = exB)) = true by decide]
  have B9 := btt B8 hb9
  clear kb0 kb1 kt0 kt1 kt2 kt3 kt4 kt5 kt6
  clear x0 x1 hX8
  obtain ⟨kt0, kt1, kt2, kt3, kt4, kt5, kt6⟩ := KT.out W9 B9
  go_wp2_with fail
  obtain ⟨X1, hX1⟩ : ∃ X1, X1 = W9.alloc (.cells #[.int .i64 2, .int .i64 1, .int .i64 2, .int .i64 0, .int .i64 0, .int .i64 0, .int .i64 0, .int .i64 2, .int .i64 1, .int .i64 2, .int .i64 0, .int .i64 0, .int .i64 0, .int .i64 0] 79) := ⟨_, rfl⟩
  rw [← hX1]
  have hrX1 : X1.heap[W9.heap.size]? = some (.cells #[.int .i64 2, .int .i64 1, .int .i64 2, .int .i64 0, .int .i64 0, .int .i64 0, .int .i64 0, .int .i64 2, .int .i64 1, .int .i64 2, .int .i64 0, .int .i64 0, .int .i64 0, .int .i64 0] 79) := by rw [hX1]; exact heap_alloc_new _ _
  have haX1 : Below W9.heap.size W9 X1 := by rw [hX1]; exact (Below.refl _ _).alloc (Nat.le_refl _) _
  replace hX1 := Lib.hid hX1
  have b8X1 : Below W8.heap.size W8 X1 := btt hb9 haX1
  have kX1 := (KSC.row (k := 7) (xs := [rS, rS]) hrX1 (by decide) rfl (by decide)).ks
  refine (eqRds (HU.out X1 b8X1) kX1).mono ?_
  rintro e X2 ⟨rfl, hqX1⟩
  rw [show decide (([rS, rS] : List (List Int)) = [rS, rS]) = true by decide]
  have b8X2 := btt b8X1 hqX1.below
  have BX2 := btt (btt B9 haX1) hqX1.below
  clear hrX1 haX1 kX1 hqX1
  clear kt0 kt1 kt2 kt3 kt4 kt5 kt6
  obtain ⟨kt0, kt1, kt2, kt3, kt4, kt5, kt6⟩ := KT.out X2 BX2
  go_wp2_with fail
  obtain ⟨X3, hX3⟩ : ∃ X3, X3 = X2.alloc (.cells #[.int .i64 2, .int .i64 1, .int .i64 2, .int .i64 0, .int .i64 0, .int .i64 0, .int .i64 0] 79) := ⟨_, rfl⟩
  rw [← hX3]
  have hrX3 : X3.heap[X2.heap.size]? = some (.cells #[.int .i64 2, .int .i64 1, .int .i64 2, .int .i64 0, .int .i64 0, .int .i64 0, .int .i64 0] 79) := by rw [hX3]; exact heap_alloc_new _ _
  have haX3 : Below X2.heap.size X2 X3 := by rw [hX3]; exact (Below.refl _ _).alloc (Nat.le_refl _) _
  replace hX3 := Lib.hid hX3
  have b8X3 : Below W8.heap.size W8 X3 := btt b8X2 haX3
  have kX3 := (KSC.row (k := 7) (xs := [rS]) hrX3 (by decide) rfl (by decide)).ks
  refine (eqRds (HV.out X3 b8X3) kX3).mono ?_
  rintro e X4 ⟨rfl, hqX3⟩
  rw [show decide (([rS] : List (List Int)) = [rS]) = true by decide]
  have b8X4 := btt b8X3 hqX3.below
  have BX4 := btt (btt BX2 haX3) hqX3.below
  clear hrX3 haX3 kX3 hqX3
  clear kt0 kt1 kt2 kt3 kt4 kt5 kt6
  obtain ⟨ka0, ka1⟩ := KA.out X4 BX4
  obtain ⟨kc0, kc1, kc2, kc3, kc4, kc5, kc6⟩ := KC.out X4 BX4
  obtain ⟨ra, ro, haa, hrows⟩ := (HA.out X4 BX4).addr (by decide)
  subst haa
  obtain ⟨u0a, u0c, g0, k0⟩ := hrows 0 (by decide)
  obtain ⟨u1a, u1c, g1, k1⟩ := hrows 1 (by decide)
  rw [Nat.add_zero] at g0
  change X4.cell? _ = some (.slice u0a 2 u0c) at g0
  change X4.cell? _ = some (.slice u1a 2 u1c) at g1
  clear hrows
  go_upto_region 9 with fail
  refine moreLaw ka1 g0 g1 kc0 kc1 kc2 kc3 kc4 kc5 kc6 ?_
  intro bm g gg X5 y95 y96 y97 y98 y99 y100 y101 y102 y103 y104 y105 y106 y107 y108 y109 y110 y111 m0 m1 m2 hm
  have BX5 := btt BX4 hm
  have b8X5 := btt b8X4 hm
  have hM : AdvC X5 (.agg #[.int .i64 2, .slice (some ⟨g, 0, none⟩) 4 4]) 2 exM := by
    refine ⟨_, _, g, 0, rfl, fun _ => rfl, fun j hj => ?_, by decide⟩
    rw [Nat.zero_add, cell_of_row _ _ _ _ _ _ m1]
    match j, hj with
    | 0, _ => exact ⟨_, rfl, k0.keep hm⟩
    | 1, _ => exact ⟨_, rfl, k1.keep hm⟩
    | 2, _ => exact ⟨_, rfl, KSC.row (k := 8) (xs := exM.getD 2 []) m2 (by decide) rfl (by decide)⟩
    | 3, _ => exact ⟨_, rfl, k1.keep hm⟩
    | _ + 4, hj => exact absurd hj (by show ¬ _ < 4; omega)
  have c0 : X5.cell? ⟨bm, 0, none⟩ = some (.int .i64 2) := by rw [cell_of_row _ _ 0 _ _ _ m0]; rfl
  have c1 : X5.cell? ⟨bm, 1, none⟩ = some (.slice (some ⟨g, 0, none⟩) 4 4) := by rw [cell_of_row _ _ 1 _ _ _ m0]; rfl
  clear ka0 ka1 kc0 kc1 kc2 kc3 kc4 kc5 kc6
  clear m0 m1 m2 k0 k1 g0 g1 hm BX4 b8X4 b8X3 b8X2 b8X1 BX2
  have HM : Hid (∀ X, Below X5.heap.size X5 X → AdvC X (.agg #[.int .i64 2, .slice (some ⟨g, 0, none⟩) 4 4]) 2 exM) := fun X hX => hM.keep hX
  go_wp2_with fail
  refine (classesGood hM.adv (by decide) (by decide) exM_ok).mono ?_
  rintro e X6 ⟨cu, rfl, hcl, hb6⟩
  rw [exM_part] at hcl
  have d0 := cell_kept hb6 c0
  have d1 := cell_kept hb6 c1
  have BX6 := btt BX5 hb6
  have b8X6 := btt b8X5 hb6
  obtain ⟨cua, cuc, hcus⟩ := hcl.shape
  subst hcus
  obtain ⟨ka0, ka1⟩ := KA.out X6 BX6
  clear c0 c1 hM
  go_wp2_with fail
  refine (equalA (HA.out X6 BX6).adv (HM.out X6 hb6).adv (by decide) (by decide) (by decide) (by decide)).mono ?_
  rintro e X7 ⟨rfl, hb7⟩
  rw [show eqRes 2 2 exA exM = true by decide +kernel, show eqErr 2 2 exA exM = 0 by decide +kernel]
  have BX7 := btt BX6 hb7
  have b8X7 := btt b8X6 hb7
  have hcl7 := hcl.keep hb7
  clear ka0 ka1
  clear d0 d1 hcl hb6 BX6 b8X6 b8X5 BX5
  go_wp2_with fail
  obtain ⟨X8, hX8⟩ : ∃ X8, X8 = X7.alloc (.cells #[.int .i64 0, .int .i64 1, .int .i64 2, .int .i64 1] 3) := ⟨_, rfl⟩
  rw [← hX8]
  have hr8 : X8.heap[X7.heap.size]? = some (.cells #[.int .i64 0, .int .i64 1, .int .i64 2, .int .i64 1] 3) := by rw [hX8]; exact heap_alloc_new _ _
  have ha8 : Below X7.heap.size X7 X8 := by rw [hX8]; exact (Below.refl _ _).alloc (Nat.le_refl _) _
  replace hX8 := Lib.hid hX8
  have hi8 : Ints X8 (.slice (some ⟨X7.heap.size, 0, none⟩) 4 4) [0, 1, 2, 1] := by
    refine ⟨_, _, X7.heap.size, 0, rfl, fun _ => rfl, fun j hj => ?_, by decide⟩
    rw [Nat.zero_add, cell_of_row _ _ _ _ _ _ hr8]
    match j, hj with
    | 0, _ => rfl
    | 1, _ => rfl
    | 2, _ => rfl
    | 3, _ => rfl
    | _ + 4, hj => exact absurd hj (by show ¬ _ < 4; omega)
  have hcl8 : Ints X8 (.slice cua exM.length cuc) [0, 1, 2, 1] := (hcl7.keep ha8).ints (by decide)
  refine (eqInts hcl8 hi8).mono ?_
  rintro e X9 ⟨rfl, hq9⟩
  rw [show decide (([0, 1, 2, 1] : List Int) = [0, 1, 2, 1]) = true by decide]
  have BX9 := btt (btt BX7 ha8) hq9.below
  have b8X9 := btt (btt b8X7 ha8) hq9.below
  clear hr8 ha8 hi8 hcl8 hq9 hcl7 BX7 b8X7 hb7
  obtain ⟨kt0, kt1, kt2, kt3, kt4, kt5, kt6⟩ := KT.out X9 BX9
  obtain ⟨kc0, kc1, kc2, kc3, kc4, kc5, kc6⟩ := KC.out X9 BX9
  have hz2 := World.block_lt_of_cell? X9 _ kt0
  change W1.heap.size + 1 + 1 < X9.heap.size at hz2
  have hz2_1 : W1.heap.size + 1 + 1 < X9.heap.size + 1 := by omega
  have hz2_2 : W1.heap.size + 1 + 1 < X9.heap.size + 1 + 1 := by omega
  have hz2_3 : W1.heap.size + 1 + 1 < X9.heap.size + 1 + 1 + 1 := by omega
  have hz2_4 : W1.heap.size + 1 + 1 < X9.heap.size + 1 + 1 + 1 + 1 := by omega
  have hz2_5 : W1.heap.size + 1 + 1 < X9.heap.size + 1 + 1 + 1 + 1 + 1 := by omega
  have hn2_0 : W1.heap.size + 1 + 1 ≠ X9.heap.size := by omega
  have hn2_1 : W1.heap.size + 1 + 1 ≠ X9.heap.size + 1 := by omega
  have hn2_2 : W1.heap.size + 1 + 1 ≠ X9.heap.size + 1 + 1 := by omega
  have hn2_3 : W1.heap.size + 1 + 1 ≠ X9.heap.size + 1 + 1 + 1 := by omega
  have hn2_4 : W1.heap.size + 1 + 1 ≠ X9.heap.size + 1 + 1 + 1 + 1 := by omega
  have hn2_5 : W1.heap.size + 1 + 1 ≠ X9.heap.size + 1 + 1 + 1 + 1 + 1 := by omega
  have hz3 := World.block_lt_of_cell? X9 _ kc0
  change W1.heap.size + 1 + 1 + 1 < X9.heap.size at hz3
  have hz3_1 : W1.heap.size + 1 + 1 + 1 < X9.heap.size + 1 := by omega
  have hz3_2 : W1.heap.size + 1 + 1 + 1 < X9.heap.size + 1 + 1 := by omega
  have hz3_3 : W1.heap.size + 1 + 1 + 1 < X9.heap.size + 1 + 1 + 1 := by omega
  have hz3_4 : W1.heap.size + 1 + 1 + 1 < X9.heap.size + 1 + 1 + 1 + 1 := by omega
  have hz3_5 : W1.heap.size + 1 + 1 + 1 < X9.heap.size + 1 + 1 + 1 + 1 + 1 := by omega
  have hn3_0 : W1.heap.size + 1 + 1 + 1 ≠ X9.heap.size := by omega
  have hn3_1 : W1.heap.size + 1 + 1 + 1 ≠ X9.heap.size + 1 := by omega
  have hn3_2 : W1.heap.size + 1 + 1 + 1 ≠ X9.heap.size + 1 + 1 := by omega
  have hn3_3 : W1.heap.size + 1 + 1 + 1 ≠ X9.heap.size + 1 + 1 + 1 := by omega
  have hn3_4 : W1.heap.size + 1 + 1 + 1 ≠ X9.heap.size + 1 + 1 + 1 + 1 := by omega
  have hn3_5 : W1.heap.size + 1 + 1 + 1 ≠ X9.heap.size + 1 + 1 + 1 + 1 + 1 := by omega
  go_wp2_with fail
  generalize hW : World.alloc _ _ = Y
  have l0 : Y.heap[X9.heap.size]? = some (.cells #[.int .i64 2, .int .i64 1, .int .i64 2, .int .i64 0, .int .i64 0, .int .i64 0, .int .i64 0] 79) := by rw [← hW]; repeat (first | (refine ha_new ?_; first | rfl | (simp only [World.size_alloc]; done)) | (refine ha_old ?_ ?_; · (simp only [World.size_alloc] <;> omega)))
  have l1 : Y.heap[X9.heap.size + 1]? = some (.cells #[.int .i64 2, .int .i64 3, .int .i64 3, .int .i64 0, .int .i64 0, .int .i64 0, .int .i64 0] 79) := by rw [← hW]; repeat (first | (refine ha_new ?_; first | rfl | (simp only [World.size_alloc]; done)) | (refine ha_old ?_ ?_; · (simp only [World.size_alloc] <;> omega)))
  have l2 : Y.heap[X9.heap.size + 1 + 1]? = some (.cells #[.int .i64 2, .int .i64 1, .int .i64 2, .int .i64 0, .int .i64 0, .int .i64 0, .int .i64 0] 79) := by rw [← hW]; repeat (first | (refine ha_new ?_; first | rfl | (simp only [World.size_alloc]; done)) | (refine ha_old ?_ ?_; · (simp only [World.size_alloc] <;> omega)))
  have l3 : Y.heap[X9.heap.size + 1 + 1 + 1]? = some (.cells #[.int .i64 2, .int .i64 1, .int .i64 2, .int .i64 0, .int .i64 0, .int .i64 0, .int .i64 0, .int .i64 2, .int .i64 1, .int .i64 2, .int .i64 0, .int .i64 0, .int .i64 0, .int .i64 0] 79) := by rw [← hW]; repeat (first | (refine ha_new ?_; first | rfl | (simp only [World.size_alloc]; done)) | (refine ha_old ?_ ?_; · (simp only [World.size_alloc] <;> omega)))
  have l4 : Y.heap[X9.heap.size + 1 + 1 + 1 + 1]? = some (.cells #[.int .i64 2, .int .i64 1, .int .i64 2, .int .i64 0, .int .i64 0, .int .i64 0, .int .i64 0] 79) := by rw [← hW]; repeat (first | (refine ha_new ?_; first | rfl | (simp only [World.size_alloc]; done)) | (refine ha_old ?_ ?_; · (simp only [World.size_alloc] <;> omega)))
  have l5 : Y.heap[X9.heap.size + 1 + 1 + 1 + 1 + 1]? = some (.cells #[.slice (some ⟨X9.heap.size, 0, none⟩) 1 1, .slice (some ⟨X9.heap.size + 1, 0, none⟩) 1 1, .slice (some ⟨X9.heap.size + 1 + 1, 0, none⟩) 1 1, .slice (some ⟨X9.heap.size + 1 + 1 + 1, 0, none⟩) 2 2, .slice (some ⟨X9.heap.size + 1 + 1 + 1 + 1, 0, none⟩) 1 1] 45) := by rw [← hW]; repeat (first | (refine ha_new ?_; first | rfl | (simp only [World.size_alloc]; done)) | (refine ha_old ?_ ?_; · (simp only [World.size_alloc] <;> omega)))
  have haY : Below X9.heap.size X9 Y := by rw [← hW]; repeat (first | exact Below.refl _ _ | (refine Below.alloc ?_ ?_ _; rotate_left; · (first | exact Nat.le_refl _ | (simp only [World.size_alloc] <;> omega))))
  clear hW
  clear hz2 hz2_1 hz2_2 hz2_3 hz2_4 hz2_5 hn2_0 hn2_1 hn2_2 hn2_3 hn2_4 hn2_5
  clear hz3 hz3_1 hz3_2 hz3_3 hz3_4 hz3_5 hn3_0 hn3_1 hn3_2 hn3_3 hn3_4 hn3_5
  clear kt0 kt1 kt2 kt3 kt4 kt5 kt6 kc0 kc1 kc2 kc3 kc4 kc5 kc6
  have hlit : KSS 7 Y (.slice (some ⟨X9.heap.size + 1 + 1 + 1 + 1 + 1, 0, none⟩) 5 5) exP := by
    refine ⟨_, _, X9.heap.size + 1 + 1 + 1 + 1 + 1, 0, rfl, fun _ => rfl, fun j hj => ?_, by decide⟩
    rw [Nat.zero_add, cell_of_row _ _ _ _ _ _ l5]
    match j, hj with
    | 0, _ => exact ⟨_, rfl, (KSC.row (k := 7) (xs := exP.getD 0 []) l0 (by decide) rfl (by decide)).ks⟩
    | 1, _ => exact ⟨_, rfl, (KSC.row (k := 7) (xs := exP.getD 1 []) l1 (by decide) rfl (by decide)).ks⟩
    | 2, _ => exact ⟨_, rfl, (KSC.row (k := 7) (xs := exP.getD 2 []) l2 (by decide) rfl (by decide)).ks⟩
    | 3, _ => exact ⟨_, rfl, (KSC.row (k := 7) (xs := exP.getD 3 []) l3 (by decide) rfl (by decide)).ks⟩
    | 4, _ => exact ⟨_, rfl, (KSC.row (k := 7) (xs := exP.getD 4 []) l4 (by decide) rfl (by decide)).ks⟩
    | _ + 5, hj => exact absurd hj (by show ¬ _ < 5; omega)
  have BY := btt BX9 haY
  have b8Y := btt b8X9 haY
  clear l0 l1 l2 l3 l4 l5 haY
  refine (sameWords (HP.out Y b8Y) hlit).mono ?_
  rintro e Z ⟨rfl, hqZ⟩
  rw [show decide (exP = exP) = true by decide]
  have BZ := btt BY hqZ.below
  have b8Z := btt b8Y hqZ.below
  clear hqZ hlit
  obtain ⟨kb0, kb1⟩ := KB.out Z BZ
  go_wp2_with fail
  refine (verifyCall (HB.out Z BZ).adv (by decide) (by decide) (HP.out Z b8Z)).mono ?_
  rintro e ZZ ⟨rfl, hbz⟩
  rw [exB_ver]
  have hfin := bt hbw2 (btt BZ hbz) hbw2.size
  go_wp2_with fail
  go_ret
  exact ⟨rfl, hfin⟩
end Go.Proofs.YtfihpofdoffclaaGreatDoor

/- The law CanonicalCompares. -/
namespace Go.Proofs.YtfihpofdoffclaaGreatDoor
open Go.RowKit

theorem awakeK {w0 : World} {B : Nat} (w : World) (h : Below B w0 w) (hB : B ≤ w.heap.size) : Calls Tryz.prog 12 #[] w fun e w' => e = .returned (.bool true) ∧ Below B w0 w' := awakeCall.mono fun _ _ ⟨h1, h2⟩ => ⟨h1, bt h h2 hB⟩
set_option maxRecDepth 100000 in
set_option maxHeartbeats 1600000 in
theorem lawCompares {w : World} {u v : Value} {m n : Int} {xs ys : List (List (List Int))} (hx : AdvV w u m xs) (hy : AdvV w v n ys) :
    Calls Tryz.prog 4 #[u, v] w fun e w' => e = .returned (.bool true) ∧ Below w.heap.size w w' := by
  obtain ⟨xa, xc, hu⟩ := advShape' hx
  obtain ⟨ya, yc, hv⟩ := advShape' hy
  subst hu hv
  obtain ⟨W1, hW1⟩ : ∃ W1, W1 = (w.alloc (.cells #[.int .i64 m, .slice xa xs.length xc] 24)).alloc (.cells #[.int .i64 n, .slice ya ys.length yc] 24) := ⟨_, rfl⟩
  obtain ⟨hb1, ⟨p0, p1⟩, ⟨q0, q1⟩, _, hs1⟩ := boxAdv2 hW1
  replace hs1 := Lib.hid hs1
  have HX := Lib.hid (fun W (hb : Below W1.heap.size W1 W) => (hx.keep hb1).keep hb)
  have HY := Lib.hid (fun W (hb : Below W1.heap.size W1 W) => (hy.keep hb1).keep hb)
  have HF := Lib.hid (refFew (HX.out W1 (Below.refl _ _)))
  have HG := Lib.hid (fun W (hb : Below W1.heap.size W1 W) => refFew (HY.out W hb))
  have HK := Lib.hid (fun W (hb : Below W1.heap.size W1 W) => And.intro (cell_kept hb p0) (And.intro (cell_kept hb p1) (And.intro (cell_kept hb q0) (cell_kept hb q1))))
  have hfx : Hid (fewA xs = true → xs.length ≤ 90 ∧ movesN xs ≤ 90) := fun h => by simp [fewA] at h; omega
  have hfy : Hid (fewA ys = true → ys.length ≤ 90 ∧ movesN ys ≤ 90) := fun h => by simp [fewA] at h; omega
  obtain ⟨fx, hfx1⟩ : ∃ fx, fewA xs = fx := ⟨_, rfl⟩
  obtain ⟨fy, hfy1⟩ : ∃ fy, fewA ys = fy := ⟨_, rfl⟩
  rw [hfx1] at HF hfx
  rw [hfy1] at hfy
  simp only [hfy1] at HG
  replace hfx1 := Lib.hid hfx1
  replace hfy1 := Lib.hid hfy1
  clear hx hy
  cases fx
  · go_enter Tryz.func4, Tryz.ntmps4
    go_wp2_with fail
    rw [← hW1]
    refine HF.out.mono ?_
    rintro e W2 ⟨rfl, hb2⟩
    go_wp2_with fail
    refine (awakeK W2 (bt hb1 hb2 hb1.size) (Nat.le_trans hb1.size hb2.size)).mono ?_
    rintro e W3 ⟨rfl, hb3⟩
    go_wp2
    go_ret
    exact ⟨rfl, hb3⟩
  · cases fy
    · go_enter Tryz.func4, Tryz.ntmps4
      go_wp2_with fail
      rw [← hW1]
      refine HF.out.mono ?_
      rintro e W2 ⟨rfl, hb2⟩
      obtain ⟨a0, a1, a2, a3⟩ := HK.out W2 hb2
      go_wp2_with fail
      refine (HG.out W2 hb2).mono ?_
      rintro e W3 ⟨rfl, hb3⟩
      have B3 := btt hb2 hb3
      go_wp2_with fail
      refine (awakeK W3 (bt hb1 B3 hb1.size) (Nat.le_trans hb1.size B3.size)).mono ?_
      rintro e W4 ⟨rfl, hb4⟩
      go_wp2
      go_ret
      exact ⟨rfl, hb4⟩
    · obtain ⟨x1, x2⟩ := hfx.out rfl
      obtain ⟨y1, y2⟩ := hfy.out rfl
      have HE := Lib.hid (fun W (hb : Below W1.heap.size W1 W) => equalA (HX.out W hb) (HY.out W hb) x1 x2 y1 y2)
      have HR := Lib.hid (fun W (hb : Below W1.heap.size W1 W) => refEqual (HX.out W hb) (HY.out W hb) x1 x2 y1 y2)
      obtain ⟨r1, hr1⟩ : ∃ r, eqRes m n xs ys = r := ⟨_, rfl⟩
      obtain ⟨r2, hr2⟩ : ∃ r, eqErr m n xs ys = r := ⟨_, rfl⟩
      simp only [hr1, hr2] at HE HR
      replace hr1 := Lib.hid hr1
      replace hr2 := Lib.hid hr2
      have e1 : (r1 == r1) = true := by simp
      have e2 : (r2 == r2) = true := by simp
      go_enter Tryz.func4, Tryz.ntmps4
      go_wp2_with fail
      rw [← hW1]
      refine HF.out.mono ?_
      rintro e W2 ⟨rfl, hb2⟩
      obtain ⟨a0, a1, a2, a3⟩ := HK.out W2 hb2
      go_wp2_with fail
      refine (HG.out W2 hb2).mono ?_
      rintro e W3 ⟨rfl, hb3⟩
      have B3 := btt hb2 hb3
      obtain ⟨c0, c1, c2, c3⟩ := HK.out W3 B3
      go_wp2_with fail
      refine (HE.out W3 B3).mono ?_
      rintro e W4 ⟨rfl, hb4⟩
      have B4 := btt B3 hb4
      obtain ⟨d0, d1, d2, d3⟩ := HK.out W4 B4
      go_wp2_with fail
      refine (HR.out W4 B4).mono ?_
      rintro e W5 ⟨rfl, hb5⟩
      have B5 := btt B4 hb5
      go_wp2_with fail
      refine (awakeK W5 (bt hb1 B5 hb1.size) (Nat.le_trans hb1.size B5.size)).mono ?_
      rintro e W6 ⟨rfl, hb6⟩
      go_wp2
      go_ret
      exact ⟨rfl, hb6⟩
end Go.Proofs.YtfihpofdoffclaaGreatDoor

/- Readers of arguments: adversaries as plain data. -/
namespace Go.Proofs.YtfihpofdoffclaaGreatDoor
open Go.RowKit Go.ChangeShapes Go.WideShapes Go.ChangeAt Go.Deep Go.WideElems

section
variable {H : Type} {enc : TypeId × Value → H} {w : World} {base : Nat} {spare : Nat → Bool} {held : Bool}

theorem eightL {cs : List Value} (h : cs.length = 8) : ∃ a b c d e f g i, cs = [a, b, c, d, e, f, g, i] := by
  match cs, h with
  | [a, b, c, d, e, f, g, i], _ => exact ⟨a, b, c, d, e, f, g, i, rfl⟩
theorem moveInts {fuel : Nat} {cs : List Value} {x : DataW H × List MemPlace} (h : DataW.trod enc Tryz.prog w base spare held fuel 84 cs = some x) : ∃ xs : List Int, xs.length = 8 ∧ cs = xs.map (Value.int .i64) := by
  have k84 : Tryz.prog.cellsOf 84 = 8 := by kernel_rfl
  have k79 : Tryz.prog.cellsOf 79 = 7 := by kernel_rfl
  have k77 : Tryz.prog.cellsOf 77 = 6 := by kernel_rfl
  have k75 : Tryz.prog.cellsOf 75 = 5 := by kernel_rfl
  have k3 : Tryz.prog.cellsOf 3 = 1 := by kernel_rfl
  obtain ⟨y0, y1, n, _, hl, h0, h1⟩ := trod_struct2 Tryz.underlying84 h
  rw [k84] at hl
  obtain ⟨c0, c1, c2, c3, c4, c5, c6, c7, rfl⟩ := eightL hl
  simp only [k79, k3, List.drop_zero, List.take_succ_cons, List.take_zero, List.drop_succ_cons] at h0 h1
  obtain ⟨i7, e7, _⟩ := DataW.trod_int Tryz.underlying3 h1
  obtain ⟨z0, z1, n2, _, _, g0, g1⟩ := trod_struct2 Tryz.underlying79 h0
  simp only [k77, k3, List.drop_zero, List.take_succ_cons, List.take_zero, List.drop_succ_cons] at g0 g1
  obtain ⟨i6, e6, _⟩ := DataW.trod_int Tryz.underlying3 g1
  obtain ⟨q0, q1, n3, _, _, f0, f1⟩ := trod_struct2 Tryz.underlying77 g0
  simp only [k75, k3, List.drop_zero, List.take_succ_cons, List.take_zero, List.drop_succ_cons] at f0 f1
  obtain ⟨i0, e0, _⟩ := DataW.trod_int Tryz.underlying3 f0
  obtain ⟨xs, m, _, _, _, hxl, hx⟩ := DataW.trod_array Tryz.underlying75 f1
  have hj : ∀ (i : Nat) (c : Value), i < 5 → (([c1, c2, c3, c4, c5] : List Value).drop i).take 1 = [c] → ∃ k, c = .int .i64 k := fun i c hi hc => by
    have := hx i hi
    rw [k3, Nat.mul_one, hc, List.getElem?_eq_getElem (by omega)] at this
    obtain ⟨k, e, _⟩ := DataW.trod_int Tryz.underlying3 this
    exact ⟨k, by simpa using e⟩
  obtain ⟨i1, rfl⟩ := hj 0 c1 (by omega) rfl
  obtain ⟨i2, rfl⟩ := hj 1 c2 (by omega) rfl
  obtain ⟨i3, rfl⟩ := hj 2 c3 (by omega) rfl
  obtain ⟨i4, rfl⟩ := hj 3 c4 (by omega) rfl
  obtain ⟨i5, rfl⟩ := hj 4 c5 (by omega) rfl
  obtain rfl : c0 = .int .i64 i0 := by simpa using e0
  obtain rfl : c6 = .int .i64 i6 := by simpa using e6
  obtain rfl : c7 = .int .i64 i7 := by simpa using e7
  exact ⟨[i0, i1, i2, i3, i4, i5, i6, i7], rfl, rfl⟩
theorem ksc_of_trod {v : Value} {d : DataW H} {ps : List MemPlace} {fuel : Nat} (h : DataW.trod enc Tryz.prog w 0 (fun _ => true) true fuel 82 [v] = some (d, ps)) (hw : ∀ n ∈ d.weights Tryz.prog 82, n ≤ reachBytes) : ∃ xs, KSC 8 w v xs := by
  have k84 : Tryz.prog.cellsOf 84 = 8 := by kernel_rfl
  have b84 : Tryz.prog.bytesOf 84 = 64 := by kernel_rfl
  rcases open_slice Tryz.underlying82 h with ⟨h1, _⟩ | ⟨a, len, cap, m, n, D, Pl, h1, _, hl, hm, hmm, h2, hx⟩
  · obtain rfl : v = .slice none 0 0 := by simpa using h1
    exact ⟨[], none, 0, 0, 0, rfl, by simp, by intro j hj; simp at hj, by simp, by simp⟩
  · obtain rfl : v = .slice (some a) len cap := by simpa using h1
    simp only [if_true] at hmm
    subst hmm
    obtain ⟨rfl, _⟩ := Prod.mk.injEq .. ▸ h2
    have hsz := hw ((len + (m - len)) * 64) (by simp [DataW.weights, Tryz.underlying82, b84])
    unfold reachBytes at hsz
    rw [k84] at hx
    obtain ⟨X, hX⟩ := choose_lt (α := List Int) (n := len) (p := fun i xs => xs.length = 8 ∧ ∀ j, j < 8 → w.cell? (a.add (i * 8 + j)) = some (.int .i64 (xs.getD j 0))) (fun i hi => by
      obtain ⟨cs', g1, g2⟩ := hx i (by omega)
      obtain ⟨xs, hx8, rfl⟩ := moveInts g2
      obtain ⟨_, _, hcell⟩ := World.cells?_some g1
      refine ⟨xs, hx8, fun j hj => ?_⟩
      have := hcell j (by omega)
      rw [add_add] at this
      rw [this, List.getElem?_map, List.getElem?_eq_getElem (by omega), getD_eq (by omega)]; rfl)
    have hlen : len ≤ 2199023255552 := by omega
    have hall : ∀ j, j < len → ((List.range len).map X).getD j [] = X j := fun j hj => by simp [hj]
    refine ⟨(List.range len).map X, some a, m, a.block, a.off, by simp, fun h0 => ?_, fun j hj => ?_, by simpa using hlen, by simpa using hl⟩
    · have hk := (hX 0 (by simpa using h0)).2 0 (by omega)
      rw [show a.add (0 * 8 + 0) = a by simp [Addr.add]] at hk
      rw [← addr_spot hk]
    · have hj' : j < len := by simpa using hj
      rw [hall j hj']
      have hk0 := (hX 0 (by omega)).2 0 (by omega)
      rw [show a.add (0 * 8 + 0) = a by simp [Addr.add]] at hk0
      refine ⟨(hX j hj').1, fun i hi => ?_⟩
      have h3 := (hX j hj').2 i (by have := (hX j hj').1; omega)
      have e : a.add (j * 8 + i) = ⟨a.block, a.off + j * 8 + i, none⟩ := by
        have := addr_spot hk0
        rw [this, Nat.add_assoc]
        exact add_plain _ _ _
      rw [← e]; exact h3
theorem weightsAll_mem {e : TypeId} : ∀ {l : List (DataW H)} {x : DataW H}, x ∈ l → ∀ n ∈ x.weights Tryz.prog e, n ∈ DataW.weightsAll Tryz.prog e l := by
  intro l
  induction l with
  | nil => intro x hx; cases hx
  | cons y r ih =>
    intro x hx n hn
    simp only [DataW.weightsAll, List.mem_append]
    rcases List.mem_cons.1 hx with rfl | hx
    · exact .inl hn
    · exact .inr (ih hx n hn)
set_option maxRecDepth 100000 in
/-- An adversary among the arguments. -/
theorem advC_of_trod {r : Reach} {b0 : Nat} {v : Value} {d : DataW H} {p : List MemPlace} (hv : Value.okWide Tryz.prog w r b0 24 v) (h : DataW.Trod enc Tryz.prog w 0 (fun _ => true) true 24 v d p) (hw : ∀ n ∈ d.weights Tryz.prog 24, n ≤ reachBytes) : ∃ n ss, AdvC w v n ss := by
  have k82 : Tryz.prog.cellsOf 82 = 1 := by kernel_rfl
  have b82 : Tryz.prog.bytesOf 82 = 24 := by kernel_rfl
  obtain ⟨v0, v1, y0, y1, n, rfl, rfl, rfl, h0, h1⟩ := Go.Joins.open_agg2 Tryz.underlying24 (by kernel_rfl) (by kernel_rfl) hv h
  obtain ⟨i0, e0, _⟩ := DataW.trod_int Tryz.underlying3 h0
  obtain rfl : v0 = .int .i64 i0 := by simpa using e0
  have hw1 : ∀ n ∈ y1.1.weights Tryz.prog 22, n ≤ reachBytes := fun n hn => hw n (by
    simp only [DataW.weights, Tryz.underlying24, DataW.weightsEach, List.map_cons, List.map_nil, List.mem_append]
    exact .inr (.inl hn))
  obtain ⟨d1, p1⟩ := y1
  rcases open_slice1 Tryz.underlying22 k82 h1 with ⟨h2, _⟩ | ⟨a, len, cap, m, n, V, D, Pl, h2, _, hl, hm, hmm, h3, hx⟩
  · obtain rfl : v1 = .slice none 0 0 := by simpa using h2
    exact ⟨i0, [], none, 0, 0, 0, rfl, by simp, by intro j hj; simp at hj, by simp⟩
  · obtain rfl : v1 = .slice (some a) len cap := by simpa using h2
    simp only [if_true] at hmm
    subst hmm
    obtain ⟨rfl, _⟩ := Prod.mk.injEq .. ▸ h3
    have hsz := hw1 ((len + (m - len)) * 24) (by simp [DataW.weights, Tryz.underlying22, b82])
    unfold reachBytes at hsz
    have hxs : ∀ i, i < len → ∃ xs, KSC 8 w (V i) xs := fun i hi => by
      obtain ⟨g1, g2⟩ := hx i (by omega)
      refine ksc_of_trod g2 fun n hn => hw1 n ?_
      simp only [DataW.weights, Tryz.underlying22, List.mem_cons, List.mem_append]
      right; left
      exact weightsAll_mem (List.mem_map_of_mem (List.mem_range.2 hi)) n hn
    have hlen : len ≤ 5864062014805 := by omega
    obtain ⟨X, hX⟩ : ∃ X : Nat → List (List Int), ∀ i, i < len → KSC 8 w (V i) (X i) := ⟨fun i => if h : i < len then (hxs i h).choose else [], fun i hi => by simp only [hi, dif_pos]; exact (hxs i hi).choose_spec⟩
    refine ⟨i0, (List.range len).map X, some a, m, a.block, a.off, by simp, fun h0 => ?_, fun j hj => ?_, by simpa using hlen⟩
    · have hk := (hx 0 (by have : 0 < len := by simpa using h0
                           omega)).1
      rw [show a.add 0 = a by simp [Addr.add]] at hk
      rw [← addr_spot hk]
    · have hj' : j < len := by simpa using hj
      have hk0 := (hx 0 (by omega)).1
      rw [show a.add 0 = a by simp [Addr.add]] at hk0
      have e1 : a.add j = ⟨a.block, a.off + j, none⟩ := by
        rw [addr_spot hk0]
        exact add_plain _ _ _
      refine ⟨V j, by rw [← e1]; exact (hx j (by omega)).1, ?_⟩
      have : ((List.range len).map X).getD j [] = X j := by simp [hj']
      rw [this]
      exact hX j hj'
end
end Go.Proofs.YtfihpofdoffclaaGreatDoor

/- The law CanonicalForms. -/
namespace Go.Proofs.YtfihpofdoffclaaGreatDoor
open Go.RowKit

theorem advNil (w : World) : AdvV w (.agg #[.int .i64 0, .slice none 0 0]) 0 [] := ⟨_, rfl, none, 0, 0, 0, rfl, by simp, by intro j hj; simp at hj, by simp⟩
theorem OwAdv.shape' {w : World} {v : Value} {n : Int} {ss : List (List (List Int))} (h : OwAdv w v n ss) : ∃ a c, v = .agg #[.int .i64 n, .slice a ss.length c] := h.shape rfl
set_option maxRecDepth 100000 in
set_option maxHeartbeats 3200000 in
theorem lawForms {w : World} {u : Value} {m : Int} {xs : List (List (List Int))} (hx : AdvV w u m xs) :
    Calls Tryz.prog 3 #[u] w fun e w' => e = .returned (.bool true) ∧ Below w.heap.size w w' := by
  obtain ⟨xa, xc, hu⟩ := advShape' hx
  subst hu
  obtain ⟨W1, hW1⟩ : ∃ W1, W1 = w.alloc (.cells #[.int .i64 m, .slice xa xs.length xc] 24) := ⟨_, rfl⟩
  obtain ⟨hb1, p0, p1, hs1⟩ := boxAdv hW1
  replace hs1 := Lib.hid hs1
  have HX := Lib.hid (fun W (hb : Below W1.heap.size W1 W) => (hx.keep hb1).keep hb)
  have HF := Lib.hid (refFew (HX.out W1 (Below.refl _ _)))
  have HK := Lib.hid (fun W (hb : Below W1.heap.size W1 W) => And.intro (cell_kept hb p0) (cell_kept hb p1))
  have hfx : Hid (fewA xs = true → xs.length ≤ 90 ∧ movesN xs ≤ 90) := fun h => by simp [fewA] at h; omega
  obtain ⟨fx, hfx1⟩ : ∃ fx, fewA xs = fx := ⟨_, rfl⟩
  rw [hfx1] at HF hfx
  replace hfx1 := Lib.hid hfx1
  clear hx
  cases fx
  · go_enter Tryz.func3, Tryz.ntmps3
    go_wp2_with fail
    rw [← hW1]
    refine HF.out.mono ?_
    rintro e W2 ⟨rfl, hb2⟩
    go_wp2_with fail
    refine (awakeK W2 (bt hb1 hb2 hb1.size) (Nat.le_trans hb1.size hb2.size)).mono ?_
    rintro e W3 ⟨rfl, hb3⟩
    go_wp2
    go_ret
    exact ⟨rfl, hb3⟩
  · obtain ⟨x1, x2⟩ := hfx.out rfl
    have x3 : movesN xs ≤ 1000000000 := by omega
    by_cases h0 : chkA m xs = 0
    · have H1 := Lib.hid (fun W (hb : Below W1.heap.size W1 W) => classesGood (HX.out W hb) x1 x2 h0)
      have H2 := Lib.hid (fun W (hb : Below W1.heap.size W1 W) => refClasses (HX.out W hb) h0 (LeadOK.ofCls (clsOK_of (HX.out W hb).len8 h0 x1 x2)) (by omega))
      have H3 := Lib.hid (fun W (hb : Below W1.heap.size W1 W) => canonGood (HX.out W hb) x1 x2 h0)
      have H4 := Lib.hid (fun W (hb : Below W1.heap.size W1 W) => refCanonGood (HX.out W hb) x1 x2 h0)
      have H5 := Lib.hid (fun W (hb : Below W1.heap.size W1 W) => isGood (HX.out W hb) x1 x2 h0)
      have H6 := Lib.hid (fun W (hb : Below W1.heap.size W1 W) => refIsGood (HX.out W hb) x1 x2 h0)
      have hlx : Hid ((xs.length : Nat) ≤ 17592186044416) := by show xs.length ≤ _; omega
      obtain ⟨C, hC⟩ : ∃ C, canS xs = C := ⟨_, rfl⟩
      rw [hC] at H3 H4 H5 H6
      obtain ⟨r1, hr1⟩ : ∃ r, decide (xs = C) = r := ⟨_, rfl⟩
      rw [hr1] at H5 H6
      replace hC := Lib.hid hC
      replace hr1 := Lib.hid hr1
      obtain ⟨PL, hPL⟩ : ∃ PL, natI (part xs) = PL := ⟨_, rfl⟩
      rw [hPL] at H1 H2
      replace hPL := Lib.hid hPL
      replace h0 := Lib.hid h0
      have e1 : (r1 == r1) = true := by simp
      go_enter Tryz.func3, Tryz.ntmps3
      go_wp2_with fail
      rw [← hW1]
      refine HF.out.mono ?_
      rintro e W2 ⟨rfl, hb2⟩
      obtain ⟨a0, a1⟩ := HK.out W2 hb2
      go_wp2_with fail
      refine (H1.out W2 hb2).mono ?_
      rintro e W3 ⟨l, rfl, hl, hb3⟩
      obtain ⟨la, lc, hls⟩ := hl.shape
      subst hls
      have B3 := btt hb2 hb3
      clear a0 a1
      obtain ⟨a0, a1⟩ := HK.out W3 B3
      go_wp2_with fail
      refine (H2.out W3 B3).mono ?_
      rintro e W4 ⟨k, rfl, hk, hb4⟩
      obtain ⟨ka, kc, hks⟩ := hk.shape
      subst hks
      have B4 := btt B3 hb4
      clear a0 a1
      obtain ⟨a0, a1⟩ := HK.out W4 B4
      go_wp2_with fail
      refine (H3.out W4 B4).mono ?_
      rintro e W5 ⟨cx, rfl, hX, hb5⟩
      obtain ⟨ca, cc, hcs⟩ := hX.shape'
      subst hcs
      have B5 := btt B4 hb5
      obtain ⟨W6, hW6⟩ : ∃ W6, W6 = W5.alloc (.cells #[.int .i64 m, .slice ca C.length cc] 24) := ⟨_, rfl⟩
      obtain ⟨hb6, g0, g1, _⟩ := boxAdv hW6
      have B6 := btt B5 hb6
      clear a0 a1
      obtain ⟨a0, a1⟩ := HK.out W6 B6
      rw [hW6] at a0 a1
      go_wp2_with fail
      rw [← hW6]
      replace hW6 := Lib.hid hW6
      clear a0 a1
      have KX := Lib.hid (fun X (hX1 : Below W6.heap.size W6 X) => And.intro ((hX.keep hb6).keep hX1) (And.intro (cell_kept hX1 g0) (cell_kept hX1 g1)))
      have KL3 := Lib.hid (fun X (hX1 : Below W6.heap.size W6 X) => (((hl.keep hb4).keep hb5).keep hb6).keep hX1)
      have KK4 := Lib.hid (fun X (hX1 : Below W6.heap.size W6 X) => ((hk.keep hb5).keep hb6).keep hX1)
      clear hX g0 g1 hb3 hb4 hb5 hb6 hl hk
      refine (H4.out W6 B6).mono ?_
      rintro e W7 ⟨cy, rfl, hY, hb7⟩
      obtain ⟨da, dc, hds⟩ := hY.shape'
      subst hds
      have B7 := btt B6 hb7
      obtain ⟨W8, hW8⟩ : ∃ W8, W8 = W7.alloc (.cells #[.int .i64 m, .slice da C.length dc] 24) := ⟨_, rfl⟩
      obtain ⟨hb8, g0, g1, _⟩ := boxAdv hW8
      have B8 := btt B7 hb8
      have b68 := btt hb7 hb8
      obtain ⟨a0, a1⟩ := HK.out W8 B8
      rw [hW8] at a0 a1
      go_wp2_with fail
      rw [← hW8]
      replace hW8 := Lib.hid hW8
      clear a0 a1
      have KY := Lib.hid (fun X (hX1 : Below W8.heap.size W8 X) => And.intro ((hY.keep hb8).keep hX1) (And.intro (cell_kept hX1 g0) (cell_kept hX1 g1)))
      clear hY g0 g1 hb7 hb8
      refine (H5.out W8 B8).mono ?_
      rintro e W9 ⟨rfl, hb9⟩
      have B9 := btt B8 hb9
      have b69 := btt b68 hb9
      obtain ⟨a0, a1⟩ := HK.out W9 B9
      go_wp2_with fail
      clear a0 a1
      refine (H6.out W9 B9).mono ?_
      rintro e W10 ⟨rfl, hb10⟩
      have B10 := btt B9 hb10
      have b610 := btt b69 hb10
      have b810 := btt hb9 hb10
      go_wp2_with fail
      refine (sameIntsR ((KL3.out W10 b610).ints hlx.out) ((KK4.out W10 b610).ints hlx.out)).mono ?_
      rintro e W11 ⟨rfl, hq⟩
      rw [show decide (PL = PL) = true by simp]
      have hb11 := hq.below
      have B11 := btt B10 hb11
      obtain ⟨hX, x0', x1'⟩ := KX.out W11 (btt b610 hb11)
      obtain ⟨hY, y0', y1'⟩ := KY.out W11 (btt b810 hb11)
      go_wp2_with fail
      refine (sameRef hX.adv hY.adv).mono ?_
      rintro e W12 ⟨rfl, hb12⟩
      rw [show (decide (m = m) && decide (C = C)) = true by simp]
      have B12 := btt B11 hb12
      clear x0' x1' y0' y1' hX hY
      go_wp2_with fail
      refine (awakeK W12 (bt hb1 B12 hb1.size) (Nat.le_trans hb1.size B12.size)).mono ?_
      rintro e W13 ⟨rfl, hb13⟩
      go_wp2
      go_ret
      exact ⟨rfl, hb13⟩
    · have H1 := Lib.hid (fun W (hb : Below W1.heap.size W1 W) => classesBad (HX.out W hb) x3 h0)
      have H2 := Lib.hid (fun W (hb : Below W1.heap.size W1 W) => refClassesBad (HX.out W hb) h0)
      have H3 := Lib.hid (fun W (hb : Below W1.heap.size W1 W) => canonBad (HX.out W hb) x3 h0)
      have H4 := Lib.hid (fun W (hb : Below W1.heap.size W1 W) => refCanonBad (HX.out W hb) h0)
      have H5 := Lib.hid (fun W (hb : Below W1.heap.size W1 W) => isBad (HX.out W hb) x3 h0)
      have H6 := Lib.hid (fun W (hb : Below W1.heap.size W1 W) => refIsBad (HX.out W hb) h0)
      obtain ⟨E, hE⟩ : ∃ E, chkA m xs = E := ⟨_, rfl⟩
      rw [hE] at H1 H2 H3 H4 H5 H6
      replace hE := Lib.hid hE
      clear h0
      have e1 : (E == E) = true := by simp
      go_enter Tryz.func3, Tryz.ntmps3
      go_wp2_with fail
      rw [← hW1]
      refine HF.out.mono ?_
      rintro e W2 ⟨rfl, hb2⟩
      obtain ⟨a0, a1⟩ := HK.out W2 hb2
      go_wp2_with fail
      refine (H1.out W2 hb2).mono ?_
      rintro e W3 ⟨rfl, hb3⟩
      have B3 := btt hb2 hb3
      clear a0 a1
      obtain ⟨a0, a1⟩ := HK.out W3 B3
      go_wp2_with fail
      refine (H2.out W3 B3).mono ?_
      rintro e W4 ⟨rfl, hb4⟩
      have B4 := btt B3 hb4
      clear a0 a1
      obtain ⟨a0, a1⟩ := HK.out W4 B4
      go_wp2_with fail
      refine (H3.out W4 B4).mono ?_
      rintro e W5 ⟨rfl, hb5⟩
      have B5 := btt B4 hb5
      obtain ⟨W6, hW6⟩ : ∃ W6, W6 = W5.alloc (.cells #[.int .i64 0, .slice none 0 0] 24) := ⟨_, rfl⟩
      obtain ⟨hb6, g0, g1, _⟩ := boxAdv hW6
      have B6 := btt B5 hb6
      clear a0 a1
      obtain ⟨a0, a1⟩ := HK.out W6 B6
      rw [hW6] at a0 a1
      go_wp2_with fail
      rw [← hW6]
      replace hW6 := Lib.hid hW6
      clear a0 a1
      have KX := Lib.hid (fun X (hX1 : Below W6.heap.size W6 X) => And.intro (cell_kept hX1 g0) (cell_kept hX1 g1))
      clear g0 g1 hb3 hb4 hb5 hb6
      refine (H4.out W6 B6).mono ?_
      rintro e W7 ⟨rfl, hb7⟩
      have B7 := btt B6 hb7
      obtain ⟨W8, hW8⟩ : ∃ W8, W8 = W7.alloc (.cells #[.int .i64 0, .slice none 0 0] 24) := ⟨_, rfl⟩
      obtain ⟨hb8, g0, g1, _⟩ := boxAdv hW8
      have B8 := btt B7 hb8
      have b68 := btt hb7 hb8
      obtain ⟨a0, a1⟩ := HK.out W8 B8
      rw [hW8] at a0 a1
      go_wp2_with fail
      rw [← hW8]
      replace hW8 := Lib.hid hW8
      clear a0 a1
      have KY := Lib.hid (fun X (hX1 : Below W8.heap.size W8 X) => And.intro (cell_kept hX1 g0) (cell_kept hX1 g1))
      clear g0 g1 hb7 hb8
      refine (H5.out W8 B8).mono ?_
      rintro e W9 ⟨rfl, hb9⟩
      have B9 := btt B8 hb9
      have b69 := btt b68 hb9
      obtain ⟨a0, a1⟩ := HK.out W9 B9
      go_wp2_with fail
      clear a0 a1
      refine (H6.out W9 B9).mono ?_
      rintro e W10 ⟨rfl, hb10⟩
      have B10 := btt B9 hb10
      have b610 := btt b69 hb10
      have b810 := btt hb9 hb10
      go_wp2_with fail
      refine (sameIntsR (Ints.nil W10 none 0) (Ints.nil W10 none 0)).mono ?_
      rintro e W11 ⟨rfl, hq⟩
      rw [show decide (([] : List Int) = []) = true by simp]
      have hb11 := hq.below
      have B11 := btt B10 hb11
      obtain ⟨x0', x1'⟩ := KX.out W11 (btt b610 hb11)
      obtain ⟨y0', y1'⟩ := KY.out W11 (btt b810 hb11)
      go_wp2_with fail
      refine (sameRef (advNil W11) (advNil W11)).mono ?_
      rintro e W12 ⟨rfl, hb12⟩
      rw [show (decide ((0 : Int) = 0) && decide (([] : List (List (List Int))) = [])) = true by simp]
      have B12 := btt B11 hb12
      clear x0' x1' y0' y1'
      go_wp2_with fail
      refine (awakeK W12 (bt hb1 B12 hb1.size) (Nat.le_trans hb1.size B12.size)).mono ?_
      rintro e W13 ⟨rfl, hb13⟩
      go_wp2
      go_ret
      exact ⟨rfl, hb13⟩
end Go.Proofs.YtfihpofdoffclaaGreatDoor

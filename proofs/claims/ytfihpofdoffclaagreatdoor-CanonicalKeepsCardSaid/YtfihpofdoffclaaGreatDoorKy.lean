/- Texts of this claim, put together: W3 X0 X1 N0 VA. -/
import Derived.Test.YtfihpofdoffclaaGreatDoorKx
import Derived.Test.YtfihpofdoffclaaGreatDoorKt
import Derived.Test.YtfihpofdoffclaaGreatDoorKu
import Derived.Test.YtfihpofdoffclaaGreatDoorKw
import Derived.Test.YtfihpofdoffclaaGreatDoorKp
import Derived.Test.YtfihpofdoffclaaGreatDoorKq
import Derived.Deep.OwnRows

/- awake. -/
namespace Go.Proofs.YtfihpofdoffclaaGreatDoor
open Go.RowKit

theorem AdvC.shape {w : World} {v : Value} {n : Int} {ss : List (List (List Int))} {k : Nat} (h : AdvC w v n ss) (hk : ss.length = k) : ∃ a c, v = .agg #[.int .i64 n, .slice a k c] := by
  obtain ⟨a, c, _, _, rfl, _⟩ := h; exact ⟨a, c, by rw [hk]⟩
theorem OwAdv.shape {w : World} {v : Value} {n : Int} {ss : List (List (List Int))} {k : Nat} (h : OwAdv w v n ss) (hk : ss.length = k) : ∃ a c, v = .agg #[.int .i64 n, .slice a k c] := by
  obtain ⟨sv, rfl, h1, _⟩ := h
  obtain ⟨a, c, rfl⟩ := h1.shape
  exact ⟨a, c, by rw [hk]⟩
theorem AdvC.addr {w : World} {a : Option Addr} {k c : Nat} {n : Int} {ss : List (List (List Int))} (h : AdvC w (.agg #[.int .i64 n, .slice a k c]) n ss) (h0 : 0 < ss.length) : ∃ b off, a = some ⟨b, off, none⟩ ∧ ∀ j, j < ss.length → ∃ ua uc, w.cell? ⟨b, off + j, none⟩ = some (.slice ua (ss.getD j []).length uc) ∧ KSC 8 w (.slice ua (ss.getD j []).length uc) (ss.getD j []) := by
  obtain ⟨a', c', b, off, h1, h2, h3, _⟩ := h
  injection h1 with h1
  have h4 := congrArg (fun x : Array Value => x[1]?) h1
  simp only [List.getElem?_toArray, List.getElem?_cons_succ, List.getElem?_cons_zero, Option.some.injEq, Value.slice.injEq] at h4
  obtain ⟨rfl, _, _⟩ := h4
  refine ⟨b, off, h2 h0, fun j hj => ?_⟩
  obtain ⟨u, k1, k2⟩ := h3 j hj
  obtain ⟨ua, uc, hu⟩ := k2.ks.shape
  subst hu
  exact ⟨ua, uc, k1, k2⟩
theorem disAt {w : World} {v : Value} (hA : AdvC w v 2 exA) {t : Nat} (ht : t < 3) {R : List (List Int)} (hR : dist exA 0 t = some R) :
    Calls Tryz.prog 23 #[v, .int .i64 0, .int .i64 (t : Int)] w fun e w' => ∃ u, e = .returned (.tuple #[u, .bool true, .int .i64 0]) ∧ OwX 79 7 EI w' w.heap.size u R.length R ∧ Below w.heap.size w w' := by
  have hO : ClsOK exA := clsOK_of hA.adv.len8 exA_ok (by decide) (by decide)
  have h := disGood hA.adv (by decide) exA_ok (s := 0) (t := t) (by decide) ht (R := some R) (fun W hb => by
    have h1 := distinguishA (hA.adv.keep hb) hO (ascL_of exA_ok) (s := 0) (t := t) (by decide) ht
    rw [hR] at h1; exact h1)
  exact h

set_option maxRecDepth 100000 in
set_option maxHeartbeats 3200000 in
theorem awakeCall {w : World} : Calls Tryz.prog 12 #[] w fun e w' => e = .returned (.bool true) ∧ Below w.heap.size w w' := by
  go_enter Tryz.func12, Tryz.ntmps12
  go_wp2_with fail
  refine exampleCall.mono ?_
  rintro e W1 ⟨a, b, rfl, hA, hB, hb1⟩
  obtain ⟨aa, ac, rfl⟩ := hA.shape (k := 3) rfl
  obtain ⟨ba, bc, rfl⟩ := hB.shape (k := 3) rfl
  unfold vS vC
  go_wp2_with fail
  generalize hW : World.alloc _ _ = W2
  have h0 : W2.heap[W1.heap.size]? = some (.cells #[.int .i64 2, .slice aa 3 ac] 24) := by rw [← hW]; repeat (first | (refine ha_new ?_; first | rfl | (simp only [World.size_alloc]; done)) | (refine ha_old ?_ ?_; · (simp only [World.size_alloc] <;> omega)))
  have h1 : W2.heap[W1.heap.size + 1]? = some (.cells #[.int .i64 2, .slice ba 3 bc] 24) := by rw [← hW]; repeat (first | (refine ha_new ?_; first | rfl | (simp only [World.size_alloc]; done)) | (refine ha_old ?_ ?_; · (simp only [World.size_alloc] <;> omega)))
  have h2 : W2.heap[W1.heap.size + 1 + 1]? = some (.cells #[.int .i64 2, .int .i64 1, .int .i64 2, .int .i64 0, .int .i64 0, .int .i64 0, .int .i64 0] 79) := by rw [← hW]; repeat (first | (refine ha_new ?_; first | rfl | (simp only [World.size_alloc]; done)) | (refine ha_old ?_ ?_; · (simp only [World.size_alloc] <;> omega)))
  have h3 : W2.heap[W1.heap.size + 1 + 1 + 1]? = some (.cells #[.int .i64 2, .int .i64 3, .int .i64 3, .int .i64 0, .int .i64 0, .int .i64 0, .int .i64 0] 79) := by rw [← hW]; repeat (first | (refine ha_new ?_; first | rfl | (simp only [World.size_alloc]; done)) | (refine ha_old ?_ ?_; · (simp only [World.size_alloc] <;> omega)))
  have hb2 : Below W1.heap.size W1 W2 := by rw [← hW]; repeat (first | exact Below.refl _ _ | (refine Below.alloc ?_ ?_ _; rotate_left; · (first | exact Nat.le_refl _ | (simp only [World.size_alloc] <;> omega))))
  clear hW
  have KA : Hid (∀ X, Below W2.heap.size W2 X → X.cell? ⟨W1.heap.size, 0, none⟩ = some (.int .i64 2) ∧ X.cell? ⟨W1.heap.size, 1, none⟩ = some (.slice aa 3 ac)) := fun X hX => ⟨cell_kept hX (by rw [cell_of_row _ _ 0 _ _ _ h0]; rfl), cell_kept hX (by rw [cell_of_row _ _ 1 _ _ _ h0]; rfl)⟩
  have KB : Hid (∀ X, Below W2.heap.size W2 X → X.cell? ⟨W1.heap.size + 1, 0, none⟩ = some (.int .i64 2) ∧ X.cell? ⟨W1.heap.size + 1, 1, none⟩ = some (.slice ba 3 bc)) := fun X hX => ⟨cell_kept hX (by rw [cell_of_row _ _ 0 _ _ _ h1]; rfl), cell_kept hX (by rw [cell_of_row _ _ 1 _ _ _ h1]; rfl)⟩
  have KT : Hid (∀ X, Below W2.heap.size W2 X → X.cell? ⟨W1.heap.size + 1 + 1, 0, none⟩ = some (.int .i64 2) ∧ X.cell? ⟨W1.heap.size + 1 + 1, 1, none⟩ = some (.int .i64 1) ∧ X.cell? ⟨W1.heap.size + 1 + 1, 2, none⟩ = some (.int .i64 2) ∧ X.cell? ⟨W1.heap.size + 1 + 1, 3, none⟩ = some (.int .i64 0) ∧ X.cell? ⟨W1.heap.size + 1 + 1, 4, none⟩ = some (.int .i64 0) ∧ X.cell? ⟨W1.heap.size + 1 + 1, 5, none⟩ = some (.int .i64 0) ∧ X.cell? ⟨W1.heap.size + 1 + 1, 6, none⟩ = some (.int .i64 0)) := fun X hX => ⟨cell_kept hX (by rw [cell_of_row _ _ 0 _ _ _ h2]; rfl), cell_kept hX (by rw [cell_of_row _ _ 1 _ _ _ h2]; rfl), cell_kept hX (by rw [cell_of_row _ _ 2 _ _ _ h2]; rfl), cell_kept hX (by rw [cell_of_row _ _ 3 _ _ _ h2]; rfl), cell_kept hX (by rw [cell_of_row _ _ 4 _ _ _ h2]; rfl), cell_kept hX (by rw [cell_of_row _ _ 5 _ _ _ h2]; rfl), cell_kept hX (by rw [cell_of_row _ _ 6 _ _ _ h2]; rfl)⟩
  have KC : Hid (∀ X, Below W2.heap.size W2 X → X.cell? ⟨W1.heap.size + 1 + 1 + 1, 0, none⟩ = some (.int .i64 2) ∧ X.cell? ⟨W1.heap.size + 1 + 1 + 1, 1, none⟩ = some (.int .i64 3) ∧ X.cell? ⟨W1.heap.size + 1 + 1 + 1, 2, none⟩ = some (.int .i64 3) ∧ X.cell? ⟨W1.heap.size + 1 + 1 + 1, 3, none⟩ = some (.int .i64 0) ∧ X.cell? ⟨W1.heap.size + 1 + 1 + 1, 4, none⟩ = some (.int .i64 0) ∧ X.cell? ⟨W1.heap.size + 1 + 1 + 1, 5, none⟩ = some (.int .i64 0) ∧ X.cell? ⟨W1.heap.size + 1 + 1 + 1, 6, none⟩ = some (.int .i64 0)) := fun X hX => ⟨cell_kept hX (by rw [cell_of_row _ _ 0 _ _ _ h3]; rfl), cell_kept hX (by rw [cell_of_row _ _ 1 _ _ _ h3]; rfl), cell_kept hX (by rw [cell_of_row _ _ 2 _ _ _ h3]; rfl), cell_kept hX (by rw [cell_of_row _ _ 3 _ _ _ h3]; rfl), cell_kept hX (by rw [cell_of_row _ _ 4 _ _ _ h3]; rfl), cell_kept hX (by rw [cell_of_row _ _ 5 _ _ _ h3]; rfl), cell_kept hX (by rw [cell_of_row _ _ 6 _ _ _ h3]; rfl)⟩
  clear h0 h1 h2 h3
  have hbw2 : Below w.heap.size w W2 := bt hb1 hb2 hb1.size
  have HA : Hid (∀ X, Below W2.heap.size W2 X → AdvC X (.agg #[.int .i64 2, .slice aa 3 ac]) 2 exA) := fun X hX => (hA.keep hb2).keep hX
  have HB : Hid (∀ X, Below W2.heap.size W2 X → AdvC X (.agg #[.int .i64 2, .slice ba 3 bc]) 2 exB) := fun X hX => (hB.keep hb2).keep hX
  clear hA hB hb1 hb2
  have B2 : Below W2.heap.size W2 W2 := Below.refl _ _
  refine (canonGood (HA.out W2 B2).adv (by decide) (by decide) exA_ok).mono ?_
  rintro e W3 ⟨x, rfl, hX, hb3⟩
  rw [exA_can] at hX
  obtain ⟨xa, xc, rfl⟩ := hX.shape (k := 3) rfl
  obtain ⟨W4, hW4⟩ : ∃ W4, W4 = W3.alloc (.cells #[.int .i64 2, .slice xa 3 xc] 24) := ⟨_, rfl⟩
  have hb34 : Below W3.heap.size W3 W4 := by rw [hW4]; exact (Below.refl _ _).alloc (Nat.le_refl _) _
  have hx4 : W4.heap[W3.heap.size]? = some (.cells #[.int .i64 2, .slice xa 3 xc] 24) := by rw [hW4]; exact heap_alloc_new _ _
  have B4 : Below W2.heap.size W2 W4 := btt hb3 hb34
  have hX4 := hX.keep hb34
  obtain ⟨ka0, ka1⟩ := KA.out W4 B4
  rw [hW4] at ka0 ka1
  go_wp2_with fail
  rw [← hW4]
  replace hW4 := Lib.hid hW4
  clear ka0 ka1
  have KX : Hid (∀ X, Below W4.heap.size W4 X → OwAdv X (.agg #[.int .i64 2, .slice xa 3 xc]) 2 exB ∧ X.cell? ⟨W3.heap.size, 0, none⟩ = some (.int .i64 2) ∧ X.cell? ⟨W3.heap.size, 1, none⟩ = some (.slice xa 3 xc)) := fun X hX => ⟨hX4.keep hX, cell_kept hX (by rw [cell_of_row _ _ 0 _ _ _ hx4]; rfl), cell_kept hX (by rw [cell_of_row _ _ 1 _ _ _ hx4]; rfl)⟩
  clear hX hX4 hx4 hb3 hb34
  refine (isGood (HA.out W4 B4).adv (by decide) (by decide) exA_ok).mono ?_
  rintro e W5 ⟨rfl, hb5⟩
  rw [show decide (exA = canS exA) = false by rw [exA_can]; decide]
  have B5 := btt B4 hb5
  obtain ⟨ka0, ka1⟩ := KA.out W5 B5
  go_wp2_with fail
  clear ka0 ka1
  refine (disAt (HA.out W5 B5) (t := 1) (by decide) exA_d1).mono ?_
  rintro e W6 ⟨u, rfl, hu, hb6⟩
  have B6 := btt B5 hb6
  obtain ⟨ua, uc, hus⟩ := hu.shape
  subst hus
  obtain ⟨ka0, ka1⟩ := KA.out W6 B6
  go_wp2_with fail
  clear ka0 ka1
  refine (disAt (HA.out W6 B6) (t := 2) (by decide) exA_d2).mono ?_
  rintro e W7 ⟨v, rfl, hv, hb7⟩
  have B7 := btt B6 hb7
  obtain ⟨va, vc, hvs⟩ := hv.shape
  subst hvs
  obtain ⟨kb0, kb1⟩ := KB.out W7 B7
  go_wp2_with fail
  clear kb0 kb1
  have hOB : ClsOK exB := clsOK_of (HB.out W7 B7).adv.len8 exB_ok (by decide) (by decide)
  refine (proveA (HB.out W7 B7).adv hOB exB_ok (by decide)).mono ?_
  rintro e W8 ⟨pr, rfl, hp, hb8⟩
  simp only [exB_min, exB_prv, if_true] at hp ⊢
  clear hOB
  have B8 := btt B7 hb8
  obtain ⟨pa, pc, hps⟩ := hp.shape
  subst hps
  have hb48 : Below W4.heap.size W4 W8 := ((hb5.trans (hb6.mono hb5.size)).trans (hb7.mono (Nat.le_trans hb5.size hb6.size))).trans (hb8.mono (Nat.le_trans (Nat.le_trans hb5.size hb6.size) hb7.size))
  obtain ⟨hX8, x0, x1⟩ := KX.out W8 hb48
  obtain ⟨kb0, kb1⟩ := KB.out W8 B8
  obtain ⟨kt0, kt1, kt2, kt3, kt4, kt5, kt6⟩ := KT.out W8 B8
  have HU : Hid (∀ X, Below W8.heap.size W8 X → KS 7 X (.slice ua ([rS, rS] : List (List Int)).length uc) [rS, rS]) := fun X hX => (OwX.keep (EI.stab _) (OwX.keep (EI.stab _) hu (btt hb7 hb8)) hX).ks (by decide)
  have HV : Hid (∀ X, Below W8.heap.size W8 X → KS 7 X (.slice va ([rS] : List (List Int)).length vc) [rS]) := fun X hX => (OwX.keep (EI.stab _) (OwX.keep (EI.stab _) hv hb8) hX).ks (by decide)
  have HP : Hid (∀ X, Below W8.heap.size W8 X → KSS 7 X (.slice pa exP.length pc) exP) := fun X hX => (OwX.keep (EWd.stab (by decide)) hp hX).kss7 (by decide) (by decide)
  clear hu hv hp hb5 hb6 hb7 hb8 hb48
  change OwAdv W8 _ 2 exB at hX8
  go_wp2_with fail
  refine (sameRef hX8.adv (HB.out W8 B8).adv).mono ?_
  rintro e W9 ⟨rfl, hb9⟩
  rw [show (decide ((2 : Int) = 2) && decide (exB = exB)) = true by decide]
  have B9 := btt B8 hb9
  clear kb0 kb1 kt0 kt1 kt2 kt3 kt4 kt5 kt6
  clear x0 x1 hX8
  obtain ⟨kt0, kt1, kt2, kt3, kt4, kt5, kt6⟩ := KT.out W9 B9
  go_wp2_with fail
  obtain ⟨X1, hX1⟩ : ∃ X1, X1 = W9.alloc (.cells #[.int .i64 2, .int .i64 1, .int .i64 2, .int .i64 0, .int .i64 0, .int .i64 0, .int .i64 0, .int .i64 2, .int .i64 1, .int .i64 2, .int .i64 0, .int .i64 0, .int .i64 0, .int .i64 0] 79) := ⟨_, rfl⟩
  rw [← hX1]
  have hrX1 : X1.heap[W9.heap.size]? = some (.cells #[.int .i64 2, .int .i64 1, .int .i64 2, .int .i64 0, .int .i64 0, .int .i64 0, .int .i64 0, .int .i64 2, .int .i64 1, .int .i64 2, .int .i64 0, .int .i64 0, .int .i64 0, .int .i64 0] 79) := by rw [hX1]; exact heap_alloc_new _ _
  have haX1 : Below W9.heap.size W9 X1 := by rw [hX1]; exact (Below.refl _ _).alloc (Nat.le_refl _) _
  replace hX1 := Lib.hid hX1
  have b8X1 : Below W8.heap.size W8 X1 := btt hb9 haX1
  have kX1 := (KSC.row (k := 7) (xs := [rS, rS]) hrX1 (by decide) rfl (by decide)).ks
  refine (eqRds (HU.out X1 b8X1) kX1).mono ?_
  rintro e X2 ⟨rfl, hqX1⟩
  rw [show decide (([rS, rS] : List (List Int)) = [rS, rS]) = true by decide]
  have b8X2 := btt b8X1 hqX1.below
  have BX2 := btt (btt B9 haX1) hqX1.below
  clear hrX1 haX1 kX1 hqX1
  clear kt0 kt1 kt2 kt3 kt4 kt5 kt6
  obtain ⟨kt0, kt1, kt2, kt3, kt4, kt5, kt6⟩ := KT.out X2 BX2
  go_wp2_with fail
  obtain ⟨X3, hX3⟩ : ∃ X3, X3 = X2.alloc (.cells #[.int .i64 2, .int .i64 1, .int .i64 2, .int .i64 0, .int .i64 0, .int .i64 0, .int .i64 0] 79) := ⟨_, rfl⟩
  rw [← hX3]
  have hrX3 : X3.heap[X2.heap.size]? = some (.cells #[.int .i64 2, .int .i64 1, .int .i64 2, .int .i64 0, .int .i64 0, .int .i64 0, .int .i64 0] 79) := by rw [hX3]; exact heap_alloc_new _ _
  have haX3 : Below X2.heap.size X2 X3 := by rw [hX3]; exact (Below.refl _ _).alloc (Nat.le_refl _) _
  replace hX3 := Lib.hid hX3
  have b8X3 : Below W8.heap.size W8 X3 := btt b8X2 haX3
  have kX3 := (KSC.row (k := 7) (xs := [rS]) hrX3 (by decide) rfl (by decide)).ks
  refine (eqRds (HV.out X3 b8X3) kX3).mono ?_
  rintro e X4 ⟨rfl, hqX3⟩
  rw [show decide (([rS] : List (List Int)) = [rS]) = true by decide]
  have b8X4 := btt b8X3 hqX3.below
  have BX4 := btt (btt BX2 haX3) hqX3.below
  clear hrX3 haX3 kX3 hqX3
  clear kt0 kt1 kt2 kt3 kt4 kt5 kt6
  obtain ⟨ka0, ka1⟩ := KA.out X4 BX4
  obtain ⟨kc0, kc1, kc2, kc3, kc4, kc5, kc6⟩ := KC.out X4 BX4
  obtain ⟨ra, ro, haa, hrows⟩ := (HA.out X4 BX4).addr (by decide)
  subst haa
  obtain ⟨u0a, u0c, g0, k0⟩ := hrows 0 (by decide)
  obtain ⟨u1a, u1c, g1, k1⟩ := hrows 1 (by decide)
  rw [Nat.add_zero] at g0
  change X4.cell? _ = some (.slice u0a 2 u0c) at g0
  change X4.cell? _ = some (.slice u1a 2 u1c) at g1
  clear hrows
  go_upto_region 9 with fail
  refine moreLaw ka1 g0 g1 kc0 kc1 kc2 kc3 kc4 kc5 kc6 ?_
  intro bm g gg X5 y95 y96 y97 y98 y99 y100 y101 y102 y103 y104 y105 y106 y107 y108 y109 y110 y111 m0 m1 m2 hm
  have BX5 := btt BX4 hm
  have b8X5 := btt b8X4 hm
  have hM : AdvC X5 (.agg #[.int .i64 2, .slice (some ⟨g, 0, none⟩) 4 4]) 2 exM := by
    refine ⟨_, _, g, 0, rfl, fun _ => rfl, fun j hj => ?_, by decide⟩
    rw [Nat.zero_add, cell_of_row _ _ _ _ _ _ m1]
    match j, hj with
    | 0, _ => exact ⟨_, rfl, k0.keep hm⟩
    | 1, _ => exact ⟨_, rfl, k1.keep hm⟩
    | 2, _ => exact ⟨_, rfl, KSC.row (k := 8) (xs := exM.getD 2 []) m2 (by decide) rfl (by decide)⟩
    | 3, _ => exact ⟨_, rfl, k1.keep hm⟩
    | _ + 4, hj => exact absurd hj (by show ¬ _ < 4; omega)
  have c0 : X5.cell? ⟨bm, 0, none⟩ = some (.int .i64 2) := by rw [cell_of_row _ _ 0 _ _ _ m0]; rfl
  have c1 : X5.cell? ⟨bm, 1, none⟩ = some (.slice (some ⟨g, 0, none⟩) 4 4) := by rw [cell_of_row _ _ 1 _ _ _ m0]; rfl
  clear ka0 ka1 kc0 kc1 kc2 kc3 kc4 kc5 kc6
  clear m0 m1 m2 k0 k1 g0 g1 hm BX4 b8X4 b8X3 b8X2 b8X1 BX2
  have HM : Hid (∀ X, Below X5.heap.size X5 X → AdvC X (.agg #[.int .i64 2, .slice (some ⟨g, 0, none⟩) 4 4]) 2 exM) := fun X hX => hM.keep hX
  go_wp2_with fail
  refine (classesGood hM.adv (by decide) (by decide) exM_ok).mono ?_
  rintro e X6 ⟨cu, rfl, hcl, hb6⟩
  rw [exM_part] at hcl
  have d0 := cell_kept hb6 c0
  have d1 := cell_kept hb6 c1
  have BX6 := btt BX5 hb6
  have b8X6 := btt b8X5 hb6
  obtain ⟨cua, cuc, hcus⟩ := hcl.shape
  subst hcus
  obtain ⟨ka0, ka1⟩ := KA.out X6 BX6
  clear c0 c1 hM
  go_wp2_with fail
  refine (equalA (HA.out X6 BX6).adv (HM.out X6 hb6).adv (by decide) (by decide) (by decide) (by decide)).mono ?_
  rintro e X7 ⟨rfl, hb7⟩
  rw [show eqRes 2 2 exA exM = true by decide +kernel, show eqErr 2 2 exA exM = 0 by decide +kernel]
  have BX7 := btt BX6 hb7
  have b8X7 := btt b8X6 hb7
  have hcl7 := hcl.keep hb7
  clear ka0 ka1
  clear d0 d1 hcl hb6 BX6 b8X6 b8X5 BX5
  go_wp2_with fail
  obtain ⟨X8, hX8⟩ : ∃ X8, X8 = X7.alloc (.cells #[.int .i64 0, .int .i64 1, .int .i64 2, .int .i64 1] 3) := ⟨_, rfl⟩
  rw [← hX8]
  have hr8 : X8.heap[X7.heap.size]? = some (.cells #[.int .i64 0, .int .i64 1, .int .i64 2, .int .i64 1] 3) := by rw [hX8]; exact heap_alloc_new _ _
  have ha8 : Below X7.heap.size X7 X8 := by rw [hX8]; exact (Below.refl _ _).alloc (Nat.le_refl _) _
  replace hX8 := Lib.hid hX8
  have hi8 : Ints X8 (.slice (some ⟨X7.heap.size, 0, none⟩) 4 4) [0, 1, 2, 1] := by
    refine ⟨_, _, X7.heap.size, 0, rfl, fun _ => rfl, fun j hj => ?_, by decide⟩
    rw [Nat.zero_add, cell_of_row _ _ _ _ _ _ hr8]
    match j, hj with
    | 0, _ => rfl
    | 1, _ => rfl
    | 2, _ => rfl
    | 3, _ => rfl
    | _ + 4, hj => exact absurd hj (by show ¬ _ < 4; omega)
  have hcl8 : Ints X8 (.slice cua exM.length cuc) [0, 1, 2, 1] := (hcl7.keep ha8).ints (by decide)
  refine (eqInts hcl8 hi8).mono ?_
  rintro e X9 ⟨rfl, hq9⟩
  rw [show decide (([0, 1, 2, 1] : List Int) = [0, 1, 2, 1]) = true by decide]
  have BX9 := btt (btt BX7 ha8) hq9.below
  have b8X9 := btt (btt b8X7 ha8) hq9.below
  clear hr8 ha8 hi8 hcl8 hq9 hcl7 BX7 b8X7 hb7
  obtain ⟨kt0, kt1, kt2, kt3, kt4, kt5, kt6⟩ := KT.out X9 BX9
  obtain ⟨kc0, kc1, kc2, kc3, kc4, kc5, kc6⟩ := KC.out X9 BX9
  have hz2 := World.block_lt_of_cell? X9 _ kt0
  change W1.heap.size + 1 + 1 < X9.heap.size at hz2
  have hz2_1 : W1.heap.size + 1 + 1 < X9.heap.size + 1 := by omega
  have hz2_2 : W1.heap.size + 1 + 1 < X9.heap.size + 1 + 1 := by omega
  have hz2_3 : W1.heap.size + 1 + 1 < X9.heap.size + 1 + 1 + 1 := by omega
  have hz2_4 : W1.heap.size + 1 + 1 < X9.heap.size + 1 + 1 + 1 + 1 := by omega
  have hz2_5 : W1.heap.size + 1 + 1 < X9.heap.size + 1 + 1 + 1 + 1 + 1 := by omega
  have hn2_0 : W1.heap.size + 1 + 1 ≠ X9.heap.size := by omega
  have hn2_1 : W1.heap.size + 1 + 1 ≠ X9.heap.size + 1 := by omega
  have hn2_2 : W1.heap.size + 1 + 1 ≠ X9.heap.size + 1 + 1 := by omega
  have hn2_3 : W1.heap.size + 1 + 1 ≠ X9.heap.size + 1 + 1 + 1 := by omega
  have hn2_4 : W1.heap.size + 1 + 1 ≠ X9.heap.size + 1 + 1 + 1 + 1 := by omega
  have hn2_5 : W1.heap.size + 1 + 1 ≠ X9.heap.size + 1 + 1 + 1 + 1 + 1 := by omega
  have hz3 := World.block_lt_of_cell? X9 _ kc0
  change W1.heap.size + 1 + 1 + 1 < X9.heap.size at hz3
  have hz3_1 : W1.heap.size + 1 + 1 + 1 < X9.heap.size + 1 := by omega
  have hz3_2 : W1.heap.size + 1 + 1 + 1 < X9.heap.size + 1 + 1 := by omega
  have hz3_3 : W1.heap.size + 1 + 1 + 1 < X9.heap.size + 1 + 1 + 1 := by omega
  have hz3_4 : W1.heap.size + 1 + 1 + 1 < X9.heap.size + 1 + 1 + 1 + 1 := by omega
  have hz3_5 : W1.heap.size + 1 + 1 + 1 < X9.heap.size + 1 + 1 + 1 + 1 + 1 := by omega
  have hn3_0 : W1.heap.size + 1 + 1 + 1 ≠ X9.heap.size := by omega
  have hn3_1 : W1.heap.size + 1 + 1 + 1 ≠ X9.heap.size + 1 := by omega
  have hn3_2 : W1.heap.size + 1 + 1 + 1 ≠ X9.heap.size + 1 + 1 := by omega
  have hn3_3 : W1.heap.size + 1 + 1 + 1 ≠ X9.heap.size + 1 + 1 + 1 := by omega
  have hn3_4 : W1.heap.size + 1 + 1 + 1 ≠ X9.heap.size + 1 + 1 + 1 + 1 := by omega
  have hn3_5 : W1.heap.size + 1 + 1 + 1 ≠ X9.heap.size + 1 + 1 + 1 + 1 + 1 := by omega
  go_wp2_with fail
  generalize hW : World.alloc _ _ = Y
  have l0 : Y.heap[X9.heap.size]? = some (.cells #[.int .i64 2, .int .i64 1, .int .i64 2, .int .i64 0, .int .i64 0, .int .i64 0, .int .i64 0] 79) := by rw [← hW]; repeat (first | (refine ha_new ?_; first | rfl | (simp only [World.size_alloc]; done)) | (refine ha_old ?_ ?_; · (simp only [World.size_alloc] <;> omega)))
  have l1 : Y.heap[X9.heap.size + 1]? = some (.cells #[.int .i64 2, .int .i64 3, .int .i64 3, .int .i64 0, .int .i64 0, .int .i64 0, .int .i64 0] 79) := by rw [← hW]; repeat (first | (refine ha_new ?_; first | rfl | (simp only [World.size_alloc]; done)) | (refine ha_old ?_ ?_; · (simp only [World.size_alloc] <;> omega)))
  have l2 : Y.heap[X9.heap.size + 1 + 1]? = some (.cells #[.int .i64 2, .int .i64 1, .int .i64 2, .int .i64 0, .int .i64 0, .int .i64 0, .int .i64 0] 79) := by rw [← hW]; repeat (first | (refine ha_new ?_; first | rfl | (simp only [World.size_alloc]; done)) | (refine ha_old ?_ ?_; · (simp only [World.size_alloc] <;> omega)))
  have l3 : Y.heap[X9.heap.size + 1 + 1 + 1]? = some (.cells #[.int .i64 2, .int .i64 1, .int .i64 2, .int .i64 0, .int .i64 0, .int .i64 0, .int .i64 0, .int .i64 2, .int .i64 1, .int .i64 2, .int .i64 0, .int .i64 0, .int .i64 0, .int .i64 0] 79) := by rw [← hW]; repeat (first | (refine ha_new ?_; first | rfl | (simp only [World.size_alloc]; done)) | (refine ha_old ?_ ?_; · (simp only [World.size_alloc] <;> omega)))
  have l4 : Y.heap[X9.heap.size + 1 + 1 + 1 + 1]? = some (.cells #[.int .i64 2, .int .i64 1, .int .i64 2, .int .i64 0, .int .i64 0, .int .i64 0, .int .i64 0] 79) := by rw [← hW]; repeat (first | (refine ha_new ?_; first | rfl | (simp only [World.size_alloc]; done)) | (refine ha_old ?_ ?_; · (simp only [World.size_alloc] <;> omega)))
  have l5 : Y.heap[X9.heap.size + 1 + 1 + 1 + 1 + 1]? = some (.cells #[.slice (some ⟨X9.heap.size, 0, none⟩) 1 1, .slice (some ⟨X9.heap.size + 1, 0, none⟩) 1 1, .slice (some ⟨X9.heap.size + 1 + 1, 0, none⟩) 1 1, .slice (some ⟨X9.heap.size + 1 + 1 + 1, 0, none⟩) 2 2, .slice (some ⟨X9.heap.size + 1 + 1 + 1 + 1, 0, none⟩) 1 1] 45) := by rw [← hW]; repeat (first | (refine ha_new ?_; first | rfl | (simp only [World.size_alloc]; done)) | (refine ha_old ?_ ?_; · (simp only [World.size_alloc] <;> omega)))
  have haY : Below X9.heap.size X9 Y := by rw [← hW]; repeat (first | exact Below.refl _ _ | (refine Below.alloc ?_ ?_ _; rotate_left; · (first | exact Nat.le_refl _ | (simp only [World.size_alloc] <;> omega))))
  clear hW
  clear hz2 hz2_1 hz2_2 hz2_3 hz2_4 hz2_5 hn2_0 hn2_1 hn2_2 hn2_3 hn2_4 hn2_5
  clear hz3 hz3_1 hz3_2 hz3_3 hz3_4 hz3_5 hn3_0 hn3_1 hn3_2 hn3_3 hn3_4 hn3_5
  clear kt0 kt1 kt2 kt3 kt4 kt5 kt6 kc0 kc1 kc2 kc3 kc4 kc5 kc6
  have hlit : KSS 7 Y (.slice (some ⟨X9.heap.size + 1 + 1 + 1 + 1 + 1, 0, none⟩) 5 5) exP := by
    refine ⟨_, _, X9.heap.size + 1 + 1 + 1 + 1 + 1, 0, rfl, fun _ => rfl, fun j hj => ?_, by decide⟩
    rw [Nat.zero_add, cell_of_row _ _ _ _ _ _ l5]
    match j, hj with
    | 0, _ => exact ⟨_, rfl, (KSC.row (k := 7) (xs := exP.getD 0 []) l0 (by decide) rfl (by decide)).ks⟩
    | 1, _ => exact ⟨_, rfl, (KSC.row (k := 7) (xs := exP.getD 1 []) l1 (by decide) rfl (by decide)).ks⟩
    | 2, _ => exact ⟨_, rfl, (KSC.row (k := 7) (xs := exP.getD 2 []) l2 (by decide) rfl (by decide)).ks⟩
    | 3, _ => exact ⟨_, rfl, (KSC.row (k := 7) (xs := exP.getD 3 []) l3 (by decide) rfl (by decide)).ks⟩
    | 4, _ => exact ⟨_, rfl, (KSC.row (k := 7) (xs := exP.getD 4 []) l4 (by decide) rfl (by decide)).ks⟩
    | _ + 5, hj => exact absurd hj (by show ¬ _ < 5; omega)
  have BY := btt BX9 haY
  have b8Y := btt b8X9 haY
  clear l0 l1 l2 l3 l4 l5 haY
  refine (sameWords (HP.out Y b8Y) hlit).mono ?_
  rintro e Z ⟨rfl, hqZ⟩
  rw [show decide (exP = exP) = true by decide]
  have BZ := btt BY hqZ.below
  have b8Z := btt b8Y hqZ.below
  clear hqZ hlit
  obtain ⟨kb0, kb1⟩ := KB.out Z BZ
  go_wp2_with fail
  refine (verifyCall (HB.out Z BZ).adv (by decide) (by decide) (HP.out Z b8Z)).mono ?_
  rintro e ZZ ⟨rfl, hbz⟩
  rw [exB_ver]
  have hfin := bt hbw2 (btt BZ hbz) hbw2.size
  go_wp2_with fail
  go_ret
  exact ⟨rfl, hfin⟩
end Go.Proofs.YtfihpofdoffclaaGreatDoor

/- The law CanonicalCompares. -/
namespace Go.Proofs.YtfihpofdoffclaaGreatDoor
open Go.RowKit

theorem awakeK {w0 : World} {B : Nat} (w : World) (h : Below B w0 w) (hB : B ≤ w.heap.size) : Calls Tryz.prog 12 #[] w fun e w' => e = .returned (.bool true) ∧ Below B w0 w' := awakeCall.mono fun _ _ ⟨h1, h2⟩ => ⟨h1, bt h h2 hB⟩
end Go.Proofs.YtfihpofdoffclaaGreatDoor

/- The law CanonicalForms. -/
namespace Go.Proofs.YtfihpofdoffclaaGreatDoor
open Go.RowKit

theorem OwAdv.shape' {w : World} {v : Value} {n : Int} {ss : List (List (List Int))} (h : OwAdv w v n ss) : ∃ a c, v = .agg #[.int .i64 n, .slice a ss.length c] := h.shape rfl
end Go.Proofs.YtfihpofdoffclaaGreatDoor

/- The law's own function split. -/
namespace Go.Proofs.YtfihpofdoffclaaGreatDoor
open Go.RowKit

/-- A slice value of bytes. -/
def U8s (w : World) (v : Value) (ps : List Int) : Prop :=
  ∃ a c b off, v = .slice a ps.length c ∧ (0 < ps.length → a = some ⟨b, off, none⟩) ∧ (∀ j, j < ps.length → w.cell? ⟨b, off + j, none⟩ = some (.int .u8 (ps.getD j 0))) ∧ (∀ x ∈ ps, 0 ≤ x ∧ x ≤ 255) ∧ ps.length ≤ 140737488355328
theorem U8s.keep {w w' : World} {v : Value} {ps : List Int} (h : U8s w v ps) (hb : Below w.heap.size w w') : U8s w' v ps := by
  obtain ⟨a, c, b, off, hv, ha, hc, hl⟩ := h
  exact ⟨a, c, b, off, hv, ha, fun j hj => cell_kept hb (hc j hj), hl⟩
/-- A store of a one-cell element. -/
theorem OwX.store1 {α : Type} {E : TypeId} {El : World → List Value → α → Prop} (hS : Stab E El) {w : World} {B g n cap : Nat} {xs : List α} (h : OwX E 1 El w B (.slice (some ⟨g, 0, none⟩) n cap) n xs) {j : Nat} (hj : j < n) {u : Value} (hu : u.oneCell' = true) {x : α} (hEl : El w [u] x) :
    OwX E 1 El (w.setCell ⟨g, j, none⟩ u) B (.slice (some ⟨g, 0, none⟩) n cap) n (xs.set j x) ∧ w.grownBy (w.setCell ⟨g, j, none⟩ u) (some g) := by
  obtain ⟨vs, h1, h2, h3, h4⟩ := h
  obtain ⟨k1, k2⟩ := World.ownsRow.stored h1 j u
  have hX := KeepX.grown k2 (ownsRow_ty h1)
  have hvl : vs.length = n := by have := h1.1; simpa using this
  refine ⟨⟨vs.set j u, k1, by rw [List.length_set]; exact h2, fun y hy => ?_, fun i y hi => ?_⟩, k2⟩
  · rcases List.mem_or_eq_of_mem_set hy with hy | rfl
    · exact h3 y hy
    · exact hu
  · have hil : i < xs.length := by
      have := (List.getElem?_eq_some_iff.1 hi).1
      rwa [List.length_set] at this
    rw [Nat.mul_one]
    have e1 : ((vs.set j u).drop i).take 1 = [(vs.set j u)[i]'(by rw [List.length_set]; omega)] := by
      rw [List.drop_eq_getElem_cons (by rw [List.length_set]; omega), List.take_succ_cons, List.take_zero]
    rw [e1]
    by_cases e : i = j
    · subst e
      rw [List.getElem?_set_self (by omega)] at hi
      injection hi with hi
      subst hi
      rw [List.getElem_set_self]
      exact hS _ _ _ _ hEl hX
    · rw [List.getElem?_set_ne (fun h => e h.symm)] at hi
      rw [List.getElem_set_ne (fun h => e h.symm)]
      have h5 := h4 i y hi
      rw [Nat.mul_one, List.drop_eq_getElem_cons (by omega), List.take_succ_cons, List.take_zero] at h5
      exact hS _ _ _ _ h5 hX
end Go.Proofs.YtfihpofdoffclaaGreatDoor

/- slices.Compact at rows of ints (as lists of one number). -/
namespace Go.Proofs.YtfihpofdoffclaaGreatDoor
open Go.RowKit

theorem one1 {x : List Int} (h : x.length = 1) : ∃ a, x = [a] := by
  match x, h with
  | [a], _ => exact ⟨a, rfl⟩
theorem CI.all1 {w : World} {b o : Nat} {x0 : Int} (h : CI w b o [x0]) : w.cell? ⟨b, o, none⟩ = some (.int .i64 x0) := h 0 (by simp)
/-- The head of a row, when its tail is set to something else. -/
theorem OwX.setTail1 {w : World} {B g n cap m : Nat} {xs : List (List Int)} (h : OwX 3 1 EI w B (.slice (some ⟨g, 0, none⟩) n cap) n xs) (hm : m ≤ n) (vs : List Value) :
    OwX 3 1 EI (w.setCells g (m * 1) vs) B (.slice (some ⟨g, 0, none⟩) m cap) m (xs.take m) ∧ Below B w (w.setCells g (m * 1) vs) ∧ KeepX 3 w (w.setCells g (m * 1) vs) := by
  have hl := h.length
  obtain ⟨ws, h1, h2, h3, h4⟩ := h
  rcases h1.2 with ⟨h0, _⟩ | ⟨g', cap', cur, he, hB, hg, hc1, hc2, hc3, hc4⟩
  · cases h0
  · injection he with he1 he2 he3
    injection he1 with he1
    injection he1 with he1
    subst he1 he3
    obtain ⟨cur', k1, k2, k3, k4, k5, k6, k7, k8⟩ := setCells_row vs (m * 1) w cur hg
    have hmn : m * 1 ≤ n * 1 := Nat.mul_le_mul_right _ hm
    have hwl : ws.length = n * 1 := h1.1
    have hws : cur'.toList.take (m * 1) = ws.take (m * 1) := by
      rw [k3, ← hc4, List.take_take, Nat.min_eq_left hmn]
    refine ⟨⟨ws.take (m * 1), ⟨by rw [List.length_take]; omega, .inr ⟨g, cap, cur', rfl, hB, k1, by omega, hc2, by rw [k2]; exact hc3, hws⟩⟩, by rw [List.length_take]; omega, fun u hu => h3 u (List.mem_of_mem_take hu), fun j x hj => ?_⟩, ⟨k6, k7, k8, by rw [k5]; exact Nat.le_refl _, fun k hk => k4 k (by omega)⟩, fun k cs t hk ht => k4 k fun e => ?_⟩
    · rw [List.getElem?_take] at hj
      split at hj
      · rename_i hjm
        have := h4 j x hj
        have hjm7 : j * 1 + 1 ≤ m * 1 := by rw [← Nat.succ_mul]; exact Nat.mul_le_mul_right _ hjm
        show _ = _
        rw [List.drop_take, List.take_take, Nat.min_eq_left (by omega)]
        exact this
      · cases hj
    · subst e
      rw [hg] at hk
      injection hk with hk
      injection hk with _ hk
      exact ht hk.symm
set_option maxRecDepth 100000 in
set_option maxHeartbeats 3200000 in
theorem compactInt {w : World} {B g n cap : Nat} {xs : List (List Int)} (h : OwX 3 1 EI w B (.slice (some ⟨g, 0, none⟩) n cap) n xs) (hn : n ≤ 1000) :
    Calls Tryz.prog 42 #[.slice (some ⟨g, 0, none⟩) n cap] w fun e w' => ∃ m, e = .returned (.slice (some ⟨g, 0, none⟩) m cap) ∧ OwX 3 1 EI w' B (.slice (some ⟨g, 0, none⟩) m cap) m (cmpc xs) ∧ Below B w w' ∧ KeepX 3 w w' := by
  have hl := h.length
  have hB : B ≤ g := by
    obtain ⟨_, h1, _⟩ := h
    exact (World.ownsRow.lt h1 g rfl).1
  have hnc : n ≤ cap ∧ (cap : Int) ≤ 9223372036854775807 := by
    obtain ⟨_, h1, _⟩ := h
    rcases h1.2 with ⟨h0, _⟩ | ⟨g', cap', cur, he, _, _, hc1, hc2, _⟩
    · cases h0
    · injection he with _ _ he3
      subst he3
      unfold maxLen at hc2
      exact ⟨hc1, by omega⟩
  obtain ⟨hnc1, hnc2⟩ := hnc
  have hxl : ∀ j, j < n → (xs.getD j []).length = 1 := fun j hj => (h.intCells hj).1
  have hcells := Lib.hid (fun j (hj : j < n) => OwX.intCells h hj)
  have hh := Lib.hid h
  have hlh := Lib.hid hl
  have hxlh := Lib.hid hxl
  clear h hl hxl
  have hfin0 : Hid (∀ q, cmpc (xs.take n) = xs.take n → OwX 3 1 EI (w.drewN q) B (.slice (some ⟨g, 0, none⟩) n cap) n (cmpc xs)) := fun q hq => by
    rw [List.take_of_length_le (by rw [hlh.out]; exact Nat.le_refl _)] at hq
    rw [hq]
    exact hh.out.keep (EI.stab _) (below_drewN (Below.refl _ w) q)
  have hBw : Hid (∀ q, Below B w (w.drewN q) ∧ KeepX 3 w (w.drewN q)) := fun q => ⟨below_drewN (Below.refl _ w) q, KeepX.below (below_drewN (Below.refl _ w) q)⟩
  by_cases h2 : n < 2
  · have hall : Hid (cmpc (xs.take n) = xs.take n) := by
      show _ = _
      have : n = 0 ∨ n = 1 := by omega
      rcases this with rfl | rfl
      · simp [cmpc]
      · match xs, hlh.out with
        | [x], _ => simp [cmpc]
    have hd : decide ((n : Int) < 2) = true := decide_eq_true (by omega)
    go_enter Tryz.func42, Tryz.ntmps42
    go_wp2
    go_ret
    exact ⟨n, rfl, hfin0.out 0 hall.out, (hBw.out 0).1, (hBw.out 0).2⟩
  · have hd : decide ((n : Int) < 2) = false := decide_eq_false (by omega)
    have h1 : Hid (cmpc (xs.take (0 + 1)) = xs.take (0 + 1)) := by
      show _ = _
      match xs, hlh.out with
      | x :: r, _ => simp [cmpc]
      | [], h => simp at h; omega
    go_enter Tryz.func42, Tryz.ntmps42
    go_wp2_with fail
    go_loopg [3] n (fun f kv wr => ∃ p q : Nat, kv = .int .i64 ((p : Int) + 1) ∧ p + 1 ≤ n ∧ n ≤ p + 1 + f ∧ wr = w.drewN q ∧ Hid (cmpc (xs.take (p + 1)) = xs.take (p + 1)))
    case atStart => exact ⟨0, 0, rfl, by omega, by omega, rfl, h1⟩
    case round =>
      clear h1
      obtain ⟨p, q, rfl, hp, hpf, rfl, hc⟩ := hrel
      by_cases hlt : p + 1 < n
      · obtain ⟨f, rfl⟩ : ∃ f, gk = f + 1 := ⟨gk - 1, by omega⟩
        obtain ⟨hx7, hxc⟩ := hcells.out (p + 1) hlt
        obtain ⟨hy7, hyc⟩ := hcells.out p (by omega)
        rw [Nat.mul_one] at hxc hyc
        obtain ⟨x, hx⟩ : ∃ x, xs.getD (p + 1) [] = x := ⟨_, rfl⟩
        obtain ⟨y, hy⟩ : ∃ y, xs.getD p [] = y := ⟨_, rfl⟩
        have htk := cmpc_take (xs := xs) (m := p) (by rw [hlh.out]; exact hlt)
        rw [hx, hy] at htk
        rw [hx] at hx7 hxc
        rw [hy] at hy7 hyc
        obtain ⟨x0, rfl⟩ := one1 hx7
        obtain ⟨y0, rfl⟩ := one1 hy7
        have c0 := hxc.all1
        have d0 := hyc.all1
        have hix1 : (p : Int) + 1 < (n : Int) := by omega
        have hix0 : (0 : Int) ≤ (p : Int) := by omega
        have hix2 : (0 : Int) ≤ (p : Int) + 1 := by omega
        have hix3 : (p : Int) < (n : Int) := by omega
        have hwr : IntKind.i64.wrap ((p : Int) + 1 - 1) = (p : Int) := by rw [show (p : Int) + 1 - 1 = (p : Int) by omega]; exact IntWalk.i64_in _ (by omega)
        have htn : ((p : Int) + 1).toNat = p + 1 := by omega
        have hty := hy
        have hxt := hx
        clear hxc hyc hx7 hy7 hx hy
        by_cases he : [x0] = [y0]
        · have hE : (x0 == y0) = true := by simpa using he
          have hE2 : (x0 != y0) = false := by simpa using he
          rw [if_pos he.symm, hc.out] at htk
          have htk := Lib.hid htk
          replace hty := Lib.hid hty
          clear he hc hxt
          go_wp2_with fail
          go_quiet (fail)
          go_wp2_with fail
          obtain ⟨N2, hN2⟩ : ∃ N2, n - (p + 1) = N2 := ⟨_, rfl⟩
          obtain ⟨C2, hC2⟩ : ∃ C2, cap - (p + 1) = C2 := ⟨_, rfl⟩
          rw [hN2, hC2]
          have hnN : n = p + 1 + N2 := by omega
          replace hC2 := Lib.hid hC2
          replace hN2 := Lib.hid hN2
          have hnNh := Lib.hid hnN
          have hN2i : (1 : Int) ≤ (N2 : Int) := by omega
          have hs0 : Hid (xs.take (p + 1) = cmpc (xs.take (p + 1 + (0 + 1)))) := htk.out.symm
          have hO0 : OwX 3 1 EI (w.drewN (q + nq)) B (.slice (some ⟨g, 0, none⟩) n cap) n xs := hh.out
          have hb0 : Below B w (w.drewN (q + nq)) := below_drewN (Below.refl _ w) _
          have hk0 : KeepX 3 w (w.drewN (q + nq)) := KeepX.below (below_drewN (Below.refl _ w) _)
          have hk0h := Lib.hid hk0
          have hsame : Hid (∀ j, p + 1 ≤ j → xs.getD j [] = xs.getD j []) := fun _ _ => rfl
          clear hnN c0 d0 hE hE2 hix1 hix2 htn hwr hk0
          go_loopg [3, 5] N2 (fun f kv rv wr => ∃ (kk r : Nat) (cs : List (List Int)), kv = .int .i64 ((kk : Nat) : Int) ∧ rv = .int .i64 ((r : Int) + 1) ∧ r + 1 ≤ N2 ∧ N2 ≤ r + 1 + f ∧ kk < p + 1 + (r + 1) ∧ OwX 3 1 EI wr B (.slice (some ⟨g, 0, none⟩) n cap) n cs ∧ Hid (cs.take kk = cmpc (xs.take (p + 1 + (r + 1)))) ∧ Hid (∀ j, kk ≤ j → cs.getD j [] = xs.getD j []) ∧ Below B w wr ∧ Hid (KeepX 3 w wr))
          case atStart => exact ⟨p + 1, 0, xs, by go_num, rfl, by omega, by omega, by omega, hO0, hs0, hsame, hb0, hk0h⟩
          case round =>
            clear hO0 hs0 hsame hb0 hk0h
            obtain ⟨kk, r, cs, rfl, rfl, hr, hrf, hkk, hO, htkk, hsm, hbw, hkx⟩ := hrel
            have hcl := hO.length
            have hOh := Lib.hid hO
            have hnn := hnNh.out
            by_cases hltr : r + 1 < N2
            · obtain ⟨f, rfl⟩ : ∃ f, gk = f + 1 := ⟨gk - 1, by omega⟩
              obtain ⟨hx7, hxc⟩ := hO.intCells (j := p + 1 + (r + 1)) (by omega)
              obtain ⟨hy7, hyc⟩ := hO.intCells (j := p + 1 + r) (by omega)
              obtain ⟨hz7, hzc⟩ := hO.intCells (j := kk) (by omega)
              rw [hsm.out _ (by omega)] at hx7 hxc
              rw [hsm.out _ (by omega)] at hy7 hyc
              rw [Nat.mul_one] at hxc
              rw [Nat.mul_one] at hyc
              rw [Nat.mul_one] at hzc
              obtain ⟨x, hx⟩ : ∃ x, xs.getD (p + 1 + (r + 1)) [] = x := ⟨_, rfl⟩
              obtain ⟨y, hy⟩ : ∃ y, xs.getD (p + 1 + r) [] = y := ⟨_, rfl⟩
              obtain ⟨z, hz⟩ : ∃ z, cs.getD kk [] = z := ⟨_, rfl⟩
              have htt := cmpc_take (xs := xs) (m := p + 1 + r) (by rw [hlh.out]; omega)
              have hput := compact_put (xs := xs) (cs := cs) (m := p + 1 + (r + 1)) (kk := kk) (x := x) (by rw [hcl, hlh.out]) hkk (by rw [hlh.out]; omega) htkk.out hsm.out hx
              rw [show p + 1 + r + 1 = p + 1 + (r + 1) by omega, hx, hy] at htt
              rw [show p + 1 + (r + 1) - 1 = p + 1 + r by omega, hy] at hput
              rw [hx] at hx7 hxc
              rw [hy] at hy7 hyc
              rw [hz] at hz7 hzc
              obtain ⟨x0, rfl⟩ := one1 hx7
              obtain ⟨y0, rfl⟩ := one1 hy7
              obtain ⟨z0, rfl⟩ := one1 hz7
              have c0 := hxc.all1
              have d0 := hyc.all1
              have e0 := hzc.all1
              have hi1 : (r : Int) + 1 < (N2 : Int) := by omega
              have hi2 : (0 : Int) ≤ (r : Int) + 1 := by omega
              have hi3 : (0 : Int) ≤ (r : Int) := by omega
              have hi4 : (r : Int) < (N2 : Int) := by omega
              have hi5 : (kk : Int) < (n : Int) := by omega
              have hN2b : (N2 : Int) ≤ 1000 := by omega
              have hkkb : (kk : Int) ≤ 1000 := by omega
              have htn : ((r : Int) + 1).toNat = r + 1 := by omega
              have hwr : IntKind.i64.wrap ((r : Int) + 1 - 1) = (r : Int) := by rw [show (r : Int) + 1 - 1 = (r : Int) by omega]; exact IntWalk.i64_in _ (by omega)
              have hwr2 : IntKind.i64.wrap (r : Int) = (r : Int) := IntWalk.i64_in _ (by omega)
              clear hxc hyc hzc hx7 hy7 hz7 hx hy hz hO
              by_cases he : [x0] = [y0]
              · have hE : (x0 == y0) = true := by simpa using he
                have hE2 : (x0 != y0) = false := by simpa using he
                rw [if_pos he.symm] at htt
                have htt2 : Hid (cs.take kk = cmpc (xs.take (p + 1 + (r + 1 + 1)))) := htkk.out.trans htt.symm
                clear he htt hput
                replace hnn := Lib.hid hnn
                replace hcl := Lib.hid hcl
                go_wp2_with fail
                go_quiet (fail)
                clear hwr hwr2 htn
                go_wp2_with fail
                go_roundg f
                case measure => omega
                case rel => exact ⟨kk, r + 1, cs, rfl, by go_num, by omega, by omega, by omega, hOh.out, htt2, hsm, below_drewN hbw _, hkx.out.trans (KeepX.below (below_drewN (Below.refl _ _) _))⟩
              · have hE : (x0 == y0) = false := by simpa using he
                have hE2 : (x0 != y0) = true := by simpa using he
                obtain ⟨hp1, hp2⟩ := hput (fun h => he h.symm)
                have hp1h := Lib.hid hp1
                have hp2h := Lib.hid hp2
                have hst : Hid (∀ d, OwX 3 1 EI ((wr.drewN d).setCell ⟨g, kk, none⟩ (.int .i64 x0)) B (.slice (some ⟨g, 0, none⟩) n cap) n (cs.set kk [x0])) := fun d => (OwX.store1 (EI.stab _) (OwX.keep (EI.stab _) hOh.out (below_drewN (Below.refl _ _) d)) (by omega) (u := .int .i64 x0) rfl (x := [x0]) rfl).1
                have hst3 : Hid (∀ d, Below B w ((wr.drewN d).setCell ⟨g, kk, none⟩ (.int .i64 x0))) := fun d => Below.setCell (p := ⟨g, kk, none⟩) (below_drewN hbw d) hB _
                have hst2 : Hid (∀ d, KeepX 3 w ((wr.drewN d).setCell ⟨g, kk, none⟩ (.int .i64 x0))) := fun d => by
                  obtain ⟨_, h1, _⟩ := OwX.keep (EI.stab _) hOh.out (below_drewN (Below.refl wr.heap.size wr) d)
                  obtain ⟨cs', g0⟩ := ownsRow_ty h1 g rfl
                  exact (hkx.out.trans (KeepX.below (below_drewN (Below.refl _ _) d))).trans (KeepX.setCell (p := ⟨g, kk, none⟩) g0 _)
                have hfz : ∀ j, wr.frozen? ⟨g, j, none⟩ = false := fun j => hOh.out.frozen j
                have f0 := hfz kk
                clear he htt hput hp1 hp2 hfz
                replace hnn := Lib.hid hnn
                replace hcl := Lib.hid hcl
                go_wp2_with fail
                go_quiet (fail)
                clear hwr hwr2 htn
                go_wp2_with fail
                go_roundg f
                case measure => omega
                case rel => exact ⟨kk + 1, r + 1, cs.set kk [x0], by go_num, by go_num, by omega, by omega, by omega, hst.out _, hp1h, hp2h, hst3.out _, hst2.out _⟩
            · have hrN : r + 1 = N2 := by omega
              have hfz : ∀ j, wr.frozen? ⟨g, j, none⟩ = false := fun j => hO.frozen j
              have hcs : ∀ j, j < n - kk → (wr.cell? ⟨g, kk + j, none⟩).isSome = true := fun j hj => by
                obtain ⟨k7, kc⟩ := hO.intCells (j := kk + j) (by omega)
                have h1 := kc 0 (by rw [k7]; decide)
                rw [Nat.mul_one, Nat.add_zero] at h1
                rw [h1]; rfl
              have hcl7 := fun ty => Lib.run_clear_slice (P := Tryz.prog) wr 27 3 ty (.int .i64 0) (by kernel_rfl) (fun w => by kernel_rfl) rfl rfl g kk (n - kk) (cap - kk) (by omega) hcs (fun j _ => hfz _)
              obtain ⟨Z, hZ⟩ : ∃ Z, List.replicate (n - kk) (Value.int .i64 0) = Z := ⟨_, rfl⟩
              simp only [hZ] at hcl7
              obtain ⟨t1, t2, t3⟩ := OwX.setTail1 hO (m := kk) (by omega) Z
              rw [htkk.out, List.take_of_length_le (by rw [hlh.out]; omega)] at t1
              rw [Nat.mul_one] at t1 t2 t3
              obtain ⟨W2, hW2⟩ : ∃ W2, wr.setCells g kk Z = W2 := ⟨_, rfl⟩
              rw [hW2] at t1 t2 t3
              simp only [hW2] at hcl7
              have hfin := Lib.hid t1
              have hkf := Lib.hid (hkx.out.trans t3)
              have hbf := hbw.trans t2
              have hk1 : (kk : Int) ≤ (n : Int) := by omega
              have hkn : kk < n := by omega
              have hkc : kk < cap := by omega
              have hk2 : (kk : Int) ≤ (cap : Int) := by omega
              have hge : decide ((r : Int) + 1 < (N2 : Int)) = false := decide_eq_false (by omega)
              clear t1 t2 t3 hO hOh hfz hcs hZ hW2 htkk hkx hsm
              replace hnn := Lib.hid hnn
              replace hcl := Lib.hid hcl
              replace hrN := Lib.hid hrN
              go_wp2
              go_ret
              exact ⟨kk, rfl, hfin.out, hbf, hkf.out⟩
        · have hE : (x0 == y0) = false := by simpa using he
          have hE2 : (x0 != y0) = true := by simpa using he
          rw [if_neg (fun h => he h.symm), hc.out] at htk
          have htk2 : Hid (cmpc (xs.take (p + 1 + 1)) = xs.take (p + 1 + 1)) := by show _ = _; rw [htk, ← hxt]; exact (take_snoc (by rw [hlh.out]; exact hlt) []).symm
          clear he hc hty htk hxt
          go_wp2_with fail
          go_quiet (fail)
          go_wp2_with fail
          go_roundg f
          case measure => omega
          case rel => exact ⟨p + 1, _, by go_num, by omega, by omega, (by first | exact rfl | exact World.drewN_drewN _ _ _), htk2⟩
      · obtain rfl : n = p + 1 := by omega
        have hfin := Lib.hid (hfin0.out q hc.out)
        obtain ⟨b1, b2⟩ := hBw.out q
        have b2h := Lib.hid b2
        clear hc b2
        go_wp2_with fail
        go_ret
        exact ⟨p + 1, by first | rfl | (congr 2; done), hfin.out, b1, b2h.out⟩
end Go.Proofs.YtfihpofdoffclaaGreatDoor

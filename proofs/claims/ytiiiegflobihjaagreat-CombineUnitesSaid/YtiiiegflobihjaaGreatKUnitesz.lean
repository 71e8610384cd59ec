/- Texts of this claim, put together: CR1 ED EK EL1. -/
import Derived.Test.YtiiiegflobihjaaGreatKUnitesy
import Derived.Test.YtiiiegflobihjaaGreatKUnitesu
import Derived.Test.YtiiiegflobihjaaGreatKUnitesv
import Derived.Test.YtiiiegflobihjaaGreatKUnitesq
import Derived.Test.YtiiiegflobihjaaGreatKUnitesh
import Derived.Test.YtiiiegflobihjaaGreatKUnitesd
import Derived.Deep.RegionHeld3
import Derived.Deep.DeepCutAuto
import Derived.Test.YtiiiegflobihjaaGreatKUnitesr

/- The reference's Or. -/
namespace Go.Proofs.YtiiiegflobihjaaGreat
open Go.RowKit

set_option maxRecDepth 100000 in
set_option maxHeartbeats 800000 in
theorem refOrBad {w : World} {u v : Value} {m n : Int} {xs ys : List (List (List Int))} (hx : AdvV w u m xs) (hy : AdvV w v n ys) (h0 : eqErr m n xs ys ≠ 0) :
    Calls Tryz.prog 11 #[u, v] w fun e w' => e = .returned (.tuple #[.agg #[.int .i64 0, .slice none 0 0], .int .i64 (eqErr m n xs ys)]) ∧ Below w.heap.size w w' := by
  obtain ⟨xa, xc, hu⟩ := advShape' hx
  obtain ⟨ya, yc, hv⟩ := advShape' hy
  subst hu hv
  obtain ⟨W1, hW1⟩ : ∃ W1, W1 = ((w.alloc (.cells #[.int .i64 m, .slice xa xs.length xc] 24)).alloc (.cells #[.int .i64 n, .slice ya ys.length yc] 24)).alloc (.cells #[.int .i64 0, .slice none 0 0] 24) := ⟨_, rfl⟩
  have hb1 : Below w.heap.size w W1 := by rw [hW1]; exact (((Below.refl _ w).alloc (Nat.le_refl _) _).alloc (by simp) _).alloc (by first | (simp; done) | (simp; omega)) _
  have kR : W1.heap[w.heap.size + 1 + 1]? = some (.cells #[.int .i64 0, .slice none 0 0] 24) := by
    rw [hW1]
    have := heap_alloc_new ((w.alloc (.cells #[.int .i64 m, .slice xa xs.length xc] 24)).alloc (.cells #[.int .i64 n, .slice ya ys.length yc] 24)) (.cells #[.int .i64 0, .slice none 0 0] 24)
    rwa [World.size_alloc, World.size_alloc] at this
  have HC := Lib.hid (refBoth18 (hx.keep hb1) (hy.keep hb1))
  obtain ⟨E, hE⟩ : ∃ E, eqErr m n xs ys = E := ⟨_, rfl⟩
  rw [hE] at HC h0 ⊢
  have h1 : (E == 0) = false := by simp [h0]
  have h2 : (E != 0) = true := by simp [h0]
  clear hx hy hE
  go_enter Tryz.func11, Tryz.ntmps11
  go_wp2_with fail
  rw [← hW1]
  replace hW1 := Lib.hid hW1
  refine HC.out.mono ?_
  rintro e W2 ⟨rfl, hb2⟩
  have hbf := bt hb1 hb2 hb1.size
  have kR2 := (hb2.block _ (Array.getElem?_eq_some_iff.1 kR).1).trans kR
  obtain ⟨y0, y1⟩ := box2 kR2
  have yf0 := row_free kR2 0
  have yf1 := row_free kR2 1
  have z0 : W2.setCell ⟨w.heap.size + 1 + 1, 0, none⟩ (.int .i64 0) = W2 := setSame y0
  have z1 : W2.setCell ⟨w.heap.size + 1 + 1, 1, none⟩ (.slice none 0 0) = W2 := setSame y1
  go_wp2
  refine bodyPost_ret (v := .tuple #[.agg #[.int .i64 0, .slice none 0 0], .int .i64 E]) (by simp [results, Tryz.results11, go_sem, y0, y1]) rfl ?_
  exact ⟨rfl, hbf⟩

set_option maxRecDepth 100000 in
set_option maxHeartbeats 1600000 in
theorem refOrGood {w : World} {u v : Value} {m n : Int} {xs ys : List (List (List Int))} (hx : AdvV w u m xs) (hy : AdvV w v n ys) (h0 : eqErr m n xs ys = 0) (wA : AdOK xs) (wB : AdOK ys) :
    Calls Tryz.prog 11 #[u, v] w (BdOut w m (prA false xs ys)) := by
  obtain ⟨xa, xc, hu⟩ := advShape' hx
  obtain ⟨ya, yc, hv⟩ := advShape' hy
  subst hu hv
  obtain ⟨W1, hW1⟩ : ∃ W1, W1 = ((w.alloc (.cells #[.int .i64 m, .slice xa xs.length xc] 24)).alloc (.cells #[.int .i64 n, .slice ya ys.length yc] 24)).alloc (.cells #[.int .i64 0, .slice none 0 0] 24) := ⟨_, rfl⟩
  have hb1 : Below w.heap.size w W1 := by rw [hW1]; exact (((Below.refl _ w).alloc (Nat.le_refl _) _).alloc (by simp) _).alloc (by first | (simp; done) | (simp; omega)) _
  have kX : W1.heap[w.heap.size]? = some (.cells #[.int .i64 m, .slice xa xs.length xc] 24) := by
    rw [hW1]; exact (Below.heap_alloc _ _ _ (by first | (simp; done) | (simp; omega))).trans ((Below.heap_alloc _ _ _ (by simp)).trans (heap_alloc_new w _))
  have kY : W1.heap[w.heap.size + 1]? = some (.cells #[.int .i64 n, .slice ya ys.length yc] 24) := by
    rw [hW1]
    have := heap_alloc_new (w.alloc (.cells #[.int .i64 m, .slice xa xs.length xc] 24)) (.cells #[.int .i64 n, .slice ya ys.length yc] 24)
    rw [World.size_alloc] at this
    exact (Below.heap_alloc _ _ _ (by simp)).trans this
  have kR : W1.heap[w.heap.size + 1 + 1]? = some (.cells #[.int .i64 0, .slice none 0 0] 24) := by
    rw [hW1]
    have := heap_alloc_new ((w.alloc (.cells #[.int .i64 m, .slice xa xs.length xc] 24)).alloc (.cells #[.int .i64 n, .slice ya ys.length yc] 24)) (.cells #[.int .i64 0, .slice none 0 0] 24)
    rwa [World.size_alloc, World.size_alloc] at this
  have HC := Lib.hid (refBoth18 (hx.keep hb1) (hy.keep hb1))
  rw [h0] at HC
  have HX := Lib.hid (fun W (hb : Below W1.heap.size W1 W) => (hx.keep hb1).keep hb)
  have HY := Lib.hid (fun W (hb : Below W1.heap.size W1 W) => (hy.keep hb1).keep hb)
  have hK := Lib.hid (fun W (hb : Below W1.heap.size W1 W) => And.intro (box2 ((hb.block _ (Array.getElem?_eq_some_iff.1 kX).1).trans kX)) (And.intro (box2 ((hb.block _ (Array.getElem?_eq_some_iff.1 kY).1).trans kY)) ((hb.block _ (Array.getElem?_eq_some_iff.1 kR).1).trans kR)))
  have hR := prA_eq false xs ys
  obtain ⟨R, hRR⟩ : ∃ R, prA false xs ys = R := ⟨_, rfl⟩
  rw [hRR] at hR ⊢
  replace hR := Lib.hid hR
  replace hRR := Lib.hid hRR
  clear hx hy kX kY kR h0
  go_enter Tryz.func11, Tryz.ntmps11
  go_wp2_with fail
  rw [← hW1]
  replace hW1 := Lib.hid hW1
  refine HC.out.mono ?_
  rintro e W2 ⟨rfl, hb2⟩
  obtain ⟨⟨a0, a1⟩, ⟨b0, b1⟩, _⟩ := hK.out W2 hb2
  have HP := Lib.hid (refPairedOr (HX.out W2 hb2) (HY.out W2 hb2) wA wB)
  rw [hRR.out] at HP
  go_wp2_with fail
  clear a0 a1 b0 b1
  refine HP.out.mono ?_
  intro e W4 hO
  have B3 := hb2
  have hbw3 := bt hb1 B3 hb1.size
  cases R with
  | none =>
    obtain ⟨rfl, hb4⟩ := hO
    have B4 := btt B3 hb4
    obtain ⟨_, _, kR4⟩ := hK.out W4 B4
    obtain ⟨y0, y1⟩ := box2 kR4
    have yf0 := row_free kR4 0
    have yf1 := row_free kR4 1
    have z0 : W4.setCell ⟨w.heap.size + 1 + 1, 0, none⟩ (.int .i64 0) = W4 := setSame y0
    have z1 : W4.setCell ⟨w.heap.size + 1 + 1, 1, none⟩ (.slice none 0 0) = W4 := setSame y1
    go_wp2
    refine bodyPost_ret (v := .tuple #[.agg #[.int .i64 0, .slice none 0 0], .int .i64 17]) (by simp [results, Tryz.results11, go_sem, y0, y1]) rfl ?_
    exact BdOut.no (bt hbw3 hb4 hbw3.size)
  | some ss =>
    obtain ⟨uo, rfl, hA, hb4⟩ := hO
    have B4 := btt B3 hb4
    obtain ⟨_, _, kR4⟩ := hK.out W4 B4
    have hA' := hA
    obtain ⟨sv, rfl, hrow, hl1, hl2⟩ := hA'
    obtain ⟨sva, svc, hsv⟩ := hrow.shape
    subst hsv
    obtain ⟨y0, y1⟩ := box2 kR4
    have yf := row_free kR4
    have hr1 := heap_setCell_same W4 (w.heap.size + 1 + 1) 0 _ _ (.int .i64 m) kR4
    have hr2 := two_setCell (u := .slice sva ss.length svc) hr1
    have hx2 := (KeepX.setCell (p := ⟨w.heap.size + 1 + 1, 0, none⟩) kR4 (.int .i64 m)).trans (KeepX.setCell (p := ⟨w.heap.size + 1 + 1, 1, none⟩) hr1 (.slice sva ss.length svc))
    have hbw4 := bt hbw3 hb4 hbw3.size
    have hbe := (hbw4.setCell (p := ⟨w.heap.size + 1 + 1, 0, none⟩) (by show w.heap.size ≤ w.heap.size + 1 + 1; omega) (.int .i64 m)).setCell (p := ⟨w.heap.size + 1 + 1, 1, none⟩) (by show w.heap.size ≤ w.heap.size + 1 + 1; omega) (.slice sva ss.length svc)
    obtain ⟨z0, z1⟩ := box2 hr2
    have hfin := hA.other hx2
    replace hfin := Lib.hid hfin
    clear hr1 hr2 hx2 hrow hA kR4
    go_wp2
    obtain ⟨W8, hW8⟩ : ∃ W8, W8 = (W4.setCell ⟨w.heap.size + 1 + 1, 0, none⟩ (.int .i64 m)).setCell ⟨w.heap.size + 1 + 1, 1, none⟩ (.slice sva ss.length svc) := ⟨_, rfl⟩
    rw [← hW8] at z0 z1 hfin hbe ⊢
    clear hW8
    refine bodyPost_ret (v := .tuple #[.agg #[.int .i64 m, .slice sva ss.length svc], .int .i64 0]) (by simp [results, Tryz.results11, go_sem, z0, z1]) rfl ?_
    exact BdOut.yes hfin.out hbe
end Go.Proofs.YtiiiegflobihjaaGreat

/- The reference: joined. -/
namespace Go.Proofs.YtiiiegflobihjaaGreat
open Go.RowKit

theorem row7 {w : World} {b : Nat} {u0 u1 u2 u3 u4 u5 u6 : Value} {t : TypeId} (h : w.heap[b]? = some (.cells #[u0, u1, u2, u3, u4, u5, u6] t)) : (∀ j, w.frozen? ⟨b, j, none⟩ = false) ∧ w.cell? ⟨b, 0, none⟩ = some u0 ∧ w.cell? ⟨b, 1, none⟩ = some u1 ∧ w.cell? ⟨b, 2, none⟩ = some u2 ∧ w.cell? ⟨b, 3, none⟩ = some u3 ∧ w.cell? ⟨b, 4, none⟩ = some u4 ∧ w.cell? ⟨b, 5, none⟩ = some u5 ∧ w.cell? ⟨b, 6, none⟩ = some u6 := ⟨row_free h, box_cell h rfl, box_cell h rfl, box_cell h rfl, box_cell h rfl, box_cell h rfl, box_cell h rfl, box_cell h rfl⟩
theorem boxSet7 {w : World} {g : Nat} {x0 x1 x2 x3 x4 x5 x6 u0 u1 u2 u3 u4 u5 u6 : Value} {t : TypeId} (h : w.heap[g]? = some (.cells #[x0, x1, x2, x3, x4, x5, x6] t)) :
    (((((((w.setCell ⟨g, 0, none⟩ u0).setCell ⟨g, 1, none⟩ u1).setCell ⟨g, 2, none⟩ u2).setCell ⟨g, 3, none⟩ u3).setCell ⟨g, 4, none⟩ u4).setCell ⟨g, 5, none⟩ u5).setCell ⟨g, 6, none⟩ u6).heap[g]? = some (.cells #[u0, u1, u2, u3, u4, u5, u6] t) := by
  have h0 : (w.setCell ⟨g, 0, none⟩ u0).heap[g]? = some (.cells #[u0, x1, x2, x3, x4, x5, x6] t) := heap_setCell_same _ g 0 _ t u0 h
  have h1 : ((w.setCell ⟨g, 0, none⟩ u0).setCell ⟨g, 1, none⟩ u1).heap[g]? = some (.cells #[u0, u1, x2, x3, x4, x5, x6] t) := heap_setCell_same _ g 1 _ t u1 h0
  have h2 : (((w.setCell ⟨g, 0, none⟩ u0).setCell ⟨g, 1, none⟩ u1).setCell ⟨g, 2, none⟩ u2).heap[g]? = some (.cells #[u0, u1, u2, x3, x4, x5, x6] t) := heap_setCell_same _ g 2 _ t u2 h1
  have h3 : ((((w.setCell ⟨g, 0, none⟩ u0).setCell ⟨g, 1, none⟩ u1).setCell ⟨g, 2, none⟩ u2).setCell ⟨g, 3, none⟩ u3).heap[g]? = some (.cells #[u0, u1, u2, u3, x4, x5, x6] t) := heap_setCell_same _ g 3 _ t u3 h2
  have h4 : (((((w.setCell ⟨g, 0, none⟩ u0).setCell ⟨g, 1, none⟩ u1).setCell ⟨g, 2, none⟩ u2).setCell ⟨g, 3, none⟩ u3).setCell ⟨g, 4, none⟩ u4).heap[g]? = some (.cells #[u0, u1, u2, u3, u4, x5, x6] t) := heap_setCell_same _ g 4 _ t u4 h3
  have h5 : ((((((w.setCell ⟨g, 0, none⟩ u0).setCell ⟨g, 1, none⟩ u1).setCell ⟨g, 2, none⟩ u2).setCell ⟨g, 3, none⟩ u3).setCell ⟨g, 4, none⟩ u4).setCell ⟨g, 5, none⟩ u5).heap[g]? = some (.cells #[u0, u1, u2, u3, u4, u5, x6] t) := heap_setCell_same _ g 5 _ t u5 h4
  have h6 : (((((((w.setCell ⟨g, 0, none⟩ u0).setCell ⟨g, 1, none⟩ u1).setCell ⟨g, 2, none⟩ u2).setCell ⟨g, 3, none⟩ u3).setCell ⟨g, 4, none⟩ u4).setCell ⟨g, 5, none⟩ u5).setCell ⟨g, 6, none⟩ u6).heap[g]? = some (.cells #[u0, u1, u2, u3, u4, u5, u6] t) := heap_setCell_same _ g 6 _ t u6 h5
  exact h6
end Go.Proofs.YtiiiegflobihjaaGreat

/- always: an adversary with one state. -/
namespace Go.Proofs.YtiiiegflobihjaaGreat
open Go.RowKit

/-- A row of rows that lie in blocks. -/
theorem kssOf {w : World} {b : Nat} {us : Array Value} {t : TypeId} {xs : List (List (List Int))} (h : w.heap[b]? = some (.cells us t)) (hl : us.size = xs.length) (hn : xs.length ≤ 1000) (hk : ∀ j, j < xs.length → KS 8 w (us.getD j (.slice none 0 0)) (xs.getD j [])) : KSS 8 w (.slice (some ⟨b, 0, none⟩) xs.length xs.length) xs := by
  refine ⟨_, _, b, 0, rfl, fun _ => rfl, fun j hj => ⟨_, ?_, hk j hj⟩, by omega⟩
  rw [Nat.zero_add]
  refine box_cell h ?_
  rw [Array.getD_eq_getD_getElem?, Array.getElem?_eq_getElem (by omega)]; rfl
theorem advOf {w : World} {b : Nat} {us : Array Value} {t : TypeId} {xs : List (List (List Int))} {n : Int} (h : w.heap[b]? = some (.cells us t)) (hl : us.size = xs.length) (hn : xs.length ≤ 1000) (hk : ∀ j, j < xs.length → KS 8 w (us.getD j (.slice none 0 0)) (xs.getD j [])) : AdvV w (.agg #[.int .i64 n, .slice (some ⟨b, 0, none⟩) xs.length xs.length]) n xs := ⟨_, rfl, kssOf h hl hn hk⟩

set_option maxRecDepth 100000 in
set_option maxHeartbeats 800000 in
theorem alwaysCall {w : World} {r0 r1 r2 r3 r4 r5 r6 : Int} :
    Calls Tryz.prog 28 #[.agg #[.int .i64 r0, .int .i64 r1, .int .i64 r2, .int .i64 r3, .int .i64 r4, .int .i64 r5, .int .i64 r6]] w fun e w' => ∃ a c, e = .returned (.agg #[.int .i64 2, .slice a 1 c]) ∧ OwAdv w' (.agg #[.int .i64 2, .slice a 1 c]) 2 (alw1 [r0, r1, r2, r3, r4, r5, r6]) ∧ Below w.heap.size w w' := by
  obtain ⟨W1, hW1⟩ : ∃ W1, W1 = w.alloc (.cells #[.int .i64 r0, .int .i64 r1, .int .i64 r2, .int .i64 r3, .int .i64 r4, .int .i64 r5, .int .i64 r6] 51) := ⟨_, rfl⟩
  have k1 : W1.heap[w.heap.size]? = some (.cells #[.int .i64 r0, .int .i64 r1, .int .i64 r2, .int .i64 r3, .int .i64 r4, .int .i64 r5, .int .i64 r6] 51) := by rw [hW1]; exact heap_alloc_new _ _
  obtain ⟨_, d0, d1, d2, d3, d4, d5, d6⟩ := row7 k1
  go_enter Tryz.func28, Tryz.ntmps28
  go_wp2_with fail
  clear d0 d1 d2 d3 d4 d5 d6 k1 hW1
  generalize hW : World.alloc _ _ = WF
  have kR : WF.heap[w.heap.size + 1]? = some (.cells #[.int .i64 2, .slice (some ⟨w.heap.size + 1 + 1 + 1, 0, none⟩) 1 1] 24) := by rw [← hW]; repeat (first | (refine ha_new ?_; first | rfl | (simp only [World.size_alloc]; done)) | (refine ha_old ?_ ?_; · (simp only [World.size_alloc] <;> omega)))
  have kM : WF.heap[w.heap.size + 1 + 1]? = some (.cells #[.int .i64 r0, .int .i64 r1, .int .i64 r2, .int .i64 r3, .int .i64 r4, .int .i64 r5, .int .i64 r6, .int .i64 0] 58) := by rw [← hW]; repeat (first | (refine ha_new ?_; first | rfl | (simp only [World.size_alloc]; done)) | (refine ha_old ?_ ?_; · (simp only [World.size_alloc] <;> omega)))
  have kS : WF.heap[w.heap.size + 1 + 1 + 1]? = some (.cells #[.slice (some ⟨w.heap.size + 1 + 1, 0, none⟩) 1 1] 59) := by rw [← hW]; repeat (first | (refine ha_new ?_; first | rfl | (simp only [World.size_alloc]; done)) | (refine ha_old ?_ ?_; · (simp only [World.size_alloc] <;> omega)))
  have hbf : Below w.heap.size w WF := by rw [← hW]; repeat (first | exact Below.refl _ _ | (refine Below.alloc ?_ ?_ _; rotate_left; · (first | exact Nat.le_refl _ | (simp only [World.size_alloc] <;> omega))))
  clear hW
  obtain ⟨y0, y1⟩ := box2 kR
  have hM : OwX 58 8 EI WF 0 (.slice (some ⟨w.heap.size + 1 + 1, 0, none⟩) 1 1) 1 [[r0, r1, r2, r3, r4, r5, r6, 0]] := by
    refine ⟨[.int .i64 r0, .int .i64 r1, .int .i64 r2, .int .i64 r3, .int .i64 r4, .int .i64 r5, .int .i64 r6, .int .i64 0], ⟨rfl, .inr ⟨_, 1, _, rfl, Nat.zero_le _, kM, Nat.le_refl _, by unfold maxLen; omega, rfl, rfl⟩⟩, rfl, ?_, ?_⟩
    · intro u hu; simp only [List.mem_cons, List.not_mem_nil, or_false] at hu; rcases hu with rfl | rfl | rfl | rfl | rfl | rfl | rfl | rfl <;> rfl
    · intro j x hj
      cases j with
      | zero => simp only [List.getElem?_cons_zero, Option.some.injEq] at hj; subst hj; rfl
      | succ j => simp at hj
  have hSt : OwX 59 1 ESt WF 0 (.slice (some ⟨w.heap.size + 1 + 1 + 1, 0, none⟩) 1 1) 1 (alw1 [r0, r1, r2, r3, r4, r5, r6]) := by
    refine ⟨[.slice (some ⟨w.heap.size + 1 + 1, 0, none⟩) 1 1], ⟨rfl, .inr ⟨_, 1, _, rfl, Nat.zero_le _, kS, Nat.le_refl _, by unfold maxLen; omega, rfl, rfl⟩⟩, rfl, ?_, ?_⟩
    · intro u hu; simp only [List.mem_cons, List.not_mem_nil, or_false] at hu; rcases hu with rfl; rfl
    · intro j x hj
      cases j with
      | zero => simp only [alw1, List.getElem?_cons_zero, Option.some.injEq] at hj; subst hj; exact ⟨_, rfl, hM⟩
      | succ j => simp [alw1] at hj
  refine bodyPost_ret (v := .agg #[.int .i64 2, .slice (some ⟨w.heap.size + 1 + 1 + 1, 0, none⟩) 1 1]) (by simp [results, Tryz.results28, go_sem, y0, y1]) rfl ?_
  exact ⟨_, _, rfl, ⟨_, rfl, hSt, by simp [alw1], fun x hx => by obtain rfl := List.mem_singleton.1 hx; simp⟩, hbf⟩
end Go.Proofs.YtiiiegflobihjaaGreat

/- awake: region 3 (two calls, two boxes) by states. -/
namespace Go.Proofs.YtiiiegflobihjaaGreat
open Go.RowKit

theorem gA {W X : World} (h : Below W.heap.size W X) (o : Obj) : Below W.heap.size W (X.alloc o) := h.alloc h.size o
theorem gS {W X : World} {b : Nat} (h : Below W.heap.size W X) (hb : W.heap.size ≤ b) (j : Nat) (u : Value) : Below W.heap.size W (X.setCell ⟨b, j, none⟩ u) := h.setCell (p := ⟨b, j, none⟩) hb u
theorem gT {W X Y : World} (hb : Below X.heap.size X Y) (h : Below W.heap.size W X) : Below W.heap.size W Y := bt h hb h.size
theorem hS0 {w : World} {b : Nat} {x y u : Value} {t : TypeId} (h : w.heap[b]? = some (.cells #[x, y] t)) : (w.setCell ⟨b, 0, none⟩ u).heap[b]? = some (.cells #[u, y] t) := heap_setCell_same _ b 0 _ t u h
theorem hSn {w : World} {b k j : Nat} {o : Obj} {u : Value} (h : w.heap[k]? = some o) (hne : k ≠ b) : (w.setCell ⟨b, j, none⟩ u).heap[k]? = some o := (Below.heap_setCell w ⟨b, j, none⟩ u k hne).trans h
theorem hAn {w : World} {o o' : Obj} {k : Nat} (h : w.heap[k]? = some o) : (w.alloc o').heap[k]? = some o := (Below.heap_alloc w o' k (Array.getElem?_eq_some_iff.1 h).1).trans h
/-- A box of an adversary. -/
def BxZ (W : World) (b : Nat) : Prop := W.heap[b]? = some (.cells #[.int .i64 0, .slice none 0 0] 24)
theorem BxZ.f {W : World} {b : Nat} (h : BxZ W b) : W.cell? ⟨b, 0, none⟩ = some (.int .i64 0) ∧ W.cell? ⟨b, 1, none⟩ = some (.slice none 0 0) ∧ (∀ j, W.frozen? ⟨b, j, none⟩ = false) := ⟨box_cell h rfl, box_cell h rfl, row_free h⟩
def opsAw3 : Array Oper := #[{ dst := some 20, op := Op.load 51 (Operand.tmp 2), type := 51, pos := "law.go:25", after := #[], guard := none }, { dst := some 21, op := Op.call { callee := Callee.value (Operand.func 28), args := #[Operand.tmp 20], argTypes := #[51] }, type := 24, pos := "law.go:25", after := #[{ on := 0, ground := Ground.data }], guard := none }, { dst := some 22, op := Op.load 51 (Operand.tmp 1), type := 51, pos := "law.go:25", after := #[], guard := none }, { dst := some 23, op := Op.call { callee := Callee.value (Operand.func 28), args := #[Operand.tmp 22], argTypes := #[51] }, type := 24, pos := "law.go:25", after := #[{ on := 2, ground := Ground.data }, { on := 1, ground := Ground.chain }], guard := none }, { dst := some 3, op := Op.alloc 24, type := 0, pos := "law.go:25", after := #[], guard := none }, { dst := some 4, op := Op.alloc 24, type := 0, pos := "law.go:25", after := #[], guard := none }, { dst := none, op := Op.store 24 (Operand.tmp 3) (Operand.tmp 21), type := 0, pos := "law.go:25", after := #[{ on := 4, ground := Ground.data }, { on := 1, ground := Ground.data }, { on := 3, ground := Ground.chain }, { on := 0, ground := Ground.phase }, { on := 1, ground := Ground.phase }, { on := 2, ground := Ground.textOnly Departure.lateStores }, { on := 3, ground := Ground.textOnly Departure.lateStoresUnsure }, { on := 4, ground := Ground.phase }, { on := 5, ground := Ground.phase }], guard := none }, { dst := none, op := Op.store 24 (Operand.tmp 4) (Operand.tmp 23), type := 0, pos := "law.go:25", after := #[{ on := 5, ground := Ground.data }, { on := 3, ground := Ground.data }, { on := 6, ground := Ground.chain }, { on := 0, ground := Ground.phase }, { on := 1, ground := Ground.phase }, { on := 2, ground := Ground.phase }, { on := 3, ground := Ground.phase }, { on := 4, ground := Ground.phase }, { on := 5, ground := Ground.phase }, { on := 6, ground := Ground.phase }], guard := none }]
set_option maxRecDepth 100000 in
set_option maxHeartbeats 6400000 in
theorem regAw3 {w : World} {x0 x3 x4 x5 x6 x7 x8 x9 x10 x11 x12 x13 x14 x15 x16 x17 x18 x19 x20 x21 x22 x23 x24 x25 x26 x27 x28 x29 x30 x31 x32 x33 x34 x35 x36 x37 x38 x39 x40 x41 x42 x43 x44 x45 x46 x47 x48 x49 x50 x51 x52 x53 x54 x55 x56 x57 x58 x59 x60 x61 x62 x63 x64 x65 x66 x67 x68 x69 x70 x71 x72 x73 x74 x75 x76 x77 x78 x79 x80 x81 x82 x83 x84 x85 x86 x87 x88 x89 x90 x91 x92 x93 x94 x95 x96 x97 x98 x99 x100 x101 x102 x103 x104 x105 x106 x107 x108 x109 x110 x111 : Value} {Q : Exit → Act → World → Prop} {p1 p2 : Nat}
    (hR : Hid (∀ W, Below w.heap.size w W → (True ∧ W.cell? ⟨p1, 0, none⟩ = some (.int .i64 2) ∧ W.cell? ⟨p1, 1, none⟩ = some (.int .i64 1) ∧ W.cell? ⟨p1, 2, none⟩ = some (.int .i64 2) ∧ W.cell? ⟨p1, 3, none⟩ = some (.int .i64 0) ∧ W.cell? ⟨p1, 4, none⟩ = some (.int .i64 0) ∧ W.cell? ⟨p1, 5, none⟩ = some (.int .i64 0) ∧ W.cell? ⟨p1, 6, none⟩ = some (.int .i64 0)) ∧ (True ∧ W.cell? ⟨p2, 0, none⟩ = some (.int .i64 2) ∧ W.cell? ⟨p2, 1, none⟩ = some (.int .i64 3) ∧ W.cell? ⟨p2, 2, none⟩ = some (.int .i64 3) ∧ W.cell? ⟨p2, 3, none⟩ = some (.int .i64 0) ∧ W.cell? ⟨p2, 4, none⟩ = some (.int .i64 0) ∧ W.cell? ⟨p2, 5, none⟩ = some (.int .i64 0) ∧ W.cell? ⟨p2, 6, none⟩ = some (.int .i64 0))))
    (h : ∀ (W : World) (hb : Below w.heap.size w W) (a5 : Option Addr) (c5 : Nat) (hA : OwAdv W (.agg #[.int .i64 2, .slice a5 1 c5]) 2 (alw1 rdC)) (a6 : Option Addr) (c6 : Nat) (hB : OwAdv W (.agg #[.int .i64 2, .slice a6 1 c6]) 2 (alw1 rdS)) (b3 : Nat) (h3 : w.heap.size ≤ b3) (k3 : W.heap[b3]? = some (.cells #[.int .i64 2, .slice a5 1 c5] 24)) (b4 : Nat) (h4 : w.heap.size ≤ b4) (k4 : W.heap[b4]? = some (.cells #[.int .i64 2, .slice a6 1 c6] 24)) (hne : b3 ≠ b4), Q .normal ⟨#[x0, .pointer (some ⟨p1, 0, none⟩), .pointer (some ⟨p2, 0, none⟩), .pointer (some ⟨b3, 0, none⟩), .pointer (some ⟨b4, 0, none⟩), x5, x6, x7, x8, x9, x10, x11, x12, x13, x14, x15, x16, x17, x18, x19, .agg #[.int .i64 2, .int .i64 3, .int .i64 3, .int .i64 0, .int .i64 0, .int .i64 0, .int .i64 0], .agg #[.int .i64 2, .slice a5 1 c5], .agg #[.int .i64 2, .int .i64 1, .int .i64 2, .int .i64 0, .int .i64 0, .int .i64 0, .int .i64 0], .agg #[.int .i64 2, .slice a6 1 c6], x24, x25, x26, x27, x28, x29, x30, x31, x32, x33, x34, x35, x36, x37, x38, x39, x40, x41, x42, x43, x44, x45, x46, x47, x48, x49, x50, x51, x52, x53, x54, x55, x56, x57, x58, x59, x60, x61, x62, x63, x64, x65, x66, x67, x68, x69, x70, x71, x72, x73, x74, x75, x76, x77, x78, x79, x80, x81, x82, x83, x84, x85, x86, x87, x88, x89, x90, x91, x92, x93, x94, x95, x96, x97, x98, x99, x100, x101, x102, x103, x104, x105, x106, x107, x108, x109, x110, x111], []⟩ W) :
    (Code.region 3 opsAw3 true).wp Tryz.prog Q ⟨#[x0, .pointer (some ⟨p1, 0, none⟩), .pointer (some ⟨p2, 0, none⟩), x3, x4, x5, x6, x7, x8, x9, x10, x11, x12, x13, x14, x15, x16, x17, x18, x19, x20, x21, x22, x23, x24, x25, x26, x27, x28, x29, x30, x31, x32, x33, x34, x35, x36, x37, x38, x39, x40, x41, x42, x43, x44, x45, x46, x47, x48, x49, x50, x51, x52, x53, x54, x55, x56, x57, x58, x59, x60, x61, x62, x63, x64, x65, x66, x67, x68, x69, x70, x71, x72, x73, x74, x75, x76, x77, x78, x79, x80, x81, x82, x83, x84, x85, x86, x87, x88, x89, x90, x91, x92, x93, x94, x95, x96, x97, x98, x99, x100, x101, x102, x103, x104, x105, x106, x107, x108, x109, x110, x111], []⟩ w := by
  have HC1 := Lib.hid (fun W => alwaysCall (w := W) (r0 := 2) (r1 := 3) (r2 := 3) (r3 := 0) (r4 := 0) (r5 := 0) (r6 := 0))
  have HC2 := Lib.hid (fun W => alwaysCall (w := W) (r0 := 2) (r1 := 1) (r2 := 2) (r3 := 0) (r4 := 0) (r5 := 0) (r6 := 0))
  have ho0 : opsAw3[0]? = some { dst := some 20, op := Op.load 51 (Operand.tmp 2), type := 51, pos := "law.go:25", after := #[], guard := none } := rfl
  have ho1 : opsAw3[1]? = some { dst := some 21, op := Op.call { callee := Callee.value (Operand.func 28), args := #[Operand.tmp 20], argTypes := #[51] }, type := 24, pos := "law.go:25", after := #[{ on := 0, ground := Ground.data }], guard := none } := rfl
  have ho2 : opsAw3[2]? = some { dst := some 22, op := Op.load 51 (Operand.tmp 1), type := 51, pos := "law.go:25", after := #[], guard := none } := rfl
  have ho3 : opsAw3[3]? = some { dst := some 23, op := Op.call { callee := Callee.value (Operand.func 28), args := #[Operand.tmp 22], argTypes := #[51] }, type := 24, pos := "law.go:25", after := #[{ on := 2, ground := Ground.data }, { on := 1, ground := Ground.chain }], guard := none } := rfl
  have ho4 : opsAw3[4]? = some { dst := some 3, op := Op.alloc 24, type := 0, pos := "law.go:25", after := #[], guard := none } := rfl
  have ho5 : opsAw3[5]? = some { dst := some 4, op := Op.alloc 24, type := 0, pos := "law.go:25", after := #[], guard := none } := rfl
  have ho6 : opsAw3[6]? = some { dst := none, op := Op.store 24 (Operand.tmp 3) (Operand.tmp 21), type := 0, pos := "law.go:25", after := #[{ on := 4, ground := Ground.data }, { on := 1, ground := Ground.data }, { on := 3, ground := Ground.chain }, { on := 0, ground := Ground.phase }, { on := 1, ground := Ground.phase }, { on := 2, ground := Ground.textOnly Departure.lateStores }, { on := 3, ground := Ground.textOnly Departure.lateStoresUnsure }, { on := 4, ground := Ground.phase }, { on := 5, ground := Ground.phase }], guard := none } := rfl
  have ho7 : opsAw3[7]? = some { dst := none, op := Op.store 24 (Operand.tmp 4) (Operand.tmp 23), type := 0, pos := "law.go:25", after := #[{ on := 5, ground := Ground.data }, { on := 3, ground := Ground.data }, { on := 6, ground := Ground.chain }, { on := 0, ground := Ground.phase }, { on := 1, ground := Ground.phase }, { on := 2, ground := Ground.phase }, { on := 3, ground := Ground.phase }, { on := 4, ground := Ground.phase }, { on := 5, ground := Ground.phase }, { on := 6, ground := Ground.phase }], guard := none } := rfl
  refine wp_region_any (by kernel_rfl) ?_
  have st01234567_ : ∀ (W : World) (hb : Below w.heap.size w W) (a5 : Option Addr) (c5 : Nat) (hA : OwAdv W (.agg #[.int .i64 2, .slice a5 1 c5]) 2 (alw1 rdC)) (a6 : Option Addr) (c6 : Nat) (hB : OwAdv W (.agg #[.int .i64 2, .slice a6 1 c6]) 2 (alw1 rdS)) (b3 : Nat) (h3 : w.heap.size ≤ b3) (k3 : W.heap[b3]? = some (.cells #[.int .i64 2, .slice a5 1 c5] 24)) (b4 : Nat) (h4 : w.heap.size ≤ b4) (k4 : W.heap[b4]? = some (.cells #[.int .i64 2, .slice a6 1 c6] 24)) (hne : b3 ≠ b4), wpAny Tryz.prog .any opsAw3 Q 0 #[true, true, true, true, true, true, true, true] ⟨#[x0, .pointer (some ⟨p1, 0, none⟩), .pointer (some ⟨p2, 0, none⟩), .pointer (some ⟨b3, 0, none⟩), .pointer (some ⟨b4, 0, none⟩), x5, x6, x7, x8, x9, x10, x11, x12, x13, x14, x15, x16, x17, x18, x19, .agg #[.int .i64 2, .int .i64 3, .int .i64 3, .int .i64 0, .int .i64 0, .int .i64 0, .int .i64 0], .agg #[.int .i64 2, .slice a5 1 c5], .agg #[.int .i64 2, .int .i64 1, .int .i64 2, .int .i64 0, .int .i64 0, .int .i64 0, .int .i64 0], .agg #[.int .i64 2, .slice a6 1 c6], x24, x25, x26, x27, x28, x29, x30, x31, x32, x33, x34, x35, x36, x37, x38, x39, x40, x41, x42, x43, x44, x45, x46, x47, x48, x49, x50, x51, x52, x53, x54, x55, x56, x57, x58, x59, x60, x61, x62, x63, x64, x65, x66, x67, x68, x69, x70, x71, x72, x73, x74, x75, x76, x77, x78, x79, x80, x81, x82, x83, x84, x85, x86, x87, x88, x89, x90, x91, x92, x93, x94, x95, x96, x97, x98, x99, x100, x101, x102, x103, x104, x105, x106, x107, x108, x109, x110, x111], []⟩ W := by
    intro W hb a5 c5 hA a6 c6 hB b3 h3 k3 b4 h4 k4 hne
    exact ⟨by kernel_rfl, h _ hb a5 c5 hA a6 c6 hB b3 h3 k3 b4 h4 k4 hne⟩
  have st0123456_ : ∀ (W : World) (hb : Below w.heap.size w W) (a5 : Option Addr) (c5 : Nat) (hA : OwAdv W (.agg #[.int .i64 2, .slice a5 1 c5]) 2 (alw1 rdC)) (a6 : Option Addr) (c6 : Nat) (hB : OwAdv W (.agg #[.int .i64 2, .slice a6 1 c6]) 2 (alw1 rdS)) (b3 : Nat) (h3 : w.heap.size ≤ b3) (k3 : W.heap[b3]? = some (.cells #[.int .i64 2, .slice a5 1 c5] 24)) (b4 : Nat) (h4 : w.heap.size ≤ b4) (k4 : BxZ W b4) (hne : b3 ≠ b4), wpAny Tryz.prog .any opsAw3 Q 1 #[true, true, true, true, true, true, true, false] ⟨#[x0, .pointer (some ⟨p1, 0, none⟩), .pointer (some ⟨p2, 0, none⟩), .pointer (some ⟨b3, 0, none⟩), .pointer (some ⟨b4, 0, none⟩), x5, x6, x7, x8, x9, x10, x11, x12, x13, x14, x15, x16, x17, x18, x19, .agg #[.int .i64 2, .int .i64 3, .int .i64 3, .int .i64 0, .int .i64 0, .int .i64 0, .int .i64 0], .agg #[.int .i64 2, .slice a5 1 c5], .agg #[.int .i64 2, .int .i64 1, .int .i64 2, .int .i64 0, .int .i64 0, .int .i64 0, .int .i64 0], .agg #[.int .i64 2, .slice a6 1 c6], x24, x25, x26, x27, x28, x29, x30, x31, x32, x33, x34, x35, x36, x37, x38, x39, x40, x41, x42, x43, x44, x45, x46, x47, x48, x49, x50, x51, x52, x53, x54, x55, x56, x57, x58, x59, x60, x61, x62, x63, x64, x65, x66, x67, x68, x69, x70, x71, x72, x73, x74, x75, x76, x77, x78, x79, x80, x81, x82, x83, x84, x85, x86, x87, x88, x89, x90, x91, x92, x93, x94, x95, x96, x97, x98, x99, x100, x101, x102, x103, x104, x105, x106, x107, x108, x109, x110, x111], []⟩ W := by
    intro W hb a5 c5 hA a6 c6 hB b3 h3 k3 b4 h4 k4 hne
    refine wpAny_ready (rs := [7]) (by kernel_rfl) (by simp) ?_
    refine AllReady.cons ho7 (fun K hK => ?_) AllReady.nil
    · obtain ⟨y0, y1, yf⟩ := BxZ.f k4
      go_simp
      refine hK _ _ ?_
      exact st01234567_ ((W.setCell ⟨b4, 0, none⟩ (.int .i64 2)).setCell ⟨b4, 1, none⟩ (.slice a6 1 c6)) (gS (gS hb h4 0 (.int .i64 2)) h4 1 (.slice a6 1 c6)) a5 c5 (hA.other ((KeepX.setCell (p := ⟨b4, 0, none⟩) k4 (.int .i64 2)).trans (KeepX.setCell (p := ⟨b4, 1, none⟩) (hS0 (u := .int .i64 2) k4) (.slice a6 1 c6)))) a6 c6 (hB.other ((KeepX.setCell (p := ⟨b4, 0, none⟩) k4 (.int .i64 2)).trans (KeepX.setCell (p := ⟨b4, 1, none⟩) (hS0 (u := .int .i64 2) k4) (.slice a6 1 c6)))) b3 h3 (hSn (hSn k3 hne) hne) b4 h4 (boxSet2' (u := .int .i64 2) (v := .slice a6 1 c6) k4) hne
  have st012345_ : ∀ (W : World) (hb : Below w.heap.size w W) (a5 : Option Addr) (c5 : Nat) (hA : OwAdv W (.agg #[.int .i64 2, .slice a5 1 c5]) 2 (alw1 rdC)) (a6 : Option Addr) (c6 : Nat) (hB : OwAdv W (.agg #[.int .i64 2, .slice a6 1 c6]) 2 (alw1 rdS)) (b3 : Nat) (h3 : w.heap.size ≤ b3) (k3 : BxZ W b3) (b4 : Nat) (h4 : w.heap.size ≤ b4) (k4 : BxZ W b4) (hne : b3 ≠ b4), wpAny Tryz.prog .any opsAw3 Q 2 #[true, true, true, true, true, true, false, false] ⟨#[x0, .pointer (some ⟨p1, 0, none⟩), .pointer (some ⟨p2, 0, none⟩), .pointer (some ⟨b3, 0, none⟩), .pointer (some ⟨b4, 0, none⟩), x5, x6, x7, x8, x9, x10, x11, x12, x13, x14, x15, x16, x17, x18, x19, .agg #[.int .i64 2, .int .i64 3, .int .i64 3, .int .i64 0, .int .i64 0, .int .i64 0, .int .i64 0], .agg #[.int .i64 2, .slice a5 1 c5], .agg #[.int .i64 2, .int .i64 1, .int .i64 2, .int .i64 0, .int .i64 0, .int .i64 0, .int .i64 0], .agg #[.int .i64 2, .slice a6 1 c6], x24, x25, x26, x27, x28, x29, x30, x31, x32, x33, x34, x35, x36, x37, x38, x39, x40, x41, x42, x43, x44, x45, x46, x47, x48, x49, x50, x51, x52, x53, x54, x55, x56, x57, x58, x59, x60, x61, x62, x63, x64, x65, x66, x67, x68, x69, x70, x71, x72, x73, x74, x75, x76, x77, x78, x79, x80, x81, x82, x83, x84, x85, x86, x87, x88, x89, x90, x91, x92, x93, x94, x95, x96, x97, x98, x99, x100, x101, x102, x103, x104, x105, x106, x107, x108, x109, x110, x111], []⟩ W := by
    intro W hb a5 c5 hA a6 c6 hB b3 h3 k3 b4 h4 k4 hne
    refine wpAny_ready (rs := [6]) (by kernel_rfl) (by simp) ?_
    refine AllReady.cons ho6 (fun K hK => ?_) AllReady.nil
    · obtain ⟨y0, y1, yf⟩ := BxZ.f k3
      go_simp
      refine hK _ _ ?_
      exact st0123456_ ((W.setCell ⟨b3, 0, none⟩ (.int .i64 2)).setCell ⟨b3, 1, none⟩ (.slice a5 1 c5)) (gS (gS hb h3 0 (.int .i64 2)) h3 1 (.slice a5 1 c5)) a5 c5 (hA.other ((KeepX.setCell (p := ⟨b3, 0, none⟩) k3 (.int .i64 2)).trans (KeepX.setCell (p := ⟨b3, 1, none⟩) (hS0 (u := .int .i64 2) k3) (.slice a5 1 c5)))) a6 c6 (hB.other ((KeepX.setCell (p := ⟨b3, 0, none⟩) k3 (.int .i64 2)).trans (KeepX.setCell (p := ⟨b3, 1, none⟩) (hS0 (u := .int .i64 2) k3) (.slice a5 1 c5)))) b3 h3 (boxSet2' (u := .int .i64 2) (v := .slice a5 1 c5) k3) b4 h4 (hSn (hSn k4 hne.symm) hne.symm) hne
  have st01234_ : ∀ (W : World) (hb : Below w.heap.size w W) (a5 : Option Addr) (c5 : Nat) (hA : OwAdv W (.agg #[.int .i64 2, .slice a5 1 c5]) 2 (alw1 rdC)) (a6 : Option Addr) (c6 : Nat) (hB : OwAdv W (.agg #[.int .i64 2, .slice a6 1 c6]) 2 (alw1 rdS)) (b3 : Nat) (h3 : w.heap.size ≤ b3) (k3 : BxZ W b3), wpAny Tryz.prog .any opsAw3 Q 3 #[true, true, true, true, true, false, false, false] ⟨#[x0, .pointer (some ⟨p1, 0, none⟩), .pointer (some ⟨p2, 0, none⟩), .pointer (some ⟨b3, 0, none⟩), x4, x5, x6, x7, x8, x9, x10, x11, x12, x13, x14, x15, x16, x17, x18, x19, .agg #[.int .i64 2, .int .i64 3, .int .i64 3, .int .i64 0, .int .i64 0, .int .i64 0, .int .i64 0], .agg #[.int .i64 2, .slice a5 1 c5], .agg #[.int .i64 2, .int .i64 1, .int .i64 2, .int .i64 0, .int .i64 0, .int .i64 0, .int .i64 0], .agg #[.int .i64 2, .slice a6 1 c6], x24, x25, x26, x27, x28, x29, x30, x31, x32, x33, x34, x35, x36, x37, x38, x39, x40, x41, x42, x43, x44, x45, x46, x47, x48, x49, x50, x51, x52, x53, x54, x55, x56, x57, x58, x59, x60, x61, x62, x63, x64, x65, x66, x67, x68, x69, x70, x71, x72, x73, x74, x75, x76, x77, x78, x79, x80, x81, x82, x83, x84, x85, x86, x87, x88, x89, x90, x91, x92, x93, x94, x95, x96, x97, x98, x99, x100, x101, x102, x103, x104, x105, x106, x107, x108, x109, x110, x111], []⟩ W := by
    intro W hb a5 c5 hA a6 c6 hB b3 h3 k3
    refine wpAny_ready (rs := [5]) (by kernel_rfl) (by simp) ?_
    refine AllReady.cons ho5 (fun K hK => ?_) AllReady.nil
    · go_simp
      refine hK _ _ ?_
      exact st012345_ (W.alloc (.cells #[.int .i64 0, .slice none 0 0] 24)) (gA hb _) a5 c5 (hA.keep (gA (Below.refl _ _) _)) a6 c6 (hB.keep (gA (Below.refl _ _) _)) b3 h3 (hAn k3) W.heap.size hb.size (heap_alloc_new _ _) (Nat.ne_of_lt (Array.getElem?_eq_some_iff.1 k3).1)
  have st01235_ : ∀ (W : World) (hb : Below w.heap.size w W) (a5 : Option Addr) (c5 : Nat) (hA : OwAdv W (.agg #[.int .i64 2, .slice a5 1 c5]) 2 (alw1 rdC)) (a6 : Option Addr) (c6 : Nat) (hB : OwAdv W (.agg #[.int .i64 2, .slice a6 1 c6]) 2 (alw1 rdS)) (b4 : Nat) (h4 : w.heap.size ≤ b4) (k4 : BxZ W b4), wpAny Tryz.prog .any opsAw3 Q 3 #[true, true, true, true, false, true, false, false] ⟨#[x0, .pointer (some ⟨p1, 0, none⟩), .pointer (some ⟨p2, 0, none⟩), x3, .pointer (some ⟨b4, 0, none⟩), x5, x6, x7, x8, x9, x10, x11, x12, x13, x14, x15, x16, x17, x18, x19, .agg #[.int .i64 2, .int .i64 3, .int .i64 3, .int .i64 0, .int .i64 0, .int .i64 0, .int .i64 0], .agg #[.int .i64 2, .slice a5 1 c5], .agg #[.int .i64 2, .int .i64 1, .int .i64 2, .int .i64 0, .int .i64 0, .int .i64 0, .int .i64 0], .agg #[.int .i64 2, .slice a6 1 c6], x24, x25, x26, x27, x28, x29, x30, x31, x32, x33, x34, x35, x36, x37, x38, x39, x40, x41, x42, x43, x44, x45, x46, x47, x48, x49, x50, x51, x52, x53, x54, x55, x56, x57, x58, x59, x60, x61, x62, x63, x64, x65, x66, x67, x68, x69, x70, x71, x72, x73, x74, x75, x76, x77, x78, x79, x80, x81, x82, x83, x84, x85, x86, x87, x88, x89, x90, x91, x92, x93, x94, x95, x96, x97, x98, x99, x100, x101, x102, x103, x104, x105, x106, x107, x108, x109, x110, x111], []⟩ W := by
    intro W hb a5 c5 hA a6 c6 hB b4 h4 k4
    refine wpAny_ready (rs := [4]) (by kernel_rfl) (by simp) ?_
    refine AllReady.cons ho4 (fun K hK => ?_) AllReady.nil
    · go_simp
      refine hK _ _ ?_
      exact st012345_ (W.alloc (.cells #[.int .i64 0, .slice none 0 0] 24)) (gA hb _) a5 c5 (hA.keep (gA (Below.refl _ _) _)) a6 c6 (hB.keep (gA (Below.refl _ _) _)) W.heap.size hb.size (heap_alloc_new _ _) b4 h4 (hAn k4) (Nat.ne_of_gt (Array.getElem?_eq_some_iff.1 k4).1)
  have st01245_ : ∀ (W : World) (hb : Below w.heap.size w W) (a5 : Option Addr) (c5 : Nat) (hA : OwAdv W (.agg #[.int .i64 2, .slice a5 1 c5]) 2 (alw1 rdC)) (b3 : Nat) (h3 : w.heap.size ≤ b3) (k3 : BxZ W b3) (b4 : Nat) (h4 : w.heap.size ≤ b4) (k4 : BxZ W b4) (hne : b3 ≠ b4), wpAny Tryz.prog .any opsAw3 Q 3 #[true, true, true, false, true, true, false, false] ⟨#[x0, .pointer (some ⟨p1, 0, none⟩), .pointer (some ⟨p2, 0, none⟩), .pointer (some ⟨b3, 0, none⟩), .pointer (some ⟨b4, 0, none⟩), x5, x6, x7, x8, x9, x10, x11, x12, x13, x14, x15, x16, x17, x18, x19, .agg #[.int .i64 2, .int .i64 3, .int .i64 3, .int .i64 0, .int .i64 0, .int .i64 0, .int .i64 0], .agg #[.int .i64 2, .slice a5 1 c5], .agg #[.int .i64 2, .int .i64 1, .int .i64 2, .int .i64 0, .int .i64 0, .int .i64 0, .int .i64 0], x23, x24, x25, x26, x27, x28, x29, x30, x31, x32, x33, x34, x35, x36, x37, x38, x39, x40, x41, x42, x43, x44, x45, x46, x47, x48, x49, x50, x51, x52, x53, x54, x55, x56, x57, x58, x59, x60, x61, x62, x63, x64, x65, x66, x67, x68, x69, x70, x71, x72, x73, x74, x75, x76, x77, x78, x79, x80, x81, x82, x83, x84, x85, x86, x87, x88, x89, x90, x91, x92, x93, x94, x95, x96, x97, x98, x99, x100, x101, x102, x103, x104, x105, x106, x107, x108, x109, x110, x111], []⟩ W := by
    intro W hb a5 c5 hA b3 h3 k3 b4 h4 k4 hne
    refine wpAny_ready (rs := [3]) (by kernel_rfl) (by simp) ?_
    refine AllReady.cons ho3 (fun K hK => ?_) AllReady.nil
    · go_simp
      go_at_call 28
      (with_reducible refine (HC2.out W).mono ?_)
      rintro e W9 ⟨a6, c6, rfl, hB9, hb9⟩
      dsimp only
      refine hK _ _ ?_
      exact st012345_ W9 (gT hb9 hb) a5 c5 (hA.keep hb9) a6 c6 hB9 b3 h3 (kept hb9 k3) b4 h4 (kept hb9 k4) hne
  have st0123_ : ∀ (W : World) (hb : Below w.heap.size w W) (a5 : Option Addr) (c5 : Nat) (hA : OwAdv W (.agg #[.int .i64 2, .slice a5 1 c5]) 2 (alw1 rdC)) (a6 : Option Addr) (c6 : Nat) (hB : OwAdv W (.agg #[.int .i64 2, .slice a6 1 c6]) 2 (alw1 rdS)), wpAny Tryz.prog .any opsAw3 Q 4 #[true, true, true, true, false, false, false, false] ⟨#[x0, .pointer (some ⟨p1, 0, none⟩), .pointer (some ⟨p2, 0, none⟩), x3, x4, x5, x6, x7, x8, x9, x10, x11, x12, x13, x14, x15, x16, x17, x18, x19, .agg #[.int .i64 2, .int .i64 3, .int .i64 3, .int .i64 0, .int .i64 0, .int .i64 0, .int .i64 0], .agg #[.int .i64 2, .slice a5 1 c5], .agg #[.int .i64 2, .int .i64 1, .int .i64 2, .int .i64 0, .int .i64 0, .int .i64 0, .int .i64 0], .agg #[.int .i64 2, .slice a6 1 c6], x24, x25, x26, x27, x28, x29, x30, x31, x32, x33, x34, x35, x36, x37, x38, x39, x40, x41, x42, x43, x44, x45, x46, x47, x48, x49, x50, x51, x52, x53, x54, x55, x56, x57, x58, x59, x60, x61, x62, x63, x64, x65, x66, x67, x68, x69, x70, x71, x72, x73, x74, x75, x76, x77, x78, x79, x80, x81, x82, x83, x84, x85, x86, x87, x88, x89, x90, x91, x92, x93, x94, x95, x96, x97, x98, x99, x100, x101, x102, x103, x104, x105, x106, x107, x108, x109, x110, x111], []⟩ W := by
    intro W hb a5 c5 hA a6 c6 hB
    refine wpAny_ready (rs := [4, 5]) (by kernel_rfl) (by simp) ?_
    refine AllReady.cons ho4 (fun K hK => ?_) (AllReady.cons ho5 (fun K hK => ?_) AllReady.nil)
    · go_simp
      refine hK _ _ ?_
      exact st01234_ (W.alloc (.cells #[.int .i64 0, .slice none 0 0] 24)) (gA hb _) a5 c5 (hA.keep (gA (Below.refl _ _) _)) a6 c6 (hB.keep (gA (Below.refl _ _) _)) W.heap.size hb.size (heap_alloc_new _ _)
    · go_simp
      refine hK _ _ ?_
      exact st01235_ (W.alloc (.cells #[.int .i64 0, .slice none 0 0] 24)) (gA hb _) a5 c5 (hA.keep (gA (Below.refl _ _) _)) a6 c6 (hB.keep (gA (Below.refl _ _) _)) W.heap.size hb.size (heap_alloc_new _ _)
  have st0124_ : ∀ (W : World) (hb : Below w.heap.size w W) (a5 : Option Addr) (c5 : Nat) (hA : OwAdv W (.agg #[.int .i64 2, .slice a5 1 c5]) 2 (alw1 rdC)) (b3 : Nat) (h3 : w.heap.size ≤ b3) (k3 : BxZ W b3), wpAny Tryz.prog .any opsAw3 Q 4 #[true, true, true, false, true, false, false, false] ⟨#[x0, .pointer (some ⟨p1, 0, none⟩), .pointer (some ⟨p2, 0, none⟩), .pointer (some ⟨b3, 0, none⟩), x4, x5, x6, x7, x8, x9, x10, x11, x12, x13, x14, x15, x16, x17, x18, x19, .agg #[.int .i64 2, .int .i64 3, .int .i64 3, .int .i64 0, .int .i64 0, .int .i64 0, .int .i64 0], .agg #[.int .i64 2, .slice a5 1 c5], .agg #[.int .i64 2, .int .i64 1, .int .i64 2, .int .i64 0, .int .i64 0, .int .i64 0, .int .i64 0], x23, x24, x25, x26, x27, x28, x29, x30, x31, x32, x33, x34, x35, x36, x37, x38, x39, x40, x41, x42, x43, x44, x45, x46, x47, x48, x49, x50, x51, x52, x53, x54, x55, x56, x57, x58, x59, x60, x61, x62, x63, x64, x65, x66, x67, x68, x69, x70, x71, x72, x73, x74, x75, x76, x77, x78, x79, x80, x81, x82, x83, x84, x85, x86, x87, x88, x89, x90, x91, x92, x93, x94, x95, x96, x97, x98, x99, x100, x101, x102, x103, x104, x105, x106, x107, x108, x109, x110, x111], []⟩ W := by
    intro W hb a5 c5 hA b3 h3 k3
    refine wpAny_ready (rs := [3, 5]) (by kernel_rfl) (by simp) ?_
    refine AllReady.cons ho3 (fun K hK => ?_) (AllReady.cons ho5 (fun K hK => ?_) AllReady.nil)
    · go_simp
      go_at_call 28
      (with_reducible refine (HC2.out W).mono ?_)
      rintro e W9 ⟨a6, c6, rfl, hB9, hb9⟩
      dsimp only
      refine hK _ _ ?_
      exact st01234_ W9 (gT hb9 hb) a5 c5 (hA.keep hb9) a6 c6 hB9 b3 h3 (kept hb9 k3)
    · go_simp
      refine hK _ _ ?_
      exact st01245_ (W.alloc (.cells #[.int .i64 0, .slice none 0 0] 24)) (gA hb _) a5 c5 (hA.keep (gA (Below.refl _ _) _)) b3 h3 (hAn k3) W.heap.size hb.size (heap_alloc_new _ _) (Nat.ne_of_lt (Array.getElem?_eq_some_iff.1 k3).1)
  have st0125_ : ∀ (W : World) (hb : Below w.heap.size w W) (a5 : Option Addr) (c5 : Nat) (hA : OwAdv W (.agg #[.int .i64 2, .slice a5 1 c5]) 2 (alw1 rdC)) (b4 : Nat) (h4 : w.heap.size ≤ b4) (k4 : BxZ W b4), wpAny Tryz.prog .any opsAw3 Q 4 #[true, true, true, false, false, true, false, false] ⟨#[x0, .pointer (some ⟨p1, 0, none⟩), .pointer (some ⟨p2, 0, none⟩), x3, .pointer (some ⟨b4, 0, none⟩), x5, x6, x7, x8, x9, x10, x11, x12, x13, x14, x15, x16, x17, x18, x19, .agg #[.int .i64 2, .int .i64 3, .int .i64 3, .int .i64 0, .int .i64 0, .int .i64 0, .int .i64 0], .agg #[.int .i64 2, .slice a5 1 c5], .agg #[.int .i64 2, .int .i64 1, .int .i64 2, .int .i64 0, .int .i64 0, .int .i64 0, .int .i64 0], x23, x24, x25, x26, x27, x28, x29, x30, x31, x32, x33, x34, x35, x36, x37, x38, x39, x40, x41, x42, x43, x44, x45, x46, x47, x48, x49, x50, x51, x52, x53, x54, x55, x56, x57, x58, x59, x60, x61, x62, x63, x64, x65, x66, x67, x68, x69, x70, x71, x72, x73, x74, x75, x76, x77, x78, x79, x80, x81, x82, x83, x84, x85, x86, x87, x88, x89, x90, x91, x92, x93, x94, x95, x96, x97, x98, x99, x100, x101, x102, x103, x104, x105, x106, x107, x108, x109, x110, x111], []⟩ W := by
    intro W hb a5 c5 hA b4 h4 k4
    refine wpAny_ready (rs := [3, 4]) (by kernel_rfl) (by simp) ?_
    refine AllReady.cons ho3 (fun K hK => ?_) (AllReady.cons ho4 (fun K hK => ?_) AllReady.nil)
    · go_simp
      go_at_call 28
      (with_reducible refine (HC2.out W).mono ?_)
      rintro e W9 ⟨a6, c6, rfl, hB9, hb9⟩
      dsimp only
      refine hK _ _ ?_
      exact st01235_ W9 (gT hb9 hb) a5 c5 (hA.keep hb9) a6 c6 hB9 b4 h4 (kept hb9 k4)
    · go_simp
      refine hK _ _ ?_
      exact st01245_ (W.alloc (.cells #[.int .i64 0, .slice none 0 0] 24)) (gA hb _) a5 c5 (hA.keep (gA (Below.refl _ _) _)) W.heap.size hb.size (heap_alloc_new _ _) b4 h4 (hAn k4) (Nat.ne_of_gt (Array.getElem?_eq_some_iff.1 k4).1)
  have st0145_ : ∀ (W : World) (hb : Below w.heap.size w W) (a5 : Option Addr) (c5 : Nat) (hA : OwAdv W (.agg #[.int .i64 2, .slice a5 1 c5]) 2 (alw1 rdC)) (b3 : Nat) (h3 : w.heap.size ≤ b3) (k3 : BxZ W b3) (b4 : Nat) (h4 : w.heap.size ≤ b4) (k4 : BxZ W b4) (hne : b3 ≠ b4), wpAny Tryz.prog .any opsAw3 Q 4 #[true, true, false, false, true, true, false, false] ⟨#[x0, .pointer (some ⟨p1, 0, none⟩), .pointer (some ⟨p2, 0, none⟩), .pointer (some ⟨b3, 0, none⟩), .pointer (some ⟨b4, 0, none⟩), x5, x6, x7, x8, x9, x10, x11, x12, x13, x14, x15, x16, x17, x18, x19, .agg #[.int .i64 2, .int .i64 3, .int .i64 3, .int .i64 0, .int .i64 0, .int .i64 0, .int .i64 0], .agg #[.int .i64 2, .slice a5 1 c5], x22, x23, x24, x25, x26, x27, x28, x29, x30, x31, x32, x33, x34, x35, x36, x37, x38, x39, x40, x41, x42, x43, x44, x45, x46, x47, x48, x49, x50, x51, x52, x53, x54, x55, x56, x57, x58, x59, x60, x61, x62, x63, x64, x65, x66, x67, x68, x69, x70, x71, x72, x73, x74, x75, x76, x77, x78, x79, x80, x81, x82, x83, x84, x85, x86, x87, x88, x89, x90, x91, x92, x93, x94, x95, x96, x97, x98, x99, x100, x101, x102, x103, x104, x105, x106, x107, x108, x109, x110, x111], []⟩ W := by
    intro W hb a5 c5 hA b3 h3 k3 b4 h4 k4 hne
    refine wpAny_ready (rs := [2]) (by kernel_rfl) (by simp) ?_
    refine AllReady.cons ho2 (fun K hK => ?_) AllReady.nil
    · obtain ⟨⟨_, s0, s1, s2, s3, s4, s5, s6⟩, ⟨_, d0, d1, d2, d3, d4, d5, d6⟩⟩ := hR.out W hb
      go_simp
      refine hK _ _ ?_
      exact st01245_ W hb a5 c5 hA b3 h3 k3 b4 h4 k4 hne
  have st0245_ : ∀ (W : World) (hb : Below w.heap.size w W) (b3 : Nat) (h3 : w.heap.size ≤ b3) (k3 : BxZ W b3) (b4 : Nat) (h4 : w.heap.size ≤ b4) (k4 : BxZ W b4) (hne : b3 ≠ b4), wpAny Tryz.prog .any opsAw3 Q 4 #[true, false, true, false, true, true, false, false] ⟨#[x0, .pointer (some ⟨p1, 0, none⟩), .pointer (some ⟨p2, 0, none⟩), .pointer (some ⟨b3, 0, none⟩), .pointer (some ⟨b4, 0, none⟩), x5, x6, x7, x8, x9, x10, x11, x12, x13, x14, x15, x16, x17, x18, x19, .agg #[.int .i64 2, .int .i64 3, .int .i64 3, .int .i64 0, .int .i64 0, .int .i64 0, .int .i64 0], x21, .agg #[.int .i64 2, .int .i64 1, .int .i64 2, .int .i64 0, .int .i64 0, .int .i64 0, .int .i64 0], x23, x24, x25, x26, x27, x28, x29, x30, x31, x32, x33, x34, x35, x36, x37, x38, x39, x40, x41, x42, x43, x44, x45, x46, x47, x48, x49, x50, x51, x52, x53, x54, x55, x56, x57, x58, x59, x60, x61, x62, x63, x64, x65, x66, x67, x68, x69, x70, x71, x72, x73, x74, x75, x76, x77, x78, x79, x80, x81, x82, x83, x84, x85, x86, x87, x88, x89, x90, x91, x92, x93, x94, x95, x96, x97, x98, x99, x100, x101, x102, x103, x104, x105, x106, x107, x108, x109, x110, x111], []⟩ W := by
    intro W hb b3 h3 k3 b4 h4 k4 hne
    refine wpAny_ready (rs := [1]) (by kernel_rfl) (by simp) ?_
    refine AllReady.cons ho1 (fun K hK => ?_) AllReady.nil
    · go_simp
      go_at_call 28
      (with_reducible refine (HC1.out W).mono ?_)
      rintro e W9 ⟨a5, c5, rfl, hA9, hb9⟩
      dsimp only
      refine hK _ _ ?_
      exact st01245_ W9 (gT hb9 hb) a5 c5 hA9 b3 h3 (kept hb9 k3) b4 h4 (kept hb9 k4) hne
  have st012_ : ∀ (W : World) (hb : Below w.heap.size w W) (a5 : Option Addr) (c5 : Nat) (hA : OwAdv W (.agg #[.int .i64 2, .slice a5 1 c5]) 2 (alw1 rdC)), wpAny Tryz.prog .any opsAw3 Q 5 #[true, true, true, false, false, false, false, false] ⟨#[x0, .pointer (some ⟨p1, 0, none⟩), .pointer (some ⟨p2, 0, none⟩), x3, x4, x5, x6, x7, x8, x9, x10, x11, x12, x13, x14, x15, x16, x17, x18, x19, .agg #[.int .i64 2, .int .i64 3, .int .i64 3, .int .i64 0, .int .i64 0, .int .i64 0, .int .i64 0], .agg #[.int .i64 2, .slice a5 1 c5], .agg #[.int .i64 2, .int .i64 1, .int .i64 2, .int .i64 0, .int .i64 0, .int .i64 0, .int .i64 0], x23, x24, x25, x26, x27, x28, x29, x30, x31, x32, x33, x34, x35, x36, x37, x38, x39, x40, x41, x42, x43, x44, x45, x46, x47, x48, x49, x50, x51, x52, x53, x54, x55, x56, x57, x58, x59, x60, x61, x62, x63, x64, x65, x66, x67, x68, x69, x70, x71, x72, x73, x74, x75, x76, x77, x78, x79, x80, x81, x82, x83, x84, x85, x86, x87, x88, x89, x90, x91, x92, x93, x94, x95, x96, x97, x98, x99, x100, x101, x102, x103, x104, x105, x106, x107, x108, x109, x110, x111], []⟩ W := by
    intro W hb a5 c5 hA
    refine wpAny_ready (rs := [3, 4, 5]) (by kernel_rfl) (by simp) ?_
    refine AllReady.cons ho3 (fun K hK => ?_) (AllReady.cons ho4 (fun K hK => ?_) (AllReady.cons ho5 (fun K hK => ?_) AllReady.nil))
    · go_simp
      go_at_call 28
      (with_reducible refine (HC2.out W).mono ?_)
      rintro e W9 ⟨a6, c6, rfl, hB9, hb9⟩
      dsimp only
      refine hK _ _ ?_
      exact st0123_ W9 (gT hb9 hb) a5 c5 (hA.keep hb9) a6 c6 hB9
    · go_simp
      refine hK _ _ ?_
      exact st0124_ (W.alloc (.cells #[.int .i64 0, .slice none 0 0] 24)) (gA hb _) a5 c5 (hA.keep (gA (Below.refl _ _) _)) W.heap.size hb.size (heap_alloc_new _ _)
    · go_simp
      refine hK _ _ ?_
      exact st0125_ (W.alloc (.cells #[.int .i64 0, .slice none 0 0] 24)) (gA hb _) a5 c5 (hA.keep (gA (Below.refl _ _) _)) W.heap.size hb.size (heap_alloc_new _ _)
  have st014_ : ∀ (W : World) (hb : Below w.heap.size w W) (a5 : Option Addr) (c5 : Nat) (hA : OwAdv W (.agg #[.int .i64 2, .slice a5 1 c5]) 2 (alw1 rdC)) (b3 : Nat) (h3 : w.heap.size ≤ b3) (k3 : BxZ W b3), wpAny Tryz.prog .any opsAw3 Q 5 #[true, true, false, false, true, false, false, false] ⟨#[x0, .pointer (some ⟨p1, 0, none⟩), .pointer (some ⟨p2, 0, none⟩), .pointer (some ⟨b3, 0, none⟩), x4, x5, x6, x7, x8, x9, x10, x11, x12, x13, x14, x15, x16, x17, x18, x19, .agg #[.int .i64 2, .int .i64 3, .int .i64 3, .int .i64 0, .int .i64 0, .int .i64 0, .int .i64 0], .agg #[.int .i64 2, .slice a5 1 c5], x22, x23, x24, x25, x26, x27, x28, x29, x30, x31, x32, x33, x34, x35, x36, x37, x38, x39, x40, x41, x42, x43, x44, x45, x46, x47, x48, x49, x50, x51, x52, x53, x54, x55, x56, x57, x58, x59, x60, x61, x62, x63, x64, x65, x66, x67, x68, x69, x70, x71, x72, x73, x74, x75, x76, x77, x78, x79, x80, x81, x82, x83, x84, x85, x86, x87, x88, x89, x90, x91, x92, x93, x94, x95, x96, x97, x98, x99, x100, x101, x102, x103, x104, x105, x106, x107, x108, x109, x110, x111], []⟩ W := by
    intro W hb a5 c5 hA b3 h3 k3
    refine wpAny_ready (rs := [2, 5]) (by kernel_rfl) (by simp) ?_
    refine AllReady.cons ho2 (fun K hK => ?_) (AllReady.cons ho5 (fun K hK => ?_) AllReady.nil)
    · obtain ⟨⟨_, s0, s1, s2, s3, s4, s5, s6⟩, ⟨_, d0, d1, d2, d3, d4, d5, d6⟩⟩ := hR.out W hb
      go_simp
      refine hK _ _ ?_
      exact st0124_ W hb a5 c5 hA b3 h3 k3
    · go_simp
      refine hK _ _ ?_
      exact st0145_ (W.alloc (.cells #[.int .i64 0, .slice none 0 0] 24)) (gA hb _) a5 c5 (hA.keep (gA (Below.refl _ _) _)) b3 h3 (hAn k3) W.heap.size hb.size (heap_alloc_new _ _) (Nat.ne_of_lt (Array.getElem?_eq_some_iff.1 k3).1)
  have st015_ : ∀ (W : World) (hb : Below w.heap.size w W) (a5 : Option Addr) (c5 : Nat) (hA : OwAdv W (.agg #[.int .i64 2, .slice a5 1 c5]) 2 (alw1 rdC)) (b4 : Nat) (h4 : w.heap.size ≤ b4) (k4 : BxZ W b4), wpAny Tryz.prog .any opsAw3 Q 5 #[true, true, false, false, false, true, false, false] ⟨#[x0, .pointer (some ⟨p1, 0, none⟩), .pointer (some ⟨p2, 0, none⟩), x3, .pointer (some ⟨b4, 0, none⟩), x5, x6, x7, x8, x9, x10, x11, x12, x13, x14, x15, x16, x17, x18, x19, .agg #[.int .i64 2, .int .i64 3, .int .i64 3, .int .i64 0, .int .i64 0, .int .i64 0, .int .i64 0], .agg #[.int .i64 2, .slice a5 1 c5], x22, x23, x24, x25, x26, x27, x28, x29, x30, x31, x32, x33, x34, x35, x36, x37, x38, x39, x40, x41, x42, x43, x44, x45, x46, x47, x48, x49, x50, x51, x52, x53, x54, x55, x56, x57, x58, x59, x60, x61, x62, x63, x64, x65, x66, x67, x68, x69, x70, x71, x72, x73, x74, x75, x76, x77, x78, x79, x80, x81, x82, x83, x84, x85, x86, x87, x88, x89, x90, x91, x92, x93, x94, x95, x96, x97, x98, x99, x100, x101, x102, x103, x104, x105, x106, x107, x108, x109, x110, x111], []⟩ W := by
    intro W hb a5 c5 hA b4 h4 k4
    refine wpAny_ready (rs := [2, 4]) (by kernel_rfl) (by simp) ?_
    refine AllReady.cons ho2 (fun K hK => ?_) (AllReady.cons ho4 (fun K hK => ?_) AllReady.nil)
    · obtain ⟨⟨_, s0, s1, s2, s3, s4, s5, s6⟩, ⟨_, d0, d1, d2, d3, d4, d5, d6⟩⟩ := hR.out W hb
      go_simp
      refine hK _ _ ?_
      exact st0125_ W hb a5 c5 hA b4 h4 k4
    · go_simp
      refine hK _ _ ?_
      exact st0145_ (W.alloc (.cells #[.int .i64 0, .slice none 0 0] 24)) (gA hb _) a5 c5 (hA.keep (gA (Below.refl _ _) _)) W.heap.size hb.size (heap_alloc_new _ _) b4 h4 (hAn k4) (Nat.ne_of_gt (Array.getElem?_eq_some_iff.1 k4).1)
  have st024_ : ∀ (W : World) (hb : Below w.heap.size w W) (b3 : Nat) (h3 : w.heap.size ≤ b3) (k3 : BxZ W b3), wpAny Tryz.prog .any opsAw3 Q 5 #[true, false, true, false, true, false, false, false] ⟨#[x0, .pointer (some ⟨p1, 0, none⟩), .pointer (some ⟨p2, 0, none⟩), .pointer (some ⟨b3, 0, none⟩), x4, x5, x6, x7, x8, x9, x10, x11, x12, x13, x14, x15, x16, x17, x18, x19, .agg #[.int .i64 2, .int .i64 3, .int .i64 3, .int .i64 0, .int .i64 0, .int .i64 0, .int .i64 0], x21, .agg #[.int .i64 2, .int .i64 1, .int .i64 2, .int .i64 0, .int .i64 0, .int .i64 0, .int .i64 0], x23, x24, x25, x26, x27, x28, x29, x30, x31, x32, x33, x34, x35, x36, x37, x38, x39, x40, x41, x42, x43, x44, x45, x46, x47, x48, x49, x50, x51, x52, x53, x54, x55, x56, x57, x58, x59, x60, x61, x62, x63, x64, x65, x66, x67, x68, x69, x70, x71, x72, x73, x74, x75, x76, x77, x78, x79, x80, x81, x82, x83, x84, x85, x86, x87, x88, x89, x90, x91, x92, x93, x94, x95, x96, x97, x98, x99, x100, x101, x102, x103, x104, x105, x106, x107, x108, x109, x110, x111], []⟩ W := by
    intro W hb b3 h3 k3
    refine wpAny_ready (rs := [1, 5]) (by kernel_rfl) (by simp) ?_
    refine AllReady.cons ho1 (fun K hK => ?_) (AllReady.cons ho5 (fun K hK => ?_) AllReady.nil)
    · go_simp
      go_at_call 28
      (with_reducible refine (HC1.out W).mono ?_)
      rintro e W9 ⟨a5, c5, rfl, hA9, hb9⟩
      dsimp only
      refine hK _ _ ?_
      exact st0124_ W9 (gT hb9 hb) a5 c5 hA9 b3 h3 (kept hb9 k3)
    · go_simp
      refine hK _ _ ?_
      exact st0245_ (W.alloc (.cells #[.int .i64 0, .slice none 0 0] 24)) (gA hb _) b3 h3 (hAn k3) W.heap.size hb.size (heap_alloc_new _ _) (Nat.ne_of_lt (Array.getElem?_eq_some_iff.1 k3).1)
  have st025_ : ∀ (W : World) (hb : Below w.heap.size w W) (b4 : Nat) (h4 : w.heap.size ≤ b4) (k4 : BxZ W b4), wpAny Tryz.prog .any opsAw3 Q 5 #[true, false, true, false, false, true, false, false] ⟨#[x0, .pointer (some ⟨p1, 0, none⟩), .pointer (some ⟨p2, 0, none⟩), x3, .pointer (some ⟨b4, 0, none⟩), x5, x6, x7, x8, x9, x10, x11, x12, x13, x14, x15, x16, x17, x18, x19, .agg #[.int .i64 2, .int .i64 3, .int .i64 3, .int .i64 0, .int .i64 0, .int .i64 0, .int .i64 0], x21, .agg #[.int .i64 2, .int .i64 1, .int .i64 2, .int .i64 0, .int .i64 0, .int .i64 0, .int .i64 0], x23, x24, x25, x26, x27, x28, x29, x30, x31, x32, x33, x34, x35, x36, x37, x38, x39, x40, x41, x42, x43, x44, x45, x46, x47, x48, x49, x50, x51, x52, x53, x54, x55, x56, x57, x58, x59, x60, x61, x62, x63, x64, x65, x66, x67, x68, x69, x70, x71, x72, x73, x74, x75, x76, x77, x78, x79, x80, x81, x82, x83, x84, x85, x86, x87, x88, x89, x90, x91, x92, x93, x94, x95, x96, x97, x98, x99, x100, x101, x102, x103, x104, x105, x106, x107, x108, x109, x110, x111], []⟩ W := by
    intro W hb b4 h4 k4
    refine wpAny_ready (rs := [1, 4]) (by kernel_rfl) (by simp) ?_
    refine AllReady.cons ho1 (fun K hK => ?_) (AllReady.cons ho4 (fun K hK => ?_) AllReady.nil)
    · go_simp
      go_at_call 28
      (with_reducible refine (HC1.out W).mono ?_)
      rintro e W9 ⟨a5, c5, rfl, hA9, hb9⟩
      dsimp only
      refine hK _ _ ?_
      exact st0125_ W9 (gT hb9 hb) a5 c5 hA9 b4 h4 (kept hb9 k4)
    · go_simp
      refine hK _ _ ?_
      exact st0245_ (W.alloc (.cells #[.int .i64 0, .slice none 0 0] 24)) (gA hb _) W.heap.size hb.size (heap_alloc_new _ _) b4 h4 (hAn k4) (Nat.ne_of_gt (Array.getElem?_eq_some_iff.1 k4).1)
  have st045_ : ∀ (W : World) (hb : Below w.heap.size w W) (b3 : Nat) (h3 : w.heap.size ≤ b3) (k3 : BxZ W b3) (b4 : Nat) (h4 : w.heap.size ≤ b4) (k4 : BxZ W b4) (hne : b3 ≠ b4), wpAny Tryz.prog .any opsAw3 Q 5 #[true, false, false, false, true, true, false, false] ⟨#[x0, .pointer (some ⟨p1, 0, none⟩), .pointer (some ⟨p2, 0, none⟩), .pointer (some ⟨b3, 0, none⟩), .pointer (some ⟨b4, 0, none⟩), x5, x6, x7, x8, x9, x10, x11, x12, x13, x14, x15, x16, x17, x18, x19, .agg #[.int .i64 2, .int .i64 3, .int .i64 3, .int .i64 0, .int .i64 0, .int .i64 0, .int .i64 0], x21, x22, x23, x24, x25, x26, x27, x28, x29, x30, x31, x32, x33, x34, x35, x36, x37, x38, x39, x40, x41, x42, x43, x44, x45, x46, x47, x48, x49, x50, x51, x52, x53, x54, x55, x56, x57, x58, x59, x60, x61, x62, x63, x64, x65, x66, x67, x68, x69, x70, x71, x72, x73, x74, x75, x76, x77, x78, x79, x80, x81, x82, x83, x84, x85, x86, x87, x88, x89, x90, x91, x92, x93, x94, x95, x96, x97, x98, x99, x100, x101, x102, x103, x104, x105, x106, x107, x108, x109, x110, x111], []⟩ W := by
    intro W hb b3 h3 k3 b4 h4 k4 hne
    refine wpAny_ready (rs := [1, 2]) (by kernel_rfl) (by simp) ?_
    refine AllReady.cons ho1 (fun K hK => ?_) (AllReady.cons ho2 (fun K hK => ?_) AllReady.nil)
    · go_simp
      go_at_call 28
      (with_reducible refine (HC1.out W).mono ?_)
      rintro e W9 ⟨a5, c5, rfl, hA9, hb9⟩
      dsimp only
      refine hK _ _ ?_
      exact st0145_ W9 (gT hb9 hb) a5 c5 hA9 b3 h3 (kept hb9 k3) b4 h4 (kept hb9 k4) hne
    · obtain ⟨⟨_, s0, s1, s2, s3, s4, s5, s6⟩, ⟨_, d0, d1, d2, d3, d4, d5, d6⟩⟩ := hR.out W hb
      go_simp
      refine hK _ _ ?_
      exact st0245_ W hb b3 h3 k3 b4 h4 k4 hne
  have st245_ : ∀ (W : World) (hb : Below w.heap.size w W) (b3 : Nat) (h3 : w.heap.size ≤ b3) (k3 : BxZ W b3) (b4 : Nat) (h4 : w.heap.size ≤ b4) (k4 : BxZ W b4) (hne : b3 ≠ b4), wpAny Tryz.prog .any opsAw3 Q 5 #[false, false, true, false, true, true, false, false] ⟨#[x0, .pointer (some ⟨p1, 0, none⟩), .pointer (some ⟨p2, 0, none⟩), .pointer (some ⟨b3, 0, none⟩), .pointer (some ⟨b4, 0, none⟩), x5, x6, x7, x8, x9, x10, x11, x12, x13, x14, x15, x16, x17, x18, x19, x20, x21, .agg #[.int .i64 2, .int .i64 1, .int .i64 2, .int .i64 0, .int .i64 0, .int .i64 0, .int .i64 0], x23, x24, x25, x26, x27, x28, x29, x30, x31, x32, x33, x34, x35, x36, x37, x38, x39, x40, x41, x42, x43, x44, x45, x46, x47, x48, x49, x50, x51, x52, x53, x54, x55, x56, x57, x58, x59, x60, x61, x62, x63, x64, x65, x66, x67, x68, x69, x70, x71, x72, x73, x74, x75, x76, x77, x78, x79, x80, x81, x82, x83, x84, x85, x86, x87, x88, x89, x90, x91, x92, x93, x94, x95, x96, x97, x98, x99, x100, x101, x102, x103, x104, x105, x106, x107, x108, x109, x110, x111], []⟩ W := by
    intro W hb b3 h3 k3 b4 h4 k4 hne
    refine wpAny_ready (rs := [0]) (by kernel_rfl) (by simp) ?_
    refine AllReady.cons ho0 (fun K hK => ?_) AllReady.nil
    · obtain ⟨⟨_, s0, s1, s2, s3, s4, s5, s6⟩, ⟨_, d0, d1, d2, d3, d4, d5, d6⟩⟩ := hR.out W hb
      go_simp
      refine hK _ _ ?_
      exact st0245_ W hb b3 h3 k3 b4 h4 k4 hne
  have st01_ : ∀ (W : World) (hb : Below w.heap.size w W) (a5 : Option Addr) (c5 : Nat) (hA : OwAdv W (.agg #[.int .i64 2, .slice a5 1 c5]) 2 (alw1 rdC)), wpAny Tryz.prog .any opsAw3 Q 6 #[true, true, false, false, false, false, false, false] ⟨#[x0, .pointer (some ⟨p1, 0, none⟩), .pointer (some ⟨p2, 0, none⟩), x3, x4, x5, x6, x7, x8, x9, x10, x11, x12, x13, x14, x15, x16, x17, x18, x19, .agg #[.int .i64 2, .int .i64 3, .int .i64 3, .int .i64 0, .int .i64 0, .int .i64 0, .int .i64 0], .agg #[.int .i64 2, .slice a5 1 c5], x22, x23, x24, x25, x26, x27, x28, x29, x30, x31, x32, x33, x34, x35, x36, x37, x38, x39, x40, x41, x42, x43, x44, x45, x46, x47, x48, x49, x50, x51, x52, x53, x54, x55, x56, x57, x58, x59, x60, x61, x62, x63, x64, x65, x66, x67, x68, x69, x70, x71, x72, x73, x74, x75, x76, x77, x78, x79, x80, x81, x82, x83, x84, x85, x86, x87, x88, x89, x90, x91, x92, x93, x94, x95, x96, x97, x98, x99, x100, x101, x102, x103, x104, x105, x106, x107, x108, x109, x110, x111], []⟩ W := by
    intro W hb a5 c5 hA
    refine wpAny_ready (rs := [2, 4, 5]) (by kernel_rfl) (by simp) ?_
    refine AllReady.cons ho2 (fun K hK => ?_) (AllReady.cons ho4 (fun K hK => ?_) (AllReady.cons ho5 (fun K hK => ?_) AllReady.nil))
    · obtain ⟨⟨_, s0, s1, s2, s3, s4, s5, s6⟩, ⟨_, d0, d1, d2, d3, d4, d5, d6⟩⟩ := hR.out W hb
      go_simp
      refine hK _ _ ?_
      exact st012_ W hb a5 c5 hA
    · go_simp
      refine hK _ _ ?_
      exact st014_ (W.alloc (.cells #[.int .i64 0, .slice none 0 0] 24)) (gA hb _) a5 c5 (hA.keep (gA (Below.refl _ _) _)) W.heap.size hb.size (heap_alloc_new _ _)
    · go_simp
      refine hK _ _ ?_
      exact st015_ (W.alloc (.cells #[.int .i64 0, .slice none 0 0] 24)) (gA hb _) a5 c5 (hA.keep (gA (Below.refl _ _) _)) W.heap.size hb.size (heap_alloc_new _ _)
  have st02_ : ∀ (W : World) (hb : Below w.heap.size w W), wpAny Tryz.prog .any opsAw3 Q 6 #[true, false, true, false, false, false, false, false] ⟨#[x0, .pointer (some ⟨p1, 0, none⟩), .pointer (some ⟨p2, 0, none⟩), x3, x4, x5, x6, x7, x8, x9, x10, x11, x12, x13, x14, x15, x16, x17, x18, x19, .agg #[.int .i64 2, .int .i64 3, .int .i64 3, .int .i64 0, .int .i64 0, .int .i64 0, .int .i64 0], x21, .agg #[.int .i64 2, .int .i64 1, .int .i64 2, .int .i64 0, .int .i64 0, .int .i64 0, .int .i64 0], x23, x24, x25, x26, x27, x28, x29, x30, x31, x32, x33, x34, x35, x36, x37, x38, x39, x40, x41, x42, x43, x44, x45, x46, x47, x48, x49, x50, x51, x52, x53, x54, x55, x56, x57, x58, x59, x60, x61, x62, x63, x64, x65, x66, x67, x68, x69, x70, x71, x72, x73, x74, x75, x76, x77, x78, x79, x80, x81, x82, x83, x84, x85, x86, x87, x88, x89, x90, x91, x92, x93, x94, x95, x96, x97, x98, x99, x100, x101, x102, x103, x104, x105, x106, x107, x108, x109, x110, x111], []⟩ W := by
    intro W hb
    refine wpAny_ready (rs := [1, 4, 5]) (by kernel_rfl) (by simp) ?_
    refine AllReady.cons ho1 (fun K hK => ?_) (AllReady.cons ho4 (fun K hK => ?_) (AllReady.cons ho5 (fun K hK => ?_) AllReady.nil))
    · go_simp
      go_at_call 28
      (with_reducible refine (HC1.out W).mono ?_)
      rintro e W9 ⟨a5, c5, rfl, hA9, hb9⟩
      dsimp only
      refine hK _ _ ?_
      exact st012_ W9 (gT hb9 hb) a5 c5 hA9
    · go_simp
      refine hK _ _ ?_
      exact st024_ (W.alloc (.cells #[.int .i64 0, .slice none 0 0] 24)) (gA hb _) W.heap.size hb.size (heap_alloc_new _ _)
    · go_simp
      refine hK _ _ ?_
      exact st025_ (W.alloc (.cells #[.int .i64 0, .slice none 0 0] 24)) (gA hb _) W.heap.size hb.size (heap_alloc_new _ _)
  have st04_ : ∀ (W : World) (hb : Below w.heap.size w W) (b3 : Nat) (h3 : w.heap.size ≤ b3) (k3 : BxZ W b3), wpAny Tryz.prog .any opsAw3 Q 6 #[true, false, false, false, true, false, false, false] ⟨#[x0, .pointer (some ⟨p1, 0, none⟩), .pointer (some ⟨p2, 0, none⟩), .pointer (some ⟨b3, 0, none⟩), x4, x5, x6, x7, x8, x9, x10, x11, x12, x13, x14, x15, x16, x17, x18, x19, .agg #[.int .i64 2, .int .i64 3, .int .i64 3, .int .i64 0, .int .i64 0, .int .i64 0, .int .i64 0], x21, x22, x23, x24, x25, x26, x27, x28, x29, x30, x31, x32, x33, x34, x35, x36, x37, x38, x39, x40, x41, x42, x43, x44, x45, x46, x47, x48, x49, x50, x51, x52, x53, x54, x55, x56, x57, x58, x59, x60, x61, x62, x63, x64, x65, x66, x67, x68, x69, x70, x71, x72, x73, x74, x75, x76, x77, x78, x79, x80, x81, x82, x83, x84, x85, x86, x87, x88, x89, x90, x91, x92, x93, x94, x95, x96, x97, x98, x99, x100, x101, x102, x103, x104, x105, x106, x107, x108, x109, x110, x111], []⟩ W := by
    intro W hb b3 h3 k3
    refine wpAny_ready (rs := [1, 2, 5]) (by kernel_rfl) (by simp) ?_
    refine AllReady.cons ho1 (fun K hK => ?_) (AllReady.cons ho2 (fun K hK => ?_) (AllReady.cons ho5 (fun K hK => ?_) AllReady.nil))
    · go_simp
      go_at_call 28
      (with_reducible refine (HC1.out W).mono ?_)
      rintro e W9 ⟨a5, c5, rfl, hA9, hb9⟩
      dsimp only
      refine hK _ _ ?_
      exact st014_ W9 (gT hb9 hb) a5 c5 hA9 b3 h3 (kept hb9 k3)
    · obtain ⟨⟨_, s0, s1, s2, s3, s4, s5, s6⟩, ⟨_, d0, d1, d2, d3, d4, d5, d6⟩⟩ := hR.out W hb
      go_simp
      refine hK _ _ ?_
      exact st024_ W hb b3 h3 k3
    · go_simp
      refine hK _ _ ?_
      exact st045_ (W.alloc (.cells #[.int .i64 0, .slice none 0 0] 24)) (gA hb _) b3 h3 (hAn k3) W.heap.size hb.size (heap_alloc_new _ _) (Nat.ne_of_lt (Array.getElem?_eq_some_iff.1 k3).1)
  have st05_ : ∀ (W : World) (hb : Below w.heap.size w W) (b4 : Nat) (h4 : w.heap.size ≤ b4) (k4 : BxZ W b4), wpAny Tryz.prog .any opsAw3 Q 6 #[true, false, false, false, false, true, false, false] ⟨#[x0, .pointer (some ⟨p1, 0, none⟩), .pointer (some ⟨p2, 0, none⟩), x3, .pointer (some ⟨b4, 0, none⟩), x5, x6, x7, x8, x9, x10, x11, x12, x13, x14, x15, x16, x17, x18, x19, .agg #[.int .i64 2, .int .i64 3, .int .i64 3, .int .i64 0, .int .i64 0, .int .i64 0, .int .i64 0], x21, x22, x23, x24, x25, x26, x27, x28, x29, x30, x31, x32, x33, x34, x35, x36, x37, x38, x39, x40, x41, x42, x43, x44, x45, x46, x47, x48, x49, x50, x51, x52, x53, x54, x55, x56, x57, x58, x59, x60, x61, x62, x63, x64, x65, x66, x67, x68, x69, x70, x71, x72, x73, x74, x75, x76, x77, x78, x79, x80, x81, x82, x83, x84, x85, x86, x87, x88, x89, x90, x91, x92, x93, x94, x95, x96, x97, x98, x99, x100, x101, x102, x103, x104, x105, x106, x107, x108, x109, x110, x111], []⟩ W := by
    intro W hb b4 h4 k4
    refine wpAny_ready (rs := [1, 2, 4]) (by kernel_rfl) (by simp) ?_
    refine AllReady.cons ho1 (fun K hK => ?_) (AllReady.cons ho2 (fun K hK => ?_) (AllReady.cons ho4 (fun K hK => ?_) AllReady.nil))
    · go_simp
      go_at_call 28
      (with_reducible refine (HC1.out W).mono ?_)
      rintro e W9 ⟨a5, c5, rfl, hA9, hb9⟩
      dsimp only
      refine hK _ _ ?_
      exact st015_ W9 (gT hb9 hb) a5 c5 hA9 b4 h4 (kept hb9 k4)
    · obtain ⟨⟨_, s0, s1, s2, s3, s4, s5, s6⟩, ⟨_, d0, d1, d2, d3, d4, d5, d6⟩⟩ := hR.out W hb
      go_simp
      refine hK _ _ ?_
      exact st025_ W hb b4 h4 k4
    · go_simp
      refine hK _ _ ?_
      exact st045_ (W.alloc (.cells #[.int .i64 0, .slice none 0 0] 24)) (gA hb _) W.heap.size hb.size (heap_alloc_new _ _) b4 h4 (hAn k4) (Nat.ne_of_gt (Array.getElem?_eq_some_iff.1 k4).1)
  have st24_ : ∀ (W : World) (hb : Below w.heap.size w W) (b3 : Nat) (h3 : w.heap.size ≤ b3) (k3 : BxZ W b3), wpAny Tryz.prog .any opsAw3 Q 6 #[false, false, true, false, true, false, false, false] ⟨#[x0, .pointer (some ⟨p1, 0, none⟩), .pointer (some ⟨p2, 0, none⟩), .pointer (some ⟨b3, 0, none⟩), x4, x5, x6, x7, x8, x9, x10, x11, x12, x13, x14, x15, x16, x17, x18, x19, x20, x21, .agg #[.int .i64 2, .int .i64 1, .int .i64 2, .int .i64 0, .int .i64 0, .int .i64 0, .int .i64 0], x23, x24, x25, x26, x27, x28, x29, x30, x31, x32, x33, x34, x35, x36, x37, x38, x39, x40, x41, x42, x43, x44, x45, x46, x47, x48, x49, x50, x51, x52, x53, x54, x55, x56, x57, x58, x59, x60, x61, x62, x63, x64, x65, x66, x67, x68, x69, x70, x71, x72, x73, x74, x75, x76, x77, x78, x79, x80, x81, x82, x83, x84, x85, x86, x87, x88, x89, x90, x91, x92, x93, x94, x95, x96, x97, x98, x99, x100, x101, x102, x103, x104, x105, x106, x107, x108, x109, x110, x111], []⟩ W := by
    intro W hb b3 h3 k3
    refine wpAny_ready (rs := [0, 5]) (by kernel_rfl) (by simp) ?_
    refine AllReady.cons ho0 (fun K hK => ?_) (AllReady.cons ho5 (fun K hK => ?_) AllReady.nil)
    · obtain ⟨⟨_, s0, s1, s2, s3, s4, s5, s6⟩, ⟨_, d0, d1, d2, d3, d4, d5, d6⟩⟩ := hR.out W hb
      go_simp
      refine hK _ _ ?_
      exact st024_ W hb b3 h3 k3
    · go_simp
      refine hK _ _ ?_
      exact st245_ (W.alloc (.cells #[.int .i64 0, .slice none 0 0] 24)) (gA hb _) b3 h3 (hAn k3) W.heap.size hb.size (heap_alloc_new _ _) (Nat.ne_of_lt (Array.getElem?_eq_some_iff.1 k3).1)
  have st25_ : ∀ (W : World) (hb : Below w.heap.size w W) (b4 : Nat) (h4 : w.heap.size ≤ b4) (k4 : BxZ W b4), wpAny Tryz.prog .any opsAw3 Q 6 #[false, false, true, false, false, true, false, false] ⟨#[x0, .pointer (some ⟨p1, 0, none⟩), .pointer (some ⟨p2, 0, none⟩), x3, .pointer (some ⟨b4, 0, none⟩), x5, x6, x7, x8, x9, x10, x11, x12, x13, x14, x15, x16, x17, x18, x19, x20, x21, .agg #[.int .i64 2, .int .i64 1, .int .i64 2, .int .i64 0, .int .i64 0, .int .i64 0, .int .i64 0], x23, x24, x25, x26, x27, x28, x29, x30, x31, x32, x33, x34, x35, x36, x37, x38, x39, x40, x41, x42, x43, x44, x45, x46, x47, x48, x49, x50, x51, x52, x53, x54, x55, x56, x57, x58, x59, x60, x61, x62, x63, x64, x65, x66, x67, x68, x69, x70, x71, x72, x73, x74, x75, x76, x77, x78, x79, x80, x81, x82, x83, x84, x85, x86, x87, x88, x89, x90, x91, x92, x93, x94, x95, x96, x97, x98, x99, x100, x101, x102, x103, x104, x105, x106, x107, x108, x109, x110, x111], []⟩ W := by
    intro W hb b4 h4 k4
    refine wpAny_ready (rs := [0, 4]) (by kernel_rfl) (by simp) ?_
    refine AllReady.cons ho0 (fun K hK => ?_) (AllReady.cons ho4 (fun K hK => ?_) AllReady.nil)
    · obtain ⟨⟨_, s0, s1, s2, s3, s4, s5, s6⟩, ⟨_, d0, d1, d2, d3, d4, d5, d6⟩⟩ := hR.out W hb
      go_simp
      refine hK _ _ ?_
      exact st025_ W hb b4 h4 k4
    · go_simp
      refine hK _ _ ?_
      exact st245_ (W.alloc (.cells #[.int .i64 0, .slice none 0 0] 24)) (gA hb _) W.heap.size hb.size (heap_alloc_new _ _) b4 h4 (hAn k4) (Nat.ne_of_gt (Array.getElem?_eq_some_iff.1 k4).1)
  have st45_ : ∀ (W : World) (hb : Below w.heap.size w W) (b3 : Nat) (h3 : w.heap.size ≤ b3) (k3 : BxZ W b3) (b4 : Nat) (h4 : w.heap.size ≤ b4) (k4 : BxZ W b4) (hne : b3 ≠ b4), wpAny Tryz.prog .any opsAw3 Q 6 #[false, false, false, false, true, true, false, false] ⟨#[x0, .pointer (some ⟨p1, 0, none⟩), .pointer (some ⟨p2, 0, none⟩), .pointer (some ⟨b3, 0, none⟩), .pointer (some ⟨b4, 0, none⟩), x5, x6, x7, x8, x9, x10, x11, x12, x13, x14, x15, x16, x17, x18, x19, x20, x21, x22, x23, x24, x25, x26, x27, x28, x29, x30, x31, x32, x33, x34, x35, x36, x37, x38, x39, x40, x41, x42, x43, x44, x45, x46, x47, x48, x49, x50, x51, x52, x53, x54, x55, x56, x57, x58, x59, x60, x61, x62, x63, x64, x65, x66, x67, x68, x69, x70, x71, x72, x73, x74, x75, x76, x77, x78, x79, x80, x81, x82, x83, x84, x85, x86, x87, x88, x89, x90, x91, x92, x93, x94, x95, x96, x97, x98, x99, x100, x101, x102, x103, x104, x105, x106, x107, x108, x109, x110, x111], []⟩ W := by
    intro W hb b3 h3 k3 b4 h4 k4 hne
    refine wpAny_ready (rs := [0, 2]) (by kernel_rfl) (by simp) ?_
    refine AllReady.cons ho0 (fun K hK => ?_) (AllReady.cons ho2 (fun K hK => ?_) AllReady.nil)
    · obtain ⟨⟨_, s0, s1, s2, s3, s4, s5, s6⟩, ⟨_, d0, d1, d2, d3, d4, d5, d6⟩⟩ := hR.out W hb
      go_simp
      refine hK _ _ ?_
      exact st045_ W hb b3 h3 k3 b4 h4 k4 hne
    · obtain ⟨⟨_, s0, s1, s2, s3, s4, s5, s6⟩, ⟨_, d0, d1, d2, d3, d4, d5, d6⟩⟩ := hR.out W hb
      go_simp
      refine hK _ _ ?_
      exact st245_ W hb b3 h3 k3 b4 h4 k4 hne
  have st0_ : ∀ (W : World) (hb : Below w.heap.size w W), wpAny Tryz.prog .any opsAw3 Q 7 #[true, false, false, false, false, false, false, false] ⟨#[x0, .pointer (some ⟨p1, 0, none⟩), .pointer (some ⟨p2, 0, none⟩), x3, x4, x5, x6, x7, x8, x9, x10, x11, x12, x13, x14, x15, x16, x17, x18, x19, .agg #[.int .i64 2, .int .i64 3, .int .i64 3, .int .i64 0, .int .i64 0, .int .i64 0, .int .i64 0], x21, x22, x23, x24, x25, x26, x27, x28, x29, x30, x31, x32, x33, x34, x35, x36, x37, x38, x39, x40, x41, x42, x43, x44, x45, x46, x47, x48, x49, x50, x51, x52, x53, x54, x55, x56, x57, x58, x59, x60, x61, x62, x63, x64, x65, x66, x67, x68, x69, x70, x71, x72, x73, x74, x75, x76, x77, x78, x79, x80, x81, x82, x83, x84, x85, x86, x87, x88, x89, x90, x91, x92, x93, x94, x95, x96, x97, x98, x99, x100, x101, x102, x103, x104, x105, x106, x107, x108, x109, x110, x111], []⟩ W := by
    intro W hb
    refine wpAny_ready (rs := [1, 2, 4, 5]) (by kernel_rfl) (by simp) ?_
    refine AllReady.cons ho1 (fun K hK => ?_) (AllReady.cons ho2 (fun K hK => ?_) (AllReady.cons ho4 (fun K hK => ?_) (AllReady.cons ho5 (fun K hK => ?_) AllReady.nil)))
    · go_simp
      go_at_call 28
      (with_reducible refine (HC1.out W).mono ?_)
      rintro e W9 ⟨a5, c5, rfl, hA9, hb9⟩
      dsimp only
      refine hK _ _ ?_
      exact st01_ W9 (gT hb9 hb) a5 c5 hA9
    · obtain ⟨⟨_, s0, s1, s2, s3, s4, s5, s6⟩, ⟨_, d0, d1, d2, d3, d4, d5, d6⟩⟩ := hR.out W hb
      go_simp
      refine hK _ _ ?_
      exact st02_ W hb
    · go_simp
      refine hK _ _ ?_
      exact st04_ (W.alloc (.cells #[.int .i64 0, .slice none 0 0] 24)) (gA hb _) W.heap.size hb.size (heap_alloc_new _ _)
    · go_simp
      refine hK _ _ ?_
      exact st05_ (W.alloc (.cells #[.int .i64 0, .slice none 0 0] 24)) (gA hb _) W.heap.size hb.size (heap_alloc_new _ _)
  have st2_ : ∀ (W : World) (hb : Below w.heap.size w W), wpAny Tryz.prog .any opsAw3 Q 7 #[false, false, true, false, false, false, false, false] ⟨#[x0, .pointer (some ⟨p1, 0, none⟩), .pointer (some ⟨p2, 0, none⟩), x3, x4, x5, x6, x7, x8, x9, x10, x11, x12, x13, x14, x15, x16, x17, x18, x19, x20, x21, .agg #[.int .i64 2, .int .i64 1, .int .i64 2, .int .i64 0, .int .i64 0, .int .i64 0, .int .i64 0], x23, x24, x25, x26, x27, x28, x29, x30, x31, x32, x33, x34, x35, x36, x37, x38, x39, x40, x41, x42, x43, x44, x45, x46, x47, x48, x49, x50, x51, x52, x53, x54, x55, x56, x57, x58, x59, x60, x61, x62, x63, x64, x65, x66, x67, x68, x69, x70, x71, x72, x73, x74, x75, x76, x77, x78, x79, x80, x81, x82, x83, x84, x85, x86, x87, x88, x89, x90, x91, x92, x93, x94, x95, x96, x97, x98, x99, x100, x101, x102, x103, x104, x105, x106, x107, x108, x109, x110, x111], []⟩ W := by
    intro W hb
    refine wpAny_ready (rs := [0, 4, 5]) (by kernel_rfl) (by simp) ?_
    refine AllReady.cons ho0 (fun K hK => ?_) (AllReady.cons ho4 (fun K hK => ?_) (AllReady.cons ho5 (fun K hK => ?_) AllReady.nil))
    · obtain ⟨⟨_, s0, s1, s2, s3, s4, s5, s6⟩, ⟨_, d0, d1, d2, d3, d4, d5, d6⟩⟩ := hR.out W hb
      go_simp
      refine hK _ _ ?_
      exact st02_ W hb
    · go_simp
      refine hK _ _ ?_
      exact st24_ (W.alloc (.cells #[.int .i64 0, .slice none 0 0] 24)) (gA hb _) W.heap.size hb.size (heap_alloc_new _ _)
    · go_simp
      refine hK _ _ ?_
      exact st25_ (W.alloc (.cells #[.int .i64 0, .slice none 0 0] 24)) (gA hb _) W.heap.size hb.size (heap_alloc_new _ _)
  have st4_ : ∀ (W : World) (hb : Below w.heap.size w W) (b3 : Nat) (h3 : w.heap.size ≤ b3) (k3 : BxZ W b3), wpAny Tryz.prog .any opsAw3 Q 7 #[false, false, false, false, true, false, false, false] ⟨#[x0, .pointer (some ⟨p1, 0, none⟩), .pointer (some ⟨p2, 0, none⟩), .pointer (some ⟨b3, 0, none⟩), x4, x5, x6, x7, x8, x9, x10, x11, x12, x13, x14, x15, x16, x17, x18, x19, x20, x21, x22, x23, x24, x25, x26, x27, x28, x29, x30, x31, x32, x33, x34, x35, x36, x37, x38, x39, x40, x41, x42, x43, x44, x45, x46, x47, x48, x49, x50, x51, x52, x53, x54, x55, x56, x57, x58, x59, x60, x61, x62, x63, x64, x65, x66, x67, x68, x69, x70, x71, x72, x73, x74, x75, x76, x77, x78, x79, x80, x81, x82, x83, x84, x85, x86, x87, x88, x89, x90, x91, x92, x93, x94, x95, x96, x97, x98, x99, x100, x101, x102, x103, x104, x105, x106, x107, x108, x109, x110, x111], []⟩ W := by
    intro W hb b3 h3 k3
    refine wpAny_ready (rs := [0, 2, 5]) (by kernel_rfl) (by simp) ?_
    refine AllReady.cons ho0 (fun K hK => ?_) (AllReady.cons ho2 (fun K hK => ?_) (AllReady.cons ho5 (fun K hK => ?_) AllReady.nil))
    · obtain ⟨⟨_, s0, s1, s2, s3, s4, s5, s6⟩, ⟨_, d0, d1, d2, d3, d4, d5, d6⟩⟩ := hR.out W hb
      go_simp
      refine hK _ _ ?_
      exact st04_ W hb b3 h3 k3
    · obtain ⟨⟨_, s0, s1, s2, s3, s4, s5, s6⟩, ⟨_, d0, d1, d2, d3, d4, d5, d6⟩⟩ := hR.out W hb
      go_simp
      refine hK _ _ ?_
      exact st24_ W hb b3 h3 k3
    · go_simp
      refine hK _ _ ?_
      exact st45_ (W.alloc (.cells #[.int .i64 0, .slice none 0 0] 24)) (gA hb _) b3 h3 (hAn k3) W.heap.size hb.size (heap_alloc_new _ _) (Nat.ne_of_lt (Array.getElem?_eq_some_iff.1 k3).1)
  have st5_ : ∀ (W : World) (hb : Below w.heap.size w W) (b4 : Nat) (h4 : w.heap.size ≤ b4) (k4 : BxZ W b4), wpAny Tryz.prog .any opsAw3 Q 7 #[false, false, false, false, false, true, false, false] ⟨#[x0, .pointer (some ⟨p1, 0, none⟩), .pointer (some ⟨p2, 0, none⟩), x3, .pointer (some ⟨b4, 0, none⟩), x5, x6, x7, x8, x9, x10, x11, x12, x13, x14, x15, x16, x17, x18, x19, x20, x21, x22, x23, x24, x25, x26, x27, x28, x29, x30, x31, x32, x33, x34, x35, x36, x37, x38, x39, x40, x41, x42, x43, x44, x45, x46, x47, x48, x49, x50, x51, x52, x53, x54, x55, x56, x57, x58, x59, x60, x61, x62, x63, x64, x65, x66, x67, x68, x69, x70, x71, x72, x73, x74, x75, x76, x77, x78, x79, x80, x81, x82, x83, x84, x85, x86, x87, x88, x89, x90, x91, x92, x93, x94, x95, x96, x97, x98, x99, x100, x101, x102, x103, x104, x105, x106, x107, x108, x109, x110, x111], []⟩ W := by
    intro W hb b4 h4 k4
    refine wpAny_ready (rs := [0, 2, 4]) (by kernel_rfl) (by simp) ?_
    refine AllReady.cons ho0 (fun K hK => ?_) (AllReady.cons ho2 (fun K hK => ?_) (AllReady.cons ho4 (fun K hK => ?_) AllReady.nil))
    · obtain ⟨⟨_, s0, s1, s2, s3, s4, s5, s6⟩, ⟨_, d0, d1, d2, d3, d4, d5, d6⟩⟩ := hR.out W hb
      go_simp
      refine hK _ _ ?_
      exact st05_ W hb b4 h4 k4
    · obtain ⟨⟨_, s0, s1, s2, s3, s4, s5, s6⟩, ⟨_, d0, d1, d2, d3, d4, d5, d6⟩⟩ := hR.out W hb
      go_simp
      refine hK _ _ ?_
      exact st25_ W hb b4 h4 k4
    · go_simp
      refine hK _ _ ?_
      exact st45_ (W.alloc (.cells #[.int .i64 0, .slice none 0 0] 24)) (gA hb _) W.heap.size hb.size (heap_alloc_new _ _) b4 h4 (hAn k4) (Nat.ne_of_gt (Array.getElem?_eq_some_iff.1 k4).1)
  have st_ : ∀ (W : World) (hb : Below w.heap.size w W), wpAny Tryz.prog .any opsAw3 Q 8 #[false, false, false, false, false, false, false, false] ⟨#[x0, .pointer (some ⟨p1, 0, none⟩), .pointer (some ⟨p2, 0, none⟩), x3, x4, x5, x6, x7, x8, x9, x10, x11, x12, x13, x14, x15, x16, x17, x18, x19, x20, x21, x22, x23, x24, x25, x26, x27, x28, x29, x30, x31, x32, x33, x34, x35, x36, x37, x38, x39, x40, x41, x42, x43, x44, x45, x46, x47, x48, x49, x50, x51, x52, x53, x54, x55, x56, x57, x58, x59, x60, x61, x62, x63, x64, x65, x66, x67, x68, x69, x70, x71, x72, x73, x74, x75, x76, x77, x78, x79, x80, x81, x82, x83, x84, x85, x86, x87, x88, x89, x90, x91, x92, x93, x94, x95, x96, x97, x98, x99, x100, x101, x102, x103, x104, x105, x106, x107, x108, x109, x110, x111], []⟩ W := by
    intro W hb
    refine wpAny_ready (rs := [0, 2, 4, 5]) (by kernel_rfl) (by simp) ?_
    refine AllReady.cons ho0 (fun K hK => ?_) (AllReady.cons ho2 (fun K hK => ?_) (AllReady.cons ho4 (fun K hK => ?_) (AllReady.cons ho5 (fun K hK => ?_) AllReady.nil)))
    · obtain ⟨⟨_, s0, s1, s2, s3, s4, s5, s6⟩, ⟨_, d0, d1, d2, d3, d4, d5, d6⟩⟩ := hR.out W hb
      go_simp
      refine hK _ _ ?_
      exact st0_ W hb
    · obtain ⟨⟨_, s0, s1, s2, s3, s4, s5, s6⟩, ⟨_, d0, d1, d2, d3, d4, d5, d6⟩⟩ := hR.out W hb
      go_simp
      refine hK _ _ ?_
      exact st2_ W hb
    · go_simp
      refine hK _ _ ?_
      exact st4_ (W.alloc (.cells #[.int .i64 0, .slice none 0 0] 24)) (gA hb _) W.heap.size hb.size (heap_alloc_new _ _)
    · go_simp
      refine hK _ _ ?_
      exact st5_ (W.alloc (.cells #[.int .i64 0, .slice none 0 0] 24)) (gA hb _) W.heap.size hb.size (heap_alloc_new _ _)
  exact st_ _ (below_drewN (Below.refl _ w) 1)
end Go.Proofs.YtiiiegflobihjaaGreat

/- Texts of this claim, put together: DJ DE ED EK EL1. -/
import Derived.Test.YtiiiegflobihjaaGreatKAWx
import Derived.Test.YtiiiegflobihjaaGreatKAWt
import Derived.Test.YtiiiegflobihjaaGreatKAWp
import Derived.Test.YtiiiegflobihjaaGreatKAWu
import Derived.Deep.RegionHeld3
import Derived.Deep.DeepCutAuto

/- combine.Then. -/
namespace Go.Proofs.YtiiiegflobihjaaGreat
open Go.RowKit

/-- What lies behind the arguments of Then. -/
theorem thBox {w W1 : World} {m n k : Int} {aa ba : Option Addr} {al bl ac bc : Nat} (hW1 : W1 = (((w.alloc (.cells #[.int .i64 m, .slice aa al ac] 24)).alloc (.cells #[.int .i64 k] 3)).alloc (.cells #[.int .i64 n, .slice ba bl bc] 24)).alloc (.cells #[.int .i64 0, .slice none 0 0] 24)) :
    Below w.heap.size w W1 ∧ W1.heap[w.heap.size]? = some (.cells #[.int .i64 m, .slice aa al ac] 24) ∧ W1.heap[w.heap.size + 1]? = some (.cells #[.int .i64 k] 3) ∧ W1.heap[w.heap.size + 1 + 1]? = some (.cells #[.int .i64 n, .slice ba bl bc] 24) ∧
      W1.heap[w.heap.size + 1 + 1 + 1]? = some (.cells #[.int .i64 0, .slice none 0 0] 24) ∧ W1.heap.size = w.heap.size + 1 + 1 + 1 + 1 := by
  obtain ⟨Wa, hWa⟩ : ∃ Wa, Wa = w.alloc (.cells #[.int .i64 m, .slice aa al ac] 24) := ⟨_, rfl⟩
  obtain ⟨Wb, hWb⟩ : ∃ Wb, Wb = Wa.alloc (.cells #[.int .i64 k] 3) := ⟨_, rfl⟩
  obtain ⟨Wc, hWc⟩ : ∃ Wc, Wc = Wb.alloc (.cells #[.int .i64 n, .slice ba bl bc] 24) := ⟨_, rfl⟩
  have hza : Wa.heap.size = w.heap.size + 1 := by rw [hWa, World.size_alloc]
  have hzb : Wb.heap.size = w.heap.size + 1 + 1 := by rw [hWb, World.size_alloc, hza]
  have hzc : Wc.heap.size = w.heap.size + 1 + 1 + 1 := by rw [hWc, World.size_alloc, hzb]
  rw [← hWa, ← hWb, ← hWc] at hW1
  have ha : Below w.heap.size w Wa := by rw [hWa]; exact (Below.refl _ _).alloc (Nat.le_refl _) _
  have hb : Below Wa.heap.size Wa Wb := by rw [hWb]; exact (Below.refl _ _).alloc (Nat.le_refl _) _
  have hc : Below Wb.heap.size Wb Wc := by rw [hWc]; exact (Below.refl _ _).alloc (Nat.le_refl _) _
  have hd : Below Wc.heap.size Wc W1 := by rw [hW1]; exact (Below.refl _ _).alloc (Nat.le_refl _) _
  have hcd := btt hc hd
  have hbd := btt hb hcd
  refine ⟨bt ha hbd ha.size, kept hbd (by rw [hWa]; exact heap_alloc_new w _), kept hcd (by rw [hWb, ← hza]; exact heap_alloc_new Wa _), kept hd (by rw [hWc, ← hzb]; exact heap_alloc_new Wb _), by rw [hW1, ← hzc]; exact heap_alloc_new Wc _, by rw [hW1, World.size_alloc, hzc]⟩

theorem boxSet123 {w : World} {g : Nat} {x0 x1 x2 x3 x4 u1 u2 u3 : Value} {t : TypeId} (h : w.heap[g]? = some (.cells #[x0, x1, x2, x3, x4] t)) : (((w.setCell ⟨g, 1, none⟩ u1).setCell ⟨g, 2, none⟩ u2).setCell ⟨g, 3, none⟩ u3).heap[g]? = some (.cells #[x0, u1, u2, u3, x4] t) := by
  have h1 : (w.setCell ⟨g, 1, none⟩ u1).heap[g]? = some (.cells #[x0, u1, x2, x3, x4] t) := heap_setCell_same _ g 1 _ t u1 h
  have h2 : ((w.setCell ⟨g, 1, none⟩ u1).setCell ⟨g, 2, none⟩ u2).heap[g]? = some (.cells #[x0, u1, u2, x3, x4] t) := heap_setCell_same _ g 2 _ t u2 h1
  exact heap_setCell_same _ g 3 _ t u3 h2
theorem box5 {w : World} {b : Nat} {u0 u1 u2 u3 u4 : Value} {t : TypeId} (h : w.heap[b]? = some (.cells #[u0, u1, u2, u3, u4] t)) : w.cell? ⟨b, 0, none⟩ = some u0 ∧ w.cell? ⟨b, 1, none⟩ = some u1 ∧ w.cell? ⟨b, 2, none⟩ = some u2 ∧ w.cell? ⟨b, 3, none⟩ = some u3 ∧ w.cell? ⟨b, 4, none⟩ = some u4 := ⟨box_cell h rfl, box_cell h rfl, box_cell h rfl, box_cell h rfl, box_cell h rfl⟩
set_option maxRecDepth 100000 in
set_option maxHeartbeats 1600000 in
theorem thenGood {w : World} {u v : Value} {m n k : Int} {xs ys : List (List (List Int))} (hx : AdvV w u m xs) (hy : AdvV w v n ys) (hxm : movesN xs ≤ 1000000000) (hym : movesN ys ≤ 1000000000) (h0 : eqErr m n xs ys = 0) (sA : AdS xs) (sB : AdS ys) (hk : 0 ≤ k ∧ k ≤ 6) :
    Calls Tryz.prog 15 #[u, .int .i64 k, v] w (BdOut w m (thA xs ys k)) := by
  obtain ⟨xa, xc, hu⟩ := advShape' hx
  obtain ⟨ya, yc, hv⟩ := advShape' hy
  subst hu hv
  obtain ⟨W1, hW1⟩ : ∃ W1, W1 = (((w.alloc (.cells #[.int .i64 m, .slice xa xs.length xc] 24)).alloc (.cells #[.int .i64 k] 3)).alloc (.cells #[.int .i64 n, .slice ya ys.length yc] 24)).alloc (.cells #[.int .i64 0, .slice none 0 0] 24) := ⟨_, rfl⟩
  obtain ⟨hb1, kA, kK, kB, kR, hz1⟩ := thBox hW1
  have HC := Lib.hid (checkC (hx.keep hb1) (hy.keep hb1) hxm hym)
  rw [h0] at HC
  obtain ⟨a0, a1⟩ := box2 kA
  obtain ⟨b0, b1⟩ := box2 kB
  rw [hW1] at a0 a1 b0 b1
  have HX := Lib.hid (fun W (hb : Below W1.heap.size W1 W) => (hx.keep hb1).keep hb)
  have HY := Lib.hid (fun W (hb : Below W1.heap.size W1 W) => (hy.keep hb1).keep hb)
  have hK := Lib.hid (fun W (hb : Below W1.heap.size W1 W) => And.intro (kept hb kA) (And.intro (kept hb kK) (And.intro (kept hb kB) (kept hb kR))))
  have hR := thA_eq xs ys k
  obtain ⟨R, hRR⟩ : ∃ R, thA xs ys k = R := ⟨_, rfl⟩
  rw [hRR] at hR ⊢
  replace hR := Lib.hid hR
  replace hRR := Lib.hid hRR
  replace hz1 := Lib.hid hz1
  clear hx hy kA kK kB kR h0
  go_enter Tryz.func15, Tryz.ntmps15
  go_wp2_with fail
  rw [← hW1]
  clear a0 a1 b0 b1
  replace hW1 := Lib.hid hW1
  refine HC.out.mono ?_
  rintro e W2 ⟨rfl, hb2⟩
  obtain ⟨kA2, kK2, _, _⟩ := hK.out W2 hb2
  have p0 : W2.cell? ⟨w.heap.size + 1, 0, none⟩ = some (.int .i64 k) := box_cell (j := 0) kK2 rfl
  obtain ⟨W3, hW3⟩ : ∃ W3, W3 = W2.alloc (.cells #[.func (.func 40) #[] #[.pointer (some ⟨w.heap.size + 1, 0, none⟩)]] 79) := ⟨_, rfl⟩
  have hb3 : Below W2.heap.size W2 W3 := by rw [hW3]; exact (Below.refl _ _).alloc (Nat.le_refl _) _
  have kG3 : W3.heap[W2.heap.size]? = some (.cells #[.func (.func 40) #[] #[.pointer (some ⟨w.heap.size + 1, 0, none⟩)]] 79) := by rw [hW3]; exact heap_alloc_new _ _
  have hz3 : W3.heap.size = W2.heap.size + 1 := by rw [hW3, World.size_alloc]
  have hk0 := hk.1
  have hk6 := hk.2
  have a0 : W3.cell? ⟨w.heap.size, 0, none⟩ = some (.int .i64 m) := box_cell (j := 0) (kept hb3 kA2) rfl
  obtain ⟨W4, hW4⟩ : ∃ W4, W4 = W3.alloc (.cells #[.int .i64 m, .int .i64 0, .int .i64 0, .string ⟨#[]⟩, .func (.func 42) #[] #[.pointer (some ⟨w.heap.size + 1 + 1, 0, none⟩), .pointer (some ⟨w.heap.size + 1, 0, none⟩), .pointer (some ⟨w.heap.size, 0, none⟩), .pointer (some ⟨W2.heap.size, 0, none⟩)]] 65) := ⟨_, rfl⟩
  have hb4 : Below W3.heap.size W3 W4 := by rw [hW4]; exact (Below.refl _ _).alloc (Nat.le_refl _) _
  have kB4 : W4.heap[W2.heap.size + 1]? = some (.cells #[.int .i64 m, .int .i64 0, .int .i64 0, .string ⟨#[]⟩, .func (.func 42) #[] #[.pointer (some ⟨w.heap.size + 1 + 1, 0, none⟩), .pointer (some ⟨w.heap.size + 1, 0, none⟩), .pointer (some ⟨w.heap.size, 0, none⟩), .pointer (some ⟨W2.heap.size, 0, none⟩)]] 65) := by rw [hW4, ← hz3]; exact heap_alloc_new _ _
  have HB : ∀ W, Below W3.heap.size W3 W → Calls Tryz.prog 32 #[.agg #[.int .i64 m, .int .i64 (thFs k).1, .int .i64 (thFs k).2.1, .string (bsN (thFs k).2.2), .func (.func 42) #[] #[.pointer (some ⟨w.heap.size + 1 + 1, 0, none⟩), .pointer (some ⟨w.heap.size + 1, 0, none⟩), .pointer (some ⟨w.heap.size, 0, none⟩), .pointer (some ⟨W2.heap.size, 0, none⟩)]]] W (BdOut W m R) := fun W hW =>
    build3 (fs := thFs k) (step := thSt xs ys k) (P := PT xs ys k) (fun W' x hb hP => by
        have B3 := btt hW hb
        have B1 := btt (btt hb2 hb3) B3
        obtain ⟨qA, qK, qB, _⟩ := hK.out W' B1
        obtain ⟨x0, x1, x2⟩ := x
        rcases hP with ⟨h1, h2, h3⟩ | ⟨h1, h2, h3, h4, h5⟩
        · simp only at h1 h2 h3
          subst h1
          have hst : thSt xs ys k (x0, x1, []) = (xs.getD x1.toNat []).map (thF k (x0, x1, [])) := by rw [thSt, if_pos rfl]
          rw [hst]
          exact thenMvA qA qK (kept B3 kG3) (HX.out W' B1) sA (by omega) h2 h3
        · have hl := PT.setLen (az := xs) (k := k) sB (.inr ⟨h1, h2, h3, h4, h5⟩)
          simp only at h1 h2 h3 h4 h5 hl
          subst h2
          have hst : thSt xs ys x0 (x0, x1, x2) = thSq ys x0 x1 x2 := by rw [thSt, if_neg h1]
          rw [hst]
          exact thenMvB qB qK (HY.out W' B1) sB h3 h1 hl h5)
      (PT.first sA sB hk0) (fun x hP => (thSt_ok sA sB hP).1) (fun x hP => hP.sm sA sB ⟨hk0, by omega⟩) (fun x hP => Nat.le_trans (thSt_ok sA sB hP).2 (by decide)) hR.out
  replace HB := Lib.hid HB
  have g3 : W4.cell? ⟨W2.heap.size, 0, none⟩ = some (.func (.func 40) #[] #[.pointer (some ⟨w.heap.size + 1, 0, none⟩)]) := box_cell (j := 0) (kept hb4 kG3) rfl
  have hb24 := btt hb3 hb4
  have p4 : W4.cell? ⟨w.heap.size + 1, 0, none⟩ = some (.int .i64 k) := box_cell (j := 0) (kept hb24 kK2) rfl
  have kK4 := kept hb24 kK2
  have hw24 := bt hb1 (btt hb2 hb24) hb1.size
  by_cases h0 : k = 0
  · subst h0
    have HG := Lib.hid (beginC (f := 0) kK4)
    have hAf := Lib.hid (fun W (hb : Below W4.heap.size W4 W) => And.intro (kept hb kB4) (btt hb4 hb))
    rw [hW3] at a0
    rw [hW4, hW3] at g3 p4
    replace hz3 := Lib.hid hz3
    clear kA2 kK2 kG3 kB4 kK4
    go_wp2_with fail
    rw [← hW3, ← hW4]
    refine HG.out.mono ?_
    rintro e W5 ⟨rfl, hb5⟩
    obtain ⟨kB5, B35⟩ := hAf.out W5 hb5
    have kN6 := boxSet123 (u1 := .int .i64 0) (u2 := .int .i64 0) (u3 := .string (bsN [0])) kB5
    have B36 := ((B35.setCell (p := ⟨W2.heap.size + 1, 1, none⟩) (by show W3.heap.size ≤ W2.heap.size + 1; rw [hz3.out]; omega) (.int .i64 0)).setCell (p := ⟨W2.heap.size + 1, 2, none⟩) (by show W3.heap.size ≤ W2.heap.size + 1; rw [hz3.out]; omega) (.int .i64 0)).setCell (p := ⟨W2.heap.size + 1, 3, none⟩) (by show W3.heap.size ≤ W2.heap.size + 1; rw [hz3.out]; omega) (.string (bsN [0]))
    obtain ⟨y0, y1, y2, y3, y4⟩ := box5 kB5
    have yf := row_free kB5
    obtain ⟨W6, hW6⟩ : ∃ W6, W6 = ((W5.setCell ⟨W2.heap.size + 1, 1, none⟩ (.int .i64 0)).setCell ⟨W2.heap.size + 1, 2, none⟩ (.int .i64 0)).setCell ⟨W2.heap.size + 1, 3, none⟩ (.string (bsN [0])) := ⟨_, rfl⟩
    rw [← hW6] at kN6 B36
    obtain ⟨z0, z1, z2, z3, z4⟩ := box5 kN6
    have B16 := btt (btt hb2 hb3) B36
    obtain ⟨_, _, _, kR6⟩ := hK.out W6 B16
    have hbw6 := bt hb1 B16 hb1.size
    have HBB := HB.out W6 B36
    have hfs : thFs 0 = (0, 0, [0]) := rfl
    rw [hfs] at HBB
    replace HBB := Lib.hid HBB
    rw [hW6] at z0 z1 z2 z3 z4
    clear kB5 kN6
    go_wp2_with fail
    rw [← hW6]
    replace HBB := HBB.out
    refine HBB.mono ?_
    intro e W7 hO
    have hB7 := hbw6
    cases R with
    | none =>
      obtain ⟨rfl, hb7⟩ := hO
      have kR7 := kept hb7 kR6
      have hbf := bt hbw6 hb7 hbw6.size
      obtain ⟨y0, y1⟩ := box2 kR7
      have yf0 := row_free kR7 0
      have yf1 := row_free kR7 1
      have z0 : W7.setCell ⟨w.heap.size + 1 + 1 + 1, 0, none⟩ (.int .i64 0) = W7 := setSame y0
      have z1 : W7.setCell ⟨w.heap.size + 1 + 1 + 1, 1, none⟩ (.slice none 0 0) = W7 := setSame y1
      clear kR7 kR6
      go_wp2
      refine bodyPost_ret (v := .tuple #[.agg #[.int .i64 0, .slice none 0 0], .int .i64 17]) (by simp [results, Tryz.results15, go_sem, y0, y1]) rfl ?_
      exact BdOut.no (n := m) hbf
    | some S =>
      obtain ⟨uo, rfl, hA8, hb7⟩ := hO
      have kR8 := kept hb7 kR6
      have hA' := hA8
      obtain ⟨sv, rfl, hrow8, hl8, hl9⟩ := hA'
      obtain ⟨sva8, svc8, hsv8⟩ := hrow8.shape
      subst hsv8
      obtain ⟨y0, y1⟩ := box2 kR8
      have yf := row_free kR8
      have hr1 := heap_setCell_same W7 (w.heap.size + 1 + 1 + 1) 0 _ _ (.int .i64 m) kR8
      have hr2 := two_setCell (u := .slice sva8 S.length svc8) hr1
      have hx2 := (KeepX.setCell (p := ⟨w.heap.size + 1 + 1 + 1, 0, none⟩) kR8 (.int .i64 m)).trans (KeepX.setCell (p := ⟨w.heap.size + 1 + 1 + 1, 1, none⟩) hr1 (.slice sva8 S.length svc8))
      have hbw8 := bt hbw6 hb7 hbw6.size
      have hbe := (hbw8.setCell (p := ⟨w.heap.size + 1 + 1 + 1, 0, none⟩) (by show w.heap.size ≤ w.heap.size + 1 + 1 + 1; omega) (.int .i64 m)).setCell (p := ⟨w.heap.size + 1 + 1 + 1, 1, none⟩) (by show w.heap.size ≤ w.heap.size + 1 + 1 + 1; omega) (.slice sva8 S.length svc8)
      obtain ⟨z0, z1⟩ := box2 hr2
      have hfin := hA8.other hx2
      replace hfin := Lib.hid hfin
      clear hr1 hr2 hx2 hrow8 hA8 kR8 kR6
      go_wp2
      obtain ⟨W9, hW9⟩ : ∃ W9, W9 = (W7.setCell ⟨w.heap.size + 1 + 1 + 1, 0, none⟩ (.int .i64 m)).setCell ⟨w.heap.size + 1 + 1 + 1, 1, none⟩ (.slice sva8 S.length svc8) := ⟨_, rfl⟩
      rw [← hW9] at z0 z1 hfin hbe ⊢
      clear hW9
      refine bodyPost_ret (v := .tuple #[.agg #[.int .i64 m, .slice sva8 S.length svc8], .int .i64 0]) (by simp [results, Tryz.results15, go_sem, z0, z1]) rfl ?_
      exact BdOut.yes hfin.out hbe
  · have h0e : (k == 0) = false := by simp [h0]
    obtain ⟨y0, y1, y2, y3, y4⟩ := box5 kB4
    have B34 := hb4
    have B14 := btt (btt hb2 hb3) B34
    obtain ⟨_, _, _, kR6⟩ := hK.out W4 B14
    have hbw6 := bt hb1 B14 hb1.size
    have HBB := HB.out W4 B34
    have hfs : thFs k = nd0 := by rw [thFs, if_neg h0]
    rw [hfs] at HBB
    replace HBB := Lib.hid HBB
    rw [hW3] at a0
    rw [hW4, hW3] at p4 y0 y1 y2 y3 y4
    replace h0 := Lib.hid h0
    replace hz3 := Lib.hid hz3
    clear kA2 kK2 kG3 kB4 kK4 g3
    go_wp2_with fail
    rw [← hW3, ← hW4]
    replace HBB := HBB.out
    refine HBB.mono ?_
    intro e W7 hO
    have hB7 := hbw6
    cases R with
    | none =>
      obtain ⟨rfl, hb7⟩ := hO
      have kR7 := kept hb7 kR6
      have hbf := bt hbw6 hb7 hbw6.size
      obtain ⟨y0, y1⟩ := box2 kR7
      have yf0 := row_free kR7 0
      have yf1 := row_free kR7 1
      have z0 : W7.setCell ⟨w.heap.size + 1 + 1 + 1, 0, none⟩ (.int .i64 0) = W7 := setSame y0
      have z1 : W7.setCell ⟨w.heap.size + 1 + 1 + 1, 1, none⟩ (.slice none 0 0) = W7 := setSame y1
      clear kR7 kR6
      go_wp2
      refine bodyPost_ret (v := .tuple #[.agg #[.int .i64 0, .slice none 0 0], .int .i64 17]) (by simp [results, Tryz.results15, go_sem, y0, y1]) rfl ?_
      exact BdOut.no (n := m) hbf
    | some S =>
      obtain ⟨uo, rfl, hA8, hb7⟩ := hO
      have kR8 := kept hb7 kR6
      have hA' := hA8
      obtain ⟨sv, rfl, hrow8, hl8, hl9⟩ := hA'
      obtain ⟨sva8, svc8, hsv8⟩ := hrow8.shape
      subst hsv8
      obtain ⟨y0, y1⟩ := box2 kR8
      have yf := row_free kR8
      have hr1 := heap_setCell_same W7 (w.heap.size + 1 + 1 + 1) 0 _ _ (.int .i64 m) kR8
      have hr2 := two_setCell (u := .slice sva8 S.length svc8) hr1
      have hx2 := (KeepX.setCell (p := ⟨w.heap.size + 1 + 1 + 1, 0, none⟩) kR8 (.int .i64 m)).trans (KeepX.setCell (p := ⟨w.heap.size + 1 + 1 + 1, 1, none⟩) hr1 (.slice sva8 S.length svc8))
      have hbw8 := bt hbw6 hb7 hbw6.size
      have hbe := (hbw8.setCell (p := ⟨w.heap.size + 1 + 1 + 1, 0, none⟩) (by show w.heap.size ≤ w.heap.size + 1 + 1 + 1; omega) (.int .i64 m)).setCell (p := ⟨w.heap.size + 1 + 1 + 1, 1, none⟩) (by show w.heap.size ≤ w.heap.size + 1 + 1 + 1; omega) (.slice sva8 S.length svc8)
      obtain ⟨z0, z1⟩ := box2 hr2
      have hfin := hA8.other hx2
      replace hfin := Lib.hid hfin
      clear hr1 hr2 hx2 hrow8 hA8 kR8 kR6
      go_wp2
      obtain ⟨W9, hW9⟩ : ∃ W9, W9 = (W7.setCell ⟨w.heap.size + 1 + 1 + 1, 0, none⟩ (.int .i64 m)).setCell ⟨w.heap.size + 1 + 1 + 1, 1, none⟩ (.slice sva8 S.length svc8) := ⟨_, rfl⟩
      rw [← hW9] at z0 z1 hfin hbe ⊢
      clear hW9
      refine bodyPost_ret (v := .tuple #[.agg #[.int .i64 m, .slice sva8 S.length svc8], .int .i64 0]) (by simp [results, Tryz.results15, go_sem, z0, z1]) rfl ?_
      exact BdOut.yes hfin.out hbe
end Go.Proofs.YtiiiegflobihjaaGreat

/- The reference's stages are the program's; the chapter's examples: plain lists. -/
namespace Go.Proofs.YtiiiegflobihjaaGreat

def rdC : List Int := [2, 3, 3, 0, 0, 0, 0]
def rdS : List Int := [2, 1, 2, 0, 0, 0, 0]
def rdF : List Int := [2, 3, 3, 0, 0, 0, 1]
def rdH : List Int := [2, 1, 2, 0, 0, 0, 1]
def alw1 (r : List Int) : List (List (List Int)) := [[r ++ [0]]]
theorem ex_or : prA false (alw1 rdC) (alw1 rdS) = some [[rdS ++ [1], rdC ++ [2]], [rdS ++ [1]], [rdC ++ [2]]] := by decide +kernel
theorem ex_and : prA true (alw1 rdC) (alw1 rdS) = some [[]] := by decide +kernel
theorem ex_live : (lvA [[]]).getD 0 false = false := by decide +kernel
theorem ex_then : thA (alw1 rdC) (alw1 rdS) 2 = some [[rdC ++ [1]], [rdC ++ [2]], [rdS ++ [2]]] := by decide +kernel
theorem ex_fault : thA (alw1 rdF) (alw1 rdS) 2 = some [[rdF ++ [1]], [rdF ++ [2]], [rdH ++ [2]]] := by decide +kernel
theorem alw_S {r : List Int} (h7 : r.length = 7) (h : chkA 2 (alw1 r) = 0) : AdS (alw1 r) :=
  adS_of (fun s hs m hm => by obtain rfl := List.mem_singleton.1 hs; obtain rfl := List.mem_singleton.1 hm; simp [h7]) h (by simp [alw1]) (by simp [alw1, movesN])
theorem chk_C : chkA 2 (alw1 rdC) = 0 := by decide +kernel
theorem chk_S : chkA 2 (alw1 rdS) = 0 := by decide +kernel
theorem chk_F : chkA 2 (alw1 rdF) = 0 := by decide +kernel
end Go.Proofs.YtiiiegflobihjaaGreat

/- The reference: joined. -/
namespace Go.Proofs.YtiiiegflobihjaaGreat
open Go.RowKit

theorem row7 {w : World} {b : Nat} {u0 u1 u2 u3 u4 u5 u6 : Value} {t : TypeId} (h : w.heap[b]? = some (.cells #[u0, u1, u2, u3, u4, u5, u6] t)) : (∀ j, w.frozen? ⟨b, j, none⟩ = false) ∧ w.cell? ⟨b, 0, none⟩ = some u0 ∧ w.cell? ⟨b, 1, none⟩ = some u1 ∧ w.cell? ⟨b, 2, none⟩ = some u2 ∧ w.cell? ⟨b, 3, none⟩ = some u3 ∧ w.cell? ⟨b, 4, none⟩ = some u4 ∧ w.cell? ⟨b, 5, none⟩ = some u5 ∧ w.cell? ⟨b, 6, none⟩ = some u6 := ⟨row_free h, box_cell h rfl, box_cell h rfl, box_cell h rfl, box_cell h rfl, box_cell h rfl, box_cell h rfl, box_cell h rfl⟩
theorem boxSet7 {w : World} {g : Nat} {x0 x1 x2 x3 x4 x5 x6 u0 u1 u2 u3 u4 u5 u6 : Value} {t : TypeId} (h : w.heap[g]? = some (.cells #[x0, x1, x2, x3, x4, x5, x6] t)) :
    (((((((w.setCell ⟨g, 0, none⟩ u0).setCell ⟨g, 1, none⟩ u1).setCell ⟨g, 2, none⟩ u2).setCell ⟨g, 3, none⟩ u3).setCell ⟨g, 4, none⟩ u4).setCell ⟨g, 5, none⟩ u5).setCell ⟨g, 6, none⟩ u6).heap[g]? = some (.cells #[u0, u1, u2, u3, u4, u5, u6] t) := by
  have h0 : (w.setCell ⟨g, 0, none⟩ u0).heap[g]? = some (.cells #[u0, x1, x2, x3, x4, x5, x6] t) := heap_setCell_same _ g 0 _ t u0 h
  have h1 : ((w.setCell ⟨g, 0, none⟩ u0).setCell ⟨g, 1, none⟩ u1).heap[g]? = some (.cells #[u0, u1, x2, x3, x4, x5, x6] t) := heap_setCell_same _ g 1 _ t u1 h0
  have h2 : (((w.setCell ⟨g, 0, none⟩ u0).setCell ⟨g, 1, none⟩ u1).setCell ⟨g, 2, none⟩ u2).heap[g]? = some (.cells #[u0, u1, u2, x3, x4, x5, x6] t) := heap_setCell_same _ g 2 _ t u2 h1
  have h3 : ((((w.setCell ⟨g, 0, none⟩ u0).setCell ⟨g, 1, none⟩ u1).setCell ⟨g, 2, none⟩ u2).setCell ⟨g, 3, none⟩ u3).heap[g]? = some (.cells #[u0, u1, u2, u3, x4, x5, x6] t) := heap_setCell_same _ g 3 _ t u3 h2
  have h4 : (((((w.setCell ⟨g, 0, none⟩ u0).setCell ⟨g, 1, none⟩ u1).setCell ⟨g, 2, none⟩ u2).setCell ⟨g, 3, none⟩ u3).setCell ⟨g, 4, none⟩ u4).heap[g]? = some (.cells #[u0, u1, u2, u3, u4, x5, x6] t) := heap_setCell_same _ g 4 _ t u4 h3
  have h5 : ((((((w.setCell ⟨g, 0, none⟩ u0).setCell ⟨g, 1, none⟩ u1).setCell ⟨g, 2, none⟩ u2).setCell ⟨g, 3, none⟩ u3).setCell ⟨g, 4, none⟩ u4).setCell ⟨g, 5, none⟩ u5).heap[g]? = some (.cells #[u0, u1, u2, u3, u4, u5, x6] t) := heap_setCell_same _ g 5 _ t u5 h4
  have h6 : (((((((w.setCell ⟨g, 0, none⟩ u0).setCell ⟨g, 1, none⟩ u1).setCell ⟨g, 2, none⟩ u2).setCell ⟨g, 3, none⟩ u3).setCell ⟨g, 4, none⟩ u4).setCell ⟨g, 5, none⟩ u5).setCell ⟨g, 6, none⟩ u6).heap[g]? = some (.cells #[u0, u1, u2, u3, u4, u5, u6] t) := heap_setCell_same _ g 6 _ t u6 h5
  exact h6
end Go.Proofs.YtiiiegflobihjaaGreat

/- always: an adversary with one state. -/
namespace Go.Proofs.YtiiiegflobihjaaGreat
open Go.RowKit

/-- A row of rows that lie in blocks. -/
theorem kssOf {w : World} {b : Nat} {us : Array Value} {t : TypeId} {xs : List (List (List Int))} (h : w.heap[b]? = some (.cells us t)) (hl : us.size = xs.length) (hn : xs.length ≤ 1000) (hk : ∀ j, j < xs.length → KS 8 w (us.getD j (.slice none 0 0)) (xs.getD j [])) : KSS 8 w (.slice (some ⟨b, 0, none⟩) xs.length xs.length) xs := by
  refine ⟨_, _, b, 0, rfl, fun _ => rfl, fun j hj => ⟨_, ?_, hk j hj⟩, by omega⟩
  rw [Nat.zero_add]
  refine box_cell h ?_
  rw [Array.getD_eq_getD_getElem?, Array.getElem?_eq_getElem (by omega)]; rfl
theorem advOf {w : World} {b : Nat} {us : Array Value} {t : TypeId} {xs : List (List (List Int))} {n : Int} (h : w.heap[b]? = some (.cells us t)) (hl : us.size = xs.length) (hn : xs.length ≤ 1000) (hk : ∀ j, j < xs.length → KS 8 w (us.getD j (.slice none 0 0)) (xs.getD j [])) : AdvV w (.agg #[.int .i64 n, .slice (some ⟨b, 0, none⟩) xs.length xs.length]) n xs := ⟨_, rfl, kssOf h hl hn hk⟩

set_option maxRecDepth 100000 in
set_option maxHeartbeats 800000 in
theorem alwaysCall {w : World} {r0 r1 r2 r3 r4 r5 r6 : Int} :
    Calls Tryz.prog 28 #[.agg #[.int .i64 r0, .int .i64 r1, .int .i64 r2, .int .i64 r3, .int .i64 r4, .int .i64 r5, .int .i64 r6]] w fun e w' => ∃ a c, e = .returned (.agg #[.int .i64 2, .slice a 1 c]) ∧ OwAdv w' (.agg #[.int .i64 2, .slice a 1 c]) 2 (alw1 [r0, r1, r2, r3, r4, r5, r6]) ∧ Below w.heap.size w w' := by
  obtain ⟨W1, hW1⟩ : ∃ W1, W1 = w.alloc (.cells #[.int .i64 r0, .int .i64 r1, .int .i64 r2, .int .i64 r3, .int .i64 r4, .int .i64 r5, .int .i64 r6] 51) := ⟨_, rfl⟩
  have k1 : W1.heap[w.heap.size]? = some (.cells #[.int .i64 r0, .int .i64 r1, .int .i64 r2, .int .i64 r3, .int .i64 r4, .int .i64 r5, .int .i64 r6] 51) := by rw [hW1]; exact heap_alloc_new _ _
  obtain ⟨_, d0, d1, d2, d3, d4, d5, d6⟩ := row7 k1
  go_enter Tryz.func28, Tryz.ntmps28
  go_wp2_with fail
  clear d0 d1 d2 d3 d4 d5 d6 k1 hW1
  generalize hW : World.alloc _ _ = WF
  have kR : WF.heap[w.heap.size + 1]? = some (.cells #[.int .i64 2, .slice (some ⟨w.heap.size + 1 + 1 + 1, 0, none⟩) 1 1] 24) := by rw [← hW]; repeat (first | (refine ha_new ?_; first | rfl | (simp only [World.size_alloc]; done)) | (refine ha_old ?_ ?_; · (simp only [World.size_alloc] <;> omega)))
  have kM : WF.heap[w.heap.size + 1 + 1]? = some (.cells #[.int .i64 r0, .int .i64 r1, .int .i64 r2, .int .i64 r3, .int .i64 r4, .int .i64 r5, .int .i64 r6, .int .i64 0] 58) := by rw [← hW]; repeat (first | (refine ha_new ?_; first | rfl | (simp only [World.size_alloc]; done)) | (refine ha_old ?_ ?_; · (simp only [World.size_alloc] <;> omega)))
  have kS : WF.heap[w.heap.size + 1 + 1 + 1]? = some (.cells #[.slice (some ⟨w.heap.size + 1 + 1, 0, none⟩) 1 1] 59) := by rw [← hW]; repeat (first | (refine ha_new ?_; first | rfl | (simp only [World.size_alloc]; done)) | (refine ha_old ?_ ?_; · (simp only [World.size_alloc] <;> omega)))
  have hbf : Below w.heap.size w WF := by rw [← hW]; repeat (first | exact Below.refl _ _ | (refine Below.alloc ?_ ?_ _; rotate_left; · (first | exact Nat.le_refl _ | (simp only [World.size_alloc] <;> omega))))
  clear hW
  obtain ⟨y0, y1⟩ := box2 kR
  have hM : OwX 58 8 EI WF 0 (.slice (some ⟨w.heap.size + 1 + 1, 0, none⟩) 1 1) 1 [[r0, r1, r2, r3, r4, r5, r6, 0]] := by
    refine ⟨[.int .i64 r0, .int .i64 r1, .int .i64 r2, .int .i64 r3, .int .i64 r4, .int .i64 r5, .int .i64 r6, .int .i64 0], ⟨rfl, .inr ⟨_, 1, _, rfl, Nat.zero_le _, kM, Nat.le_refl _, by unfold maxLen; omega, rfl, rfl⟩⟩, rfl, ?_, ?_⟩
    · intro u hu; simp only [List.mem_cons, List.not_mem_nil, or_false] at hu; rcases hu with rfl | rfl | rfl | rfl | rfl | rfl | rfl | rfl <;> rfl
    · intro j x hj
      cases j with
      | zero => simp only [List.getElem?_cons_zero, Option.some.injEq] at hj; subst hj; rfl
      | succ j => simp at hj
  have hSt : OwX 59 1 ESt WF 0 (.slice (some ⟨w.heap.size + 1 + 1 + 1, 0, none⟩) 1 1) 1 (alw1 [r0, r1, r2, r3, r4, r5, r6]) := by
    refine ⟨[.slice (some ⟨w.heap.size + 1 + 1, 0, none⟩) 1 1], ⟨rfl, .inr ⟨_, 1, _, rfl, Nat.zero_le _, kS, Nat.le_refl _, by unfold maxLen; omega, rfl, rfl⟩⟩, rfl, ?_, ?_⟩
    · intro u hu; simp only [List.mem_cons, List.not_mem_nil, or_false] at hu; rcases hu with rfl; rfl
    · intro j x hj
      cases j with
      | zero => simp only [alw1, List.getElem?_cons_zero, Option.some.injEq] at hj; subst hj; exact ⟨_, rfl, hM⟩
      | succ j => simp [alw1] at hj
  refine bodyPost_ret (v := .agg #[.int .i64 2, .slice (some ⟨w.heap.size + 1 + 1 + 1, 0, none⟩) 1 1]) (by simp [results, Tryz.results28, go_sem, y0, y1]) rfl ?_
  exact ⟨_, _, rfl, ⟨_, rfl, hSt, by simp [alw1], fun x hx => by obtain rfl := List.mem_singleton.1 hx; simp⟩, hbf⟩
end Go.Proofs.YtiiiegflobihjaaGreat

/- awake: region 3 (two calls, two boxes) by states. -/
namespace Go.Proofs.YtiiiegflobihjaaGreat
open Go.RowKit

theorem gA {W X : World} (h : Below W.heap.size W X) (o : Obj) : Below W.heap.size W (X.alloc o) := h.alloc h.size o
theorem gS {W X : World} {b : Nat} (h : Below W.heap.size W X) (hb : W.heap.size ≤ b) (j : Nat) (u : Value) : Below W.heap.size W (X.setCell ⟨b, j, none⟩ u) := h.setCell (p := ⟨b, j, none⟩) hb u
theorem gT {W X Y : World} (hb : Below X.heap.size X Y) (h : Below W.heap.size W X) : Below W.heap.size W Y := bt h hb h.size
theorem hS0 {w : World} {b : Nat} {x y u : Value} {t : TypeId} (h : w.heap[b]? = some (.cells #[x, y] t)) : (w.setCell ⟨b, 0, none⟩ u).heap[b]? = some (.cells #[u, y] t) := heap_setCell_same _ b 0 _ t u h
theorem hSn {w : World} {b k j : Nat} {o : Obj} {u : Value} (h : w.heap[k]? = some o) (hne : k ≠ b) : (w.setCell ⟨b, j, none⟩ u).heap[k]? = some o := (Below.heap_setCell w ⟨b, j, none⟩ u k hne).trans h
theorem hAn {w : World} {o o' : Obj} {k : Nat} (h : w.heap[k]? = some o) : (w.alloc o').heap[k]? = some o := (Below.heap_alloc w o' k (Array.getElem?_eq_some_iff.1 h).1).trans h
/-- A box of an adversary. -/
def BxZ (W : World) (b : Nat) : Prop := W.heap[b]? = some (.cells #[.int .i64 0, .slice none 0 0] 24)
theorem BxZ.f {W : World} {b : Nat} (h : BxZ W b) : W.cell? ⟨b, 0, none⟩ = some (.int .i64 0) ∧ W.cell? ⟨b, 1, none⟩ = some (.slice none 0 0) ∧ (∀ j, W.frozen? ⟨b, j, none⟩ = false) := ⟨box_cell h rfl, box_cell h rfl, row_free h⟩
def opsAw3 : Array Oper := #[{ dst := some 20, op := Op.load 51 (Operand.tmp 2), type := 51, pos := "law.go:25", after := #[], guard := none }, { dst := some 21, op := Op.call { callee := Callee.value (Operand.func 28), args := #[Operand.tmp 20], argTypes := #[51] }, type := 24, pos := "law.go:25", after := #[{ on := 0, ground := Ground.data }], guard := none }, { dst := some 22, op := Op.load 51 (Operand.tmp 1), type := 51, pos := "law.go:25", after := #[], guard := none }, { dst := some 23, op := Op.call { callee := Callee.value (Operand.func 28), args := #[Operand.tmp 22], argTypes := #[51] }, type := 24, pos := "law.go:25", after := #[{ on := 2, ground := Ground.data }, { on := 1, ground := Ground.chain }], guard := none }, { dst := some 3, op := Op.alloc 24, type := 0, pos := "law.go:25", after := #[], guard := none }, { dst := some 4, op := Op.alloc 24, type := 0, pos := "law.go:25", after := #[], guard := none }, { dst := none, op := Op.store 24 (Operand.tmp 3) (Operand.tmp 21), type := 0, pos := "law.go:25", after := #[{ on := 4, ground := Ground.data }, { on := 1, ground := Ground.data }, { on := 3, ground := Ground.chain }, { on := 0, ground := Ground.phase }, { on := 1, ground := Ground.phase }, { on := 2, ground := Ground.textOnly Departure.lateStores }, { on := 3, ground := Ground.textOnly Departure.lateStoresUnsure }, { on := 4, ground := Ground.phase }, { on := 5, ground := Ground.phase }], guard := none }, { dst := none, op := Op.store 24 (Operand.tmp 4) (Operand.tmp 23), type := 0, pos := "law.go:25", after := #[{ on := 5, ground := Ground.data }, { on := 3, ground := Ground.data }, { on := 6, ground := Ground.chain }, { on := 0, ground := Ground.phase }, { on := 1, ground := Ground.phase }, { on := 2, ground := Ground.phase }, { on := 3, ground := Ground.phase }, { on := 4, ground := Ground.phase }, { on := 5, ground := Ground.phase }, { on := 6, ground := Ground.phase }], guard := none }]
set_option maxRecDepth 100000 in
set_option maxHeartbeats 6400000 in
theorem regAw3 {w : World} {x0 x3 x4 x5 x6 x7 x8 x9 x10 x11 x12 x13 x14 x15 x16 x17 x18 x19 x20 x21 x22 x23 x24 x25 x26 x27 x28 x29 x30 x31 x32 x33 x34 x35 x36 x37 x38 x39 x40 x41 x42 x43 x44 x45 x46 x47 x48 x49 x50 x51 x52 x53 x54 x55 x56 x57 x58 x59 x60 x61 x62 x63 x64 x65 x66 x67 x68 x69 x70 x71 x72 x73 x74 x75 x76 x77 x78 x79 x80 x81 x82 x83 x84 x85 x86 x87 x88 x89 x90 x91 x92 x93 x94 x95 x96 x97 x98 x99 x100 x101 x102 x103 x104 x105 x106 x107 x108 x109 x110 x111 : Value} {Q : Exit → Act → World → Prop} {p1 p2 : Nat}
    (hR : Hid (∀ W, Below w.heap.size w W → (True ∧ W.cell? ⟨p1, 0, none⟩ = some (.int .i64 2) ∧ W.cell? ⟨p1, 1, none⟩ = some (.int .i64 1) ∧ W.cell? ⟨p1, 2, none⟩ = some (.int .i64 2) ∧ W.cell? ⟨p1, 3, none⟩ = some (.int .i64 0) ∧ W.cell? ⟨p1, 4, none⟩ = some (.int .i64 0) ∧ W.cell? ⟨p1, 5, none⟩ = some (.int .i64 0) ∧ W.cell? ⟨p1, 6, none⟩ = some (.int .i64 0)) ∧ (True ∧ W.cell? ⟨p2, 0, none⟩ = some (.int .i64 2) ∧ W.cell? ⟨p2, 1, none⟩ = some (.int .i64 3) ∧ W.cell? ⟨p2, 2, none⟩ = some (.int .i64 3) ∧ W.cell? ⟨p2, 3, none⟩ = some (.int .i64 0) ∧ W.cell? ⟨p2, 4, none⟩ = some (.int .i64 0) ∧ W.cell? ⟨p2, 5, none⟩ = some (.int .i64 0) ∧ W.cell? ⟨p2, 6, none⟩ = some (.int .i64 0))))
    (h : ∀ (W : World) (_hb : Below w.heap.size w W) (a5 : Option Addr) (c5 : Nat) (_hA : OwAdv W (.agg #[.int .i64 2, .slice a5 1 c5]) 2 (alw1 rdC)) (a6 : Option Addr) (c6 : Nat) (_hB : OwAdv W (.agg #[.int .i64 2, .slice a6 1 c6]) 2 (alw1 rdS)) (b3 : Nat) (_h3 : w.heap.size ≤ b3) (_k3 : W.heap[b3]? = some (.cells #[.int .i64 2, .slice a5 1 c5] 24)) (b4 : Nat) (_h4 : w.heap.size ≤ b4) (_k4 : W.heap[b4]? = some (.cells #[.int .i64 2, .slice a6 1 c6] 24)) (_hne : b3 ≠ b4), Q .normal ⟨#[x0, .pointer (some ⟨p1, 0, none⟩), .pointer (some ⟨p2, 0, none⟩), .pointer (some ⟨b3, 0, none⟩), .pointer (some ⟨b4, 0, none⟩), x5, x6, x7, x8, x9, x10, x11, x12, x13, x14, x15, x16, x17, x18, x19, .agg #[.int .i64 2, .int .i64 3, .int .i64 3, .int .i64 0, .int .i64 0, .int .i64 0, .int .i64 0], .agg #[.int .i64 2, .slice a5 1 c5], .agg #[.int .i64 2, .int .i64 1, .int .i64 2, .int .i64 0, .int .i64 0, .int .i64 0, .int .i64 0], .agg #[.int .i64 2, .slice a6 1 c6], x24, x25, x26, x27, x28, x29, x30, x31, x32, x33, x34, x35, x36, x37, x38, x39, x40, x41, x42, x43, x44, x45, x46, x47, x48, x49, x50, x51, x52, x53, x54, x55, x56, x57, x58, x59, x60, x61, x62, x63, x64, x65, x66, x67, x68, x69, x70, x71, x72, x73, x74, x75, x76, x77, x78, x79, x80, x81, x82, x83, x84, x85, x86, x87, x88, x89, x90, x91, x92, x93, x94, x95, x96, x97, x98, x99, x100, x101, x102, x103, x104, x105, x106, x107, x108, x109, x110, x111], []⟩ W) :
    (Code.region 3 opsAw3 true).wp Tryz.prog Q ⟨#[x0, .pointer (some ⟨p1, 0, none⟩), .pointer (some ⟨p2, 0, none⟩), x3, x4, x5, x6, x7, x8, x9, x10, x11, x12, x13, x14, x15, x16, x17, x18, x19, x20, x21, x22, x23, x24, x25, x26, x27, x28, x29, x30, x31, x32, x33, x34, x35, x36, x37, x38, x39, x40, x41, x42, x43, x44, x45, x46, x47, x48, x49, x50, x51, x52, x53, x54, x55, x56, x57, x58, x59, x60, x61, x62, x63, x64, x65, x66, x67, x68, x69, x70, x71, x72, x73, x74, x75, x76, x77, x78, x79, x80, x81, x82, x83, x84, x85, x86, x87, x88, x89, x90, x91, x92, x93, x94, x95, x96, x97, x98, x99, x100, x101, x102, x103, x104, x105, x106, x107, x108, x109, x110, x111], []⟩ w := by
  have HC1 := Lib.hid (fun W => alwaysCall (w := W) (r0 := 2) (r1 := 3) (r2 := 3) (r3 := 0) (r4 := 0) (r5 := 0) (r6 := 0))
  have HC2 := Lib.hid (fun W => alwaysCall (w := W) (r0 := 2) (r1 := 1) (r2 := 2) (r3 := 0) (r4 := 0) (r5 := 0) (r6 := 0))
  have ho0 : opsAw3[0]? = some { dst := some 20, op := Op.load 51 (Operand.tmp 2), type := 51, pos := "law.go:25", after := #[], guard := none } := rfl
  have ho1 : opsAw3[1]? = some { dst := some 21, op := Op.call { callee := Callee.value (Operand.func 28), args := #[Operand.tmp 20], argTypes := #[51] }, type := 24, pos := "law.go:25", after := #[{ on := 0, ground := Ground.data }], guard := none } := rfl
  have ho2 : opsAw3[2]? = some { dst := some 22, op := Op.load 51 (Operand.tmp 1), type := 51, pos := "law.go:25", after := #[], guard := none } := rfl
  have ho3 : opsAw3[3]? = some { dst := some 23, op := Op.call { callee := Callee.value (Operand.func 28), args := #[Operand.tmp 22], argTypes := #[51] }, type := 24, pos := "law.go:25", after := #[{ on := 2, ground := Ground.data }, { on := 1, ground := Ground.chain }], guard := none } := rfl
  have ho4 : opsAw3[4]? = some { dst := some 3, op := Op.alloc 24, type := 0, pos := "law.go:25", after := #[], guard := none } := rfl
  have ho5 : opsAw3[5]? = some { dst := some 4, op := Op.alloc 24, type := 0, pos := "law.go:25", after := #[], guard := none } := rfl
  have ho6 : opsAw3[6]? = some { dst := none, op := Op.store 24 (Operand.tmp 3) (Operand.tmp 21), type := 0, pos := "law.go:25", after := #[{ on := 4, ground := Ground.data }, { on := 1, ground := Ground.data }, { on := 3, ground := Ground.chain }, { on := 0, ground := Ground.phase }, { on := 1, ground := Ground.phase }, { on := 2, ground := Ground.textOnly Departure.lateStores }, { on := 3, ground := Ground.textOnly Departure.lateStoresUnsure }, { on := 4, ground := Ground.phase }, { on := 5, ground := Ground.phase }], guard := none } := rfl
  have ho7 : opsAw3[7]? = some { dst := none, op := Op.store 24 (Operand.tmp 4) (Operand.tmp 23), type := 0, pos := "law.go:25", after := #[{ on := 5, ground := Ground.data }, { on := 3, ground := Ground.data }, { on := 6, ground := Ground.chain }, { on := 0, ground := Ground.phase }, { on := 1, ground := Ground.phase }, { on := 2, ground := Ground.phase }, { on := 3, ground := Ground.phase }, { on := 4, ground := Ground.phase }, { on := 5, ground := Ground.phase }, { on := 6, ground := Ground.phase }], guard := none } := rfl
  refine wp_region_any (by kernel_rfl) ?_
  have st01234567_ : ∀ (W : World) (hb : Below w.heap.size w W) (a5 : Option Addr) (c5 : Nat) (hA : OwAdv W (.agg #[.int .i64 2, .slice a5 1 c5]) 2 (alw1 rdC)) (a6 : Option Addr) (c6 : Nat) (hB : OwAdv W (.agg #[.int .i64 2, .slice a6 1 c6]) 2 (alw1 rdS)) (b3 : Nat) (h3 : w.heap.size ≤ b3) (k3 : W.heap[b3]? = some (.cells #[.int .i64 2, .slice a5 1 c5] 24)) (b4 : Nat) (h4 : w.heap.size ≤ b4) (k4 : W.heap[b4]? = some (.cells #[.int .i64 2, .slice a6 1 c6] 24)) (hne : b3 ≠ b4), wpAny Tryz.prog .any opsAw3 Q 0 #[true, true, true, true, true, true, true, true] ⟨#[x0, .pointer (some ⟨p1, 0, none⟩), .pointer (some ⟨p2, 0, none⟩), .pointer (some ⟨b3, 0, none⟩), .pointer (some ⟨b4, 0, none⟩), x5, x6, x7, x8, x9, x10, x11, x12, x13, x14, x15, x16, x17, x18, x19, .agg #[.int .i64 2, .int .i64 3, .int .i64 3, .int .i64 0, .int .i64 0, .int .i64 0, .int .i64 0], .agg #[.int .i64 2, .slice a5 1 c5], .agg #[.int .i64 2, .int .i64 1, .int .i64 2, .int .i64 0, .int .i64 0, .int .i64 0, .int .i64 0], .agg #[.int .i64 2, .slice a6 1 c6], x24, x25, x26, x27, x28, x29, x30, x31, x32, x33, x34, x35, x36, x37, x38, x39, x40, x41, x42, x43, x44, x45, x46, x47, x48, x49, x50, x51, x52, x53, x54, x55, x56, x57, x58, x59, x60, x61, x62, x63, x64, x65, x66, x67, x68, x69, x70, x71, x72, x73, x74, x75, x76, x77, x78, x79, x80, x81, x82, x83, x84, x85, x86, x87, x88, x89, x90, x91, x92, x93, x94, x95, x96, x97, x98, x99, x100, x101, x102, x103, x104, x105, x106, x107, x108, x109, x110, x111], []⟩ W := by
    intro W hb a5 c5 hA a6 c6 hB b3 h3 k3 b4 h4 k4 hne
    exact ⟨by kernel_rfl, h _ hb a5 c5 hA a6 c6 hB b3 h3 k3 b4 h4 k4 hne⟩
  have st0123456_ : ∀ (W : World) (hb : Below w.heap.size w W) (a5 : Option Addr) (c5 : Nat) (hA : OwAdv W (.agg #[.int .i64 2, .slice a5 1 c5]) 2 (alw1 rdC)) (a6 : Option Addr) (c6 : Nat) (hB : OwAdv W (.agg #[.int .i64 2, .slice a6 1 c6]) 2 (alw1 rdS)) (b3 : Nat) (h3 : w.heap.size ≤ b3) (k3 : W.heap[b3]? = some (.cells #[.int .i64 2, .slice a5 1 c5] 24)) (b4 : Nat) (h4 : w.heap.size ≤ b4) (k4 : BxZ W b4) (hne : b3 ≠ b4), wpAny Tryz.prog .any opsAw3 Q 1 #[true, true, true, true, true, true, true, false] ⟨#[x0, .pointer (some ⟨p1, 0, none⟩), .pointer (some ⟨p2, 0, none⟩), .pointer (some ⟨b3, 0, none⟩), .pointer (some ⟨b4, 0, none⟩), x5, x6, x7, x8, x9, x10, x11, x12, x13, x14, x15, x16, x17, x18, x19, .agg #[.int .i64 2, .int .i64 3, .int .i64 3, .int .i64 0, .int .i64 0, .int .i64 0, .int .i64 0], .agg #[.int .i64 2, .slice a5 1 c5], .agg #[.int .i64 2, .int .i64 1, .int .i64 2, .int .i64 0, .int .i64 0, .int .i64 0, .int .i64 0], .agg #[.int .i64 2, .slice a6 1 c6], x24, x25, x26, x27, x28, x29, x30, x31, x32, x33, x34, x35, x36, x37, x38, x39, x40, x41, x42, x43, x44, x45, x46, x47, x48, x49, x50, x51, x52, x53, x54, x55, x56, x57, x58, x59, x60, x61, x62, x63, x64, x65, x66, x67, x68, x69, x70, x71, x72, x73, x74, x75, x76, x77, x78, x79, x80, x81, x82, x83, x84, x85, x86, x87, x88, x89, x90, x91, x92, x93, x94, x95, x96, x97, x98, x99, x100, x101, x102, x103, x104, x105, x106, x107, x108, x109, x110, x111], []⟩ W := by
    intro W hb a5 c5 hA a6 c6 hB b3 h3 k3 b4 h4 k4 hne
    refine wpAny_ready (rs := [7]) (by kernel_rfl) (by simp) ?_
    refine AllReady.cons ho7 (fun K hK => ?_) AllReady.nil
    · obtain ⟨y0, y1, yf⟩ := BxZ.f k4
      go_simp
      refine hK _ _ ?_
      exact st01234567_ ((W.setCell ⟨b4, 0, none⟩ (.int .i64 2)).setCell ⟨b4, 1, none⟩ (.slice a6 1 c6)) (gS (gS hb h4 0 (.int .i64 2)) h4 1 (.slice a6 1 c6)) a5 c5 (hA.other ((KeepX.setCell (p := ⟨b4, 0, none⟩) k4 (.int .i64 2)).trans (KeepX.setCell (p := ⟨b4, 1, none⟩) (hS0 (u := .int .i64 2) k4) (.slice a6 1 c6)))) a6 c6 (hB.other ((KeepX.setCell (p := ⟨b4, 0, none⟩) k4 (.int .i64 2)).trans (KeepX.setCell (p := ⟨b4, 1, none⟩) (hS0 (u := .int .i64 2) k4) (.slice a6 1 c6)))) b3 h3 (hSn (hSn k3 hne) hne) b4 h4 (boxSet2' (u := .int .i64 2) (v := .slice a6 1 c6) k4) hne
  have st012345_ : ∀ (W : World) (hb : Below w.heap.size w W) (a5 : Option Addr) (c5 : Nat) (hA : OwAdv W (.agg #[.int .i64 2, .slice a5 1 c5]) 2 (alw1 rdC)) (a6 : Option Addr) (c6 : Nat) (hB : OwAdv W (.agg #[.int .i64 2, .slice a6 1 c6]) 2 (alw1 rdS)) (b3 : Nat) (h3 : w.heap.size ≤ b3) (k3 : BxZ W b3) (b4 : Nat) (h4 : w.heap.size ≤ b4) (k4 : BxZ W b4) (hne : b3 ≠ b4), wpAny Tryz.prog .any opsAw3 Q 2 #[true, true, true, true, true, true, false, false] ⟨#[x0, .pointer (some ⟨p1, 0, none⟩), .pointer (some ⟨p2, 0, none⟩), .pointer (some ⟨b3, 0, none⟩), .pointer (some ⟨b4, 0, none⟩), x5, x6, x7, x8, x9, x10, x11, x12, x13, x14, x15, x16, x17, x18, x19, .agg #[.int .i64 2, .int .i64 3, .int .i64 3, .int .i64 0, .int .i64 0, .int .i64 0, .int .i64 0], .agg #[.int .i64 2, .slice a5 1 c5], .agg #[.int .i64 2, .int .i64 1, .int .i64 2, .int .i64 0, .int .i64 0, .int .i64 0, .int .i64 0], .agg #[.int .i64 2, .slice a6 1 c6], x24, x25, x26, x27, x28, x29, x30, x31, x32, x33, x34, x35, x36, x37, x38, x39, x40, x41, x42, x43, x44, x45, x46, x47, x48, x49, x50, x51, x52, x53, x54, x55, x56, x57, x58, x59, x60, x61, x62, x63, x64, x65, x66, x67, x68, x69, x70, x71, x72, x73, x74, x75, x76, x77, x78, x79, x80, x81, x82, x83, x84, x85, x86, x87, x88, x89, x90, x91, x92, x93, x94, x95, x96, x97, x98, x99, x100, x101, x102, x103, x104, x105, x106, x107, x108, x109, x110, x111], []⟩ W := by
    intro W hb a5 c5 hA a6 c6 hB b3 h3 k3 b4 h4 k4 hne
    refine wpAny_ready (rs := [6]) (by kernel_rfl) (by simp) ?_
    refine AllReady.cons ho6 (fun K hK => ?_) AllReady.nil
    · obtain ⟨y0, y1, yf⟩ := BxZ.f k3
      go_simp
      refine hK _ _ ?_
      exact st0123456_ ((W.setCell ⟨b3, 0, none⟩ (.int .i64 2)).setCell ⟨b3, 1, none⟩ (.slice a5 1 c5)) (gS (gS hb h3 0 (.int .i64 2)) h3 1 (.slice a5 1 c5)) a5 c5 (hA.other ((KeepX.setCell (p := ⟨b3, 0, none⟩) k3 (.int .i64 2)).trans (KeepX.setCell (p := ⟨b3, 1, none⟩) (hS0 (u := .int .i64 2) k3) (.slice a5 1 c5)))) a6 c6 (hB.other ((KeepX.setCell (p := ⟨b3, 0, none⟩) k3 (.int .i64 2)).trans (KeepX.setCell (p := ⟨b3, 1, none⟩) (hS0 (u := .int .i64 2) k3) (.slice a5 1 c5)))) b3 h3 (boxSet2' (u := .int .i64 2) (v := .slice a5 1 c5) k3) b4 h4 (hSn (hSn k4 hne.symm) hne.symm) hne
  have st01234_ : ∀ (W : World) (hb : Below w.heap.size w W) (a5 : Option Addr) (c5 : Nat) (hA : OwAdv W (.agg #[.int .i64 2, .slice a5 1 c5]) 2 (alw1 rdC)) (a6 : Option Addr) (c6 : Nat) (hB : OwAdv W (.agg #[.int .i64 2, .slice a6 1 c6]) 2 (alw1 rdS)) (b3 : Nat) (h3 : w.heap.size ≤ b3) (k3 : BxZ W b3), wpAny Tryz.prog .any opsAw3 Q 3 #[true, true, true, true, true, false, false, false] ⟨#[x0, .pointer (some ⟨p1, 0, none⟩), .pointer (some ⟨p2, 0, none⟩), .pointer (some ⟨b3, 0, none⟩), x4, x5, x6, x7, x8, x9, x10, x11, x12, x13, x14, x15, x16, x17, x18, x19, .agg #[.int .i64 2, .int .i64 3, .int .i64 3, .int .i64 0, .int .i64 0, .int .i64 0, .int .i64 0], .agg #[.int .i64 2, .slice a5 1 c5], .agg #[.int .i64 2, .int .i64 1, .int .i64 2, .int .i64 0, .int .i64 0, .int .i64 0, .int .i64 0], .agg #[.int .i64 2, .slice a6 1 c6], x24, x25, x26, x27, x28, x29, x30, x31, x32, x33, x34, x35, x36, x37, x38, x39, x40, x41, x42, x43, x44, x45, x46, x47, x48, x49, x50, x51, x52, x53, x54, x55, x56, x57, x58, x59, x60, x61, x62, x63, x64, x65, x66, x67, x68, x69, x70, x71, x72, x73, x74, x75, x76, x77, x78, x79, x80, x81, x82, x83, x84, x85, x86, x87, x88, x89, x90, x91, x92, x93, x94, x95, x96, x97, x98, x99, x100, x101, x102, x103, x104, x105, x106, x107, x108, x109, x110, x111], []⟩ W := by
    intro W hb a5 c5 hA a6 c6 hB b3 h3 k3
    refine wpAny_ready (rs := [5]) (by kernel_rfl) (by simp) ?_
    refine AllReady.cons ho5 (fun K hK => ?_) AllReady.nil
    · go_simp
      refine hK _ _ ?_
      exact st012345_ (W.alloc (.cells #[.int .i64 0, .slice none 0 0] 24)) (gA hb _) a5 c5 (hA.keep (gA (Below.refl _ _) _)) a6 c6 (hB.keep (gA (Below.refl _ _) _)) b3 h3 (hAn k3) W.heap.size hb.size (heap_alloc_new _ _) (Nat.ne_of_lt (Array.getElem?_eq_some_iff.1 k3).1)
  have st01235_ : ∀ (W : World) (hb : Below w.heap.size w W) (a5 : Option Addr) (c5 : Nat) (hA : OwAdv W (.agg #[.int .i64 2, .slice a5 1 c5]) 2 (alw1 rdC)) (a6 : Option Addr) (c6 : Nat) (hB : OwAdv W (.agg #[.int .i64 2, .slice a6 1 c6]) 2 (alw1 rdS)) (b4 : Nat) (h4 : w.heap.size ≤ b4) (k4 : BxZ W b4), wpAny Tryz.prog .any opsAw3 Q 3 #[true, true, true, true, false, true, false, false] ⟨#[x0, .pointer (some ⟨p1, 0, none⟩), .pointer (some ⟨p2, 0, none⟩), x3, .pointer (some ⟨b4, 0, none⟩), x5, x6, x7, x8, x9, x10, x11, x12, x13, x14, x15, x16, x17, x18, x19, .agg #[.int .i64 2, .int .i64 3, .int .i64 3, .int .i64 0, .int .i64 0, .int .i64 0, .int .i64 0], .agg #[.int .i64 2, .slice a5 1 c5], .agg #[.int .i64 2, .int .i64 1, .int .i64 2, .int .i64 0, .int .i64 0, .int .i64 0, .int .i64 0], .agg #[.int .i64 2, .slice a6 1 c6], x24, x25, x26, x27, x28, x29, x30, x31, x32, x33, x34, x35, x36, x37, x38, x39, x40, x41, x42, x43, x44, x45, x46, x47, x48, x49, x50, x51, x52, x53, x54, x55, x56, x57, x58, x59, x60, x61, x62, x63, x64, x65, x66, x67, x68, x69, x70, x71, x72, x73, x74, x75, x76, x77, x78, x79, x80, x81, x82, x83, x84, x85, x86, x87, x88, x89, x90, x91, x92, x93, x94, x95, x96, x97, x98, x99, x100, x101, x102, x103, x104, x105, x106, x107, x108, x109, x110, x111], []⟩ W := by
    intro W hb a5 c5 hA a6 c6 hB b4 h4 k4
    refine wpAny_ready (rs := [4]) (by kernel_rfl) (by simp) ?_
    refine AllReady.cons ho4 (fun K hK => ?_) AllReady.nil
    · go_simp
      refine hK _ _ ?_
      exact st012345_ (W.alloc (.cells #[.int .i64 0, .slice none 0 0] 24)) (gA hb _) a5 c5 (hA.keep (gA (Below.refl _ _) _)) a6 c6 (hB.keep (gA (Below.refl _ _) _)) W.heap.size hb.size (heap_alloc_new _ _) b4 h4 (hAn k4) (Nat.ne_of_gt (Array.getElem?_eq_some_iff.1 k4).1)
  have st01245_ : ∀ (W : World) (hb : Below w.heap.size w W) (a5 : Option Addr) (c5 : Nat) (hA : OwAdv W (.agg #[.int .i64 2, .slice a5 1 c5]) 2 (alw1 rdC)) (b3 : Nat) (h3 : w.heap.size ≤ b3) (k3 : BxZ W b3) (b4 : Nat) (h4 : w.heap.size ≤ b4) (k4 : BxZ W b4) (hne : b3 ≠ b4), wpAny Tryz.prog .any opsAw3 Q 3 #[true, true, true, false, true, true, false, false] ⟨#[x0, .pointer (some ⟨p1, 0, none⟩), .pointer (some ⟨p2, 0, none⟩), .pointer (some ⟨b3, 0, none⟩), .pointer (some ⟨b4, 0, none⟩), x5, x6, x7, x8, x9, x10, x11, x12, x13, x14, x15, x16, x17, x18, x19, .agg #[.int .i64 2, .int .i64 3, .int .i64 3, .int .i64 0, .int .i64 0, .int .i64 0, .int .i64 0], .agg #[.int .i64 2, .slice a5 1 c5], .agg #[.int .i64 2, .int .i64 1, .int .i64 2, .int .i64 0, .int .i64 0, .int .i64 0, .int .i64 0], x23, x24, x25, x26, x27, x28, x29, x30, x31, x32, x33, x34, x35, x36, x37, x38, x39, x40, x41, x42, x43, x44, x45, x46, x47, x48, x49, x50, x51, x52, x53, x54, x55, x56, x57, x58, x59, x60, x61, x62, x63, x64, x65, x66, x67, x68, x69, x70, x71, x72, x73, x74, x75, x76, x77, x78, x79, x80, x81, x82, x83, x84, x85, x86, x87, x88, x89, x90, x91, x92, x93, x94, x95, x96, x97, x98, x99, x100, x101, x102, x103, x104, x105, x106, x107, x108, x109, x110, x111], []⟩ W := by
    intro W hb a5 c5 hA b3 h3 k3 b4 h4 k4 hne
    refine wpAny_ready (rs := [3]) (by kernel_rfl) (by simp) ?_
    refine AllReady.cons ho3 (fun K hK => ?_) AllReady.nil
    · go_simp
      go_at_call 28
      (with_reducible refine (HC2.out W).mono ?_)
      rintro e W9 ⟨a6, c6, rfl, hB9, hb9⟩
      dsimp only
      refine hK _ _ ?_
      exact st012345_ W9 (gT hb9 hb) a5 c5 (hA.keep hb9) a6 c6 hB9 b3 h3 (kept hb9 k3) b4 h4 (kept hb9 k4) hne
  have st0123_ : ∀ (W : World) (hb : Below w.heap.size w W) (a5 : Option Addr) (c5 : Nat) (hA : OwAdv W (.agg #[.int .i64 2, .slice a5 1 c5]) 2 (alw1 rdC)) (a6 : Option Addr) (c6 : Nat) (hB : OwAdv W (.agg #[.int .i64 2, .slice a6 1 c6]) 2 (alw1 rdS)), wpAny Tryz.prog .any opsAw3 Q 4 #[true, true, true, true, false, false, false, false] ⟨#[x0, .pointer (some ⟨p1, 0, none⟩), .pointer (some ⟨p2, 0, none⟩), x3, x4, x5, x6, x7, x8, x9, x10, x11, x12, x13, x14, x15, x16, x17, x18, x19, .agg #[.int .i64 2, .int .i64 3, .int .i64 3, .int .i64 0, .int .i64 0, .int .i64 0, .int .i64 0], .agg #[.int .i64 2, .slice a5 1 c5], .agg #[.int .i64 2, .int .i64 1, .int .i64 2, .int .i64 0, .int .i64 0, .int .i64 0, .int .i64 0], .agg #[.int .i64 2, .slice a6 1 c6], x24, x25, x26, x27, x28, x29, x30, x31, x32, x33, x34, x35, x36, x37, x38, x39, x40, x41, x42, x43, x44, x45, x46, x47, x48, x49, x50, x51, x52, x53, x54, x55, x56, x57, x58, x59, x60, x61, x62, x63, x64, x65, x66, x67, x68, x69, x70, x71, x72, x73, x74, x75, x76, x77, x78, x79, x80, x81, x82, x83, x84, x85, x86, x87, x88, x89, x90, x91, x92, x93, x94, x95, x96, x97, x98, x99, x100, x101, x102, x103, x104, x105, x106, x107, x108, x109, x110, x111], []⟩ W := by
    intro W hb a5 c5 hA a6 c6 hB
    refine wpAny_ready (rs := [4, 5]) (by kernel_rfl) (by simp) ?_
    refine AllReady.cons ho4 (fun K hK => ?_) (AllReady.cons ho5 (fun K hK => ?_) AllReady.nil)
    · go_simp
      refine hK _ _ ?_
      exact st01234_ (W.alloc (.cells #[.int .i64 0, .slice none 0 0] 24)) (gA hb _) a5 c5 (hA.keep (gA (Below.refl _ _) _)) a6 c6 (hB.keep (gA (Below.refl _ _) _)) W.heap.size hb.size (heap_alloc_new _ _)
    · go_simp
      refine hK _ _ ?_
      exact st01235_ (W.alloc (.cells #[.int .i64 0, .slice none 0 0] 24)) (gA hb _) a5 c5 (hA.keep (gA (Below.refl _ _) _)) a6 c6 (hB.keep (gA (Below.refl _ _) _)) W.heap.size hb.size (heap_alloc_new _ _)
  have st0124_ : ∀ (W : World) (hb : Below w.heap.size w W) (a5 : Option Addr) (c5 : Nat) (hA : OwAdv W (.agg #[.int .i64 2, .slice a5 1 c5]) 2 (alw1 rdC)) (b3 : Nat) (h3 : w.heap.size ≤ b3) (k3 : BxZ W b3), wpAny Tryz.prog .any opsAw3 Q 4 #[true, true, true, false, true, false, false, false] ⟨#[x0, .pointer (some ⟨p1, 0, none⟩), .pointer (some ⟨p2, 0, none⟩), .pointer (some ⟨b3, 0, none⟩), x4, x5, x6, x7, x8, x9, x10, x11, x12, x13, x14, x15, x16, x17, x18, x19, .agg #[.int .i64 2, .int .i64 3, .int .i64 3, .int .i64 0, .int .i64 0, .int .i64 0, .int .i64 0], .agg #[.int .i64 2, .slice a5 1 c5], .agg #[.int .i64 2, .int .i64 1, .int .i64 2, .int .i64 0, .int .i64 0, .int .i64 0, .int .i64 0], x23, x24, x25, x26, x27, x28, x29, x30, x31, x32, x33, x34, x35, x36, x37, x38, x39, x40, x41, x42, x43, x44, x45, x46, x47, x48, x49, x50, x51, x52, x53, x54, x55, x56, x57, x58, x59, x60, x61, x62, x63, x64, x65, x66, x67, x68, x69, x70, x71, x72, x73, x74, x75, x76, x77, x78, x79, x80, x81, x82, x83, x84, x85, x86, x87, x88, x89, x90, x91, x92, x93, x94, x95, x96, x97, x98, x99, x100, x101, x102, x103, x104, x105, x106, x107, x108, x109, x110, x111], []⟩ W := by
    intro W hb a5 c5 hA b3 h3 k3
    refine wpAny_ready (rs := [3, 5]) (by kernel_rfl) (by simp) ?_
    refine AllReady.cons ho3 (fun K hK => ?_) (AllReady.cons ho5 (fun K hK => ?_) AllReady.nil)
    · go_simp
      go_at_call 28
      (with_reducible refine (HC2.out W).mono ?_)
      rintro e W9 ⟨a6, c6, rfl, hB9, hb9⟩
      dsimp only
      refine hK _ _ ?_
      exact st01234_ W9 (gT hb9 hb) a5 c5 (hA.keep hb9) a6 c6 hB9 b3 h3 (kept hb9 k3)
    · go_simp
      refine hK _ _ ?_
      exact st01245_ (W.alloc (.cells #[.int .i64 0, .slice none 0 0] 24)) (gA hb _) a5 c5 (hA.keep (gA (Below.refl _ _) _)) b3 h3 (hAn k3) W.heap.size hb.size (heap_alloc_new _ _) (Nat.ne_of_lt (Array.getElem?_eq_some_iff.1 k3).1)
  have st0125_ : ∀ (W : World) (hb : Below w.heap.size w W) (a5 : Option Addr) (c5 : Nat) (hA : OwAdv W (.agg #[.int .i64 2, .slice a5 1 c5]) 2 (alw1 rdC)) (b4 : Nat) (h4 : w.heap.size ≤ b4) (k4 : BxZ W b4), wpAny Tryz.prog .any opsAw3 Q 4 #[true, true, true, false, false, true, false, false] ⟨#[x0, .pointer (some ⟨p1, 0, none⟩), .pointer (some ⟨p2, 0, none⟩), x3, .pointer (some ⟨b4, 0, none⟩), x5, x6, x7, x8, x9, x10, x11, x12, x13, x14, x15, x16, x17, x18, x19, .agg #[.int .i64 2, .int .i64 3, .int .i64 3, .int .i64 0, .int .i64 0, .int .i64 0, .int .i64 0], .agg #[.int .i64 2, .slice a5 1 c5], .agg #[.int .i64 2, .int .i64 1, .int .i64 2, .int .i64 0, .int .i64 0, .int .i64 0, .int .i64 0], x23, x24, x25, x26, x27, x28, x29, x30, x31, x32, x33, x34, x35, x36, x37, x38, x39, x40, x41, x42, x43, x44, x45, x46, x47, x48, x49, x50, x51, x52, x53, x54, x55, x56, x57, x58, x59, x60, x61, x62, x63, x64, x65, x66, x67, x68, x69, x70, x71, x72, x73, x74, x75, x76, x77, x78, x79, x80, x81, x82, x83, x84, x85, x86, x87, x88, x89, x90, x91, x92, x93, x94, x95, x96, x97, x98, x99, x100, x101, x102, x103, x104, x105, x106, x107, x108, x109, x110, x111], []⟩ W := by
    intro W hb a5 c5 hA b4 h4 k4
    refine wpAny_ready (rs := [3, 4]) (by kernel_rfl) (by simp) ?_
    refine AllReady.cons ho3 (fun K hK => ?_) (AllReady.cons ho4 (fun K hK => ?_) AllReady.nil)
    · go_simp
      go_at_call 28
      (with_reducible refine (HC2.out W).mono ?_)
      rintro e W9 ⟨a6, c6, rfl, hB9, hb9⟩
      dsimp only
      refine hK _ _ ?_
      exact st01235_ W9 (gT hb9 hb) a5 c5 (hA.keep hb9) a6 c6 hB9 b4 h4 (kept hb9 k4)
    · go_simp
      refine hK _ _ ?_
      exact st01245_ (W.alloc (.cells #[.int .i64 0, .slice none 0 0] 24)) (gA hb _) a5 c5 (hA.keep (gA (Below.refl _ _) _)) W.heap.size hb.size (heap_alloc_new _ _) b4 h4 (hAn k4) (Nat.ne_of_gt (Array.getElem?_eq_some_iff.1 k4).1)
  have st0145_ : ∀ (W : World) (hb : Below w.heap.size w W) (a5 : Option Addr) (c5 : Nat) (hA : OwAdv W (.agg #[.int .i64 2, .slice a5 1 c5]) 2 (alw1 rdC)) (b3 : Nat) (h3 : w.heap.size ≤ b3) (k3 : BxZ W b3) (b4 : Nat) (h4 : w.heap.size ≤ b4) (k4 : BxZ W b4) (hne : b3 ≠ b4), wpAny Tryz.prog .any opsAw3 Q 4 #[true, true, false, false, true, true, false, false] ⟨#[x0, .pointer (some ⟨p1, 0, none⟩), .pointer (some ⟨p2, 0, none⟩), .pointer (some ⟨b3, 0, none⟩), .pointer (some ⟨b4, 0, none⟩), x5, x6, x7, x8, x9, x10, x11, x12, x13, x14, x15, x16, x17, x18, x19, .agg #[.int .i64 2, .int .i64 3, .int .i64 3, .int .i64 0, .int .i64 0, .int .i64 0, .int .i64 0], .agg #[.int .i64 2, .slice a5 1 c5], x22, x23, x24, x25, x26, x27, x28, x29, x30, x31, x32, x33, x34, x35, x36, x37, x38, x39, x40, x41, x42, x43, x44, x45, x46, x47, x48, x49, x50, x51, x52, x53, x54, x55, x56, x57, x58, x59, x60, x61, x62, x63, x64, x65, x66, x67, x68, x69, x70, x71, x72, x73, x74, x75, x76, x77, x78, x79, x80, x81, x82, x83, x84, x85, x86, x87, x88, x89, x90, x91, x92, x93, x94, x95, x96, x97, x98, x99, x100, x101, x102, x103, x104, x105, x106, x107, x108, x109, x110, x111], []⟩ W := by
    intro W hb a5 c5 hA b3 h3 k3 b4 h4 k4 hne
    refine wpAny_ready (rs := [2]) (by kernel_rfl) (by simp) ?_
    refine AllReady.cons ho2 (fun K hK => ?_) AllReady.nil
    · obtain ⟨⟨_, s0, s1, s2, s3, s4, s5, s6⟩, ⟨_, d0, d1, d2, d3, d4, d5, d6⟩⟩ := hR.out W hb
      go_simp
      refine hK _ _ ?_
      exact st01245_ W hb a5 c5 hA b3 h3 k3 b4 h4 k4 hne
  have st0245_ : ∀ (W : World) (hb : Below w.heap.size w W) (b3 : Nat) (h3 : w.heap.size ≤ b3) (k3 : BxZ W b3) (b4 : Nat) (h4 : w.heap.size ≤ b4) (k4 : BxZ W b4) (hne : b3 ≠ b4), wpAny Tryz.prog .any opsAw3 Q 4 #[true, false, true, false, true, true, false, false] ⟨#[x0, .pointer (some ⟨p1, 0, none⟩), .pointer (some ⟨p2, 0, none⟩), .pointer (some ⟨b3, 0, none⟩), .pointer (some ⟨b4, 0, none⟩), x5, x6, x7, x8, x9, x10, x11, x12, x13, x14, x15, x16, x17, x18, x19, .agg #[.int .i64 2, .int .i64 3, .int .i64 3, .int .i64 0, .int .i64 0, .int .i64 0, .int .i64 0], x21, .agg #[.int .i64 2, .int .i64 1, .int .i64 2, .int .i64 0, .int .i64 0, .int .i64 0, .int .i64 0], x23, x24, x25, x26, x27, x28, x29, x30, x31, x32, x33, x34, x35, x36, x37, x38, x39, x40, x41, x42, x43, x44, x45, x46, x47, x48, x49, x50, x51, x52, x53, x54, x55, x56, x57, x58, x59, x60, x61, x62, x63, x64, x65, x66, x67, x68, x69, x70, x71, x72, x73, x74, x75, x76, x77, x78, x79, x80, x81, x82, x83, x84, x85, x86, x87, x88, x89, x90, x91, x92, x93, x94, x95, x96, x97, x98, x99, x100, x101, x102, x103, x104, x105, x106, x107, x108, x109, x110, x111], []⟩ W := by
    intro W hb b3 h3 k3 b4 h4 k4 hne
    refine wpAny_ready (rs := [1]) (by kernel_rfl) (by simp) ?_
    refine AllReady.cons ho1 (fun K hK => ?_) AllReady.nil
    · go_simp
      go_at_call 28
      (with_reducible refine (HC1.out W).mono ?_)
      rintro e W9 ⟨a5, c5, rfl, hA9, hb9⟩
      dsimp only
      refine hK _ _ ?_
      exact st01245_ W9 (gT hb9 hb) a5 c5 hA9 b3 h3 (kept hb9 k3) b4 h4 (kept hb9 k4) hne
  have st012_ : ∀ (W : World) (hb : Below w.heap.size w W) (a5 : Option Addr) (c5 : Nat) (hA : OwAdv W (.agg #[.int .i64 2, .slice a5 1 c5]) 2 (alw1 rdC)), wpAny Tryz.prog .any opsAw3 Q 5 #[true, true, true, false, false, false, false, false] ⟨#[x0, .pointer (some ⟨p1, 0, none⟩), .pointer (some ⟨p2, 0, none⟩), x3, x4, x5, x6, x7, x8, x9, x10, x11, x12, x13, x14, x15, x16, x17, x18, x19, .agg #[.int .i64 2, .int .i64 3, .int .i64 3, .int .i64 0, .int .i64 0, .int .i64 0, .int .i64 0], .agg #[.int .i64 2, .slice a5 1 c5], .agg #[.int .i64 2, .int .i64 1, .int .i64 2, .int .i64 0, .int .i64 0, .int .i64 0, .int .i64 0], x23, x24, x25, x26, x27, x28, x29, x30, x31, x32, x33, x34, x35, x36, x37, x38, x39, x40, x41, x42, x43, x44, x45, x46, x47, x48, x49, x50, x51, x52, x53, x54, x55, x56, x57, x58, x59, x60, x61, x62, x63, x64, x65, x66, x67, x68, x69, x70, x71, x72, x73, x74, x75, x76, x77, x78, x79, x80, x81, x82, x83, x84, x85, x86, x87, x88, x89, x90, x91, x92, x93, x94, x95, x96, x97, x98, x99, x100, x101, x102, x103, x104, x105, x106, x107, x108, x109, x110, x111], []⟩ W := by
    intro W hb a5 c5 hA
    refine wpAny_ready (rs := [3, 4, 5]) (by kernel_rfl) (by simp) ?_
    refine AllReady.cons ho3 (fun K hK => ?_) (AllReady.cons ho4 (fun K hK => ?_) (AllReady.cons ho5 (fun K hK => ?_) AllReady.nil))
    · go_simp
      go_at_call 28
      (with_reducible refine (HC2.out W).mono ?_)
      rintro e W9 ⟨a6, c6, rfl, hB9, hb9⟩
      dsimp only
      refine hK _ _ ?_
      exact st0123_ W9 (gT hb9 hb) a5 c5 (hA.keep hb9) a6 c6 hB9
    · go_simp
      refine hK _ _ ?_
      exact st0124_ (W.alloc (.cells #[.int .i64 0, .slice none 0 0] 24)) (gA hb _) a5 c5 (hA.keep (gA (Below.refl _ _) _)) W.heap.size hb.size (heap_alloc_new _ _)
    · go_simp
      refine hK _ _ ?_
      exact st0125_ (W.alloc (.cells #[.int .i64 0, .slice none 0 0] 24)) (gA hb _) a5 c5 (hA.keep (gA (Below.refl _ _) _)) W.heap.size hb.size (heap_alloc_new _ _)
  have st014_ : ∀ (W : World) (hb : Below w.heap.size w W) (a5 : Option Addr) (c5 : Nat) (hA : OwAdv W (.agg #[.int .i64 2, .slice a5 1 c5]) 2 (alw1 rdC)) (b3 : Nat) (h3 : w.heap.size ≤ b3) (k3 : BxZ W b3), wpAny Tryz.prog .any opsAw3 Q 5 #[true, true, false, false, true, false, false, false] ⟨#[x0, .pointer (some ⟨p1, 0, none⟩), .pointer (some ⟨p2, 0, none⟩), .pointer (some ⟨b3, 0, none⟩), x4, x5, x6, x7, x8, x9, x10, x11, x12, x13, x14, x15, x16, x17, x18, x19, .agg #[.int .i64 2, .int .i64 3, .int .i64 3, .int .i64 0, .int .i64 0, .int .i64 0, .int .i64 0], .agg #[.int .i64 2, .slice a5 1 c5], x22, x23, x24, x25, x26, x27, x28, x29, x30, x31, x32, x33, x34, x35, x36, x37, x38, x39, x40, x41, x42, x43, x44, x45, x46, x47, x48, x49, x50, x51, x52, x53, x54, x55, x56, x57, x58, x59, x60, x61, x62, x63, x64, x65, x66, x67, x68, x69, x70, x71, x72, x73, x74, x75, x76, x77, x78, x79, x80, x81, x82, x83, x84, x85, x86, x87, x88, x89, x90, x91, x92, x93, x94, x95, x96, x97, x98, x99, x100, x101, x102, x103, x104, x105, x106, x107, x108, x109, x110, x111], []⟩ W := by
    intro W hb a5 c5 hA b3 h3 k3
    refine wpAny_ready (rs := [2, 5]) (by kernel_rfl) (by simp) ?_
    refine AllReady.cons ho2 (fun K hK => ?_) (AllReady.cons ho5 (fun K hK => ?_) AllReady.nil)
    · obtain ⟨⟨_, s0, s1, s2, s3, s4, s5, s6⟩, ⟨_, d0, d1, d2, d3, d4, d5, d6⟩⟩ := hR.out W hb
      go_simp
      refine hK _ _ ?_
      exact st0124_ W hb a5 c5 hA b3 h3 k3
    · go_simp
      refine hK _ _ ?_
      exact st0145_ (W.alloc (.cells #[.int .i64 0, .slice none 0 0] 24)) (gA hb _) a5 c5 (hA.keep (gA (Below.refl _ _) _)) b3 h3 (hAn k3) W.heap.size hb.size (heap_alloc_new _ _) (Nat.ne_of_lt (Array.getElem?_eq_some_iff.1 k3).1)
  have st015_ : ∀ (W : World) (hb : Below w.heap.size w W) (a5 : Option Addr) (c5 : Nat) (hA : OwAdv W (.agg #[.int .i64 2, .slice a5 1 c5]) 2 (alw1 rdC)) (b4 : Nat) (h4 : w.heap.size ≤ b4) (k4 : BxZ W b4), wpAny Tryz.prog .any opsAw3 Q 5 #[true, true, false, false, false, true, false, false] ⟨#[x0, .pointer (some ⟨p1, 0, none⟩), .pointer (some ⟨p2, 0, none⟩), x3, .pointer (some ⟨b4, 0, none⟩), x5, x6, x7, x8, x9, x10, x11, x12, x13, x14, x15, x16, x17, x18, x19, .agg #[.int .i64 2, .int .i64 3, .int .i64 3, .int .i64 0, .int .i64 0, .int .i64 0, .int .i64 0], .agg #[.int .i64 2, .slice a5 1 c5], x22, x23, x24, x25, x26, x27, x28, x29, x30, x31, x32, x33, x34, x35, x36, x37, x38, x39, x40, x41, x42, x43, x44, x45, x46, x47, x48, x49, x50, x51, x52, x53, x54, x55, x56, x57, x58, x59, x60, x61, x62, x63, x64, x65, x66, x67, x68, x69, x70, x71, x72, x73, x74, x75, x76, x77, x78, x79, x80, x81, x82, x83, x84, x85, x86, x87, x88, x89, x90, x91, x92, x93, x94, x95, x96, x97, x98, x99, x100, x101, x102, x103, x104, x105, x106, x107, x108, x109, x110, x111], []⟩ W := by
    intro W hb a5 c5 hA b4 h4 k4
    refine wpAny_ready (rs := [2, 4]) (by kernel_rfl) (by simp) ?_
    refine AllReady.cons ho2 (fun K hK => ?_) (AllReady.cons ho4 (fun K hK => ?_) AllReady.nil)
    · obtain ⟨⟨_, s0, s1, s2, s3, s4, s5, s6⟩, ⟨_, d0, d1, d2, d3, d4, d5, d6⟩⟩ := hR.out W hb
      go_simp
      refine hK _ _ ?_
      exact st0125_ W hb a5 c5 hA b4 h4 k4
    · go_simp
      refine hK _ _ ?_
      exact st0145_ (W.alloc (.cells #[.int .i64 0, .slice none 0 0] 24)) (gA hb _) a5 c5 (hA.keep (gA (Below.refl _ _) _)) W.heap.size hb.size (heap_alloc_new _ _) b4 h4 (hAn k4) (Nat.ne_of_gt (Array.getElem?_eq_some_iff.1 k4).1)
  have st024_ : ∀ (W : World) (hb : Below w.heap.size w W) (b3 : Nat) (h3 : w.heap.size ≤ b3) (k3 : BxZ W b3), wpAny Tryz.prog .any opsAw3 Q 5 #[true, false, true, false, true, false, false, false] ⟨#[x0, .pointer (some ⟨p1, 0, none⟩), .pointer (some ⟨p2, 0, none⟩), .pointer (some ⟨b3, 0, none⟩), x4, x5, x6, x7, x8, x9, x10, x11, x12, x13, x14, x15, x16, x17, x18, x19, .agg #[.int .i64 2, .int .i64 3, .int .i64 3, .int .i64 0, .int .i64 0, .int .i64 0, .int .i64 0], x21, .agg #[.int .i64 2, .int .i64 1, .int .i64 2, .int .i64 0, .int .i64 0, .int .i64 0, .int .i64 0], x23, x24, x25, x26, x27, x28, x29, x30, x31, x32, x33, x34, x35, x36, x37, x38, x39, x40, x41, x42, x43, x44, x45, x46, x47, x48, x49, x50, x51, x52, x53, x54, x55, x56, x57, x58, x59, x60, x61, x62, x63, x64, x65, x66, x67, x68, x69, x70, x71, x72, x73, x74, x75, x76, x77, x78, x79, x80, x81, x82, x83, x84, x85, x86, x87, x88, x89, x90, x91, x92, x93, x94, x95, x96, x97, x98, x99, x100, x101, x102, x103, x104, x105, x106, x107, x108, x109, x110, x111], []⟩ W := by
    intro W hb b3 h3 k3
    refine wpAny_ready (rs := [1, 5]) (by kernel_rfl) (by simp) ?_
    refine AllReady.cons ho1 (fun K hK => ?_) (AllReady.cons ho5 (fun K hK => ?_) AllReady.nil)
    · go_simp
      go_at_call 28
      (with_reducible refine (HC1.out W).mono ?_)
      rintro e W9 ⟨a5, c5, rfl, hA9, hb9⟩
      dsimp only
      refine hK _ _ ?_
      exact st0124_ W9 (gT hb9 hb) a5 c5 hA9 b3 h3 (kept hb9 k3)
    · go_simp
      refine hK _ _ ?_
      exact st0245_ (W.alloc (.cells #[.int .i64 0, .slice none 0 0] 24)) (gA hb _) b3 h3 (hAn k3) W.heap.size hb.size (heap_alloc_new _ _) (Nat.ne_of_lt (Array.getElem?_eq_some_iff.1 k3).1)
  have st025_ : ∀ (W : World) (hb : Below w.heap.size w W) (b4 : Nat) (h4 : w.heap.size ≤ b4) (k4 : BxZ W b4), wpAny Tryz.prog .any opsAw3 Q 5 #[true, false, true, false, false, true, false, false] ⟨#[x0, .pointer (some ⟨p1, 0, none⟩), .pointer (some ⟨p2, 0, none⟩), x3, .pointer (some ⟨b4, 0, none⟩), x5, x6, x7, x8, x9, x10, x11, x12, x13, x14, x15, x16, x17, x18, x19, .agg #[.int .i64 2, .int .i64 3, .int .i64 3, .int .i64 0, .int .i64 0, .int .i64 0, .int .i64 0], x21, .agg #[.int .i64 2, .int .i64 1, .int .i64 2, .int .i64 0, .int .i64 0, .int .i64 0, .int .i64 0], x23, x24, x25, x26, x27, x28, x29, x30, x31, x32, x33, x34, x35, x36, x37, x38, x39, x40, x41, x42, x43, x44, x45, x46, x47, x48, x49, x50, x51, x52, x53, x54, x55, x56, x57, x58, x59, x60, x61, x62, x63, x64, x65, x66, x67, x68, x69, x70, x71, x72, x73, x74, x75, x76, x77, x78, x79, x80, x81, x82, x83, x84, x85, x86, x87, x88, x89, x90, x91, x92, x93, x94, x95, x96, x97, x98, x99, x100, x101, x102, x103, x104, x105, x106, x107, x108, x109, x110, x111], []⟩ W := by
    intro W hb b4 h4 k4
    refine wpAny_ready (rs := [1, 4]) (by kernel_rfl) (by simp) ?_
    refine AllReady.cons ho1 (fun K hK => ?_) (AllReady.cons ho4 (fun K hK => ?_) AllReady.nil)
    · go_simp
      go_at_call 28
      (with_reducible refine (HC1.out W).mono ?_)
      rintro e W9 ⟨a5, c5, rfl, hA9, hb9⟩
      dsimp only
      refine hK _ _ ?_
      exact st0125_ W9 (gT hb9 hb) a5 c5 hA9 b4 h4 (kept hb9 k4)
    · go_simp
      refine hK _ _ ?_
      exact st0245_ (W.alloc (.cells #[.int .i64 0, .slice none 0 0] 24)) (gA hb _) W.heap.size hb.size (heap_alloc_new _ _) b4 h4 (hAn k4) (Nat.ne_of_gt (Array.getElem?_eq_some_iff.1 k4).1)
  have st045_ : ∀ (W : World) (hb : Below w.heap.size w W) (b3 : Nat) (h3 : w.heap.size ≤ b3) (k3 : BxZ W b3) (b4 : Nat) (h4 : w.heap.size ≤ b4) (k4 : BxZ W b4) (hne : b3 ≠ b4), wpAny Tryz.prog .any opsAw3 Q 5 #[true, false, false, false, true, true, false, false] ⟨#[x0, .pointer (some ⟨p1, 0, none⟩), .pointer (some ⟨p2, 0, none⟩), .pointer (some ⟨b3, 0, none⟩), .pointer (some ⟨b4, 0, none⟩), x5, x6, x7, x8, x9, x10, x11, x12, x13, x14, x15, x16, x17, x18, x19, .agg #[.int .i64 2, .int .i64 3, .int .i64 3, .int .i64 0, .int .i64 0, .int .i64 0, .int .i64 0], x21, x22, x23, x24, x25, x26, x27, x28, x29, x30, x31, x32, x33, x34, x35, x36, x37, x38, x39, x40, x41, x42, x43, x44, x45, x46, x47, x48, x49, x50, x51, x52, x53, x54, x55, x56, x57, x58, x59, x60, x61, x62, x63, x64, x65, x66, x67, x68, x69, x70, x71, x72, x73, x74, x75, x76, x77, x78, x79, x80, x81, x82, x83, x84, x85, x86, x87, x88, x89, x90, x91, x92, x93, x94, x95, x96, x97, x98, x99, x100, x101, x102, x103, x104, x105, x106, x107, x108, x109, x110, x111], []⟩ W := by
    intro W hb b3 h3 k3 b4 h4 k4 hne
    refine wpAny_ready (rs := [1, 2]) (by kernel_rfl) (by simp) ?_
    refine AllReady.cons ho1 (fun K hK => ?_) (AllReady.cons ho2 (fun K hK => ?_) AllReady.nil)
    · go_simp
      go_at_call 28
      (with_reducible refine (HC1.out W).mono ?_)
      rintro e W9 ⟨a5, c5, rfl, hA9, hb9⟩
      dsimp only
      refine hK _ _ ?_
      exact st0145_ W9 (gT hb9 hb) a5 c5 hA9 b3 h3 (kept hb9 k3) b4 h4 (kept hb9 k4) hne
    · obtain ⟨⟨_, s0, s1, s2, s3, s4, s5, s6⟩, ⟨_, d0, d1, d2, d3, d4, d5, d6⟩⟩ := hR.out W hb
      go_simp
      refine hK _ _ ?_
      exact st0245_ W hb b3 h3 k3 b4 h4 k4 hne
  have st245_ : ∀ (W : World) (hb : Below w.heap.size w W) (b3 : Nat) (h3 : w.heap.size ≤ b3) (k3 : BxZ W b3) (b4 : Nat) (h4 : w.heap.size ≤ b4) (k4 : BxZ W b4) (hne : b3 ≠ b4), wpAny Tryz.prog .any opsAw3 Q 5 #[false, false, true, false, true, true, false, false] ⟨#[x0, .pointer (some ⟨p1, 0, none⟩), .pointer (some ⟨p2, 0, none⟩), .pointer (some ⟨b3, 0, none⟩), .pointer (some ⟨b4, 0, none⟩), x5, x6, x7, x8, x9, x10, x11, x12, x13, x14, x15, x16, x17, x18, x19, x20, x21, .agg #[.int .i64 2, .int .i64 1, .int .i64 2, .int .i64 0, .int .i64 0, .int .i64 0, .int .i64 0], x23, x24, x25, x26, x27, x28, x29, x30, x31, x32, x33, x34, x35, x36, x37, x38, x39, x40, x41, x42, x43, x44, x45, x46, x47, x48, x49, x50, x51, x52, x53, x54, x55, x56, x57, x58, x59, x60, x61, x62, x63, x64, x65, x66, x67, x68, x69, x70, x71, x72, x73, x74, x75, x76, x77, x78, x79, x80, x81, x82, x83, x84, x85, x86, x87, x88, x89, x90, x91, x92, x93, x94, x95, x96, x97, x98, x99, x100, x101, x102, x103, x104, x105, x106, x107, x108, x109, x110, x111], []⟩ W := by
    intro W hb b3 h3 k3 b4 h4 k4 hne
    refine wpAny_ready (rs := [0]) (by kernel_rfl) (by simp) ?_
    refine AllReady.cons ho0 (fun K hK => ?_) AllReady.nil
    · obtain ⟨⟨_, s0, s1, s2, s3, s4, s5, s6⟩, ⟨_, d0, d1, d2, d3, d4, d5, d6⟩⟩ := hR.out W hb
      go_simp
      refine hK _ _ ?_
      exact st0245_ W hb b3 h3 k3 b4 h4 k4 hne
  have st01_ : ∀ (W : World) (hb : Below w.heap.size w W) (a5 : Option Addr) (c5 : Nat) (hA : OwAdv W (.agg #[.int .i64 2, .slice a5 1 c5]) 2 (alw1 rdC)), wpAny Tryz.prog .any opsAw3 Q 6 #[true, true, false, false, false, false, false, false] ⟨#[x0, .pointer (some ⟨p1, 0, none⟩), .pointer (some ⟨p2, 0, none⟩), x3, x4, x5, x6, x7, x8, x9, x10, x11, x12, x13, x14, x15, x16, x17, x18, x19, .agg #[.int .i64 2, .int .i64 3, .int .i64 3, .int .i64 0, .int .i64 0, .int .i64 0, .int .i64 0], .agg #[.int .i64 2, .slice a5 1 c5], x22, x23, x24, x25, x26, x27, x28, x29, x30, x31, x32, x33, x34, x35, x36, x37, x38, x39, x40, x41, x42, x43, x44, x45, x46, x47, x48, x49, x50, x51, x52, x53, x54, x55, x56, x57, x58, x59, x60, x61, x62, x63, x64, x65, x66, x67, x68, x69, x70, x71, x72, x73, x74, x75, x76, x77, x78, x79, x80, x81, x82, x83, x84, x85, x86, x87, x88, x89, x90, x91, x92, x93, x94, x95, x96, x97, x98, x99, x100, x101, x102, x103, x104, x105, x106, x107, x108, x109, x110, x111], []⟩ W := by
    intro W hb a5 c5 hA
    refine wpAny_ready (rs := [2, 4, 5]) (by kernel_rfl) (by simp) ?_
    refine AllReady.cons ho2 (fun K hK => ?_) (AllReady.cons ho4 (fun K hK => ?_) (AllReady.cons ho5 (fun K hK => ?_) AllReady.nil))
    · obtain ⟨⟨_, s0, s1, s2, s3, s4, s5, s6⟩, ⟨_, d0, d1, d2, d3, d4, d5, d6⟩⟩ := hR.out W hb
      go_simp
      refine hK _ _ ?_
      exact st012_ W hb a5 c5 hA
    · go_simp
      refine hK _ _ ?_
      exact st014_ (W.alloc (.cells #[.int .i64 0, .slice none 0 0] 24)) (gA hb _) a5 c5 (hA.keep (gA (Below.refl _ _) _)) W.heap.size hb.size (heap_alloc_new _ _)
    · go_simp
      refine hK _ _ ?_
      exact st015_ (W.alloc (.cells #[.int .i64 0, .slice none 0 0] 24)) (gA hb _) a5 c5 (hA.keep (gA (Below.refl _ _) _)) W.heap.size hb.size (heap_alloc_new _ _)
  have st02_ : ∀ (W : World) (hb : Below w.heap.size w W), wpAny Tryz.prog .any opsAw3 Q 6 #[true, false, true, false, false, false, false, false] ⟨#[x0, .pointer (some ⟨p1, 0, none⟩), .pointer (some ⟨p2, 0, none⟩), x3, x4, x5, x6, x7, x8, x9, x10, x11, x12, x13, x14, x15, x16, x17, x18, x19, .agg #[.int .i64 2, .int .i64 3, .int .i64 3, .int .i64 0, .int .i64 0, .int .i64 0, .int .i64 0], x21, .agg #[.int .i64 2, .int .i64 1, .int .i64 2, .int .i64 0, .int .i64 0, .int .i64 0, .int .i64 0], x23, x24, x25, x26, x27, x28, x29, x30, x31, x32, x33, x34, x35, x36, x37, x38, x39, x40, x41, x42, x43, x44, x45, x46, x47, x48, x49, x50, x51, x52, x53, x54, x55, x56, x57, x58, x59, x60, x61, x62, x63, x64, x65, x66, x67, x68, x69, x70, x71, x72, x73, x74, x75, x76, x77, x78, x79, x80, x81, x82, x83, x84, x85, x86, x87, x88, x89, x90, x91, x92, x93, x94, x95, x96, x97, x98, x99, x100, x101, x102, x103, x104, x105, x106, x107, x108, x109, x110, x111], []⟩ W := by
    intro W hb
    refine wpAny_ready (rs := [1, 4, 5]) (by kernel_rfl) (by simp) ?_
    refine AllReady.cons ho1 (fun K hK => ?_) (AllReady.cons ho4 (fun K hK => ?_) (AllReady.cons ho5 (fun K hK => ?_) AllReady.nil))
    · go_simp
      go_at_call 28
      (with_reducible refine (HC1.out W).mono ?_)
      rintro e W9 ⟨a5, c5, rfl, hA9, hb9⟩
      dsimp only
      refine hK _ _ ?_
      exact st012_ W9 (gT hb9 hb) a5 c5 hA9
    · go_simp
      refine hK _ _ ?_
      exact st024_ (W.alloc (.cells #[.int .i64 0, .slice none 0 0] 24)) (gA hb _) W.heap.size hb.size (heap_alloc_new _ _)
    · go_simp
      refine hK _ _ ?_
      exact st025_ (W.alloc (.cells #[.int .i64 0, .slice none 0 0] 24)) (gA hb _) W.heap.size hb.size (heap_alloc_new _ _)
  have st04_ : ∀ (W : World) (hb : Below w.heap.size w W) (b3 : Nat) (h3 : w.heap.size ≤ b3) (k3 : BxZ W b3), wpAny Tryz.prog .any opsAw3 Q 6 #[true, false, false, false, true, false, false, false] ⟨#[x0, .pointer (some ⟨p1, 0, none⟩), .pointer (some ⟨p2, 0, none⟩), .pointer (some ⟨b3, 0, none⟩), x4, x5, x6, x7, x8, x9, x10, x11, x12, x13, x14, x15, x16, x17, x18, x19, .agg #[.int .i64 2, .int .i64 3, .int .i64 3, .int .i64 0, .int .i64 0, .int .i64 0, .int .i64 0], x21, x22, x23, x24, x25, x26, x27, x28, x29, x30, x31, x32, x33, x34, x35, x36, x37, x38, x39, x40, x41, x42, x43, x44, x45, x46, x47, x48, x49, x50, x51, x52, x53, x54, x55, x56, x57, x58, x59, x60, x61, x62, x63, x64, x65, x66, x67, x68, x69, x70, x71, x72, x73, x74, x75, x76, x77, x78, x79, x80, x81, x82, x83, x84, x85, x86, x87, x88, x89, x90, x91, x92, x93, x94, x95, x96, x97, x98, x99, x100, x101, x102, x103, x104, x105, x106, x107, x108, x109, x110, x111], []⟩ W := by
    intro W hb b3 h3 k3
    refine wpAny_ready (rs := [1, 2, 5]) (by kernel_rfl) (by simp) ?_
    refine AllReady.cons ho1 (fun K hK => ?_) (AllReady.cons ho2 (fun K hK => ?_) (AllReady.cons ho5 (fun K hK => ?_) AllReady.nil))
    · go_simp
      go_at_call 28
      (with_reducible refine (HC1.out W).mono ?_)
      rintro e W9 ⟨a5, c5, rfl, hA9, hb9⟩
      dsimp only
      refine hK _ _ ?_
      exact st014_ W9 (gT hb9 hb) a5 c5 hA9 b3 h3 (kept hb9 k3)
    · obtain ⟨⟨_, s0, s1, s2, s3, s4, s5, s6⟩, ⟨_, d0, d1, d2, d3, d4, d5, d6⟩⟩ := hR.out W hb
      go_simp
      refine hK _ _ ?_
      exact st024_ W hb b3 h3 k3
    · go_simp
      refine hK _ _ ?_
      exact st045_ (W.alloc (.cells #[.int .i64 0, .slice none 0 0] 24)) (gA hb _) b3 h3 (hAn k3) W.heap.size hb.size (heap_alloc_new _ _) (Nat.ne_of_lt (Array.getElem?_eq_some_iff.1 k3).1)
  have st05_ : ∀ (W : World) (hb : Below w.heap.size w W) (b4 : Nat) (h4 : w.heap.size ≤ b4) (k4 : BxZ W b4), wpAny Tryz.prog .any opsAw3 Q 6 #[true, false, false, false, false, true, false, false] ⟨#[x0, .pointer (some ⟨p1, 0, none⟩), .pointer (some ⟨p2, 0, none⟩), x3, .pointer (some ⟨b4, 0, none⟩), x5, x6, x7, x8, x9, x10, x11, x12, x13, x14, x15, x16, x17, x18, x19, .agg #[.int .i64 2, .int .i64 3, .int .i64 3, .int .i64 0, .int .i64 0, .int .i64 0, .int .i64 0], x21, x22, x23, x24, x25, x26, x27, x28, x29, x30, x31, x32, x33, x34, x35, x36, x37, x38, x39, x40, x41, x42, x43, x44, x45, x46, x47, x48, x49, x50, x51, x52, x53, x54, x55, x56, x57, x58, x59, x60, x61, x62, x63, x64, x65, x66, x67, x68, x69, x70, x71, x72, x73, x74, x75, x76, x77, x78, x79, x80, x81, x82, x83, x84, x85, x86, x87, x88, x89, x90, x91, x92, x93, x94, x95, x96, x97, x98, x99, x100, x101, x102, x103, x104, x105, x106, x107, x108, x109, x110, x111], []⟩ W := by
    intro W hb b4 h4 k4
    refine wpAny_ready (rs := [1, 2, 4]) (by kernel_rfl) (by simp) ?_
    refine AllReady.cons ho1 (fun K hK => ?_) (AllReady.cons ho2 (fun K hK => ?_) (AllReady.cons ho4 (fun K hK => ?_) AllReady.nil))
    · go_simp
      go_at_call 28
      (with_reducible refine (HC1.out W).mono ?_)
      rintro e W9 ⟨a5, c5, rfl, hA9, hb9⟩
      dsimp only
      refine hK _ _ ?_
      exact st015_ W9 (gT hb9 hb) a5 c5 hA9 b4 h4 (kept hb9 k4)
    · obtain ⟨⟨_, s0, s1, s2, s3, s4, s5, s6⟩, ⟨_, d0, d1, d2, d3, d4, d5, d6⟩⟩ := hR.out W hb
      go_simp
      refine hK _ _ ?_
      exact st025_ W hb b4 h4 k4
    · go_simp
      refine hK _ _ ?_
      exact st045_ (W.alloc (.cells #[.int .i64 0, .slice none 0 0] 24)) (gA hb _) W.heap.size hb.size (heap_alloc_new _ _) b4 h4 (hAn k4) (Nat.ne_of_gt (Array.getElem?_eq_some_iff.1 k4).1)
  have st24_ : ∀ (W : World) (hb : Below w.heap.size w W) (b3 : Nat) (h3 : w.heap.size ≤ b3) (k3 : BxZ W b3), wpAny Tryz.prog .any opsAw3 Q 6 #[false, false, true, false, true, false, false, false] ⟨#[x0, .pointer (some ⟨p1, 0, none⟩), .pointer (some ⟨p2, 0, none⟩), .pointer (some ⟨b3, 0, none⟩), x4, x5, x6, x7, x8, x9, x10, x11, x12, x13, x14, x15, x16, x17, x18, x19, x20, x21, .agg #[.int .i64 2, .int .i64 1, .int .i64 2, .int .i64 0, .int .i64 0, .int .i64 0, .int .i64 0], x23, x24, x25, x26, x27, x28, x29, x30, x31, x32, x33, x34, x35, x36, x37, x38, x39, x40, x41, x42, x43, x44, x45, x46, x47, x48, x49, x50, x51, x52, x53, x54, x55, x56, x57, x58, x59, x60, x61, x62, x63, x64, x65, x66, x67, x68, x69, x70, x71, x72, x73, x74, x75, x76, x77, x78, x79, x80, x81, x82, x83, x84, x85, x86, x87, x88, x89, x90, x91, x92, x93, x94, x95, x96, x97, x98, x99, x100, x101, x102, x103, x104, x105, x106, x107, x108, x109, x110, x111], []⟩ W := by
    intro W hb b3 h3 k3
    refine wpAny_ready (rs := [0, 5]) (by kernel_rfl) (by simp) ?_
    refine AllReady.cons ho0 (fun K hK => ?_) (AllReady.cons ho5 (fun K hK => ?_) AllReady.nil)
    · obtain ⟨⟨_, s0, s1, s2, s3, s4, s5, s6⟩, ⟨_, d0, d1, d2, d3, d4, d5, d6⟩⟩ := hR.out W hb
      go_simp
      refine hK _ _ ?_
      exact st024_ W hb b3 h3 k3
    · go_simp
      refine hK _ _ ?_
      exact st245_ (W.alloc (.cells #[.int .i64 0, .slice none 0 0] 24)) (gA hb _) b3 h3 (hAn k3) W.heap.size hb.size (heap_alloc_new _ _) (Nat.ne_of_lt (Array.getElem?_eq_some_iff.1 k3).1)
  have st25_ : ∀ (W : World) (hb : Below w.heap.size w W) (b4 : Nat) (h4 : w.heap.size ≤ b4) (k4 : BxZ W b4), wpAny Tryz.prog .any opsAw3 Q 6 #[false, false, true, false, false, true, false, false] ⟨#[x0, .pointer (some ⟨p1, 0, none⟩), .pointer (some ⟨p2, 0, none⟩), x3, .pointer (some ⟨b4, 0, none⟩), x5, x6, x7, x8, x9, x10, x11, x12, x13, x14, x15, x16, x17, x18, x19, x20, x21, .agg #[.int .i64 2, .int .i64 1, .int .i64 2, .int .i64 0, .int .i64 0, .int .i64 0, .int .i64 0], x23, x24, x25, x26, x27, x28, x29, x30, x31, x32, x33, x34, x35, x36, x37, x38, x39, x40, x41, x42, x43, x44, x45, x46, x47, x48, x49, x50, x51, x52, x53, x54, x55, x56, x57, x58, x59, x60, x61, x62, x63, x64, x65, x66, x67, x68, x69, x70, x71, x72, x73, x74, x75, x76, x77, x78, x79, x80, x81, x82, x83, x84, x85, x86, x87, x88, x89, x90, x91, x92, x93, x94, x95, x96, x97, x98, x99, x100, x101, x102, x103, x104, x105, x106, x107, x108, x109, x110, x111], []⟩ W := by
    intro W hb b4 h4 k4
    refine wpAny_ready (rs := [0, 4]) (by kernel_rfl) (by simp) ?_
    refine AllReady.cons ho0 (fun K hK => ?_) (AllReady.cons ho4 (fun K hK => ?_) AllReady.nil)
    · obtain ⟨⟨_, s0, s1, s2, s3, s4, s5, s6⟩, ⟨_, d0, d1, d2, d3, d4, d5, d6⟩⟩ := hR.out W hb
      go_simp
      refine hK _ _ ?_
      exact st025_ W hb b4 h4 k4
    · go_simp
      refine hK _ _ ?_
      exact st245_ (W.alloc (.cells #[.int .i64 0, .slice none 0 0] 24)) (gA hb _) W.heap.size hb.size (heap_alloc_new _ _) b4 h4 (hAn k4) (Nat.ne_of_gt (Array.getElem?_eq_some_iff.1 k4).1)
  have st45_ : ∀ (W : World) (hb : Below w.heap.size w W) (b3 : Nat) (h3 : w.heap.size ≤ b3) (k3 : BxZ W b3) (b4 : Nat) (h4 : w.heap.size ≤ b4) (k4 : BxZ W b4) (hne : b3 ≠ b4), wpAny Tryz.prog .any opsAw3 Q 6 #[false, false, false, false, true, true, false, false] ⟨#[x0, .pointer (some ⟨p1, 0, none⟩), .pointer (some ⟨p2, 0, none⟩), .pointer (some ⟨b3, 0, none⟩), .pointer (some ⟨b4, 0, none⟩), x5, x6, x7, x8, x9, x10, x11, x12, x13, x14, x15, x16, x17, x18, x19, x20, x21, x22, x23, x24, x25, x26, x27, x28, x29, x30, x31, x32, x33, x34, x35, x36, x37, x38, x39, x40, x41, x42, x43, x44, x45, x46, x47, x48, x49, x50, x51, x52, x53, x54, x55, x56, x57, x58, x59, x60, x61, x62, x63, x64, x65, x66, x67, x68, x69, x70, x71, x72, x73, x74, x75, x76, x77, x78, x79, x80, x81, x82, x83, x84, x85, x86, x87, x88, x89, x90, x91, x92, x93, x94, x95, x96, x97, x98, x99, x100, x101, x102, x103, x104, x105, x106, x107, x108, x109, x110, x111], []⟩ W := by
    intro W hb b3 h3 k3 b4 h4 k4 hne
    refine wpAny_ready (rs := [0, 2]) (by kernel_rfl) (by simp) ?_
    refine AllReady.cons ho0 (fun K hK => ?_) (AllReady.cons ho2 (fun K hK => ?_) AllReady.nil)
    · obtain ⟨⟨_, s0, s1, s2, s3, s4, s5, s6⟩, ⟨_, d0, d1, d2, d3, d4, d5, d6⟩⟩ := hR.out W hb
      go_simp
      refine hK _ _ ?_
      exact st045_ W hb b3 h3 k3 b4 h4 k4 hne
    · obtain ⟨⟨_, s0, s1, s2, s3, s4, s5, s6⟩, ⟨_, d0, d1, d2, d3, d4, d5, d6⟩⟩ := hR.out W hb
      go_simp
      refine hK _ _ ?_
      exact st245_ W hb b3 h3 k3 b4 h4 k4 hne
  have st0_ : ∀ (W : World) (hb : Below w.heap.size w W), wpAny Tryz.prog .any opsAw3 Q 7 #[true, false, false, false, false, false, false, false] ⟨#[x0, .pointer (some ⟨p1, 0, none⟩), .pointer (some ⟨p2, 0, none⟩), x3, x4, x5, x6, x7, x8, x9, x10, x11, x12, x13, x14, x15, x16, x17, x18, x19, .agg #[.int .i64 2, .int .i64 3, .int .i64 3, .int .i64 0, .int .i64 0, .int .i64 0, .int .i64 0], x21, x22, x23, x24, x25, x26, x27, x28, x29, x30, x31, x32, x33, x34, x35, x36, x37, x38, x39, x40, x41, x42, x43, x44, x45, x46, x47, x48, x49, x50, x51, x52, x53, x54, x55, x56, x57, x58, x59, x60, x61, x62, x63, x64, x65, x66, x67, x68, x69, x70, x71, x72, x73, x74, x75, x76, x77, x78, x79, x80, x81, x82, x83, x84, x85, x86, x87, x88, x89, x90, x91, x92, x93, x94, x95, x96, x97, x98, x99, x100, x101, x102, x103, x104, x105, x106, x107, x108, x109, x110, x111], []⟩ W := by
    intro W hb
    refine wpAny_ready (rs := [1, 2, 4, 5]) (by kernel_rfl) (by simp) ?_
    refine AllReady.cons ho1 (fun K hK => ?_) (AllReady.cons ho2 (fun K hK => ?_) (AllReady.cons ho4 (fun K hK => ?_) (AllReady.cons ho5 (fun K hK => ?_) AllReady.nil)))
    · go_simp
      go_at_call 28
      (with_reducible refine (HC1.out W).mono ?_)
      rintro e W9 ⟨a5, c5, rfl, hA9, hb9⟩
      dsimp only
      refine hK _ _ ?_
      exact st01_ W9 (gT hb9 hb) a5 c5 hA9
    · obtain ⟨⟨_, s0, s1, s2, s3, s4, s5, s6⟩, ⟨_, d0, d1, d2, d3, d4, d5, d6⟩⟩ := hR.out W hb
      go_simp
      refine hK _ _ ?_
      exact st02_ W hb
    · go_simp
      refine hK _ _ ?_
      exact st04_ (W.alloc (.cells #[.int .i64 0, .slice none 0 0] 24)) (gA hb _) W.heap.size hb.size (heap_alloc_new _ _)
    · go_simp
      refine hK _ _ ?_
      exact st05_ (W.alloc (.cells #[.int .i64 0, .slice none 0 0] 24)) (gA hb _) W.heap.size hb.size (heap_alloc_new _ _)
  have st2_ : ∀ (W : World) (hb : Below w.heap.size w W), wpAny Tryz.prog .any opsAw3 Q 7 #[false, false, true, false, false, false, false, false] ⟨#[x0, .pointer (some ⟨p1, 0, none⟩), .pointer (some ⟨p2, 0, none⟩), x3, x4, x5, x6, x7, x8, x9, x10, x11, x12, x13, x14, x15, x16, x17, x18, x19, x20, x21, .agg #[.int .i64 2, .int .i64 1, .int .i64 2, .int .i64 0, .int .i64 0, .int .i64 0, .int .i64 0], x23, x24, x25, x26, x27, x28, x29, x30, x31, x32, x33, x34, x35, x36, x37, x38, x39, x40, x41, x42, x43, x44, x45, x46, x47, x48, x49, x50, x51, x52, x53, x54, x55, x56, x57, x58, x59, x60, x61, x62, x63, x64, x65, x66, x67, x68, x69, x70, x71, x72, x73, x74, x75, x76, x77, x78, x79, x80, x81, x82, x83, x84, x85, x86, x87, x88, x89, x90, x91, x92, x93, x94, x95, x96, x97, x98, x99, x100, x101, x102, x103, x104, x105, x106, x107, x108, x109, x110, x111], []⟩ W := by
    intro W hb
    refine wpAny_ready (rs := [0, 4, 5]) (by kernel_rfl) (by simp) ?_
    refine AllReady.cons ho0 (fun K hK => ?_) (AllReady.cons ho4 (fun K hK => ?_) (AllReady.cons ho5 (fun K hK => ?_) AllReady.nil))
    · obtain ⟨⟨_, s0, s1, s2, s3, s4, s5, s6⟩, ⟨_, d0, d1, d2, d3, d4, d5, d6⟩⟩ := hR.out W hb
      go_simp
      refine hK _ _ ?_
      exact st02_ W hb
    · go_simp
      refine hK _ _ ?_
      exact st24_ (W.alloc (.cells #[.int .i64 0, .slice none 0 0] 24)) (gA hb _) W.heap.size hb.size (heap_alloc_new _ _)
    · go_simp
      refine hK _ _ ?_
      exact st25_ (W.alloc (.cells #[.int .i64 0, .slice none 0 0] 24)) (gA hb _) W.heap.size hb.size (heap_alloc_new _ _)
  have st4_ : ∀ (W : World) (hb : Below w.heap.size w W) (b3 : Nat) (h3 : w.heap.size ≤ b3) (k3 : BxZ W b3), wpAny Tryz.prog .any opsAw3 Q 7 #[false, false, false, false, true, false, false, false] ⟨#[x0, .pointer (some ⟨p1, 0, none⟩), .pointer (some ⟨p2, 0, none⟩), .pointer (some ⟨b3, 0, none⟩), x4, x5, x6, x7, x8, x9, x10, x11, x12, x13, x14, x15, x16, x17, x18, x19, x20, x21, x22, x23, x24, x25, x26, x27, x28, x29, x30, x31, x32, x33, x34, x35, x36, x37, x38, x39, x40, x41, x42, x43, x44, x45, x46, x47, x48, x49, x50, x51, x52, x53, x54, x55, x56, x57, x58, x59, x60, x61, x62, x63, x64, x65, x66, x67, x68, x69, x70, x71, x72, x73, x74, x75, x76, x77, x78, x79, x80, x81, x82, x83, x84, x85, x86, x87, x88, x89, x90, x91, x92, x93, x94, x95, x96, x97, x98, x99, x100, x101, x102, x103, x104, x105, x106, x107, x108, x109, x110, x111], []⟩ W := by
    intro W hb b3 h3 k3
    refine wpAny_ready (rs := [0, 2, 5]) (by kernel_rfl) (by simp) ?_
    refine AllReady.cons ho0 (fun K hK => ?_) (AllReady.cons ho2 (fun K hK => ?_) (AllReady.cons ho5 (fun K hK => ?_) AllReady.nil))
    · obtain ⟨⟨_, s0, s1, s2, s3, s4, s5, s6⟩, ⟨_, d0, d1, d2, d3, d4, d5, d6⟩⟩ := hR.out W hb
      go_simp
      refine hK _ _ ?_
      exact st04_ W hb b3 h3 k3
    · obtain ⟨⟨_, s0, s1, s2, s3, s4, s5, s6⟩, ⟨_, d0, d1, d2, d3, d4, d5, d6⟩⟩ := hR.out W hb
      go_simp
      refine hK _ _ ?_
      exact st24_ W hb b3 h3 k3
    · go_simp
      refine hK _ _ ?_
      exact st45_ (W.alloc (.cells #[.int .i64 0, .slice none 0 0] 24)) (gA hb _) b3 h3 (hAn k3) W.heap.size hb.size (heap_alloc_new _ _) (Nat.ne_of_lt (Array.getElem?_eq_some_iff.1 k3).1)
  have st5_ : ∀ (W : World) (hb : Below w.heap.size w W) (b4 : Nat) (h4 : w.heap.size ≤ b4) (k4 : BxZ W b4), wpAny Tryz.prog .any opsAw3 Q 7 #[false, false, false, false, false, true, false, false] ⟨#[x0, .pointer (some ⟨p1, 0, none⟩), .pointer (some ⟨p2, 0, none⟩), x3, .pointer (some ⟨b4, 0, none⟩), x5, x6, x7, x8, x9, x10, x11, x12, x13, x14, x15, x16, x17, x18, x19, x20, x21, x22, x23, x24, x25, x26, x27, x28, x29, x30, x31, x32, x33, x34, x35, x36, x37, x38, x39, x40, x41, x42, x43, x44, x45, x46, x47, x48, x49, x50, x51, x52, x53, x54, x55, x56, x57, x58, x59, x60, x61, x62, x63, x64, x65, x66, x67, x68, x69, x70, x71, x72, x73, x74, x75, x76, x77, x78, x79, x80, x81, x82, x83, x84, x85, x86, x87, x88, x89, x90, x91, x92, x93, x94, x95, x96, x97, x98, x99, x100, x101, x102, x103, x104, x105, x106, x107, x108, x109, x110, x111], []⟩ W := by
    intro W hb b4 h4 k4
    refine wpAny_ready (rs := [0, 2, 4]) (by kernel_rfl) (by simp) ?_
    refine AllReady.cons ho0 (fun K hK => ?_) (AllReady.cons ho2 (fun K hK => ?_) (AllReady.cons ho4 (fun K hK => ?_) AllReady.nil))
    · obtain ⟨⟨_, s0, s1, s2, s3, s4, s5, s6⟩, ⟨_, d0, d1, d2, d3, d4, d5, d6⟩⟩ := hR.out W hb
      go_simp
      refine hK _ _ ?_
      exact st05_ W hb b4 h4 k4
    · obtain ⟨⟨_, s0, s1, s2, s3, s4, s5, s6⟩, ⟨_, d0, d1, d2, d3, d4, d5, d6⟩⟩ := hR.out W hb
      go_simp
      refine hK _ _ ?_
      exact st25_ W hb b4 h4 k4
    · go_simp
      refine hK _ _ ?_
      exact st45_ (W.alloc (.cells #[.int .i64 0, .slice none 0 0] 24)) (gA hb _) W.heap.size hb.size (heap_alloc_new _ _) b4 h4 (hAn k4) (Nat.ne_of_gt (Array.getElem?_eq_some_iff.1 k4).1)
  have st_ : ∀ (W : World) (hb : Below w.heap.size w W), wpAny Tryz.prog .any opsAw3 Q 8 #[false, false, false, false, false, false, false, false] ⟨#[x0, .pointer (some ⟨p1, 0, none⟩), .pointer (some ⟨p2, 0, none⟩), x3, x4, x5, x6, x7, x8, x9, x10, x11, x12, x13, x14, x15, x16, x17, x18, x19, x20, x21, x22, x23, x24, x25, x26, x27, x28, x29, x30, x31, x32, x33, x34, x35, x36, x37, x38, x39, x40, x41, x42, x43, x44, x45, x46, x47, x48, x49, x50, x51, x52, x53, x54, x55, x56, x57, x58, x59, x60, x61, x62, x63, x64, x65, x66, x67, x68, x69, x70, x71, x72, x73, x74, x75, x76, x77, x78, x79, x80, x81, x82, x83, x84, x85, x86, x87, x88, x89, x90, x91, x92, x93, x94, x95, x96, x97, x98, x99, x100, x101, x102, x103, x104, x105, x106, x107, x108, x109, x110, x111], []⟩ W := by
    intro W hb
    refine wpAny_ready (rs := [0, 2, 4, 5]) (by kernel_rfl) (by simp) ?_
    refine AllReady.cons ho0 (fun K hK => ?_) (AllReady.cons ho2 (fun K hK => ?_) (AllReady.cons ho4 (fun K hK => ?_) (AllReady.cons ho5 (fun K hK => ?_) AllReady.nil)))
    · obtain ⟨⟨_, s0, s1, s2, s3, s4, s5, s6⟩, ⟨_, d0, d1, d2, d3, d4, d5, d6⟩⟩ := hR.out W hb
      go_simp
      refine hK _ _ ?_
      exact st0_ W hb
    · obtain ⟨⟨_, s0, s1, s2, s3, s4, s5, s6⟩, ⟨_, d0, d1, d2, d3, d4, d5, d6⟩⟩ := hR.out W hb
      go_simp
      refine hK _ _ ?_
      exact st2_ W hb
    · go_simp
      refine hK _ _ ?_
      exact st4_ (W.alloc (.cells #[.int .i64 0, .slice none 0 0] 24)) (gA hb _) W.heap.size hb.size (heap_alloc_new _ _)
    · go_simp
      refine hK _ _ ?_
      exact st5_ (W.alloc (.cells #[.int .i64 0, .slice none 0 0] 24)) (gA hb _) W.heap.size hb.size (heap_alloc_new _ _)
  exact st_ _ (below_drewN (Below.refl _ w) 1)
end Go.Proofs.YtiiiegflobihjaaGreat

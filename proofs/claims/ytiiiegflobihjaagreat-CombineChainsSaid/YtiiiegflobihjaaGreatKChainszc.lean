/- Texts of this claim, put together: DJ EG0. -/
import Derived.Test.YtiiiegflobihjaaGreatKChainszb
import Derived.Test.YtiiiegflobihjaaGreatKChainsw
import Derived.Test.YtiiiegflobihjaaGreatKChainsz
import Derived.Deep.RegionHeld3

/- combine.Then. -/
namespace Go.Proofs.YtiiiegflobihjaaGreat
open Go.RowKit

/-- What lies behind the arguments of Then. -/
theorem thBox {w W1 : World} {m n k : Int} {aa ba : Option Addr} {al bl ac bc : Nat} (hW1 : W1 = (((w.alloc (.cells #[.int .i64 m, .slice aa al ac] 24)).alloc (.cells #[.int .i64 k] 3)).alloc (.cells #[.int .i64 n, .slice ba bl bc] 24)).alloc (.cells #[.int .i64 0, .slice none 0 0] 24)) :
    Below w.heap.size w W1 ∧ W1.heap[w.heap.size]? = some (.cells #[.int .i64 m, .slice aa al ac] 24) ∧ W1.heap[w.heap.size + 1]? = some (.cells #[.int .i64 k] 3) ∧ W1.heap[w.heap.size + 1 + 1]? = some (.cells #[.int .i64 n, .slice ba bl bc] 24) ∧
      W1.heap[w.heap.size + 1 + 1 + 1]? = some (.cells #[.int .i64 0, .slice none 0 0] 24) ∧ W1.heap.size = w.heap.size + 1 + 1 + 1 + 1 := by
  obtain ⟨Wa, hWa⟩ : ∃ Wa, Wa = w.alloc (.cells #[.int .i64 m, .slice aa al ac] 24) := ⟨_, rfl⟩
  obtain ⟨Wb, hWb⟩ : ∃ Wb, Wb = Wa.alloc (.cells #[.int .i64 k] 3) := ⟨_, rfl⟩
  obtain ⟨Wc, hWc⟩ : ∃ Wc, Wc = Wb.alloc (.cells #[.int .i64 n, .slice ba bl bc] 24) := ⟨_, rfl⟩
  have hza : Wa.heap.size = w.heap.size + 1 := by rw [hWa, World.size_alloc]
  have hzb : Wb.heap.size = w.heap.size + 1 + 1 := by rw [hWb, World.size_alloc, hza]
  have hzc : Wc.heap.size = w.heap.size + 1 + 1 + 1 := by rw [hWc, World.size_alloc, hzb]
  rw [← hWa, ← hWb, ← hWc] at hW1
  have ha : Below w.heap.size w Wa := by rw [hWa]; exact (Below.refl _ _).alloc (Nat.le_refl _) _
  have hb : Below Wa.heap.size Wa Wb := by rw [hWb]; exact (Below.refl _ _).alloc (Nat.le_refl _) _
  have hc : Below Wb.heap.size Wb Wc := by rw [hWc]; exact (Below.refl _ _).alloc (Nat.le_refl _) _
  have hd : Below Wc.heap.size Wc W1 := by rw [hW1]; exact (Below.refl _ _).alloc (Nat.le_refl _) _
  have hcd := btt hc hd
  have hbd := btt hb hcd
  refine ⟨bt ha hbd ha.size, kept hbd (by rw [hWa]; exact heap_alloc_new w _), kept hcd (by rw [hWb, ← hza]; exact heap_alloc_new Wa _), kept hd (by rw [hWc, ← hzb]; exact heap_alloc_new Wb _), by rw [hW1, ← hzc]; exact heap_alloc_new Wc _, by rw [hW1, World.size_alloc, hzc]⟩

theorem boxSet123 {w : World} {g : Nat} {x0 x1 x2 x3 x4 u1 u2 u3 : Value} {t : TypeId} (h : w.heap[g]? = some (.cells #[x0, x1, x2, x3, x4] t)) : (((w.setCell ⟨g, 1, none⟩ u1).setCell ⟨g, 2, none⟩ u2).setCell ⟨g, 3, none⟩ u3).heap[g]? = some (.cells #[x0, u1, u2, u3, x4] t) := by
  have h1 : (w.setCell ⟨g, 1, none⟩ u1).heap[g]? = some (.cells #[x0, u1, x2, x3, x4] t) := heap_setCell_same _ g 1 _ t u1 h
  have h2 : ((w.setCell ⟨g, 1, none⟩ u1).setCell ⟨g, 2, none⟩ u2).heap[g]? = some (.cells #[x0, u1, u2, x3, x4] t) := heap_setCell_same _ g 2 _ t u2 h1
  exact heap_setCell_same _ g 3 _ t u3 h2
theorem box5 {w : World} {b : Nat} {u0 u1 u2 u3 u4 : Value} {t : TypeId} (h : w.heap[b]? = some (.cells #[u0, u1, u2, u3, u4] t)) : w.cell? ⟨b, 0, none⟩ = some u0 ∧ w.cell? ⟨b, 1, none⟩ = some u1 ∧ w.cell? ⟨b, 2, none⟩ = some u2 ∧ w.cell? ⟨b, 3, none⟩ = some u3 ∧ w.cell? ⟨b, 4, none⟩ = some u4 := ⟨box_cell h rfl, box_cell h rfl, box_cell h rfl, box_cell h rfl, box_cell h rfl⟩
set_option maxRecDepth 100000 in
set_option maxHeartbeats 800000 in
theorem thenBad {w : World} {u v : Value} {m n k : Int} {xs ys : List (List (List Int))} (hx : AdvV w u m xs) (hy : AdvV w v n ys) (hxm : movesN xs ≤ 1000000000) (hym : movesN ys ≤ 1000000000) (h0 : eqErr m n xs ys ≠ 0) :
    Calls Tryz.prog 15 #[u, .int .i64 k, v] w fun e w' => e = .returned (.tuple #[.agg #[.int .i64 0, .slice none 0 0], .int .i64 (eqErr m n xs ys)]) ∧ Below w.heap.size w w' := by
  obtain ⟨xa, xc, hu⟩ := advShape' hx
  obtain ⟨ya, yc, hv⟩ := advShape' hy
  subst hu hv
  obtain ⟨W1, hW1⟩ : ∃ W1, W1 = (((w.alloc (.cells #[.int .i64 m, .slice xa xs.length xc] 24)).alloc (.cells #[.int .i64 k] 3)).alloc (.cells #[.int .i64 n, .slice ya ys.length yc] 24)).alloc (.cells #[.int .i64 0, .slice none 0 0] 24) := ⟨_, rfl⟩
  obtain ⟨hb1, kA, kK, kB, kR, hz1⟩ := thBox hW1
  have HC := Lib.hid (checkC (hx.keep hb1) (hy.keep hb1) hxm hym)
  obtain ⟨E, hE⟩ : ∃ E, eqErr m n xs ys = E := ⟨_, rfl⟩
  rw [hE] at HC h0 ⊢
  have h1 : (E == 0) = false := by simp [h0]
  have h2 : (E != 0) = true := by simp [h0]
  obtain ⟨a0, a1⟩ := box2 kA
  obtain ⟨b0, b1⟩ := box2 kB
  rw [hW1] at a0 a1 b0 b1
  replace hz1 := Lib.hid hz1
  clear hx hy hE kA kK kB
  go_enter Tryz.func15, Tryz.ntmps15
  go_wp2_with fail
  rw [← hW1]
  clear a0 a1 b0 b1
  replace hW1 := Lib.hid hW1
  refine HC.out.mono ?_
  rintro e W2 ⟨rfl, hb2⟩
  have hbf := bt hb1 hb2 hb1.size
  have kR2 := kept hb2 kR
  obtain ⟨y0, y1⟩ := box2 kR2
  have yf0 := row_free kR2 0
  have yf1 := row_free kR2 1
  have z0 : W2.setCell ⟨w.heap.size + 1 + 1 + 1, 0, none⟩ (.int .i64 0) = W2 := setSame y0
  have z1 : W2.setCell ⟨w.heap.size + 1 + 1 + 1, 1, none⟩ (.slice none 0 0) = W2 := setSame y1
  go_wp2
  refine bodyPost_ret (v := .tuple #[.agg #[.int .i64 0, .slice none 0 0], .int .i64 E]) (by simp [results, Tryz.results15, go_sem, y0, y1]) rfl ?_
  exact ⟨rfl, hbf⟩

set_option maxRecDepth 100000 in
set_option maxHeartbeats 800000 in
theorem thenRange {w : World} {u v : Value} {m n k : Int} {xs ys : List (List (List Int))} (hx : AdvV w u m xs) (hy : AdvV w v n ys) (hxm : movesN xs ≤ 1000000000) (hym : movesN ys ≤ 1000000000) (h0 : eqErr m n xs ys = 0) (hk : k < 0 ∨ 6 < k) :
    Calls Tryz.prog 15 #[u, .int .i64 k, v] w fun e w' => e = .returned (.tuple #[.agg #[.int .i64 0, .slice none 0 0], .int .i64 2]) ∧ Below w.heap.size w w' := by
  obtain ⟨xa, xc, hu⟩ := advShape' hx
  obtain ⟨ya, yc, hv⟩ := advShape' hy
  subst hu hv
  obtain ⟨W1, hW1⟩ : ∃ W1, W1 = (((w.alloc (.cells #[.int .i64 m, .slice xa xs.length xc] 24)).alloc (.cells #[.int .i64 k] 3)).alloc (.cells #[.int .i64 n, .slice ya ys.length yc] 24)).alloc (.cells #[.int .i64 0, .slice none 0 0] 24) := ⟨_, rfl⟩
  obtain ⟨hb1, kA, kK, kB, kR, hz1⟩ := thBox hW1
  have HC := Lib.hid (checkC (hx.keep hb1) (hy.keep hb1) hxm hym)
  rw [h0] at HC
  obtain ⟨a0, a1⟩ := box2 kA
  obtain ⟨b0, b1⟩ := box2 kB
  rw [hW1] at a0 a1 b0 b1
  replace hz1 := Lib.hid hz1
  clear hx hy kA kB h0
  go_enter Tryz.func15, Tryz.ntmps15
  go_wp2_with fail
  rw [← hW1]
  clear a0 a1 b0 b1
  replace hW1 := Lib.hid hW1
  refine HC.out.mono ?_
  rintro e W2 ⟨rfl, hb2⟩
  have hbf := bt hb1 hb2 hb1.size
  have kR2 := kept hb2 kR
  obtain ⟨y0, y1⟩ := box2 kR2
  have p0 : W2.cell? ⟨w.heap.size + 1, 0, none⟩ = some (.int .i64 k) := box_cell (j := 0) (kept hb2 kK) rfl
  have yf0 := row_free kR2 0
  have yf1 := row_free kR2 1
  have z0 : W2.setCell ⟨w.heap.size + 1 + 1 + 1, 0, none⟩ (.int .i64 0) = W2 := setSame y0
  have z1 : W2.setCell ⟨w.heap.size + 1 + 1 + 1, 1, none⟩ (.slice none 0 0) = W2 := setSame y1
  clear kR kK kR2
  rcases hk with hk | hk
  · go_wp2
    refine bodyPost_ret (v := .tuple #[.agg #[.int .i64 0, .slice none 0 0], .int .i64 2]) (by simp [results, Tryz.results15, go_sem, y0, y1]) rfl ?_
    exact ⟨rfl, hbf⟩
  · have hk0 : 0 ≤ k := by omega
    go_wp2
    refine bodyPost_ret (v := .tuple #[.agg #[.int .i64 0, .slice none 0 0], .int .i64 2]) (by simp [results, Tryz.results15, go_sem, y0, y1]) rfl ?_
    exact ⟨rfl, hbf⟩

set_option maxRecDepth 100000 in
set_option maxHeartbeats 1600000 in
theorem thenGood {w : World} {u v : Value} {m n k : Int} {xs ys : List (List (List Int))} (hx : AdvV w u m xs) (hy : AdvV w v n ys) (hxm : movesN xs ≤ 1000000000) (hym : movesN ys ≤ 1000000000) (h0 : eqErr m n xs ys = 0) (sA : AdS xs) (sB : AdS ys) (hk : 0 ≤ k ∧ k ≤ 6) :
    Calls Tryz.prog 15 #[u, .int .i64 k, v] w (BdOut w m (thA xs ys k)) := by
  obtain ⟨xa, xc, hu⟩ := advShape' hx
  obtain ⟨ya, yc, hv⟩ := advShape' hy
  subst hu hv
  obtain ⟨W1, hW1⟩ : ∃ W1, W1 = (((w.alloc (.cells #[.int .i64 m, .slice xa xs.length xc] 24)).alloc (.cells #[.int .i64 k] 3)).alloc (.cells #[.int .i64 n, .slice ya ys.length yc] 24)).alloc (.cells #[.int .i64 0, .slice none 0 0] 24) := ⟨_, rfl⟩
  obtain ⟨hb1, kA, kK, kB, kR, hz1⟩ := thBox hW1
  have HC := Lib.hid (checkC (hx.keep hb1) (hy.keep hb1) hxm hym)
  rw [h0] at HC
  obtain ⟨a0, a1⟩ := box2 kA
  obtain ⟨b0, b1⟩ := box2 kB
  rw [hW1] at a0 a1 b0 b1
  have HX := Lib.hid (fun W (hb : Below W1.heap.size W1 W) => (hx.keep hb1).keep hb)
  have HY := Lib.hid (fun W (hb : Below W1.heap.size W1 W) => (hy.keep hb1).keep hb)
  have hK := Lib.hid (fun W (hb : Below W1.heap.size W1 W) => And.intro (kept hb kA) (And.intro (kept hb kK) (And.intro (kept hb kB) (kept hb kR))))
  have hR := thA_eq xs ys k
  obtain ⟨R, hRR⟩ : ∃ R, thA xs ys k = R := ⟨_, rfl⟩
  rw [hRR] at hR ⊢
  replace hR := Lib.hid hR
  replace hRR := Lib.hid hRR
  replace hz1 := Lib.hid hz1
  clear hx hy kA kK kB kR h0
  go_enter Tryz.func15, Tryz.ntmps15
  go_wp2_with fail
  rw [← hW1]
  clear a0 a1 b0 b1
  replace hW1 := Lib.hid hW1
  refine HC.out.mono ?_
  rintro e W2 ⟨rfl, hb2⟩
  obtain ⟨kA2, kK2, _, _⟩ := hK.out W2 hb2
  have p0 : W2.cell? ⟨w.heap.size + 1, 0, none⟩ = some (.int .i64 k) := box_cell (j := 0) kK2 rfl
  obtain ⟨W3, hW3⟩ : ∃ W3, W3 = W2.alloc (.cells #[.func (.func 40) #[] #[.pointer (some ⟨w.heap.size + 1, 0, none⟩)]] 79) := ⟨_, rfl⟩
  have hb3 : Below W2.heap.size W2 W3 := by rw [hW3]; exact (Below.refl _ _).alloc (Nat.le_refl _) _
  have kG3 : W3.heap[W2.heap.size]? = some (.cells #[.func (.func 40) #[] #[.pointer (some ⟨w.heap.size + 1, 0, none⟩)]] 79) := by rw [hW3]; exact heap_alloc_new _ _
  have hz3 : W3.heap.size = W2.heap.size + 1 := by rw [hW3, World.size_alloc]
  have hk0 := hk.1
  have hk6 := hk.2
  have a0 : W3.cell? ⟨w.heap.size, 0, none⟩ = some (.int .i64 m) := box_cell (j := 0) (kept hb3 kA2) rfl
  obtain ⟨W4, hW4⟩ : ∃ W4, W4 = W3.alloc (.cells #[.int .i64 m, .int .i64 0, .int .i64 0, .string ⟨#[]⟩, .func (.func 42) #[] #[.pointer (some ⟨w.heap.size + 1 + 1, 0, none⟩), .pointer (some ⟨w.heap.size + 1, 0, none⟩), .pointer (some ⟨w.heap.size, 0, none⟩), .pointer (some ⟨W2.heap.size, 0, none⟩)]] 65) := ⟨_, rfl⟩
  have hb4 : Below W3.heap.size W3 W4 := by rw [hW4]; exact (Below.refl _ _).alloc (Nat.le_refl _) _
  have kB4 : W4.heap[W2.heap.size + 1]? = some (.cells #[.int .i64 m, .int .i64 0, .int .i64 0, .string ⟨#[]⟩, .func (.func 42) #[] #[.pointer (some ⟨w.heap.size + 1 + 1, 0, none⟩), .pointer (some ⟨w.heap.size + 1, 0, none⟩), .pointer (some ⟨w.heap.size, 0, none⟩), .pointer (some ⟨W2.heap.size, 0, none⟩)]] 65) := by rw [hW4, ← hz3]; exact heap_alloc_new _ _
  have HB : ∀ W, Below W3.heap.size W3 W → Calls Tryz.prog 32 #[.agg #[.int .i64 m, .int .i64 (thFs k).1, .int .i64 (thFs k).2.1, .string (bsN (thFs k).2.2), .func (.func 42) #[] #[.pointer (some ⟨w.heap.size + 1 + 1, 0, none⟩), .pointer (some ⟨w.heap.size + 1, 0, none⟩), .pointer (some ⟨w.heap.size, 0, none⟩), .pointer (some ⟨W2.heap.size, 0, none⟩)]]] W (BdOut W m R) := fun W hW =>
    build3 (fs := thFs k) (step := thSt xs ys k) (P := PT xs ys k) (fun W' x hb hP => by
        have B3 := btt hW hb
        have B1 := btt (btt hb2 hb3) B3
        obtain ⟨qA, qK, qB, _⟩ := hK.out W' B1
        obtain ⟨x0, x1, x2⟩ := x
        rcases hP with ⟨h1, h2, h3⟩ | ⟨h1, h2, h3, h4, h5⟩
        · simp only at h1 h2 h3
          subst h1
          have hst : thSt xs ys k (x0, x1, []) = (xs.getD x1.toNat []).map (thF k (x0, x1, [])) := by rw [thSt, if_pos rfl]
          rw [hst]
          exact thenMvA qA qK (kept B3 kG3) (HX.out W' B1) sA (by omega) h2 h3
        · have hl := PT.setLen (az := xs) (k := k) sB (.inr ⟨h1, h2, h3, h4, h5⟩)
          simp only at h1 h2 h3 h4 h5 hl
          subst h2
          have hst : thSt xs ys x0 (x0, x1, x2) = thSq ys x0 x1 x2 := by rw [thSt, if_neg h1]
          rw [hst]
          exact thenMvB qB qK (HY.out W' B1) sB h3 h1 hl h5)
      (PT.first sA sB hk0) (fun x hP => (thSt_ok sA sB hP).1) (fun x hP => hP.sm sA sB ⟨hk0, by omega⟩) (fun x hP => Nat.le_trans (thSt_ok sA sB hP).2 (by decide)) hR.out
  replace HB := Lib.hid HB
  have g3 : W4.cell? ⟨W2.heap.size, 0, none⟩ = some (.func (.func 40) #[] #[.pointer (some ⟨w.heap.size + 1, 0, none⟩)]) := box_cell (j := 0) (kept hb4 kG3) rfl
  have hb24 := btt hb3 hb4
  have p4 : W4.cell? ⟨w.heap.size + 1, 0, none⟩ = some (.int .i64 k) := box_cell (j := 0) (kept hb24 kK2) rfl
  have kK4 := kept hb24 kK2
  have hw24 := bt hb1 (btt hb2 hb24) hb1.size
  by_cases h0 : k = 0
  · subst h0
    have HG := Lib.hid (beginC (f := 0) kK4)
    have hAf := Lib.hid (fun W (hb : Below W4.heap.size W4 W) => And.intro (kept hb kB4) (btt hb4 hb))
    rw [hW3] at a0
    rw [hW4, hW3] at g3 p4
    replace hz3 := Lib.hid hz3
    clear kA2 kK2 kG3 kB4 kK4
    go_wp2_with fail
    rw [← hW3, ← hW4]
    refine HG.out.mono ?_
    rintro e W5 ⟨rfl, hb5⟩
    obtain ⟨kB5, B35⟩ := hAf.out W5 hb5
    have kN6 := boxSet123 (u1 := .int .i64 0) (u2 := .int .i64 0) (u3 := .string (bsN [0])) kB5
    have B36 := ((B35.setCell (p := ⟨W2.heap.size + 1, 1, none⟩) (by show W3.heap.size ≤ W2.heap.size + 1; rw [hz3.out]; omega) (.int .i64 0)).setCell (p := ⟨W2.heap.size + 1, 2, none⟩) (by show W3.heap.size ≤ W2.heap.size + 1; rw [hz3.out]; omega) (.int .i64 0)).setCell (p := ⟨W2.heap.size + 1, 3, none⟩) (by show W3.heap.size ≤ W2.heap.size + 1; rw [hz3.out]; omega) (.string (bsN [0]))
    obtain ⟨y0, y1, y2, y3, y4⟩ := box5 kB5
    have yf := row_free kB5
    obtain ⟨W6, hW6⟩ : ∃ W6, W6 = ((W5.setCell ⟨W2.heap.size + 1, 1, none⟩ (.int .i64 0)).setCell ⟨W2.heap.size + 1, 2, none⟩ (.int .i64 0)).setCell ⟨W2.heap.size + 1, 3, none⟩ (.string (bsN [0])) := ⟨_, rfl⟩
    rw [← hW6] at kN6 B36
    obtain ⟨z0, z1, z2, z3, z4⟩ := box5 kN6
    have B16 := btt (btt hb2 hb3) B36
    obtain ⟨_, _, _, kR6⟩ := hK.out W6 B16
    have hbw6 := bt hb1 B16 hb1.size
    have HBB := HB.out W6 B36
    have hfs : thFs 0 = (0, 0, [0]) := rfl
    rw [hfs] at HBB
    replace HBB := Lib.hid HBB
    rw [hW6] at z0 z1 z2 z3 z4
    clear kB5 kN6
    go_wp2_with fail
    rw [← hW6]
    replace HBB := HBB.out
    refine HBB.mono ?_
    intro e W7 hO
    have hB7 := hbw6
    cases R with
    | none =>
      obtain ⟨rfl, hb7⟩ := hO
      have kR7 := kept hb7 kR6
      have hbf := bt hbw6 hb7 hbw6.size
      obtain ⟨y0, y1⟩ := box2 kR7
      have yf0 := row_free kR7 0
      have yf1 := row_free kR7 1
      have z0 : W7.setCell ⟨w.heap.size + 1 + 1 + 1, 0, none⟩ (.int .i64 0) = W7 := setSame y0
      have z1 : W7.setCell ⟨w.heap.size + 1 + 1 + 1, 1, none⟩ (.slice none 0 0) = W7 := setSame y1
      clear kR7 kR6
      go_wp2
      refine bodyPost_ret (v := .tuple #[.agg #[.int .i64 0, .slice none 0 0], .int .i64 17]) (by simp [results, Tryz.results15, go_sem, y0, y1]) rfl ?_
      exact BdOut.no (n := m) hbf
    | some S =>
      obtain ⟨uo, rfl, hA8, hb7⟩ := hO
      have kR8 := kept hb7 kR6
      have hA' := hA8
      obtain ⟨sv, rfl, hrow8, hl8, hl9⟩ := hA'
      obtain ⟨sva8, svc8, hsv8⟩ := hrow8.shape
      subst hsv8
      obtain ⟨y0, y1⟩ := box2 kR8
      have yf := row_free kR8
      have hr1 := heap_setCell_same W7 (w.heap.size + 1 + 1 + 1) 0 _ _ (.int .i64 m) kR8
      have hr2 := two_setCell (u := .slice sva8 S.length svc8) hr1
      have hx2 := (KeepX.setCell (p := ⟨w.heap.size + 1 + 1 + 1, 0, none⟩) kR8 (.int .i64 m)).trans (KeepX.setCell (p := ⟨w.heap.size + 1 + 1 + 1, 1, none⟩) hr1 (.slice sva8 S.length svc8))
      have hbw8 := bt hbw6 hb7 hbw6.size
      have hbe := (hbw8.setCell (p := ⟨w.heap.size + 1 + 1 + 1, 0, none⟩) (by show w.heap.size ≤ w.heap.size + 1 + 1 + 1; omega) (.int .i64 m)).setCell (p := ⟨w.heap.size + 1 + 1 + 1, 1, none⟩) (by show w.heap.size ≤ w.heap.size + 1 + 1 + 1; omega) (.slice sva8 S.length svc8)
      obtain ⟨z0, z1⟩ := box2 hr2
      have hfin := hA8.other hx2
      replace hfin := Lib.hid hfin
      clear hr1 hr2 hx2 hrow8 hA8 kR8 kR6
      go_wp2
      obtain ⟨W9, hW9⟩ : ∃ W9, W9 = (W7.setCell ⟨w.heap.size + 1 + 1 + 1, 0, none⟩ (.int .i64 m)).setCell ⟨w.heap.size + 1 + 1 + 1, 1, none⟩ (.slice sva8 S.length svc8) := ⟨_, rfl⟩
      rw [← hW9] at z0 z1 hfin hbe ⊢
      clear hW9
      refine bodyPost_ret (v := .tuple #[.agg #[.int .i64 m, .slice sva8 S.length svc8], .int .i64 0]) (by simp [results, Tryz.results15, go_sem, z0, z1]) rfl ?_
      exact BdOut.yes hfin.out hbe
  · have h0e : (k == 0) = false := by simp [h0]
    obtain ⟨y0, y1, y2, y3, y4⟩ := box5 kB4
    have B34 := hb4
    have B14 := btt (btt hb2 hb3) B34
    obtain ⟨_, _, _, kR6⟩ := hK.out W4 B14
    have hbw6 := bt hb1 B14 hb1.size
    have HBB := HB.out W4 B34
    have hfs : thFs k = nd0 := by rw [thFs, if_neg h0]
    rw [hfs] at HBB
    replace HBB := Lib.hid HBB
    rw [hW3] at a0
    rw [hW4, hW3] at p4 y0 y1 y2 y3 y4
    replace h0 := Lib.hid h0
    replace hz3 := Lib.hid hz3
    clear kA2 kK2 kG3 kB4 kK4 g3
    go_wp2_with fail
    rw [← hW3, ← hW4]
    replace HBB := HBB.out
    refine HBB.mono ?_
    intro e W7 hO
    have hB7 := hbw6
    cases R with
    | none =>
      obtain ⟨rfl, hb7⟩ := hO
      have kR7 := kept hb7 kR6
      have hbf := bt hbw6 hb7 hbw6.size
      obtain ⟨y0, y1⟩ := box2 kR7
      have yf0 := row_free kR7 0
      have yf1 := row_free kR7 1
      have z0 : W7.setCell ⟨w.heap.size + 1 + 1 + 1, 0, none⟩ (.int .i64 0) = W7 := setSame y0
      have z1 : W7.setCell ⟨w.heap.size + 1 + 1 + 1, 1, none⟩ (.slice none 0 0) = W7 := setSame y1
      clear kR7 kR6
      go_wp2
      refine bodyPost_ret (v := .tuple #[.agg #[.int .i64 0, .slice none 0 0], .int .i64 17]) (by simp [results, Tryz.results15, go_sem, y0, y1]) rfl ?_
      exact BdOut.no (n := m) hbf
    | some S =>
      obtain ⟨uo, rfl, hA8, hb7⟩ := hO
      have kR8 := kept hb7 kR6
      have hA' := hA8
      obtain ⟨sv, rfl, hrow8, hl8, hl9⟩ := hA'
      obtain ⟨sva8, svc8, hsv8⟩ := hrow8.shape
      subst hsv8
      obtain ⟨y0, y1⟩ := box2 kR8
      have yf := row_free kR8
      have hr1 := heap_setCell_same W7 (w.heap.size + 1 + 1 + 1) 0 _ _ (.int .i64 m) kR8
      have hr2 := two_setCell (u := .slice sva8 S.length svc8) hr1
      have hx2 := (KeepX.setCell (p := ⟨w.heap.size + 1 + 1 + 1, 0, none⟩) kR8 (.int .i64 m)).trans (KeepX.setCell (p := ⟨w.heap.size + 1 + 1 + 1, 1, none⟩) hr1 (.slice sva8 S.length svc8))
      have hbw8 := bt hbw6 hb7 hbw6.size
      have hbe := (hbw8.setCell (p := ⟨w.heap.size + 1 + 1 + 1, 0, none⟩) (by show w.heap.size ≤ w.heap.size + 1 + 1 + 1; omega) (.int .i64 m)).setCell (p := ⟨w.heap.size + 1 + 1 + 1, 1, none⟩) (by show w.heap.size ≤ w.heap.size + 1 + 1 + 1; omega) (.slice sva8 S.length svc8)
      obtain ⟨z0, z1⟩ := box2 hr2
      have hfin := hA8.other hx2
      replace hfin := Lib.hid hfin
      clear hr1 hr2 hx2 hrow8 hA8 kR8 kR6
      go_wp2
      obtain ⟨W9, hW9⟩ : ∃ W9, W9 = (W7.setCell ⟨w.heap.size + 1 + 1 + 1, 0, none⟩ (.int .i64 m)).setCell ⟨w.heap.size + 1 + 1 + 1, 1, none⟩ (.slice sva8 S.length svc8) := ⟨_, rfl⟩
      rw [← hW9] at z0 z1 hfin hbe ⊢
      clear hW9
      refine bodyPost_ret (v := .tuple #[.agg #[.int .i64 m, .slice sva8 S.length svc8], .int .i64 0]) (by simp [results, Tryz.results15, go_sem, z0, z1]) rfl ?_
      exact BdOut.yes hfin.out hbe
end Go.Proofs.YtiiiegflobihjaaGreat

/- The reference: leads, its region 14 by states. -/
namespace Go.Proofs.YtiiiegflobihjaaGreat
open Go.RowKit


def opsLd14 : Array Oper := #[{ dst := some 74, op := Op.fieldAddr 82 (Operand.tmp 11) 3, type := 0, pos := "ref.go:256", after := #[], guard := none }, { dst := some 75, op := Op.load 78 (Operand.tmp 74), type := 78, pos := "ref.go:256", after := #[{ on := 0, ground := Ground.data }], guard := none }, { dst := some 76, op := Op.move (Operand.tmp 13), type := 59, pos := "ref.go:256", after := #[], guard := none }, { dst := some 77, op := Op.move (Operand.tmp 14), type := 3, pos := "ref.go:256", after := #[], guard := none }, { dst := some 78, op := Op.indexAddr 59 (Operand.tmp 76) (Operand.tmp 77), type := 0, pos := "ref.go:256", after := #[{ on := 2, ground := Ground.data }, { on := 3, ground := Ground.data }], guard := none }, { dst := some 79, op := Op.fieldAddr 58 (Operand.tmp 78) 1, type := 0, pos := "ref.go:256", after := #[{ on := 4, ground := Ground.data }], guard := none }, { dst := some 80, op := Op.load 3 (Operand.tmp 79), type := 3, pos := "ref.go:256", after := #[{ on := 5, ground := Ground.data }], guard := none }, { dst := some 81, op := Op.call { callee := Callee.value (Operand.func 82), args := #[Operand.tmp 75, Operand.tmp 80], argTypes := #[78, 3] }, type := 78, pos := "ref.go:256", after := #[{ on := 1, ground := Ground.data }, { on := 6, ground := Ground.data }], guard := none }, { dst := some 82, op := Op.fieldAddr 82 (Operand.tmp 11) 3, type := 0, pos := "ref.go:256", after := #[{ on := 0, ground := Ground.phase }, { on := 1, ground := Ground.phase }, { on := 2, ground := Ground.phase }, { on := 3, ground := Ground.phase }, { on := 4, ground := Ground.phase }, { on := 5, ground := Ground.phase }, { on := 6, ground := Ground.phase }, { on := 7, ground := Ground.phase }], guard := none }, { dst := none, op := Op.store 78 (Operand.tmp 82) (Operand.tmp 81), type := 0, pos := "ref.go:256", after := #[{ on := 8, ground := Ground.data }, { on := 7, ground := Ground.data }, { on := 7, ground := Ground.chain }, { on := 0, ground := Ground.phase }, { on := 1, ground := Ground.phase }, { on := 2, ground := Ground.phase }, { on := 3, ground := Ground.phase }, { on := 4, ground := Ground.phase }, { on := 5, ground := Ground.phase }, { on := 6, ground := Ground.phase }, { on := 7, ground := Ground.phase }], guard := none }]
set_option maxRecDepth 100000 in
set_option maxHeartbeats 6400000 in
theorem regLd14 {w : World} {x0 x1 x2 x3 x4 x5 x6 x7 x8 x9 x10 x12 x15 x16 x17 x18 x19 x20 x21 x22 x23 x24 x25 x26 x27 x28 x29 x30 x31 x32 x33 x34 x35 x36 x37 x38 x39 x40 x41 x42 x43 x44 x45 x46 x47 x48 x49 x50 x51 x52 x53 x54 x55 x56 x57 x58 x59 x60 x61 x62 x63 x64 x65 x66 x67 x68 x69 x70 x71 x72 x73 x74 x75 x76 x77 x78 x79 x80 x81 x82 x83 : Value} {Q : Exit → Act → World → Prop} {bo xb xo nx xc j t B : Nat} {q0 q1 q2 v : Value} {L : List Nat}
    (k0 : w.heap[bo]? = some (.cells #[q0, q1, q2, v] 82)) (hx : w.cell? ⟨xb, xo + j * 8 + 7, none⟩ = some (.int .i64 (t : Int))) (hjn : (j : Int) < (nx : Int))
    (HA : Hid (∀ W, Below w.heap.size w W → Calls Tryz.prog 82 #[v, .int .i64 (t : Int)] W (fun e w' => ∃ u, e = .returned u ∧ OI w' B u (addN t L).length (natI (addN t L)) ∧ Below W.heap.size W w')))
    (h : ∀ (W5 : World) (_hb : Below w.heap.size w W5) (v5 : Value) (_ho : OI W5 B v5 (addN t L).length (natI (addN t L))) (W : World) (_hW : W = W5.setCell ⟨bo, 3, none⟩ v5), Q .normal ⟨#[x0, x1, x2, x3, x4, x5, x6, x7, x8, x9, x10, .pointer (some ⟨bo, 0, none⟩), x12, .slice (some ⟨xb, xo, none⟩) nx xc, .int .i64 (j : Int), x15, x16, x17, x18, x19, x20, x21, x22, x23, x24, x25, x26, x27, x28, x29, x30, x31, x32, x33, x34, x35, x36, x37, x38, x39, x40, x41, x42, x43, x44, x45, x46, x47, x48, x49, x50, x51, x52, x53, x54, x55, x56, x57, x58, x59, x60, x61, x62, x63, x64, x65, x66, x67, x68, x69, x70, x71, x72, x73, .pointer (some ⟨bo, 3, none⟩), v, .slice (some ⟨xb, xo, none⟩) nx xc, .int .i64 (j : Int), .pointer (some ⟨xb, xo + j * 8, none⟩), .pointer (some ⟨xb, xo + j * 8 + 7, none⟩), .int .i64 (t : Int), v5, .pointer (some ⟨bo, 3, none⟩), x83], []⟩ W) :
    (Code.region 14 opsLd14 true).wp Tryz.prog Q ⟨#[x0, x1, x2, x3, x4, x5, x6, x7, x8, x9, x10, .pointer (some ⟨bo, 0, none⟩), x12, .slice (some ⟨xb, xo, none⟩) nx xc, .int .i64 (j : Int), x15, x16, x17, x18, x19, x20, x21, x22, x23, x24, x25, x26, x27, x28, x29, x30, x31, x32, x33, x34, x35, x36, x37, x38, x39, x40, x41, x42, x43, x44, x45, x46, x47, x48, x49, x50, x51, x52, x53, x54, x55, x56, x57, x58, x59, x60, x61, x62, x63, x64, x65, x66, x67, x68, x69, x70, x71, x72, x73, x74, x75, x76, x77, x78, x79, x80, x81, x82, x83], []⟩ w := by
  have hj0 : (0 : Int) ≤ (j : Int) := by omega
  have ho0 : opsLd14[0]? = some { dst := some 74, op := Op.fieldAddr 82 (Operand.tmp 11) 3, type := 0, pos := "ref.go:256", after := #[], guard := none } := rfl
  have ho1 : opsLd14[1]? = some { dst := some 75, op := Op.load 78 (Operand.tmp 74), type := 78, pos := "ref.go:256", after := #[{ on := 0, ground := Ground.data }], guard := none } := rfl
  have ho2 : opsLd14[2]? = some { dst := some 76, op := Op.move (Operand.tmp 13), type := 59, pos := "ref.go:256", after := #[], guard := none } := rfl
  have ho3 : opsLd14[3]? = some { dst := some 77, op := Op.move (Operand.tmp 14), type := 3, pos := "ref.go:256", after := #[], guard := none } := rfl
  have ho4 : opsLd14[4]? = some { dst := some 78, op := Op.indexAddr 59 (Operand.tmp 76) (Operand.tmp 77), type := 0, pos := "ref.go:256", after := #[{ on := 2, ground := Ground.data }, { on := 3, ground := Ground.data }], guard := none } := rfl
  have ho5 : opsLd14[5]? = some { dst := some 79, op := Op.fieldAddr 58 (Operand.tmp 78) 1, type := 0, pos := "ref.go:256", after := #[{ on := 4, ground := Ground.data }], guard := none } := rfl
  have ho6 : opsLd14[6]? = some { dst := some 80, op := Op.load 3 (Operand.tmp 79), type := 3, pos := "ref.go:256", after := #[{ on := 5, ground := Ground.data }], guard := none } := rfl
  have ho7 : opsLd14[7]? = some { dst := some 81, op := Op.call { callee := Callee.value (Operand.func 82), args := #[Operand.tmp 75, Operand.tmp 80], argTypes := #[78, 3] }, type := 78, pos := "ref.go:256", after := #[{ on := 1, ground := Ground.data }, { on := 6, ground := Ground.data }], guard := none } := rfl
  have ho8 : opsLd14[8]? = some { dst := some 82, op := Op.fieldAddr 82 (Operand.tmp 11) 3, type := 0, pos := "ref.go:256", after := #[{ on := 0, ground := Ground.phase }, { on := 1, ground := Ground.phase }, { on := 2, ground := Ground.phase }, { on := 3, ground := Ground.phase }, { on := 4, ground := Ground.phase }, { on := 5, ground := Ground.phase }, { on := 6, ground := Ground.phase }, { on := 7, ground := Ground.phase }], guard := none } := rfl
  have ho9 : opsLd14[9]? = some { dst := none, op := Op.store 78 (Operand.tmp 82) (Operand.tmp 81), type := 0, pos := "ref.go:256", after := #[{ on := 8, ground := Ground.data }, { on := 7, ground := Ground.data }, { on := 7, ground := Ground.chain }, { on := 0, ground := Ground.phase }, { on := 1, ground := Ground.phase }, { on := 2, ground := Ground.phase }, { on := 3, ground := Ground.phase }, { on := 4, ground := Ground.phase }, { on := 5, ground := Ground.phase }, { on := 6, ground := Ground.phase }, { on := 7, ground := Ground.phase }], guard := none } := rfl
  refine wp_region_any (by kernel_rfl) ?_
  have st0_1_2_3_4_5_6_7_8_9_ : ∀ (W5 : World) (hb : Below w.heap.size w W5) (v5 : Value) (ho : OI W5 B v5 (addN t L).length (natI (addN t L))) (W : World) (hW : W = W5.setCell ⟨bo, 3, none⟩ v5), wpAny Tryz.prog .any opsLd14 Q 0 #[true, true, true, true, true, true, true, true, true, true] ⟨#[x0, x1, x2, x3, x4, x5, x6, x7, x8, x9, x10, .pointer (some ⟨bo, 0, none⟩), x12, .slice (some ⟨xb, xo, none⟩) nx xc, .int .i64 (j : Int), x15, x16, x17, x18, x19, x20, x21, x22, x23, x24, x25, x26, x27, x28, x29, x30, x31, x32, x33, x34, x35, x36, x37, x38, x39, x40, x41, x42, x43, x44, x45, x46, x47, x48, x49, x50, x51, x52, x53, x54, x55, x56, x57, x58, x59, x60, x61, x62, x63, x64, x65, x66, x67, x68, x69, x70, x71, x72, x73, .pointer (some ⟨bo, 3, none⟩), v, .slice (some ⟨xb, xo, none⟩) nx xc, .int .i64 (j : Int), .pointer (some ⟨xb, xo + j * 8, none⟩), .pointer (some ⟨xb, xo + j * 8 + 7, none⟩), .int .i64 (t : Int), v5, .pointer (some ⟨bo, 3, none⟩), x83], []⟩ W := by
    intro W5 hb v5 ho W hW
    exact ⟨by kernel_rfl, h W5 hb v5 ho _ hW⟩
  have st0_1_2_3_4_5_6_7_8_ : ∀ (W : World) (hb : Below w.heap.size w W) (v5 : Value) (ho : OI W B v5 (addN t L).length (natI (addN t L))), wpAny Tryz.prog .any opsLd14 Q 1 #[true, true, true, true, true, true, true, true, true, false] ⟨#[x0, x1, x2, x3, x4, x5, x6, x7, x8, x9, x10, .pointer (some ⟨bo, 0, none⟩), x12, .slice (some ⟨xb, xo, none⟩) nx xc, .int .i64 (j : Int), x15, x16, x17, x18, x19, x20, x21, x22, x23, x24, x25, x26, x27, x28, x29, x30, x31, x32, x33, x34, x35, x36, x37, x38, x39, x40, x41, x42, x43, x44, x45, x46, x47, x48, x49, x50, x51, x52, x53, x54, x55, x56, x57, x58, x59, x60, x61, x62, x63, x64, x65, x66, x67, x68, x69, x70, x71, x72, x73, .pointer (some ⟨bo, 3, none⟩), v, .slice (some ⟨xb, xo, none⟩) nx xc, .int .i64 (j : Int), .pointer (some ⟨xb, xo + j * 8, none⟩), .pointer (some ⟨xb, xo + j * 8 + 7, none⟩), .int .i64 (t : Int), v5, .pointer (some ⟨bo, 3, none⟩), x83], []⟩ W := by
    intro W hb v5 ho
    refine wpAny_ready (rs := [9]) (by kernel_rfl) (by simp) ?_
    refine AllReady.cons ho9 (fun K hK => ?_) AllReady.nil
    · obtain ⟨a5, c5, rfl⟩ := ho.shape
      obtain ⟨y0, y1, y2, y3⟩ := box4 (kept hb k0)
      have yf := row_free (kept hb k0)
      go_simp
      refine hK _ _ ?_
      exact st0_1_2_3_4_5_6_7_8_9_ W hb _ ho _ rfl
  have st0_1_2_3_4_5_6_7_ : ∀ (W : World) (hb : Below w.heap.size w W) (v5 : Value) (ho : OI W B v5 (addN t L).length (natI (addN t L))), wpAny Tryz.prog .any opsLd14 Q 2 #[true, true, true, true, true, true, true, true, false, false] ⟨#[x0, x1, x2, x3, x4, x5, x6, x7, x8, x9, x10, .pointer (some ⟨bo, 0, none⟩), x12, .slice (some ⟨xb, xo, none⟩) nx xc, .int .i64 (j : Int), x15, x16, x17, x18, x19, x20, x21, x22, x23, x24, x25, x26, x27, x28, x29, x30, x31, x32, x33, x34, x35, x36, x37, x38, x39, x40, x41, x42, x43, x44, x45, x46, x47, x48, x49, x50, x51, x52, x53, x54, x55, x56, x57, x58, x59, x60, x61, x62, x63, x64, x65, x66, x67, x68, x69, x70, x71, x72, x73, .pointer (some ⟨bo, 3, none⟩), v, .slice (some ⟨xb, xo, none⟩) nx xc, .int .i64 (j : Int), .pointer (some ⟨xb, xo + j * 8, none⟩), .pointer (some ⟨xb, xo + j * 8 + 7, none⟩), .int .i64 (t : Int), v5, x82, x83], []⟩ W := by
    intro W hb v5 ho
    refine wpAny_ready (rs := [8]) (by kernel_rfl) (by simp) ?_
    refine AllReady.cons ho8 (fun K hK => ?_) AllReady.nil
    · go_simp
      refine hK _ _ ?_
      exact st0_1_2_3_4_5_6_7_8_ W hb v5 ho
  have st0_1_2_3_4_5_6_ : ∀ (W : World) (hb : Below w.heap.size w W), wpAny Tryz.prog .any opsLd14 Q 3 #[true, true, true, true, true, true, true, false, false, false] ⟨#[x0, x1, x2, x3, x4, x5, x6, x7, x8, x9, x10, .pointer (some ⟨bo, 0, none⟩), x12, .slice (some ⟨xb, xo, none⟩) nx xc, .int .i64 (j : Int), x15, x16, x17, x18, x19, x20, x21, x22, x23, x24, x25, x26, x27, x28, x29, x30, x31, x32, x33, x34, x35, x36, x37, x38, x39, x40, x41, x42, x43, x44, x45, x46, x47, x48, x49, x50, x51, x52, x53, x54, x55, x56, x57, x58, x59, x60, x61, x62, x63, x64, x65, x66, x67, x68, x69, x70, x71, x72, x73, .pointer (some ⟨bo, 3, none⟩), v, .slice (some ⟨xb, xo, none⟩) nx xc, .int .i64 (j : Int), .pointer (some ⟨xb, xo + j * 8, none⟩), .pointer (some ⟨xb, xo + j * 8 + 7, none⟩), .int .i64 (t : Int), x81, x82, x83], []⟩ W := by
    intro W hb
    refine wpAny_ready (rs := [7]) (by kernel_rfl) (by simp) ?_
    refine AllReady.cons ho7 (fun K hK => ?_) AllReady.nil
    · have HC := Lib.hid (HA.out W hb)
      go_simp
      go_at_call 82
      (with_reducible refine HC.out.mono ?_)
      rintro e W9 ⟨v5, rfl, ho9, hb9⟩
      dsimp only
      refine hK _ _ ?_
      exact st0_1_2_3_4_5_6_7_ W9 (bt hb hb9 hb.size) v5 ho9
  have st0_1_2_3_4_5_ : ∀ (W : World) (hb : Below w.heap.size w W), wpAny Tryz.prog .any opsLd14 Q 4 #[true, true, true, true, true, true, false, false, false, false] ⟨#[x0, x1, x2, x3, x4, x5, x6, x7, x8, x9, x10, .pointer (some ⟨bo, 0, none⟩), x12, .slice (some ⟨xb, xo, none⟩) nx xc, .int .i64 (j : Int), x15, x16, x17, x18, x19, x20, x21, x22, x23, x24, x25, x26, x27, x28, x29, x30, x31, x32, x33, x34, x35, x36, x37, x38, x39, x40, x41, x42, x43, x44, x45, x46, x47, x48, x49, x50, x51, x52, x53, x54, x55, x56, x57, x58, x59, x60, x61, x62, x63, x64, x65, x66, x67, x68, x69, x70, x71, x72, x73, .pointer (some ⟨bo, 3, none⟩), v, .slice (some ⟨xb, xo, none⟩) nx xc, .int .i64 (j : Int), .pointer (some ⟨xb, xo + j * 8, none⟩), .pointer (some ⟨xb, xo + j * 8 + 7, none⟩), x80, x81, x82, x83], []⟩ W := by
    intro W hb
    refine wpAny_ready (rs := [6]) (by kernel_rfl) (by simp) ?_
    refine AllReady.cons ho6 (fun K hK => ?_) AllReady.nil
    · have c7 := cell_kept hb hx
      go_simp
      refine hK _ _ ?_
      exact st0_1_2_3_4_5_6_ W hb
  have st0_2_3_4_5_6_ : ∀ (W : World) (hb : Below w.heap.size w W), wpAny Tryz.prog .any opsLd14 Q 4 #[true, false, true, true, true, true, true, false, false, false] ⟨#[x0, x1, x2, x3, x4, x5, x6, x7, x8, x9, x10, .pointer (some ⟨bo, 0, none⟩), x12, .slice (some ⟨xb, xo, none⟩) nx xc, .int .i64 (j : Int), x15, x16, x17, x18, x19, x20, x21, x22, x23, x24, x25, x26, x27, x28, x29, x30, x31, x32, x33, x34, x35, x36, x37, x38, x39, x40, x41, x42, x43, x44, x45, x46, x47, x48, x49, x50, x51, x52, x53, x54, x55, x56, x57, x58, x59, x60, x61, x62, x63, x64, x65, x66, x67, x68, x69, x70, x71, x72, x73, .pointer (some ⟨bo, 3, none⟩), x75, .slice (some ⟨xb, xo, none⟩) nx xc, .int .i64 (j : Int), .pointer (some ⟨xb, xo + j * 8, none⟩), .pointer (some ⟨xb, xo + j * 8 + 7, none⟩), .int .i64 (t : Int), x81, x82, x83], []⟩ W := by
    intro W hb
    refine wpAny_ready (rs := [1]) (by kernel_rfl) (by simp) ?_
    refine AllReady.cons ho1 (fun K hK => ?_) AllReady.nil
    · obtain ⟨y0, y1, y2, y3⟩ := box4 (kept hb k0)
      go_simp
      refine hK _ _ ?_
      exact st0_1_2_3_4_5_6_ W hb
  have st0_1_2_3_4_ : ∀ (W : World) (hb : Below w.heap.size w W), wpAny Tryz.prog .any opsLd14 Q 5 #[true, true, true, true, true, false, false, false, false, false] ⟨#[x0, x1, x2, x3, x4, x5, x6, x7, x8, x9, x10, .pointer (some ⟨bo, 0, none⟩), x12, .slice (some ⟨xb, xo, none⟩) nx xc, .int .i64 (j : Int), x15, x16, x17, x18, x19, x20, x21, x22, x23, x24, x25, x26, x27, x28, x29, x30, x31, x32, x33, x34, x35, x36, x37, x38, x39, x40, x41, x42, x43, x44, x45, x46, x47, x48, x49, x50, x51, x52, x53, x54, x55, x56, x57, x58, x59, x60, x61, x62, x63, x64, x65, x66, x67, x68, x69, x70, x71, x72, x73, .pointer (some ⟨bo, 3, none⟩), v, .slice (some ⟨xb, xo, none⟩) nx xc, .int .i64 (j : Int), .pointer (some ⟨xb, xo + j * 8, none⟩), x79, x80, x81, x82, x83], []⟩ W := by
    intro W hb
    refine wpAny_ready (rs := [5]) (by kernel_rfl) (by simp) ?_
    refine AllReady.cons ho5 (fun K hK => ?_) AllReady.nil
    · go_simp
      refine hK _ _ ?_
      exact st0_1_2_3_4_5_ W hb
  have st0_2_3_4_5_ : ∀ (W : World) (hb : Below w.heap.size w W), wpAny Tryz.prog .any opsLd14 Q 5 #[true, false, true, true, true, true, false, false, false, false] ⟨#[x0, x1, x2, x3, x4, x5, x6, x7, x8, x9, x10, .pointer (some ⟨bo, 0, none⟩), x12, .slice (some ⟨xb, xo, none⟩) nx xc, .int .i64 (j : Int), x15, x16, x17, x18, x19, x20, x21, x22, x23, x24, x25, x26, x27, x28, x29, x30, x31, x32, x33, x34, x35, x36, x37, x38, x39, x40, x41, x42, x43, x44, x45, x46, x47, x48, x49, x50, x51, x52, x53, x54, x55, x56, x57, x58, x59, x60, x61, x62, x63, x64, x65, x66, x67, x68, x69, x70, x71, x72, x73, .pointer (some ⟨bo, 3, none⟩), x75, .slice (some ⟨xb, xo, none⟩) nx xc, .int .i64 (j : Int), .pointer (some ⟨xb, xo + j * 8, none⟩), .pointer (some ⟨xb, xo + j * 8 + 7, none⟩), x80, x81, x82, x83], []⟩ W := by
    intro W hb
    refine wpAny_ready (rs := [1, 6]) (by kernel_rfl) (by simp) ?_
    refine AllReady.cons ho1 (fun K hK => ?_) (AllReady.cons ho6 (fun K hK => ?_) AllReady.nil)
    · obtain ⟨y0, y1, y2, y3⟩ := box4 (kept hb k0)
      go_simp
      refine hK _ _ ?_
      exact st0_1_2_3_4_5_ W hb
    · have c7 := cell_kept hb hx
      go_simp
      refine hK _ _ ?_
      exact st0_2_3_4_5_6_ W hb
  have st2_3_4_5_6_ : ∀ (W : World) (hb : Below w.heap.size w W), wpAny Tryz.prog .any opsLd14 Q 5 #[false, false, true, true, true, true, true, false, false, false] ⟨#[x0, x1, x2, x3, x4, x5, x6, x7, x8, x9, x10, .pointer (some ⟨bo, 0, none⟩), x12, .slice (some ⟨xb, xo, none⟩) nx xc, .int .i64 (j : Int), x15, x16, x17, x18, x19, x20, x21, x22, x23, x24, x25, x26, x27, x28, x29, x30, x31, x32, x33, x34, x35, x36, x37, x38, x39, x40, x41, x42, x43, x44, x45, x46, x47, x48, x49, x50, x51, x52, x53, x54, x55, x56, x57, x58, x59, x60, x61, x62, x63, x64, x65, x66, x67, x68, x69, x70, x71, x72, x73, x74, x75, .slice (some ⟨xb, xo, none⟩) nx xc, .int .i64 (j : Int), .pointer (some ⟨xb, xo + j * 8, none⟩), .pointer (some ⟨xb, xo + j * 8 + 7, none⟩), .int .i64 (t : Int), x81, x82, x83], []⟩ W := by
    intro W hb
    refine wpAny_ready (rs := [0]) (by kernel_rfl) (by simp) ?_
    refine AllReady.cons ho0 (fun K hK => ?_) AllReady.nil
    · go_simp
      refine hK _ _ ?_
      exact st0_2_3_4_5_6_ W hb
  have st0_1_2_3_ : ∀ (W : World) (hb : Below w.heap.size w W), wpAny Tryz.prog .any opsLd14 Q 6 #[true, true, true, true, false, false, false, false, false, false] ⟨#[x0, x1, x2, x3, x4, x5, x6, x7, x8, x9, x10, .pointer (some ⟨bo, 0, none⟩), x12, .slice (some ⟨xb, xo, none⟩) nx xc, .int .i64 (j : Int), x15, x16, x17, x18, x19, x20, x21, x22, x23, x24, x25, x26, x27, x28, x29, x30, x31, x32, x33, x34, x35, x36, x37, x38, x39, x40, x41, x42, x43, x44, x45, x46, x47, x48, x49, x50, x51, x52, x53, x54, x55, x56, x57, x58, x59, x60, x61, x62, x63, x64, x65, x66, x67, x68, x69, x70, x71, x72, x73, .pointer (some ⟨bo, 3, none⟩), v, .slice (some ⟨xb, xo, none⟩) nx xc, .int .i64 (j : Int), x78, x79, x80, x81, x82, x83], []⟩ W := by
    intro W hb
    refine wpAny_ready (rs := [4]) (by kernel_rfl) (by simp) ?_
    refine AllReady.cons ho4 (fun K hK => ?_) AllReady.nil
    · go_simp
      refine hK _ _ ?_
      exact st0_1_2_3_4_ W hb
  have st0_2_3_4_ : ∀ (W : World) (hb : Below w.heap.size w W), wpAny Tryz.prog .any opsLd14 Q 6 #[true, false, true, true, true, false, false, false, false, false] ⟨#[x0, x1, x2, x3, x4, x5, x6, x7, x8, x9, x10, .pointer (some ⟨bo, 0, none⟩), x12, .slice (some ⟨xb, xo, none⟩) nx xc, .int .i64 (j : Int), x15, x16, x17, x18, x19, x20, x21, x22, x23, x24, x25, x26, x27, x28, x29, x30, x31, x32, x33, x34, x35, x36, x37, x38, x39, x40, x41, x42, x43, x44, x45, x46, x47, x48, x49, x50, x51, x52, x53, x54, x55, x56, x57, x58, x59, x60, x61, x62, x63, x64, x65, x66, x67, x68, x69, x70, x71, x72, x73, .pointer (some ⟨bo, 3, none⟩), x75, .slice (some ⟨xb, xo, none⟩) nx xc, .int .i64 (j : Int), .pointer (some ⟨xb, xo + j * 8, none⟩), x79, x80, x81, x82, x83], []⟩ W := by
    intro W hb
    refine wpAny_ready (rs := [1, 5]) (by kernel_rfl) (by simp) ?_
    refine AllReady.cons ho1 (fun K hK => ?_) (AllReady.cons ho5 (fun K hK => ?_) AllReady.nil)
    · obtain ⟨y0, y1, y2, y3⟩ := box4 (kept hb k0)
      go_simp
      refine hK _ _ ?_
      exact st0_1_2_3_4_ W hb
    · go_simp
      refine hK _ _ ?_
      exact st0_2_3_4_5_ W hb
  have st2_3_4_5_ : ∀ (W : World) (hb : Below w.heap.size w W), wpAny Tryz.prog .any opsLd14 Q 6 #[false, false, true, true, true, true, false, false, false, false] ⟨#[x0, x1, x2, x3, x4, x5, x6, x7, x8, x9, x10, .pointer (some ⟨bo, 0, none⟩), x12, .slice (some ⟨xb, xo, none⟩) nx xc, .int .i64 (j : Int), x15, x16, x17, x18, x19, x20, x21, x22, x23, x24, x25, x26, x27, x28, x29, x30, x31, x32, x33, x34, x35, x36, x37, x38, x39, x40, x41, x42, x43, x44, x45, x46, x47, x48, x49, x50, x51, x52, x53, x54, x55, x56, x57, x58, x59, x60, x61, x62, x63, x64, x65, x66, x67, x68, x69, x70, x71, x72, x73, x74, x75, .slice (some ⟨xb, xo, none⟩) nx xc, .int .i64 (j : Int), .pointer (some ⟨xb, xo + j * 8, none⟩), .pointer (some ⟨xb, xo + j * 8 + 7, none⟩), x80, x81, x82, x83], []⟩ W := by
    intro W hb
    refine wpAny_ready (rs := [0, 6]) (by kernel_rfl) (by simp) ?_
    refine AllReady.cons ho0 (fun K hK => ?_) (AllReady.cons ho6 (fun K hK => ?_) AllReady.nil)
    · go_simp
      refine hK _ _ ?_
      exact st0_2_3_4_5_ W hb
    · have c7 := cell_kept hb hx
      go_simp
      refine hK _ _ ?_
      exact st2_3_4_5_6_ W hb
  have st0_1_2_ : ∀ (W : World) (hb : Below w.heap.size w W), wpAny Tryz.prog .any opsLd14 Q 7 #[true, true, true, false, false, false, false, false, false, false] ⟨#[x0, x1, x2, x3, x4, x5, x6, x7, x8, x9, x10, .pointer (some ⟨bo, 0, none⟩), x12, .slice (some ⟨xb, xo, none⟩) nx xc, .int .i64 (j : Int), x15, x16, x17, x18, x19, x20, x21, x22, x23, x24, x25, x26, x27, x28, x29, x30, x31, x32, x33, x34, x35, x36, x37, x38, x39, x40, x41, x42, x43, x44, x45, x46, x47, x48, x49, x50, x51, x52, x53, x54, x55, x56, x57, x58, x59, x60, x61, x62, x63, x64, x65, x66, x67, x68, x69, x70, x71, x72, x73, .pointer (some ⟨bo, 3, none⟩), v, .slice (some ⟨xb, xo, none⟩) nx xc, x77, x78, x79, x80, x81, x82, x83], []⟩ W := by
    intro W hb
    refine wpAny_ready (rs := [3]) (by kernel_rfl) (by simp) ?_
    refine AllReady.cons ho3 (fun K hK => ?_) AllReady.nil
    · go_simp
      refine hK _ _ ?_
      exact st0_1_2_3_ W hb
  have st0_1_3_ : ∀ (W : World) (hb : Below w.heap.size w W), wpAny Tryz.prog .any opsLd14 Q 7 #[true, true, false, true, false, false, false, false, false, false] ⟨#[x0, x1, x2, x3, x4, x5, x6, x7, x8, x9, x10, .pointer (some ⟨bo, 0, none⟩), x12, .slice (some ⟨xb, xo, none⟩) nx xc, .int .i64 (j : Int), x15, x16, x17, x18, x19, x20, x21, x22, x23, x24, x25, x26, x27, x28, x29, x30, x31, x32, x33, x34, x35, x36, x37, x38, x39, x40, x41, x42, x43, x44, x45, x46, x47, x48, x49, x50, x51, x52, x53, x54, x55, x56, x57, x58, x59, x60, x61, x62, x63, x64, x65, x66, x67, x68, x69, x70, x71, x72, x73, .pointer (some ⟨bo, 3, none⟩), v, x76, .int .i64 (j : Int), x78, x79, x80, x81, x82, x83], []⟩ W := by
    intro W hb
    refine wpAny_ready (rs := [2]) (by kernel_rfl) (by simp) ?_
    refine AllReady.cons ho2 (fun K hK => ?_) AllReady.nil
    · go_simp
      refine hK _ _ ?_
      exact st0_1_2_3_ W hb
  have st0_2_3_ : ∀ (W : World) (hb : Below w.heap.size w W), wpAny Tryz.prog .any opsLd14 Q 7 #[true, false, true, true, false, false, false, false, false, false] ⟨#[x0, x1, x2, x3, x4, x5, x6, x7, x8, x9, x10, .pointer (some ⟨bo, 0, none⟩), x12, .slice (some ⟨xb, xo, none⟩) nx xc, .int .i64 (j : Int), x15, x16, x17, x18, x19, x20, x21, x22, x23, x24, x25, x26, x27, x28, x29, x30, x31, x32, x33, x34, x35, x36, x37, x38, x39, x40, x41, x42, x43, x44, x45, x46, x47, x48, x49, x50, x51, x52, x53, x54, x55, x56, x57, x58, x59, x60, x61, x62, x63, x64, x65, x66, x67, x68, x69, x70, x71, x72, x73, .pointer (some ⟨bo, 3, none⟩), x75, .slice (some ⟨xb, xo, none⟩) nx xc, .int .i64 (j : Int), x78, x79, x80, x81, x82, x83], []⟩ W := by
    intro W hb
    refine wpAny_ready (rs := [1, 4]) (by kernel_rfl) (by simp) ?_
    refine AllReady.cons ho1 (fun K hK => ?_) (AllReady.cons ho4 (fun K hK => ?_) AllReady.nil)
    · obtain ⟨y0, y1, y2, y3⟩ := box4 (kept hb k0)
      go_simp
      refine hK _ _ ?_
      exact st0_1_2_3_ W hb
    · go_simp
      refine hK _ _ ?_
      exact st0_2_3_4_ W hb
  have st2_3_4_ : ∀ (W : World) (hb : Below w.heap.size w W), wpAny Tryz.prog .any opsLd14 Q 7 #[false, false, true, true, true, false, false, false, false, false] ⟨#[x0, x1, x2, x3, x4, x5, x6, x7, x8, x9, x10, .pointer (some ⟨bo, 0, none⟩), x12, .slice (some ⟨xb, xo, none⟩) nx xc, .int .i64 (j : Int), x15, x16, x17, x18, x19, x20, x21, x22, x23, x24, x25, x26, x27, x28, x29, x30, x31, x32, x33, x34, x35, x36, x37, x38, x39, x40, x41, x42, x43, x44, x45, x46, x47, x48, x49, x50, x51, x52, x53, x54, x55, x56, x57, x58, x59, x60, x61, x62, x63, x64, x65, x66, x67, x68, x69, x70, x71, x72, x73, x74, x75, .slice (some ⟨xb, xo, none⟩) nx xc, .int .i64 (j : Int), .pointer (some ⟨xb, xo + j * 8, none⟩), x79, x80, x81, x82, x83], []⟩ W := by
    intro W hb
    refine wpAny_ready (rs := [0, 5]) (by kernel_rfl) (by simp) ?_
    refine AllReady.cons ho0 (fun K hK => ?_) (AllReady.cons ho5 (fun K hK => ?_) AllReady.nil)
    · go_simp
      refine hK _ _ ?_
      exact st0_2_3_4_ W hb
    · go_simp
      refine hK _ _ ?_
      exact st2_3_4_5_ W hb
  have st0_1_ : ∀ (W : World) (hb : Below w.heap.size w W), wpAny Tryz.prog .any opsLd14 Q 8 #[true, true, false, false, false, false, false, false, false, false] ⟨#[x0, x1, x2, x3, x4, x5, x6, x7, x8, x9, x10, .pointer (some ⟨bo, 0, none⟩), x12, .slice (some ⟨xb, xo, none⟩) nx xc, .int .i64 (j : Int), x15, x16, x17, x18, x19, x20, x21, x22, x23, x24, x25, x26, x27, x28, x29, x30, x31, x32, x33, x34, x35, x36, x37, x38, x39, x40, x41, x42, x43, x44, x45, x46, x47, x48, x49, x50, x51, x52, x53, x54, x55, x56, x57, x58, x59, x60, x61, x62, x63, x64, x65, x66, x67, x68, x69, x70, x71, x72, x73, .pointer (some ⟨bo, 3, none⟩), v, x76, x77, x78, x79, x80, x81, x82, x83], []⟩ W := by
    intro W hb
    refine wpAny_ready (rs := [2, 3]) (by kernel_rfl) (by simp) ?_
    refine AllReady.cons ho2 (fun K hK => ?_) (AllReady.cons ho3 (fun K hK => ?_) AllReady.nil)
    · go_simp
      refine hK _ _ ?_
      exact st0_1_2_ W hb
    · go_simp
      refine hK _ _ ?_
      exact st0_1_3_ W hb
  have st0_2_ : ∀ (W : World) (hb : Below w.heap.size w W), wpAny Tryz.prog .any opsLd14 Q 8 #[true, false, true, false, false, false, false, false, false, false] ⟨#[x0, x1, x2, x3, x4, x5, x6, x7, x8, x9, x10, .pointer (some ⟨bo, 0, none⟩), x12, .slice (some ⟨xb, xo, none⟩) nx xc, .int .i64 (j : Int), x15, x16, x17, x18, x19, x20, x21, x22, x23, x24, x25, x26, x27, x28, x29, x30, x31, x32, x33, x34, x35, x36, x37, x38, x39, x40, x41, x42, x43, x44, x45, x46, x47, x48, x49, x50, x51, x52, x53, x54, x55, x56, x57, x58, x59, x60, x61, x62, x63, x64, x65, x66, x67, x68, x69, x70, x71, x72, x73, .pointer (some ⟨bo, 3, none⟩), x75, .slice (some ⟨xb, xo, none⟩) nx xc, x77, x78, x79, x80, x81, x82, x83], []⟩ W := by
    intro W hb
    refine wpAny_ready (rs := [1, 3]) (by kernel_rfl) (by simp) ?_
    refine AllReady.cons ho1 (fun K hK => ?_) (AllReady.cons ho3 (fun K hK => ?_) AllReady.nil)
    · obtain ⟨y0, y1, y2, y3⟩ := box4 (kept hb k0)
      go_simp
      refine hK _ _ ?_
      exact st0_1_2_ W hb
    · go_simp
      refine hK _ _ ?_
      exact st0_2_3_ W hb
  have st0_3_ : ∀ (W : World) (hb : Below w.heap.size w W), wpAny Tryz.prog .any opsLd14 Q 8 #[true, false, false, true, false, false, false, false, false, false] ⟨#[x0, x1, x2, x3, x4, x5, x6, x7, x8, x9, x10, .pointer (some ⟨bo, 0, none⟩), x12, .slice (some ⟨xb, xo, none⟩) nx xc, .int .i64 (j : Int), x15, x16, x17, x18, x19, x20, x21, x22, x23, x24, x25, x26, x27, x28, x29, x30, x31, x32, x33, x34, x35, x36, x37, x38, x39, x40, x41, x42, x43, x44, x45, x46, x47, x48, x49, x50, x51, x52, x53, x54, x55, x56, x57, x58, x59, x60, x61, x62, x63, x64, x65, x66, x67, x68, x69, x70, x71, x72, x73, .pointer (some ⟨bo, 3, none⟩), x75, x76, .int .i64 (j : Int), x78, x79, x80, x81, x82, x83], []⟩ W := by
    intro W hb
    refine wpAny_ready (rs := [1, 2]) (by kernel_rfl) (by simp) ?_
    refine AllReady.cons ho1 (fun K hK => ?_) (AllReady.cons ho2 (fun K hK => ?_) AllReady.nil)
    · obtain ⟨y0, y1, y2, y3⟩ := box4 (kept hb k0)
      go_simp
      refine hK _ _ ?_
      exact st0_1_3_ W hb
    · go_simp
      refine hK _ _ ?_
      exact st0_2_3_ W hb
  have st2_3_ : ∀ (W : World) (hb : Below w.heap.size w W), wpAny Tryz.prog .any opsLd14 Q 8 #[false, false, true, true, false, false, false, false, false, false] ⟨#[x0, x1, x2, x3, x4, x5, x6, x7, x8, x9, x10, .pointer (some ⟨bo, 0, none⟩), x12, .slice (some ⟨xb, xo, none⟩) nx xc, .int .i64 (j : Int), x15, x16, x17, x18, x19, x20, x21, x22, x23, x24, x25, x26, x27, x28, x29, x30, x31, x32, x33, x34, x35, x36, x37, x38, x39, x40, x41, x42, x43, x44, x45, x46, x47, x48, x49, x50, x51, x52, x53, x54, x55, x56, x57, x58, x59, x60, x61, x62, x63, x64, x65, x66, x67, x68, x69, x70, x71, x72, x73, x74, x75, .slice (some ⟨xb, xo, none⟩) nx xc, .int .i64 (j : Int), x78, x79, x80, x81, x82, x83], []⟩ W := by
    intro W hb
    refine wpAny_ready (rs := [0, 4]) (by kernel_rfl) (by simp) ?_
    refine AllReady.cons ho0 (fun K hK => ?_) (AllReady.cons ho4 (fun K hK => ?_) AllReady.nil)
    · go_simp
      refine hK _ _ ?_
      exact st0_2_3_ W hb
    · go_simp
      refine hK _ _ ?_
      exact st2_3_4_ W hb
  have st0_ : ∀ (W : World) (hb : Below w.heap.size w W), wpAny Tryz.prog .any opsLd14 Q 9 #[true, false, false, false, false, false, false, false, false, false] ⟨#[x0, x1, x2, x3, x4, x5, x6, x7, x8, x9, x10, .pointer (some ⟨bo, 0, none⟩), x12, .slice (some ⟨xb, xo, none⟩) nx xc, .int .i64 (j : Int), x15, x16, x17, x18, x19, x20, x21, x22, x23, x24, x25, x26, x27, x28, x29, x30, x31, x32, x33, x34, x35, x36, x37, x38, x39, x40, x41, x42, x43, x44, x45, x46, x47, x48, x49, x50, x51, x52, x53, x54, x55, x56, x57, x58, x59, x60, x61, x62, x63, x64, x65, x66, x67, x68, x69, x70, x71, x72, x73, .pointer (some ⟨bo, 3, none⟩), x75, x76, x77, x78, x79, x80, x81, x82, x83], []⟩ W := by
    intro W hb
    refine wpAny_ready (rs := [1, 2, 3]) (by kernel_rfl) (by simp) ?_
    refine AllReady.cons ho1 (fun K hK => ?_) (AllReady.cons ho2 (fun K hK => ?_) (AllReady.cons ho3 (fun K hK => ?_) AllReady.nil))
    · obtain ⟨y0, y1, y2, y3⟩ := box4 (kept hb k0)
      go_simp
      refine hK _ _ ?_
      exact st0_1_ W hb
    · go_simp
      refine hK _ _ ?_
      exact st0_2_ W hb
    · go_simp
      refine hK _ _ ?_
      exact st0_3_ W hb
  have st2_ : ∀ (W : World) (hb : Below w.heap.size w W), wpAny Tryz.prog .any opsLd14 Q 9 #[false, false, true, false, false, false, false, false, false, false] ⟨#[x0, x1, x2, x3, x4, x5, x6, x7, x8, x9, x10, .pointer (some ⟨bo, 0, none⟩), x12, .slice (some ⟨xb, xo, none⟩) nx xc, .int .i64 (j : Int), x15, x16, x17, x18, x19, x20, x21, x22, x23, x24, x25, x26, x27, x28, x29, x30, x31, x32, x33, x34, x35, x36, x37, x38, x39, x40, x41, x42, x43, x44, x45, x46, x47, x48, x49, x50, x51, x52, x53, x54, x55, x56, x57, x58, x59, x60, x61, x62, x63, x64, x65, x66, x67, x68, x69, x70, x71, x72, x73, x74, x75, .slice (some ⟨xb, xo, none⟩) nx xc, x77, x78, x79, x80, x81, x82, x83], []⟩ W := by
    intro W hb
    refine wpAny_ready (rs := [0, 3]) (by kernel_rfl) (by simp) ?_
    refine AllReady.cons ho0 (fun K hK => ?_) (AllReady.cons ho3 (fun K hK => ?_) AllReady.nil)
    · go_simp
      refine hK _ _ ?_
      exact st0_2_ W hb
    · go_simp
      refine hK _ _ ?_
      exact st2_3_ W hb
  have st3_ : ∀ (W : World) (hb : Below w.heap.size w W), wpAny Tryz.prog .any opsLd14 Q 9 #[false, false, false, true, false, false, false, false, false, false] ⟨#[x0, x1, x2, x3, x4, x5, x6, x7, x8, x9, x10, .pointer (some ⟨bo, 0, none⟩), x12, .slice (some ⟨xb, xo, none⟩) nx xc, .int .i64 (j : Int), x15, x16, x17, x18, x19, x20, x21, x22, x23, x24, x25, x26, x27, x28, x29, x30, x31, x32, x33, x34, x35, x36, x37, x38, x39, x40, x41, x42, x43, x44, x45, x46, x47, x48, x49, x50, x51, x52, x53, x54, x55, x56, x57, x58, x59, x60, x61, x62, x63, x64, x65, x66, x67, x68, x69, x70, x71, x72, x73, x74, x75, x76, .int .i64 (j : Int), x78, x79, x80, x81, x82, x83], []⟩ W := by
    intro W hb
    refine wpAny_ready (rs := [0, 2]) (by kernel_rfl) (by simp) ?_
    refine AllReady.cons ho0 (fun K hK => ?_) (AllReady.cons ho2 (fun K hK => ?_) AllReady.nil)
    · go_simp
      refine hK _ _ ?_
      exact st0_3_ W hb
    · go_simp
      refine hK _ _ ?_
      exact st2_3_ W hb
  have st_ : ∀ (W : World) (hb : Below w.heap.size w W), wpAny Tryz.prog .any opsLd14 Q 10 #[false, false, false, false, false, false, false, false, false, false] ⟨#[x0, x1, x2, x3, x4, x5, x6, x7, x8, x9, x10, .pointer (some ⟨bo, 0, none⟩), x12, .slice (some ⟨xb, xo, none⟩) nx xc, .int .i64 (j : Int), x15, x16, x17, x18, x19, x20, x21, x22, x23, x24, x25, x26, x27, x28, x29, x30, x31, x32, x33, x34, x35, x36, x37, x38, x39, x40, x41, x42, x43, x44, x45, x46, x47, x48, x49, x50, x51, x52, x53, x54, x55, x56, x57, x58, x59, x60, x61, x62, x63, x64, x65, x66, x67, x68, x69, x70, x71, x72, x73, x74, x75, x76, x77, x78, x79, x80, x81, x82, x83], []⟩ W := by
    intro W hb
    refine wpAny_ready (rs := [0, 2, 3]) (by kernel_rfl) (by simp) ?_
    refine AllReady.cons ho0 (fun K hK => ?_) (AllReady.cons ho2 (fun K hK => ?_) (AllReady.cons ho3 (fun K hK => ?_) AllReady.nil))
    · go_simp
      refine hK _ _ ?_
      exact st0_ W hb
    · go_simp
      refine hK _ _ ?_
      exact st2_ W hb
    · go_simp
      refine hK _ _ ?_
      exact st3_ W hb
  exact st_ _ (below_drewN (Below.refl _ w) 1)
end Go.Proofs.YtiiiegflobihjaaGreat

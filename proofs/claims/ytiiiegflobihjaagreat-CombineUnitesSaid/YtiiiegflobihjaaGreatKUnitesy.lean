/- Texts of this claim, put together: CX2 DJ DE CQ1. -/
import Derived.Test.YtiiiegflobihjaaGreatKUnitesu
import Derived.Test.YtiiiegflobihjaaGreatKUnitesw
import Derived.Test.YtiiiegflobihjaaGreatKUnitesx
import Derived.Test.YtiiiegflobihjaaGreatKUnitest
import Derived.Test.YtiiiegflobihjaaGreatKUnitesq
import Derived.Test.YtiiiegflobihjaaGreatKUnitesv
import Derived.Deep.RegionHeld3
import Derived.Deep.DeepCutAuto

/- combine.And at well-formed adversaries (under way). -/
namespace Go.Proofs.YtiiiegflobihjaaGreat
open Go.RowKit

theorem kept {w w' : World} {k : Nat} {o : Obj} (hb : Below w.heap.size w w') (h : w.heap[k]? = some o) : w'.heap[k]? = some o := (hb.block _ (Array.getElem?_eq_some_iff.1 h).1).trans h
/-- The second exploration of And, and what And hands back. -/
def lvR (ss : List (List (List Int))) : Option (List (List (List Int))) := (exG (lvSt ss (lvA ss)) 300 0 [nd0] []).getD none
def AndOut (w : World) (n : Int) (R : Option (List (List (List Int)))) (e : Ending) (w' : World) : Prop :=
  match R with
  | none => BdOut w n none e w'
  | some ss => if (lvA ss).getD 0 false = true then BdOut w n (lvR ss) e w' else e = .returned (.tuple #[.agg #[.int .i64 0, .slice none 0 0], .int .i64 16]) ∧ Below w.heap.size w w'
theorem AndOut.no {w w' : World} {n : Int} {ss : List (List (List Int))} (h : (lvA ss).getD 0 false = false) (hb : Below w.heap.size w w') : AndOut w n (some ss) (.returned (.tuple #[.agg #[.int .i64 0, .slice none 0 0], .int .i64 16])) w' := by
  show (if (lvA ss).getD 0 false = true then _ else _)
  rw [if_neg (by rw [h]; decide)]
  exact ⟨rfl, hb⟩
theorem AndOut.yes {w w' : World} {n : Int} {ss : List (List (List Int))} {e : Ending} (h : (lvA ss).getD 0 false = true) (hb : BdOut w n (lvR ss) e w') : AndOut w n (some ss) e w' := by
  show (if (lvA ss).getD 0 false = true then _ else _)
  rw [if_pos h]
  exact hb
set_option maxRecDepth 100000 in
set_option maxHeartbeats 1600000 in
theorem andGood {w : World} {u v : Value} {m n : Int} {xs ys : List (List (List Int))} (hx : AdvV w u m xs) (hy : AdvV w v n ys) (hxm : movesN xs ≤ 1000000000) (hym : movesN ys ≤ 1000000000) (h0 : eqErr m n xs ys = 0) (wA : AdOK xs) (wB : AdOK ys) :
    Calls Tryz.prog 13 #[u, v] w (AndOut w m (prA true xs ys)) := by
  obtain ⟨xa, xc, hu⟩ := advShape' hx
  obtain ⟨ya, yc, hv⟩ := advShape' hy
  subst hu hv
  obtain ⟨W1, hW1⟩ : ∃ W1, W1 = ((w.alloc (.cells #[.int .i64 m, .slice xa xs.length xc] 24)).alloc (.cells #[.int .i64 n, .slice ya ys.length yc] 24)).alloc (.cells #[.int .i64 0, .slice none 0 0] 24) := ⟨_, rfl⟩
  have hb1 : Below w.heap.size w W1 := by rw [hW1]; exact (((Below.refl _ w).alloc (Nat.le_refl _) _).alloc (by simp) _).alloc (by first | (simp; done) | (simp; omega)) _
  have kX : W1.heap[w.heap.size]? = some (.cells #[.int .i64 m, .slice xa xs.length xc] 24) := by
    rw [hW1]; exact (Below.heap_alloc _ _ _ (by first | (simp; done) | (simp; omega))).trans ((Below.heap_alloc _ _ _ (by simp)).trans (heap_alloc_new w _))
  have kY : W1.heap[w.heap.size + 1]? = some (.cells #[.int .i64 n, .slice ya ys.length yc] 24) := by
    rw [hW1]
    have := heap_alloc_new (w.alloc (.cells #[.int .i64 m, .slice xa xs.length xc] 24)) (.cells #[.int .i64 n, .slice ya ys.length yc] 24)
    rw [World.size_alloc] at this
    exact (Below.heap_alloc _ _ _ (by simp)).trans this
  have kR : W1.heap[w.heap.size + 1 + 1]? = some (.cells #[.int .i64 0, .slice none 0 0] 24) := by
    rw [hW1]
    have := heap_alloc_new ((w.alloc (.cells #[.int .i64 m, .slice xa xs.length xc] 24)).alloc (.cells #[.int .i64 n, .slice ya ys.length yc] 24)) (.cells #[.int .i64 0, .slice none 0 0] 24)
    rwa [World.size_alloc, World.size_alloc] at this
  have HC := Lib.hid (checkC (hx.keep hb1) (hy.keep hb1) hxm hym)
  rw [h0] at HC
  have HX := Lib.hid (fun W (hb : Below W1.heap.size W1 W) => (hx.keep hb1).keep hb)
  have HY := Lib.hid (fun W (hb : Below W1.heap.size W1 W) => (hy.keep hb1).keep hb)
  have hK := Lib.hid (fun W (hb : Below W1.heap.size W1 W) => And.intro (box2 ((hb.block _ (Array.getElem?_eq_some_iff.1 kX).1).trans kX)) (And.intro (box2 ((hb.block _ (Array.getElem?_eq_some_iff.1 kY).1).trans kY)) ((hb.block _ (Array.getElem?_eq_some_iff.1 kR).1).trans kR)))
  have hR := prA_eq true xs ys
  obtain ⟨R, hRR⟩ : ∃ R, prA true xs ys = R := ⟨_, rfl⟩
  rw [hRR] at hR ⊢
  replace hR := Lib.hid hR
  replace hRR := Lib.hid hRR
  clear hx hy kX kY kR h0
  go_enter Tryz.func13, Tryz.ntmps13
  go_wp2_with fail
  rw [← hW1]
  replace hW1 := Lib.hid hW1
  refine HC.out.mono ?_
  rintro e W2 ⟨rfl, hb2⟩
  obtain ⟨⟨a0, a1⟩, ⟨b0, b1⟩, _⟩ := hK.out W2 hb2
  go_wp2_with fail
  clear a0 a1 b0 b1
  refine pairedC.mono ?_
  rintro e W3 ⟨bF, bA, bB, bK, rfl, kF, kK, kA, kB, hb3⟩
  have B3 := btt hb2 hb3
  have HB : Calls Tryz.prog 32 #[.agg #[.int .i64 m, .int .i64 0, .int .i64 0, .string ⟨#[]⟩, .func (.func 64) #[] #[.pointer (some ⟨bF, 0, none⟩), .pointer (some ⟨bA, 0, none⟩), .pointer (some ⟨bB, 0, none⟩), .pointer (some ⟨bK, 0, none⟩)]]] W3 (BdOut W3 m R) :=
    build1 (fs := nd0) (step := prSt true xs ys) (P := PrP xs ys) (fun W x hb hP => pairedMvAnd ((hb.block _ (Array.getElem?_eq_some_iff.1 kF).1).trans kF) ((hb.block _ (Array.getElem?_eq_some_iff.1 kK).1).trans kK) ((hb.block _ (Array.getElem?_eq_some_iff.1 kA).1).trans kA) ((hb.block _ (Array.getElem?_eq_some_iff.1 kB).1).trans kB) (HX.out W (btt B3 hb)) (HY.out W (btt B3 hb)) wA wB hP)
      (PrP.first wA wB) (fun x hP => (prSt_ok wA wB hP).1) (fun x hP => hP.sm wA wB) (fun x hP => Nat.le_trans (prSt_ok wA wB hP).2 (by decide)) hR.out
  replace HB := Lib.hid HB
  clear kF kK kA kB
  go_wp2_with fail
  refine HB.out.mono ?_
  intro e W4 hO
  have hbw3 := bt hb1 B3 hb1.size
  cases R with
  | none =>
    obtain ⟨rfl, hb4⟩ := hO
    have B4 := btt B3 hb4
    obtain ⟨_, _, kR4⟩ := hK.out W4 B4
    obtain ⟨W5, hW5⟩ : ∃ W5, W5 = W4.alloc (.cells #[.int .i64 0, .slice none 0 0] 24) := ⟨_, rfl⟩
    have hb5 : Below W4.heap.size W4 W5 := by rw [hW5]; exact (Below.refl _ _).alloc (Nat.le_refl _) _
    have kR5 := (hb5.block _ (Array.getElem?_eq_some_iff.1 kR4).1).trans kR4
    obtain ⟨y0, y1⟩ := box2 kR5
    have yf0 := row_free kR5 0
    have yf1 := row_free kR5 1
    have z0 : W5.setCell ⟨w.heap.size + 1 + 1, 0, none⟩ (.int .i64 0) = W5 := setSame y0
    have z1 : W5.setCell ⟨w.heap.size + 1 + 1, 1, none⟩ (.slice none 0 0) = W5 := setSame y1
    have hbf := bt (bt hbw3 hb4 hbw3.size) hb5 (bt hbw3 hb4 hbw3.size).size
    clear kR4 kR5 hb5
    subst hW5
    go_wp2
    refine bodyPost_ret (v := .tuple #[.agg #[.int .i64 0, .slice none 0 0], .int .i64 17]) (by simp [results, Tryz.results13, go_sem, y0, y1]) rfl ?_
    exact BdOut.no (n := m) hbf
  | some ss =>
    obtain ⟨uo, rfl, hA, hb4⟩ := hO
    have B4 := btt B3 hb4
    have wS := prA_Ad wA wB hRR.out
    obtain ⟨sv, rfl, hrow, hl1, hl2⟩ := id hA
    obtain ⟨sva, svc, hsv⟩ := hrow.shape
    subst hsv
    obtain ⟨W5, hW5⟩ : ∃ W5, W5 = W4.alloc (.cells #[.int .i64 m, .slice sva ss.length svc] 24) := ⟨_, rfl⟩
    have hb5 : Below W4.heap.size W4 W5 := by rw [hW5]; exact (Below.refl _ _).alloc (Nat.le_refl _) _
    have k7 : W5.heap[W4.heap.size]? = some (.cells #[.int .i64 m, .slice sva ss.length svc] 24) := by rw [hW5]; exact heap_alloc_new _ _
    have hA5 := hA.adv.keep hb5
    have HE := Lib.hid (endlessC hA5 wS)
    go_wp2_with fail
    rw [← hW5]
    replace hW5 := Lib.hid hW5
    refine HE.out.mono ?_
    rintro e W6 ⟨ul, rfl, hOl, hb6⟩
    have hb46 := btt hb5 hb6
    have B6 := bt B4 hb46 B4.size
    obtain ⟨g, cap, rfl, hgB, hgl⟩ := hOl.form wS.pos
    obtain ⟨W7, hW7⟩ : ∃ W7, W7 = W6.alloc (.cells #[.slice (some ⟨g, 0, none⟩) ss.length cap] 71) := ⟨_, rfl⟩
    have hb7 : Below W6.heap.size W6 W7 := by rw [hW7]; exact (Below.refl _ _).alloc (Nat.le_refl _) _
    have k9 : W7.heap[W6.heap.size]? = some (.cells #[.slice (some ⟨g, 0, none⟩) ss.length cap] 71) := by rw [hW7]; exact heap_alloc_new _ _
    have hOl7 := hOl.keep hb7
    have l0 := hOl7.cell (j := 0) wS.pos
    have b0 : W7.cell? ⟨W6.heap.size, 0, none⟩ = some (.slice (some ⟨g, 0, none⟩) ss.length cap) := box_cell (j := 0) k9 rfl
    have B7 := btt B6 hb7
    obtain ⟨⟨a0, a1⟩, _, kR7⟩ := hK.out W7 B7
    have hb57 := btt hb6 hb7
    have k7' := (hb57.block _ (Array.getElem?_eq_some_iff.1 k7).1).trans k7
    have hA7 := (hA.adv.keep hb5).keep hb57
    have hbw7 := bt hb1 B7 hb1.size
    obtain ⟨q, hq⟩ : ∃ q, (lvA ss).getD 0 false = q := ⟨_, rfl⟩
    have hpos : (0 : Int) < (ss.length : Int) := by have := wS.pos; omega
    rw [hq] at l0
    obtain ⟨y0, y1⟩ := box2 kR7
    have yf := row_free kR7
    rw [hW7] at b0 l0
    cases q
    · have z0 : W7.setCell ⟨w.heap.size + 1 + 1, 0, none⟩ (.int .i64 0) = W7 := setSame y0
      have z1 : W7.setCell ⟨w.heap.size + 1 + 1, 1, none⟩ (.slice none 0 0) = W7 := setSame y1
      rw [hW7] at y0 y1 yf z0 z1
      have yf0 := yf 0
      have yf1 := yf 1
      clear a0 a1 kR7 k9 k7' hOl7 hOl hA7
      replace hq := Lib.hid hq
      replace hsh := Lib.hid hb46
      clear hb46
      go_wp2
      try rw [← hW7]
      try rw [← hW7] at y0 y1
      refine bodyPost_ret (v := .tuple #[.agg #[.int .i64 0, .slice none 0 0], .int .i64 16]) (by simp [results, Tryz.results13, go_sem, y0, y1]) rfl ?_
      exact AndOut.no hq.out hbw7
    · obtain ⟨h256, h4096⟩ := prA_lim hRR.out
      obtain ⟨S, hS⟩ := lv_some wS h256 h4096 (lvA ss)
      have hRv : lvR ss = some S := by rw [lvR, hS]; rfl
      have HB2 : Calls Tryz.prog 32 #[.agg #[.int .i64 m, .int .i64 0, .int .i64 0, .string ⟨#[]⟩, .func (.func 37) #[] #[.pointer (some ⟨W4.heap.size, 0, none⟩), .pointer (some ⟨W6.heap.size, 0, none⟩)]]] W7 (BdOut W7 m (some S)) :=
        build2 (fs := nd0) (step := lvSt ss (lvA ss)) (P := PL ss) (fun W x hb hP => by
            obtain ⟨x0, x1, x2⟩ := x
            obtain ⟨h1, h2, h3⟩ := hP
            simp only [Prod.mk.injEq] at h1
            obtain ⟨rfl, rfl⟩ := h1
            obtain ⟨k, rfl⟩ : ∃ k : Nat, x0 = (k : Int) := ⟨x0.toNat, by simp only at h2; omega⟩
            exact andMv (kept hb k7') (kept hb k9) (hA7.keep hb) (hOl7.keep hb) wS rfl (by simpa using h3))
          (PL.first wS) (fun x hP => (lvSt_ok wS _ hP).1) (fun x hP => hP.sm wS) (fun x hP => Nat.le_trans (lvSt_ok wS _ hP).2 (by rw [getD_eq hP.2.2]; exact Nat.le_trans (wS.st _ (List.getElem_mem hP.2.2)).1 (by decide))) hS
      replace HB2 := Lib.hid HB2
      replace hRv := Lib.hid hRv
      rw [hW7] at a0
      clear y0 y1 yf kR7 k9 k7' hOl7 hOl hA7 a1
      go_wp2_with fail
      try rw [← hW7]
      refine HB2.out.mono ?_
      rintro e W8 ⟨uo, rfl, hA8, hb8⟩
      have B8 := btt B7 hb8
      obtain ⟨_, _, kR8⟩ := hK.out W8 B8
      have hA' := hA8
      obtain ⟨sv, rfl, hrow8, hl8, hl9⟩ := hA'
      obtain ⟨sva8, svc8, hsv8⟩ := hrow8.shape
      subst hsv8
      obtain ⟨y0, y1⟩ := box2 kR8
      have yf := row_free kR8
      have hr1 := heap_setCell_same W8 (w.heap.size + 1 + 1) 0 _ _ (.int .i64 m) kR8
      have hr2 := two_setCell (u := .slice sva8 S.length svc8) hr1
      have hx2 := (KeepX.setCell (p := ⟨w.heap.size + 1 + 1, 0, none⟩) kR8 (.int .i64 m)).trans (KeepX.setCell (p := ⟨w.heap.size + 1 + 1, 1, none⟩) hr1 (.slice sva8 S.length svc8))
      have hbw8 := bt hbw7 hb8 hbw7.size
      have hbe := (hbw8.setCell (p := ⟨w.heap.size + 1 + 1, 0, none⟩) (by show w.heap.size ≤ w.heap.size + 1 + 1; omega) (.int .i64 m)).setCell (p := ⟨w.heap.size + 1 + 1, 1, none⟩) (by show w.heap.size ≤ w.heap.size + 1 + 1; omega) (.slice sva8 S.length svc8)
      obtain ⟨z0, z1⟩ := box2 hr2
      have hfin := hA8.other hx2
      replace hfin := Lib.hid hfin
      clear hr1 hr2 hx2 hrow8 hA8 kR8
      go_wp2
      obtain ⟨W9, hW9⟩ : ∃ W9, W9 = (W8.setCell ⟨w.heap.size + 1 + 1, 0, none⟩ (.int .i64 m)).setCell ⟨w.heap.size + 1 + 1, 1, none⟩ (.slice sva8 S.length svc8) := ⟨_, rfl⟩
      rw [← hW9] at z0 z1 hfin hbe ⊢
      clear hW9
      refine bodyPost_ret (v := .tuple #[.agg #[.int .i64 m, .slice sva8 S.length svc8], .int .i64 0]) (by simp [results, Tryz.results13, go_sem, z0, z1]) rfl ?_
      refine AndOut.yes hq ?_
      rw [hRv.out]
      exact BdOut.yes hfin.out hbe
end Go.Proofs.YtiiiegflobihjaaGreat

/- combine.Then. -/
namespace Go.Proofs.YtiiiegflobihjaaGreat
open Go.RowKit

/-- What lies behind the arguments of Then. -/
theorem thBox {w W1 : World} {m n k : Int} {aa ba : Option Addr} {al bl ac bc : Nat} (hW1 : W1 = (((w.alloc (.cells #[.int .i64 m, .slice aa al ac] 24)).alloc (.cells #[.int .i64 k] 3)).alloc (.cells #[.int .i64 n, .slice ba bl bc] 24)).alloc (.cells #[.int .i64 0, .slice none 0 0] 24)) :
    Below w.heap.size w W1 ∧ W1.heap[w.heap.size]? = some (.cells #[.int .i64 m, .slice aa al ac] 24) ∧ W1.heap[w.heap.size + 1]? = some (.cells #[.int .i64 k] 3) ∧ W1.heap[w.heap.size + 1 + 1]? = some (.cells #[.int .i64 n, .slice ba bl bc] 24) ∧
      W1.heap[w.heap.size + 1 + 1 + 1]? = some (.cells #[.int .i64 0, .slice none 0 0] 24) ∧ W1.heap.size = w.heap.size + 1 + 1 + 1 + 1 := by
  obtain ⟨Wa, hWa⟩ : ∃ Wa, Wa = w.alloc (.cells #[.int .i64 m, .slice aa al ac] 24) := ⟨_, rfl⟩
  obtain ⟨Wb, hWb⟩ : ∃ Wb, Wb = Wa.alloc (.cells #[.int .i64 k] 3) := ⟨_, rfl⟩
  obtain ⟨Wc, hWc⟩ : ∃ Wc, Wc = Wb.alloc (.cells #[.int .i64 n, .slice ba bl bc] 24) := ⟨_, rfl⟩
  have hza : Wa.heap.size = w.heap.size + 1 := by rw [hWa, World.size_alloc]
  have hzb : Wb.heap.size = w.heap.size + 1 + 1 := by rw [hWb, World.size_alloc, hza]
  have hzc : Wc.heap.size = w.heap.size + 1 + 1 + 1 := by rw [hWc, World.size_alloc, hzb]
  rw [← hWa, ← hWb, ← hWc] at hW1
  have ha : Below w.heap.size w Wa := by rw [hWa]; exact (Below.refl _ _).alloc (Nat.le_refl _) _
  have hb : Below Wa.heap.size Wa Wb := by rw [hWb]; exact (Below.refl _ _).alloc (Nat.le_refl _) _
  have hc : Below Wb.heap.size Wb Wc := by rw [hWc]; exact (Below.refl _ _).alloc (Nat.le_refl _) _
  have hd : Below Wc.heap.size Wc W1 := by rw [hW1]; exact (Below.refl _ _).alloc (Nat.le_refl _) _
  have hcd := btt hc hd
  have hbd := btt hb hcd
  refine ⟨bt ha hbd ha.size, kept hbd (by rw [hWa]; exact heap_alloc_new w _), kept hcd (by rw [hWb, ← hza]; exact heap_alloc_new Wa _), kept hd (by rw [hWc, ← hzb]; exact heap_alloc_new Wb _), by rw [hW1, ← hzc]; exact heap_alloc_new Wc _, by rw [hW1, World.size_alloc, hzc]⟩

theorem boxSet123 {w : World} {g : Nat} {x0 x1 x2 x3 x4 u1 u2 u3 : Value} {t : TypeId} (h : w.heap[g]? = some (.cells #[x0, x1, x2, x3, x4] t)) : (((w.setCell ⟨g, 1, none⟩ u1).setCell ⟨g, 2, none⟩ u2).setCell ⟨g, 3, none⟩ u3).heap[g]? = some (.cells #[x0, u1, u2, u3, x4] t) := by
  have h1 : (w.setCell ⟨g, 1, none⟩ u1).heap[g]? = some (.cells #[x0, u1, x2, x3, x4] t) := heap_setCell_same _ g 1 _ t u1 h
  have h2 : ((w.setCell ⟨g, 1, none⟩ u1).setCell ⟨g, 2, none⟩ u2).heap[g]? = some (.cells #[x0, u1, u2, x3, x4] t) := heap_setCell_same _ g 2 _ t u2 h1
  exact heap_setCell_same _ g 3 _ t u3 h2
theorem box5 {w : World} {b : Nat} {u0 u1 u2 u3 u4 : Value} {t : TypeId} (h : w.heap[b]? = some (.cells #[u0, u1, u2, u3, u4] t)) : w.cell? ⟨b, 0, none⟩ = some u0 ∧ w.cell? ⟨b, 1, none⟩ = some u1 ∧ w.cell? ⟨b, 2, none⟩ = some u2 ∧ w.cell? ⟨b, 3, none⟩ = some u3 ∧ w.cell? ⟨b, 4, none⟩ = some u4 := ⟨box_cell h rfl, box_cell h rfl, box_cell h rfl, box_cell h rfl, box_cell h rfl⟩
set_option maxRecDepth 100000 in
set_option maxHeartbeats 1600000 in
theorem thenGood {w : World} {u v : Value} {m n k : Int} {xs ys : List (List (List Int))} (hx : AdvV w u m xs) (hy : AdvV w v n ys) (hxm : movesN xs ≤ 1000000000) (hym : movesN ys ≤ 1000000000) (h0 : eqErr m n xs ys = 0) (sA : AdS xs) (sB : AdS ys) (hk : 0 ≤ k ∧ k ≤ 6) :
    Calls Tryz.prog 15 #[u, .int .i64 k, v] w (BdOut w m (thA xs ys k)) := by
  obtain ⟨xa, xc, hu⟩ := advShape' hx
  obtain ⟨ya, yc, hv⟩ := advShape' hy
  subst hu hv
  obtain ⟨W1, hW1⟩ : ∃ W1, W1 = (((w.alloc (.cells #[.int .i64 m, .slice xa xs.length xc] 24)).alloc (.cells #[.int .i64 k] 3)).alloc (.cells #[.int .i64 n, .slice ya ys.length yc] 24)).alloc (.cells #[.int .i64 0, .slice none 0 0] 24) := ⟨_, rfl⟩
  obtain ⟨hb1, kA, kK, kB, kR, hz1⟩ := thBox hW1
  have HC := Lib.hid (checkC (hx.keep hb1) (hy.keep hb1) hxm hym)
  rw [h0] at HC
  obtain ⟨a0, a1⟩ := box2 kA
  obtain ⟨b0, b1⟩ := box2 kB
  rw [hW1] at a0 a1 b0 b1
  have HX := Lib.hid (fun W (hb : Below W1.heap.size W1 W) => (hx.keep hb1).keep hb)
  have HY := Lib.hid (fun W (hb : Below W1.heap.size W1 W) => (hy.keep hb1).keep hb)
  have hK := Lib.hid (fun W (hb : Below W1.heap.size W1 W) => And.intro (kept hb kA) (And.intro (kept hb kK) (And.intro (kept hb kB) (kept hb kR))))
  have hR := thA_eq xs ys k
  obtain ⟨R, hRR⟩ : ∃ R, thA xs ys k = R := ⟨_, rfl⟩
  rw [hRR] at hR ⊢
  replace hR := Lib.hid hR
  replace hRR := Lib.hid hRR
  replace hz1 := Lib.hid hz1
  clear hx hy kA kK kB kR h0
  go_enter Tryz.func15, Tryz.ntmps15
  go_wp2_with fail
  rw [← hW1]
  clear a0 a1 b0 b1
  replace hW1 := Lib.hid hW1
  refine HC.out.mono ?_
  rintro e W2 ⟨rfl, hb2⟩
  obtain ⟨kA2, kK2, _, _⟩ := hK.out W2 hb2
  have p0 : W2.cell? ⟨w.heap.size + 1, 0, none⟩ = some (.int .i64 k) := box_cell (j := 0) kK2 rfl
  obtain ⟨W3, hW3⟩ : ∃ W3, W3 = W2.alloc (.cells #[.func (.func 40) #[] #[.pointer (some ⟨w.heap.size + 1, 0, none⟩)]] 79) := ⟨_, rfl⟩
  have hb3 : Below W2.heap.size W2 W3 := by rw [hW3]; exact (Below.refl _ _).alloc (Nat.le_refl _) _
  have kG3 : W3.heap[W2.heap.size]? = some (.cells #[.func (.func 40) #[] #[.pointer (some ⟨w.heap.size + 1, 0, none⟩)]] 79) := by rw [hW3]; exact heap_alloc_new _ _
  have hz3 : W3.heap.size = W2.heap.size + 1 := by rw [hW3, World.size_alloc]
  have hk0 := hk.1
  have hk6 := hk.2
  have a0 : W3.cell? ⟨w.heap.size, 0, none⟩ = some (.int .i64 m) := box_cell (j := 0) (kept hb3 kA2) rfl
  obtain ⟨W4, hW4⟩ : ∃ W4, W4 = W3.alloc (.cells #[.int .i64 m, .int .i64 0, .int .i64 0, .string ⟨#[]⟩, .func (.func 42) #[] #[.pointer (some ⟨w.heap.size + 1 + 1, 0, none⟩), .pointer (some ⟨w.heap.size + 1, 0, none⟩), .pointer (some ⟨w.heap.size, 0, none⟩), .pointer (some ⟨W2.heap.size, 0, none⟩)]] 65) := ⟨_, rfl⟩
  have hb4 : Below W3.heap.size W3 W4 := by rw [hW4]; exact (Below.refl _ _).alloc (Nat.le_refl _) _
  have kB4 : W4.heap[W2.heap.size + 1]? = some (.cells #[.int .i64 m, .int .i64 0, .int .i64 0, .string ⟨#[]⟩, .func (.func 42) #[] #[.pointer (some ⟨w.heap.size + 1 + 1, 0, none⟩), .pointer (some ⟨w.heap.size + 1, 0, none⟩), .pointer (some ⟨w.heap.size, 0, none⟩), .pointer (some ⟨W2.heap.size, 0, none⟩)]] 65) := by rw [hW4, ← hz3]; exact heap_alloc_new _ _
  have HB : ∀ W, Below W3.heap.size W3 W → Calls Tryz.prog 32 #[.agg #[.int .i64 m, .int .i64 (thFs k).1, .int .i64 (thFs k).2.1, .string (bsN (thFs k).2.2), .func (.func 42) #[] #[.pointer (some ⟨w.heap.size + 1 + 1, 0, none⟩), .pointer (some ⟨w.heap.size + 1, 0, none⟩), .pointer (some ⟨w.heap.size, 0, none⟩), .pointer (some ⟨W2.heap.size, 0, none⟩)]]] W (BdOut W m R) := fun W hW =>
    build3 (fs := thFs k) (step := thSt xs ys k) (P := PT xs ys k) (fun W' x hb hP => by
        have B3 := btt hW hb
        have B1 := btt (btt hb2 hb3) B3
        obtain ⟨qA, qK, qB, _⟩ := hK.out W' B1
        obtain ⟨x0, x1, x2⟩ := x
        rcases hP with ⟨h1, h2, h3⟩ | ⟨h1, h2, h3, h4, h5⟩
        · simp only at h1 h2 h3
          subst h1
          have hst : thSt xs ys k (x0, x1, []) = (xs.getD x1.toNat []).map (thF k (x0, x1, [])) := by rw [thSt, if_pos rfl]
          rw [hst]
          exact thenMvA qA qK (kept B3 kG3) (HX.out W' B1) sA (by omega) h2 h3
        · have hl := PT.setLen (az := xs) (k := k) sB (.inr ⟨h1, h2, h3, h4, h5⟩)
          simp only at h1 h2 h3 h4 h5 hl
          subst h2
          have hst : thSt xs ys x0 (x0, x1, x2) = thSq ys x0 x1 x2 := by rw [thSt, if_neg h1]
          rw [hst]
          exact thenMvB qB qK (HY.out W' B1) sB h3 h1 hl h5)
      (PT.first sA sB hk0) (fun x hP => (thSt_ok sA sB hP).1) (fun x hP => hP.sm sA sB ⟨hk0, by omega⟩) (fun x hP => Nat.le_trans (thSt_ok sA sB hP).2 (by decide)) hR.out
  replace HB := Lib.hid HB
  have g3 : W4.cell? ⟨W2.heap.size, 0, none⟩ = some (.func (.func 40) #[] #[.pointer (some ⟨w.heap.size + 1, 0, none⟩)]) := box_cell (j := 0) (kept hb4 kG3) rfl
  have hb24 := btt hb3 hb4
  have p4 : W4.cell? ⟨w.heap.size + 1, 0, none⟩ = some (.int .i64 k) := box_cell (j := 0) (kept hb24 kK2) rfl
  have kK4 := kept hb24 kK2
  have hw24 := bt hb1 (btt hb2 hb24) hb1.size
  by_cases h0 : k = 0
  · subst h0
    have HG := Lib.hid (beginC (f := 0) kK4)
    have hAf := Lib.hid (fun W (hb : Below W4.heap.size W4 W) => And.intro (kept hb kB4) (btt hb4 hb))
    rw [hW3] at a0
    rw [hW4, hW3] at g3 p4
    replace hz3 := Lib.hid hz3
    clear kA2 kK2 kG3 kB4 kK4
    go_wp2_with fail
    rw [← hW3, ← hW4]
    refine HG.out.mono ?_
    rintro e W5 ⟨rfl, hb5⟩
    obtain ⟨kB5, B35⟩ := hAf.out W5 hb5
    have kN6 := boxSet123 (u1 := .int .i64 0) (u2 := .int .i64 0) (u3 := .string (bsN [0])) kB5
    have B36 := ((B35.setCell (p := ⟨W2.heap.size + 1, 1, none⟩) (by show W3.heap.size ≤ W2.heap.size + 1; rw [hz3.out]; omega) (.int .i64 0)).setCell (p := ⟨W2.heap.size + 1, 2, none⟩) (by show W3.heap.size ≤ W2.heap.size + 1; rw [hz3.out]; omega) (.int .i64 0)).setCell (p := ⟨W2.heap.size + 1, 3, none⟩) (by show W3.heap.size ≤ W2.heap.size + 1; rw [hz3.out]; omega) (.string (bsN [0]))
    obtain ⟨y0, y1, y2, y3, y4⟩ := box5 kB5
    have yf := row_free kB5
    obtain ⟨W6, hW6⟩ : ∃ W6, W6 = ((W5.setCell ⟨W2.heap.size + 1, 1, none⟩ (.int .i64 0)).setCell ⟨W2.heap.size + 1, 2, none⟩ (.int .i64 0)).setCell ⟨W2.heap.size + 1, 3, none⟩ (.string (bsN [0])) := ⟨_, rfl⟩
    rw [← hW6] at kN6 B36
    obtain ⟨z0, z1, z2, z3, z4⟩ := box5 kN6
    have B16 := btt (btt hb2 hb3) B36
    obtain ⟨_, _, _, kR6⟩ := hK.out W6 B16
    have hbw6 := bt hb1 B16 hb1.size
    have HBB := HB.out W6 B36
    have hfs : thFs 0 = (0, 0, [0]) := rfl
    rw [hfs] at HBB
    replace HBB := Lib.hid HBB
    rw [hW6] at z0 z1 z2 z3 z4
    clear kB5 kN6
    go_wp2_with fail
    rw [← hW6]
    replace HBB := HBB.out
    refine HBB.mono ?_
    intro e W7 hO
    have hB7 := hbw6
    cases R with
    | none =>
      obtain ⟨rfl, hb7⟩ := hO
      have kR7 := kept hb7 kR6
      have hbf := bt hbw6 hb7 hbw6.size
      obtain ⟨y0, y1⟩ := box2 kR7
      have yf0 := row_free kR7 0
      have yf1 := row_free kR7 1
      have z0 : W7.setCell ⟨w.heap.size + 1 + 1 + 1, 0, none⟩ (.int .i64 0) = W7 := setSame y0
      have z1 : W7.setCell ⟨w.heap.size + 1 + 1 + 1, 1, none⟩ (.slice none 0 0) = W7 := setSame y1
      clear kR7 kR6
      go_wp2
      refine bodyPost_ret (v := .tuple #[.agg #[.int .i64 0, .slice none 0 0], .int .i64 17]) (by simp [results, Tryz.results15, go_sem, y0, y1]) rfl ?_
      exact BdOut.no (n := m) hbf
    | some S =>
      obtain ⟨uo, rfl, hA8, hb7⟩ := hO
      have kR8 := kept hb7 kR6
      have hA' := hA8
      obtain ⟨sv, rfl, hrow8, hl8, hl9⟩ := hA'
      obtain ⟨sva8, svc8, hsv8⟩ := hrow8.shape
      subst hsv8
      obtain ⟨y0, y1⟩ := box2 kR8
      have yf := row_free kR8
      have hr1 := heap_setCell_same W7 (w.heap.size + 1 + 1 + 1) 0 _ _ (.int .i64 m) kR8
      have hr2 := two_setCell (u := .slice sva8 S.length svc8) hr1
      have hx2 := (KeepX.setCell (p := ⟨w.heap.size + 1 + 1 + 1, 0, none⟩) kR8 (.int .i64 m)).trans (KeepX.setCell (p := ⟨w.heap.size + 1 + 1 + 1, 1, none⟩) hr1 (.slice sva8 S.length svc8))
      have hbw8 := bt hbw6 hb7 hbw6.size
      have hbe := (hbw8.setCell (p := ⟨w.heap.size + 1 + 1 + 1, 0, none⟩) (by show w.heap.size ≤ w.heap.size + 1 + 1 + 1; omega) (.int .i64 m)).setCell (p := ⟨w.heap.size + 1 + 1 + 1, 1, none⟩) (by show w.heap.size ≤ w.heap.size + 1 + 1 + 1; omega) (.slice sva8 S.length svc8)
      obtain ⟨z0, z1⟩ := box2 hr2
      have hfin := hA8.other hx2
      replace hfin := Lib.hid hfin
      clear hr1 hr2 hx2 hrow8 hA8 kR8 kR6
      go_wp2
      obtain ⟨W9, hW9⟩ : ∃ W9, W9 = (W7.setCell ⟨w.heap.size + 1 + 1 + 1, 0, none⟩ (.int .i64 m)).setCell ⟨w.heap.size + 1 + 1 + 1, 1, none⟩ (.slice sva8 S.length svc8) := ⟨_, rfl⟩
      rw [← hW9] at z0 z1 hfin hbe ⊢
      clear hW9
      refine bodyPost_ret (v := .tuple #[.agg #[.int .i64 m, .slice sva8 S.length svc8], .int .i64 0]) (by simp [results, Tryz.results15, go_sem, z0, z1]) rfl ?_
      exact BdOut.yes hfin.out hbe
  · have h0e : (k == 0) = false := by simp [h0]
    obtain ⟨y0, y1, y2, y3, y4⟩ := box5 kB4
    have B34 := hb4
    have B14 := btt (btt hb2 hb3) B34
    obtain ⟨_, _, _, kR6⟩ := hK.out W4 B14
    have hbw6 := bt hb1 B14 hb1.size
    have HBB := HB.out W4 B34
    have hfs : thFs k = nd0 := by rw [thFs, if_neg h0]
    rw [hfs] at HBB
    replace HBB := Lib.hid HBB
    rw [hW3] at a0
    rw [hW4, hW3] at p4 y0 y1 y2 y3 y4
    replace h0 := Lib.hid h0
    replace hz3 := Lib.hid hz3
    clear kA2 kK2 kG3 kB4 kK4 g3
    go_wp2_with fail
    rw [← hW3, ← hW4]
    replace HBB := HBB.out
    refine HBB.mono ?_
    intro e W7 hO
    have hB7 := hbw6
    cases R with
    | none =>
      obtain ⟨rfl, hb7⟩ := hO
      have kR7 := kept hb7 kR6
      have hbf := bt hbw6 hb7 hbw6.size
      obtain ⟨y0, y1⟩ := box2 kR7
      have yf0 := row_free kR7 0
      have yf1 := row_free kR7 1
      have z0 : W7.setCell ⟨w.heap.size + 1 + 1 + 1, 0, none⟩ (.int .i64 0) = W7 := setSame y0
      have z1 : W7.setCell ⟨w.heap.size + 1 + 1 + 1, 1, none⟩ (.slice none 0 0) = W7 := setSame y1
      clear kR7 kR6
      go_wp2
      refine bodyPost_ret (v := .tuple #[.agg #[.int .i64 0, .slice none 0 0], .int .i64 17]) (by simp [results, Tryz.results15, go_sem, y0, y1]) rfl ?_
      exact BdOut.no (n := m) hbf
    | some S =>
      obtain ⟨uo, rfl, hA8, hb7⟩ := hO
      have kR8 := kept hb7 kR6
      have hA' := hA8
      obtain ⟨sv, rfl, hrow8, hl8, hl9⟩ := hA'
      obtain ⟨sva8, svc8, hsv8⟩ := hrow8.shape
      subst hsv8
      obtain ⟨y0, y1⟩ := box2 kR8
      have yf := row_free kR8
      have hr1 := heap_setCell_same W7 (w.heap.size + 1 + 1 + 1) 0 _ _ (.int .i64 m) kR8
      have hr2 := two_setCell (u := .slice sva8 S.length svc8) hr1
      have hx2 := (KeepX.setCell (p := ⟨w.heap.size + 1 + 1 + 1, 0, none⟩) kR8 (.int .i64 m)).trans (KeepX.setCell (p := ⟨w.heap.size + 1 + 1 + 1, 1, none⟩) hr1 (.slice sva8 S.length svc8))
      have hbw8 := bt hbw6 hb7 hbw6.size
      have hbe := (hbw8.setCell (p := ⟨w.heap.size + 1 + 1 + 1, 0, none⟩) (by show w.heap.size ≤ w.heap.size + 1 + 1 + 1; omega) (.int .i64 m)).setCell (p := ⟨w.heap.size + 1 + 1 + 1, 1, none⟩) (by show w.heap.size ≤ w.heap.size + 1 + 1 + 1; omega) (.slice sva8 S.length svc8)
      obtain ⟨z0, z1⟩ := box2 hr2
      have hfin := hA8.other hx2
      replace hfin := Lib.hid hfin
      clear hr1 hr2 hx2 hrow8 hA8 kR8 kR6
      go_wp2
      obtain ⟨W9, hW9⟩ : ∃ W9, W9 = (W7.setCell ⟨w.heap.size + 1 + 1 + 1, 0, none⟩ (.int .i64 m)).setCell ⟨w.heap.size + 1 + 1 + 1, 1, none⟩ (.slice sva8 S.length svc8) := ⟨_, rfl⟩
      rw [← hW9] at z0 z1 hfin hbe ⊢
      clear hW9
      refine bodyPost_ret (v := .tuple #[.agg #[.int .i64 m, .slice sva8 S.length svc8], .int .i64 0]) (by simp [results, Tryz.results15, go_sem, z0, z1]) rfl ?_
      exact BdOut.yes hfin.out hbe
end Go.Proofs.YtiiiegflobihjaaGreat

/- The reference's stages are the program's; the chapter's examples: plain lists. -/
namespace Go.Proofs.YtiiiegflobihjaaGreat

def rdC : List Int := [2, 3, 3, 0, 0, 0, 0]
def rdS : List Int := [2, 1, 2, 0, 0, 0, 0]
def rdF : List Int := [2, 3, 3, 0, 0, 0, 1]
def rdH : List Int := [2, 1, 2, 0, 0, 0, 1]
def alw1 (r : List Int) : List (List (List Int)) := [[r ++ [0]]]
theorem ex_or : prA false (alw1 rdC) (alw1 rdS) = some [[rdS ++ [1], rdC ++ [2]], [rdS ++ [1]], [rdC ++ [2]]] := by decide +kernel
theorem ex_and : prA true (alw1 rdC) (alw1 rdS) = some [[]] := by decide +kernel
theorem ex_live : (lvA [[]]).getD 0 false = false := by decide +kernel
theorem ex_then : thA (alw1 rdC) (alw1 rdS) 2 = some [[rdC ++ [1]], [rdC ++ [2]], [rdS ++ [2]]] := by decide +kernel
theorem ex_fault : thA (alw1 rdF) (alw1 rdS) 2 = some [[rdF ++ [1]], [rdF ++ [2]], [rdH ++ [2]]] := by decide +kernel
theorem alw_S {r : List Int} (h7 : r.length = 7) (h : chkA 2 (alw1 r) = 0) : AdS (alw1 r) :=
  adS_of (fun s hs m hm => by obtain rfl := List.mem_singleton.1 hs; obtain rfl := List.mem_singleton.1 hm; simp [h7]) h (by simp [alw1]) (by simp [alw1, movesN])
theorem chk_C : chkA 2 (alw1 rdC) = 0 := by decide +kernel
theorem chk_S : chkA 2 (alw1 rdS) = 0 := by decide +kernel
theorem chk_F : chkA 2 (alw1 rdF) = 0 := by decide +kernel
end Go.Proofs.YtiiiegflobihjaaGreat

/- The reference: paired, both = false. -/
namespace Go.Proofs.YtiiiegflobihjaaGreat
open Go.RowKit
theorem fm_at {α β : Type} {f : α → Option β} {RS : List α} {j c : Nat} {r : α} {a : β} (hj : RS[j]? = some r) (hF : (RS.take j).filterMap f = (RS.filterMap f).take c) (hc : c ≤ (RS.filterMap f).length) (hfr : f r = some a) : (RS.filterMap f)[c]? = some a ∧ (RS.take (j + 1)).filterMap f = (RS.filterMap f).take (c + 1) := by
  have hlt : j < RS.length := (List.getElem?_eq_some_iff.1 hj).1
  have hrj : RS[j] = r := (List.getElem?_eq_some_iff.1 hj).2
  have e : RS = RS.take j ++ r :: RS.drop (j + 1) := by
    rw [← hrj, List.getElem_cons_drop, List.take_append_drop]
  have e2 : RS.filterMap f = (RS.filterMap f).take c ++ a :: (RS.drop (j + 1)).filterMap f := by
    rw [← hF]
    conv => lhs; rw [e]
    rw [List.filterMap_append, List.filterMap_cons, hfr]
  have hl : ((RS.filterMap f).take c).length = c := by rw [List.length_take]; omega
  obtain ⟨L, hL⟩ : ∃ L, RS.filterMap f = L := ⟨_, rfl⟩
  rw [hL] at e2 hl hF ⊢
  have h1 : L[c]? = some a := by
    rw [e2, List.getElem?_append_right (by omega), hl]; simp
  refine ⟨h1, ?_⟩
  obtain ⟨hcl, hca⟩ := List.getElem?_eq_some_iff.1 h1
  rw [List.take_succ_eq_append_getElem hlt, List.filterMap_append, hF, hrj, List.take_succ_eq_append_getElem hcl, hca, List.filterMap_cons, hfr, List.filterMap_nil]
theorem NewAt.ne {w : World} {v v' : Value} {k : Nat} (h : NewAt w v v') (h1 : v.ownBlock ≠ some k) (h2 : k < w.heap.size) : v'.ownBlock ≠ some k := by
  rcases h with h | h
  · rw [h]; exact h1
  · rw [h]; intro e; injection e with e; omega

set_option maxRecDepth 100000 in
set_option maxHeartbeats 12800000 in
theorem refPairedOr {w : World} {u v : Value} {m n : Int} {az bz : List (List (List Int))} (hA : AdvV w u m az) (hB : AdvV w v n bz) (wA : AdOK az) (wB : AdOK bz) :
    Calls Tryz.prog 34 #[u, v, .bool false] w (BdOut w m (prA false az bz)) := by
  obtain ⟨aa, ac, hu⟩ := advShape' hA
  obtain ⟨ba, bc, hv⟩ := advShape' hB
  subst hu hv
  obtain ⟨W1, hW1⟩ : ∃ W1, W1 = ((((w.alloc (.cells #[.int .i64 m, .slice aa az.length ac] 24)).alloc (.cells #[.int .i64 n, .slice ba bz.length bc] 24)).alloc (.cells #[.int .i64 0, .slice none 0 0] 24)).alloc (.cells #[.int .i64 0, .int .i64 0] 113)).alloc (.cells #[.int .i64 m, .slice none 0 0] 24) := ⟨_, rfl⟩
  have hs1 : W1.heap.size = w.heap.size + 5 := by rw [hW1]; simp
  have hb1 : Below w.heap.size w W1 := by
    rw [hW1]; exact (((((Below.refl _ w).alloc (Nat.le_refl _) _).alloc (by simp) _).alloc (by first | (simp; done) | (simp; omega)) _).alloc (by first | (simp; done) | (simp; omega)) _).alloc (by first | (simp; done) | (simp; omega)) _
  have kA : W1.heap[w.heap.size]? = some (.cells #[.int .i64 m, .slice aa az.length ac] 24) := by
    rw [hW1]; exact (Below.heap_alloc _ _ _ (by first | (simp; done) | (simp; omega))).trans ((Below.heap_alloc _ _ _ (by first | (simp; done) | (simp; omega))).trans ((Below.heap_alloc _ _ _ (by first | (simp; done) | (simp; omega))).trans ((Below.heap_alloc _ _ _ (by first | (simp; done) | (simp; omega))).trans (heap_alloc_new w _))))
  have kB : W1.heap[w.heap.size + 1]? = some (.cells #[.int .i64 n, .slice ba bz.length bc] 24) := by
    rw [hW1]
    have := heap_alloc_new (w.alloc (.cells #[.int .i64 m, .slice aa az.length ac] 24)) (.cells #[.int .i64 n, .slice ba bz.length bc] 24)
    rw [World.size_alloc] at this
    exact (Below.heap_alloc _ _ _ (by first | (simp; done) | (simp; omega))).trans ((Below.heap_alloc _ _ _ (by first | (simp; done) | (simp; omega))).trans ((Below.heap_alloc _ _ _ (by first | (simp; done) | (simp; omega))).trans this))
  have kR : W1.heap[w.heap.size + 1 + 1]? = some (.cells #[.int .i64 0, .slice none 0 0] 24) := by
    rw [hW1]
    have := heap_alloc_new ((w.alloc (.cells #[.int .i64 m, .slice aa az.length ac] 24)).alloc (.cells #[.int .i64 n, .slice ba bz.length bc] 24)) (.cells #[.int .i64 0, .slice none 0 0] 24)
    rw [World.size_alloc, World.size_alloc] at this
    exact (Below.heap_alloc _ _ _ (by first | (simp; done) | (simp; omega))).trans ((Below.heap_alloc _ _ _ (by first | (simp; done) | (simp; omega))).trans this)
  have kN : W1.heap[w.heap.size + 1 + 1 + 1]? = some (.cells #[.int .i64 0, .int .i64 0] 113) := by
    rw [hW1]
    have := heap_alloc_new (((w.alloc (.cells #[.int .i64 m, .slice aa az.length ac] 24)).alloc (.cells #[.int .i64 n, .slice ba bz.length bc] 24)).alloc (.cells #[.int .i64 0, .slice none 0 0] 24)) (.cells #[.int .i64 0, .int .i64 0] 113)
    rw [World.size_alloc, World.size_alloc, World.size_alloc] at this
    exact (Below.heap_alloc _ _ _ (by first | (simp; done) | (simp; omega))).trans this
  have kO : W1.heap[w.heap.size + 1 + 1 + 1 + 1]? = some (.cells #[.int .i64 m, .slice none 0 0] 24) := by
    rw [hW1]
    have := heap_alloc_new ((((w.alloc (.cells #[.int .i64 m, .slice aa az.length ac] 24)).alloc (.cells #[.int .i64 n, .slice ba bz.length bc] 24)).alloc (.cells #[.int .i64 0, .slice none 0 0] 24)).alloc (.cells #[.int .i64 0, .int .i64 0] 113)) (.cells #[.int .i64 m, .slice none 0 0] 24)
    rwa [World.size_alloc, World.size_alloc, World.size_alloc, World.size_alloc] at this
  have HAV := Lib.hid (fun W (hb : Below w.heap.size w W) => hA.keep hb)
  have HBV := Lib.hid (fun W (hb : Below w.heap.size w W) => hB.keep hb)
  have hnd1 : OwX 113 2 EPr W1 w.heap.size (.slice (some ⟨w.heap.size + 1 + 1 + 1, 0, none⟩) 1 1) ([nd0] : List Nd).length [nd0] := by
    refine ⟨[.int .i64 0, .int .i64 0], ⟨rfl, .inr ⟨w.heap.size + 1 + 1 + 1, 1, _, rfl, by omega, kN, Nat.le_refl _, by unfold maxLen; omega, rfl, rfl⟩⟩, rfl, ?_, ?_⟩
    · intro u hu; simp only [List.mem_cons, List.not_mem_nil, or_false] at hu; rcases hu with rfl | rfl <;> rfl
    · intro j x hj
      cases j with
      | zero => simp only [List.getElem?_cons_zero, Option.some.injEq] at hj; subst hj; exact ⟨rfl, rfl⟩
      | succ j => simp at hj
  have hR := prA_eq false az bz
  obtain ⟨R, hRR⟩ : ∃ R, prA false az bz = R := ⟨_, rfl⟩
  rw [hRR] at hR ⊢
  have hK0 : Hid (exG (prSt false az bz) 300 0 [nd0] [] = some R) := hR
  have hP0 := PrP.first wA wB
  replace hRR := Lib.hid hRR
  replace hs1 := Lib.hid hs1
  clear hA hB kN hR
  go_enter Tryz.func34, Tryz.ntmps34
  go_wp2_with fail
  rw [← hW1]
  replace hW1 := Lib.hid hW1
  go_loopg [8, 10] 300 (fun f nv iv wr => ∃ (i : Nat) (nodes : List Nd) (out : List (List (List Int))) (sv : Value), iv = .int .i64 i ∧ OwX 113 2 EPr wr w.heap.size nv nodes.length nodes ∧ wr.heap[w.heap.size + 1 + 1 + 1 + 1]? = some (.cells #[.int .i64 m, sv] 24) ∧
    OwX 59 1 ESt wr w.heap.size sv out.length out ∧ Below w.heap.size w wr ∧ wr.heap[w.heap.size]? = some (.cells #[.int .i64 m, .slice aa az.length ac] 24) ∧ wr.heap[w.heap.size + 1]? = some (.cells #[.int .i64 n, .slice ba bz.length bc] 24) ∧ wr.heap[w.heap.size + 1 + 1]? = some (.cells #[.int .i64 0, .slice none 0 0] 24) ∧
    Hid (exG (prSt false az bz) f i nodes out = some R) ∧ i ≤ nodes.length ∧ nodes.length ≤ 256 ∧ movesN out ≤ 4096 ∧ Hid (out.length = i) ∧ Hid ((∀ x ∈ nodes, PrP az bz x) ∧ nodes.Nodup))
  case atStart => exact ⟨0, [nd0], [], .slice none 0 0, rfl, hnd1, kO, OwX.nil _ _, hb1, kA, kB, kR, hK0, by simp, by simp, by simp [movesN], rfl, ⟨by intro x hx; rw [List.mem_singleton.1 hx]; exact hP0, by simp⟩⟩
  case round =>
    clear hK0 hnd1 kO hb1 kA kB kR
    obtain ⟨i, nodes, out, sv, rfl, hnd, kO, hst, hbw, kA, kB, kR, hg, hi, hn256, hm4, hol, hPn⟩ := hrel
    obtain ⟨f, rfl⟩ : ∃ f, gk = f + 1 := by
      cases gk with
      | zero => exact absurd hg.out (by simp [exG])
      | succ f => exact ⟨f, rfl⟩
    have hol9 : out.length ≤ 256 := by rw [hol.out]; omega
    obtain ⟨sva, svc, hsv⟩ := hst.shape
    subst hsv
    by_cases hlt : i < nodes.length
    · obtain ⟨gn, cn, hnv, _⟩ := hnd.form (by omega)
      subst hnv
      obtain ⟨x, hxi⟩ : ∃ x, nodes[i]? = some x := ⟨_, List.getElem?_eq_getElem hlt⟩
      have hPx := hPn.out.1 x (List.mem_of_getElem? hxi)
      obtain ⟨e0, e1, e2⟩ := prCells hnd hxi
      have hx7 := prRs_len wA wB hPx
      have hps := Lib.hid (prSt_ok (bt := false) wA wB hPx).1
      obtain ⟨st, hstp⟩ : ∃ st, prSt false az bz x = st := ⟨_, rfl⟩
      have hsl := (prSt_ok (bt := false) wA wB hPx).2
      rw [hstp] at hps hsl
      obtain ⟨hxa, hxb, _, _⟩ := hPx
      obtain ⟨x0, x1, x2⟩ := x
      simp only at e0 e1 e2 hxa hxb
      subst e2
      have hii : (i : Int) < (nodes.length : Int) := by omega
      obtain ⟨Wx, hWx⟩ : ∃ Wx, Wx = wr.alloc (.cells #[.int .i64 x0, .int .i64 x1] 113) := ⟨_, rfl⟩
      have hbx : Below wr.heap.size wr Wx := by rw [hWx]; exact (Below.refl _ _).alloc (Nat.le_refl _) _
      have kX : Wx.heap[wr.heap.size]? = some (.cells #[.int .i64 x0, .int .i64 x1] 113) := by rw [hWx]; exact heap_alloc_new _ _
      have hbwx := bt hbw hbx hbw.size
      obtain ⟨uA, hKA, hMA, zA⟩ := refMv (HAV.out Wx hbwx) (fun s hs => (wA.st s hs).1) hxa
      obtain ⟨uB, hKB, hMB, zB⟩ := refMv (HBV.out Wx hbwx) (fun s hs => (wB.st s hs).1) hxb
      obtain ⟨ua, uc, huA⟩ := hKA.shape
      obtain ⟨va, vc, huB⟩ := hKB.shape
      subst huA huB
      have hlA := ndM_len wA x0
      have hlB := ndM_len wB x1
      obtain ⟨X, hX⟩ : ∃ X, ndM az x0 = X := ⟨_, rfl⟩
      obtain ⟨Y, hY⟩ : ∃ Y, ndM bz x1 = Y := ⟨_, rfl⟩
      have hRS : prRs az bz (x0, x1, []) = lets ((X ++ Y).map rdOf) := by rw [← hX, ← hY]; rfl
      have hst2 : prSt false az bz (x0, x1, []) = (lets ((X ++ Y).map rdOf)).filterMap (prF false az bz (x0, x1, [])) := by rw [← hRS]; rfl
      rw [hRS] at hx7
      rw [hstp] at hst2
      rw [hX] at hKA hMA hlA zA
      rw [hY] at hKB hMB hlB zB
      have zA2 : ua = none → uc = 0 := fun h => by
        rcases Nat.eq_zero_or_pos X.length with h0 | h0
        · have := zA h0; injection this with _ _ h3
        · obtain ⟨a', c', b', o', he, ha, _⟩ := hKA
          injection he with he1 _ _
          rw [ha h0] at he1
          rw [h] at he1; cases he1
      have zB2 : va = none → vc = 0 := fun h => by
        rcases Nat.eq_zero_or_pos Y.length with h0 | h0
        · have := zB h0; injection this with _ _ h3
        · obtain ⟨a', c', b', o', he, ha, _⟩ := hKB
          injection he with he1 _ _
          rw [ha h0] at he1
          rw [h] at he1; cases he1
      replace zA2 := Lib.hid zA2
      replace zB2 := Lib.hid zB2
      have hkk := Lib.hid (fun W (hb : Below Wx.heap.size Wx W) => And.intro (box2 ((hb.block _ (Array.getElem?_eq_some_iff.1 kX).1).trans kX)) (And.intro (box2 ((hb.block _ (Nat.lt_of_lt_of_le (Array.getElem?_eq_some_iff.1 kA).1 hbx.size)).trans ((hbx.block _ (Array.getElem?_eq_some_iff.1 kA).1).trans kA))) (box2 ((hb.block _ (Nat.lt_of_lt_of_le (Array.getElem?_eq_some_iff.1 kB).1 hbx.size)).trans ((hbx.block _ (Array.getElem?_eq_some_iff.1 kB).1).trans kB)))))
      have hKAk := Lib.hid (fun W (hb : Below Wx.heap.size Wx W) => hKA.keep hb)
      have hKBk := Lib.hid (fun W (hb : Below Wx.heap.size Wx W) => hKB.keep hb)
      replace hMA := Lib.hid hMA
      replace hMB := Lib.hid hMB
      replace hstp := Lib.hid hstp
      replace hxi := Lib.hid hxi
      replace hX := Lib.hid hX
      replace hY := Lib.hid hY
      replace hRS := Lib.hid hRS
      replace hst2 := Lib.hid hst2
      clear zA zB hKA hKB kX
      have h1 := hkk.out Wx (Below.refl _ _)
      obtain ⟨⟨k0, k1⟩, ⟨k2, k3⟩, _⟩ := h1
      rw [hWx] at k2 k3
      go_wp2_with fail
      rw [← hWx]
      replace hWx := Lib.hid hWx
      clear k0 k1 k2 k3
      refine (hMA.out Wx (Below.refl _ _)).mono ?_
      rintro e w2 ⟨rfl, hb2⟩
      have hn9 : 0 + X.length ≤ 1000000 := by omega
      have hO0 : OwX 58 8 EI w2 Wx.heap.size (.slice none 0 0) 0 [] := OwX.nil _ _
      have hB2 : Wx.heap.size ≤ w2.heap.size := hb2.size
      have hK2 := hKAk.out w2 hb2
      obtain ⟨⟨k0, k1⟩, _, ⟨k4, k5⟩⟩ := hkk.out w2 hb2
      go_wp2_with (at_builtin; refine wpList_appXs (ys := X) elemMv (by decide) (by decide) rfl _ _ rfl rfl hO0 rfl rfl hK2 zA2.out hn9 hB2 ?_)
      intro v3 w3 ho3 hg3 hb3 hx3
      have ho3 : OwX 58 8 EI w3 Wx.heap.size v3 X.length X := by simpa only [Nat.zero_add, List.nil_append] using ho3
      obtain ⟨a3, c3, hv3⟩ := ho3.shape
      subst hv3
      have hb03 := hb2.trans (hb3.mono (Nat.le_refl _))
      clear k0 k1 k4 k5
      obtain ⟨⟨k0, k1⟩, _, ⟨k4, k5⟩⟩ := hkk.out w3 hb03
      go_wp2_with fail
      clear k0 k1 k4 k5
      refine (hMB.out w3 hb03).mono ?_
      rintro e w4 ⟨rfl, hb4⟩
      have hb04 := bt hb03 hb4 hb03.size
      have ho4 := ho3.keep (EI.stab _) hb4
      have hK4 := hKBk.out w4 hb04
      have hn10 : X.length + Y.length ≤ 1000000 := by omega
      have hB4 : Wx.heap.size ≤ w4.heap.size := hb04.size
      go_wp2_with (at_builtin; refine wpList_appXs (ys := Y) elemMv (by decide) (by decide) rfl _ _ rfl rfl ho4 rfl rfl hK4 zB2.out hn10 hB4 ?_)
      intro v5 w5 ho5 hg5 hb5 hx5
      obtain ⟨a5, c5, hv5⟩ := ho5.shape
      subst hv5
      have hb05 := hb04.trans hb5
      have hL5 : (X ++ Y).length ≤ 1000 := by rw [List.length_append]; omega
      have HL := Lib.hid (refLets (ho5.ks (by omega)) hL5)
      clear hO0 hK2 hK4 ho3 ho4 ho5
      go_wp2_with fail
      refine HL.out.mono ?_
      rintro e w6 ⟨v6, rfl, hRo, hb6⟩
      have hb06 := bt hb05 hb6 hb05.size
      obtain ⟨RS, hRSe⟩ : ∃ RS, lets ((X ++ Y).map rdOf) = RS := ⟨_, rfl⟩
      rw [hRSe] at hRo hx7
      have hst3 : st = RS.filterMap (prF false az bz (x0, x1, [])) := by rw [← hRSe]; exact hst2.out
      replace hRSe := Lib.hid hRSe
      replace hst3 := Lib.hid hst3
      obtain ⟨ra, rc, hv6⟩ := hRo.shape
      subst hv6
      have hbr6 : Below wr.heap.size wr w6 := bt hbx hb06 hbx.size
      have hnd6 := hnd.keep (EPr.stab _) hbr6
      have hst6 := hst.keep (ESt.stab (by decide)) hbr6
      have kA6 := (hbr6.block _ (Array.getElem?_eq_some_iff.1 kA).1).trans kA
      have kB6 := (hbr6.block _ (Array.getElem?_eq_some_iff.1 kB).1).trans kB
      have kR6 := (hbr6.block _ (Array.getElem?_eq_some_iff.1 kR).1).trans kR
      have kO6 := (hbr6.block _ (Array.getElem?_eq_some_iff.1 kO).1).trans kO
      have kX6 : w6.heap[wr.heap.size]? = some (.cells #[.int .i64 x0, .int .i64 x1] 113) := by
        have hsx : wr.heap.size < Wx.heap.size := by rw [hWx.out]; simp
        refine (hb06.block _ hsx).trans ?_
        rw [hWx.out]; exact heap_alloc_new _ _
      have hgn : gn < wr.heap.size := World.block_lt_of_cell? _ _ e0
      have hsz6 : wr.heap.size < w6.heap.size := (Array.getElem?_eq_some_iff.1 kX6).1
      have hbw6 := bt hbw hbr6 hbw.size
      have hl0 : OwX 58 8 EI w6 w6.heap.size (.slice none 0 0) 0 ((exL nodes st).take 0) := OwX.nil _ _
      have hX0 : KeepX 113 w6 w6 := KeepX.below (Below.refl _ _)
      have hF0 : Hid ((RS.take 0).filterMap (prF false az bz (x0, x1, [])) = st.take 0) := rfl
      have hell : (exL nodes st).length = st.length := exL_length
      have hnP : Hid (∀ k z, z ∈ exN nodes (st.take k) → PrP az bz z) := fun k z hz => by
        rcases exN_mem hz with hz | ⟨a, ha, rfl⟩
        · exact hPn.out.1 z hz
        · exact (hps.out a (List.mem_of_mem_take ha)).1
      have hnL : Hid (∀ k, (exN nodes (st.take k)).length ≤ 1056) := fun k => by
        have h1 := exN_len (nodes := nodes) (az := st.take k)
        have h2 := List.length_take_le' k st
        omega
      have hRc := Lib.hid (fun W (hX : KeepX 113 w6 W) => hRo.other (E' := 113) (EI.stab _) (by decide) hX)
      have hne6 : (Value.slice (some ⟨gn, 0, none⟩) nodes.length cn).ownBlock ≠ some wr.heap.size := by
        simp only [Value.ownBlock, ne_eq, Option.some.injEq]; omega
      replace hell := Lib.hid hell
      clear hRo hnd hst kA kB kR kO e0 e1 hkk hKAk hKBk hMA hMB hbx hb2 hb3 hb4 hb5 hb6 hb03 hb04 hb05 hb06 hg3 hg5 hx3 hx5 hbr6 hB2 hB4
      obtain ⟨wo, hwo⟩ : ∃ wo, wo = wr := ⟨_, rfl⟩
      subst hwo
      go_wp2_with fail
      go_loopw [8, 14, 15] (fun nv lv jv wr => ∃ j c : Nat, jv = .int .i64 j ∧ j ≤ RS.length ∧ c ≤ st.length ∧ Hid ((RS.take j).filterMap (prF false az bz (x0, x1, [])) = st.take c) ∧ OwX 113 2 EPr wr w.heap.size nv (exN nodes (st.take c)).length (exN nodes (st.take c)) ∧ OwX 58 8 EI wr w6.heap.size lv c ((exL nodes st).take c) ∧
        KeepX 113 w6 wr ∧ Below w.heap.size w wr ∧ w6.heap.size ≤ wr.heap.size ∧ wr.heap[wo.heap.size]? = some (.cells #[.int .i64 x0, .int .i64 x1] 113) ∧ nv.ownBlock ≠ some wo.heap.size) (fun _ _ jv _ => RS.length - (intOf jv).toNat)
      case atStart => exact ⟨0, 0, rfl, by omega, by omega, hF0, hnd6, hl0, hX0, hbw6, Nat.le_refl _, kX6, hne6⟩
      case round =>
        clear hF0 hnd6 hl0 hX0 kX6 hne6
        obtain ⟨j, c, rfl, hj, hc, hF, hnd, hml, hX, hbr, hsz, kX, hne⟩ := hrel
        obtain ⟨la, lc, hlv⟩ := hml.shape
        subst hlv
        obtain ⟨na, nc, hnv⟩ := hnd.shape
        subst hnv
        have hRo := hRc.out wr hX
        by_cases hltj : j < RS.length
        · have hji : (j : Int) < (RS.length : Int) := by omega
          obtain ⟨gr, cr, hre, _⟩ := hRo.form (by omega)
          obtain ⟨rfl, rfl⟩ : ra = some ⟨gr, 0, none⟩ ∧ rc = cr := by injection hre with h1 h2 h3; exact ⟨h1, h3⟩
          obtain ⟨hm7, hmc⟩ := hRo.intCells hltj
          obtain ⟨r, hr⟩ : ∃ r, RS.getD j [] = r := ⟨_, rfl⟩
          rw [hr] at hm7 hmc
          have hRj : RS[j]? = some r := by rw [← hr, getD_eq hltj]; exact List.getElem?_eq_getElem hltj
          obtain ⟨r0, r1, r2, r3, r4, r5, r6, rfl⟩ := seven hm7
          obtain ⟨c0, c1, c2, c3, c4, c5, c6⟩ := hmc.all7
          obtain ⟨y0, hy0⟩ : ∃ y0, ndT az x0 [r0, r1, r2, r3, r4, r5, r6] = y0 := ⟨_, rfl⟩
          obtain ⟨y1, hy1⟩ : ∃ y1, ndT bz x1 [r0, r1, r2, r3, r4, r5, r6] = y1 := ⟨_, rfl⟩
          have hpF : prF false az bz (x0, x1, []) [r0, r1, r2, r3, r4, r5, r6] = if kpB false y0 y1 then some ([r0, r1, r2, r3, r4, r5, r6], (y0, y1, [])) else none := by rw [← hy0, ← hy1]; rfl
          have hRr := hRc.out
          have HT1 := Lib.hid (fun W (hb : Below wr.heap.size wr W) => refStep (HAV.out W (bt hbr hb hbr.size)) hxa r0 r1 r2 r3 r4 r5 r6)
          have HT2 := Lib.hid (fun W (hb : Below wr.heap.size wr W) => refStep (HBV.out W (bt hbr hb hbr.size)) hxb r0 r1 r2 r3 r4 r5 r6)
          rw [hy0] at HT1
          rw [hy1] at HT2
          have kA := hX.size kA6 (by decide)
          have kB := hX.size kB6 (by decide)
          have hS := Lib.hid (fun W (hb : Below wr.heap.size wr W) => let h1 := box2 ((hb.block _ (Array.getElem?_eq_some_iff.1 kA).1).trans kA); let h2 := box2 ((hb.block _ (Array.getElem?_eq_some_iff.1 kB).1).trans kB); let h3 := box2 ((hb.block _ (Array.getElem?_eq_some_iff.1 kX).1).trans kX); And.intro h1.1 (And.intro h1.2 (And.intro h2.1 (And.intro h2.2 (And.intro h3.1 (And.intro h3.2 (hmc.keep hb).all7))))))
          replace hRj := Lib.hid hRj
          replace hr := Lib.hid hr
          replace hy0 := Lib.hid hy0
          replace hy1 := Lib.hid hy1
          replace hpF := Lib.hid hpF
          obtain ⟨e1, e2, e3, e4, e5, e6, _⟩ := hS.out wr (Below.refl _ _)
          have HT1a := Lib.hid (HT1.out wr.drew ((Below.refl _ _).drew))
          have HT1b := Lib.hid (HT1.out (wr.alloc (.cells #[.int .i64 0, .int .i64 0] 113)).drew (((Below.refl _ _).alloc (Nat.le_refl _) _).drew))
          clear hmc hm7 hRr hRo hre
          go_upto_region 14 with fail
          go_cut [16] (fun pv wx => ∃ b, pv = .pointer (some ⟨b, 0, none⟩) ∧ wx.heap[b]? = some (.cells #[.int .i64 y0, .int .i64 y1] 113) ∧ Below wr.heap.size wr wx ∧ wr.heap.size ≤ b)
          case first =>
            go_region_held3 (fun w' => w'.cell? ⟨w.heap.size, 0, none⟩ = some (.int .i64 m) ∧ w'.cell? ⟨w.heap.size, 1, none⟩ = some (.slice aa az.length ac) ∧ w'.cell? ⟨w.heap.size + 1, 0, none⟩ = some (.int .i64 n) ∧ w'.cell? ⟨w.heap.size + 1, 1, none⟩ = some (.slice ba bz.length bc) ∧ w'.cell? ⟨wo.heap.size, 0, none⟩ = some (.int .i64 x0) ∧ w'.cell? ⟨wo.heap.size, 1, none⟩ = some (.int .i64 x1) ∧
                w'.cell? ⟨gr, j * 7, none⟩ = some (.int .i64 r0) ∧ w'.cell? ⟨gr, j * 7 + 1, none⟩ = some (.int .i64 r1) ∧ w'.cell? ⟨gr, j * 7 + 2, none⟩ = some (.int .i64 r2) ∧ w'.cell? ⟨gr, j * 7 + 3, none⟩ = some (.int .i64 r3) ∧ w'.cell? ⟨gr, j * 7 + 4, none⟩ = some (.int .i64 r4) ∧ w'.cell? ⟨gr, j * 7 + 5, none⟩ = some (.int .i64 r5) ∧ w'.cell? ⟨gr, j * 7 + 6, none⟩ = some (.int .i64 r6))
              (first
                | go_keep
                | (exact kep (hS.out _ hR6))
                | (exact kep (hS.out _ (hR6.alloc hR6.size _)))
                | (exact kep (hS.out _ (hR5.alloc hR5.size _)))
                | (exact kep (hS.out _ hR5))
                | (exact kep (hS.out _ ((Below.refl _ _).alloc (Nat.le_refl _) _).drew))
                | (exact kep (hS.out _ (Below.setCell (p := ⟨wr.heap.size, 1, none⟩) (Below.setCell (p := ⟨wr.heap.size, 0, none⟩) hR6 (Nat.le_refl _) _) (Nat.le_refl _) _)))
                | (exact kep (hS.out _ (Below.setCell (p := ⟨w5.heap.size, 1, none⟩) (Below.setCell (p := ⟨w5.heap.size, 0, none⟩) hR6 hR5.size _) hR5.size _))))
              (first
                | (go_at_call 71; (with_reducible refine (HT1.out _ (by first | exact (Below.refl _ _).drew | exact ((Below.refl _ _).alloc (Nat.le_refl _) _).drew)).mono ?_); rintro e w5 ⟨rfl, hb5⟩; have hR5 : Below wr.heap.size wr w5 := (by first | exact below_of_drew hb5 | exact bt ((Below.refl _ wr).alloc (Nat.le_refl _) _).drew hb5 ((Below.refl _ wr).alloc (Nat.le_refl _) _).drew.size); (first | (have kN5 : w5.heap[wr.heap.size]? = some (.cells #[.int .i64 0, .int .i64 0] 113) := (hb5.block wr.heap.size (by rw [World.size_drew, World.size_alloc]; omega)).trans (heap_alloc_new wr _)) | skip))
                | (go_at_call 71; (with_reducible refine (HT2.out _ (by first | exact hR5 | exact hR5.alloc hR5.size _)).mono ?_); rintro e w6 ⟨rfl, hb6⟩; have hR6 : Below wr.heap.size wr w6 := (by first | exact bt hR5 hb6 hR5.size | exact bt (hR5.alloc hR5.size _) hb6 (hR5.alloc hR5.size _).size); (first | (have kN6 : w6.heap[wr.heap.size]? = some (.cells #[.int .i64 0, .int .i64 0] 113) := (hb6.block wr.heap.size (Array.getElem?_eq_some_iff.1 kN5).1).trans kN5; have n60 := box_cell (j := 0) kN6 rfl; have n61 := box_cell (j := 1) kN6 rfl; have nf0 := row_free kN6 0; have nf1 := row_free kN6 1) | (have kN6 : w6.heap[w5.heap.size]? = some (.cells #[.int .i64 0, .int .i64 0] 113) := (hb6.block w5.heap.size (by rw [World.size_alloc]; omega)).trans (heap_alloc_new w5 _); have n60 := box_cell (j := 0) kN6 rfl; have n61 := box_cell (j := 1) kN6 rfl; have nf0 := row_free kN6 0; have nf1 := row_free kN6 1) | skip)))
            all_goals
              go_wp2
              go_meet
              first
                | exact ⟨w6.heap.size, rfl, heap_alloc_new _ _, hR6.alloc hR6.size _, hR6.size⟩
                | exact ⟨w5.heap.size, rfl, boxSet2' kN6, Below.setCell (p := ⟨w5.heap.size, 1, none⟩) (Below.setCell (p := ⟨w5.heap.size, 0, none⟩) hR6 hR5.size _) hR5.size _, hR5.size⟩
                | exact ⟨wr.heap.size, rfl, boxSet2' kN6, Below.setCell (p := ⟨wr.heap.size, 1, none⟩) (Below.setCell (p := ⟨wr.heap.size, 0, none⟩) hR6 (Nat.le_refl _) _) (Nat.le_refl _) _, Nat.le_refl _⟩
          case rest =>
            obtain ⟨bn, rfl, kN, hbn, hbnl⟩ := hcut
            have hndc := hnd.keep (EPr.stab _) hbn
            have hmlc := hml.keep (EI.stab _) hbn
            have kXc := (hbn.block _ (Array.getElem?_eq_some_iff.1 kX).1).trans kX
            have hXc := hX.trans (KeepX.below hbn)
            have hbrc := bt hbr hbn hbr.size
            have hszc := Nat.le_trans hsz hbn.size
            obtain ⟨n0, n1⟩ := box2 kN
            clear e1 e2 e3 e4 e5 e6 c0 c1 c2 c3 c4 c5 c6 HT1a HT1b kA kB
            have hst4 := hst3.out
            have hF2 := hF.out
            rw [hst4] at hF2
            by_cases hkp : kpB false y0 y1 = true
            · obtain ⟨ha, hF3⟩ := fm_at (a := ([r0, r1, r2, r3, r4, r5, r6], (y0, y1, []))) hRj.out hF2 (by rw [← hst4]; exact hc) (by rw [hpF.out, hkp]; rfl)
              rw [← hst4] at ha hF3
              have hc1 : c < st.length := (List.getElem?_eq_some_iff.1 ha).1
              replace hF3 := Lib.hid hF3
              replace hst4 := Lib.hid hst4
              skip
              clear hF2 hkp hF
              by_cases hin : (y0, y1, ([] : List Nat)) ∈ exN nodes (st.take c)
              · have hkd := hin
                obtain ⟨q, hq⟩ : ∃ q, ixOf (exN nodes (st.take c)) (y0, y1, []) = q := ⟨_, rfl⟩
                have hfq : fndI (exN nodes (st.take c)) (y0, y1, []) = (q : Int) := by rw [fndI, if_pos hin, hq]
                have hHF0 := Lib.hid (refFind hndc (Nat.le_trans (hnL.out c) (by decide)) y0 y1)
                rw [hfq] at hHF0
                have hdq : decide ((q : Int) < 0) = false := decide_eq_false (by omega)
                have hnl8 := Nat.le_trans (hnL.out c) (show 1056 ≤ 1000000 by decide)
                have hsn := Lib.hid (exL_in' (nodes := nodes) ha hin)
                have hnn := Lib.hid (exN_in' (nodes := nodes) ha hin)
                rw [hq] at hsn
                have hsn2 := Lib.hid (show (exL nodes st).take (c + 1) = (exL nodes st).take c ++ [[r0, r1, r2, r3, r4, r5, r6, (q : Int)]] from hsn.out)
                clear hsn
                have hsn := hsn2
                clear hsn2
                go_wp2_with fail
                refine hHF0.out.mono ?_
                rintro e w8 ⟨rfl, hb8⟩
                have hnd8 := hndc.keep (EPr.stab _) hb8
                have kN8 := (hb8.block _ (Array.getElem?_eq_some_iff.1 kN).1).trans kN
                have kX8 := (hb8.block _ (Array.getElem?_eq_some_iff.1 kXc).1).trans kXc
                have hml8 := hmlc.keep (EI.stab _) hb8
                have hX8 := hXc.trans (KeepX.below hb8)
                have hbr8 := bt hbrc hb8 hbrc.size
                have hsz8 := Nat.le_trans hszc hb8.size
                have hne8 := hne
                clear hndc kN kXc hmlc n0 n1 hml hnd kX

                have hHF := Lib.hid (refFind (hnd8.keep (EPr.stab _) ((Below.refl _ w8).drew)) hnl8 y0 y1)
                rw [hfq] at hHF
                have hmc8 := ((hRc.out w8 hX8).intCells hltj).2
                rw [hr.out] at hmc8
                obtain ⟨c0, c1, c2, c3, c4, c5, c6⟩ := hmc8.all7
                obtain ⟨n0, n1⟩ := box2 kN8
                have hc8 : ∀ u ∈ [Value.int .i64 r0, .int .i64 r1, .int .i64 r2, .int .i64 r3, .int .i64 r4, .int .i64 r5, .int .i64 r6, .int .i64 (q : Int)], u.oneCell' = true := fun u hu => by
                  simp only [List.mem_cons, List.not_mem_nil, or_false] at hu
                  rcases hu with rfl | rfl | rfl | rfl | rfl | rfl | rfl | rfl <;> rfl
                have hc9 : c ≤ 1000000000000 := by omega
                replace hc8 := Lib.hid hc8
                replace hfq := Lib.hid hfq
                replace hkd := Lib.hid hkd
                replace ha := Lib.hid ha
                have hK8 := Lib.hid (fun W (hb : Below w8.heap.size w8 W) => let h1 := box2 ((hb.block _ (Array.getElem?_eq_some_iff.1 kN8).1).trans kN8); let h2 := (hmc8.keep hb).all7; And.intro h1.1 (And.intro h1.2 h2))
                have hK9 := Lib.hid (fun W (hb : Below w8.heap.size w8 W) W' (hx : KeepX 58 W W') => let h1 := box2 (hx.size ((hb.block _ (Array.getElem?_eq_some_iff.1 kN8).1).trans kN8) (by decide)); And.intro h1.1 (And.intro h1.2 (show CI W' gr (j * 7) [r0, r1, r2, r3, r4, r5, r6] from by have h := ((((hRc.out w8 hX8).keep (EI.stab _) hb).other (E' := 58) (EI.stab _) (by decide) hx).intCells hltj).2; rw [hr.out] at h; exact h).all7))
                clear hmc8
                have hml8s := Lib.hid hml8
                go_wp2_with fail
                go_region_held3 (fun w' => w'.cell? ⟨bn, 0, none⟩ = some (.int .i64 y0) ∧ w'.cell? ⟨bn, 1, none⟩ = some (.int .i64 y1) ∧ w'.cell? ⟨gr, j * 7, none⟩ = some (.int .i64 r0) ∧ w'.cell? ⟨gr, j * 7 + 1, none⟩ = some (.int .i64 r1) ∧ w'.cell? ⟨gr, j * 7 + 2, none⟩ = some (.int .i64 r2) ∧ w'.cell? ⟨gr, j * 7 + 3, none⟩ = some (.int .i64 r3) ∧ w'.cell? ⟨gr, j * 7 + 4, none⟩ = some (.int .i64 r4) ∧ w'.cell? ⟨gr, j * 7 + 5, none⟩ = some (.int .i64 r5) ∧ w'.cell? ⟨gr, j * 7 + 6, none⟩ = some (.int .i64 r6))
                  (first
                    | go_keep
                    | (exact hK8.out _ hB9)
                    | (exact hK9.out _ (hB9.alloc hB9.size _) _ hx10))
                  (first
                    | (go_at_call 72; (with_reducible refine hHF.out.mono ?_); rintro e w9 ⟨rfl, hb9⟩; have hB9 : Below w8.heap.size w8 w9 := below_of_drew hb9; have hml9 := (hml8s.out.keep (EI.stab _) hB9).keep (EI.stab _) ((Below.refl _ w9).alloc (Nat.le_refl _) (.cells #[.int .i64 r0, .int .i64 r1, .int .i64 r2, .int .i64 r3, .int .i64 r4, .int .i64 r5, .int .i64 r6, .int .i64 (q : Int)] 58)); have hs9 : w6.heap.size ≤ (w9.alloc (.cells #[.int .i64 r0, .int .i64 r1, .int .i64 r2, .int .i64 r3, .int .i64 r4, .int .i64 r5, .int .i64 r6, .int .i64 (q : Int)] 58)).heap.size := Nat.le_trans hsz8 (Nat.le_trans hB9.size (by simp)))
                    | ((refine step_appX (cs := [.int .i64 r0, .int .i64 r1, .int .i64 r2, .int .i64 r3, .int .i64 r4, .int .i64 r5, .int .i64 r6, .int .i64 (q : Int)]) (x := [r0, r1, r2, r3, r4, r5, r6, (q : Int)]) elemMv (by decide) (by decide) (EI.stab _) (by rfl) _ _ (by rfl) (by rfl) hml9 ⟨w9.heap.size, 0, none⟩ 1 (by rfl) rfl newCells hc8.out rfl hc9 hs9 ?_; intro lv w10 hml10 hg10 hn10 hb10 hx10)))
                have hB10 := hB9.alloc hB9.size (.cells #[.int .i64 r0, .int .i64 r1, .int .i64 r2, .int .i64 r3, .int .i64 r4, .int .i64 r5, .int .i64 r6, .int .i64 (q : Int)] 58)
                have hnd10 := (hnd8.keep (EPr.stab _) hB10).other (E' := 58) (EPr.stab _) (by decide) hx10
                have hX10 := (hX8.trans (KeepX.below hB10)).behind hb10
                have hbr10 := (bt hbr8 hB10 hbr8.size).trans (hb10.mono hbw6.size)
                have hsz10 := Nat.le_trans hs9 hb10.size
                have kX10 := (hb10.block _ hsz6).trans ((hB10.block _ (Array.getElem?_eq_some_iff.1 kX8).1).trans kX8)
                rw [← hsn.out] at hml10
                clear hnd8 hml8 hml8s kN8 kX8
                go_wp2
                go_roundw
                case rel => exact ⟨j + 1, c + 1, by go_num, hltj, hc1, hF3, by rw [hnn.out]; exact hnd10, hml10, hX10, hbr10, hsz10, kX10, hne8⟩
                case measure => simp [intOf]; omega
              · have hkd := hin
                have hfq0 : fndI (exN nodes (st.take c)) (y0, y1, []) = -1 := by rw [fndI, if_neg hin]
                have hHF0 := Lib.hid (refFind hndc (Nat.le_trans (hnL.out c) (by decide)) y0 y1)
                rw [hfq0] at hHF0
                obtain ⟨q, hq⟩ : ∃ q, (exN nodes (st.take c)).length = q := ⟨_, rfl⟩
                have hfq : fndI (exN nodes (st.take c) ++ [(y0, y1, [])]) (y0, y1, []) = (q : Int) := by
                  rw [fndI, if_pos (by simp)]
                  simp [ixOf, List.idxOf_append, hin, hq]
                have hnl8 : (exN nodes (st.take c) ++ [(y0, y1, ([] : List Nat))]).length ≤ 1000000 := by
                  have := hnL.out c
                  rw [List.length_append]; show _ + 1 ≤ _; omega
                have hsn := Lib.hid (exL_out' (nodes := nodes) ha hin)
                have hnn := Lib.hid (exN_out' (nodes := nodes) ha hin)
                rw [hq] at hsn
                have hsn2 := Lib.hid (show (exL nodes st).take (c + 1) = (exL nodes st).take c ++ [[r0, r1, r2, r3, r4, r5, r6, (q : Int)]] from hsn.out)
                clear hsn
                have hsn := hsn2
                clear hsn2
                have hq9 : (exN nodes (st.take c)).length ≤ 1000000000000 := Nat.le_trans (hnL.out c) (by decide)
                obtain ⟨N8, hN8⟩ : ∃ N8, exN nodes (st.take c) ++ [(y0, y1, ([] : List Nat))] = N8 := ⟨_, rfl⟩
                rw [hN8] at hfq hnl8 hnn
                replace hN8 := Lib.hid hN8
                replace hq := Lib.hid hq
                go_wp2_with fail
                refine hHF0.out.mono ?_
                rintro e w7 ⟨rfl, hb7⟩
                have hA7 := hb7.alloc hb7.size (.cells #[.int .i64 y0, .int .i64 y1] 113)
                have hnd7 := hndc.keep (EPr.stab _) hA7
                have kN7 := (hb7.block _ (Array.getElem?_eq_some_iff.1 kN).1).trans kN
                obtain ⟨p0, p1⟩ := box2 kN7
                have kN7a := (hA7.block _ (Array.getElem?_eq_some_iff.1 kN).1).trans kN
                have kX7a := (hA7.block _ (Array.getElem?_eq_some_iff.1 kXc).1).trans kXc
                have hneN := hnd.ownLt hbnl
                have hc2 : ∀ u ∈ [Value.int .i64 y0, .int .i64 y1], u.oneCell' = true := fun u hu => by
                  simp only [List.mem_cons, List.not_mem_nil, or_false] at hu
                  rcases hu with rfl | rfl <;> rfl
                have hEn : EPr (w7.alloc (.cells #[.int .i64 y0, .int .i64 y1] 113)) [.int .i64 y0, .int .i64 y1] (y0, y1, []) := ⟨rfl, rfl⟩
                have hB9 : w.heap.size ≤ (w7.alloc (.cells #[.int .i64 y0, .int .i64 y1] 113)).heap.size := Nat.le_trans hbrc.size hA7.size
                replace hc2 := Lib.hid hc2
                replace hEn := Lib.hid hEn
                clear n0 n1
                go_wp2_with (at_builtin; refine wpList_appX (x := (y0, y1, [])) (cs := [.int .i64 y0, .int .i64 y1]) elemPr (by decide) (by decide) (EPr.stab _) rfl _ _ rfl rfl hnd7 ⟨w7.heap.size, 0, none⟩ 1 rfl rfl newCells hc2.out hEn.out hq9 hB9 ?_)
                intro nv2 w8 ho8 hg8 hn8 hb8 hx8
                have hnd8 : OwX 113 2 EPr w8 w.heap.size nv2 N8.length N8 := by rw [← hN8.out, List.length_append]; exact ho8
                have hne8 := NewAt.ne hn8 hne (Array.getElem?_eq_some_iff.1 kX7a).1
                obtain ⟨na2, nc2, hnv2⟩ := hnd8.shape
                subst hnv2
                have kN8 := grown_keep hg8 hneN kN7a
                have kX8 := grown_keep hg8 hne kX7a
                have hml8 := (hmlc.keep (EI.stab _) hA7).other (E' := 113) (EI.stab _) (by decide) hx8
                have hX8 := (hXc.trans (KeepX.below hA7)).trans hx8
                have hbr8 := (bt hbrc hA7 hbrc.size).trans hb8
                have hsz8 := Nat.le_trans (Nat.le_trans hszc hA7.size) hb8.size
                clear hndc kN kXc hmlc hml hnd kX p0 p1 hnd7 kN7 kN7a kX7a ho8 hB9
                have hHF := Lib.hid (refFind (hnd8.keep (EPr.stab _) ((Below.refl _ w8).drew)) hnl8 y0 y1)
                rw [hfq] at hHF
                have hmc8 := ((hRc.out w8 hX8).intCells hltj).2
                rw [hr.out] at hmc8
                obtain ⟨c0, c1, c2, c3, c4, c5, c6⟩ := hmc8.all7
                obtain ⟨n0, n1⟩ := box2 kN8
                have hc8 : ∀ u ∈ [Value.int .i64 r0, .int .i64 r1, .int .i64 r2, .int .i64 r3, .int .i64 r4, .int .i64 r5, .int .i64 r6, .int .i64 (q : Int)], u.oneCell' = true := fun u hu => by
                  simp only [List.mem_cons, List.not_mem_nil, or_false] at hu
                  rcases hu with rfl | rfl | rfl | rfl | rfl | rfl | rfl | rfl <;> rfl
                have hc9 : c ≤ 1000000000000 := by omega
                replace hc8 := Lib.hid hc8
                replace hfq := Lib.hid hfq
                replace hkd := Lib.hid hkd
                replace ha := Lib.hid ha
                have hK8 := Lib.hid (fun W (hb : Below w8.heap.size w8 W) => let h1 := box2 ((hb.block _ (Array.getElem?_eq_some_iff.1 kN8).1).trans kN8); let h2 := (hmc8.keep hb).all7; And.intro h1.1 (And.intro h1.2 h2))
                have hK9 := Lib.hid (fun W (hb : Below w8.heap.size w8 W) W' (hx : KeepX 58 W W') => let h1 := box2 (hx.size ((hb.block _ (Array.getElem?_eq_some_iff.1 kN8).1).trans kN8) (by decide)); And.intro h1.1 (And.intro h1.2 (show CI W' gr (j * 7) [r0, r1, r2, r3, r4, r5, r6] from by have h := ((((hRc.out w8 hX8).keep (EI.stab _) hb).other (E' := 58) (EI.stab _) (by decide) hx).intCells hltj).2; rw [hr.out] at h; exact h).all7))
                clear hmc8
                have hml8s := Lib.hid hml8
                go_wp2_with fail
                go_region_held3 (fun w' => w'.cell? ⟨bn, 0, none⟩ = some (.int .i64 y0) ∧ w'.cell? ⟨bn, 1, none⟩ = some (.int .i64 y1) ∧ w'.cell? ⟨gr, j * 7, none⟩ = some (.int .i64 r0) ∧ w'.cell? ⟨gr, j * 7 + 1, none⟩ = some (.int .i64 r1) ∧ w'.cell? ⟨gr, j * 7 + 2, none⟩ = some (.int .i64 r2) ∧ w'.cell? ⟨gr, j * 7 + 3, none⟩ = some (.int .i64 r3) ∧ w'.cell? ⟨gr, j * 7 + 4, none⟩ = some (.int .i64 r4) ∧ w'.cell? ⟨gr, j * 7 + 5, none⟩ = some (.int .i64 r5) ∧ w'.cell? ⟨gr, j * 7 + 6, none⟩ = some (.int .i64 r6))
                  (first
                    | go_keep
                    | (exact hK8.out _ hB9)
                    | (exact hK9.out _ (hB9.alloc hB9.size _) _ hx10))
                  (first
                    | (go_at_call 72; (with_reducible refine hHF.out.mono ?_); rintro e w9 ⟨rfl, hb9⟩; have hB9 : Below w8.heap.size w8 w9 := below_of_drew hb9; have hml9 := (hml8s.out.keep (EI.stab _) hB9).keep (EI.stab _) ((Below.refl _ w9).alloc (Nat.le_refl _) (.cells #[.int .i64 r0, .int .i64 r1, .int .i64 r2, .int .i64 r3, .int .i64 r4, .int .i64 r5, .int .i64 r6, .int .i64 (q : Int)] 58)); have hs9 : w6.heap.size ≤ (w9.alloc (.cells #[.int .i64 r0, .int .i64 r1, .int .i64 r2, .int .i64 r3, .int .i64 r4, .int .i64 r5, .int .i64 r6, .int .i64 (q : Int)] 58)).heap.size := Nat.le_trans hsz8 (Nat.le_trans hB9.size (by simp)))
                    | ((refine step_appX (cs := [.int .i64 r0, .int .i64 r1, .int .i64 r2, .int .i64 r3, .int .i64 r4, .int .i64 r5, .int .i64 r6, .int .i64 (q : Int)]) (x := [r0, r1, r2, r3, r4, r5, r6, (q : Int)]) elemMv (by decide) (by decide) (EI.stab _) (by rfl) _ _ (by rfl) (by rfl) hml9 ⟨w9.heap.size, 0, none⟩ 1 (by rfl) rfl newCells hc8.out rfl hc9 hs9 ?_; intro lv w10 hml10 hg10 hn10 hb10 hx10)))
                have hB10 := hB9.alloc hB9.size (.cells #[.int .i64 r0, .int .i64 r1, .int .i64 r2, .int .i64 r3, .int .i64 r4, .int .i64 r5, .int .i64 r6, .int .i64 (q : Int)] 58)
                have hnd10 := (hnd8.keep (EPr.stab _) hB10).other (E' := 58) (EPr.stab _) (by decide) hx10
                have hX10 := (hX8.trans (KeepX.below hB10)).behind hb10
                have hbr10 := (bt hbr8 hB10 hbr8.size).trans (hb10.mono hbw6.size)
                have hsz10 := Nat.le_trans hs9 hb10.size
                have kX10 := (hb10.block _ hsz6).trans ((hB10.block _ (Array.getElem?_eq_some_iff.1 kX8).1).trans kX8)
                rw [← hsn.out] at hml10
                clear hnd8 hml8 hml8s kN8 kX8
                go_wp2
                go_roundw
                case rel => exact ⟨j + 1, c + 1, by go_num, hltj, hc1, hF3, by rw [hnn.out]; exact hnd10, hml10, hX10, hbr10, hsz10, kX10, hne8⟩
                case measure => simp [intOf]; omega
            · exact absurd rfl hkp
        · obtain rfl : j = RS.length := by omega
          have hge : ¬ ((RS.length : Int) < (RS.length : Int)) := by omega
          have hF2 := hF.out
          rw [List.take_length, ← hst3.out] at hF2
          obtain rfl : c = st.length := by
            have h := congrArg List.length hF2
            rw [List.length_take] at h; omega
          have hlt2 : (exL nodes st).take st.length = exL nodes st := by rw [← hell.out, List.take_length]
          rw [hlt2] at hml
          rw [List.take_length] at hnd hne ⊢
          have hNP := Lib.hid (fun z (hz : z ∈ exN nodes st) => by have := hnP.out st.length z; rw [List.take_length] at this; exact this hz)
          have hND : Hid ((exN nodes st).Nodup) := exN_nodup hPn.out.2
          have hNL : (exN nodes st).length ≤ 1056 := by have := hnL.out st.length; rwa [List.take_length] at this
          have hst' := hst6.other (E' := 113) (ESt.stab (by decide)) (by decide) hX
          have kA := hX.size kA6 (by decide)
          have kB := hX.size kB6 (by decide)
          have kO := hX.size kO6 (by decide)
          have kR := hX.size kR6 (by decide)
          have hES : ESt wr [.slice la st.length lc] (exL nodes st) := ⟨_, rfl, by rw [hell.out]; exact hml.base (Nat.zero_le _)⟩
          have hmN := movesN_snoc out (exL nodes st)
          have hNg : nodes.length ≤ (exN nodes st).length := exN_ge
          rw [hell.out] at hmN
          have hgo := Lib.hid (fun (hb : ¬ (256 < (exN nodes st).length ∨ 4096 < movesN (out ++ [exL nodes st]))) => show exG (prSt false az bz) f (i + 1) (exN nodes st) (out ++ [exL nodes st]) = some R by
            rw [← hg.out]
            have h := exG_step (step := prSt false az bz) (f := f) (out := out) hxi.out (by rw [hstp.out]; exact hb)
            rw [hstp.out] at h
            exact h.symm)
          have hno := Lib.hid (fun (hb : 256 < (exN nodes st).length ∨ 4096 < movesN (out ++ [exL nodes st])) => show R = none by
            have h := exG_big (step := prSt false az bz) (f := f) (out := out) hxi.out (by rw [hstp.out]; exact hb)
            have h2 := hg.out
            rw [h] at h2
            injection h2 with h2
            exact h2.symm)
          rw [hmN] at hgo hno
          obtain ⟨Nn, hNn⟩ : ∃ Nn, exN nodes st = Nn := ⟨_, rfl⟩
          obtain ⟨l, hl⟩ : ∃ l, exL nodes st = l := ⟨_, rfl⟩
          rw [hNn] at hnd hNP hND hNL hgo hno hNg hne ⊢
          rw [hl] at hml hES hgo hmN
          obtain ⟨M, hM⟩ : ∃ M, movesN out = M := ⟨_, rfl⟩
          rw [hM] at hgo hno hmN hm4
          have hll : l.length = st.length := by rw [← hl]; exact hell.out
          have hc1 : ∀ u ∈ (#[.slice la st.length lc] : Array Value).toList, u.oneCell' = true := fun u hu => by
            rw [List.mem_singleton.1 hu]; rfl
          have hn9 : out.length ≤ 1000000000000 := by omega
          have d1 := box_cell (j := 1) kO rfl
          have hB9 : w.heap.size ≤ wr.heap.size := hbr.size
          have holi := hol.out
          have hol6 : out.length + 1 ≤ 256 := by omega
          replace hc1 := Lib.hid hc1
          replace hES := Lib.hid hES
          replace hmN := Lib.hid hmN
          replace hNn := Lib.hid hNn
          replace hl := Lib.hid hl
          replace hell := Lib.hid hell
          replace holi := Lib.hid holi
          replace hM := Lib.hid hM
          replace hll := Lib.hid hll
          clear hlt2 hnP hnL hX kA6 kB6 kR6 kO6 hst6 hg hF hF2 hRc hRo kX hst3 hst2 hRS hstp
          go_wp2_with (at_builtin; refine wpAppX (x := l) elemSt (by decide) (by decide) (ESt.stab (by decide)) rfl _ _ rfl rfl hst' rfl rfl rfl hc1.out hES.out hn9 hB9 ?_)
          intro sv2 w2 hst2 hg2 hb2 hx2
          obtain ⟨v2a, v2c, hsv2⟩ := hst2.shape
          subst hsv2
          have kA2 := hx2.size kA (by decide)
          have kB2 := hx2.size kB (by decide)
          have kO2 := hx2.size kO (by decide)
          have kR2 := hx2.size kR (by decide)
          have hnd2 := hnd.other (E' := 59) (EPr.stab _) (by decide) hx2
          have hbr2 := hbr.trans hb2
          obtain ⟨e0, e1⟩ := box2 kO2
          have ef1 := row_free kO2 1
          obtain ⟨w3, hw3⟩ : ∃ w3, w3 = w2.setCell ⟨w.heap.size + 1 + 1 + 1 + 1, 1, none⟩ (.slice v2a (out.length + 1) v2c) := ⟨_, rfl⟩
          have kO3 : w3.heap[w.heap.size + 1 + 1 + 1 + 1]? = some (.cells #[.int .i64 m, .slice v2a (out.length + 1) v2c] 24) := by rw [hw3]; exact two_setCell kO2
          have hX3 : KeepX 24 w2 w3 := by rw [hw3]; exact KeepX.setCell (p := ⟨w.heap.size + 1 + 1 + 1 + 1, 1, none⟩) kO2 _
          have hst3 := hst2.other (E' := 24) (ESt.stab (by decide)) (by decide) hX3
          have hnd3 := hnd2.other (E' := 24) (EPr.stab _) (by decide) hX3
          have kA3 : w3.heap[w.heap.size]? = some (.cells #[.int .i64 m, .slice aa az.length ac] 24) := by rw [hw3]; exact (Below.heap_setCell _ _ _ _ (by show w.heap.size ≠ w.heap.size + 1 + 1 + 1 + 1; omega)).trans kA2
          have kB3 : w3.heap[w.heap.size + 1]? = some (.cells #[.int .i64 n, .slice ba bz.length bc] 24) := by rw [hw3]; exact (Below.heap_setCell _ _ _ _ (by show w.heap.size + 1 ≠ w.heap.size + 1 + 1 + 1 + 1; omega)).trans kB2
          have kR3 : w3.heap[w.heap.size + 1 + 1]? = some (.cells #[.int .i64 0, .slice none 0 0] 24) := by rw [hw3]; exact (Below.heap_setCell _ _ _ _ (by show w.heap.size + 1 + 1 ≠ w.heap.size + 1 + 1 + 1 + 1; omega)).trans kR2
          have hbr3 : Below w.heap.size w w3 := by rw [hw3]; exact Below.setCell (p := ⟨w.heap.size + 1 + 1 + 1 + 1, 1, none⟩) hbr2 (by show w.heap.size ≤ w.heap.size + 1 + 1 + 1 + 1; omega) _
          have hmo : movesN (out ++ [l]) = M + st.length := hmN.out
          have hAd3 : AdvV w3 (.agg #[.int .i64 m, .slice v2a (out.length + 1) v2c]) m (out ++ [l]) := OwAdv.adv (show OwAdv w3 _ m (out ++ [l]) from ⟨_, rfl, by rw [List.length_append]; exact hst3.base (Nat.zero_le _), by rw [List.length_append]; show _ + 1 ≤ _; omega, fun x hx => by
            have h1 := mem_movesN hx
            rw [hmo] at h1; omega⟩)
          have HMv := Lib.hid (fun W (hb : Below w3.heap.size w3 W) => refMoves (hAd3.keep hb) (by rw [List.length_append]; exact hol6))
          rw [hmo] at HMv
          replace hmo := Lib.hid hmo
          have hK3 := Lib.hid (fun W (hb : Below w3.heap.size w3 W) => And.intro (hnd3.keep (EPr.stab _) hb) (And.intro (hst3.keep (ESt.stab (by decide)) hb) (And.intro (bt hbr3 hb hbr3.size) (And.intro ((hb.block _ (Array.getElem?_eq_some_iff.1 kO3).1).trans kO3) (And.intro ((hb.block _ (Array.getElem?_eq_some_iff.1 kA3).1).trans kA3) (And.intro ((hb.block _ (Array.getElem?_eq_some_iff.1 kB3).1).trans kB3) ((hb.block _ (Array.getElem?_eq_some_iff.1 kR3).1).trans kR3)))))))
          obtain ⟨o0, o1⟩ := box2 kO3
          obtain ⟨y0, y1⟩ := box2 kR3
          have yf0 := row_free kR3 0
          have yf1 := row_free kR3 1
          have z0 : w3.setCell ⟨w.heap.size + 1 + 1, 0, none⟩ (.int .i64 0) = w3 := setSame y0
          have z1 : w3.setCell ⟨w.heap.size + 1 + 1, 1, none⟩ (.slice none 0 0) = w3 := setSame y1
          replace hw3 := Lib.hid hw3.symm
          clear kA kB kO kR hst' hnd kA2 kB2 kO2 kR2 hst2 hnd2 d1 hAd3 hst3 hnd3
          by_cases h1 : 256 < Nn.length
          · have hd : decide (256 < (Nn.length : Int)) = true := decide_eq_true (by omega)
            have hRn := hno.out (.inl h1)
            subst hRn
            replace h1 := Lib.hid h1
            rw [← hw3.out] at y0 y1 yf0 yf1 z0 z1
            go_wp2
            refine bodyPost_ret (v := .tuple #[.agg #[.int .i64 0, .slice none 0 0], .int .i64 17]) (by simp [results, Tryz.results34, go_sem, y0, y1]) rfl ?_
            rw [hw3.out]
            exact BdOut.no hbr3
          · have hd : decide (256 < (Nn.length : Int)) = false := decide_eq_false (by omega)
            rw [← hw3.out] at o0 o1
            clear y0 y1 yf0 yf1 z0 z1
            go_wp2_with fail
            rw [hw3.out]
            refine (HMv.out w3 (Below.refl _ _)).mono ?_
            rintro e w4 ⟨rfl, hb4⟩
            obtain ⟨hnd4, hst4, hbr4, kO4, kA4, kB4, kR4⟩ := hK3.out w4 hb4
            by_cases h2 : 4096 < M + st.length
            · have hd2 : decide (4096 < (M : Int) + (st.length : Int)) = true := decide_eq_true (by omega)
              have hRn := hno.out (.inr h2)
              subst hRn
              replace h1 := Lib.hid h1
              replace h2 := Lib.hid h2
              obtain ⟨y0, y1⟩ := box2 kR4
              have yf0 := row_free kR4 0
              have yf1 := row_free kR4 1
              have z0 : w4.setCell ⟨w.heap.size + 1 + 1, 0, none⟩ (.int .i64 0) = w4 := setSame y0
              have z1 : w4.setCell ⟨w.heap.size + 1 + 1, 1, none⟩ (.slice none 0 0) = w4 := setSame y1
              go_wp2
              refine bodyPost_ret (v := .tuple #[.agg #[.int .i64 0, .slice none 0 0], .int .i64 17]) (by simp [results, Tryz.results34, go_sem, y0, y1]) rfl ?_
              exact BdOut.no hbr4
            · have hd2 : decide (4096 < (M : Int) + (st.length : Int)) = false := decide_eq_false (by omega)
              have hg3 := hgo.out (fun h => by rcases h with h | h; exact h1 h; exact h2 h)
              replace hg3 := Lib.hid hg3
              have hn3 : Nn.length ≤ 256 := by omega
              have hi3 : i + 1 ≤ Nn.length := by omega
              have hm3 : movesN (out ++ [l]) ≤ 4096 := by rw [hmo.out]; omega
              have hol3 : (out ++ [l]).length = i + 1 := by rw [List.length_append, holi.out]; rfl
              replace hol3 := Lib.hid hol3
              replace hm3 := Lib.hid hm3
              go_wp2
              go_roundg f
              case measure => omega
              case rel => exact ⟨i + 1, Nn, out ++ [l], .slice v2a (out.length + 1) v2c, by go_num, hnd4, kO4, by rw [List.length_append]; exact hst4, hbr4, kA4, kB4, kR4, hg3, hi3, hn3, hm3.out, hol3, ⟨hNP.out, hND.out⟩⟩
    · have hRs : R = some out := by
        have h := exG_end (step := prSt false az bz) (f := f) (out := out) hlt
        have h2 := hg.out
        rw [h] at h2
        injection h2 with h2
        exact h2.symm
      subst hRs
      obtain rfl : i = nodes.length := by omega
      obtain ⟨na, nc, hnv⟩ := hnd.shape
      subst hnv
      have hge : ¬ ((nodes.length : Int) < (nodes.length : Int)) := by omega
      obtain ⟨d0, d1⟩ := box2 kO
      obtain ⟨y0, y1⟩ := box2 kR
      have yf := row_free kR
      have hr1 := heap_setCell_same wr (w.heap.size + 1 + 1) 0 _ _ (.int .i64 m) kR
      have hr2 := two_setCell (u := .slice sva out.length svc) hr1
      have hx2 := (KeepX.setCell (p := ⟨w.heap.size + 1 + 1, 0, none⟩) kR (.int .i64 m)).trans (KeepX.setCell (p := ⟨w.heap.size + 1 + 1, 1, none⟩) hr1 (.slice sva out.length svc))
      have hbe := (hbw.setCell (p := ⟨w.heap.size + 1 + 1, 0, none⟩) (by show w.heap.size ≤ w.heap.size + 1 + 1; omega) (.int .i64 m)).setCell (p := ⟨w.heap.size + 1 + 1, 1, none⟩) (by show w.heap.size ≤ w.heap.size + 1 + 1; omega) (.slice sva out.length svc)
      obtain ⟨z0, z1⟩ := box2 hr2
      have hfin : OwAdv ((wr.setCell ⟨w.heap.size + 1 + 1, 0, none⟩ (.int .i64 m)).setCell ⟨w.heap.size + 1 + 1, 1, none⟩ (.slice sva out.length svc)) (.agg #[.int .i64 m, .slice sva out.length svc]) m out :=
        ⟨_, rfl, (hst.other (E' := 24) (ESt.stab (by decide)) (by decide) hx2).base (Nat.zero_le _), by omega, fun x hx => by have := mem_movesN hx; omega⟩
      replace hfin := Lib.hid hfin
      clear hr1 hr2 hx2 hst hnd kO kA kB
      go_wp2
      obtain ⟨W8, hW8⟩ : ∃ W8, W8 = (wr.setCell ⟨w.heap.size + 1 + 1, 0, none⟩ (.int .i64 m)).setCell ⟨w.heap.size + 1 + 1, 1, none⟩ (.slice sva out.length svc) := ⟨_, rfl⟩
      rw [← hW8] at z0 z1 hfin hbe ⊢
      clear hW8
      refine bodyPost_ret (v := .tuple #[.agg #[.int .i64 m, .slice sva out.length svc], .int .i64 0]) (by simp [results, Tryz.results34, go_sem, z0, z1]) rfl ?_
      exact BdOut.yes hfin.out hbe
end Go.Proofs.YtiiiegflobihjaaGreat

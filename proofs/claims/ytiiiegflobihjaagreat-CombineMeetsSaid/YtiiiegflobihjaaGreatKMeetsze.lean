/- Texts of this claim, put together: FB FM Y0. -/
import Derived.Test.YtiiiegflobihjaaGreatKMeetsw
import Derived.Test.YtiiiegflobihjaaGreatKMeetszd
import Derived.Test.YtiiiegflobihjaaGreatKMeetst
import Derived.Test.YtiiiegflobihjaaGreatKMeetss
import Derived.Test.YtiiiegflobihjaaGreatKMeetsa
import Derived.Test.YtiiiegflobihjaaGreatKMeetsv
import Derived.Lib.SmallJoins

/- The reference's And; And's results, one form for program and reference. -/
namespace Go.Proofs.YtiiiegflobihjaaGreat
open Go.RowKit

set_option maxRecDepth 100000 in
set_option maxHeartbeats 1600000 in
theorem refAndGood {w : World} {u v : Value} {m n : Int} {xs ys : List (List (List Int))} (hx : AdvV w u m xs) (hy : AdvV w v n ys) (h0 : eqErr m n xs ys = 0) (wA : AdOK xs) (wB : AdOK ys) :
    Calls Tryz.prog 14 #[u, v] w (AndOut w m (prA true xs ys)) := by
  obtain ⟨xa, xc, hu⟩ := advShape' hx
  obtain ⟨ya, yc, hv⟩ := advShape' hy
  subst hu hv
  obtain ⟨W1, hW1⟩ : ∃ W1, W1 = ((w.alloc (.cells #[.int .i64 m, .slice xa xs.length xc] 24)).alloc (.cells #[.int .i64 n, .slice ya ys.length yc] 24)).alloc (.cells #[.int .i64 0, .slice none 0 0] 24) := ⟨_, rfl⟩
  have hb1 : Below w.heap.size w W1 := by rw [hW1]; exact (((Below.refl _ w).alloc (Nat.le_refl _) _).alloc (by simp) _).alloc (by first | (simp; done) | (simp; omega)) _
  have kX : W1.heap[w.heap.size]? = some (.cells #[.int .i64 m, .slice xa xs.length xc] 24) := by
    rw [hW1]; exact (Below.heap_alloc _ _ _ (by first | (simp; done) | (simp; omega))).trans ((Below.heap_alloc _ _ _ (by simp)).trans (heap_alloc_new w _))
  have kY : W1.heap[w.heap.size + 1]? = some (.cells #[.int .i64 n, .slice ya ys.length yc] 24) := by
    rw [hW1]
    have := heap_alloc_new (w.alloc (.cells #[.int .i64 m, .slice xa xs.length xc] 24)) (.cells #[.int .i64 n, .slice ya ys.length yc] 24)
    rw [World.size_alloc] at this
    exact (Below.heap_alloc _ _ _ (by simp)).trans this
  have kR : W1.heap[w.heap.size + 1 + 1]? = some (.cells #[.int .i64 0, .slice none 0 0] 24) := by
    rw [hW1]
    have := heap_alloc_new ((w.alloc (.cells #[.int .i64 m, .slice xa xs.length xc] 24)).alloc (.cells #[.int .i64 n, .slice ya ys.length yc] 24)) (.cells #[.int .i64 0, .slice none 0 0] 24)
    rwa [World.size_alloc, World.size_alloc] at this
  have HC := Lib.hid (refBoth18 (hx.keep hb1) (hy.keep hb1))
  rw [h0] at HC
  have HX := Lib.hid (fun W (hb : Below W1.heap.size W1 W) => (hx.keep hb1).keep hb)
  have HY := Lib.hid (fun W (hb : Below W1.heap.size W1 W) => (hy.keep hb1).keep hb)
  have hK := Lib.hid (fun W (hb : Below W1.heap.size W1 W) => And.intro (box2 ((hb.block _ (Array.getElem?_eq_some_iff.1 kX).1).trans kX)) (And.intro (box2 ((hb.block _ (Array.getElem?_eq_some_iff.1 kY).1).trans kY)) ((hb.block _ (Array.getElem?_eq_some_iff.1 kR).1).trans kR)))
  have hR := prA_eq true xs ys
  obtain ⟨R, hRR⟩ : ∃ R, prA true xs ys = R := ⟨_, rfl⟩
  rw [hRR] at hR ⊢
  replace hR := Lib.hid hR
  replace hRR := Lib.hid hRR
  clear hx hy kX kY kR h0
  go_enter Tryz.func14, Tryz.ntmps14
  go_wp2_with fail
  rw [← hW1]
  replace hW1 := Lib.hid hW1
  refine HC.out.mono ?_
  rintro e W2 ⟨rfl, hb2⟩
  obtain ⟨⟨a0, a1⟩, ⟨b0, b1⟩, _⟩ := hK.out W2 hb2
  have HP := Lib.hid (refPairedAnd (HX.out W2 hb2) (HY.out W2 hb2) wA wB)
  rw [hRR.out] at HP
  go_wp2_with fail
  clear a0 a1 b0 b1
  refine HP.out.mono ?_
  intro e W4 hO
  have B3 := hb2
  have hbw3 := bt hb1 B3 hb1.size
  cases R with
  | none =>
    obtain ⟨rfl, hb4⟩ := hO
    have B4 := btt B3 hb4
    obtain ⟨_, _, kR4⟩ := hK.out W4 B4
    obtain ⟨W5, hW5⟩ : ∃ W5, W5 = W4.alloc (.cells #[.int .i64 0, .slice none 0 0] 24) := ⟨_, rfl⟩
    have hb5 : Below W4.heap.size W4 W5 := by rw [hW5]; exact (Below.refl _ _).alloc (Nat.le_refl _) _
    have kR5 := kept hb5 kR4
    obtain ⟨y0, y1⟩ := box2 kR5
    have yf0 := row_free kR5 0
    have yf1 := row_free kR5 1
    have z0 : W5.setCell ⟨w.heap.size + 1 + 1, 0, none⟩ (.int .i64 0) = W5 := setSame y0
    have z1 : W5.setCell ⟨w.heap.size + 1 + 1, 1, none⟩ (.slice none 0 0) = W5 := setSame y1
    have hbf := bt (bt hbw3 hb4 hbw3.size) hb5 (bt hbw3 hb4 hbw3.size).size
    clear kR4 kR5 hb5
    subst hW5
    go_wp2
    refine bodyPost_ret (v := .tuple #[.agg #[.int .i64 0, .slice none 0 0], .int .i64 17]) (by simp [results, Tryz.results14, go_sem, y0, y1]) rfl ?_
    exact BdOut.no (n := m) hbf
  | some ss =>
    obtain ⟨uo, rfl, hA, hb4⟩ := hO
    have B4 := btt B3 hb4
    have wS := prA_Ad wA wB hRR.out
    obtain ⟨sv, rfl, hrow, hl1, hl2⟩ := id hA
    obtain ⟨sva, svc, hsv⟩ := hrow.shape
    subst hsv
    obtain ⟨W5, hW5⟩ : ∃ W5, W5 = W4.alloc (.cells #[.int .i64 m, .slice sva ss.length svc] 24) := ⟨_, rfl⟩
    have hb5 : Below W4.heap.size W4 W5 := by rw [hW5]; exact (Below.refl _ _).alloc (Nat.le_refl _) _
    have k7 : W5.heap[W4.heap.size]? = some (.cells #[.int .i64 m, .slice sva ss.length svc] 24) := by rw [hW5]; exact heap_alloc_new _ _
    have hA5 := hA.adv.keep hb5
    have HE := Lib.hid (refAlive hA5 wS)
    go_wp2_with fail
    rw [← hW5]
    replace hW5 := Lib.hid hW5
    refine HE.out.mono ?_
    rintro e W6 ⟨ul, rfl, hOl, hb6⟩
    have hb46 := btt hb5 hb6
    have B6 := bt B4 hb46 B4.size
    obtain ⟨g, cap, rfl, hgB, hgl⟩ := hOl.form wS.pos
    have l0 := hOl.cell (j := 0) wS.pos
    obtain ⟨⟨a0, a1⟩, _, kR7⟩ := hK.out W6 B6
    have k7' := kept hb6 k7
    obtain ⟨t0, t1⟩ := box2 k7'
    have hA7 := hA5.keep hb6
    have hbw7 := bt hb1 B6 hb1.size
    obtain ⟨q, hq⟩ : ∃ q, (lvA ss).getD 0 false = q := ⟨_, rfl⟩
    have hpos : (0 : Int) < (ss.length : Int) := by have := wS.pos; omega
    rw [hq] at l0
    obtain ⟨y0, y1⟩ := box2 kR7
    have yf := row_free kR7
    cases q
    · have z0 : W6.setCell ⟨w.heap.size + 1 + 1, 0, none⟩ (.int .i64 0) = W6 := setSame y0
      have z1 : W6.setCell ⟨w.heap.size + 1 + 1, 1, none⟩ (.slice none 0 0) = W6 := setSame y1
      have yf0 := yf 0
      have yf1 := yf 1
      clear a0 a1 t0 t1 kR7 k7' hOl hA7
      replace hq := Lib.hid hq
      go_wp2
      refine bodyPost_ret (v := .tuple #[.agg #[.int .i64 0, .slice none 0 0], .int .i64 16]) (by simp [results, Tryz.results14, go_sem, y0, y1]) rfl ?_
      exact AndOut.no hq.out hbw7
    · obtain ⟨h256, h4096⟩ := prA_lim hRR.out
      obtain ⟨S, hS⟩ := lv_some wS h256 h4096 (lvA ss)
      have hRv : lvR ss = some S := by rw [lvR, hS]; rfl
      have HR := Lib.hid (refRenum hA7 wS h256 h4096 rfl hOl hS)
      replace hRv := Lib.hid hRv
      clear y0 y1 yf k7' hOl hA7 a0 a1
      replace hq := Lib.hid hq
      go_wp2_with fail
      refine HR.out.mono ?_
      rintro e W8 ⟨uo, rfl, hA8, hb8⟩
      have B8 := btt B6 hb8
      obtain ⟨_, _, kR8⟩ := hK.out W8 B8
      have hA' := hA8
      obtain ⟨sv, rfl, hrow8, hl8, hl9⟩ := hA'
      obtain ⟨sva8, svc8, hsv8⟩ := hrow8.shape
      subst hsv8
      obtain ⟨y0, y1⟩ := box2 kR8
      have yf := row_free kR8
      have hr1 := heap_setCell_same W8 (w.heap.size + 1 + 1) 0 _ _ (.int .i64 m) kR8
      have hr2 := two_setCell (u := .slice sva8 S.length svc8) hr1
      have hx2 := (KeepX.setCell (p := ⟨w.heap.size + 1 + 1, 0, none⟩) kR8 (.int .i64 m)).trans (KeepX.setCell (p := ⟨w.heap.size + 1 + 1, 1, none⟩) hr1 (.slice sva8 S.length svc8))
      have hbw8 := bt hbw7 hb8 hbw7.size
      have hbe := (hbw8.setCell (p := ⟨w.heap.size + 1 + 1, 0, none⟩) (by show w.heap.size ≤ w.heap.size + 1 + 1; omega) (.int .i64 m)).setCell (p := ⟨w.heap.size + 1 + 1, 1, none⟩) (by show w.heap.size ≤ w.heap.size + 1 + 1; omega) (.slice sva8 S.length svc8)
      obtain ⟨z0, z1⟩ := box2 hr2
      have hfin := hA8.other hx2
      replace hfin := Lib.hid hfin
      clear hr1 hr2 hx2 hrow8 hA8 kR8 t0 t1 l0
      go_wp2
      obtain ⟨W9, hW9⟩ : ∃ W9, W9 = (W8.setCell ⟨w.heap.size + 1 + 1, 0, none⟩ (.int .i64 m)).setCell ⟨w.heap.size + 1 + 1, 1, none⟩ (.slice sva8 S.length svc8) := ⟨_, rfl⟩
      rw [← hW9] at z0 z1 hfin hbe ⊢
      clear hW9
      refine bodyPost_ret (v := .tuple #[.agg #[.int .i64 m, .slice sva8 S.length svc8], .int .i64 0]) (by simp [results, Tryz.results14, go_sem, z0, z1]) rfl ?_
      refine AndOut.yes hq.out ?_
      rw [hRv.out]
      exact BdOut.yes hfin.out hbe

/-- What And hands back. -/
def andR2 (m : Int) (R : Option (List (List (List Int)))) : Int × Int × List (List (List Int)) := match R with | none => (17, 0, []) | some ss => if (lvA ss).getD 0 false = true then rsOf m (lvR ss) else (16, 0, [])
def andRs (m n : Int) (xs ys : List (List (List Int))) : Int × Int × List (List (List Int)) :=
  if eqErr m n xs ys ≠ 0 then (eqErr m n xs ys, 0, []) else andR2 m (prA true xs ys)
theorem RsOut.ofAnd {w w' : World} {m : Int} {R : Option (List (List (List Int)))} {e : Ending} (h : AndOut w m R e w') : RsOut w (andR2 m R) e w' := by
  cases R with
  | none => exact RsOut.ofBd (m := m) (R := none) h
  | some ss =>
    have h : (if (lvA ss).getD 0 false = true then BdOut w m (lvR ss) e w' else e = .returned (.tuple #[.agg #[.int .i64 0, .slice none 0 0], .int .i64 16]) ∧ Below w.heap.size w w') := h
    show RsOut w (if (lvA ss).getD 0 false = true then rsOf m (lvR ss) else (16, 0, [])) e w'
    by_cases hq : (lvA ss).getD 0 false = true
    · rw [if_pos hq] at h ⊢
      exact RsOut.ofBd h
    · rw [if_neg hq] at h ⊢
      obtain ⟨rfl, hb⟩ := h
      exact ⟨_, rfl, advZero w', hb⟩
theorem andAll {w : World} {u v : Value} {m n : Int} {xs ys : List (List (List Int))} (hx : AdvV w u m xs) (hy : AdvV w v n ys) (fx : fewA xs = true) (fy : fewA ys = true) : Calls Tryz.prog 13 #[u, v] w (RsOut w (andRs m n xs ys)) := by
  obtain ⟨x1, x2⟩ := fewA_le fx
  obtain ⟨y1, y2⟩ := fewA_le fy
  by_cases h0 : eqErr m n xs ys = 0
  · obtain ⟨c1, c2, _⟩ := eqErr_zero h0
    rw [andRs, if_neg (fun h => h h0)]
    exact (andGood hx hy (by omega) (by omega) h0 (adS_of hx.len8 c1 x1 x2).ok (adS_of hy.len8 c2 y1 y2).ok).mono fun _ _ h => RsOut.ofAnd h
  · rw [andRs, if_pos h0]
    refine (andBad hx hy (by omega) (by omega) h0).mono ?_
    rintro e w' ⟨rfl, hb⟩
    exact ⟨_, rfl, advZero w', hb⟩
theorem refAndAll {w : World} {u v : Value} {m n : Int} {xs ys : List (List (List Int))} (hx : AdvV w u m xs) (hy : AdvV w v n ys) (fx : fewA xs = true) (fy : fewA ys = true) : Calls Tryz.prog 14 #[u, v] w (RsOut w (andRs m n xs ys)) := by
  obtain ⟨x1, x2⟩ := fewA_le fx
  obtain ⟨y1, y2⟩ := fewA_le fy
  by_cases h0 : eqErr m n xs ys = 0
  · obtain ⟨c1, c2, _⟩ := eqErr_zero h0
    rw [andRs, if_neg (fun h => h h0)]
    exact (refAndGood hx hy h0 (adS_of hx.len8 c1 x1 x2).ok (adS_of hy.len8 c2 y1 y2).ok).mono fun _ _ h => RsOut.ofAnd h
  · rw [andRs, if_pos h0]
    refine (refAndBad hx hy h0).mono ?_
    rintro e w' ⟨rfl, hb⟩
    exact ⟨_, rfl, advZero w', hb⟩
end Go.Proofs.YtiiiegflobihjaaGreat

/- The law CombineMeets. -/
namespace Go.Proofs.YtiiiegflobihjaaGreat
open Go.RowKit

set_option maxRecDepth 100000 in
set_option maxHeartbeats 1600000 in
theorem lawMeets {w : World} {u v : Value} {m n : Int} {xs ys : List (List (List Int))} (hx : AdvV w u m xs) (hy : AdvV w v n ys) :
    Calls Tryz.prog 4 #[u, v] w fun e w' => e = .returned (.bool true) ∧ Below w.heap.size w w' := by
  obtain ⟨xa, xc, hu⟩ := advShape' hx
  obtain ⟨ya, yc, hv⟩ := advShape' hy
  subst hu hv
  obtain ⟨W1, hW1⟩ : ∃ W1, W1 = (w.alloc (.cells #[.int .i64 m, .slice xa xs.length xc] 24)).alloc (.cells #[.int .i64 n, .slice ya ys.length yc] 24) := ⟨_, rfl⟩
  obtain ⟨hb1, ⟨p0, p1⟩, ⟨q0, q1⟩, _, hs1⟩ := boxAdv2 hW1
  replace hs1 := Lib.hid hs1
  have HX := Lib.hid (fun W (hb : Below W1.heap.size W1 W) => (hx.keep hb1).keep hb)
  have HY := Lib.hid (fun W (hb : Below W1.heap.size W1 W) => (hy.keep hb1).keep hb)
  have HF := Lib.hid (refFew (HX.out W1 (Below.refl _ _)))
  have HG := Lib.hid (fun W (hb : Below W1.heap.size W1 W) => refFew (HY.out W hb))
  have HK := Lib.hid (fun W (hb : Below W1.heap.size W1 W) => And.intro (cell_kept hb p0) (And.intro (cell_kept hb p1) (And.intro (cell_kept hb q0) (cell_kept hb q1))))
  obtain ⟨fx, hfx1⟩ : ∃ fx, fewA xs = fx := ⟨_, rfl⟩
  obtain ⟨fy, hfy1⟩ : ∃ fy, fewA ys = fy := ⟨_, rfl⟩
  rw [hfx1] at HF
  simp only [hfy1] at HG
  replace hfx1 := Lib.hid hfx1
  replace hfy1 := Lib.hid hfy1
  clear hx hy
  cases fx
  · go_enter Tryz.func4, Tryz.ntmps4
    go_wp2_with fail
    rw [← hW1]
    refine HF.out.mono ?_
    rintro e W2 ⟨rfl, hb2⟩
    go_wp2_with fail
    refine (awakeK W2 (bt hb1 hb2 hb1.size) (Nat.le_trans hb1.size hb2.size)).mono ?_
    rintro e W3 ⟨rfl, hb3⟩
    go_wp2
    go_ret
    exact ⟨rfl, hb3⟩
  · cases fy
    · go_enter Tryz.func4, Tryz.ntmps4
      go_wp2_with fail
      rw [← hW1]
      refine HF.out.mono ?_
      rintro e W2 ⟨rfl, hb2⟩
      obtain ⟨a0, a1, a2, a3⟩ := HK.out W2 hb2
      go_wp2_with fail
      refine (HG.out W2 hb2).mono ?_
      rintro e W3 ⟨rfl, hb3⟩
      have B3 := btt hb2 hb3
      go_wp2_with fail
      refine (awakeK W3 (bt hb1 B3 hb1.size) (Nat.le_trans hb1.size B3.size)).mono ?_
      rintro e W4 ⟨rfl, hb4⟩
      go_wp2
      go_ret
      exact ⟨rfl, hb4⟩
    · have HE := Lib.hid (fun W (hb : Below W1.heap.size W1 W) => andAll (HX.out W hb) (HY.out W hb) hfx1.out hfy1.out)
      have HR := Lib.hid (fun W (hb : Below W1.heap.size W1 W) => refAndAll (HX.out W hb) (HY.out W hb) hfx1.out hfy1.out)
      obtain ⟨r, hr⟩ : ∃ r, andRs m n xs ys = r := ⟨_, rfl⟩
      simp only [hr] at HE HR
      obtain ⟨E, N, R⟩ := r
      replace hr := Lib.hid hr
      have e1 : (E == E) = true := by simp
      go_enter Tryz.func4, Tryz.ntmps4
      go_wp2_with fail
      rw [← hW1]
      refine HF.out.mono ?_
      rintro e W2 ⟨rfl, hb2⟩
      obtain ⟨a0, a1, a2, a3⟩ := HK.out W2 hb2
      go_wp2_with fail
      refine (HG.out W2 hb2).mono ?_
      rintro e W3 ⟨rfl, hb3⟩
      have B3 := btt hb2 hb3
      obtain ⟨c0, c1, c2, c3⟩ := HK.out W3 B3
      go_wp2_with fail
      clear a0 a1 a2 a3 c0 c1 c2 c3
      refine (HE.out W3 B3).mono ?_
      rintro e W4 ⟨u4, rfl, hX4, hb4⟩
      have hX4 : AdvV W4 u4 N R := hX4
      obtain ⟨sa, sc, hs4⟩ := advShape' hX4
      subst hs4
      have B4 := btt B3 hb4
      obtain ⟨W5, hW5⟩ : ∃ W5, W5 = W4.alloc (.cells #[.int .i64 N, .slice sa R.length sc] 24) := ⟨_, rfl⟩
      have hb5 : Below W4.heap.size W4 W5 := by rw [hW5]; exact (Below.refl _ _).alloc (Nat.le_refl _) _
      have kX5 : W5.heap[W4.heap.size]? = some (.cells #[.int .i64 N, .slice sa R.length sc] 24) := by rw [hW5]; exact heap_alloc_new _ _
      have hX5 := hX4.keep hb5
      have B5 := btt B4 hb5
      obtain ⟨c0, c1, c2, c3⟩ := HK.out W5 B5
      rw [hW5] at c0 c1 c2 c3
      go_wp2_with fail
      rw [← hW5]
      replace hW5 := Lib.hid hW5
      clear c0 c1 c2 c3
      refine (HR.out W5 B5).mono ?_
      rintro e W6 ⟨u6, rfl, hY6, hb6⟩
      have hY6 : AdvV W6 u6 N R := hY6
      obtain ⟨ta, tc, hs6⟩ := advShape' hY6
      subst hs6
      have B6 := btt B5 hb6
      obtain ⟨W7, hW7⟩ : ∃ W7, W7 = W6.alloc (.cells #[.int .i64 N, .slice ta R.length tc] 24) := ⟨_, rfl⟩
      have hb7 : Below W6.heap.size W6 W7 := by rw [hW7]; exact (Below.refl _ _).alloc (Nat.le_refl _) _
      have kY7 : W7.heap[W6.heap.size]? = some (.cells #[.int .i64 N, .slice ta R.length tc] 24) := by rw [hW7]; exact heap_alloc_new _ _
      have B57 := btt hb6 hb7
      have B7 := btt B5 B57
      obtain ⟨c0, c1⟩ := box2 (kept B57 kX5)
      obtain ⟨d0, d1⟩ := box2 kY7
      have HS := Lib.hid (sameRef (hX5.keep B57) (hY6.keep hb7))
      rw [show (decide (N = N) && decide (R = R)) = true by simp] at HS
      rw [hW7] at c0 c1 d0 d1
      clear kX5 kY7
      go_wp2_with fail
      rw [← hW7]
      refine HS.out.mono ?_
      rintro e W8 ⟨rfl, hb8⟩
      have B8 := btt B7 hb8
      go_wp2_with fail
      refine (awakeK W8 (bt hb1 B8 hb1.size) (Nat.le_trans hb1.size B8.size)).mono ?_
      rintro e W9 ⟨rfl, hb9⟩
      go_wp2
      go_ret
      exact ⟨rfl, hb9⟩
end Go.Proofs.YtiiiegflobihjaaGreat

/- Readers of arguments: adversaries as plain data. -/
namespace Go.Proofs.YtiiiegflobihjaaGreat
open Go.RowKit Go.ChangeShapes Go.WideShapes Go.ChangeAt Go.Deep Go.WideElems

section
variable {H : Type} {enc : TypeId × Value → H} {w : World} {base : Nat} {spare : Nat → Bool} {held : Bool}

theorem eightL {cs : List Value} (h : cs.length = 8) : ∃ a b c d e f g i, cs = [a, b, c, d, e, f, g, i] := by
  match cs, h with
  | [a, b, c, d, e, f, g, i], _ => exact ⟨a, b, c, d, e, f, g, i, rfl⟩
theorem moveInts {fuel : Nat} {cs : List Value} {x : DataW H × List MemPlace} (h : DataW.trod enc Tryz.prog w base spare held fuel 58 cs = some x) : ∃ xs : List Int, xs.length = 8 ∧ cs = xs.map (Value.int .i64) := by
  have k84 : Tryz.prog.cellsOf 58 = 8 := by kernel_rfl
  have k79 : Tryz.prog.cellsOf 51 = 7 := by kernel_rfl
  have k77 : Tryz.prog.cellsOf 49 = 6 := by kernel_rfl
  have k75 : Tryz.prog.cellsOf 47 = 5 := by kernel_rfl
  have k3 : Tryz.prog.cellsOf 3 = 1 := by kernel_rfl
  obtain ⟨y0, y1, n, _, hl, h0, h1⟩ := trod_struct2 Tryz.underlying58 h
  rw [k84] at hl
  obtain ⟨c0, c1, c2, c3, c4, c5, c6, c7, rfl⟩ := eightL hl
  simp only [k79, k3, List.drop_zero, List.take_succ_cons, List.take_zero, List.drop_succ_cons] at h0 h1
  obtain ⟨i7, e7, _⟩ := DataW.trod_int Tryz.underlying3 h1
  obtain ⟨z0, z1, n2, _, _, g0, g1⟩ := trod_struct2 Tryz.underlying51 h0
  simp only [k77, k3, List.drop_zero, List.take_succ_cons, List.take_zero, List.drop_succ_cons] at g0 g1
  obtain ⟨i6, e6, _⟩ := DataW.trod_int Tryz.underlying3 g1
  obtain ⟨q0, q1, n3, _, _, f0, f1⟩ := trod_struct2 Tryz.underlying49 g0
  simp only [k75, k3, List.drop_zero, List.take_succ_cons, List.take_zero, List.drop_succ_cons] at f0 f1
  obtain ⟨i0, e0, _⟩ := DataW.trod_int Tryz.underlying3 f0
  obtain ⟨xs, m, _, _, _, hxl, hx⟩ := DataW.trod_array Tryz.underlying47 f1
  have hj : ∀ (i : Nat) (c : Value), i < 5 → (([c1, c2, c3, c4, c5] : List Value).drop i).take 1 = [c] → ∃ k, c = .int .i64 k := fun i c hi hc => by
    have := hx i hi
    rw [k3, Nat.mul_one, hc, List.getElem?_eq_getElem (by omega)] at this
    obtain ⟨k, e, _⟩ := DataW.trod_int Tryz.underlying3 this
    exact ⟨k, by simpa using e⟩
  obtain ⟨i1, rfl⟩ := hj 0 c1 (by omega) rfl
  obtain ⟨i2, rfl⟩ := hj 1 c2 (by omega) rfl
  obtain ⟨i3, rfl⟩ := hj 2 c3 (by omega) rfl
  obtain ⟨i4, rfl⟩ := hj 3 c4 (by omega) rfl
  obtain ⟨i5, rfl⟩ := hj 4 c5 (by omega) rfl
  obtain rfl : c0 = .int .i64 i0 := by simpa using e0
  obtain rfl : c6 = .int .i64 i6 := by simpa using e6
  obtain rfl : c7 = .int .i64 i7 := by simpa using e7
  exact ⟨[i0, i1, i2, i3, i4, i5, i6, i7], rfl, rfl⟩
theorem ksc_of_trod {v : Value} {d : DataW H} {ps : List MemPlace} {fuel : Nat} (h : DataW.trod enc Tryz.prog w 0 (fun _ => true) true fuel 59 [v] = some (d, ps)) (hw : ∀ n ∈ d.weights Tryz.prog 59, n ≤ reachBytes) : ∃ xs, KSC 8 w v xs := by
  have k84 : Tryz.prog.cellsOf 58 = 8 := by kernel_rfl
  have b84 : Tryz.prog.bytesOf 58 = 64 := by kernel_rfl
  rcases open_slice Tryz.underlying59 h with ⟨h1, _⟩ | ⟨a, len, cap, m, n, D, Pl, h1, _, hl, hm, hmm, h2, hx⟩
  · obtain rfl : v = .slice none 0 0 := by simpa using h1
    exact ⟨[], none, 0, 0, 0, rfl, by simp, by intro j hj; simp at hj, by simp, by simp⟩
  · obtain rfl : v = .slice (some a) len cap := by simpa using h1
    simp only [if_true] at hmm
    subst hmm
    obtain ⟨rfl, _⟩ := Prod.mk.injEq .. ▸ h2
    have hsz := hw ((len + (m - len)) * 64) (by simp [DataW.weights, Tryz.underlying59, b84])
    unfold reachBytes at hsz
    rw [k84] at hx
    obtain ⟨X, hX⟩ := choose_lt (α := List Int) (n := len) (p := fun i xs => xs.length = 8 ∧ ∀ j, j < 8 → w.cell? (a.add (i * 8 + j)) = some (.int .i64 (xs.getD j 0))) (fun i hi => by
      obtain ⟨cs', g1, g2⟩ := hx i (by omega)
      obtain ⟨xs, hx8, rfl⟩ := moveInts g2
      obtain ⟨_, _, hcell⟩ := World.cells?_some g1
      refine ⟨xs, hx8, fun j hj => ?_⟩
      have := hcell j (by omega)
      rw [add_add] at this
      rw [this, List.getElem?_map, List.getElem?_eq_getElem (by omega), getD_eq (by omega)]; rfl)
    have hlen : len ≤ 2199023255552 := by omega
    have hall : ∀ j, j < len → ((List.range len).map X).getD j [] = X j := fun j hj => by simp [hj]
    refine ⟨(List.range len).map X, some a, m, a.block, a.off, by simp, fun h0 => ?_, fun j hj => ?_, by simpa using hlen, by simpa using hl⟩
    · have hk := (hX 0 (by simpa using h0)).2 0 (by omega)
      rw [show a.add (0 * 8 + 0) = a by simp [Addr.add]] at hk
      rw [← addr_spot hk]
    · have hj' : j < len := by simpa using hj
      rw [hall j hj']
      have hk0 := (hX 0 (by omega)).2 0 (by omega)
      rw [show a.add (0 * 8 + 0) = a by simp [Addr.add]] at hk0
      refine ⟨(hX j hj').1, fun i hi => ?_⟩
      have h3 := (hX j hj').2 i (by have := (hX j hj').1; omega)
      have e : a.add (j * 8 + i) = ⟨a.block, a.off + j * 8 + i, none⟩ := by
        have := addr_spot hk0
        rw [this, Nat.add_assoc]
        exact add_plain _ _ _
      rw [← e]; exact h3
theorem weightsAll_mem {e : TypeId} : ∀ {l : List (DataW H)} {x : DataW H}, x ∈ l → ∀ n ∈ x.weights Tryz.prog e, n ∈ DataW.weightsAll Tryz.prog e l := by
  intro l
  induction l with
  | nil => intro x hx; cases hx
  | cons y r ih =>
    intro x hx n hn
    simp only [DataW.weightsAll, List.mem_append]
    rcases List.mem_cons.1 hx with rfl | hx
    · exact .inl hn
    · exact .inr (ih hx n hn)
set_option maxRecDepth 100000 in
/-- An adversary among the arguments. -/
theorem advC_of_trod {r : Reach} {b0 : Nat} {v : Value} {d : DataW H} {p : List MemPlace} (hv : Value.okWide Tryz.prog w r b0 24 v) (h : DataW.Trod enc Tryz.prog w 0 (fun _ => true) true 24 v d p) (hw : ∀ n ∈ d.weights Tryz.prog 24, n ≤ reachBytes) : ∃ n ss, AdvC w v n ss := by
  have k82 : Tryz.prog.cellsOf 59 = 1 := by kernel_rfl
  have b82 : Tryz.prog.bytesOf 59 = 24 := by kernel_rfl
  obtain ⟨v0, v1, y0, y1, n, rfl, rfl, rfl, h0, h1⟩ := Go.Joins.open_agg2 Tryz.underlying24 (by kernel_rfl) (by kernel_rfl) hv h
  obtain ⟨i0, e0, _⟩ := DataW.trod_int Tryz.underlying3 h0
  obtain rfl : v0 = .int .i64 i0 := by simpa using e0
  have hw1 : ∀ n ∈ y1.1.weights Tryz.prog 22, n ≤ reachBytes := fun n hn => hw n (by
    simp only [DataW.weights, Tryz.underlying24, DataW.weightsEach, List.map_cons, List.map_nil, List.mem_append]
    exact .inr (.inl hn))
  obtain ⟨d1, p1⟩ := y1
  rcases open_slice1 Tryz.underlying22 k82 h1 with ⟨h2, _⟩ | ⟨a, len, cap, m, n, V, D, Pl, h2, _, hl, hm, hmm, h3, hx⟩
  · obtain rfl : v1 = .slice none 0 0 := by simpa using h2
    exact ⟨i0, [], none, 0, 0, 0, rfl, by simp, by intro j hj; simp at hj, by simp⟩
  · obtain rfl : v1 = .slice (some a) len cap := by simpa using h2
    simp only [if_true] at hmm
    subst hmm
    obtain ⟨rfl, _⟩ := Prod.mk.injEq .. ▸ h3
    have hsz := hw1 ((len + (m - len)) * 24) (by simp [DataW.weights, Tryz.underlying22, b82])
    unfold reachBytes at hsz
    have hxs : ∀ i, i < len → ∃ xs, KSC 8 w (V i) xs := fun i hi => by
      obtain ⟨g1, g2⟩ := hx i (by omega)
      refine ksc_of_trod g2 fun n hn => hw1 n ?_
      simp only [DataW.weights, Tryz.underlying22, List.mem_cons, List.mem_append]
      right; left
      exact weightsAll_mem (List.mem_map_of_mem (List.mem_range.2 hi)) n hn
    have hlen : len ≤ 5864062014805 := by omega
    obtain ⟨X, hX⟩ : ∃ X : Nat → List (List Int), ∀ i, i < len → KSC 8 w (V i) (X i) := ⟨fun i => if h : i < len then (hxs i h).choose else [], fun i hi => by simp only [hi, dif_pos]; exact (hxs i hi).choose_spec⟩
    refine ⟨i0, (List.range len).map X, some a, m, a.block, a.off, by simp, fun h0 => ?_, fun j hj => ?_, by simpa using hlen⟩
    · have hk := (hx 0 (by have : 0 < len := by simpa using h0
                           omega)).1
      rw [show a.add 0 = a by simp [Addr.add]] at hk
      rw [← addr_spot hk]
    · have hj' : j < len := by simpa using hj
      have hk0 := (hx 0 (by omega)).1
      rw [show a.add 0 = a by simp [Addr.add]] at hk0
      have e1 : a.add j = ⟨a.block, a.off + j, none⟩ := by
        rw [addr_spot hk0]
        exact add_plain _ _ _
      refine ⟨V j, by rw [← e1]; exact (hx j (by omega)).1, ?_⟩
      have : ((List.range len).map X).getD j [] = X j := by simp [hj']
      rw [this]
      exact hX j hj'
end
end Go.Proofs.YtiiiegflobihjaaGreat

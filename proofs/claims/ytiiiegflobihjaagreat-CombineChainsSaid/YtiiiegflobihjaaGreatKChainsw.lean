/- Texts of this claim, put together: CX2 EE L0 J3. -/
import Derived.Test.YtiiiegflobihjaaGreatKChainst
import Derived.Test.YtiiiegflobihjaaGreatKChainsu
import Derived.Test.YtiiiegflobihjaaGreatKChainsv
import Derived.Test.YtiiiegflobihjaaGreatKChainss
import Derived.BigQuiet
import Derived.Test.YtiiiegflobihjaaGreatKChainsj
import Derived.Test.YtiiiegflobihjaaGreatKChainsk
import Derived.Test.YtiiiegflobihjaaGreatKChainsl
import Derived.Test.YtiiiegflobihjaaGreatKChainsp
import Derived.Test.YtiiiegflobihjaaGreatKChainsn
import Derived.Test.YtiiiegflobihjaaGreatKChainso

/- combine.And at well-formed adversaries (under way). -/
namespace Go.Proofs.YtiiiegflobihjaaGreat
open Go.RowKit

theorem kept {w w' : World} {k : Nat} {o : Obj} (hb : Below w.heap.size w w') (h : w.heap[k]? = some o) : w'.heap[k]? = some o := (hb.block _ (Array.getElem?_eq_some_iff.1 h).1).trans h
/-- The second exploration of And, and what And hands back. -/
def lvR (ss : List (List (List Int))) : Option (List (List (List Int))) := (exG (lvSt ss (lvA ss)) 300 0 [nd0] []).getD none
def AndOut (w : World) (n : Int) (R : Option (List (List (List Int)))) (e : Ending) (w' : World) : Prop :=
  match R with
  | none => BdOut w n none e w'
  | some ss => if (lvA ss).getD 0 false = true then BdOut w n (lvR ss) e w' else e = .returned (.tuple #[.agg #[.int .i64 0, .slice none 0 0], .int .i64 16]) ∧ Below w.heap.size w w'
theorem AndOut.no {w w' : World} {n : Int} {ss : List (List (List Int))} (h : (lvA ss).getD 0 false = false) (hb : Below w.heap.size w w') : AndOut w n (some ss) (.returned (.tuple #[.agg #[.int .i64 0, .slice none 0 0], .int .i64 16])) w' := by
  show (if (lvA ss).getD 0 false = true then _ else _)
  rw [if_neg (by rw [h]; decide)]
  exact ⟨rfl, hb⟩
theorem AndOut.yes {w w' : World} {n : Int} {ss : List (List (List Int))} {e : Ending} (h : (lvA ss).getD 0 false = true) (hb : BdOut w n (lvR ss) e w') : AndOut w n (some ss) e w' := by
  show (if (lvA ss).getD 0 false = true then _ else _)
  rw [if_pos h]
  exact hb
set_option maxRecDepth 100000 in
set_option maxHeartbeats 1600000 in
theorem andGood {w : World} {u v : Value} {m n : Int} {xs ys : List (List (List Int))} (hx : AdvV w u m xs) (hy : AdvV w v n ys) (hxm : movesN xs ≤ 1000000000) (hym : movesN ys ≤ 1000000000) (h0 : eqErr m n xs ys = 0) (wA : AdOK xs) (wB : AdOK ys) :
    Calls Tryz.prog 13 #[u, v] w (AndOut w m (prA true xs ys)) := by
  obtain ⟨xa, xc, hu⟩ := advShape' hx
  obtain ⟨ya, yc, hv⟩ := advShape' hy
  subst hu hv
  obtain ⟨W1, hW1⟩ : ∃ W1, W1 = ((w.alloc (.cells #[.int .i64 m, .slice xa xs.length xc] 24)).alloc (.cells #[.int .i64 n, .slice ya ys.length yc] 24)).alloc (.cells #[.int .i64 0, .slice none 0 0] 24) := ⟨_, rfl⟩
  have hb1 : Below w.heap.size w W1 := by rw [hW1]; exact (((Below.refl _ w).alloc (Nat.le_refl _) _).alloc (by simp) _).alloc (by first | (simp; done) | (simp; omega)) _
  have kX : W1.heap[w.heap.size]? = some (.cells #[.int .i64 m, .slice xa xs.length xc] 24) := by
    rw [hW1]; exact (Below.heap_alloc _ _ _ (by first | (simp; done) | (simp; omega))).trans ((Below.heap_alloc _ _ _ (by simp)).trans (heap_alloc_new w _))
  have kY : W1.heap[w.heap.size + 1]? = some (.cells #[.int .i64 n, .slice ya ys.length yc] 24) := by
    rw [hW1]
    have := heap_alloc_new (w.alloc (.cells #[.int .i64 m, .slice xa xs.length xc] 24)) (.cells #[.int .i64 n, .slice ya ys.length yc] 24)
    rw [World.size_alloc] at this
    exact (Below.heap_alloc _ _ _ (by simp)).trans this
  have kR : W1.heap[w.heap.size + 1 + 1]? = some (.cells #[.int .i64 0, .slice none 0 0] 24) := by
    rw [hW1]
    have := heap_alloc_new ((w.alloc (.cells #[.int .i64 m, .slice xa xs.length xc] 24)).alloc (.cells #[.int .i64 n, .slice ya ys.length yc] 24)) (.cells #[.int .i64 0, .slice none 0 0] 24)
    rwa [World.size_alloc, World.size_alloc] at this
  have HC := Lib.hid (checkC (hx.keep hb1) (hy.keep hb1) hxm hym)
  rw [h0] at HC
  have HX := Lib.hid (fun W (hb : Below W1.heap.size W1 W) => (hx.keep hb1).keep hb)
  have HY := Lib.hid (fun W (hb : Below W1.heap.size W1 W) => (hy.keep hb1).keep hb)
  have hK := Lib.hid (fun W (hb : Below W1.heap.size W1 W) => And.intro (box2 ((hb.block _ (Array.getElem?_eq_some_iff.1 kX).1).trans kX)) (And.intro (box2 ((hb.block _ (Array.getElem?_eq_some_iff.1 kY).1).trans kY)) ((hb.block _ (Array.getElem?_eq_some_iff.1 kR).1).trans kR)))
  have hR := prA_eq true xs ys
  obtain ⟨R, hRR⟩ : ∃ R, prA true xs ys = R := ⟨_, rfl⟩
  rw [hRR] at hR ⊢
  replace hR := Lib.hid hR
  replace hRR := Lib.hid hRR
  clear hx hy kX kY kR h0
  go_enter Tryz.func13, Tryz.ntmps13
  go_wp2_with fail
  rw [← hW1]
  replace hW1 := Lib.hid hW1
  refine HC.out.mono ?_
  rintro e W2 ⟨rfl, hb2⟩
  obtain ⟨⟨a0, a1⟩, ⟨b0, b1⟩, _⟩ := hK.out W2 hb2
  go_wp2_with fail
  clear a0 a1 b0 b1
  refine pairedC.mono ?_
  rintro e W3 ⟨bF, bA, bB, bK, rfl, kF, kK, kA, kB, hb3⟩
  have B3 := btt hb2 hb3
  have HB : Calls Tryz.prog 32 #[.agg #[.int .i64 m, .int .i64 0, .int .i64 0, .string ⟨#[]⟩, .func (.func 64) #[] #[.pointer (some ⟨bF, 0, none⟩), .pointer (some ⟨bA, 0, none⟩), .pointer (some ⟨bB, 0, none⟩), .pointer (some ⟨bK, 0, none⟩)]]] W3 (BdOut W3 m R) :=
    build1 (fs := nd0) (step := prSt true xs ys) (P := PrP xs ys) (fun W x hb hP => pairedMvAnd ((hb.block _ (Array.getElem?_eq_some_iff.1 kF).1).trans kF) ((hb.block _ (Array.getElem?_eq_some_iff.1 kK).1).trans kK) ((hb.block _ (Array.getElem?_eq_some_iff.1 kA).1).trans kA) ((hb.block _ (Array.getElem?_eq_some_iff.1 kB).1).trans kB) (HX.out W (btt B3 hb)) (HY.out W (btt B3 hb)) wA wB hP)
      (PrP.first wA wB) (fun x hP => (prSt_ok wA wB hP).1) (fun x hP => hP.sm wA wB) (fun x hP => Nat.le_trans (prSt_ok wA wB hP).2 (by decide)) hR.out
  replace HB := Lib.hid HB
  clear kF kK kA kB
  go_wp2_with fail
  refine HB.out.mono ?_
  intro e W4 hO
  have hbw3 := bt hb1 B3 hb1.size
  cases R with
  | none =>
    obtain ⟨rfl, hb4⟩ := hO
    have B4 := btt B3 hb4
    obtain ⟨_, _, kR4⟩ := hK.out W4 B4
    obtain ⟨W5, hW5⟩ : ∃ W5, W5 = W4.alloc (.cells #[.int .i64 0, .slice none 0 0] 24) := ⟨_, rfl⟩
    have hb5 : Below W4.heap.size W4 W5 := by rw [hW5]; exact (Below.refl _ _).alloc (Nat.le_refl _) _
    have kR5 := (hb5.block _ (Array.getElem?_eq_some_iff.1 kR4).1).trans kR4
    obtain ⟨y0, y1⟩ := box2 kR5
    have yf0 := row_free kR5 0
    have yf1 := row_free kR5 1
    have z0 : W5.setCell ⟨w.heap.size + 1 + 1, 0, none⟩ (.int .i64 0) = W5 := setSame y0
    have z1 : W5.setCell ⟨w.heap.size + 1 + 1, 1, none⟩ (.slice none 0 0) = W5 := setSame y1
    have hbf := bt (bt hbw3 hb4 hbw3.size) hb5 (bt hbw3 hb4 hbw3.size).size
    clear kR4 kR5 hb5
    subst hW5
    go_wp2
    refine bodyPost_ret (v := .tuple #[.agg #[.int .i64 0, .slice none 0 0], .int .i64 17]) (by simp [results, Tryz.results13, go_sem, y0, y1]) rfl ?_
    exact BdOut.no (n := m) hbf
  | some ss =>
    obtain ⟨uo, rfl, hA, hb4⟩ := hO
    have B4 := btt B3 hb4
    have wS := prA_Ad wA wB hRR.out
    obtain ⟨sv, rfl, hrow, hl1, hl2⟩ := id hA
    obtain ⟨sva, svc, hsv⟩ := hrow.shape
    subst hsv
    obtain ⟨W5, hW5⟩ : ∃ W5, W5 = W4.alloc (.cells #[.int .i64 m, .slice sva ss.length svc] 24) := ⟨_, rfl⟩
    have hb5 : Below W4.heap.size W4 W5 := by rw [hW5]; exact (Below.refl _ _).alloc (Nat.le_refl _) _
    have k7 : W5.heap[W4.heap.size]? = some (.cells #[.int .i64 m, .slice sva ss.length svc] 24) := by rw [hW5]; exact heap_alloc_new _ _
    have hA5 := hA.adv.keep hb5
    have HE := Lib.hid (endlessC hA5 wS)
    go_wp2_with fail
    rw [← hW5]
    replace hW5 := Lib.hid hW5
    refine HE.out.mono ?_
    rintro e W6 ⟨ul, rfl, hOl, hb6⟩
    have hb46 := btt hb5 hb6
    have B6 := bt B4 hb46 B4.size
    obtain ⟨g, cap, rfl, hgB, hgl⟩ := hOl.form wS.pos
    obtain ⟨W7, hW7⟩ : ∃ W7, W7 = W6.alloc (.cells #[.slice (some ⟨g, 0, none⟩) ss.length cap] 71) := ⟨_, rfl⟩
    have hb7 : Below W6.heap.size W6 W7 := by rw [hW7]; exact (Below.refl _ _).alloc (Nat.le_refl _) _
    have k9 : W7.heap[W6.heap.size]? = some (.cells #[.slice (some ⟨g, 0, none⟩) ss.length cap] 71) := by rw [hW7]; exact heap_alloc_new _ _
    have hOl7 := hOl.keep hb7
    have l0 := hOl7.cell (j := 0) wS.pos
    have b0 : W7.cell? ⟨W6.heap.size, 0, none⟩ = some (.slice (some ⟨g, 0, none⟩) ss.length cap) := box_cell (j := 0) k9 rfl
    have B7 := btt B6 hb7
    obtain ⟨⟨a0, a1⟩, _, kR7⟩ := hK.out W7 B7
    have hb57 := btt hb6 hb7
    have k7' := (hb57.block _ (Array.getElem?_eq_some_iff.1 k7).1).trans k7
    have hA7 := (hA.adv.keep hb5).keep hb57
    have hbw7 := bt hb1 B7 hb1.size
    obtain ⟨q, hq⟩ : ∃ q, (lvA ss).getD 0 false = q := ⟨_, rfl⟩
    have hpos : (0 : Int) < (ss.length : Int) := by have := wS.pos; omega
    rw [hq] at l0
    obtain ⟨y0, y1⟩ := box2 kR7
    have yf := row_free kR7
    rw [hW7] at b0 l0
    cases q
    · have z0 : W7.setCell ⟨w.heap.size + 1 + 1, 0, none⟩ (.int .i64 0) = W7 := setSame y0
      have z1 : W7.setCell ⟨w.heap.size + 1 + 1, 1, none⟩ (.slice none 0 0) = W7 := setSame y1
      rw [hW7] at y0 y1 yf z0 z1
      have yf0 := yf 0
      have yf1 := yf 1
      clear a0 a1 kR7 k9 k7' hOl7 hOl hA7
      replace hq := Lib.hid hq
      replace hsh := Lib.hid hb46
      clear hb46
      go_wp2
      try rw [← hW7]
      try rw [← hW7] at y0 y1
      refine bodyPost_ret (v := .tuple #[.agg #[.int .i64 0, .slice none 0 0], .int .i64 16]) (by simp [results, Tryz.results13, go_sem, y0, y1]) rfl ?_
      exact AndOut.no hq.out hbw7
    · obtain ⟨h256, h4096⟩ := prA_lim hRR.out
      obtain ⟨S, hS⟩ := lv_some wS h256 h4096 (lvA ss)
      have hRv : lvR ss = some S := by rw [lvR, hS]; rfl
      have HB2 : Calls Tryz.prog 32 #[.agg #[.int .i64 m, .int .i64 0, .int .i64 0, .string ⟨#[]⟩, .func (.func 37) #[] #[.pointer (some ⟨W4.heap.size, 0, none⟩), .pointer (some ⟨W6.heap.size, 0, none⟩)]]] W7 (BdOut W7 m (some S)) :=
        build2 (fs := nd0) (step := lvSt ss (lvA ss)) (P := PL ss) (fun W x hb hP => by
            obtain ⟨x0, x1, x2⟩ := x
            obtain ⟨h1, h2, h3⟩ := hP
            simp only [Prod.mk.injEq] at h1
            obtain ⟨rfl, rfl⟩ := h1
            obtain ⟨k, rfl⟩ : ∃ k : Nat, x0 = (k : Int) := ⟨x0.toNat, by simp only at h2; omega⟩
            exact andMv (kept hb k7') (kept hb k9) (hA7.keep hb) (hOl7.keep hb) wS rfl (by simpa using h3))
          (PL.first wS) (fun x hP => (lvSt_ok wS _ hP).1) (fun x hP => hP.sm wS) (fun x hP => Nat.le_trans (lvSt_ok wS _ hP).2 (by rw [getD_eq hP.2.2]; exact Nat.le_trans (wS.st _ (List.getElem_mem hP.2.2)).1 (by decide))) hS
      replace HB2 := Lib.hid HB2
      replace hRv := Lib.hid hRv
      rw [hW7] at a0
      clear y0 y1 yf kR7 k9 k7' hOl7 hOl hA7 a1
      go_wp2_with fail
      try rw [← hW7]
      refine HB2.out.mono ?_
      rintro e W8 ⟨uo, rfl, hA8, hb8⟩
      have B8 := btt B7 hb8
      obtain ⟨_, _, kR8⟩ := hK.out W8 B8
      have hA' := hA8
      obtain ⟨sv, rfl, hrow8, hl8, hl9⟩ := hA'
      obtain ⟨sva8, svc8, hsv8⟩ := hrow8.shape
      subst hsv8
      obtain ⟨y0, y1⟩ := box2 kR8
      have yf := row_free kR8
      have hr1 := heap_setCell_same W8 (w.heap.size + 1 + 1) 0 _ _ (.int .i64 m) kR8
      have hr2 := two_setCell (u := .slice sva8 S.length svc8) hr1
      have hx2 := (KeepX.setCell (p := ⟨w.heap.size + 1 + 1, 0, none⟩) kR8 (.int .i64 m)).trans (KeepX.setCell (p := ⟨w.heap.size + 1 + 1, 1, none⟩) hr1 (.slice sva8 S.length svc8))
      have hbw8 := bt hbw7 hb8 hbw7.size
      have hbe := (hbw8.setCell (p := ⟨w.heap.size + 1 + 1, 0, none⟩) (by show w.heap.size ≤ w.heap.size + 1 + 1; omega) (.int .i64 m)).setCell (p := ⟨w.heap.size + 1 + 1, 1, none⟩) (by show w.heap.size ≤ w.heap.size + 1 + 1; omega) (.slice sva8 S.length svc8)
      obtain ⟨z0, z1⟩ := box2 hr2
      have hfin := hA8.other hx2
      replace hfin := Lib.hid hfin
      clear hr1 hr2 hx2 hrow8 hA8 kR8
      go_wp2
      obtain ⟨W9, hW9⟩ : ∃ W9, W9 = (W8.setCell ⟨w.heap.size + 1 + 1, 0, none⟩ (.int .i64 m)).setCell ⟨w.heap.size + 1 + 1, 1, none⟩ (.slice sva8 S.length svc8) := ⟨_, rfl⟩
      rw [← hW9] at z0 z1 hfin hbe ⊢
      clear hW9
      refine bodyPost_ret (v := .tuple #[.agg #[.int .i64 m, .slice sva8 S.length svc8], .int .i64 0]) (by simp [results, Tryz.results13, go_sem, z0, z1]) rfl ?_
      refine AndOut.yes hq ?_
      rw [hRv.out]
      exact BdOut.yes hfin.out hbe
end Go.Proofs.YtiiiegflobihjaaGreat

/- The reference: next. -/
namespace Go.Proofs.YtiiiegflobihjaaGreat
open Go.RowKit

theorem thMs_snocE {bz : List (List (List Int))} {set : List Nat} {i : Nat} (h : i < set.length) {s : Nat} (hs : set.getD i 0 = s) : thMs bz (set.take (i + 1)) = thMs bz (set.take i) ++ bz.getD s [] := by
  rw [take_snoc h 0, hs, thMs, List.flatMap_append]; simp [thMs]
theorem stBox {w W1 : World} {m n : Int} {aa ba : Option Addr} {al bl ac bc : Nat} {y0 y1 y2 v : Value} (hW1 : W1 = ((w.alloc (.cells #[.int .i64 m, .slice aa al ac] 24)).alloc (.cells #[.int .i64 n, .slice ba bl bc] 24)).alloc (.cells #[y0, y1, y2, v] 82)) :
    Below w.heap.size w W1 ∧ W1.heap[w.heap.size]? = some (.cells #[.int .i64 m, .slice aa al ac] 24) ∧ W1.heap[w.heap.size + 1]? = some (.cells #[.int .i64 n, .slice ba bl bc] 24) ∧ W1.heap[w.heap.size + 1 + 1]? = some (.cells #[y0, y1, y2, v] 82) := by
  rw [hW1]
  refine ⟨(((Below.refl _ w).alloc (Nat.le_refl _) _).alloc (by simp) _).alloc (by first | (simp; done) | (simp; omega)) _, ?_, ?_, ?_⟩
  · exact (Below.heap_alloc _ _ _ (by first | (simp; done) | (simp; omega))).trans ((Below.heap_alloc _ _ _ (by simp)).trans (heap_alloc_new w _))
  · have := heap_alloc_new (w.alloc (.cells #[.int .i64 m, .slice aa al ac] 24)) (.cells #[.int .i64 n, .slice ba bl bc] 24)
    rw [World.size_alloc] at this
    exact (Below.heap_alloc _ _ _ (by simp)).trans this
  · have := heap_alloc_new ((w.alloc (.cells #[.int .i64 m, .slice aa al ac] 24)).alloc (.cells #[.int .i64 n, .slice ba bl bc] 24)) (.cells #[y0, y1, y2, v] 82)
    rwa [World.size_alloc, World.size_alloc] at this
theorem kep8 {a b c d e f g h : Prop} (k : a ∧ b ∧ c ∧ d ∧ e ∧ f ∧ g ∧ h) : a ∧ b ∧ c ∧ d ∧ e ∧ f ∧ g ∧ h := k
/-- What next hands back. -/
def NxOut (w : World) (l : List (List Int)) (e : Ending) (w' : World) : Prop := ∃ r, e = .returned r ∧ OwX 51 7 EI w' w.heap.size r l.length l ∧ Below w.heap.size w w'

set_option maxRecDepth 100000 in
set_option maxHeartbeats 1600000 in
theorem refNextA {w : World} {u v xv : Value} {m n k : Int} {az bz : List (List (List Int))} (hA : AdvV w u m az) (hB : AdvV w v n bz) (sA : AdS az) {x : Nd} (h0 : x.2.2 = []) (hx0 : 0 ≤ x.1 ∧ x.1 < k) (hx1 : 0 ≤ x.2.1 ∧ x.2.1 < (az.length : Int)) :
    Calls Tryz.prog 44 #[u, v, .int .i64 k, sgV x xv] w (NxOut w (rfRs az bz k x)) := by
  obtain ⟨x0, x1, x2⟩ := x
  simp only at h0 hx0 hx1
  subst h0
  obtain ⟨s, rfl⟩ : ∃ s : Nat, x1 = (s : Int) := ⟨x1.toNat, by omega⟩
  have hs : s < az.length := by omega
  have hki : (s : Int) < (az.length : Int) := hx1.2
  have hr : rfRs az bz k (x0, (s : Int), []) = lets ((az.getD s []).map rdOf) := by rw [rfRs, if_pos hx0.2]; rfl
  rw [hr]
  obtain ⟨ba, bc, hv⟩ := advShape' hB
  subst hv
  obtain ⟨sv, rfl, sa, sc, sb, so, rfl, hsa, hsc, hs0⟩ := hA
  obtain rfl := hsa (by omega)
  have hxl := (sA.all s).1
  have hV : sgV (x0, (s : Int), []) xv = .agg #[.int .i64 x0, .int .i64 (s : Int), .int .i64 0, xv] := rfl
  rw [hV]
  obtain ⟨W1, hW1⟩ : ∃ W1, W1 = ((w.alloc (.cells #[.int .i64 m, .slice (some ⟨sb, so, none⟩) az.length sc] 24)).alloc (.cells #[.int .i64 n, .slice ba bz.length bc] 24)).alloc (.cells #[.int .i64 x0, .int .i64 (s : Int), .int .i64 0, xv] 82) := ⟨_, rfl⟩
  obtain ⟨hb1, kA, kB, kX⟩ := stBox hW1
  obtain ⟨u, hu, hks⟩ := hsc s hs
  have HL := Lib.hid (refLets (hks.keep hb1) (by omega))
  obtain ⟨L, hL⟩ : ∃ L, lets ((az.getD s []).map rdOf) = L := ⟨_, rfl⟩
  rw [hL] at HL ⊢
  have e0 := cell_kept hb1 hu
  obtain ⟨a0, a1⟩ := box2 kA
  obtain ⟨p0, p1, p2, p3⟩ := box4 kX
  rw [hW1] at e0 a0 a1 p0 p1 p2 p3
  have hx0k := hx0.2
  replace hL := Lib.hid hL
  clear hsc hu hks kA kB kX hr hV
  go_enter Tryz.func44, Tryz.ntmps44
  go_wp2_with fail
  rw [← hW1]
  refine HL.out.mono ?_
  rintro e w2 ⟨r, rfl, hO, hb2⟩
  have hfin := Lib.hid (hO.base (B' := w.heap.size) hb1.size)
  have hbf := bt hb1 hb2 hb1.size
  clear hO
  go_wp2
  go_ret
  exact ⟨_, rfl, hfin.out, hbf⟩

set_option maxRecDepth 100000 in
set_option maxHeartbeats 3200000 in
theorem refNextB {w : World} {u v xv : Value} {m n k : Int} {az bz : List (List (List Int))} (hA : AdvV w u m az) (hB : AdvV w v n bz) (sB : AdS bz) {x : Nd} (h0 : x.2.2 ≠ []) (hx0 : x.1 = k) (hf : 0 ≤ x.2.1 ∧ x.2.1 ≤ 31) (hl : x.2.2.length ≤ 8) (hs : ∀ s ∈ x.2.2, s < bz.length) (hxv : OI w 0 xv x.2.2.length (natI x.2.2)) :
    Calls Tryz.prog 44 #[u, v, .int .i64 k, sgV x xv] w (NxOut w (rfRs az bz k x)) := by
  obtain ⟨x0, f, set⟩ := x
  simp only at h0 hx0 hf hl hs hxv
  subst hx0
  have hr : rfRs az bz x0 (x0, f, set) = lets ((thMs bz set).map (unM f)) := by rw [rfRs, if_neg (by simp)]; rfl
  rw [hr]
  obtain ⟨aa, ac, hu⟩ := advShape' hA
  subst hu
  obtain ⟨sv, rfl, sa, sc, sb, so, rfl, hsa, hsc, hs0⟩ := hB
  have hbp := sB.ok.pos
  obtain rfl := hsa (by omega)
  have hb8 := sB.len
  have hall := thMs_all sB
  have hlen := thMs_len sB
  obtain ⟨va, vc, hv⟩ := hxv.shape
  subst hv
  obtain ⟨q0, cap, hve, _⟩ := hxv.form (List.length_pos_iff.2 h0)
  obtain ⟨rfl, rfl⟩ : va = some ⟨q0, 0, none⟩ ∧ vc = cap := by injection hve with h1 h2 h3; exact ⟨h1, h3⟩
  have hV : sgV (x0, f, set) (.slice (some ⟨q0, 0, none⟩) set.length vc) = .agg #[.int .i64 x0, .int .i64 0, .int .i64 f, .slice (some ⟨q0, 0, none⟩) set.length vc] := by
    show Value.agg #[.int .i64 x0, .int .i64 (sgS (x0, f, set)), .int .i64 (sgF (x0, f, set)), _] = _
    rw [sgS, if_neg h0, sgF, if_neg h0]
  rw [hV]
  obtain ⟨N, hN⟩ : ∃ N, bz.length = N := ⟨_, rfl⟩
  rw [hN] at hs0 hbp hb8 ⊢
  obtain ⟨W1, hW1⟩ : ∃ W1, W1 = ((w.alloc (.cells #[.int .i64 m, .slice aa az.length ac] 24)).alloc (.cells #[.int .i64 n, .slice (some ⟨sb, so, none⟩) N sc] 24)).alloc (.cells #[.int .i64 x0, .int .i64 0, .int .i64 f, .slice (some ⟨q0, 0, none⟩) set.length vc] 82) := ⟨_, rfl⟩
  obtain ⟨hb1, kA, kB, kX⟩ := stBox hW1
  have hcs := Lib.hid (fun W (hb : Below W1.heap.size W1 W) => show ((W.cell? ⟨w.heap.size + 1, 1, none⟩ = some (.slice (some ⟨sb, so, none⟩) N sc) ∧ W.cell? ⟨w.heap.size + 1 + 1, 2, none⟩ = some (.int .i64 f) ∧ W.cell? ⟨w.heap.size + 1 + 1, 3, none⟩ = some (.slice (some ⟨q0, 0, none⟩) set.length vc)) ∧
      (∀ i, i < set.length → W.cell? ⟨q0, i, none⟩ = some (.int .i64 ((set.getD i 0 : Nat) : Int))) ∧ CKK 8 W sb so bz) from by
    have hbw := bt hb1 hb hb1.size
    refine ⟨⟨box_cell (j := 1) (kept hb kB) rfl, box_cell (j := 2) (kept hb kX) rfl, box_cell (j := 3) (kept hb kX) rfl⟩, fun i hi => ?_, hsc.keep hbw⟩
    rw [(hxv.keep hbw).cell hi]
    simp [natI, List.getD_eq_getElem?_getD, List.getElem?_eq_getElem hi])
  have p0 : W1.cell? ⟨w.heap.size + 1 + 1, 0, none⟩ = some (.int .i64 x0) := box_cell (j := 0) kX rfl
  rw [hW1] at p0
  have hO0 : OwX 51 7 EI W1 W1.heap.size (.slice none 0 0) (lets ((thMs bz (set.take 0)).map (unM f))).length (lets ((thMs bz (set.take 0)).map (unM f))) := OwX.nil _ _
  replace hN := Lib.hid hN
  replace hall := Lib.hid hall
  replace hlen := Lib.hid hlen
  replace hs := Lib.hid hs
  replace hxv := Lib.hid hxv
  have hz : W1.heap.size = w.heap.size + 1 + 1 + 1 := by rw [hW1]; simp
  replace hz := Lib.hid hz
  have hx00 : ¬ (x0 < x0) := by omega
  have h320 : ∀ (i j : Nat) (s : Nat), i ≤ set.length → (lets ((thMs bz (set.take i) ++ (bz.getD s []).take j).map (unM f))).length ≤ 1000 := fun i j s hi => by
    have h1 := hlen.out (set.take i)
    have h2 := (sB.all s).1
    have h3 := lets_len ((thMs bz (set.take i) ++ (bz.getD s []).take j).map (unM f))
    simp only [List.length_map, List.length_append, List.length_take] at h1 h3
    omega
  replace h320 := Lib.hid h320
  clear hsc kA kB kX hr hV hve hsa
  go_enter Tryz.func44, Tryz.ntmps44
  go_wp2_with fail
  rw [← hW1]
  replace hW1 := Lib.hid hW1
  clear p0
  go_loopw [9, 10] (fun ov iv wr => ∃ i : Nat, iv = .int .i64 i ∧ i ≤ set.length ∧ OwX 51 7 EI wr W1.heap.size ov (lets ((thMs bz (set.take i)).map (unM f))).length (lets ((thMs bz (set.take i)).map (unM f))) ∧ Below W1.heap.size W1 wr) (fun _ iv _ => set.length - (intOf iv).toNat)
  case atStart => exact ⟨0, rfl, by omega, hO0, Below.refl _ _⟩
  case round =>
    clear hO0
    obtain ⟨i, rfl, hi, hO, hbr⟩ := hrel
    obtain ⟨wo, hwo⟩ : ∃ wo, wo = wr := ⟨_, rfl⟩
    subst hwo
    obtain ⟨⟨b1, s2, s3⟩, hset, hcc⟩ := hcs.out wo hbr
    by_cases hlt : i < set.length
    · have hii : (i : Int) < (set.length : Int) := by omega
      have c0 := hset i hlt
      have hstp := Lib.hid (thMs_snocE (bz := bz) hlt rfl)
      have hsN : set.getD i 0 < N := by rw [← hN.out, getD_eq hlt]; exact hs.out _ (List.getElem_mem hlt)
      have hall2 := Lib.hid ((sB.all (set.getD i 0)).2)
      have h320i := Lib.hid (fun j => h320.out i j (set.getD i 0) hi)
      obtain ⟨s, hse⟩ : ∃ s, set.getD i 0 = s := ⟨_, rfl⟩
      rw [hse] at c0 hstp hsN hall2 h320i
      replace hse := Lib.hid hse
      obtain ⟨us, hus, hks⟩ := hcc s (by rw [hN.out]; exact hsN)
      have hsi : (s : Int) < (N : Int) := by omega
      obtain ⟨x, hx⟩ : ∃ x, bz.getD s [] = x := ⟨_, rfl⟩
      rw [hx] at hks hstp hall2 h320i
      replace hx := Lib.hid hx
      obtain ⟨xa, xc, xb, xo, rfl, hxa, hxc, _⟩ := hks
      obtain ⟨P0, hP0⟩ : ∃ P0, thMs bz (set.take i) = P0 := ⟨_, rfl⟩
      rw [hP0] at hO hstp h320i
      replace hP0 := Lib.hid hP0
      have hxck := Lib.hid (fun W (hb : Below wo.heap.size wo W) => hxc.keep hb)
      have hOh := Lib.hid hO
      clear hset hcc hxc hO
      go_wp2
      go_quiet (fail)
      go_wp2_with fail
      have hbq : Below wo.heap.size wo (wo.drewN nq) := (Qt.mk' wo nq).below
      have hb1q := bt hbr hbq hbr.size
      obtain ⟨wq, hwq⟩ : ∃ wq, wq = wo.drewN nq := ⟨_, rfl⟩
      rw [← hwq] at hbq hb1q ⊢
      have hI0 : OwX 51 7 EI wq W1.heap.size u9 (lets ((P0 ++ x.take 0).map (unM f))).length (lets ((P0 ++ x.take 0).map (unM f))) := by rw [List.take_zero, List.append_nil]; exact hOh.out.keep (EI.stab _) hbq
      replace hwq := Lib.hid hwq
      clear b1 s2 s3 c0 hus
      go_loopw [9, 12] (fun ov jv wr => ∃ j : Nat, jv = .int .i64 j ∧ j ≤ x.length ∧ OwX 51 7 EI wr W1.heap.size ov (lets ((P0 ++ x.take j).map (unM f))).length (lets ((P0 ++ x.take j).map (unM f))) ∧ Below wo.heap.size wo wr) (fun _ jv _ => x.length - (intOf jv).toNat)
      case atStart => exact ⟨0, rfl, by omega, hI0, hbq⟩
      case round =>
        clear hI0
        obtain ⟨j, rfl, hj, hO, hbo⟩ := hrel
        have hb1r := bt hbr hbo hbr.size
        by_cases hlj : j < x.length
        · have hji : (j : Int) < (x.length : Int) := by omega
          obtain rfl := hxa (by omega)
          obtain ⟨h8, hmc⟩ := hxck.out wr hbo j hlj
          have hmm := hall2.out _ (by rw [getD_eq hlj]; exact List.getElem_mem hlj : x.getD j [] ∈ x)
          have hsn := take_snoc hlj ([] : List Int)
          obtain ⟨m, hm⟩ : ∃ m, x.getD j [] = m := ⟨_, rfl⟩
          rw [hm] at h8 hmc hmm hsn
          obtain ⟨m0, m1, m2, m3, m4, m5, m6, m7, rfl⟩ := eight h8
          have h6 := hmm.2.2.2.2 m6 (by simp [rdOf])
          have hlr := h320i.out j
          have hst : Hid (lets ((P0 ++ x.take (j + 1)).map (unM f)) = insR [m0, m1, m2, m3, m4, m5, orI m6 f] (lets ((P0 ++ x.take j).map (unM f)))) := by
            show _ = _
            rw [hsn, ← List.append_assoc, List.map_append, List.map_singleton, lets_snoc]; rfl
          obtain ⟨L, hL⟩ : ∃ L, lets ((P0 ++ x.take j).map (unM f)) = L := ⟨_, rfl⟩
          rw [hL] at hO hst hlr
          replace hL := Lib.hid hL
          replace hm := Lib.hid hm
          obtain ⟨oa, oc, hov⟩ := hO.shape
          subst hov
          have HJ := Lib.hid (fun W => joinedC (w := W) (r0 := m0) (r1 := m1) (r2 := m2) (r3 := m3) (r4 := m4) (r5 := m5) h6 hf)
          obtain ⟨o, ho⟩ : ∃ o, orI m6 f = o := ⟨_, rfl⟩
          rw [ho] at HJ hst
          replace ho := Lib.hid ho
          have HI := Lib.hid (fun W (hb : Below wr.heap.size wr W) => refIns (hO.keep (EI.stab _) hb) hlr (Nat.le_trans hb1r.size hb.size) m0 m1 m2 m3 m4 m5 o)
          obtain ⟨c0, c1, c2, c3, c4, c5, c6, c7⟩ := hmc.all8
          obtain ⟨⟨_, s2, _⟩, _⟩ := hcs.out wr hb1r
          have hkp := Lib.hid (fun W (hb : Below wr.heap.size wr W) => show W.cell? ⟨xb, xo + j * 8, none⟩ = some (.int .i64 m0) ∧ W.cell? ⟨xb, xo + j * 8 + 1, none⟩ = some (.int .i64 m1) ∧ W.cell? ⟨xb, xo + j * 8 + 2, none⟩ = some (.int .i64 m2) ∧ W.cell? ⟨xb, xo + j * 8 + 3, none⟩ = some (.int .i64 m3) ∧ W.cell? ⟨xb, xo + j * 8 + 4, none⟩ = some (.int .i64 m4) ∧ W.cell? ⟨xb, xo + j * 8 + 5, none⟩ = some (.int .i64 m5) ∧ W.cell? ⟨xb, xo + j * 8 + 6, none⟩ = some (.int .i64 m6) ∧ W.cell? ⟨w.heap.size + 1 + 1, 2, none⟩ = some (.int .i64 f) from ⟨cell_kept hb c0, cell_kept hb c1, cell_kept hb c2, cell_kept hb c3, cell_kept hb c4, cell_kept hb c5, cell_kept hb c6, cell_kept hb s2⟩)
          have hkd := hkp.out wr.drew (Qt.mk1 wr).below
          clear h8 hmc hmm hsn c0 c1 c2 c3 c4 c5 c6 c7 s2 hO
          go_wp2_with fail
          go_region_held3 (fun w' => w'.cell? ⟨xb, xo + j * 8, none⟩ = some (.int .i64 m0) ∧ w'.cell? ⟨xb, xo + j * 8 + 1, none⟩ = some (.int .i64 m1) ∧ w'.cell? ⟨xb, xo + j * 8 + 2, none⟩ = some (.int .i64 m2) ∧ w'.cell? ⟨xb, xo + j * 8 + 3, none⟩ = some (.int .i64 m3) ∧ w'.cell? ⟨xb, xo + j * 8 + 4, none⟩ = some (.int .i64 m4) ∧ w'.cell? ⟨xb, xo + j * 8 + 5, none⟩ = some (.int .i64 m5) ∧ w'.cell? ⟨xb, xo + j * 8 + 6, none⟩ = some (.int .i64 m6) ∧ w'.cell? ⟨w.heap.size + 1 + 1, 2, none⟩ = some (.int .i64 f))
            (first
              | (exact kep8 hkd)
              | (exact kep8 (hkp.out _ hbr5))
              | (exact kep8 (hkp.out _ hbr6))
              | go_keep)
            (first
              | (go_at_call 80; (with_reducible refine (HJ.out _).mono ?_); rintro e w5 ⟨rfl, hb5⟩; have hbr5 := btt (Qt.mk1 wr).below hb5)
              | (go_at_call 79; (with_reducible refine (HI.out _ hbr5).mono ?_); rintro e w6 ⟨v6, rfl, ho6, hb6⟩; have hbr6 := btt hbr5 hb6))
          have hbe := bt hbo hbr6 hbo.size
          rw [← hst.out] at ho6
          clear hkd hkp HI HJ
          go_wp2
          go_roundw
          case rel => exact ⟨j + 1, by go_num, hlj, ho6, hbe⟩
          case measure => simp [intOf]; omega
        · obtain rfl : j = x.length := by omega
          have hge : ¬ ((x.length : Int) < (x.length : Int)) := by omega
          rw [List.take_length, ← hstp.out] at hO
          have hlt' := hlt
          go_wp2
          go_roundw
          case rel => exact ⟨i + 1, by go_num, hlt', hO, hb1r⟩
          case measure => simp [intOf]; omega
    · obtain rfl : i = set.length := by omega
      have hge : ¬ ((set.length : Int) < (set.length : Int)) := by omega
      rw [List.take_length] at hO
      have hfin := Lib.hid (hO.base (B' := w.heap.size) hb1.size)
      have hbf := bt hb1 hbr hb1.size
      clear hO
      go_wp2
      go_ret
      exact ⟨_, rfl, hfin.out, hbf⟩
end Go.Proofs.YtiiiegflobihjaaGreat

/- The reference: letters. -/
namespace Go.Proofs.YtiiiegflobihjaaGreat
open Go.RowKit

/-- A slice of structs of k ints, within its capacity. -/
def KSC (k : Nat) (w : World) (v : Value) (xs : List (List Int)) : Prop :=
  ∃ a c b off, v = .slice a xs.length c ∧ (0 < xs.length → a = some ⟨b, off, none⟩) ∧ CK k w b off xs ∧ xs.length ≤ 2199023255552 ∧ xs.length ≤ c
theorem KSC.ks {k : Nat} {w : World} {v : Value} {xs : List (List Int)} (h : KSC k w v xs) : KS k w v xs := by
  obtain ⟨a, c, b, off, h1, h2, h3, h4, _⟩ := h
  exact ⟨a, c, b, off, h1, h2, h3, h4⟩
theorem KSC.keep {k : Nat} {w w' : World} {v : Value} {xs : List (List Int)} (h : KSC k w v xs) (hb : Below w.heap.size w w') : KSC k w' v xs := by
  obtain ⟨a, c, b, off, h1, h2, h3, h4⟩ := h
  exact ⟨a, c, b, off, h1, h2, h3.keep hb, h4⟩
/-- An adversary whose rows are within their capacities. -/
def AdvC (w : World) (v : Value) (n : Int) (ss : List (List (List Int))) : Prop :=
  ∃ a c b off, v = .agg #[.int .i64 n, .slice a ss.length c] ∧ (0 < ss.length → a = some ⟨b, off, none⟩) ∧ (∀ j, j < ss.length → ∃ u, w.cell? ⟨b, off + j, none⟩ = some u ∧ KSC 8 w u (ss.getD j [])) ∧ ss.length ≤ 5864062014805
theorem AdvC.adv {w : World} {v : Value} {n : Int} {ss : List (List (List Int))} (h : AdvC w v n ss) : AdvV w v n ss := by
  obtain ⟨a, c, b, off, h1, h2, h3, h4⟩ := h
  exact ⟨_, h1, a, c, b, off, rfl, h2, fun j hj => let ⟨u, k1, k2⟩ := h3 j hj; ⟨u, k1, k2.ks⟩, h4⟩
theorem AdvC.keep {w w' : World} {v : Value} {n : Int} {ss : List (List (List Int))} (h : AdvC w v n ss) (hb : Below w.heap.size w w') : AdvC w' v n ss := by
  obtain ⟨a, c, b, off, h1, h2, h3, h4⟩ := h
  exact ⟨a, c, b, off, h1, h2, fun j hj => let ⟨u, k1, k2⟩ := h3 j hj; ⟨u, cell_kept hb k1, k2.keep hb⟩, h4⟩
end Go.Proofs.YtiiiegflobihjaaGreat

/- canonical.distinguish: pairs of states as keys, items of the queue. -/
namespace Go.Proofs.YtiiiegflobihjaaGreat
open Go.RowKit Go.ChangeMaps Go.MapKept Go.WideMaps

def prV (p : Nat × Nat) : Value := .agg #[.int .i64 (p.1 : Int), .int .i64 (p.2 : Int)]
def SmP (p : Nat × Nat) : Prop := p.1 ≤ 1000000 ∧ p.2 ≤ 1000000
/-- The pairs that were seen. -/
def SNP (w : World) (b : Nat) (o : List (Nat × Nat)) : Prop := MX prV Value.bool w b (o.map fun x => (x, true))
theorem SNP.keep {w w' : World} {b : Nat} {o : List (Nat × Nat)} (h : SNP w b o) (hb : w'.heap[b]? = w.heap[b]?) : SNP w' b o := MX.keep h hb
theorem SNP.lt {w : World} {b : Nat} {o : List (Nat × Nat)} (h : SNP w b o) : b < w.heap.size := MX.lt h
/-- An item of the queue: a pair and the word that leads to it. -/
def EIt (w : World) (cs : List Value) (x : It) : Prop := ∃ u, cs = [.int .i64 (x.1.1 : Int), .int .i64 (x.1.2 : Int), u] ∧ OwX 51 7 EI w 0 u x.2.length x.2
theorem EIt.stab {E : TypeId} (h : 51 ≠ E) : Stab E EIt := fun _ _ _ _ ⟨u, h1, h2⟩ hx => ⟨u, h1, h2.other (EI.stab _) h hx⟩
/-- The bounds of the queue. -/
def QB (ss : List (List (List Int))) (Q : List It) : Prop := QOK ss Q ∧ ∀ j, (Q.getD j ((0, 0), [])).2.length ≤ j
theorem QB.len {ss : List (List (List Int))} {Q : List It} (h : QB ss Q) (hl : ss.length ≤ 90) : Q.length ≤ 8100 := by
  have := pairs_le h.1.1 fun p hp => by
    obtain ⟨t, ht, rfl⟩ := List.mem_map.1 hp
    exact h.1.2 t ht
  rw [List.length_map] at this
  have h2 : ss.length * ss.length ≤ 90 * 90 := Nat.mul_le_mul hl hl
  omega
theorem QB.sm {ss : List (List (List Int))} {Q : List It} (h : QB ss Q) (hl : ss.length ≤ 90) : ∀ y ∈ Q.map Prod.fst, SmP y := fun y hy => by
  obtain ⟨t, ht, rfl⟩ := List.mem_map.1 hy
  obtain ⟨h1, h2⟩ := h.1.2 t ht
  exact ⟨by omega, by omega⟩

end Go.Proofs.YtiiiegflobihjaaGreat

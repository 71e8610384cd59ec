/- Texts of this claim, put together: CX2 DA H1. -/
import Derived.Test.YtiiiegflobihjaaGreatKAWp
import Derived.Test.YtiiiegflobihjaaGreatKAWr
import Derived.Test.YtiiiegflobihjaaGreatKAWs
import Derived.Test.YtiiiegflobihjaaGreatKAWq
import Derived.Test.YtiiiegflobihjaaGreatKAWh
import Derived.Test.YtiiiegflobihjaaGreatKAWd

/- combine.And at well-formed adversaries (under way). -/
namespace Go.Proofs.YtiiiegflobihjaaGreat
open Go.RowKit

theorem kept {w w' : World} {k : Nat} {o : Obj} (hb : Below w.heap.size w w') (h : w.heap[k]? = some o) : w'.heap[k]? = some o := (hb.block _ (Array.getElem?_eq_some_iff.1 h).1).trans h
/-- The second exploration of And, and what And hands back. -/
def lvR (ss : List (List (List Int))) : Option (List (List (List Int))) := (exG (lvSt ss (lvA ss)) 300 0 [nd0] []).getD none
def AndOut (w : World) (n : Int) (R : Option (List (List (List Int)))) (e : Ending) (w' : World) : Prop :=
  match R with
  | none => BdOut w n none e w'
  | some ss => if (lvA ss).getD 0 false = true then BdOut w n (lvR ss) e w' else e = .returned (.tuple #[.agg #[.int .i64 0, .slice none 0 0], .int .i64 16]) ∧ Below w.heap.size w w'
theorem AndOut.no {w w' : World} {n : Int} {ss : List (List (List Int))} (h : (lvA ss).getD 0 false = false) (hb : Below w.heap.size w w') : AndOut w n (some ss) (.returned (.tuple #[.agg #[.int .i64 0, .slice none 0 0], .int .i64 16])) w' := by
  show (if (lvA ss).getD 0 false = true then _ else _)
  rw [if_neg (by rw [h]; decide)]
  exact ⟨rfl, hb⟩
theorem AndOut.yes {w w' : World} {n : Int} {ss : List (List (List Int))} {e : Ending} (h : (lvA ss).getD 0 false = true) (hb : BdOut w n (lvR ss) e w') : AndOut w n (some ss) e w' := by
  show (if (lvA ss).getD 0 false = true then _ else _)
  rw [if_pos h]
  exact hb
set_option maxRecDepth 100000 in
set_option maxHeartbeats 1600000 in
theorem andGood {w : World} {u v : Value} {m n : Int} {xs ys : List (List (List Int))} (hx : AdvV w u m xs) (hy : AdvV w v n ys) (hxm : movesN xs ≤ 1000000000) (hym : movesN ys ≤ 1000000000) (h0 : eqErr m n xs ys = 0) (wA : AdOK xs) (wB : AdOK ys) :
    Calls Tryz.prog 13 #[u, v] w (AndOut w m (prA true xs ys)) := by
  obtain ⟨xa, xc, hu⟩ := advShape' hx
  obtain ⟨ya, yc, hv⟩ := advShape' hy
  subst hu hv
  obtain ⟨W1, hW1⟩ : ∃ W1, W1 = ((w.alloc (.cells #[.int .i64 m, .slice xa xs.length xc] 24)).alloc (.cells #[.int .i64 n, .slice ya ys.length yc] 24)).alloc (.cells #[.int .i64 0, .slice none 0 0] 24) := ⟨_, rfl⟩
  have hb1 : Below w.heap.size w W1 := by rw [hW1]; exact (((Below.refl _ w).alloc (Nat.le_refl _) _).alloc (by simp) _).alloc (by first | (simp; done) | (simp; omega)) _
  have kX : W1.heap[w.heap.size]? = some (.cells #[.int .i64 m, .slice xa xs.length xc] 24) := by
    rw [hW1]; exact (Below.heap_alloc _ _ _ (by first | (simp; done) | (simp; omega))).trans ((Below.heap_alloc _ _ _ (by simp)).trans (heap_alloc_new w _))
  have kY : W1.heap[w.heap.size + 1]? = some (.cells #[.int .i64 n, .slice ya ys.length yc] 24) := by
    rw [hW1]
    have := heap_alloc_new (w.alloc (.cells #[.int .i64 m, .slice xa xs.length xc] 24)) (.cells #[.int .i64 n, .slice ya ys.length yc] 24)
    rw [World.size_alloc] at this
    exact (Below.heap_alloc _ _ _ (by simp)).trans this
  have kR : W1.heap[w.heap.size + 1 + 1]? = some (.cells #[.int .i64 0, .slice none 0 0] 24) := by
    rw [hW1]
    have := heap_alloc_new ((w.alloc (.cells #[.int .i64 m, .slice xa xs.length xc] 24)).alloc (.cells #[.int .i64 n, .slice ya ys.length yc] 24)) (.cells #[.int .i64 0, .slice none 0 0] 24)
    rwa [World.size_alloc, World.size_alloc] at this
  have HC := Lib.hid (checkC (hx.keep hb1) (hy.keep hb1) hxm hym)
  rw [h0] at HC
  have HX := Lib.hid (fun W (hb : Below W1.heap.size W1 W) => (hx.keep hb1).keep hb)
  have HY := Lib.hid (fun W (hb : Below W1.heap.size W1 W) => (hy.keep hb1).keep hb)
  have hK := Lib.hid (fun W (hb : Below W1.heap.size W1 W) => And.intro (box2 ((hb.block _ (Array.getElem?_eq_some_iff.1 kX).1).trans kX)) (And.intro (box2 ((hb.block _ (Array.getElem?_eq_some_iff.1 kY).1).trans kY)) ((hb.block _ (Array.getElem?_eq_some_iff.1 kR).1).trans kR)))
  have hR := prA_eq true xs ys
  obtain ⟨R, hRR⟩ : ∃ R, prA true xs ys = R := ⟨_, rfl⟩
  rw [hRR] at hR ⊢
  replace hR := Lib.hid hR
  replace hRR := Lib.hid hRR
  clear hx hy kX kY kR h0
  go_enter Tryz.func13, Tryz.ntmps13
  go_wp2_with fail
  rw [← hW1]
  replace hW1 := Lib.hid hW1
  refine HC.out.mono ?_
  rintro e W2 ⟨rfl, hb2⟩
  obtain ⟨⟨a0, a1⟩, ⟨b0, b1⟩, _⟩ := hK.out W2 hb2
  go_wp2_with fail
  clear a0 a1 b0 b1
  refine pairedC.mono ?_
  rintro e W3 ⟨bF, bA, bB, bK, rfl, kF, kK, kA, kB, hb3⟩
  have B3 := btt hb2 hb3
  have HB : Calls Tryz.prog 32 #[.agg #[.int .i64 m, .int .i64 0, .int .i64 0, .string ⟨#[]⟩, .func (.func 64) #[] #[.pointer (some ⟨bF, 0, none⟩), .pointer (some ⟨bA, 0, none⟩), .pointer (some ⟨bB, 0, none⟩), .pointer (some ⟨bK, 0, none⟩)]]] W3 (BdOut W3 m R) :=
    build1 (fs := nd0) (step := prSt true xs ys) (P := PrP xs ys) (fun W x hb hP => pairedMvAnd ((hb.block _ (Array.getElem?_eq_some_iff.1 kF).1).trans kF) ((hb.block _ (Array.getElem?_eq_some_iff.1 kK).1).trans kK) ((hb.block _ (Array.getElem?_eq_some_iff.1 kA).1).trans kA) ((hb.block _ (Array.getElem?_eq_some_iff.1 kB).1).trans kB) (HX.out W (btt B3 hb)) (HY.out W (btt B3 hb)) wA wB hP)
      (PrP.first wA wB) (fun x hP => (prSt_ok wA wB hP).1) (fun x hP => hP.sm wA wB) (fun x hP => Nat.le_trans (prSt_ok wA wB hP).2 (by decide)) hR.out
  replace HB := Lib.hid HB
  clear kF kK kA kB
  go_wp2_with fail
  refine HB.out.mono ?_
  intro e W4 hO
  have hbw3 := bt hb1 B3 hb1.size
  cases R with
  | none =>
    obtain ⟨rfl, hb4⟩ := hO
    have B4 := btt B3 hb4
    obtain ⟨_, _, kR4⟩ := hK.out W4 B4
    obtain ⟨W5, hW5⟩ : ∃ W5, W5 = W4.alloc (.cells #[.int .i64 0, .slice none 0 0] 24) := ⟨_, rfl⟩
    have hb5 : Below W4.heap.size W4 W5 := by rw [hW5]; exact (Below.refl _ _).alloc (Nat.le_refl _) _
    have kR5 := (hb5.block _ (Array.getElem?_eq_some_iff.1 kR4).1).trans kR4
    obtain ⟨y0, y1⟩ := box2 kR5
    have yf0 := row_free kR5 0
    have yf1 := row_free kR5 1
    have z0 : W5.setCell ⟨w.heap.size + 1 + 1, 0, none⟩ (.int .i64 0) = W5 := setSame y0
    have z1 : W5.setCell ⟨w.heap.size + 1 + 1, 1, none⟩ (.slice none 0 0) = W5 := setSame y1
    have hbf := bt (bt hbw3 hb4 hbw3.size) hb5 (bt hbw3 hb4 hbw3.size).size
    clear kR4 kR5 hb5
    subst hW5
    go_wp2
    refine bodyPost_ret (v := .tuple #[.agg #[.int .i64 0, .slice none 0 0], .int .i64 17]) (by simp [results, Tryz.results13, go_sem, y0, y1]) rfl ?_
    exact BdOut.no (n := m) hbf
  | some ss =>
    obtain ⟨uo, rfl, hA, hb4⟩ := hO
    have B4 := btt B3 hb4
    have wS := prA_Ad wA wB hRR.out
    obtain ⟨sv, rfl, hrow, hl1, hl2⟩ := id hA
    obtain ⟨sva, svc, hsv⟩ := hrow.shape
    subst hsv
    obtain ⟨W5, hW5⟩ : ∃ W5, W5 = W4.alloc (.cells #[.int .i64 m, .slice sva ss.length svc] 24) := ⟨_, rfl⟩
    have hb5 : Below W4.heap.size W4 W5 := by rw [hW5]; exact (Below.refl _ _).alloc (Nat.le_refl _) _
    have k7 : W5.heap[W4.heap.size]? = some (.cells #[.int .i64 m, .slice sva ss.length svc] 24) := by rw [hW5]; exact heap_alloc_new _ _
    have hA5 := hA.adv.keep hb5
    have HE := Lib.hid (endlessC hA5 wS)
    go_wp2_with fail
    rw [← hW5]
    replace hW5 := Lib.hid hW5
    refine HE.out.mono ?_
    rintro e W6 ⟨ul, rfl, hOl, hb6⟩
    have hb46 := btt hb5 hb6
    have B6 := bt B4 hb46 B4.size
    obtain ⟨g, cap, rfl, hgB, hgl⟩ := hOl.form wS.pos
    obtain ⟨W7, hW7⟩ : ∃ W7, W7 = W6.alloc (.cells #[.slice (some ⟨g, 0, none⟩) ss.length cap] 71) := ⟨_, rfl⟩
    have hb7 : Below W6.heap.size W6 W7 := by rw [hW7]; exact (Below.refl _ _).alloc (Nat.le_refl _) _
    have k9 : W7.heap[W6.heap.size]? = some (.cells #[.slice (some ⟨g, 0, none⟩) ss.length cap] 71) := by rw [hW7]; exact heap_alloc_new _ _
    have hOl7 := hOl.keep hb7
    have l0 := hOl7.cell (j := 0) wS.pos
    have b0 : W7.cell? ⟨W6.heap.size, 0, none⟩ = some (.slice (some ⟨g, 0, none⟩) ss.length cap) := box_cell (j := 0) k9 rfl
    have B7 := btt B6 hb7
    obtain ⟨⟨a0, a1⟩, _, kR7⟩ := hK.out W7 B7
    have hb57 := btt hb6 hb7
    have k7' := (hb57.block _ (Array.getElem?_eq_some_iff.1 k7).1).trans k7
    have hA7 := (hA.adv.keep hb5).keep hb57
    have hbw7 := bt hb1 B7 hb1.size
    obtain ⟨q, hq⟩ : ∃ q, (lvA ss).getD 0 false = q := ⟨_, rfl⟩
    have hpos : (0 : Int) < (ss.length : Int) := by have := wS.pos; omega
    rw [hq] at l0
    obtain ⟨y0, y1⟩ := box2 kR7
    have yf := row_free kR7
    rw [hW7] at b0 l0
    cases q
    · have z0 : W7.setCell ⟨w.heap.size + 1 + 1, 0, none⟩ (.int .i64 0) = W7 := setSame y0
      have z1 : W7.setCell ⟨w.heap.size + 1 + 1, 1, none⟩ (.slice none 0 0) = W7 := setSame y1
      rw [hW7] at y0 y1 yf z0 z1
      have yf0 := yf 0
      have yf1 := yf 1
      clear a0 a1 kR7 k9 k7' hOl7 hOl hA7
      replace hq := Lib.hid hq
      replace hsh := Lib.hid hb46
      clear hb46
      go_wp2
      try rw [← hW7]
      try rw [← hW7] at y0 y1
      refine bodyPost_ret (v := .tuple #[.agg #[.int .i64 0, .slice none 0 0], .int .i64 16]) (by simp [results, Tryz.results13, go_sem, y0, y1]) rfl ?_
      exact AndOut.no hq.out hbw7
    · obtain ⟨h256, h4096⟩ := prA_lim hRR.out
      obtain ⟨S, hS⟩ := lv_some wS h256 h4096 (lvA ss)
      have hRv : lvR ss = some S := by rw [lvR, hS]; rfl
      have HB2 : Calls Tryz.prog 32 #[.agg #[.int .i64 m, .int .i64 0, .int .i64 0, .string ⟨#[]⟩, .func (.func 37) #[] #[.pointer (some ⟨W4.heap.size, 0, none⟩), .pointer (some ⟨W6.heap.size, 0, none⟩)]]] W7 (BdOut W7 m (some S)) :=
        build2 (fs := nd0) (step := lvSt ss (lvA ss)) (P := PL ss) (fun W x hb hP => by
            obtain ⟨x0, x1, x2⟩ := x
            obtain ⟨h1, h2, h3⟩ := hP
            simp only [Prod.mk.injEq] at h1
            obtain ⟨rfl, rfl⟩ := h1
            obtain ⟨k, rfl⟩ : ∃ k : Nat, x0 = (k : Int) := ⟨x0.toNat, by simp only at h2; omega⟩
            exact andMv (kept hb k7') (kept hb k9) (hA7.keep hb) (hOl7.keep hb) wS rfl (by simpa using h3))
          (PL.first wS) (fun x hP => (lvSt_ok wS _ hP).1) (fun x hP => hP.sm wS) (fun x hP => Nat.le_trans (lvSt_ok wS _ hP).2 (by rw [getD_eq hP.2.2]; exact Nat.le_trans (wS.st _ (List.getElem_mem hP.2.2)).1 (by decide))) hS
      replace HB2 := Lib.hid HB2
      replace hRv := Lib.hid hRv
      rw [hW7] at a0
      clear y0 y1 yf kR7 k9 k7' hOl7 hOl hA7 a1
      go_wp2_with fail
      try rw [← hW7]
      refine HB2.out.mono ?_
      rintro e W8 ⟨uo, rfl, hA8, hb8⟩
      have B8 := btt B7 hb8
      obtain ⟨_, _, kR8⟩ := hK.out W8 B8
      have hA' := hA8
      obtain ⟨sv, rfl, hrow8, hl8, hl9⟩ := hA'
      obtain ⟨sva8, svc8, hsv8⟩ := hrow8.shape
      subst hsv8
      obtain ⟨y0, y1⟩ := box2 kR8
      have yf := row_free kR8
      have hr1 := heap_setCell_same W8 (w.heap.size + 1 + 1) 0 _ _ (.int .i64 m) kR8
      have hr2 := two_setCell (u := .slice sva8 S.length svc8) hr1
      have hx2 := (KeepX.setCell (p := ⟨w.heap.size + 1 + 1, 0, none⟩) kR8 (.int .i64 m)).trans (KeepX.setCell (p := ⟨w.heap.size + 1 + 1, 1, none⟩) hr1 (.slice sva8 S.length svc8))
      have hbw8 := bt hbw7 hb8 hbw7.size
      have hbe := (hbw8.setCell (p := ⟨w.heap.size + 1 + 1, 0, none⟩) (by show w.heap.size ≤ w.heap.size + 1 + 1; omega) (.int .i64 m)).setCell (p := ⟨w.heap.size + 1 + 1, 1, none⟩) (by show w.heap.size ≤ w.heap.size + 1 + 1; omega) (.slice sva8 S.length svc8)
      obtain ⟨z0, z1⟩ := box2 hr2
      have hfin := hA8.other hx2
      replace hfin := Lib.hid hfin
      clear hr1 hr2 hx2 hrow8 hA8 kR8
      go_wp2
      obtain ⟨W9, hW9⟩ : ∃ W9, W9 = (W8.setCell ⟨w.heap.size + 1 + 1, 0, none⟩ (.int .i64 m)).setCell ⟨w.heap.size + 1 + 1, 1, none⟩ (.slice sva8 S.length svc8) := ⟨_, rfl⟩
      rw [← hW9] at z0 z1 hfin hbe ⊢
      clear hW9
      refine bodyPost_ret (v := .tuple #[.agg #[.int .i64 m, .slice sva8 S.length svc8], .int .i64 0]) (by simp [results, Tryz.results13, go_sem, z0, z1]) rfl ?_
      refine AndOut.yes hq ?_
      rw [hRv.out]
      exact BdOut.yes hfin.out hbe
end Go.Proofs.YtiiiegflobihjaaGreat

/- combine.Then: the stages, plain lists. -/
namespace Go.Proofs.YtiiiegflobihjaaGreat

/-- Faulty processes of both. -/
def orI (a b : Int) : Int := ((a.toNat ||| b.toNat : Nat) : Int)
def uniR (f : Int) (r : List Int) : List Int := r.take 6 ++ [orI (r.getD 6 0) f]
def unM (f : Int) (m : List Int) : List Int := uniR f (rdOf m)
def thMs (bz : List (List (List Int))) (set : List Nat) : List (List Int) := set.flatMap fun s => bz.getD s []
def thTo (f : Int) (ms : List (List Int)) (r : List Int) : List Nat := (ms.filter fun m => decide (unM f m = r)).map mvTo
def thTx (l : List Nat) : List Nat := (List.range 256).filter fun s => decide (s ∈ l)
def thRs (f : Int) (ms : List (List Int)) : List (List Int) := lets (ms.map (unM f))
def thSq (bz : List (List (List Int))) (k f : Int) (set : List Nat) : List (List Int × Nd) := (thRs f (thMs bz set)).map fun r => (r, (k, f, thTx (thTo f (thMs bz set) r)))
def thF (k : Int) (x : Nd) (m : List Int) : List Int × Nd := (rdOf m, if x.1 + 1 = k then (k, (rdOf m).getD 6 0, [0]) else (x.1 + 1, (mvTo m : Int), []))
/-- The arrows of a stage. -/
def thSt (az bz : List (List (List Int))) (k : Int) (x : Nd) : List (List Int × Nd) := if x.2.2 = [] then (az.getD x.2.1.toNat []).map (thF k x) else thSq bz k x.2.1 x.2.2
def thFs (k : Int) : Nd := if k = 0 then (0, 0, [0]) else nd0
def thA (az bz : List (List (List Int))) (k : Int) : Option (List (List (List Int))) := (exG (thSt az bz k) 300 0 [thFs k] []).getD none
theorem thA_eq (az bz : List (List (List Int))) (k : Int) : exG (thSt az bz k) 300 0 [thFs k] [] = some (thA az bz k) := by
  obtain ⟨R, hR⟩ := exG_some (thSt az bz k) 300 0 [thFs k] [] (by simp) (by omega) (by omega)
  rw [thA, hR]; rfl

theorem orI_le {a b : Int} (ha : 0 ≤ a ∧ a ≤ 31) (hb : 0 ≤ b ∧ b ≤ 31) : 0 ≤ orI a b ∧ orI a b ≤ 31 := by
  have h := Nat.or_lt_two_pow (n := 5) (x := a.toNat) (y := b.toNat) (by omega) (by omega)
  unfold orI
  omega
theorem uniR_len {f : Int} {r : List Int} (h : r.length = 7) : (uniR f r).length = 7 := by simp [uniR, h]
theorem uniR_all {f : Int} {r : List Int} (hf : 0 ≤ f ∧ f ≤ 31) (h : r.length = 7) (ha : ∀ x ∈ r, 0 ≤ x ∧ x ≤ 31) : ∀ x ∈ uniR f r, 0 ≤ x ∧ x ≤ 31 := fun x hx => by
  rcases List.mem_append.1 hx with hx | hx
  · exact ha x (List.mem_of_mem_take hx)
  · obtain rfl := List.mem_singleton.1 hx
    refine orI_le (ha _ ?_) hf
    rw [getD_eq (by omega)]; exact List.getElem_mem _
theorem thTx_mem (l : List Nat) (s : Nat) : s ∈ thTx l ↔ s < 256 ∧ s ∈ l := by simp [thTx]
theorem thTx_asc (l : List Nat) : (thTx l).Pairwise (· < ·) := List.Pairwise.filter _ List.pairwise_lt_range
theorem asc_len : ∀ {l : List Nat} {b n : Nat}, l.Pairwise (· < ·) → (∀ x ∈ l, b ≤ x ∧ x < n) → l.length ≤ n - b
  | [], _, _, _, _ => by simp
  | a :: l, b, n, h, hm => by
    rw [List.pairwise_cons] at h
    have ha := hm a (by simp)
    have := asc_len (b := a + 1) (n := n) h.2 fun x hx => ⟨h.1 x hx, (hm x (by simp [hx])).2⟩
    simp only [List.length_cons]; omega

/-- Small well-formed states. -/
structure AdS (ss : List (List (List Int))) : Prop where
  ok : AdOK ss
  len : ss.length ≤ 8
  mv : movesN ss ≤ 40
  rd : ∀ s ∈ ss, ∀ m ∈ s, ∀ x ∈ rdOf m, 0 ≤ x ∧ x ≤ 31
theorem AdS.all {ss : List (List (List Int))} (h : AdS ss) (s : Nat) : (ss.getD s []).length ≤ 40 ∧ ∀ m ∈ ss.getD s [], m.length = 8 ∧ (rdOf m).length = 7 ∧ (0 ≤ m.getD 7 0 ∧ m.getD 7 0 < (ss.length : Int)) ∧ mvTo m < ss.length ∧ ∀ x ∈ rdOf m, 0 ≤ x ∧ x ≤ 31 := by
  by_cases hs : s < ss.length
  · rw [getD_eq hs]
    have hm := List.getElem_mem hs
    refine ⟨Nat.le_trans (mem_movesN hm) h.mv, fun m hmm => ?_⟩
    obtain ⟨h1, h2, h3⟩ := (h.ok.st _ hm).2.2.2 m hmm
    exact ⟨h1, by rw [rdOf, List.length_take]; omega, ⟨h2, h3⟩, by unfold mvTo; omega, h.rd _ hm m hmm⟩
  · rw [List.getD_eq_getElem?_getD, List.getElem?_eq_none (by omega)]
    exact ⟨by simp, fun m hm => by simp at hm⟩
/-- Stages that are met. -/
def PT (az bz : List (List (List Int))) (k : Int) (x : Nd) : Prop :=
  (x.2.2 = [] ∧ (0 ≤ x.1 ∧ x.1 < k) ∧ 0 ≤ x.2.1 ∧ x.2.1 < (az.length : Int)) ∨
  (x.2.2 ≠ [] ∧ x.1 = k ∧ (0 ≤ x.2.1 ∧ x.2.1 ≤ 31) ∧ x.2.2.Pairwise (· < ·) ∧ ∀ s ∈ x.2.2, s < bz.length)
theorem thMs_all {bz : List (List (List Int))} (hB : AdS bz) (set : List Nat) : ∀ m ∈ thMs bz set, m.length = 8 ∧ (rdOf m).length = 7 ∧ (0 ≤ m.getD 7 0 ∧ m.getD 7 0 < (bz.length : Int)) ∧ mvTo m < bz.length ∧ ∀ x ∈ rdOf m, 0 ≤ x ∧ x ≤ 31 := fun m hm => by
  obtain ⟨s, _, hm⟩ := List.mem_flatMap.1 hm
  exact (hB.all s).2 m hm
theorem thMs_len {bz : List (List (List Int))} (hB : AdS bz) : ∀ set : List Nat, (thMs bz set).length ≤ 40 * set.length
  | [] => by simp [thMs]
  | s :: set => by
    have h := thMs_len hB set
    have h1 := (hB.all s).1
    simp only [thMs, List.flatMap_cons, List.length_append, List.length_cons] at h ⊢
    omega
theorem PT.setLen {az bz : List (List (List Int))} {k : Int} {x : Nd} (hB : AdS bz) (h : PT az bz k x) : x.2.2.length ≤ 8 := by
  rcases h with ⟨h, _⟩ | ⟨_, _, _, h1, h2⟩
  · rw [h]; simp
  · have := asc_len (b := 0) (n := bz.length) h1 fun s hs => ⟨Nat.zero_le _, h2 s hs⟩
    have := hB.len
    omega
theorem thMs_320 {az bz : List (List (List Int))} {k : Int} {x : Nd} (hB : AdS bz) (h : PT az bz k x) : (thMs bz x.2.2).length ≤ 320 := by
  have := thMs_len hB x.2.2
  have := h.setLen hB
  omega
theorem thMs_pos {bz : List (List (List Int))} {set : List Nat} (hB : AdS bz) (h0 : set ≠ []) (hs : ∀ s ∈ set, s < bz.length) : 0 < (thMs bz set).length := by
  obtain ⟨a, set, rfl⟩ := List.exists_cons_of_ne_nil h0
  have ha := hs a (by simp)
  have h1 := (hB.ok.st _ (List.getElem_mem ha)).1
  simp only [thMs, List.flatMap_cons, List.length_append, getD_eq ha]
  omega
theorem thTo_lt {bz : List (List (List Int))} (hB : AdS bz) {set : List Nat} {f : Int} {r : List Int} : ∀ s ∈ thTo f (thMs bz set) r, s < bz.length := fun s hs => by
  obtain ⟨m, hm, rfl⟩ := List.mem_map.1 hs
  exact (thMs_all hB set m (List.mem_filter.1 hm).1).2.2.2.1
theorem thTo_len (f : Int) (ms : List (List Int)) (r : List Int) : (thTo f ms r).length ≤ ms.length := by
  rw [thTo, List.length_map]; exact List.length_filter_le _ _
theorem thTo_pos {f : Int} {ms : List (List Int)} {r : List Int} (h : r ∈ thRs f ms) : thTo f ms r ≠ [] := by
  obtain ⟨m, hm, rfl⟩ := List.mem_map.1 ((lets_mem _ _).1 h)
  exact List.ne_nil_of_mem (List.mem_map.2 ⟨m, List.mem_filter.2 ⟨hm, by simp⟩, rfl⟩)
theorem thRs_all {bz : List (List (List Int))} (hB : AdS bz) {set : List Nat} {f : Int} (hf : 0 ≤ f ∧ f ≤ 31) : ∀ r ∈ thRs f (thMs bz set), r.length = 7 ∧ ∀ x ∈ r, 0 ≤ x ∧ x ≤ 31 := fun r hr => by
  obtain ⟨m, hm, rfl⟩ := List.mem_map.1 ((lets_mem _ _).1 hr)
  obtain ⟨_, h7, _, _, ha⟩ := thMs_all hB set m hm
  exact ⟨uniR_len h7, uniR_all hf h7 ha⟩
theorem thRs_len (f : Int) (ms : List (List Int)) : (thRs f ms).length ≤ ms.length := by
  have := lets_len (ms.map (unM f))
  rwa [List.length_map] at this
theorem PT.first {az bz : List (List (List Int))} {k : Int} (hA : AdS az) (hB : AdS bz) (hk : 0 ≤ k) : PT az bz k (thFs k) := by
  have := hA.ok.pos
  have := hB.ok.pos
  unfold thFs
  split
  · rename_i h
    exact .inr ⟨by simp, h.symm, ⟨by simp, by simp⟩, by simp, by simpa using hB.ok.pos⟩
  · refine .inl ⟨rfl, ⟨?_, ?_⟩, ?_, ?_⟩ <;> simp only [nd0] <;> omega
/-- What is behind a stage that is met is met. -/
theorem thSt_ok {az bz : List (List (List Int))} {k : Int} (hA : AdS az) (hB : AdS bz) {x : Nd} (hx : PT az bz k x) : (∀ a ∈ thSt az bz k x, PT az bz k a.2 ∧ a.1.length = 7) ∧ (thSt az bz k x).length ≤ 320 := by
  have hx' := hx
  rcases hx with ⟨h0, hk, h1⟩ | ⟨h0, hk, hf, ha, hs⟩
  · rw [thSt, if_pos h0]
    obtain ⟨h2, h3⟩ := hA.all x.2.1.toNat
    refine ⟨fun a ham => ?_, by rw [List.length_map]; omega⟩
    obtain ⟨m, hm, rfl⟩ := List.mem_map.1 ham
    obtain ⟨_, m2, _, m4, m5⟩ := h3 m hm
    refine ⟨?_, m2⟩
    unfold thF
    by_cases he : x.1 + 1 = k
    · simp only [if_pos he]
      refine .inr ⟨by simp, rfl, m5 _ ?_, by simp, by simpa using hB.ok.pos⟩
      rw [getD_eq (by omega)]; exact List.getElem_mem _
    · simp only [if_neg he]
      refine .inl ⟨rfl, ⟨?_, ?_⟩, ?_, ?_⟩ <;> simp only <;> omega
  · rw [thSt, if_neg h0]
    refine ⟨fun a ham => ?_, ?_⟩
    · obtain ⟨r, hr, rfl⟩ := List.mem_map.1 ham
      refine ⟨.inr ⟨?_, rfl, hf, thTx_asc _, fun s hsm => thTo_lt hB s ((thTx_mem _ _).1 hsm).2⟩, (thRs_all hB hf r hr).1⟩
      intro he
      obtain ⟨s, hsm⟩ := List.exists_mem_of_ne_nil _ (thTo_pos hr)
      have h8 := thTo_lt hB s hsm
      have := hB.len
      have hm := (thTx_mem _ _).2 ⟨by omega, hsm⟩
      simp only at he
      rw [he] at hm
      cases hm
    · rw [thSq, List.length_map]
      exact Nat.le_trans (thRs_len _ _) (thMs_320 hB hx')
theorem PT.sm {az bz : List (List (List Int))} {k : Int} {x : Nd} (hA : AdS az) (hB : AdS bz) (hk : 0 ≤ k ∧ k ≤ 1000) (hx : PT az bz k x) : SmN x := by
  have h1 := hx.setLen hB
  have := hA.len
  have := hB.len
  rcases hx with ⟨h0, hk, h1⟩ | ⟨h0, hk, hf, ha, hs⟩
  · exact ⟨by omega, by omega, by rw [h0]; simp, by rw [h0]; simp⟩
  · exact ⟨by omega, by omega, by omega, fun s hsm => by have := hs s hsm; omega⟩
theorem wf31 {r : List Int} (hl : r.length = 7) (h : chkRd r = 0) : ∀ x ∈ r, 0 ≤ x ∧ x ≤ 31 := by
  obtain ⟨n, h0, h1, h2, h3, h4, f, rfl⟩ := seven hl
  have hg : chkGr n [h0, h1, h2, h3, h4] = 0 := by
    by_cases hc : chkGr n [h0, h1, h2, h3, h4] = 0
    · exact hc
    · rw [chkRd_1 hc] at h; exact h
  obtain ⟨hn, hh⟩ := chkGr_zero hg
  obtain ⟨_, hf0, hf1⟩ := chkSet_zero (chkRd_zero h)
  have h32 := twoI_le (n := n)
  intro x hx
  simp only [List.mem_cons, List.not_mem_nil, or_false] at hx
  have hf0 : 0 ≤ f := hf0
  have hf1 : f < twoI n := hf1
  rcases hx with rfl | hx
  · omega
  rcases hx with rfl | rfl | rfl | rfl | rfl | rfl
  · exact hh x (by simp)
  · exact hh x (by simp)
  · exact hh x (by simp)
  · exact hh x (by simp)
  · exact hh x (by simp)
  · omega
theorem adS_of {n : Int} {ss : List (List (List Int))} (h8 : ∀ s ∈ ss, ∀ m ∈ s, m.length = 8) (h : chkA n ss = 0) (hl : ss.length ≤ 8) (hm : movesN ss ≤ 40) : AdS ss := by
  refine ⟨adOK_of h8 h fun s hs => by have := mem_movesN hs; omega, hl, hm, fun s hs m hmm => ?_⟩
  obtain ⟨_, _, h3, _⟩ := chkA_facts h
  have h4 := ssGo_zero h3 s hs
  unfold stErr at h4
  by_cases he : s.length = 0
  · rw [if_pos he] at h4; cases h4
  rw [if_neg he] at h4
  obtain ⟨j, hj, rfl⟩ := List.mem_iff_getElem.1 hmm
  obtain ⟨c1, _, _, _, _⟩ := mvErr_zero (mvGo_zero h4 j (by omega) (by omega))
  rw [getD_eq hj] at c1
  exact wf31 (by rw [rdOf, List.length_take, h8 s hs _ hmm]; rfl) c1
end Go.Proofs.YtiiiegflobihjaaGreat

/- Equality of lists of ints, of rounds and of words. -/
namespace Go.Proofs.YtiiiegflobihjaaGreat
open Go.RowKit

set_option maxRecDepth 100000 in
set_option maxHeartbeats 1600000 in
theorem sameRds {w : World} {u v : Value} {xs ys : List (List Int)} (hx : KS 7 w u xs) (hy : KS 7 w v ys) :
    Calls Tryz.prog 54 #[u, v] w fun e w' => e = .returned (.bool (decide (xs = ys))) ∧ Qt w w' := by
  obtain ⟨xa, xc, xb, xo, rfl, hxa, hxc, _⟩ := hx
  obtain ⟨ya, yc, yb, yo, rfl, hya, hyc, _⟩ := hy
  obtain ⟨B, hB⟩ : ∃ B, decide (xs = ys) = B := ⟨_, rfl⟩
  rw [hB]
  replace hB := Lib.hid hB
  replace hxc := Lib.hid hxc
  replace hyc := Lib.hid hyc
  by_cases hlen : xs.length = ys.length
  · rw [← hlen]
    replace hlen := Lib.hid hlen
    have h0 : Hid (xs.take 0 = ys.take 0) := rfl
    go_enter Tryz.func54, Tryz.ntmps54
    go_wp2
    go_loopw [5] (fun iv wr => ∃ i : Nat, iv = .int .i64 i ∧ i ≤ xs.length ∧ Hid (xs.take i = ys.take i) ∧ Qt w wr) (fun iv _ => xs.length - (intOf iv).toNat)
    case atStart => exact ⟨0, rfl, by omega, h0, Qt.refl w⟩
    case round =>
      clear h0
      obtain ⟨i, rfl, hi, ht, n, rfl⟩ := hrel
      by_cases hlt : i < xs.length
      · obtain rfl := hxa (by omega)
        obtain rfl := hya (by rw [← hlen.out]; omega)
        have hlt' : i < ys.length := by rw [← hlen.out]; exact hlt
        obtain ⟨hx8, hxi⟩ := hxc.out i hlt
        obtain ⟨hy8, hyi⟩ := hyc.out i hlt'
        obtain ⟨x, hx⟩ : ∃ x, xs.getD i [] = x := ⟨_, rfl⟩
        obtain ⟨y, hy⟩ : ∃ y, ys.getD i [] = y := ⟨_, rfl⟩
        rw [hx] at hx8 hxi
        rw [hy] at hy8 hyi
        obtain ⟨x0, x1, x2, x3, x4, x5, x6, rfl⟩ := seven hx8
        obtain ⟨y0, y1, y2, y3, y4, y5, y6, rfl⟩ := seven hy8
        obtain ⟨c0, c1, c2, c3, c4, c5, c6⟩ := hxi.all7
        obtain ⟨d0, d1, d2, d3, d4, d5, d6⟩ := hyi.all7
        clear hxi hyi hx8 hy8
        by_cases he : [x0, x1, x2, x3, x4, x5, x6] = [y0, y1, y2, y3, y4, y5, y6]
        · have hE : eqL [x0, x1, x2, x3, x4, x5, x6] [y0, y1, y2, y3, y4, y5, y6] = true := eqL_true.2 he
          have ht2 : Hid (xs.take (i + 1) = ys.take (i + 1)) := takes_next ht.out hlt hlt' (by rw [hx, hy, he])
          clear hx hy he ht
          go_wp2
          go_quiet (fail)
          go_wp2
          go_roundw
          case rel => exact ⟨i + 1, by go_num, hlt, ht2, by first | exact (Qt.mk' w n).step nq | exact Qt.mk' w _⟩
          case measure => simp [intOf]; omega
        · have hE : eqL [x0, x1, x2, x3, x4, x5, x6] [y0, y1, y2, y3, y4, y5, y6] = false := eqL_false.2 he
          have hBf : Hid (B = false) := by
            show _ = _
            rw [← hB.out]
            refine decide_eq_false fun h => he ?_
            rw [← hx, ← hy, h]
          clear hx hy he ht
          go_wp2
          go_quiet (fail)
          go_wp2
          go_ret
          exact ⟨by rw [hBf.out]; rfl, by first | exact (Qt.mk' w n).step nq | exact Qt.mk' w _⟩
      · have hBt : Hid (B = true) := by
          show _ = _
          rw [← hB.out]
          exact decide_eq_true (takes_all ht.out (by omega) (by rw [← hlen.out]; omega))
        clear ht
        go_wp2
        go_ret
        exact ⟨by rw [hBt.out]; rfl, Qt.mk' w n⟩
  · have hBf : B = false := by rw [← hB.out]; exact decide_eq_false fun h => hlen (by rw [h])
    subst hBf
    have h1 : ((xs.length : Int) == (ys.length : Int)) = false := by simp; omega
    go_enter Tryz.func54, Tryz.ntmps54
    go_wp2
    go_ret
    exact ⟨rfl, Qt.refl w⟩

set_option maxRecDepth 100000 in
set_option maxHeartbeats 1600000 in
theorem eqRds {w : World} {u v : Value} {xs ys : List (List Int)} (hx : KS 7 w u xs) (hy : KS 7 w v ys) :
    Calls Tryz.prog 25 #[u, v] w fun e w' => e = .returned (.bool (decide (xs = ys))) ∧ Qt w w' := by
  obtain ⟨xa, xc, xb, xo, rfl, hxa, hxc, _⟩ := hx
  obtain ⟨ya, yc, yb, yo, rfl, hya, hyc, _⟩ := hy
  obtain ⟨B, hB⟩ : ∃ B, decide (xs = ys) = B := ⟨_, rfl⟩
  rw [hB]
  replace hB := Lib.hid hB
  replace hxc := Lib.hid hxc
  replace hyc := Lib.hid hyc
  by_cases hlen : xs.length = ys.length
  · rw [← hlen]
    replace hlen := Lib.hid hlen
    have h0 : Hid (xs.take 0 = ys.take 0) := rfl
    go_enter Tryz.func25, Tryz.ntmps25
    go_wp2
    go_loopw [13] (fun iv wr => ∃ i : Nat, iv = .int .i64 i ∧ i ≤ xs.length ∧ Hid (xs.take i = ys.take i) ∧ Qt w wr) (fun iv _ => xs.length - (intOf iv).toNat)
    case atStart => exact ⟨0, rfl, by omega, h0, Qt.refl w⟩
    case round =>
      clear h0
      obtain ⟨i, rfl, hi, ht, n, rfl⟩ := hrel
      by_cases hlt : i < xs.length
      · obtain rfl := hxa (by omega)
        obtain rfl := hya (by rw [← hlen.out]; omega)
        have hlt' : i < ys.length := by rw [← hlen.out]; exact hlt
        obtain ⟨hx8, hxi⟩ := hxc.out i hlt
        obtain ⟨hy8, hyi⟩ := hyc.out i hlt'
        obtain ⟨x, hx⟩ : ∃ x, xs.getD i [] = x := ⟨_, rfl⟩
        obtain ⟨y, hy⟩ : ∃ y, ys.getD i [] = y := ⟨_, rfl⟩
        rw [hx] at hx8 hxi
        rw [hy] at hy8 hyi
        obtain ⟨x0, x1, x2, x3, x4, x5, x6, rfl⟩ := seven hx8
        obtain ⟨y0, y1, y2, y3, y4, y5, y6, rfl⟩ := seven hy8
        obtain ⟨c0, c1, c2, c3, c4, c5, c6⟩ := hxi.all7
        obtain ⟨d0, d1, d2, d3, d4, d5, d6⟩ := hyi.all7
        clear hxi hyi hx8 hy8
        by_cases he : [x0, x1, x2, x3, x4, x5, x6] = [y0, y1, y2, y3, y4, y5, y6]
        · have hE : eqL [x0, x1, x2, x3, x4, x5, x6] [y0, y1, y2, y3, y4, y5, y6] = true := eqL_true.2 he
          have ht2 : Hid (xs.take (i + 1) = ys.take (i + 1)) := takes_next ht.out hlt hlt' (by rw [hx, hy, he])
          clear hx hy he ht
          go_wp2
          go_quiet (fail)
          go_wp2
          go_roundw
          case rel => exact ⟨i + 1, by go_num, hlt, ht2, by first | exact (Qt.mk' w n).step nq | exact Qt.mk' w _⟩
          case measure => simp [intOf]; omega
        · have hE : eqL [x0, x1, x2, x3, x4, x5, x6] [y0, y1, y2, y3, y4, y5, y6] = false := eqL_false.2 he
          have hBf : Hid (B = false) := by
            show _ = _
            rw [← hB.out]
            refine decide_eq_false fun h => he ?_
            rw [← hx, ← hy, h]
          clear hx hy he ht
          go_wp2
          go_quiet (fail)
          go_wp2
          go_ret
          exact ⟨by rw [hBf.out]; rfl, by first | exact (Qt.mk' w n).step nq | exact Qt.mk' w _⟩
      · have hBt : Hid (B = true) := by
          show _ = _
          rw [← hB.out]
          exact decide_eq_true (takes_all ht.out (by omega) (by rw [← hlen.out]; omega))
        clear ht
        go_wp2
        go_ret
        exact ⟨by rw [hBt.out]; rfl, Qt.mk' w n⟩
  · have hBf : B = false := by rw [← hB.out]; exact decide_eq_false fun h => hlen (by rw [h])
    subst hBf
    have h1 : ((xs.length : Int) == (ys.length : Int)) = false := by simp; omega
    go_enter Tryz.func25, Tryz.ntmps25
    go_wp2
    go_ret
    exact ⟨rfl, Qt.refl w⟩

set_option maxRecDepth 100000 in
set_option maxHeartbeats 1600000 in
theorem sameWords {w : World} {u v : Value} {xs ys : List (List (List Int))} (hx : KSS 7 w u xs) (hy : KSS 7 w v ys) :
    Calls Tryz.prog 20 #[u, v] w fun e w' => e = .returned (.bool (decide (xs = ys))) ∧ Qt w w' := by
  obtain ⟨xa, xc, xb, xo, rfl, hxa, hxc, _⟩ := hx
  obtain ⟨ya, yc, yb, yo, rfl, hya, hyc, _⟩ := hy
  obtain ⟨B, hB⟩ : ∃ B, decide (xs = ys) = B := ⟨_, rfl⟩
  rw [hB]
  replace hB := Lib.hid hB
  replace hxc := Lib.hid hxc
  replace hyc := Lib.hid hyc
  by_cases hlen : xs.length = ys.length
  · rw [← hlen]
    replace hlen := Lib.hid hlen
    have h0 : Hid (xs.take 0 = ys.take 0) := rfl
    go_enter Tryz.func20, Tryz.ntmps20
    go_wp2
    go_loopw [5] (fun iv wr => ∃ i : Nat, iv = .int .i64 i ∧ i ≤ xs.length ∧ Hid (xs.take i = ys.take i) ∧ Qt w wr) (fun iv _ => xs.length - (intOf iv).toNat)
    case atStart => exact ⟨0, rfl, by omega, h0, Qt.refl w⟩
    case round =>
      clear h0
      obtain ⟨i, rfl, hi, ht, n, rfl⟩ := hrel
      by_cases hlt : i < xs.length
      · obtain rfl := hxa (by omega)
        obtain rfl := hya (by rw [← hlen.out]; omega)
        have hlt' : i < ys.length := by rw [← hlen.out]; exact hlt
        obtain ⟨xu, hxi, hxk⟩ := hxc.out i hlt
        obtain ⟨yu, hyi, hyk⟩ := hyc.out i hlt'
        obtain ⟨x, hx⟩ : ∃ x, xs.getD i [] = x := ⟨_, rfl⟩
        obtain ⟨y, hy⟩ : ∃ y, ys.getD i [] = y := ⟨_, rfl⟩
        rw [hx] at hxk
        rw [hy] at hyk
        have HC := fun q => sameRds (hxk.keep (below_drewN (Below.refl _ w) q)) (hyk.keep (below_drewN (Below.refl _ w) q))
        obtain ⟨b, hb⟩ : ∃ b, decide (x = y) = b := ⟨_, rfl⟩
        simp only [hb] at HC
        replace HC := Lib.hid HC
        obtain ⟨xsa, xsc, hxs⟩ := hxk.shape
        obtain ⟨ysa, ysc, hys⟩ := hyk.shape
        subst hxs hys
        have hyes : Hid (b = true → xs.take (i + 1) = ys.take (i + 1)) := fun h => takes_next ht.out hlt hlt' (d := []) (by rw [hx, hy]; rw [h] at hb; exact of_decide_eq_true hb)
        have hno : Hid (b = false → B = false) := fun h => by
          rw [← hB.out]
          refine decide_eq_false fun h2 => ?_
          rw [h] at hb
          exact of_decide_eq_false hb (by rw [← hx, ← hy, h2])
        clear hx hy hb ht hxk hyk
        cases b
        · have hBf : Hid (B = false) := hno.out rfl
          clear hyes hno
          go_wp2
          go_quiet ((go_at_call 54; exact quietOn (HC.out _)))
          go_wp2
          go_ret
          exact ⟨by rw [hBf.out]; rfl, by first | exact (Qt.mk' w n).step nq | exact Qt.mk' w _⟩
        · have ht2 : Hid (xs.take (i + 1) = ys.take (i + 1)) := hyes.out rfl
          clear hyes hno
          go_wp2
          go_quiet ((go_at_call 54; exact quietOn (HC.out _)))
          go_wp2
          go_roundw
          case rel => exact ⟨i + 1, by go_num, hlt, ht2, by first | exact (Qt.mk' w n).step nq | exact Qt.mk' w _⟩
          case measure => simp [intOf]; omega
      · have hBt : Hid (B = true) := by
          show _ = _
          rw [← hB.out]
          exact decide_eq_true (takes_all ht.out (by omega) (by rw [← hlen.out]; omega))
        clear ht
        go_wp2
        go_ret
        exact ⟨by rw [hBt.out]; rfl, Qt.mk' w n⟩
  · have hBf : B = false := by rw [← hB.out]; exact decide_eq_false fun h => hlen (by rw [h])
    subst hBf
    have h1 : ((xs.length : Int) == (ys.length : Int)) = false := by simp; omega
    go_enter Tryz.func20, Tryz.ntmps20
    go_wp2
    go_ret
    exact ⟨rfl, Qt.refl w⟩
end Go.Proofs.YtiiiegflobihjaaGreat

/- Texts of this claim, put together: DE CP CS CT CU. -/
import Derived.Test.YtiiiegflobihjaaGreatKChainsr

/- The reference's stages are the program's; the chapter's examples: plain lists. -/
namespace Go.Proofs.YtiiiegflobihjaaGreat

def rfRs (az bz : List (List (List Int))) (k : Int) (x : Nd) : List (List Int) := if x.1 < k then lets ((az.getD x.2.1.toNat []).map rdOf) else thRs x.2.1 (thMs bz x.2.2)
def rfTo (az bz : List (List (List Int))) (k : Int) (x : Nd) (r : List Int) : Nd :=
  if x.1 < k - 1 then (x.1 + 1, toI r (az.getD x.2.1.toNat []), []) else if x.1 < k then (k, r.getD 6 0, [0]) else (k, x.2.1, thTx (thTo x.2.1 (thMs bz x.2.2) r))
theorem thSt_ref {az bz : List (List (List Int))} {k : Int} (hA : AdS az) {x : Nd} (hx : PT az bz k x) : thSt az bz k x = (rfRs az bz k x).map fun r => (r, rfTo az bz k x r) := by
  rcases hx with ⟨h0, hk, h1⟩ | ⟨h0, hk, _⟩
  · have hl : x.2.1.toNat < az.length := by omega
    have hst := hA.ok.st _ (List.getElem_mem hl)
    rw [thSt, if_pos h0, rfRs, if_pos hk.2, getD_eq hl, lets_self hst.2.2.1, List.map_map]
    refine List.map_congr_left fun m hm => ?_
    have h2 := hst.2.2.2 m hm
    simp only [Function.comp, thF, rfTo, getD_eq hl]
    by_cases he : x.1 + 1 = k
    · rw [if_pos he, if_neg (by omega), if_pos hk.2]
    · rw [if_neg he, if_pos (by omega), toI_mem hst.2.2.1 hm]
      have : (mvTo m : Int) = m.getD 7 0 := by unfold mvTo; omega
      rw [this]
  · rw [thSt, if_neg h0, rfRs, if_neg (by omega), thSq]
    refine List.map_congr_left fun r _ => ?_
    rw [rfTo, if_neg (by omega), if_neg (by omega)]

def rdC : List Int := [2, 3, 3, 0, 0, 0, 0]
def rdS : List Int := [2, 1, 2, 0, 0, 0, 0]
def rdF : List Int := [2, 3, 3, 0, 0, 0, 1]
def rdH : List Int := [2, 1, 2, 0, 0, 0, 1]
def alw1 (r : List Int) : List (List (List Int)) := [[r ++ [0]]]
theorem ex_or : prA false (alw1 rdC) (alw1 rdS) = some [[rdS ++ [1], rdC ++ [2]], [rdS ++ [1]], [rdC ++ [2]]] := by decide +kernel
theorem ex_and : prA true (alw1 rdC) (alw1 rdS) = some [[]] := by decide +kernel
theorem ex_live : (lvA [[]]).getD 0 false = false := by decide +kernel
theorem ex_then : thA (alw1 rdC) (alw1 rdS) 2 = some [[rdC ++ [1]], [rdC ++ [2]], [rdS ++ [2]]] := by decide +kernel
theorem ex_fault : thA (alw1 rdF) (alw1 rdS) 2 = some [[rdF ++ [1]], [rdF ++ [2]], [rdH ++ [2]]] := by decide +kernel
theorem alw_S {r : List Int} (h7 : r.length = 7) (h : chkA 2 (alw1 r) = 0) : AdS (alw1 r) :=
  adS_of (fun s hs m hm => by obtain rfl := List.mem_singleton.1 hs; obtain rfl := List.mem_singleton.1 hm; simp [h7]) h (by simp [alw1]) (by simp [alw1, movesN])
theorem chk_C : chkA 2 (alw1 rdC) = 0 := by decide +kernel
theorem chk_S : chkA 2 (alw1 rdS) = 0 := by decide +kernel
theorem chk_F : chkA 2 (alw1 rdF) = 0 := by decide +kernel
end Go.Proofs.YtiiiegflobihjaaGreat

/- combine.Or. -/
namespace Go.Proofs.YtiiiegflobihjaaGreat
open Go.RowKit

set_option maxRecDepth 100000 in
set_option maxHeartbeats 1600000 in
theorem orGood {w : World} {u v : Value} {m n : Int} {xs ys : List (List (List Int))} (hx : AdvV w u m xs) (hy : AdvV w v n ys) (hxm : movesN xs ≤ 1000000000) (hym : movesN ys ≤ 1000000000) (h0 : eqErr m n xs ys = 0) (wA : AdOK xs) (wB : AdOK ys) :
    Calls Tryz.prog 10 #[u, v] w (BdOut w m (prA false xs ys)) := by
  obtain ⟨xa, xc, hu⟩ := advShape' hx
  obtain ⟨ya, yc, hv⟩ := advShape' hy
  subst hu hv
  obtain ⟨W1, hW1⟩ : ∃ W1, W1 = ((w.alloc (.cells #[.int .i64 m, .slice xa xs.length xc] 24)).alloc (.cells #[.int .i64 n, .slice ya ys.length yc] 24)).alloc (.cells #[.int .i64 0, .slice none 0 0] 24) := ⟨_, rfl⟩
  have hb1 : Below w.heap.size w W1 := by rw [hW1]; exact (((Below.refl _ w).alloc (Nat.le_refl _) _).alloc (by simp) _).alloc (by first | (simp; done) | (simp; omega)) _
  have kX : W1.heap[w.heap.size]? = some (.cells #[.int .i64 m, .slice xa xs.length xc] 24) := by
    rw [hW1]; exact (Below.heap_alloc _ _ _ (by first | (simp; done) | (simp; omega))).trans ((Below.heap_alloc _ _ _ (by simp)).trans (heap_alloc_new w _))
  have kY : W1.heap[w.heap.size + 1]? = some (.cells #[.int .i64 n, .slice ya ys.length yc] 24) := by
    rw [hW1]
    have := heap_alloc_new (w.alloc (.cells #[.int .i64 m, .slice xa xs.length xc] 24)) (.cells #[.int .i64 n, .slice ya ys.length yc] 24)
    rw [World.size_alloc] at this
    exact (Below.heap_alloc _ _ _ (by simp)).trans this
  have kR : W1.heap[w.heap.size + 1 + 1]? = some (.cells #[.int .i64 0, .slice none 0 0] 24) := by
    rw [hW1]
    have := heap_alloc_new ((w.alloc (.cells #[.int .i64 m, .slice xa xs.length xc] 24)).alloc (.cells #[.int .i64 n, .slice ya ys.length yc] 24)) (.cells #[.int .i64 0, .slice none 0 0] 24)
    rwa [World.size_alloc, World.size_alloc] at this
  have HC := Lib.hid (checkC (hx.keep hb1) (hy.keep hb1) hxm hym)
  rw [h0] at HC
  have HX := Lib.hid (fun W (hb : Below W1.heap.size W1 W) => (hx.keep hb1).keep hb)
  have HY := Lib.hid (fun W (hb : Below W1.heap.size W1 W) => (hy.keep hb1).keep hb)
  have hK := Lib.hid (fun W (hb : Below W1.heap.size W1 W) => And.intro (box2 ((hb.block _ (Array.getElem?_eq_some_iff.1 kX).1).trans kX)) (And.intro (box2 ((hb.block _ (Array.getElem?_eq_some_iff.1 kY).1).trans kY)) ((hb.block _ (Array.getElem?_eq_some_iff.1 kR).1).trans kR)))
  have hR := prA_eq false xs ys
  obtain ⟨R, hRR⟩ : ∃ R, prA false xs ys = R := ⟨_, rfl⟩
  rw [hRR] at hR ⊢
  replace hR := Lib.hid hR
  replace hRR := Lib.hid hRR
  clear hx hy kX kY kR h0
  go_enter Tryz.func10, Tryz.ntmps10
  go_wp2_with fail
  rw [← hW1]
  replace hW1 := Lib.hid hW1
  refine HC.out.mono ?_
  rintro e W2 ⟨rfl, hb2⟩
  obtain ⟨⟨a0, a1⟩, ⟨b0, b1⟩, _⟩ := hK.out W2 hb2
  go_wp2_with fail
  clear a0 a1 b0 b1
  refine pairedC.mono ?_
  rintro e W3 ⟨bF, bA, bB, bK, rfl, kF, kK, kA, kB, hb3⟩
  have B3 := btt hb2 hb3
  have HB : Calls Tryz.prog 32 #[.agg #[.int .i64 m, .int .i64 0, .int .i64 0, .string ⟨#[]⟩, .func (.func 64) #[] #[.pointer (some ⟨bF, 0, none⟩), .pointer (some ⟨bA, 0, none⟩), .pointer (some ⟨bB, 0, none⟩), .pointer (some ⟨bK, 0, none⟩)]]] W3 (BdOut W3 m R) :=
    build1 (fs := nd0) (step := prSt false xs ys) (P := PrP xs ys) (fun W x hb hP => pairedMvOr ((hb.block _ (Array.getElem?_eq_some_iff.1 kF).1).trans kF) ((hb.block _ (Array.getElem?_eq_some_iff.1 kK).1).trans kK) ((hb.block _ (Array.getElem?_eq_some_iff.1 kA).1).trans kA) ((hb.block _ (Array.getElem?_eq_some_iff.1 kB).1).trans kB) (HX.out W (btt B3 hb)) (HY.out W (btt B3 hb)) wA wB hP)
      (PrP.first wA wB) (fun x hP => (prSt_ok wA wB hP).1) (fun x hP => hP.sm wA wB) (fun x hP => Nat.le_trans (prSt_ok wA wB hP).2 (by decide)) hR.out
  replace HB := Lib.hid HB
  clear kF kK kA kB
  go_wp2_with fail
  refine HB.out.mono ?_
  intro e W4 hO
  have hbw3 := bt hb1 B3 hb1.size
  cases R with
  | none =>
    obtain ⟨rfl, hb4⟩ := hO
    have B4 := btt B3 hb4
    obtain ⟨_, _, kR4⟩ := hK.out W4 B4
    obtain ⟨y0, y1⟩ := box2 kR4
    have yf0 := row_free kR4 0
    have yf1 := row_free kR4 1
    have z0 : W4.setCell ⟨w.heap.size + 1 + 1, 0, none⟩ (.int .i64 0) = W4 := setSame y0
    have z1 : W4.setCell ⟨w.heap.size + 1 + 1, 1, none⟩ (.slice none 0 0) = W4 := setSame y1
    go_wp2
    refine bodyPost_ret (v := .tuple #[.agg #[.int .i64 0, .slice none 0 0], .int .i64 17]) (by simp [results, Tryz.results10, go_sem, y0, y1]) rfl ?_
    exact BdOut.no (bt hbw3 hb4 hbw3.size)
  | some ss =>
    obtain ⟨uo, rfl, hA, hb4⟩ := hO
    have B4 := btt B3 hb4
    obtain ⟨_, _, kR4⟩ := hK.out W4 B4
    have hA' := hA
    obtain ⟨sv, rfl, hrow, hl1, hl2⟩ := hA'
    obtain ⟨sva, svc, hsv⟩ := hrow.shape
    subst hsv
    obtain ⟨y0, y1⟩ := box2 kR4
    have yf := row_free kR4
    have hr1 := heap_setCell_same W4 (w.heap.size + 1 + 1) 0 _ _ (.int .i64 m) kR4
    have hr2 := two_setCell (u := .slice sva ss.length svc) hr1
    have hx2 := (KeepX.setCell (p := ⟨w.heap.size + 1 + 1, 0, none⟩) kR4 (.int .i64 m)).trans (KeepX.setCell (p := ⟨w.heap.size + 1 + 1, 1, none⟩) hr1 (.slice sva ss.length svc))
    have hbw4 := bt hbw3 hb4 hbw3.size
    have hbe := (hbw4.setCell (p := ⟨w.heap.size + 1 + 1, 0, none⟩) (by show w.heap.size ≤ w.heap.size + 1 + 1; omega) (.int .i64 m)).setCell (p := ⟨w.heap.size + 1 + 1, 1, none⟩) (by show w.heap.size ≤ w.heap.size + 1 + 1; omega) (.slice sva ss.length svc)
    obtain ⟨z0, z1⟩ := box2 hr2
    have hfin := hA.other hx2
    replace hfin := Lib.hid hfin
    clear hr1 hr2 hx2 hrow hA kR4
    go_wp2
    obtain ⟨W8, hW8⟩ : ∃ W8, W8 = (W4.setCell ⟨w.heap.size + 1 + 1, 0, none⟩ (.int .i64 m)).setCell ⟨w.heap.size + 1 + 1, 1, none⟩ (.slice sva ss.length svc) := ⟨_, rfl⟩
    rw [← hW8] at z0 z1 hfin hbe ⊢
    clear hW8
    refine bodyPost_ret (v := .tuple #[.agg #[.int .i64 m, .slice sva ss.length svc], .int .i64 0]) (by simp [results, Tryz.results10, go_sem, z0, z1]) rfl ?_
    exact BdOut.yes hfin.out hbe
end Go.Proofs.YtiiiegflobihjaaGreat

/- Rows of bools; the reference's alive. -/
namespace Go.Proofs.YtiiiegflobihjaaGreat
open Go.RowKit

/-- A row of bools that was made since block B. -/
def OB (w : World) (B : Nat) (v : Value) (n : Nat) (xs : List Bool) : Prop := w.ownsRow B 4 1 v n (xs.map Value.bool)
theorem OB.length {w : World} {B : Nat} {v : Value} {n : Nat} {xs : List Bool} (h : OB w B v n xs) : xs.length = n := by have := h.1; simpa using this
theorem OB.keep {w w' : World} {B : Nat} {v : Value} {n : Nat} {xs : List Bool} (h : OB w B v n xs) (hb : Below w.heap.size w w') : OB w' B v n xs := by
  refine ⟨h.1, ?_⟩
  rcases h.2 with h' | ⟨g, cap, cur, h1, h2, h3, h4⟩
  · exact .inl h'
  · exact .inr ⟨g, cap, cur, h1, h2, (hb.block g (Array.getElem?_eq_some_iff.1 h3).1).trans h3, h4⟩
theorem OB.base {w : World} {B B' : Nat} {v : Value} {n : Nat} {xs : List Bool} (h : OB w B v n xs) (hb : B' ≤ B) : OB w B' v n xs := by
  refine ⟨h.1, ?_⟩
  rcases h.2 with h' | ⟨g, cap, cur, h1, h2, h3⟩
  · exact .inl h'
  · exact .inr ⟨g, cap, cur, h1, by omega, h3⟩
theorem OB.store {w : World} {B g n cap : Nat} {xs : List Bool} (h : OB w B (.slice (some ⟨g, 0, none⟩) n cap) n xs) (j : Nat) (y : Bool) :
    OB (w.setCell ⟨g, j, none⟩ (.bool y)) B (.slice (some ⟨g, 0, none⟩) n cap) n (xs.set j y) := by
  have := (World.ownsRow.stored h j (.bool y)).1
  unfold OB
  rw [List.map_set]
  exact this
theorem OB.cell {w : World} {B g n cap : Nat} {xs : List Bool} (h : OB w B (.slice (some ⟨g, 0, none⟩) n cap) n xs) {j : Nat} (hj : j < n) : w.cell? ⟨g, j, none⟩ = some (.bool (xs.getD j false)) := by
  have hl := h.length
  rw [World.ownsRow.cellAt h j (by omega)]
  simp [show j < xs.length by omega]
theorem OB.free {w : World} {B g n cap : Nat} {xs : List Bool} (h : OB w B (.slice (some ⟨g, 0, none⟩) n cap) n xs) (j : Nat) : w.frozen? ⟨g, j, none⟩ = false := World.ownsRow.frozenAt h j
theorem psK_snoc {ss : List (List (List Int))} : ∀ (k s : Nat) (live : List Bool), psK ss (k + 1) s live = psAt ss (psK ss k s live) (s + k)
  | 0, _, _ => rfl
  | k + 1, s, live => by
    rw [psK, psK_snoc k, ← psK, show s + 1 + k = s + (k + 1) by omega]
/-- Adversaries whose states may have no moves. -/
structure AdW (ss : List (List (List Int))) : Prop where
  pos : 0 < ss.length
  len : ss.length ≤ 1000
  st : ∀ s ∈ ss, s.length ≤ 4096 ∧ ∀ m ∈ s, m.length = 8 ∧ 0 ≤ m.getD 7 0 ∧ m.getD 7 0 < (ss.length : Int)
end Go.Proofs.YtiiiegflobihjaaGreat

/- combine.endless: its function, IndexFunc and ContainsFunc of moves with it. -/
namespace Go.Proofs.YtiiiegflobihjaaGreat
open Go.RowKit

set_option maxRecDepth 100000 in
set_option maxHeartbeats 800000 in
theorem endless1 {w : World} {b g N cap B : Nat} {live : List Bool} (kb : w.heap[b]? = some (.cells #[.slice (some ⟨g, 0, none⟩) N cap] 71)) (hO : OB w B (.slice (some ⟨g, 0, none⟩) N cap) N live) (m0 m1 m2 m3 m4 m5 m6 : Int) {t : Nat} (ht : t < N) :
    Calls Tryz.prog 75 #[.agg #[.int .i64 m0, .int .i64 m1, .int .i64 m2, .int .i64 m3, .int .i64 m4, .int .i64 m5, .int .i64 m6, .int .i64 (t : Int)], .pointer (some ⟨b, 0, none⟩)] w fun e w' => e = .returned (.bool (live.getD t false)) ∧ Below w.heap.size w w' := by
  have hb1 := (Below.refl w.heap.size w).alloc (Nat.le_refl _) (.cells #[.int .i64 m0, .int .i64 m1, .int .i64 m2, .int .i64 m3, .int .i64 m4, .int .i64 m5, .int .i64 m6, .int .i64 (t : Int)] 58)
  have e0 := cell_kept hb1 (box_cell (j := 0) kb rfl)
  have e1 := cell_kept hb1 (hO.cell ht)
  have e7 := box_cell (j := 7) (heap_alloc_new w (.cells #[.int .i64 m0, .int .i64 m1, .int .i64 m2, .int .i64 m3, .int .i64 m4, .int .i64 m5, .int .i64 m6, .int .i64 (t : Int)] 58)) rfl
  have hti : (t : Int) < (N : Int) := by omega
  obtain ⟨A, hA⟩ : ∃ A, live.getD t false = A := ⟨_, rfl⟩
  rw [hA] at e1 ⊢
  replace hA := Lib.hid hA
  clear kb hO
  go_enter Tryz.func75, Tryz.ntmps75
  go_wp2
  go_ret
  exact ⟨rfl, hb1⟩
set_option maxRecDepth 100000 in
set_option maxHeartbeats 1600000 in
theorem indexLive {w : World} {v : Value} {xs : List (List Int)} {b g N cap B : Nat} {live : List Bool} (hks : KS 8 w v xs) (kb : w.heap[b]? = some (.cells #[.slice (some ⟨g, 0, none⟩) N cap] 71)) (hO : OB w B (.slice (some ⟨g, 0, none⟩) N cap) N live)
    (hto : ∀ j < xs.length, 0 ≤ (xs.getD j []).getD 7 0 ∧ (xs.getD j []).getD 7 0 < (N : Int)) :
    Calls Tryz.prog 100 #[v, .func (.func 75) #[] #[.pointer (some ⟨b, 0, none⟩)]] w fun e w' => ∃ z : Int, e = .returned (.int .i64 z) ∧ decide (0 ≤ z) = xs.any (fun m => live.getD (mvTo m) false) ∧ Below w.heap.size w w' := by
  obtain ⟨pa, pc, pb, po, rfl, hpa, hpc, hpl⟩ := hks
  obtain ⟨A, hA⟩ : ∃ A, xs.any (fun m => live.getD (mvTo m) false) = A := ⟨_, rfl⟩
  rw [hA]
  have hyes : Hid (∀ i, i < xs.length → live.getD (mvTo (xs.getD i [])) false = true → A = true) := fun i hi h => by
    rw [← hA, List.any_eq_true]
    exact ⟨xs.getD i [], by rw [getD_eq hi]; exact List.getElem_mem hi, h⟩
  have hno : Hid ((∀ i, i < xs.length → live.getD (mvTo (xs.getD i [])) false = false) → A = false) := fun h => by
    rw [← hA, List.any_eq_false]
    intro x hx
    obtain ⟨i, hi, rfl⟩ := List.getElem_of_mem hx
    have := h i hi
    rw [getD_eq hi] at this
    rw [this]; simp
  have HL := Lib.hid (fun W (hb : Below w.heap.size w W) m0 m1 m2 m3 m4 m5 m6 t (ht : t < N) => endless1 ((hb.block _ (Array.getElem?_eq_some_iff.1 kb).1).trans kb) (hO.keep hb) m0 m1 m2 m3 m4 m5 m6 ht)
  have hcl := Lib.hid (fun W (hb : Below w.heap.size w W) j (hj : j < xs.length) => And.intro (hpc j hj).1 ((hpc j hj).2.keep hb))
  replace hto := Lib.hid hto
  replace hpa := Lib.hid hpa
  replace hA := Lib.hid hA
  clear hpc kb hO
  go_enter Tryz.func100, Tryz.ntmps100
  go_wp2_with fail
  go_loopw [8] (fun iv wr => ∃ i : Nat, iv = .int .i64 i ∧ i ≤ xs.length ∧ Hid (∀ j, j < i → live.getD (mvTo (xs.getD j [])) false = false) ∧ Below w.heap.size w wr) (fun iv _ => xs.length - (intOf iv).toNat)
  case atStart => exact ⟨0, rfl, by omega, fun j hj => absurd hj (Nat.not_lt_zero _), Below.refl _ _⟩
  case round =>
    obtain ⟨i, rfl, hi, hn, hbr⟩ := hrel
    by_cases hlt : i < xs.length
    · have hii : (i : Int) < (xs.length : Int) := by omega
      obtain rfl := hpa.out (by omega)
      obtain ⟨h8, hmc⟩ := hcl.out wr hbr i hlt
      obtain ⟨t7b, t7c⟩ := hto.out i hlt
      obtain ⟨m, hm⟩ : ∃ m, xs.getD i [] = m := ⟨_, rfl⟩
      rw [hm] at h8 hmc t7b t7c
      obtain ⟨m0, m1, m2, m3, m4, m5, m6, m7, rfl⟩ := eight h8
      have t7b : 0 ≤ m7 := t7b
      have t7c : m7 < (N : Int) := t7c
      obtain ⟨t, rfl⟩ : ∃ t : Nat, m7 = (t : Int) := ⟨m7.toNat, by omega⟩
      have htl : t < N := by omega
      obtain ⟨c0, c1, c2, c3, c4, c5, c6, c7⟩ := hmc.all8
      have hmt : mvTo (xs.getD i []) = t := by rw [hm]; simp [mvTo]
      have HL1 := HL.out wr hbr m0 m1 m2 m3 m4 m5 m6 t htl
      have hy := hyes.out i hlt
      rw [hmt] at hy
      obtain ⟨q, hq⟩ : ∃ q, live.getD t false = q := ⟨_, rfl⟩
      rw [hq] at HL1 hy
      replace HL1 := Lib.hid HL1
      replace hm := Lib.hid hm
      clear hmc h8 t7b t7c
      cases q
      · have hn2 : Hid (∀ j, j < i + 1 → live.getD (mvTo (xs.getD j [])) false = false) := fun j hj => by
          by_cases e : j = i
          · subst e; rw [hmt]; exact hq
          · exact hn.out j (by omega)
        clear hn hy hmt hq
        go_wp2_with fail
        refine HL1.out.mono ?_
        rintro e w2 ⟨rfl, hb2⟩
        have hbf := bt hbr hb2 hbr.size
        go_wp2
        go_roundw
        case rel => exact ⟨i + 1, by go_num, hlt, hn2, hbf⟩
        case measure => simp [intOf]; omega
      · have hAt := Lib.hid (hy rfl)
        clear hn hy hmt hq
        go_wp2_with fail
        refine HL1.out.mono ?_
        rintro e w2 ⟨rfl, hb2⟩
        have hbf := bt hbr hb2 hbr.size
        go_wp2
        go_ret
        exact ⟨_, rfl, by rw [hAt.out]; exact decide_eq_true (by omega), hbf⟩
    · obtain rfl : i = xs.length := by omega
      have hAf := Lib.hid (hno.out hn.out)
      have hge : ¬ ((xs.length : Int) < (xs.length : Int)) := by omega
      clear hn
      go_wp2
      go_ret
      exact ⟨_, rfl, by rw [hAf.out]; rfl, hbr⟩
set_option maxRecDepth 100000 in
set_option maxHeartbeats 800000 in
theorem containsLive {w : World} {v : Value} {xs : List (List Int)} {b g N cap B : Nat} {live : List Bool} (hks : KS 8 w v xs) (kb : w.heap[b]? = some (.cells #[.slice (some ⟨g, 0, none⟩) N cap] 71)) (hO : OB w B (.slice (some ⟨g, 0, none⟩) N cap) N live)
    (hto : ∀ j < xs.length, 0 ≤ (xs.getD j []).getD 7 0 ∧ (xs.getD j []).getD 7 0 < (N : Int)) :
    Calls Tryz.prog 74 #[v, .func (.func 75) #[] #[.pointer (some ⟨b, 0, none⟩)]] w fun e w' => e = .returned (.bool (xs.any fun m => live.getD (mvTo m) false)) ∧ Below w.heap.size w w' := by
  have HI := Lib.hid (indexLive hks kb hO hto)
  obtain ⟨pa, pc, hv⟩ := hks.shape
  subst hv
  obtain ⟨A, hA⟩ : ∃ A, (xs.any fun m => live.getD (mvTo m) false) = A := ⟨_, rfl⟩
  rw [hA] at HI ⊢
  replace hA := Lib.hid hA
  clear hks kb hO hto
  go_enter Tryz.func74, Tryz.ntmps74
  go_wp2_with fail
  refine HI.out.mono ?_
  rintro e w' ⟨z, rfl, hz, hb⟩
  go_wp2
  go_ret
  exact ⟨rfl, hb⟩
end Go.Proofs.YtiiiegflobihjaaGreat

/- combine.endless, slices.Repeat of one bool as a premise. -/
namespace Go.Proofs.YtiiiegflobihjaaGreat
open Go.RowKit

theorem OB.form {w : World} {B : Nat} {v : Value} {n : Nat} {xs : List Bool} (h : OB w B v n xs) (hn : 0 < n) : ∃ g cap, v = .slice (some ⟨g, 0, none⟩) n cap ∧ B ≤ g ∧ g < w.heap.size := by
  have hl := h.length
  rcases h.2 with ⟨rfl, h'⟩ | ⟨g, cap, cur, rfl, h2, h3, _⟩
  · omega
  · exact ⟨g, cap, rfl, h2, (Array.getElem?_eq_some_iff.1 h3).1⟩
/-- What slices.Repeat of one true must do. -/
def RepOK (N : Nat) : Prop := ∀ (W : World) (B : Nat) (u : Value), OB W B u 1 [true] → Calls Tryz.prog 73 #[u, .int .i64 (N : Int)] W fun e W' => ∃ v, e = .returned v ∧ OB W' W.heap.size v N (List.replicate N true) ∧ Below W.heap.size W W'
theorem psAt_no {ss : List (List (List Int))} {M : List Bool} {s : Nat} (h : M.getD s false = true → lvB ss M s = true) : psAt ss M s = M := by
  rw [psAt]
  cases hb : M.getD s false with
  | true => rw [h hb, Bool.and_true]; refine List.ext_getElem? fun i => ?_
            rw [List.getElem?_set]
            split
            · rename_i hi; subst hi
              split
              · rw [List.getD_eq_getElem?_getD] at hb
                cases hx : M[s]? with
                | none => rw [hx] at hb; cases hb
                | some y => rw [hx] at hb; simp at hb; rw [hb]
              · rename_i hi2; rw [List.getElem?_eq_none (by omega)]
            · rfl
  | false => rw [Bool.false_and]; refine List.ext_getElem? fun i => ?_
             rw [List.getElem?_set]
             split
             · rename_i hi; subst hi
               split
               · rename_i hi2
                 rw [List.getD_eq_getElem?_getD, List.getElem?_eq_getElem hi2] at hb
                 simp at hb
                 rw [List.getElem?_eq_getElem hi2, hb]
               · rename_i hi2; rw [List.getElem?_eq_none (by omega)]
             · rfl
theorem psAt_yes {ss : List (List (List Int))} {M : List Bool} {s : Nat} (h : M.getD s false = true) (h2 : lvB ss M s = false) : psAt ss M s = M.set s false := by
  rw [psAt, h, h2]; rfl
theorem psK_ne {ss : List (List (List Int))} {L : List Bool} {s : Nat} (h : (psK ss s 0 L).getD s false = true) (h2 : lvB ss (psK ss s 0 L) s = false) : psAt ss (psK ss s 0 L) s ≠ L := fun e => by
  have h3 := (psK_dn (ss := ss) s 0 L).2 s h
  rw [psAt_yes h h2] at e
  rw [← e, List.getD_eq_getElem?_getD, List.getElem?_set] at h3
  simp at h3
  split at h3 <;> simp at h3

set_option maxRecDepth 100000 in
set_option maxHeartbeats 3200000 in
theorem endlessA {w : World} {v : Value} {n : Int} {ss : List (List (List Int))} (hA : AdvV w v n ss) (wA : AdW ss) (hR : RepOK ss.length) :
    Calls Tryz.prog 36 #[v] w fun e w' => ∃ u, e = .returned u ∧ OB w' w.heap.size u ss.length (lvA ss) ∧ Below w.heap.size w w' := by
  obtain ⟨sv, rfl, sa, sc, sb, so, rfl, hsa, hsc, hs0⟩ := hA
  have hpos := wA.pos
  have hlen := wA.len
  obtain rfl := hsa (by omega)
  obtain ⟨N, hN⟩ : ∃ N, ss.length = N := ⟨_, rfl⟩
  obtain ⟨W1, hW1⟩ : ∃ W1, W1 = (w.alloc (.cells #[.int .i64 n, .slice (some ⟨sb, so, none⟩) N sc] 24)).alloc (.cells #[.bool true] 4) := ⟨_, rfl⟩
  have hb1 : Below w.heap.size w W1 := by rw [hW1]; exact ((Below.refl _ w).alloc (Nat.le_refl _) _).alloc (by simp) _
  have k1 : W1.heap[w.heap.size]? = some (.cells #[.int .i64 n, .slice (some ⟨sb, so, none⟩) N sc] 24) := by rw [hW1]; exact (Below.heap_alloc _ _ _ (by simp)).trans (heap_alloc_new _ _)
  have k2 : W1.heap[w.heap.size + 1]? = some (.cells #[.bool true] 4) := by
    rw [hW1]
    have := heap_alloc_new (w.alloc (.cells #[.int .i64 n, .slice (some ⟨sb, so, none⟩) N sc] 24)) (.cells #[.bool true] 4)
    rwa [World.size_alloc] at this
  have ho1 : OB W1 0 (.slice (some ⟨w.heap.size + 1, 0, none⟩) 1 1) 1 [true] := ⟨rfl, .inr ⟨w.heap.size + 1, 1, _, rfl, Nat.zero_le _, k2, Nat.le_refl _, by unfold maxLen; omega, rfl, rfl⟩⟩
  have HR := Lib.hid (hR W1 0 _ ho1)
  rw [hN] at HR hpos hlen ⊢
  replace hN := Lib.hid hN
  have hs1 : W1.heap.size = w.heap.size + 2 := by rw [hW1]; simp
  have hto : ∀ s < N, ∀ j < (ss.getD s []).length, 0 ≤ ((ss.getD s []).getD j []).getD 7 0 ∧ ((ss.getD s []).getD j []).getD 7 0 < (N : Int) := fun s hs j hj => by
    have hs' : s < ss.length := by rw [hN.out]; exact hs
    rw [getD_eq hs'] at hj ⊢
    rw [getD_eq hj]
    have h := ((wA.st _ (List.getElem_mem hs')).2 _ (List.getElem_mem hj)).2
    rw [hN.out] at h
    exact h
  have hit0 : Hid (itA ss (N + 1) (List.replicate N true) = some (lvA ss)) := by
    have h := lvA_it ss
    rw [hN.out] at h; exact h
  have hK := Lib.hid (fun W (hb : Below w.heap.size w W) => hsc.keep hb)
  replace hto := Lib.hid hto
  replace hs1 := Lib.hid hs1
  clear hR ho1 k2 hsc hsa
  go_enter Tryz.func36, Tryz.ntmps36
  go_wp2_with fail
  rw [← hW1]
  replace hW1 := Lib.hid hW1
  refine HR.out.mono ?_
  rintro e W2 ⟨v2, rfl, ho2, hb2⟩
  obtain ⟨g, cap, rfl, hgl, hgh⟩ := ho2.form hpos
  have hwg : w.heap.size < g := by have := hs1.out; omega
  obtain ⟨W3, hW3⟩ : ∃ W3, W3 = W2.alloc (.cells #[.slice (some ⟨g, 0, none⟩) N cap] 71) := ⟨_, rfl⟩
  have hb3 : Below W2.heap.size W2 W3 := by rw [hW3]; exact (Below.refl _ _).alloc (Nat.le_refl _) _
  have kb : W3.heap[W2.heap.size]? = some (.cells #[.slice (some ⟨g, 0, none⟩) N cap] 71) := by rw [hW3]; exact heap_alloc_new _ _
  have kA2 := (hb2.block _ (Array.getElem?_eq_some_iff.1 k1).1).trans k1
  have kA := (hb3.block _ (Array.getElem?_eq_some_iff.1 kA2).1).trans kA2
  have hbw3 := bt (bt hb1 hb2 hb1.size) hb3 (bt hb1 hb2 hb1.size).size
  have ho3 := (ho2.keep hb3).base hb1.size
  clear ho2 k1 kA2
  go_wp2_with fail
  rw [← hW3]
  replace hW3 := Lib.hid hW3
  have hf0 : Hid (true = false → List.replicate N true = lvA ss) := fun h => absurd h (by decide)
  have ht0 : Hid (true = true → itA ss (N + 1) (List.replicate N true) = some (lvA ss)) := fun _ => hit0.out
  obtain ⟨b, hbe⟩ : ∃ b, W2.heap.size = b := ⟨_, rfl⟩
  rw [hbe] at kb hgh ⊢
  have hwb : w.heap.size < b := by omega
  replace hbe := Lib.hid hbe
  clear hb2 hb3
  go_loopg [4] (N + 1) (fun f cv wr => ∃ (L : List Bool) (c : Bool), cv = .bool c ∧ OB wr w.heap.size (.slice (some ⟨g, 0, none⟩) N cap) N L ∧ Below w.heap.size w wr ∧ wr.heap[w.heap.size]? = some (.cells #[.int .i64 n, .slice (some ⟨sb, so, none⟩) N sc] 24) ∧ wr.heap[b]? = some (.cells #[.slice (some ⟨g, 0, none⟩) N cap] 71) ∧ Hid (c = true → itA ss f L = some (lvA ss)) ∧ Hid (c = false → L = lvA ss))
  case atStart => exact ⟨_, true, rfl, ho3, hbw3, kA, kb, ht0, hf0⟩
  case round =>
    clear ho3 hbw3 kA kb ht0 hf0
    obtain ⟨L, c, rfl, ho, hbw, kA, kb, hct, hcf⟩ := hrel
    cases c
    · have hLe := hcf.out rfl
      subst hLe
      have e0 := box_cell (j := 0) kb rfl
      have hfin := Lib.hid ho
      clear ho
      go_wp2
      go_ret
      exact ⟨_, rfl, hfin.out, hbw⟩
    · obtain ⟨f, rfl⟩ : ∃ f, gk = f + 1 := by
        cases gk with
        | zero => exact absurd (hct.out rfl) (by simp [itA])
        | succ f => exact ⟨f, rfl⟩
      have hit := Lib.hid (hct.out rfl)
      have ho0 : OB wr w.heap.size (.slice (some ⟨g, 0, none⟩) N cap) N (psK ss 0 0 L) := ho
      obtain ⟨p0, p1⟩ := box2 kA
      obtain ⟨wa, hwa⟩ : ∃ wa, wa = wr := ⟨_, rfl⟩
      subst hwa
      clear ho hct hcf
      go_wp2_with fail
      go_loopw [4, 16] (fun cv sv wr => ∃ (s : Nat) (c : Bool), sv = .int .i64 s ∧ s ≤ N ∧ cv = .bool c ∧ OB wr w.heap.size (.slice (some ⟨g, 0, none⟩) N cap) N (psK ss s 0 L) ∧ Below w.heap.size w wr ∧ wr.heap[w.heap.size]? = some (.cells #[.int .i64 n, .slice (some ⟨sb, so, none⟩) N sc] 24) ∧ wr.heap[b]? = some (.cells #[.slice (some ⟨g, 0, none⟩) N cap] 71) ∧ Hid (c = true → psK ss s 0 L ≠ L) ∧ Hid (c = false → psK ss s 0 L = L)) (fun _ sv _ => N - (intOf sv).toNat)
      case atStart => exact ⟨0, false, rfl, by omega, rfl, ho0, hbw, kA, kb, fun h => absurd h (by decide), fun _ => rfl⟩
      case round =>
        clear ho0 p0 p1 kA kb hbw
        obtain ⟨s, c, rfl, hs, rfl, ho, hbw, kA, kb, hct, hcf⟩ := hrel
        by_cases hlts : s < N
        · have hsi : (s : Int) < (N : Int) := by omega
          have hsn := psK_snoc (ss := ss) s 0 L
          rw [Nat.zero_add] at hsn
          obtain ⟨u, hu, hks⟩ := hK.out wr hbw s (by rw [hN.out]; exact hlts)
          have hto2 := hto.out s hlts
          have hlv : lvB ss (psK ss s 0 L) s = (ss.getD s []).any fun m => (psK ss s 0 L).getD (mvTo m) false := rfl
          have hne := psK_ne (ss := ss) (L := L) (s := s)
          have hno := psAt_no (ss := ss) (M := psK ss s 0 L) (s := s)
          have hyes := psAt_yes (ss := ss) (M := psK ss s 0 L) (s := s)
          obtain ⟨M, hM⟩ : ∃ M, psK ss s 0 L = M := ⟨_, rfl⟩
          rw [hM] at ho hsn hlv hne hno hyes hct hcf
          replace hM := Lib.hid hM
          have HC := containsLive hks kb ho hto2
          rw [← hlv] at HC
          obtain ⟨xa, xc, hus⟩ := hks.shape
          subst hus
          have hc := ho.cell hlts
          have hf := ho.free s
          have e0 := box_cell (j := 0) kb rfl
          obtain ⟨b1, hb1e⟩ : ∃ b1, M.getD s false = b1 := ⟨_, rfl⟩
          obtain ⟨q, hq⟩ : ∃ q, lvB ss M s = q := ⟨_, rfl⟩
          rw [hb1e] at hc hne hno hyes
          rw [hq] at HC hne hno hyes
          replace HC := Lib.hid HC
          replace hb1e := Lib.hid hb1e
          replace hq := Lib.hid hq
          clear hlv hks hto2
          cases b1
          · have hsame := hno (fun h => absurd h (by decide))
            rw [hsame] at hsn
            have hho := Lib.hid ho
            replace hsn := Lib.hid hsn
            clear ho hne hno hyes hsame
            go_wp2
            go_roundw
            case rel => exact ⟨s + 1, c, by go_num, hlts, by first | rfl | trivial, by rw [hsn.out]; exact hho.out, hbw, kA, kb, by rw [hsn.out]; exact hct, by rw [hsn.out]; exact hcf⟩
            case measure => simp [intOf]; omega
          · cases q
            · have hset := hyes rfl rfl
              have hdiff := hne rfl rfl
              rw [← hsn] at hdiff
              rw [hset] at hsn
              replace hsn := Lib.hid hsn
              replace hdiff := Lib.hid hdiff
              have hho := Lib.hid ho
              clear ho hne hno hyes hset hf
              go_wp2_with fail
              refine HC.out.mono ?_
              rintro e w2 ⟨rfl, hb2⟩
              have ho2 := hho.out.keep hb2
              have hc2 := ho2.cell hlts
              rw [hb1e.out] at hc2
              have hf2 := ho2.free s
              have kb2 := (hb2.block _ (Array.getElem?_eq_some_iff.1 kb).1).trans kb
              have kA2 := (hb2.block _ (Array.getElem?_eq_some_iff.1 kA).1).trans kA
              have e2 := box_cell (j := 0) kb2 rfl
              have hbw2 := bt hbw hb2 hbw.size
              have hst := ho2.store s false
              have hbf := Below.setCell (p := ⟨g, s, none⟩) hbw2 (show w.heap.size ≤ g by omega) (.bool false)
              have kA3 := (Below.heap_setCell w2 ⟨g, s, none⟩ (.bool false) w.heap.size (by show w.heap.size ≠ g; omega)).trans kA2
              have kb3 := (Below.heap_setCell w2 ⟨g, s, none⟩ (.bool false) b (by show b ≠ g; omega)).trans kb2
              clear e0 hc hho ho2
              go_wp2
              go_roundw
              case rel => exact ⟨s + 1, true, by go_num, hlts, by first | rfl | trivial, by rw [hsn.out]; exact hst, hbf, kA3, kb3, fun _ => hdiff.out, fun h => absurd h (by decide)⟩
              case measure => simp [intOf]; omega
            · have hsame := hno (fun _ => rfl)
              rw [hsame] at hsn
              replace hsn := Lib.hid hsn
              have hho := Lib.hid ho
              clear ho hne hno hyes hsame hf
              go_wp2_with fail
              refine HC.out.mono ?_
              rintro e w2 ⟨rfl, hb2⟩
              have ho2 := hho.out.keep hb2
              have kb2 := (hb2.block _ (Array.getElem?_eq_some_iff.1 kb).1).trans kb
              have kA2 := (hb2.block _ (Array.getElem?_eq_some_iff.1 kA).1).trans kA
              have hbw2 := bt hbw hb2 hbw.size
              clear e0 hc hho
              go_wp2
              go_roundw
              case rel => exact ⟨s + 1, c, by go_num, hlts, by first | rfl | trivial, by rw [hsn.out]; exact ho2, hbw2, kA2, kb2, by rw [hsn.out]; exact hct, by rw [hsn.out]; exact hcf⟩
              case measure => simp [intOf]; omega
        · obtain rfl : s = N := by omega
          have hge : ¬ ((s : Int) < (s : Int)) := by omega
          have hps : psK ss s 0 L = psA ss L := by rw [psA, hN.out]
          rw [hps] at ho hct hcf
          have ht2 : Hid (c = true → itA ss f (psA ss L) = some (lvA ss)) := fun h => by
            have h1 := hit.out
            rw [itA, if_neg (hct.out h)] at h1; exact h1
          have hf2 : Hid (c = false → psA ss L = lvA ss) := fun h => by
            have h1 := hit.out
            rw [itA, if_pos (hcf.out h)] at h1
            injection h1 with h1
            rw [hcf.out h]; exact h1
          have hho := Lib.hid ho
          clear ho hct hcf hps
          go_wp2
          go_roundg f
          case measure => omega
          case rel => exact ⟨psA ss L, c, by first | rfl | trivial, hho.out, hbw, kA, kb, ht2, hf2⟩
end Go.Proofs.YtiiiegflobihjaaGreat

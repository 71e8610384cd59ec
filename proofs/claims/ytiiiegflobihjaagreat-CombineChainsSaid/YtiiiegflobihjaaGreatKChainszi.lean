/- Texts of this claim, put together: FD FC Y0. -/
import Derived.Test.YtiiiegflobihjaaGreatKChainszh
import Derived.Test.YtiiiegflobihjaaGreatKChainszc
import Derived.Test.YtiiiegflobihjaaGreatKChainsa
import Derived.Test.YtiiiegflobihjaaGreatKChainsw
import Derived.Lib.SmallJoins

/- What Then hands back, program and reference. -/
namespace Go.Proofs.YtiiiegflobihjaaGreat
open Go.RowKit

def thenRs (m n k : Int) (xs ys : List (List (List Int))) : Int × Int × List (List (List Int)) :=
  if eqErr m n xs ys ≠ 0 then (eqErr m n xs ys, 0, []) else if k < 0 ∨ 6 < k then (2, 0, []) else rsOf m (thA xs ys k)
theorem thenAll {w : World} {u v : Value} {m n : Int} {xs ys : List (List (List Int))} (hx : AdvV w u m xs) (hy : AdvV w v n ys) (fx : fewA xs = true) (fy : fewA ys = true) (k : Int) : Calls Tryz.prog 15 #[u, .int .i64 k, v] w (RsOut w (thenRs m n k xs ys)) := by
  obtain ⟨x1, x2⟩ := fewA_le fx
  obtain ⟨y1, y2⟩ := fewA_le fy
  by_cases h0 : eqErr m n xs ys = 0
  · obtain ⟨c1, c2, _⟩ := eqErr_zero h0
    rw [thenRs, if_neg (fun h => h h0)]
    by_cases hk : k < 0 ∨ 6 < k
    · rw [if_pos hk]
      refine (thenRange hx hy (by omega) (by omega) h0 hk).mono ?_
      rintro e w' ⟨rfl, hb⟩
      exact ⟨_, rfl, advZero w', hb⟩
    · rw [if_neg hk]
      exact (thenGood hx hy (by omega) (by omega) h0 (adS_of hx.len8 c1 x1 x2) (adS_of hy.len8 c2 y1 y2) (by omega)).mono fun _ _ h => RsOut.ofBd h
  · rw [thenRs, if_pos h0]
    refine (thenBad hx hy (by omega) (by omega) h0).mono ?_
    rintro e w' ⟨rfl, hb⟩
    exact ⟨_, rfl, advZero w', hb⟩
theorem refThenAll {w : World} {u v : Value} {m n : Int} {xs ys : List (List (List Int))} (hx : AdvV w u m xs) (hy : AdvV w v n ys) (fx : fewA xs = true) (fy : fewA ys = true) (k : Int) : Calls Tryz.prog 16 #[u, .int .i64 k, v] w (RsOut w (thenRs m n k xs ys)) := by
  obtain ⟨x1, x2⟩ := fewA_le fx
  obtain ⟨y1, y2⟩ := fewA_le fy
  by_cases h0 : eqErr m n xs ys = 0
  · obtain ⟨c1, c2, _⟩ := eqErr_zero h0
    rw [thenRs, if_neg (fun h => h h0)]
    by_cases hk : k < 0 ∨ 6 < k
    · rw [if_pos hk]
      refine (refThenRange hx hy h0 hk).mono ?_
      rintro e w' ⟨rfl, hb⟩
      exact ⟨_, rfl, advZero w', hb⟩
    · rw [if_neg hk]
      exact (refThenGood hx hy h0 (adS_of hx.len8 c1 x1 x2) (adS_of hy.len8 c2 y1 y2) (by omega)).mono fun _ _ h => RsOut.ofBd h
  · rw [thenRs, if_pos h0]
    refine (refThenBad hx hy h0).mono ?_
    rintro e w' ⟨rfl, hb⟩
    exact ⟨_, rfl, advZero w', hb⟩
end Go.Proofs.YtiiiegflobihjaaGreat

/- The law CombineChains. -/
namespace Go.Proofs.YtiiiegflobihjaaGreat
open Go.RowKit

set_option maxRecDepth 100000 in
set_option maxHeartbeats 1600000 in
theorem lawChains {w : World} {u v : Value} {m n k : Int} {xs ys : List (List (List Int))} (hx : AdvV w u m xs) (hy : AdvV w v n ys) :
    Calls Tryz.prog 5 #[u, .int .i64 k, v] w fun e w' => e = .returned (.bool true) ∧ Below w.heap.size w w' := by
  obtain ⟨xa, xc, hu⟩ := advShape' hx
  obtain ⟨ya, yc, hv⟩ := advShape' hy
  subst hu hv
  obtain ⟨W1, hW1⟩ : ∃ W1, W1 = (w.alloc (.cells #[.int .i64 m, .slice xa xs.length xc] 24)).alloc (.cells #[.int .i64 n, .slice ya ys.length yc] 24) := ⟨_, rfl⟩
  obtain ⟨hb1, ⟨p0, p1⟩, ⟨q0, q1⟩, _, hs1⟩ := boxAdv2 hW1
  replace hs1 := Lib.hid hs1
  have HX := Lib.hid (fun W (hb : Below W1.heap.size W1 W) => (hx.keep hb1).keep hb)
  have HY := Lib.hid (fun W (hb : Below W1.heap.size W1 W) => (hy.keep hb1).keep hb)
  have HF := Lib.hid (refFew (HX.out W1 (Below.refl _ _)))
  have HG := Lib.hid (fun W (hb : Below W1.heap.size W1 W) => refFew (HY.out W hb))
  have HK := Lib.hid (fun W (hb : Below W1.heap.size W1 W) => And.intro (cell_kept hb p0) (And.intro (cell_kept hb p1) (And.intro (cell_kept hb q0) (cell_kept hb q1))))
  obtain ⟨fx, hfx1⟩ : ∃ fx, fewA xs = fx := ⟨_, rfl⟩
  obtain ⟨fy, hfy1⟩ : ∃ fy, fewA ys = fy := ⟨_, rfl⟩
  rw [hfx1] at HF
  simp only [hfy1] at HG
  replace hfx1 := Lib.hid hfx1
  replace hfy1 := Lib.hid hfy1
  clear hx hy
  cases fx
  · go_enter Tryz.func5, Tryz.ntmps5
    go_wp2_with fail
    rw [← hW1]
    refine HF.out.mono ?_
    rintro e W2 ⟨rfl, hb2⟩
    go_wp2_with fail
    refine (awakeK W2 (bt hb1 hb2 hb1.size) (Nat.le_trans hb1.size hb2.size)).mono ?_
    rintro e W3 ⟨rfl, hb3⟩
    go_wp2
    go_ret
    exact ⟨rfl, hb3⟩
  · cases fy
    · go_enter Tryz.func5, Tryz.ntmps5
      go_wp2_with fail
      rw [← hW1]
      refine HF.out.mono ?_
      rintro e W2 ⟨rfl, hb2⟩
      obtain ⟨a0, a1, a2, a3⟩ := HK.out W2 hb2
      go_wp2_with fail
      refine (HG.out W2 hb2).mono ?_
      rintro e W3 ⟨rfl, hb3⟩
      have B3 := btt hb2 hb3
      go_wp2_with fail
      refine (awakeK W3 (bt hb1 B3 hb1.size) (Nat.le_trans hb1.size B3.size)).mono ?_
      rintro e W4 ⟨rfl, hb4⟩
      go_wp2
      go_ret
      exact ⟨rfl, hb4⟩
    · have HE := Lib.hid (fun W (hb : Below W1.heap.size W1 W) => thenAll (HX.out W hb) (HY.out W hb) hfx1.out hfy1.out k)
      have HR := Lib.hid (fun W (hb : Below W1.heap.size W1 W) => refThenAll (HX.out W hb) (HY.out W hb) hfx1.out hfy1.out k)
      obtain ⟨r, hr⟩ : ∃ r, thenRs m n k xs ys = r := ⟨_, rfl⟩
      simp only [hr] at HE HR
      obtain ⟨E, N, R⟩ := r
      replace hr := Lib.hid hr
      have e1 : (E == E) = true := by simp
      go_enter Tryz.func5, Tryz.ntmps5
      go_wp2_with fail
      rw [← hW1]
      refine HF.out.mono ?_
      rintro e W2 ⟨rfl, hb2⟩
      obtain ⟨a0, a1, a2, a3⟩ := HK.out W2 hb2
      go_wp2_with fail
      refine (HG.out W2 hb2).mono ?_
      rintro e W3 ⟨rfl, hb3⟩
      have B3 := btt hb2 hb3
      obtain ⟨c0, c1, c2, c3⟩ := HK.out W3 B3
      go_wp2_with fail
      clear a0 a1 a2 a3 c0 c1 c2 c3
      refine (HE.out W3 B3).mono ?_
      rintro e W4 ⟨u4, rfl, hX4, hb4⟩
      have hX4 : AdvV W4 u4 N R := hX4
      obtain ⟨sa, sc, hs4⟩ := advShape' hX4
      subst hs4
      have B4 := btt B3 hb4
      obtain ⟨W5, hW5⟩ : ∃ W5, W5 = W4.alloc (.cells #[.int .i64 N, .slice sa R.length sc] 24) := ⟨_, rfl⟩
      have hb5 : Below W4.heap.size W4 W5 := by rw [hW5]; exact (Below.refl _ _).alloc (Nat.le_refl _) _
      have kX5 : W5.heap[W4.heap.size]? = some (.cells #[.int .i64 N, .slice sa R.length sc] 24) := by rw [hW5]; exact heap_alloc_new _ _
      have hX5 := hX4.keep hb5
      have B5 := btt B4 hb5
      obtain ⟨c0, c1, c2, c3⟩ := HK.out W5 B5
      rw [hW5] at c0 c1 c2 c3
      go_wp2_with fail
      rw [← hW5]
      replace hW5 := Lib.hid hW5
      clear c0 c1 c2 c3
      refine (HR.out W5 B5).mono ?_
      rintro e W6 ⟨u6, rfl, hY6, hb6⟩
      have hY6 : AdvV W6 u6 N R := hY6
      obtain ⟨ta, tc, hs6⟩ := advShape' hY6
      subst hs6
      have B6 := btt B5 hb6
      obtain ⟨W7, hW7⟩ : ∃ W7, W7 = W6.alloc (.cells #[.int .i64 N, .slice ta R.length tc] 24) := ⟨_, rfl⟩
      have hb7 : Below W6.heap.size W6 W7 := by rw [hW7]; exact (Below.refl _ _).alloc (Nat.le_refl _) _
      have kY7 : W7.heap[W6.heap.size]? = some (.cells #[.int .i64 N, .slice ta R.length tc] 24) := by rw [hW7]; exact heap_alloc_new _ _
      have B57 := btt hb6 hb7
      have B7 := btt B5 B57
      obtain ⟨c0, c1⟩ := box2 (kept B57 kX5)
      obtain ⟨d0, d1⟩ := box2 kY7
      have HS := Lib.hid (sameRef (hX5.keep B57) (hY6.keep hb7))
      rw [show (decide (N = N) && decide (R = R)) = true by simp] at HS
      rw [hW7] at c0 c1 d0 d1
      clear kX5 kY7
      go_wp2_with fail
      rw [← hW7]
      refine HS.out.mono ?_
      rintro e W8 ⟨rfl, hb8⟩
      have B8 := btt B7 hb8
      go_wp2_with fail
      refine (awakeK W8 (bt hb1 B8 hb1.size) (Nat.le_trans hb1.size B8.size)).mono ?_
      rintro e W9 ⟨rfl, hb9⟩
      go_wp2
      go_ret
      exact ⟨rfl, hb9⟩
end Go.Proofs.YtiiiegflobihjaaGreat

/- Readers of arguments: adversaries as plain data. -/
namespace Go.Proofs.YtiiiegflobihjaaGreat
open Go.RowKit Go.ChangeShapes Go.WideShapes Go.ChangeAt Go.Deep Go.WideElems

section
variable {H : Type} {enc : TypeId × Value → H} {w : World} {base : Nat} {spare : Nat → Bool} {held : Bool}

theorem eightL {cs : List Value} (h : cs.length = 8) : ∃ a b c d e f g i, cs = [a, b, c, d, e, f, g, i] := by
  match cs, h with
  | [a, b, c, d, e, f, g, i], _ => exact ⟨a, b, c, d, e, f, g, i, rfl⟩
theorem moveInts {fuel : Nat} {cs : List Value} {x : DataW H × List MemPlace} (h : DataW.trod enc Tryz.prog w base spare held fuel 58 cs = some x) : ∃ xs : List Int, xs.length = 8 ∧ cs = xs.map (Value.int .i64) := by
  have k84 : Tryz.prog.cellsOf 58 = 8 := by kernel_rfl
  have k79 : Tryz.prog.cellsOf 51 = 7 := by kernel_rfl
  have k77 : Tryz.prog.cellsOf 49 = 6 := by kernel_rfl
  have k75 : Tryz.prog.cellsOf 47 = 5 := by kernel_rfl
  have k3 : Tryz.prog.cellsOf 3 = 1 := by kernel_rfl
  obtain ⟨y0, y1, n, _, hl, h0, h1⟩ := trod_struct2 Tryz.underlying58 h
  rw [k84] at hl
  obtain ⟨c0, c1, c2, c3, c4, c5, c6, c7, rfl⟩ := eightL hl
  simp only [k79, k3, List.drop_zero, List.take_succ_cons, List.take_zero, List.drop_succ_cons] at h0 h1
  obtain ⟨i7, e7, _⟩ := DataW.trod_int Tryz.underlying3 h1
  obtain ⟨z0, z1, n2, _, _, g0, g1⟩ := trod_struct2 Tryz.underlying51 h0
  simp only [k77, k3, List.drop_zero, List.take_succ_cons, List.take_zero, List.drop_succ_cons] at g0 g1
  obtain ⟨i6, e6, _⟩ := DataW.trod_int Tryz.underlying3 g1
  obtain ⟨q0, q1, n3, _, _, f0, f1⟩ := trod_struct2 Tryz.underlying49 g0
  simp only [k75, k3, List.drop_zero, List.take_succ_cons, List.take_zero, List.drop_succ_cons] at f0 f1
  obtain ⟨i0, e0, _⟩ := DataW.trod_int Tryz.underlying3 f0
  obtain ⟨xs, m, _, _, _, hxl, hx⟩ := DataW.trod_array Tryz.underlying47 f1
  have hj : ∀ (i : Nat) (c : Value), i < 5 → (([c1, c2, c3, c4, c5] : List Value).drop i).take 1 = [c] → ∃ k, c = .int .i64 k := fun i c hi hc => by
    have := hx i hi
    rw [k3, Nat.mul_one, hc, List.getElem?_eq_getElem (by omega)] at this
    obtain ⟨k, e, _⟩ := DataW.trod_int Tryz.underlying3 this
    exact ⟨k, by simpa using e⟩
  obtain ⟨i1, rfl⟩ := hj 0 c1 (by omega) rfl
  obtain ⟨i2, rfl⟩ := hj 1 c2 (by omega) rfl
  obtain ⟨i3, rfl⟩ := hj 2 c3 (by omega) rfl
  obtain ⟨i4, rfl⟩ := hj 3 c4 (by omega) rfl
  obtain ⟨i5, rfl⟩ := hj 4 c5 (by omega) rfl
  obtain rfl : c0 = .int .i64 i0 := by simpa using e0
  obtain rfl : c6 = .int .i64 i6 := by simpa using e6
  obtain rfl : c7 = .int .i64 i7 := by simpa using e7
  exact ⟨[i0, i1, i2, i3, i4, i5, i6, i7], rfl, rfl⟩
theorem ksc_of_trod {v : Value} {d : DataW H} {ps : List MemPlace} {fuel : Nat} (h : DataW.trod enc Tryz.prog w 0 (fun _ => true) true fuel 59 [v] = some (d, ps)) (hw : ∀ n ∈ d.weights Tryz.prog 59, n ≤ reachBytes) : ∃ xs, KSC 8 w v xs := by
  have k84 : Tryz.prog.cellsOf 58 = 8 := by kernel_rfl
  have b84 : Tryz.prog.bytesOf 58 = 64 := by kernel_rfl
  rcases open_slice Tryz.underlying59 h with ⟨h1, _⟩ | ⟨a, len, cap, m, n, D, Pl, h1, _, hl, hm, hmm, h2, hx⟩
  · obtain rfl : v = .slice none 0 0 := by simpa using h1
    exact ⟨[], none, 0, 0, 0, rfl, by simp, by intro j hj; simp at hj, by simp, by simp⟩
  · obtain rfl : v = .slice (some a) len cap := by simpa using h1
    simp only [if_true] at hmm
    subst hmm
    obtain ⟨rfl, _⟩ := Prod.mk.injEq .. ▸ h2
    have hsz := hw ((len + (m - len)) * 64) (by simp [DataW.weights, Tryz.underlying59, b84])
    unfold reachBytes at hsz
    rw [k84] at hx
    obtain ⟨X, hX⟩ := choose_lt (α := List Int) (n := len) (p := fun i xs => xs.length = 8 ∧ ∀ j, j < 8 → w.cell? (a.add (i * 8 + j)) = some (.int .i64 (xs.getD j 0))) (fun i hi => by
      obtain ⟨cs', g1, g2⟩ := hx i (by omega)
      obtain ⟨xs, hx8, rfl⟩ := moveInts g2
      obtain ⟨_, _, hcell⟩ := World.cells?_some g1
      refine ⟨xs, hx8, fun j hj => ?_⟩
      have := hcell j (by omega)
      rw [add_add] at this
      rw [this, List.getElem?_map, List.getElem?_eq_getElem (by omega), getD_eq (by omega)]; rfl)
    have hlen : len ≤ 2199023255552 := by omega
    have hall : ∀ j, j < len → ((List.range len).map X).getD j [] = X j := fun j hj => by simp [hj]
    refine ⟨(List.range len).map X, some a, m, a.block, a.off, by simp, fun h0 => ?_, fun j hj => ?_, by simpa using hlen, by simpa using hl⟩
    · have hk := (hX 0 (by simpa using h0)).2 0 (by omega)
      rw [show a.add (0 * 8 + 0) = a by simp [Addr.add]] at hk
      rw [← addr_spot hk]
    · have hj' : j < len := by simpa using hj
      rw [hall j hj']
      have hk0 := (hX 0 (by omega)).2 0 (by omega)
      rw [show a.add (0 * 8 + 0) = a by simp [Addr.add]] at hk0
      refine ⟨(hX j hj').1, fun i hi => ?_⟩
      have h3 := (hX j hj').2 i (by have := (hX j hj').1; omega)
      have e : a.add (j * 8 + i) = ⟨a.block, a.off + j * 8 + i, none⟩ := by
        have := addr_spot hk0
        rw [this, Nat.add_assoc]
        exact add_plain _ _ _
      rw [← e]; exact h3
theorem weightsAll_mem {e : TypeId} : ∀ {l : List (DataW H)} {x : DataW H}, x ∈ l → ∀ n ∈ x.weights Tryz.prog e, n ∈ DataW.weightsAll Tryz.prog e l := by
  intro l
  induction l with
  | nil => intro x hx; cases hx
  | cons y r ih =>
    intro x hx n hn
    simp only [DataW.weightsAll, List.mem_append]
    rcases List.mem_cons.1 hx with rfl | hx
    · exact .inl hn
    · exact .inr (ih hx n hn)
set_option maxRecDepth 100000 in
/-- An adversary among the arguments. -/
theorem advC_of_trod {r : Reach} {b0 : Nat} {v : Value} {d : DataW H} {p : List MemPlace} (hv : Value.okWide Tryz.prog w r b0 24 v) (h : DataW.Trod enc Tryz.prog w 0 (fun _ => true) true 24 v d p) (hw : ∀ n ∈ d.weights Tryz.prog 24, n ≤ reachBytes) : ∃ n ss, AdvC w v n ss := by
  have k82 : Tryz.prog.cellsOf 59 = 1 := by kernel_rfl
  have b82 : Tryz.prog.bytesOf 59 = 24 := by kernel_rfl
  obtain ⟨v0, v1, y0, y1, n, rfl, rfl, rfl, h0, h1⟩ := Go.Joins.open_agg2 Tryz.underlying24 (by kernel_rfl) (by kernel_rfl) hv h
  obtain ⟨i0, e0, _⟩ := DataW.trod_int Tryz.underlying3 h0
  obtain rfl : v0 = .int .i64 i0 := by simpa using e0
  have hw1 : ∀ n ∈ y1.1.weights Tryz.prog 22, n ≤ reachBytes := fun n hn => hw n (by
    simp only [DataW.weights, Tryz.underlying24, DataW.weightsEach, List.map_cons, List.map_nil, List.mem_append]
    exact .inr (.inl hn))
  obtain ⟨d1, p1⟩ := y1
  rcases open_slice1 Tryz.underlying22 k82 h1 with ⟨h2, _⟩ | ⟨a, len, cap, m, n, V, D, Pl, h2, _, hl, hm, hmm, h3, hx⟩
  · obtain rfl : v1 = .slice none 0 0 := by simpa using h2
    exact ⟨i0, [], none, 0, 0, 0, rfl, by simp, by intro j hj; simp at hj, by simp⟩
  · obtain rfl : v1 = .slice (some a) len cap := by simpa using h2
    simp only [if_true] at hmm
    subst hmm
    obtain ⟨rfl, _⟩ := Prod.mk.injEq .. ▸ h3
    have hsz := hw1 ((len + (m - len)) * 24) (by simp [DataW.weights, Tryz.underlying22, b82])
    unfold reachBytes at hsz
    have hxs : ∀ i, i < len → ∃ xs, KSC 8 w (V i) xs := fun i hi => by
      obtain ⟨g1, g2⟩ := hx i (by omega)
      refine ksc_of_trod g2 fun n hn => hw1 n ?_
      simp only [DataW.weights, Tryz.underlying22, List.mem_cons, List.mem_append]
      right; left
      exact weightsAll_mem (List.mem_map_of_mem (List.mem_range.2 hi)) n hn
    have hlen : len ≤ 5864062014805 := by omega
    obtain ⟨X, hX⟩ : ∃ X : Nat → List (List Int), ∀ i, i < len → KSC 8 w (V i) (X i) := ⟨fun i => if h : i < len then (hxs i h).choose else [], fun i hi => by simp only [hi, dif_pos]; exact (hxs i hi).choose_spec⟩
    refine ⟨i0, (List.range len).map X, some a, m, a.block, a.off, by simp, fun h0 => ?_, fun j hj => ?_, by simpa using hlen⟩
    · have hk := (hx 0 (by have : 0 < len := by simpa using h0
                           omega)).1
      rw [show a.add 0 = a by simp [Addr.add]] at hk
      rw [← addr_spot hk]
    · have hj' : j < len := by simpa using hj
      have hk0 := (hx 0 (by omega)).1
      rw [show a.add 0 = a by simp [Addr.add]] at hk0
      have e1 : a.add j = ⟨a.block, a.off + j, none⟩ := by
        rw [addr_spot hk0]
        exact add_plain _ _ _
      refine ⟨V j, by rw [← e1]; exact (hx j (by omega)).1, ?_⟩
      have : ((List.range len).map X).getD j [] = X j := by simp [hj']
      rw [this]
      exact hX j hj'
end
end Go.Proofs.YtiiiegflobihjaaGreat

/- Texts of this claim, put together: VH X7 Y0. -/
import Derived.Test.YtfihpofdoffclaaGreatDoorKzc
import Derived.Test.YtfihpofdoffclaaGreatDoorKv
import Derived.Test.YtfihpofdoffclaaGreatDoorKo
import Derived.Test.YtfihpofdoffclaaGreatDoorKy
import Derived.Test.YtfihpofdoffclaaGreatDoorKq
import Derived.Test.YtfihpofdoffclaaGreatDoorKa
import Derived.Lib.SmallJoins

/- adversary.Reachable; the numbers of words of the canonical form. -/
namespace Go.Proofs.YtfihpofdoffclaaGreatDoor
open Go.RowKit

theorem cnt_small {ss : List (List (List Int))} (hM : LeadOK ss) (h0 : 0 < ss.length) {k : Nat} (h : num ss 101 k ≤ 100) : cnt ss k 0 ≤ 100 := by
  have h1 := numL_cnt hM (L := 101) (by decide) k 0 h0
  unfold num at h
  rw [h1] at h
  omega
theorem num_small {ss : List (List (List Int))} (hM : LeadOK ss) (h0 : 0 < ss.length) {k : Nat} (h : cnt ss k 0 ≤ 100) : num ss 4097 k ≤ 4096 := by
  have h1 := numL_cnt hM (L := 4097) (by decide) k 0 h0
  unfold num
  rw [h1]
  omega
theorem goodB_facts {n : Int} {ss : List (List (List Int))} {k : Nat} (h8 : ∀ s ∈ ss, ∀ m ∈ s, m.length = 8) (h : goodB n ss k = true) : SmA n ss ∧ ss.length ≤ 8 ∧ movesN ss ≤ 40 ∧ num ss 4097 k ≤ 4096 ∧ num (canS ss) 4097 k ≤ 4096 ∧ wL (canS ss) k 0 = wL ss k 0 := by
  unfold goodB fewW at h
  simp only [Bool.and_eq_true, decide_eq_true_eq] at h
  obtain ⟨⟨hf, _⟩, h0, hn⟩ := h
  obtain ⟨hl, hm⟩ := few_le hf
  have hS : SmA n ss := ⟨h8, h0, by omega, by omega⟩
  have hc := cnt_small hS.lead hS.pos hn
  have hw : wL ss k 0 = wL (canS ss) k 0 := wL_lock (canSim hS) k 0 0 (canR_zero hS)
  have hc2 : cnt (canS ss) k 0 ≤ 100 := by rw [← wL_len, ← hw, wL_len]; exact hc
  exact ⟨hS, hl, hm, num_small hS.lead hS.pos hc, num_small (canS_lead hS) (by have := (canS_small hS).1; omega) hc2, hw.symm⟩
/-- The labels of the states that are met. -/
def labsL (L : List Nat) (l : List Nat) : List Int := natI (l.map (keyL L))
theorem labs_count {n : Int} {ss : List (List (List Int))} (hS : SmA n ss) {l : List Nat} (hl : ∀ x, x ∈ l ↔ x ∈ (ordI ss).1) {ys : List Int} {N : Nat} (hN : ys.length = N) (hs : Srt ys (N - 1)) (hm : ∀ x, x ∈ ys ↔ x ∈ labsL (part ss) l) :
    (cmpc (ys.map fun x => [x])).length = (canS ss).length := by
  subst hN
  refine compact_count hS hs fun x => ?_
  rw [hm, labsL, natI, natI, List.mem_map, List.mem_map]
  constructor
  · rintro ⟨a, ha, rfl⟩
    obtain ⟨b, hb, rfl⟩ := List.mem_map.1 ha
    exact ⟨_, List.mem_map_of_mem ((hl b).1 hb), rfl⟩
  · rintro ⟨a, ha, rfl⟩
    obtain ⟨b, hb, rfl⟩ := List.mem_map.1 ha
    exact ⟨_, List.mem_map_of_mem ((hl b).2 hb), rfl⟩
theorem OI.ei {w : World} {B : Nat} {v : Value} {n : Nat} {xs : List Int} (h : OI w B v n xs) : OwX 3 1 EI w B v n (xs.map fun x => [x]) := by
  refine ⟨xs.map (Value.int .i64), h, by rw [List.length_map]; exact h.length, fun u hu => ?_, fun j x hj => ?_⟩
  · obtain ⟨x, _, rfl⟩ := List.mem_map.1 hu; rfl
  · rw [List.getElem?_map] at hj
    show _ = _
    have hlt : j < xs.length := by
      rcases Nat.lt_or_ge j xs.length with h | h
      · exact h
      · rw [List.getElem?_eq_none h] at hj; cases hj
    rw [List.getElem?_eq_getElem hlt] at hj
    simp only [Option.map_some, Option.some.injEq] at hj
    rw [Nat.mul_one, ← List.map_drop, ← List.map_take, List.drop_eq_getElem_cons hlt, ← hj]; rfl
set_option maxRecDepth 100000 in
set_option maxHeartbeats 800000 in
theorem reachableA {w : World} {v : Value} {n : Int} {ss : List (List (List Int))} (hA : AdvV w v n ss) (h0 : chkA n ss = 0) (hO : ClsOK ss) :
    Calls Tryz.prog 40 #[v] w fun e w' => ∃ u l, e = .returned (.tuple #[u, .int .i64 0]) ∧ OI w' w.heap.size u l.length (natI l) ∧ (∀ x, x ∈ l ↔ x ∈ (ordI ss).1) ∧ l.length ≤ ss.length ∧ Below w.heap.size w w' := by
  have hA' := hA
  obtain ⟨sv, rfl, hK⟩ := hA'
  obtain ⟨sa, sc, hsv⟩ := hK.shape
  subst hsv
  obtain ⟨W1, hW1⟩ : ∃ W1, W1 = w.alloc (.cells #[.int .i64 n, .slice sa ss.length sc] 24) := ⟨_, rfl⟩
  obtain ⟨hb1, p0, p1, _⟩ := boxAdv hW1
  have HC := checkA (hA.keep hb1) (by have := hO.2.1; omega)
  rw [h0] at HC
  have HR := Lib.hid (fun W (hb : Below w.heap.size w W) => reachedA (hA.keep hb) hO)
  replace HC := Lib.hid HC
  clear hA hK h0 hO
  go_enter Tryz.func40, Tryz.ntmps40
  go_wp2_with fail
  rw [← hW1]
  refine HC.out.mono ?_
  rintro e W2 ⟨rfl, hb2⟩
  have hb02 := bt hb1 hb2 hb1.size
  have q0 := cell_kept hb2 p0
  have q1 := cell_kept hb2 p1
  have hsz := hb02.size
  go_wp2_with fail
  refine (HR.out W2 hb02).mono ?_
  rintro e W3 ⟨u, l, rfl, hOI, hm, hl, hb3⟩
  have hb03 := bt hb02 hb3 hsz
  have hOI2 := hOI.base hsz
  replace hm := Lib.hid hm
  replace hOI2 := Lib.hid hOI2
  go_wp2
  go_ret2
  exact ⟨_, l, rfl, hOI2.out, hm.out, hl, hb03⟩
end Go.Proofs.YtfihpofdoffclaaGreatDoor

/- The law CanonicalKeeps. -/
namespace Go.Proofs.YtfihpofdoffclaaGreatDoor
open Go.RowKit

set_option maxRecDepth 100000 in
set_option maxHeartbeats 6400000 in
theorem lawKeeps {w : World} {u : Value} {m : Int} {xs : List (List (List Int))} (hx : AdvV w u m xs) :
    Calls Tryz.prog 10 #[u] w fun e w' => e = .returned (.bool true) ∧ Below w.heap.size w w' := by
  have h8 := hx.len8
  obtain ⟨xa, xc, hu⟩ := advShape' hx
  subst hu
  obtain ⟨W1, hW1⟩ : ∃ W1, W1 = w.alloc (.cells #[.int .i64 m, .slice xa xs.length xc] 24) := ⟨_, rfl⟩
  obtain ⟨hb1, p0, p1, hs1⟩ := boxAdv hW1
  replace hs1 := Lib.hid hs1
  have HX := Lib.hid (fun W (hb : Below W1.heap.size W1 W) => (hx.keep hb1).keep hb)
  have HF0 : Calls Tryz.prog 38 #[.agg #[.int .i64 m, .slice xa xs.length xc], .int .i64 3] W1 fun e w' => e = .returned (.bool (goodB m xs 3)) ∧ Below W1.heap.size W1 w' := goodCall (k := 3) (HX.out W1 (Below.refl _ _)) (by decide)
  have HF := Lib.hid HF0
  clear HF0
  have HK := Lib.hid (fun W (hb : Below W1.heap.size W1 W) => And.intro (cell_kept hb p0) (cell_kept hb p1))
  have hgf : Hid (goodB m xs 3 = true → SmA m xs ∧ xs.length ≤ 8 ∧ movesN xs ≤ 40 ∧ num xs 4097 3 ≤ 4096 ∧ num (canS xs) 4097 3 ≤ 4096 ∧ wL (canS xs) 3 0 = wL xs 3 0) := fun h => goodB_facts h8 h
  obtain ⟨gx, hgx⟩ : ∃ gx, goodB m xs 3 = gx := ⟨_, rfl⟩
  rw [hgx] at HF hgf
  clear hgx hx h8
  cases gx
  · go_enter Tryz.func10, Tryz.ntmps10
    go_wp2_with fail
    rw [← hW1]
    refine HF.out.mono ?_
    rintro e W2 ⟨rfl, hb2⟩
    go_wp2_with fail
    refine (awakeK W2 (bt hb1 hb2 hb1.size) (Nat.le_trans hb1.size hb2.size)).mono ?_
    rintro e W3 ⟨rfl, hb3⟩
    go_wp2
    go_ret
    exact ⟨rfl, hb3⟩
  · obtain ⟨hS, x1, x2, hn1, hn2, hwl⟩ := hgf.out rfl
    have hmx : Tryz.prog.follows .mixedOrders = true := by kernel_rfl
    have hS2 := hS
    obtain ⟨h8, h0, _, _⟩ := hS2
    have c0 := canS_chk hS
    have c1 := (canS_small hS).2
    have c2 := canS_moves hS
    have c3 := canS_idem hS
    have c4 := canS_cls hS
    have hO := hS.cls
    have H2 := Lib.hid (fun W (hb : Below W1.heap.size W1 W) => canonGood (HX.out W hb) (by omega) (by omega) h0)
    have H3 := Lib.hid (fun W v (hv : AdvV W v m (canS xs)) => canonGood hv (by omega) (by omega) c0)
    have H4 := Lib.hid (fun W v (hv : AdvV W v m (canS xs)) => isGood hv (by omega) (by omega) c0)
    have H5 := Lib.hid (fun W v (hb : Below W1.heap.size W1 W) (hv : AdvV W v m (canS xs)) => equalA (HX.out W hb) hv (by omega) (by omega) (by omega) (by omega))
    have H6 := Lib.hid (fun W (hb : Below W1.heap.size W1 W) => show Calls Tryz.prog 39 #[_, .int .i64 3] _ _ from wordsA (k := 3) (HX.out W hb) h0 hO (by decide) hn1)
    have H7 := Lib.hid (fun W v (hv : AdvV W v m (canS xs)) => show Calls Tryz.prog 39 #[_, .int .i64 3] _ _ from wordsA (k := 3) hv c0 c4 (by decide) hn2)
    have H8 := Lib.hid (fun W (hb : Below W1.heap.size W1 W) => classesGood (HX.out W hb) (by omega) (by omega) h0)
    have H9 := Lib.hid (fun W (hb : Below W1.heap.size W1 W) => reachableA (HX.out W hb) h0 hO)
    have hEr : eqErr m m xs (canS xs) = 0 := by rw [eqErr, if_neg (fun k => k h0), if_neg (fun k => k c0), if_neg (fun k => k rfl)]
    have hRe : eqRes m m xs (canS xs) = true := by rw [eqRes, hEr, c3]; simp
    have hIs : decide (canS xs = canS (canS xs)) = true := by rw [c3]; simp
    have HZ := Lib.hid (fun (l : List Nat) (hl : ∀ x, x ∈ l ↔ x ∈ (ordI xs).1) (ys : List Int) (N : Nat) (hN : ys.length = N) (hs : Srt ys (N - 1)) (hm : ∀ x, x ∈ ys ↔ x ∈ labsL (part xs) l) => labs_count hS hl hN hs hm)
    have hrb : Hid (∀ x, x ∈ (ordI xs).1 → x < xs.length) := (ordI_eq hO).2.2
    have hr0 : Hid (∃ x, x ∈ (ordI xs).1) := by
      obtain ⟨k, hk⟩ : ∃ k, k ∈ (ordC xs).1.map (keyL (part xs)) := by
        obtain ⟨t, ht⟩ := (ordC_facts hS).2.2.1
        exact ⟨keyL (part xs) 0, by rw [ht]; simp⟩
      obtain ⟨x, hx, _⟩ := List.mem_map.1 ((reach_keys hS k).2 hk)
      exact ⟨x, hx⟩
    have hpl : (part xs).length = xs.length := part_len xs
    rw [hIs] at H4
    rw [hEr, hRe] at H5
    rw [c3] at H3
    rw [hwl] at H7
    obtain ⟨C, hC⟩ : ∃ C, canS xs = C := ⟨_, rfl⟩
    simp only [hC] at H2 H3 H4 H5 H7 HZ
    obtain ⟨PT, hPT⟩ : ∃ PT, part xs = PT := ⟨_, rfl⟩
    simp only [hPT] at H8 HZ hpl
    obtain ⟨WL, hWL⟩ : ∃ WL, wL xs 3 0 = WL := ⟨_, rfl⟩
    simp only [hWL] at H6 H7
    obtain ⟨ord, hord⟩ : ∃ ord, (ordI xs).1 = ord := ⟨_, rfl⟩
    simp only [hord] at H9 HZ hrb hr0
    have hCl : C.length ≤ 8 := by rw [← hC]; omega
    clear hC hPT hWL hord hgf hS h8 h0 c0 c1 c2 c3 c4 hO hEr hRe hIs hn1 hn2 hwl
    replace hpl := Lib.hid hpl
    go_enter Tryz.func10, Tryz.ntmps10
    go_wp2_with fail
    rw [← hW1]
    refine HF.out.mono ?_
    rintro e W2 ⟨rfl, hb2⟩
    obtain ⟨a0, a1⟩ := HK.out W2 hb2
    go_wp2_with fail
    clear a0 a1
    refine (H2.out W2 hb2).mono ?_
    rintro e W3 ⟨cx, rfl, hX, hb3⟩
    obtain ⟨ca, cc, hcs⟩ := hX.shape'
    subst hcs
    have B3 := btt hb2 hb3
    obtain ⟨W4, hW4⟩ : ∃ W4, W4 = W3.alloc (.cells #[.int .i64 m, .slice ca C.length cc] 24) := ⟨_, rfl⟩
    obtain ⟨hb4, g0, g1, _⟩ := boxAdv hW4
    have B4 := btt B3 hb4
    have KX := Lib.hid (fun X (hX1 : Below W4.heap.size W4 X) => And.intro ((hX.keep hb4).keep hX1) (And.intro (cell_kept hX1 g0) (cell_kept hX1 g1)))
    have k0' := g0
    have k1' := g1
    rw [hW4] at k0' k1'
    go_wp2_with fail
    rw [← hW4]
    replace hW4 := Lib.hid hW4
    clear k0' k1' hb2 hb3 hX
    obtain ⟨hX4, _, _⟩ := KX.out W4 (Below.refl _ _)
    refine (H3.out W4 _ hX4.adv).mono ?_
    rintro e W5 ⟨cy, rfl, hY, hb5⟩
    obtain ⟨da, dc, hds⟩ := hY.shape'
    subst hds
    obtain ⟨W6, hW6⟩ : ∃ W6, W6 = W5.alloc (.cells #[.int .i64 m, .slice da C.length dc] 24) := ⟨_, rfl⟩
    obtain ⟨hb6, y0, y1, _⟩ := boxAdv hW6
    have KY := Lib.hid (fun X (hX1 : Below W6.heap.size W6 X) => And.intro ((hY.keep hb6).keep hX1) (And.intro (cell_kept hX1 y0) (cell_kept hX1 y1)))
    have b46 := btt hb5 hb6
    have B6 := btt B4 b46
    obtain ⟨hX6, k0, k1⟩ := KX.out W6 b46
    rw [hW6] at k0 k1
    go_wp2_with fail
    rw [← hW6]
    replace hW6 := Lib.hid hW6
    clear k0 k1 g0 g1 y0 y1 hY hX4 hb4 hb5 hb6
    refine (H4.out W6 _ hX6.adv).mono ?_
    rintro e W7 ⟨rfl, hb7⟩
    have B7 := btt B6 hb7
    have b47 := btt b46 hb7
    obtain ⟨hX7, k0, k1⟩ := KX.out W7 b47
    obtain ⟨a0, a1⟩ := HK.out W7 B7
    go_wp2_with fail
    clear k0 k1 a0 a1 hX6
    refine (H5.out W7 _ B7 hX7.adv).mono ?_
    rintro e W8 ⟨rfl, hb8⟩
    have B8 := btt B7 hb8
    have b48 := btt b47 hb8
    have b68 := btt hb7 hb8
    obtain ⟨a0, a1⟩ := HK.out W8 B8
    go_wp2_with fail
    clear a0 a1 hX7
    refine (H6.out W8 B8).mono ?_
    rintro e W9 ⟨lv, rfl, hL, hb9⟩
    obtain ⟨la, lc, hls⟩ := hL.shape
    subst hls
    have B9 := btt B8 hb9
    have b49 := btt b48 hb9
    have b69 := btt b68 hb9
    obtain ⟨hX9, k0, k1⟩ := KX.out W9 b49
    go_wp2_with fail
    clear k0 k1
    refine (H7.out W9 _ hX9.adv).mono ?_
    rintro e W10 ⟨mv, rfl, hM, hb10⟩
    obtain ⟨ma, mc, hms⟩ := hM.shape
    subst hms
    have B10 := btt B9 hb10
    have b410 := btt b49 hb10
    have b610 := btt b69 hb10
    have hL10 := hL.keep hb10
    obtain ⟨a0, a1⟩ := HK.out W10 B10
    go_wp2_with fail
    clear a0 a1 hX9 hL
    refine (H8.out W10 B10).mono ?_
    rintro e W11 ⟨pv, rfl, hP, hb11⟩
    obtain ⟨pa, pc, hps⟩ := hP.shape
    subst hps
    have B11 := btt B10 hb11
    have b411 := btt b410 hb11
    have b611 := btt b610 hb11
    have hL11 := hL10.keep hb11
    have hM11 := hM.keep hb11
    obtain ⟨a0, a1⟩ := HK.out W11 B11
    go_wp2_with fail
    clear a0 a1 hL10 hM
    refine (H9.out W11 B11).mono ?_
    rintro e W12 ⟨rv, l, rfl, hR, hlm, hll, hb12⟩
    obtain ⟨ra, rc, hrs⟩ := hR.shape
    subst hrs
    have B12 := btt B11 hb12
    have b412 := btt b411 hb12
    have b612 := btt b611 hb12
    have hL12 := hL11.keep hb12
    have hM12 := hM11.keep hb12
    have hP12 := hP.keep hb12
    clear hL11 hM11 hP
    have hlb : Hid (∀ x ∈ l, x < xs.length) := fun x hx => hrb.out x ((hlm x).1 hx)
    have hl0 : 0 < l.length := by
      obtain ⟨x, hx⟩ := hr0.out
      have := List.length_pos_of_mem ((hlm x).2 hx)
      exact this
    have hl8 : l.length ≤ 8 := by omega
    replace hlm := Lib.hid hlm
    obtain ⟨hX12, k0, k1⟩ := KX.out W12 b412
    obtain ⟨hY12, k2, k3⟩ := KY.out W12 b612
    obtain ⟨a0, a1⟩ := HK.out W12 B12
    go_wp2_with fail
    clear a0 a1 k0 k1 k2 k3
    refine (sameRef hX12.adv hY12.adv).mono ?_
    rintro e W13 ⟨rfl, hb13⟩
    rw [show (decide (m = m) && decide (C = C)) = true by simp]
    have B13 := btt B12 hb13
    have b413 := btt b412 hb13
    have hL13 := hL12.keep hb13
    have hM13 := hM12.keep hb13
    have hP13 := hP12.keep hb13
    have hR13 := hR.keep hb13
    clear hL12 hM12 hP12 hR hX12 hY12
    go_wp2_with fail
    refine (sameWords hL13 hM13).mono ?_
    rintro e W14 ⟨rfl, hq14⟩
    rw [show decide (WL = WL) = true by simp]
    have hb14 := hq14.below
    have B14 := btt B13 hb14
    have b414 := btt b413 hb14
    have hP14 := hP13.keep hb14
    have hR14 := hR13.keep hb14
    obtain ⟨a0, a1⟩ := HK.out W14 B14
    obtain ⟨_, k0, k1⟩ := KX.out W14 b414
    have hne : ((xs.length : Int) != (xs.length : Int)) = false := by simp
    clear hL13 hM13 hP13 hR13
    go_wp2_with fail
    clear a0 a1
    have hL9 : l.length ≤ 17592186044416 := by omega
    have hXl : xs.length ≤ 17592186044416 := by omega
    obtain ⟨ra', rc', rb, ro, hre, hra, hrc, _⟩ := hR14.ints hL9
    obtain ⟨pa', pc', pb, po, hpe, hpa, hpc, _⟩ := hP14.ints hXl
    rw [natI_len] at hre hra hpe hpa
    rw [hpl.out] at hpe hpa
    obtain ⟨rfl, rfl⟩ : ra = ra' ∧ rc = rc' := by injection hre with h1 h2 h3; exact ⟨h1, h3⟩
    obtain ⟨rfl, rfl⟩ : pa = pa' ∧ pc = pc' := by injection hpe with h1 h2 h3; exact ⟨h1, h3⟩
    have hx0 : 0 < xs.length := by omega
    obtain rfl := hra hl0
    obtain rfl := hpa hx0
    have hrd := Lib.hid (fun W (hb : Below W14.heap.size W14 W) k (hk : k < l.length) => show W.cell? ⟨rb, ro + k, none⟩ = some (.int .i64 (l.getD k 0 : Nat)) by
      have := hrc k (by rw [natI_len]; exact hk)
      rw [natI_getD] at this
      exact cell_kept hb this)
    have hpd := Lib.hid (fun W (hb : Below W14.heap.size W14 W) k (hk : k < xs.length) => show W.cell? ⟨pb, po + k, none⟩ = some (.int .i64 (PT.getD k 0 : Nat)) by
      have := hpc k (by rw [natI_len, hpl.out]; exact hk)
      rw [natI_getD] at this
      exact cell_kept hb this)
    have hO0 : OI W14 W14.heap.size (.slice none 0 0) 0 (labsL PT (l.take 0)) := OI.nil _ _
    have hK0 := Lib.hid (fun W (hb : Below W14.heap.size W14 W) => And.intro (cell_kept hb k0) (cell_kept hb k1))
    have hkb : W3.heap.size < W14.heap.size := World.block_lt_of_cell? _ _ k0
    clear hrc hpc hre hpe hra hpa hR14 hP14 k0 k1
    go_loopw [19, 113] (fun cv kv wr => ∃ k : Nat, kv = .int .i64 k ∧ k ≤ l.length ∧ OI wr W14.heap.size cv k (labsL PT (l.take k)) ∧ Below W14.heap.size W14 wr) (fun _ kv _ => l.length - (intOf kv).toNat)
    case atStart => exact ⟨0, rfl, by omega, hO0, Below.refl _ _⟩
    case round =>
      clear hO0
      obtain ⟨k, rfl, hk, hO, hbr⟩ := hrel
      obtain ⟨va, vc, hcv⟩ := hO.shape
      subst hcv
      by_cases hlt : k < l.length
      · have hki : (k : Int) < (l.length : Int) := by omega
        have hc1 := hrd.out wr hbr k hlt
        have hsn : Hid (labsL PT (l.take (k + 1)) = labsL PT (l.take k) ++ [((PT.getD (l.getD k 0) 0 : Nat) : Int)]) := by
          show _ = _
          rw [take_snoc hlt 0, labsL, labsL, natI, natI, List.map_append, List.map_append]; rfl
        have hs := hlb.out (l.getD k 0) (by rw [getD_eq hlt]; exact List.getElem_mem hlt)
        obtain ⟨s, hse⟩ : ∃ s, l.getD k 0 = s := ⟨_, rfl⟩
        rw [hse] at hc1 hsn hs
        have hc2 := hpd.out wr hbr s hs
        obtain ⟨q, hq⟩ : ∃ q, PT.getD s 0 = q := ⟨_, rfl⟩
        rw [hq] at hc2 hsn
        have hd0 : decide ((s : Int) < 0) = false := decide_eq_false (by omega)
        have hd1 : decide (xs.length ≤ s) = false := decide_eq_false (by omega)
        have hsi : (s : Int) < (xs.length : Int) := by omega
        have hk9 : k ≤ 1000000000000 := by omega
        have hB9 : W14.heap.size ≤ wr.heap.size := hbr.size
        replace hq := Lib.hid hq
        replace hse := Lib.hid hse
        go_wp2_with (at_builtin; refine wpAppI rfl _ _ rfl rfl hO rfl hk9 hB9 ?_)
        intro v2 w2 ho2 hg2 hb2
        rw [← hsn.out] at ho2
        have hbf := hbr.trans hb2
        go_wp2
        go_roundw
        case rel => exact ⟨k + 1, by go_num, hlt, ho2, hbf⟩
        case measure => simp [intOf]; omega
      · obtain rfl : k = l.length := by omega
        have hge : ¬ ((l.length : Int) < (l.length : Int)) := by omega
        rw [List.take_length] at hO
        obtain ⟨g, cap, hve, hgB⟩ := hO.ei.form hl0
        obtain ⟨rfl, rfl⟩ : va = some ⟨g, 0, none⟩ ∧ cap = vc := by injection hve with h1 h2 h3; exact ⟨h1, h3.symm⟩
        have HS := sortI hO hl0 hl8
        replace HS := Lib.hid HS
        clear hve
        go_wp2_with fail
        refine HS.out.mono ?_
        rintro e W15 ⟨rfl, ys, hy, hym, hys, hb15⟩
        have hyl : ys.length = l.length := hy.length
        have hZ := HZ.out l hlm.out ys l.length hyl hys hym
        have hb1415 : Below W14.heap.size W14 W15 := hbr.trans hb15
        have HC0 := compactInt (hy.keep ((Below.refl _ W15).drew)).ei (by omega)
        have HC : Calls Tryz.prog 42 #[.slice (some ⟨g, 0, none⟩) l.length cap] W15.drew fun e w' => e = .returned (.slice (some ⟨g, 0, none⟩) C.length cap) ∧ Below W14.heap.size W14 w' := HC0.mono fun e w' ⟨mm, he, ho, hb, _⟩ => ⟨by rw [he, ← hZ, ho.length], hb1415.drew.trans hb⟩
        replace HC := Lib.hid HC
        have hTT : ((C.length : Int) == (C.length : Int)) = true := by simp
        obtain ⟨x0', x1'⟩ := hK0.out W15 hb1415
        replace hyl := Lib.hid hyl
        replace hZ := Lib.hid hZ
        replace hym := Lib.hid hym
        replace hys := Lib.hid hys
        clear HC0 hO hy
        go_wp2_with fail
        go_region_held3 (fun w' => w'.cell? ⟨W3.heap.size, 1, none⟩ = some (.slice ca C.length cc))
          (first
            | go_keep
            | (exact (hK0.out _ (bt hb16 hb17 hb16.size)).2)
            | (exact (hK0.out _ hb16).2))
          (first
            | (go_at_call 42; refine HC.out.mono ?_; rintro e W16 ⟨rfl, hb16⟩)
            | (go_at_call 12; refine (awakeCall (w := W16)).mono ?_; rintro e W17 ⟨rfl, hb17⟩))
        all_goals
          go_wp2
          go_ret
          exact ⟨rfl, bt hb1 (bt B14 (bt hb16 hb17 hb16.size) B14.size) hb1.size⟩
end Go.Proofs.YtfihpofdoffclaaGreatDoor

/- Readers of arguments: adversaries as plain data. -/
namespace Go.Proofs.YtfihpofdoffclaaGreatDoor
open Go.RowKit Go.ChangeShapes Go.WideShapes Go.ChangeAt Go.Deep Go.WideElems

section
variable {H : Type} {enc : TypeId × Value → H} {w : World} {base : Nat} {spare : Nat → Bool} {held : Bool}

theorem eightL {cs : List Value} (h : cs.length = 8) : ∃ a b c d e f g i, cs = [a, b, c, d, e, f, g, i] := by
  match cs, h with
  | [a, b, c, d, e, f, g, i], _ => exact ⟨a, b, c, d, e, f, g, i, rfl⟩
theorem moveInts {fuel : Nat} {cs : List Value} {x : DataW H × List MemPlace} (h : DataW.trod enc Tryz.prog w base spare held fuel 84 cs = some x) : ∃ xs : List Int, xs.length = 8 ∧ cs = xs.map (Value.int .i64) := by
  have k84 : Tryz.prog.cellsOf 84 = 8 := by kernel_rfl
  have k79 : Tryz.prog.cellsOf 79 = 7 := by kernel_rfl
  have k77 : Tryz.prog.cellsOf 77 = 6 := by kernel_rfl
  have k75 : Tryz.prog.cellsOf 75 = 5 := by kernel_rfl
  have k3 : Tryz.prog.cellsOf 3 = 1 := by kernel_rfl
  obtain ⟨y0, y1, n, _, hl, h0, h1⟩ := trod_struct2 Tryz.underlying84 h
  rw [k84] at hl
  obtain ⟨c0, c1, c2, c3, c4, c5, c6, c7, rfl⟩ := eightL hl
  simp only [k79, k3, List.drop_zero, List.take_succ_cons, List.take_zero, List.drop_succ_cons] at h0 h1
  obtain ⟨i7, e7, _⟩ := DataW.trod_int Tryz.underlying3 h1
  obtain ⟨z0, z1, n2, _, _, g0, g1⟩ := trod_struct2 Tryz.underlying79 h0
  simp only [k77, k3, List.drop_zero, List.take_succ_cons, List.take_zero, List.drop_succ_cons] at g0 g1
  obtain ⟨i6, e6, _⟩ := DataW.trod_int Tryz.underlying3 g1
  obtain ⟨q0, q1, n3, _, _, f0, f1⟩ := trod_struct2 Tryz.underlying77 g0
  simp only [k75, k3, List.drop_zero, List.take_succ_cons, List.take_zero, List.drop_succ_cons] at f0 f1
  obtain ⟨i0, e0, _⟩ := DataW.trod_int Tryz.underlying3 f0
  obtain ⟨xs, m, _, _, _, hxl, hx⟩ := DataW.trod_array Tryz.underlying75 f1
  have hj : ∀ (i : Nat) (c : Value), i < 5 → (([c1, c2, c3, c4, c5] : List Value).drop i).take 1 = [c] → ∃ k, c = .int .i64 k := fun i c hi hc => by
    have := hx i hi
    rw [k3, Nat.mul_one, hc, List.getElem?_eq_getElem (by omega)] at this
    obtain ⟨k, e, _⟩ := DataW.trod_int Tryz.underlying3 this
    exact ⟨k, by simpa using e⟩
  obtain ⟨i1, rfl⟩ := hj 0 c1 (by omega) rfl
  obtain ⟨i2, rfl⟩ := hj 1 c2 (by omega) rfl
  obtain ⟨i3, rfl⟩ := hj 2 c3 (by omega) rfl
  obtain ⟨i4, rfl⟩ := hj 3 c4 (by omega) rfl
  obtain ⟨i5, rfl⟩ := hj 4 c5 (by omega) rfl
  obtain rfl : c0 = .int .i64 i0 := by simpa using e0
  obtain rfl : c6 = .int .i64 i6 := by simpa using e6
  obtain rfl : c7 = .int .i64 i7 := by simpa using e7
  exact ⟨[i0, i1, i2, i3, i4, i5, i6, i7], rfl, rfl⟩
theorem ksc_of_trod {v : Value} {d : DataW H} {ps : List MemPlace} {fuel : Nat} (h : DataW.trod enc Tryz.prog w 0 (fun _ => true) true fuel 82 [v] = some (d, ps)) (hw : ∀ n ∈ d.weights Tryz.prog 82, n ≤ reachBytes) : ∃ xs, KSC 8 w v xs := by
  have k84 : Tryz.prog.cellsOf 84 = 8 := by kernel_rfl
  have b84 : Tryz.prog.bytesOf 84 = 64 := by kernel_rfl
  rcases open_slice Tryz.underlying82 h with ⟨h1, _⟩ | ⟨a, len, cap, m, n, D, Pl, h1, _, hl, hm, hmm, h2, hx⟩
  · obtain rfl : v = .slice none 0 0 := by simpa using h1
    exact ⟨[], none, 0, 0, 0, rfl, by simp, by intro j hj; simp at hj, by simp, by simp⟩
  · obtain rfl : v = .slice (some a) len cap := by simpa using h1
    simp only [if_true] at hmm
    subst hmm
    obtain ⟨rfl, _⟩ := Prod.mk.injEq .. ▸ h2
    have hsz := hw ((len + (m - len)) * 64) (by simp [DataW.weights, Tryz.underlying82, b84])
    unfold reachBytes at hsz
    rw [k84] at hx
    obtain ⟨X, hX⟩ := choose_lt (α := List Int) (n := len) (p := fun i xs => xs.length = 8 ∧ ∀ j, j < 8 → w.cell? (a.add (i * 8 + j)) = some (.int .i64 (xs.getD j 0))) (fun i hi => by
      obtain ⟨cs', g1, g2⟩ := hx i (by omega)
      obtain ⟨xs, hx8, rfl⟩ := moveInts g2
      obtain ⟨_, _, hcell⟩ := World.cells?_some g1
      refine ⟨xs, hx8, fun j hj => ?_⟩
      have := hcell j (by omega)
      rw [add_add] at this
      rw [this, List.getElem?_map, List.getElem?_eq_getElem (by omega), getD_eq (by omega)]; rfl)
    have hlen : len ≤ 2199023255552 := by omega
    have hall : ∀ j, j < len → ((List.range len).map X).getD j [] = X j := fun j hj => by simp [hj]
    refine ⟨(List.range len).map X, some a, m, a.block, a.off, by simp, fun h0 => ?_, fun j hj => ?_, by simpa using hlen, by simpa using hl⟩
    · have hk := (hX 0 (by simpa using h0)).2 0 (by omega)
      rw [show a.add (0 * 8 + 0) = a by simp [Addr.add]] at hk
      rw [← addr_spot hk]
    · have hj' : j < len := by simpa using hj
      rw [hall j hj']
      have hk0 := (hX 0 (by omega)).2 0 (by omega)
      rw [show a.add (0 * 8 + 0) = a by simp [Addr.add]] at hk0
      refine ⟨(hX j hj').1, fun i hi => ?_⟩
      have h3 := (hX j hj').2 i (by have := (hX j hj').1; omega)
      have e : a.add (j * 8 + i) = ⟨a.block, a.off + j * 8 + i, none⟩ := by
        have := addr_spot hk0
        rw [this, Nat.add_assoc]
        exact add_plain _ _ _
      rw [← e]; exact h3
theorem weightsAll_mem {e : TypeId} : ∀ {l : List (DataW H)} {x : DataW H}, x ∈ l → ∀ n ∈ x.weights Tryz.prog e, n ∈ DataW.weightsAll Tryz.prog e l := by
  intro l
  induction l with
  | nil => intro x hx; cases hx
  | cons y r ih =>
    intro x hx n hn
    simp only [DataW.weightsAll, List.mem_append]
    rcases List.mem_cons.1 hx with rfl | hx
    · exact .inl hn
    · exact .inr (ih hx n hn)
set_option maxRecDepth 100000 in
/-- An adversary among the arguments. -/
theorem advC_of_trod {r : Reach} {b0 : Nat} {v : Value} {d : DataW H} {p : List MemPlace} (hv : Value.okWide Tryz.prog w r b0 24 v) (h : DataW.Trod enc Tryz.prog w 0 (fun _ => true) true 24 v d p) (hw : ∀ n ∈ d.weights Tryz.prog 24, n ≤ reachBytes) : ∃ n ss, AdvC w v n ss := by
  have k82 : Tryz.prog.cellsOf 82 = 1 := by kernel_rfl
  have b82 : Tryz.prog.bytesOf 82 = 24 := by kernel_rfl
  obtain ⟨v0, v1, y0, y1, n, rfl, rfl, rfl, h0, h1⟩ := Go.Joins.open_agg2 Tryz.underlying24 (by kernel_rfl) (by kernel_rfl) hv h
  obtain ⟨i0, e0, _⟩ := DataW.trod_int Tryz.underlying3 h0
  obtain rfl : v0 = .int .i64 i0 := by simpa using e0
  have hw1 : ∀ n ∈ y1.1.weights Tryz.prog 22, n ≤ reachBytes := fun n hn => hw n (by
    simp only [DataW.weights, Tryz.underlying24, DataW.weightsEach, List.map_cons, List.map_nil, List.mem_append]
    exact .inr (.inl hn))
  obtain ⟨d1, p1⟩ := y1
  rcases open_slice1 Tryz.underlying22 k82 h1 with ⟨h2, _⟩ | ⟨a, len, cap, m, n, V, D, Pl, h2, _, hl, hm, hmm, h3, hx⟩
  · obtain rfl : v1 = .slice none 0 0 := by simpa using h2
    exact ⟨i0, [], none, 0, 0, 0, rfl, by simp, by intro j hj; simp at hj, by simp⟩
  · obtain rfl : v1 = .slice (some a) len cap := by simpa using h2
    simp only [if_true] at hmm
    subst hmm
    obtain ⟨rfl, _⟩ := Prod.mk.injEq .. ▸ h3
    have hsz := hw1 ((len + (m - len)) * 24) (by simp [DataW.weights, Tryz.underlying22, b82])
    unfold reachBytes at hsz
    have hxs : ∀ i, i < len → ∃ xs, KSC 8 w (V i) xs := fun i hi => by
      obtain ⟨g1, g2⟩ := hx i (by omega)
      refine ksc_of_trod g2 fun n hn => hw1 n ?_
      simp only [DataW.weights, Tryz.underlying22, List.mem_cons, List.mem_append]
      right; left
      exact weightsAll_mem (List.mem_map_of_mem (List.mem_range.2 hi)) n hn
    have hlen : len ≤ 5864062014805 := by omega
    obtain ⟨X, hX⟩ : ∃ X : Nat → List (List Int), ∀ i, i < len → KSC 8 w (V i) (X i) := ⟨fun i => if h : i < len then (hxs i h).choose else [], fun i hi => by simp only [hi, dif_pos]; exact (hxs i hi).choose_spec⟩
    refine ⟨i0, (List.range len).map X, some a, m, a.block, a.off, by simp, fun h0 => ?_, fun j hj => ?_, by simpa using hlen⟩
    · have hk := (hx 0 (by have : 0 < len := by simpa using h0
                           omega)).1
      rw [show a.add 0 = a by simp [Addr.add]] at hk
      rw [← addr_spot hk]
    · have hj' : j < len := by simpa using hj
      have hk0 := (hx 0 (by omega)).1
      rw [show a.add 0 = a by simp [Addr.add]] at hk0
      have e1 : a.add j = ⟨a.block, a.off + j, none⟩ := by
        rw [addr_spot hk0]
        exact add_plain _ _ _
      refine ⟨V j, by rw [← e1]; exact (hx j (by omega)).1, ?_⟩
      have : ((List.range len).map X).getD j [] = X j := by simp [hj']
      rw [this]
      exact hX j hj'
end
end Go.Proofs.YtfihpofdoffclaaGreatDoor

/- The law PermutationReads: the walk. -/
import Derived.Test.YtpjlaaldepfnkaaDoorLf
namespace Go.Proofs.YtpjlaaldepfnkaaDoor
open Go.RowKit


def readB (a : List Int) : Bool := decide (parseE a.length (textB a) = 0) && decide (parseL a.length (textB a) = a) && decide ((textB a).size ≤ 100)
def ordB (a : List Int) : Bool := decide (1 ≤ ordF (cycL a)) && decide (ordF (cycL a) ≤ 6) && (List.range (ordF (cycL a))).all fun i => decide (powL a i = oneL a.length) == decide (i + 1 = ordF (cycL a))
theorem read_ok : permsAll.all readB = true := by decide +kernel
theorem ord_ok : permsAll.all ordB = true := by decide +kernel
def pws (a : List Int) : Nat → List Int
  | 0 => oneL a.length
  | k + 1 => powL a k
theorem pws_isP {n : Nat} {a : List Int} (h : IsP n a) : ∀ k, IsP n (pws a k)
  | 0 => by rw [pws, h.1]; exact IsP.one n
  | k + 1 => powL_isP h k
theorem pws_succ {n : Nat} {a : List Int} (h : IsP n a) : ∀ k, timesL a (pws a k) = pws a (k + 1)
  | 0 => by rw [pws, h.1]; exact one_times h
  | k + 1 => rfl

set_option maxRecDepth 100000 in
set_option maxHeartbeats 3200000 in
theorem lawReads {w : World} {u : Value} {a : List Int} (h0 : Ints w u a) : Calls Tryd.prog 10 #[u] w (Yes w) := by
  have hb : Below w.heap.size w w := Below.refl _ _
  obtain ⟨x0, y0, rfl⟩ := h0.shape
  by_cases hr : rightB [a] = true
  · have ka := (rightB_iff hr (a := a) (by simp)).1
    obtain ⟨⟨n1, n5⟩, hA⟩ := chk_iff.1 ka
    have q1 := perm_all read_ok ka
    have q2 := perm_all ord_ok ka
    simp only [readB, Bool.and_eq_true, decide_eq_true_eq] at q1
    simp only [ordB, Bool.and_eq_true, decide_eq_true_eq] at q2
    obtain ⟨⟨p1, p2⟩, p3⟩ := q1
    obtain ⟨⟨o1, o6⟩, o3⟩ := q2
    have p0 : ordP a = (ordF (cycL a) : Nat) := by rw [ordP, if_pos ka]
    obtain ⟨m, hm⟩ : ∃ m, ordF (cycL a) = m := ⟨_, rfl⟩
    rw [hm] at o1 o6 o3 p0
    have o3' : ∀ i, i < m → (decide (powL a i = oneL a.length) = decide (i + 1 = m)) := fun i hi => by
      have := List.all_eq_true.1 o3 i (List.mem_range.2 hi)
      simpa using this
    obtain ⟨t, ht⟩ : ∃ t, textB a = t := ⟨_, rfl⟩
    have pf : fmtL a = t := by rw [fmtL, if_pos ka, ht]
    rw [ht] at p1 p2 p3
    replace ka := Lib.hid ka; replace p0 := Lib.hid p0; replace p1 := Lib.hid p1; replace p2 := Lib.hid p2; replace pf := Lib.hid pf; replace hr := Lib.hid hr
    replace o3' := Lib.hid o3'
    clear o3 hm ht
    go_enter Tryd.func10, Tryd.ntmps10
    go_wp2_with fail
    have H := right1 h0
    rw [hr.out] at H
    refine (H).mono ?_; rintro e w1 ⟨rfl, hs⟩
    replace h0 := h0.keep hs
    replace hb := btt hb hs; clear hs
    go_wp2_with fail
    clear H
    have H := formatCall h0
    rw [pf.out, ka.out] at H
    refine (H).mono ?_; rintro e w2 ⟨rfl, hs⟩
    replace h0 := h0.keep hs
    replace hb := btt hb hs; clear hs
    go_wp2_with fail
    clear H
    have H := parseCall a.length t w2 (by omega)
    rw [p1.out, p2.out] at H
    refine (H).mono ?_; rintro e w3 ⟨r1, rfl, ho1, hs⟩
    replace h0 := h0.keep hs
    replace hb := btt hb hs; clear hs
    go_wp2_with fail
    clear H
    have H := orderCall h0 fun h => (cyFacts h).cyc
    rw [p0.out, ka.out] at H
    refine (H).mono ?_; rintro e w4 ⟨rfl, hs⟩
    replace h0 := h0.keep hs
    replace ho1 := ho1.keep hs
    replace hb := btt hb hs; clear hs
    go_wp2_with fail
    clear H
    refine (awEq h0 (hA.ints n5 ho1)).mono ?_; rintro e w5 ⟨rfl, hs⟩
    replace hs := hs.below
    replace h0 := h0.keep hs
    replace hb := btt hb hs; clear hs
    clear ho1
    go_wp2_with fail
    refine (refOne a.length _ (by omega)).mono ?_; rintro e w6 ⟨r2, rfl, ho2, hs⟩
    replace h0 := h0.keep hs
    replace hb := btt hb hs; clear hs
    have hx : Ints w6 r2 (pws a 0) := ho2.ints (by omega)
    clear ho2
    obtain ⟨wb, hwb⟩ : ∃ wb, wb = w6 := ⟨_, rfl⟩
    rw [← hwb] at h0 hx hb ⊢
    clear hwb
    go_wp2
    go_loopw [9, 10] (fun xv iv wr => ∃ k : Nat, k ≤ m ∧ iv = .int .i64 (k + 1) ∧ Ints wr xv (pws a k) ∧ Below wb.heap.size wb wr) (fun _ iv _ => m + 2 - (intOf iv).toNat)
    case atStart => exact ⟨0, by omega, rfl, hx, Below.refl _ _⟩
    case round =>
      clear hx
      obtain ⟨k, hk, rfl, hx, hbr⟩ := hrel
      replace h0 := h0.keep hbr
      have hbw := hb
      replace hb := hbr
      have hP := pws_isP hA k
      have hP' := pws_isP hA (k + 1)
      have hst := Lib.hid (pws_succ hA k)
      by_cases hlt : k < m
      · have hlt' : ((k : Int) + 1 ≤ m) := by omega
        have hS : sameB (pws a (k + 1)) (oneL a.length) = decide (k + 1 = m) := by rw [sameB, ← o3'.out k hlt]; rfl
        have hO := IsP.one a.length
        by_cases hkm : k + 1 = m
        · rw [decide_eq_true hkm] at hS
          have hkm' : (((k : Int) + 1) == (m : Int)) = true := by simp; omega
          replace hS := Lib.hid hS
          replace hkm := Lib.hid hkm
          go_wp2_with fail
          have H := composeP n1 n5 hA hP h0 hx
          rw [hst.out] at H
          refine (H).mono ?_; rintro e w20 ⟨r3, rfl, ho3, hs⟩
          replace h0 := h0.keep hs
          replace hb := bt hb hs hb.size; clear hs
          go_wp2_with fail
          clear H
          refine (refOne a.length _ (by omega)).mono ?_; rintro e w21 ⟨r4, rfl, ho4, hs⟩
          replace h0 := h0.keep hs
          replace ho3 := ho3.keep hs
          replace hb := bt hb hs hb.size; clear hs
          go_wp2_with fail
          have H := slEqual (hP'.ints n5 ho3) (hO.ints n5 ho4)
          rw [hS.out] at H
          refine (H).mono ?_; rintro e w22 ⟨rfl, hs⟩
          replace hs := hs.below
          replace h0 := h0.keep hs
          replace ho3 := ho3.keep hs
          replace ho4 := ho4.keep hs
          replace hb := bt hb hs hb.size; clear hs
          go_wp2
          go_roundw
          case rel => exact ⟨k + 1, by omega, by go_num, hP'.ints n5 ho3, hb⟩
          case measure => simp [intOf]; omega
        · rw [decide_eq_false hkm] at hS
          have hkm' : (((k : Int) + 1) == (m : Int)) = false := by simp; omega
          replace hS := Lib.hid hS
          replace hkm := Lib.hid hkm
          go_wp2_with fail
          have H := composeP n1 n5 hA hP h0 hx
          rw [hst.out] at H
          refine (H).mono ?_; rintro e w20 ⟨r3, rfl, ho3, hs⟩
          replace h0 := h0.keep hs
          replace hb := bt hb hs hb.size; clear hs
          go_wp2_with fail
          clear H
          refine (refOne a.length _ (by omega)).mono ?_; rintro e w21 ⟨r4, rfl, ho4, hs⟩
          replace h0 := h0.keep hs
          replace ho3 := ho3.keep hs
          replace hb := bt hb hs hb.size; clear hs
          go_wp2_with fail
          have H := slEqual (hP'.ints n5 ho3) (hO.ints n5 ho4)
          rw [hS.out] at H
          refine (H).mono ?_; rintro e w22 ⟨rfl, hs⟩
          replace hs := hs.below
          replace h0 := h0.keep hs
          replace ho3 := ho3.keep hs
          replace ho4 := ho4.keep hs
          replace hb := bt hb hs hb.size; clear hs
          go_wp2
          go_roundw
          case rel => exact ⟨k + 1, by omega, by go_num, hP'.ints n5 ho3, hb⟩
          case measure => simp [intOf]; omega
      · obtain rfl : k = m := by omega
        replace hb := bt hbw hb hbw.size
        go_wp2_with fail
        refine (awake _).mono ?_; rintro e w30 ⟨rfl, hs⟩
        replace hb := btt hb hs; clear hs
        go_wp2
        go_ret
        exact ⟨rfl, hb⟩
  · replace hr := Lib.hid (eq_false_of_ne_true hr)
    go_enter Tryd.func10, Tryd.ntmps10
    go_wp2_with fail
    have H := right1 h0
    rw [hr.out] at H
    refine (H).mono ?_; rintro e w1 ⟨rfl, hs⟩
    replace h0 := h0.keep hs
    replace hb := btt hb hs; clear hs
    go_wp2_with fail
    clear H
    refine (awake _).mono ?_; rintro e w2 ⟨rfl, hs⟩
    replace h0 := h0.keep hs
    replace hb := btt hb hs; clear hs
    go_wp2
    go_ret
    exact ⟨rfl, hb⟩
end Go.Proofs.YtpjlaaldepfnkaaDoor

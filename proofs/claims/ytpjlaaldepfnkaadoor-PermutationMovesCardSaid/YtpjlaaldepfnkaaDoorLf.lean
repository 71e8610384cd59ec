/- The law PermutationGroup: the walk. -/
import Derived.Test.YtpjlaaldepfnkaaDoorPf
namespace Go.Proofs.YtpjlaaldepfnkaaDoor
open Go.RowKit


theorem composeP {n : Nat} (h1 : 1 ≤ n) (h5 : n ≤ 5) {w : World} {u v : Value} {a b : List Int} (ha : IsP n a) (hb : IsP n b) (h : Ints w u a) (h' : Ints w v b) : Calls Tryd.prog 31 #[u, v] w (RI w (timesL a b) 0) := by
  have := compose h h'
  rwa [(compL_of h1 h5 ha hb).1, (compL_of h1 h5 ha hb).2] at this
theorem inverseP {n : Nat} (h1 : 1 ≤ n) (h5 : n ≤ 5) {w : World} {u : Value} {a : List Int} (ha : IsP n a) (h : Ints w u a) : Calls Tryd.prog 13 #[u] w (RI w (backL a) 0) := by
  have := inverse h
  rwa [invL, if_pos (chk_of h1 h5 ha), chk_of h1 h5 ha] at this
theorem identityP {n : Nat} (h1 : 1 ≤ n) (h5 : n ≤ 5) (w : World) : Calls Tryd.prog 32 #[.int .i64 n] w (RI w (oneL n) 0) := by
  have := identityE n w
  have hz : numE (n : Int) = 0 := by rw [numE, if_neg (by omega)]
  rwa [idL, hz, if_pos rfl, Int.toNat_natCast] at this
theorem oddPP {n : Nat} (h1 : 1 ≤ n) (h5 : n ≤ 5) {w : World} {u : Value} {a : List Int} (ha : IsP n a) (h : Ints w u a) : Calls Tryd.prog 17 #[u] w (RB w (oddR a) 0) := by
  have := oddCall h fun h => (cyFacts h).cyc
  rwa [oddP_eq, chk_of h1 h5 ha] at this
theorem IsP.ints {n : Nat} (h5 : n ≤ 5) {w : World} {B m : Nat} {v : Value} {a : List Int} (ha : IsP n a) (h : OI w B v m a) : Ints w v a := h.ints (by have := h.length; have := ha.1; omega)
theorem awEq' {W : World} {u v : Value} {xs ys : List Int} (he : xs = ys) (hA : Ints W u xs) (hB : Ints W v ys) : Calls Tryd.prog 21 #[u, v] W (fun e w' => e = .returned (.bool true) ∧ Qt W w') := by
  subst he; exact awEq hA hB
theorem Ints.shape {w : World} {v : Value} {xs : List Int} (h : Ints w v xs) : ∃ x y, v = .slice x xs.length y := by obtain ⟨x, y, _, _, h, _⟩ := h; exact ⟨x, y, h⟩
theorem right3 {w : World} {u v x : Value} {a b c : List Int} (h0 : Ints w u a) (h1 : Ints w v b) (h2 : Ints w x c) : Calls Tryd.prog 30 #[.slice (some ⟨w.heap.size, 0, none⟩) 3 3] (w.alloc (.cells #[u, v, x] 22)) fun e w' => e = .returned (.bool (rightB [a, b, c])) ∧ Below w.heap.size w w' :=
  (right (Intss.lit w [u, v, x] [a, b, c] 22 3 rfl (by simp) rfl (at3 h0 h1 h2))).mono fun e w' ⟨he, hq⟩ => ⟨he, ((Below.refl _ w).alloc (Nat.le_refl _) _).trans (hq.belowB _)⟩
theorem right2 {w : World} {u v : Value} {a b : List Int} (h0 : Ints w u a) (h1 : Ints w v b) : Calls Tryd.prog 30 #[.slice (some ⟨w.heap.size, 0, none⟩) 2 2] (w.alloc (.cells #[u, v] 22)) fun e w' => e = .returned (.bool (rightB [a, b])) ∧ Below w.heap.size w w' :=
  (right (Intss.lit w [u, v] [a, b] 22 2 rfl (by simp) rfl (fun j hj => match j, hj with | 0, _ => h0 | 1, _ => h1 | j + 2, h => absurd h (by simp)))).mono fun e w' ⟨he, hq⟩ => ⟨he, ((Below.refl _ w).alloc (Nat.le_refl _) _).trans (hq.belowB _)⟩
theorem right1 {w : World} {u : Value} {a : List Int} (h0 : Ints w u a) : Calls Tryd.prog 30 #[.slice (some ⟨w.heap.size, 0, none⟩) 1 1] (w.alloc (.cells #[u] 22)) fun e w' => e = .returned (.bool (rightB [a])) ∧ Below w.heap.size w w' :=
  (right (Intss.lit w [u] [a] 22 1 rfl (by simp) rfl (at1 h0))).mono fun e w' ⟨he, hq⟩ => ⟨he, ((Below.refl _ w).alloc (Nat.le_refl _) _).trans (hq.belowB _)⟩

set_option maxRecDepth 100000 in
set_option maxHeartbeats 3200000 in
theorem lawGroup {w : World} {u v x : Value} {a b c : List Int} (h0 : Ints w u a) (h1 : Ints w v b) (h2 : Ints w x c) : Calls Tryd.prog 6 #[u, v, x] w (Yes w) := by
  have hb : Below w.heap.size w w := Below.refl _ _
  obtain ⟨x0, y0, rfl⟩ := h0.shape
  obtain ⟨x1, y1, rfl⟩ := h1.shape
  obtain ⟨x2, y2, rfl⟩ := h2.shape
  by_cases hr : rightB [a, b, c] = true
  · have ka := rightB_iff hr (a := a) (by simp)
    have kb := rightB_iff hr (a := b) (by simp)
    have kc := rightB_iff hr (a := c) (by simp)
    obtain ⟨⟨n1, n5⟩, hA⟩ := chk_iff.1 ka.1
    have hB := chk_isP kb.1
    have hC := chk_isP kc.1
    have eB : b.length = a.length := by simpa using kb.2
    have eC : c.length = a.length := by simpa using kc.2
    rw [eB] at hB
    rw [eC] at hC
    obtain ⟨k1, k2, k3⟩ := back_left ka.1
    have hI : IsP a.length (backL a) := by have := chk_isP k3; rwa [backL, movedL_length] at this
    have eq1 := Lib.hid (times_assoc (a := a) hB.1 hC)
    have eq2 := Lib.hid k1
    have eq3 := Lib.hid k2
    have eq4 := Lib.hid (times_one hA)
    have eq5 := Lib.hid (odd_times n1 n5 hA hB)
    have hO := IsP.one a.length
    have hAB := hA.times hB
    have hBC := hB.times hC
    replace hr := Lib.hid hr
    clear ka kb kc k1 k2 k3
    clear eB eC
    go_enter Tryd.func6, Tryd.ntmps6
    go_wp2_with fail
    have H := right3 h0 h1 h2
    rw [hr.out] at H
    refine (H).mono ?_; rintro e w1 ⟨rfl, hs⟩
    replace h0 := h0.keep hs
    replace h1 := h1.keep hs
    replace h2 := h2.keep hs
    replace hb := btt hb hs; clear hs
    go_wp2_with fail
    clear H
    clear hr
    refine (composeP n1 n5 hA hB h0 h1).mono ?_; rintro e w2 ⟨r1, rfl, o1, hs⟩
    replace h0 := h0.keep hs
    replace h1 := h1.keep hs
    replace h2 := h2.keep hs
    replace hb := btt hb hs; clear hs
    go_wp2_with fail
    refine (composeP n1 n5 hB hC h1 h2).mono ?_; rintro e w3 ⟨r2, rfl, o2, hs⟩
    replace h0 := h0.keep hs
    replace h1 := h1.keep hs
    replace h2 := h2.keep hs
    replace o1 := o1.keep hs
    replace hb := btt hb hs; clear hs
    go_wp2_with fail
    refine (composeP n1 n5 hAB hC (hAB.ints n5 o1) h2).mono ?_; rintro e w4 ⟨r3, rfl, o3, hs⟩
    replace h0 := h0.keep hs
    replace h1 := h1.keep hs
    replace h2 := h2.keep hs
    replace o1 := o1.keep hs
    replace o2 := o2.keep hs
    replace hb := btt hb hs; clear hs
    go_wp2_with fail
    refine (composeP n1 n5 hA hBC h0 (hBC.ints n5 o2)).mono ?_; rintro e w5 ⟨r4, rfl, o4, hs⟩
    replace h0 := h0.keep hs
    replace h1 := h1.keep hs
    replace h2 := h2.keep hs
    replace o1 := o1.keep hs
    replace o3 := o3.keep hs
    replace hb := btt hb hs; clear hs
    clear o2
    go_wp2_with fail
    refine (identityP n1 n5 _).mono ?_; rintro e w6 ⟨r5, rfl, o5, hs⟩
    replace h0 := h0.keep hs
    replace h1 := h1.keep hs
    replace h2 := h2.keep hs
    replace o1 := o1.keep hs
    replace o3 := o3.keep hs
    replace o4 := o4.keep hs
    replace hb := btt hb hs; clear hs
    go_wp2_with fail
    refine (inverseP n1 n5 hA h0).mono ?_; rintro e w7 ⟨r6, rfl, o6, hs⟩
    replace h0 := h0.keep hs
    replace h1 := h1.keep hs
    replace h2 := h2.keep hs
    replace o1 := o1.keep hs
    replace o3 := o3.keep hs
    replace o4 := o4.keep hs
    replace o5 := o5.keep hs
    replace hb := btt hb hs; clear hs
    go_wp2_with fail
    refine (composeP n1 n5 hI hA (hI.ints n5 o6) h0).mono ?_; rintro e w8 ⟨r7, rfl, o7, hs⟩
    replace h0 := h0.keep hs
    replace h1 := h1.keep hs
    replace h2 := h2.keep hs
    replace o1 := o1.keep hs
    replace o3 := o3.keep hs
    replace o4 := o4.keep hs
    replace o5 := o5.keep hs
    replace o6 := o6.keep hs
    replace hb := btt hb hs; clear hs
    go_wp2_with fail
    refine (composeP n1 n5 hA hI h0 (hI.ints n5 o6)).mono ?_; rintro e w9 ⟨r8, rfl, o8, hs⟩
    replace h0 := h0.keep hs
    replace h1 := h1.keep hs
    replace h2 := h2.keep hs
    replace o1 := o1.keep hs
    replace o3 := o3.keep hs
    replace o4 := o4.keep hs
    replace o5 := o5.keep hs
    replace o7 := o7.keep hs
    replace hb := btt hb hs; clear hs
    clear o6
    go_wp2_with fail
    refine (composeP n1 n5 hO hA (hO.ints n5 o5) h0).mono ?_; rintro e w10 ⟨r9, rfl, o9, hs⟩
    replace h0 := h0.keep hs
    replace h1 := h1.keep hs
    replace h2 := h2.keep hs
    replace o1 := o1.keep hs
    replace o3 := o3.keep hs
    replace o4 := o4.keep hs
    replace o5 := o5.keep hs
    replace o7 := o7.keep hs
    replace o8 := o8.keep hs
    replace hb := btt hb hs; clear hs
    go_wp2_with fail
    refine (awEq' eq1.out ((hAB.times hC).ints n5 o3) ((hA.times hBC).ints n5 o4)).mono ?_; rintro e w11 ⟨rfl, hs⟩
    replace hs := hs.below
    replace h0 := h0.keep hs
    replace h1 := h1.keep hs
    replace h2 := h2.keep hs
    replace o1 := o1.keep hs
    replace o5 := o5.keep hs
    replace o7 := o7.keep hs
    replace o8 := o8.keep hs
    replace o9 := o9.keep hs
    replace hb := btt hb hs; clear hs
    clear o3
    clear o4
    go_wp2_with fail
    refine (awEq' eq2.out ((hI.times hA).ints n5 o7) (hO.ints n5 o5)).mono ?_; rintro e w12 ⟨rfl, hs⟩
    replace hs := hs.below
    replace h0 := h0.keep hs
    replace h1 := h1.keep hs
    replace h2 := h2.keep hs
    replace o1 := o1.keep hs
    replace o5 := o5.keep hs
    replace o8 := o8.keep hs
    replace o9 := o9.keep hs
    replace hb := btt hb hs; clear hs
    clear o7
    go_wp2_with fail
    refine (awEq' eq3.out ((hA.times hI).ints n5 o8) (hO.ints n5 o5)).mono ?_; rintro e w13 ⟨rfl, hs⟩
    replace hs := hs.below
    replace h0 := h0.keep hs
    replace h1 := h1.keep hs
    replace h2 := h2.keep hs
    replace o1 := o1.keep hs
    replace o9 := o9.keep hs
    replace hb := btt hb hs; clear hs
    clear o8
    clear o5
    go_wp2_with fail
    refine (awEq' eq4.out ((hO.times hA).ints n5 o9) h0).mono ?_; rintro e w14 ⟨rfl, hs⟩
    replace hs := hs.below
    replace h0 := h0.keep hs
    replace h1 := h1.keep hs
    replace h2 := h2.keep hs
    replace o1 := o1.keep hs
    replace hb := btt hb hs; clear hs
    clear o9
    go_wp2_with fail
    refine (oddPP n1 n5 hA h0).mono ?_; rintro e w15 ⟨rfl, hs⟩
    replace h0 := h0.keep hs
    replace h1 := h1.keep hs
    replace h2 := h2.keep hs
    replace o1 := o1.keep hs
    replace hb := btt hb hs; clear hs
    go_wp2_with fail
    refine (oddPP n1 n5 hB h1).mono ?_; rintro e w16 ⟨rfl, hs⟩
    replace h0 := h0.keep hs
    replace h1 := h1.keep hs
    replace h2 := h2.keep hs
    replace o1 := o1.keep hs
    replace hb := btt hb hs; clear hs
    go_wp2_with fail
    have H := oddPP n1 n5 hAB (hAB.ints n5 o1)
    rw [eq5.out] at H
    refine (H).mono ?_; rintro e w17 ⟨rfl, hs⟩
    replace h0 := h0.keep hs
    replace h1 := h1.keep hs
    replace h2 := h2.keep hs
    replace o1 := o1.keep hs
    replace hb := btt hb hs; clear hs
    go_wp2_with fail
    clear H
    refine (awake _).mono ?_; rintro e w18 ⟨rfl, hs⟩
    replace h0 := h0.keep hs
    replace h1 := h1.keep hs
    replace h2 := h2.keep hs
    replace o1 := o1.keep hs
    replace hb := btt hb hs; clear hs
    go_wp2
    go_ret
    exact ⟨ret_bool (by cases oddR a <;> cases oddR b <;> rfl), hb⟩
  · replace hr := Lib.hid (eq_false_of_ne_true hr)
    go_enter Tryd.func6, Tryd.ntmps6
    go_wp2_with fail
    have H := right3 h0 h1 h2
    rw [hr.out] at H
    refine (H).mono ?_; rintro e w1 ⟨rfl, hs⟩
    replace h0 := h0.keep hs
    replace h1 := h1.keep hs
    replace h2 := h2.keep hs
    replace hb := btt hb hs; clear hs
    go_wp2_with fail
    clear H
    refine (awake _).mono ?_; rintro e w2 ⟨rfl, hs⟩
    replace h0 := h0.keep hs
    replace h1 := h1.keep hs
    replace h2 := h2.keep hs
    replace hb := btt hb hs; clear hs
    go_wp2
    go_ret
    exact ⟨rfl, hb⟩
end Go.Proofs.YtpjlaaldepfnkaaDoor

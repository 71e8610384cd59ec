/- The law PermutationGenerates: the walk. -/
import Derived.Test.YtpjlaaldepfnkaaDoorLa
namespace Go.Proofs.YtpjlaaldepfnkaaDoor
open Go.RowKit


theorem genR_le (n : Int) (l : List (List Int)) : (genR n l).length ≤ 3125 ∧ ∀ x ∈ genR n l, x.length ≤ 5 := by
  unfold genR
  by_cases h : chkList n l = 0
  · rw [if_pos h]
    obtain ⟨hn, _⟩ := chkList_ok h
    refine ⟨Nat.le_trans (List.length_filter_le _ _) (everyL_le _ (by omega)), fun x hx => ?_⟩
    have := mem_everyL.1 (List.mem_filter.1 hx).1
    have := this.1
    omega
  · rw [if_neg h]; simp

set_option maxRecDepth 100000 in
set_option maxHeartbeats 1600000 in
theorem lawGenerates {w : World} {v : Value} {l : List (List Int)} (n : Int) (h0 : Intss w v l) : Calls Tryd.prog 5 #[.int .i64 n, v] w (Yes w) := by
  have hb : Below w.heap.size w w := Below.refl _ _
  by_cases hf : fewB l = true
  · replace hf := Lib.hid hf
    obtain ⟨E, hE⟩ : ∃ E, chkList n l = E := ⟨_, rfl⟩
    obtain ⟨x, hx⟩ : ∃ x, genR n l = x := ⟨_, rfl⟩
    have hl := genR_le n l
    rw [hx] at hl
    obtain ⟨hl1, hl2⟩ := hl
    replace hl2 := Lib.hid hl2
    replace hE := Lib.hid hE; replace hx := Lib.hid hx
    go_enter Tryd.func5, Tryd.ntmps5
    go_wp2_with fail
    have H := refFew h0
    rw [hf.out] at H
    refine (H).mono ?_; rintro e w1 ⟨rfl, hs⟩
    replace hs := hs.below
    replace h0 := h0.keep hs
    replace hb := btt hb hs; clear hs
    go_wp2_with fail
    clear H
    have H := generate n h0
    rw [hx.out, hE.out] at H
    refine (H).mono ?_; rintro e w2 ⟨r1, rfl, ho1, hs⟩
    replace h0 := h0.keep hs
    replace hb := btt hb hs; clear hs
    go_wp2_with fail
    clear H
    have H := refGenerate n h0
    rw [hx.out, hE.out] at H
    refine (H).mono ?_; rintro e w3 ⟨r2, rfl, ho2, hs⟩
    replace h0 := h0.keep hs
    replace ho1 := ho1.keep hs
    replace hb := btt hb hs; clear hs
    go_wp2_with fail
    clear H
    refine (awake _).mono ?_; rintro e w4 ⟨rfl, hs⟩
    replace h0 := h0.keep hs
    replace ho1 := ho1.keep hs
    replace ho2 := ho2.keep hs
    replace hb := btt hb hs; clear hs
    go_wp2_with fail
    refine (awEqs (ho1.intss (by omega) (fun x hx => by have := hl2.out x hx; omega)) (ho2.intss (by omega) (fun x hx => by have := hl2.out x hx; omega))).mono ?_; rintro e w5 ⟨rfl, hs⟩
    replace hs := hs.below
    replace h0 := h0.keep hs
    replace ho1 := ho1.keep hs
    replace ho2 := ho2.keep hs
    replace hb := btt hb hs; clear hs
    go_wp2
    go_ret
    exact ⟨rfl, hb⟩
  · replace hf := Lib.hid (eq_false_of_ne_true hf)
    go_enter Tryd.func5, Tryd.ntmps5
    go_wp2_with fail
    have H := refFew h0
    rw [hf.out] at H
    refine (H).mono ?_; rintro e w1 ⟨rfl, hs⟩
    replace hs := hs.below
    replace h0 := h0.keep hs
    replace hb := btt hb hs; clear hs
    go_wp2_with fail
    clear H
    refine (awake _).mono ?_; rintro e w2 ⟨rfl, hs⟩
    replace h0 := h0.keep hs
    replace hb := btt hb hs; clear hs
    go_wp2
    go_ret
    exact ⟨rfl, hb⟩
end Go.Proofs.YtpjlaaldepfnkaaDoor

/- The law PermutationComposes: the walk. -/
import Derived.Test.YtpjlaaldepfnkaaDoorLc
namespace Go.Proofs.YtpjlaaldepfnkaaDoor
open Go.RowKit


theorem compL_le (a b : List Int) : (compL a b).length ≤ b.length := by
  unfold compL
  split
  · rw [timesL_length]; exact Nat.le_refl _
  · exact Nat.zero_le _
theorem idL_le (n : Int) : (idL n).length ≤ 5 := by
  unfold idL
  by_cases h : numE n = 0
  · rw [if_pos h, oneL_length]
    unfold numE at h
    split at h <;> omega
  · rw [if_neg h]; simp
theorem allL_le (n : Int) : (allL n).length ≤ 3125 ∧ ∀ x ∈ allL n, x.length ≤ 5 := by
  unfold allL
  by_cases h : numE n = 0
  · rw [if_pos h]
    have hn : n.toNat ≤ 5 := by unfold numE at h; split at h <;> omega
    refine ⟨everyL_le _ hn, fun x hx => ?_⟩
    have := (mem_everyL.1 hx).1
    omega
  · rw [if_neg h]; simp

set_option maxRecDepth 100000 in
set_option maxHeartbeats 1600000 in
theorem lawComposes {w : World} {u v : Value} {a b : List Int} (n : Int) (h0 : Ints w u a) (h2 : Ints w v b) : Calls Tryd.prog 8 #[u, v, .int .i64 n] w (Yes w) := by
  have hb : Below w.heap.size w w := Below.refl _ _
  by_cases h60 : 60 < a.length
  · obtain ⟨la, lc, lb, lo, rfl, ha, hc, hl⟩ := h0
    obtain ⟨ma, mc, mb, mo, rfl, ha', hc', hl'⟩ := h2
    clear ha hc ha' hc'
    go_enter Tryd.func8, Tryd.ntmps8
    go_wp2_with fail
    refine (awake _).mono ?_; rintro e w1 ⟨rfl, hs⟩
    replace hb := btt hb hs; clear hs
    go_wp2
    go_ret
    exact ⟨rfl, hb⟩
  by_cases h60' : 60 < b.length
  · obtain ⟨la, lc, lb, lo, rfl, ha, hc, hl⟩ := h0
    obtain ⟨ma, mc, mb, mo, rfl, ha', hc', hl'⟩ := h2
    clear ha hc ha' hc'
    go_enter Tryd.func8, Tryd.ntmps8
    go_wp2_with fail
    refine (awake _).mono ?_; rintro e w1 ⟨rfl, hs⟩
    replace hb := btt hb hs; clear hs
    go_wp2
    go_ret
    exact ⟨rfl, hb⟩
  · have hsa : ∃ x y, u = .slice x a.length y := by obtain ⟨x, y, _, _, h, _⟩ := h0; exact ⟨x, y, h⟩
    have hsb : ∃ x y, v = .slice x b.length y := by obtain ⟨x, y, _, _, h, _⟩ := h2; exact ⟨x, y, h⟩
    obtain ⟨x, y, rfl⟩ := hsa
    obtain ⟨x', y', rfl⟩ := hsb
    have hI := Lib.hid (show (compL a b).length ≤ 60 by have := compL_le a b; omega)
    have hJ := Lib.hid (idL_le n)
    have hK := Lib.hid (allL_le n)
    obtain ⟨E, hE⟩ : ∃ E, compE a b = E := ⟨_, rfl⟩
    obtain ⟨F, hF⟩ : ∃ F, numE n = F := ⟨_, rfl⟩
    replace hE := Lib.hid hE; replace hF := Lib.hid hF
    go_enter Tryd.func8, Tryd.ntmps8
    go_wp2_with fail
    have H := compose h0 h2
    rw [hE.out] at H
    refine (H).mono ?_; rintro e w1 ⟨r1, rfl, ho1, hs⟩
    replace h0 := h0.keep hs
    replace h2 := h2.keep hs
    replace hb := btt hb hs; clear hs
    go_wp2_with fail
    clear H
    have H := refCompose h0 h2
    rw [hE.out] at H
    refine (H).mono ?_; rintro e w2 ⟨r2, rfl, ho2, hs⟩
    replace h0 := h0.keep hs
    replace h2 := h2.keep hs
    replace ho1 := ho1.keep hs
    replace hb := btt hb hs; clear hs
    go_wp2_with fail
    clear H
    have H := identityE n w2
    rw [hF.out] at H
    refine (H).mono ?_; rintro e w3 ⟨r3, rfl, ho3, hs⟩
    replace h0 := h0.keep hs
    replace h2 := h2.keep hs
    replace ho1 := ho1.keep hs
    replace ho2 := ho2.keep hs
    replace hb := btt hb hs; clear hs
    go_wp2_with fail
    clear H
    have H := refIdentity n w3
    rw [hF.out] at H
    refine (H).mono ?_; rintro e w4 ⟨r4, rfl, ho4, hs⟩
    replace h0 := h0.keep hs
    replace h2 := h2.keep hs
    replace ho1 := ho1.keep hs
    replace ho2 := ho2.keep hs
    replace ho3 := ho3.keep hs
    replace hb := btt hb hs; clear hs
    go_wp2_with fail
    clear H
    have H := allCall n w4
    rw [hF.out] at H
    refine (H).mono ?_; rintro e w5 ⟨r5, rfl, ho5, hs⟩
    replace h0 := h0.keep hs
    replace h2 := h2.keep hs
    replace ho1 := ho1.keep hs
    replace ho2 := ho2.keep hs
    replace ho3 := ho3.keep hs
    replace ho4 := ho4.keep hs
    replace hb := btt hb hs; clear hs
    go_wp2_with fail
    clear H
    have H := refAll n w5
    rw [hF.out] at H
    refine (H).mono ?_; rintro e w6 ⟨r6, rfl, ho6, hs⟩
    replace h0 := h0.keep hs
    replace h2 := h2.keep hs
    replace ho1 := ho1.keep hs
    replace ho2 := ho2.keep hs
    replace ho3 := ho3.keep hs
    replace ho4 := ho4.keep hs
    replace ho5 := ho5.keep hs
    replace hb := btt hb hs; clear hs
    go_wp2_with fail
    clear H
    refine (awake _).mono ?_; rintro e w7 ⟨rfl, hs⟩
    replace h0 := h0.keep hs
    replace h2 := h2.keep hs
    replace ho1 := ho1.keep hs
    replace ho2 := ho2.keep hs
    replace ho3 := ho3.keep hs
    replace ho4 := ho4.keep hs
    replace ho5 := ho5.keep hs
    replace ho6 := ho6.keep hs
    replace hb := btt hb hs; clear hs
    go_wp2_with fail
    refine (awEq (ho1.ints (by have := hI.out; omega)) (ho2.ints (by have := hI.out; omega))).mono ?_; rintro e w8 ⟨rfl, hs⟩
    replace hs := hs.below
    replace h0 := h0.keep hs
    replace h2 := h2.keep hs
    replace ho1 := ho1.keep hs
    replace ho2 := ho2.keep hs
    replace ho3 := ho3.keep hs
    replace ho4 := ho4.keep hs
    replace ho5 := ho5.keep hs
    replace ho6 := ho6.keep hs
    replace hb := btt hb hs; clear hs
    go_wp2_with fail
    refine (awEq (ho3.ints (by have := hJ.out; omega)) (ho4.ints (by have := hJ.out; omega))).mono ?_; rintro e w9 ⟨rfl, hs⟩
    replace hs := hs.below
    replace h0 := h0.keep hs
    replace h2 := h2.keep hs
    replace ho1 := ho1.keep hs
    replace ho2 := ho2.keep hs
    replace ho3 := ho3.keep hs
    replace ho4 := ho4.keep hs
    replace ho5 := ho5.keep hs
    replace ho6 := ho6.keep hs
    replace hb := btt hb hs; clear hs
    go_wp2_with fail
    refine (awEqs (ho5.intss (by have := hK.out.1; omega) (fun x hx => by have := hK.out.2 x hx; omega)) (ho6.intss (by have := hK.out.1; omega) (fun x hx => by have := hK.out.2 x hx; omega))).mono ?_; rintro e w10 ⟨rfl, hs⟩
    replace hs := hs.below
    replace h0 := h0.keep hs
    replace h2 := h2.keep hs
    replace ho1 := ho1.keep hs
    replace ho2 := ho2.keep hs
    replace ho3 := ho3.keep hs
    replace ho4 := ho4.keep hs
    replace ho5 := ho5.keep hs
    replace ho6 := ho6.keep hs
    replace hb := btt hb hs; clear hs
    go_wp2
    go_ret
    exact ⟨rfl, hb⟩
end Go.Proofs.YtpjlaaldepfnkaaDoor

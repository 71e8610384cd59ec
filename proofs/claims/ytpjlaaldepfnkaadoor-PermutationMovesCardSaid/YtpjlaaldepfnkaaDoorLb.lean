/- The law PermutationActs: the walk. -/
import Derived.Test.YtpjlaaldepfnkaaDoorLa
namespace Go.Proofs.YtpjlaaldepfnkaaDoor
open Go.RowKit


theorem imgSame {a : List Int} (h : chk a = 0) {s : Int} (h0 : 0 ≤ s) (h1 : s < 32) : imgR a s a.length = imgP a s a.length := by
  have := perm_all img_same h
  have := List.all_eq_true.1 this s.toNat (by rw [List.mem_range]; omega)
  have := of_decide_eq_true this
  rwa [show ((s.toNat : Nat) : Int) = s by omega] at this
theorem setR_eq (a : List Int) (s : Int) : setR a s = setP a s := by
  unfold setR setP
  by_cases h : setE a s = 0
  · rw [if_pos h, if_pos h]
    unfold setE at h
    by_cases hz : chk a = 0
    · rw [if_neg (fun h => h hz)] at h
      split at h
      · cases h
      · rename_i hr
        obtain ⟨h1, h5, _⟩ := chk_good hz
        have : wrap64 (2 ^ a.length) ≤ 32 := by
          have : a.length = 1 ∨ a.length = 2 ∨ a.length = 3 ∨ a.length = 4 ∨ a.length = 5 := by omega
          rcases this with h | h | h | h | h <;> rw [h] <;> decide +kernel
        exact imgSame hz (by omega) (by omega)
    · rw [if_pos hz] at h; exact absurd h hz
  · rw [if_neg h, if_neg h]
theorem vecL_le (a v : List Int) : (vecL a v).length ≤ a.length := by
  unfold vecL
  split
  · rw [movedL_length]; exact Nat.le_refl _
  · exact Nat.zero_le _

set_option maxRecDepth 100000 in
set_option maxHeartbeats 1600000 in
theorem lawActs {w : World} {u v : Value} {a b : List Int} (s : Int) (h0 : Ints w u a) (h2 : Ints w v b) : Calls Tryd.prog 4 #[u, .int .i64 s, v] w (Yes w) := by
  have hb : Below w.heap.size w w := Below.refl _ _
  by_cases h60 : 60 < a.length
  · obtain ⟨la, lc, lb, lo, rfl, ha, hc, hl⟩ := h0
    obtain ⟨ma, mc, mb, mo, rfl, ha', hc', hl'⟩ := h2
    clear ha hc ha' hc'
    go_enter Tryd.func4, Tryd.ntmps4
    go_wp2_with fail
    refine (awake _).mono ?_; rintro e w1 ⟨rfl, hs⟩
    replace hb := btt hb hs; clear hs
    go_wp2
    go_ret
    exact ⟨rfl, hb⟩
  by_cases h60' : 60 < b.length
  · obtain ⟨la, lc, lb, lo, rfl, ha, hc, hl⟩ := h0
    obtain ⟨ma, mc, mb, mo, rfl, ha', hc', hl'⟩ := h2
    clear ha hc ha' hc'
    go_enter Tryd.func4, Tryd.ntmps4
    go_wp2_with fail
    refine (awake _).mono ?_; rintro e w1 ⟨rfl, hs⟩
    replace hb := btt hb hs; clear hs
    go_wp2
    go_ret
    exact ⟨rfl, hb⟩
  · have hsa : ∃ x y, u = .slice x a.length y := by obtain ⟨x, y, _, _, h, _⟩ := h0; exact ⟨x, y, h⟩
    have hsb : ∃ x y, v = .slice x b.length y := by obtain ⟨x, y, _, _, h, _⟩ := h2; exact ⟨x, y, h⟩
    obtain ⟨x, y, rfl⟩ := hsa
    obtain ⟨x', y', rfl⟩ := hsb
    have hI := Lib.hid (show (vecL a b).length ≤ 60 by have := vecL_le a b; omega)
    obtain ⟨S, hS⟩ : ∃ S, setP a s = S := ⟨_, rfl⟩
    obtain ⟨E, hE⟩ : ∃ E, setE a s = E := ⟨_, rfl⟩
    obtain ⟨F, hF⟩ : ∃ F, vecE a b = F := ⟨_, rfl⟩
    replace hS := Lib.hid hS; replace hE := Lib.hid hE; replace hF := Lib.hid hF
    go_enter Tryd.func4, Tryd.ntmps4
    go_wp2_with fail
    have H := setCall h0 s
    rw [hS.out, hE.out] at H
    refine (H).mono ?_; rintro e w1 ⟨rfl, hs⟩
    replace h0 := h0.keep hs
    replace h2 := h2.keep hs
    replace hb := btt hb hs; clear hs
    go_wp2_with fail
    clear H
    have H := refSet h0 s
    rw [setR_eq, hS.out, hE.out] at H
    refine (H).mono ?_; rintro e w2 ⟨rfl, hs⟩
    replace h0 := h0.keep hs
    replace h2 := h2.keep hs
    replace hb := btt hb hs; clear hs
    go_wp2_with fail
    clear H
    have H := vector h0 h2
    rw [hF.out] at H
    refine (H).mono ?_; rintro e w3 ⟨r1, rfl, ho1, hs⟩
    replace h0 := h0.keep hs
    replace h2 := h2.keep hs
    replace hb := btt hb hs; clear hs
    go_wp2_with fail
    clear H
    have H := refVector h0 h2
    rw [hF.out] at H
    refine (H).mono ?_; rintro e w4 ⟨r2, rfl, ho2, hs⟩
    replace h0 := h0.keep hs
    replace h2 := h2.keep hs
    replace ho1 := ho1.keep hs
    replace hb := btt hb hs; clear hs
    go_wp2_with fail
    clear H
    refine (awake _).mono ?_; rintro e w5 ⟨rfl, hs⟩
    replace h0 := h0.keep hs
    replace h2 := h2.keep hs
    replace ho1 := ho1.keep hs
    replace ho2 := ho2.keep hs
    replace hb := btt hb hs; clear hs
    go_wp2_with fail
    refine (awEq (ho1.ints (by have := hI.out; omega)) (ho2.ints (by have := hI.out; omega))).mono ?_; rintro e w6 ⟨rfl, hs⟩
    replace hs := hs.below
    replace h0 := h0.keep hs
    replace h2 := h2.keep hs
    replace ho1 := ho1.keep hs
    replace ho2 := ho2.keep hs
    replace hb := btt hb hs; clear hs
    go_wp2
    go_ret
    exact ⟨rfl, hb⟩
end Go.Proofs.YtpjlaaldepfnkaaDoor

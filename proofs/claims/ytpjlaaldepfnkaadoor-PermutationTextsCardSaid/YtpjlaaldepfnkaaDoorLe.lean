/- The law PermutationTexts: the walk. -/
import Derived.Test.YtpjlaaldepfnkaaDoorLa
namespace Go.Proofs.YtpjlaaldepfnkaaDoor
open Go.RowKit


theorem parseL_le (n : Int) (s : ByteArray) : (parseL n s).length ≤ 5 := by
  unfold parseL
  by_cases h : parseE n s = 0
  · rw [if_pos h]
    cases hf : (everyL n.toNat).find? (fun a => (textB a).toList == s.toList) with
    | none => simp
    | some x =>
      have h1 := (mem_everyL.1 (List.mem_of_find?_eq_some hf)).1
      have : n.toNat ≤ 5 := by
        unfold parseE at h
        split at h
        · cases h
        · omega
      simp only [Option.getD_some]; omega
  · rw [if_neg h]; simp

set_option maxRecDepth 100000 in
set_option maxHeartbeats 1600000 in
theorem lawTexts {w : World} {u : Value} {a : List Int} (n : Int) (s : ByteArray) (h0 : Ints w u a) (hs0 : s.size ≤ 140737488351232) : Calls Tryd.prog 9 #[u, .int .i64 n, .string s] w (Yes w) := by
  have hb : Below w.heap.size w w := Below.refl _ _
  by_cases h60 : 60 < a.length
  · obtain ⟨la, lc, lb, lo, rfl, ha, hc, hl⟩ := h0
    clear ha hc
    go_enter Tryd.func9, Tryd.ntmps9
    go_wp2_with fail
    refine (awake _).mono ?_; rintro e w1 ⟨rfl, hs⟩
    replace hb := btt hb hs; clear hs
    go_wp2
    go_ret
    exact ⟨rfl, hb⟩
  by_cases h60' : 200 < s.size
  · obtain ⟨la, lc, lb, lo, rfl, ha, hc, hl⟩ := h0
    clear ha hc
    go_enter Tryd.func9, Tryd.ntmps9
    go_wp2_with fail
    refine (awake _).mono ?_; rintro e w1 ⟨rfl, hs⟩
    replace hb := btt hb hs; clear hs
    go_wp2
    go_ret
    exact ⟨rfl, hb⟩
  · have hsa : ∃ x y, u = .slice x a.length y := by obtain ⟨x, y, _, _, h, _⟩ := h0; exact ⟨x, y, h⟩
    obtain ⟨x, y, rfl⟩ := hsa
    have hI := Lib.hid (parseL_le n s)
    obtain ⟨E, hE⟩ : ∃ E, chk a = E := ⟨_, rfl⟩
    obtain ⟨t, ht⟩ : ∃ t, fmtL a = t := ⟨_, rfl⟩
    obtain ⟨F, hF⟩ : ∃ F, parseE n s = F := ⟨_, rfl⟩
    replace hE := Lib.hid hE; replace hF := Lib.hid hF; replace ht := Lib.hid ht
    go_enter Tryd.func9, Tryd.ntmps9
    go_wp2_with fail
    have H := formatCall h0
    rw [hE.out, ht.out] at H
    refine (H).mono ?_; rintro e w1 ⟨rfl, hs⟩
    replace h0 := h0.keep hs
    replace hb := btt hb hs; clear hs
    go_wp2_with fail
    clear H
    have H := refFormat h0 hasText
    rw [hE.out, ht.out] at H
    refine (H).mono ?_; rintro e w2 ⟨rfl, hs⟩
    replace h0 := h0.keep hs
    replace hb := btt hb hs; clear hs
    go_wp2_with fail
    clear H
    have H := parseCall n s w2 (by omega)
    rw [hF.out] at H
    refine (H).mono ?_; rintro e w3 ⟨r3, rfl, ho3, hs⟩
    replace h0 := h0.keep hs
    replace hb := btt hb hs; clear hs
    go_wp2_with fail
    clear H
    have H := refParse n s w3 (by omega) (fun a h => hasText h)
    rw [hF.out] at H
    refine (H).mono ?_; rintro e w4 ⟨r4, rfl, ho4, hs⟩
    replace h0 := h0.keep hs
    replace ho3 := ho3.keep hs
    replace hb := btt hb hs; clear hs
    go_wp2_with fail
    clear H
    refine (awake _).mono ?_; rintro e w5 ⟨rfl, hs⟩
    replace h0 := h0.keep hs
    replace ho3 := ho3.keep hs
    replace ho4 := ho4.keep hs
    replace hb := btt hb hs; clear hs
    go_wp2_with fail
    refine (awEq (ho3.ints (by have := hI.out; omega)) (ho4.ints (by have := hI.out; omega))).mono ?_; rintro e w6 ⟨rfl, hs⟩
    replace hs := hs.below
    replace h0 := h0.keep hs
    replace ho3 := ho3.keep hs
    replace ho4 := ho4.keep hs
    replace hb := btt hb hs; clear hs
    go_wp2
    go_ret
    exact ⟨rfl, hb⟩
end Go.Proofs.YtpjlaaldepfnkaaDoor

/- Parity of compositions. -/
import Derived.Test.YtpjlaaldepfnkaaDoorPe
namespace Go.Proofs.YtpjlaaldepfnkaaDoor

theorem gens5_isP : ∀ a ∈ gens5, IsP 5 a := by
  intro a ha
  have : a = [1, 2, 3, 4, 0] ∨ a = [1, 0, 2, 3, 4] := by simpa [gens5] using ha
  rcases this with rfl | rfl
  · exact mem_everyL.1 (by decide +kernel)
  · exact mem_everyL.1 (by decide +kernel)
theorem every5_len : (everyL 5).length = 120 := by decide +kernel
theorem gens5_gen {x : List Int} (h : IsP 5 x) : ∃ G, clGo gens5 3126 0 [oneL 5] = some G ∧ x ∈ G := by
  obtain ⟨G, hG, hI⟩ := clGo_start (n := 5) (by omega) gens5_isP
  refine ⟨G, hG, ?_⟩
  have hl : G.length = 120 := by have := gens_all; rw [hG] at this; exact this
  by_cases hx : x ∈ G
  · exact hx
  · have : (x :: G).length ≤ (everyL 5).length := nodup_le (List.nodup_cons.2 ⟨hx, hI.1⟩) fun y hy => by
      rcases List.mem_cons.1 hy with rfl | hy
      · exact mem_everyL.2 h
      · exact mem_everyL.2 (hI.2 y hy)
    rw [every5_len, List.length_cons] at this
    omega
theorem par_gen {a y : List Int} (ha : a ∈ gens5) (hy : IsP 5 y) : par5 (timesL a y) = (par5 a != par5 y) := by
  have := List.all_eq_true.1 (List.all_eq_true.1 gens_par y (mem_everyL.2 hy)) a ha
  simpa using this
theorem parity5 {b c : List Int} (hb : IsP 5 b) (hc : IsP 5 c) : par5 (timesL b c) = (par5 b != par5 c) := by
  obtain ⟨G, hG, hm⟩ := gens5_gen hb
  have key : ∀ x ∈ G, IsP 5 x ∧ ∀ c, IsP 5 c → par5 (timesL x c) = (par5 x != par5 c) := by
    refine clGo_all (Q := fun x => IsP 5 x ∧ ∀ c, IsP 5 c → par5 (timesL x c) = (par5 x != par5 c)) ?_ ?_ hG
    · rintro a ha y ⟨h1, h2⟩
      have haP := gens5_isP a ha
      refine ⟨haP.times h1, fun c hc => ?_⟩
      rw [times_assoc h1.1 hc, par_gen ha (h1.times hc), h2 c hc, par_gen ha h1]
      cases par5 a <;> cases par5 y <;> cases par5 c <;> rfl
    · intro x hx
      rw [List.mem_singleton.1 hx]
      refine ⟨IsP.one 5, fun c hc => ?_⟩
      rw [times_one hc, show par5 (oneL 5) = false by decide +kernel]
      cases par5 c <;> rfl
  exact (key b hm).2 c hc
theorem parityN {n : Nat} (h : parityB n = true) {b c : List Int} (hb : IsP n b) (hc : IsP n c) : oddGo (timesL b c) n = (oddGo b n != oddGo c n) := by
  have h1 := List.all_eq_true.1 h (b, oddGo b b.length) (List.mem_map_of_mem (mem_everyL.2 hb))
  have h2 := List.all_eq_true.1 h1 (c, oddGo c c.length) (List.mem_map_of_mem (mem_everyL.2 hc))
  rw [hb.1, hc.1] at h2
  simpa using h2
theorem parity {n : Nat} (h1 : 1 ≤ n) (h5 : n ≤ 5) {b c : List Int} (hb : IsP n b) (hc : IsP n c) : oddGo (timesL b c) n = (oddGo b n != oddGo c n) := by
  have h4 := parity4
  simp only [Bool.and_eq_true] at h4
  have : n = 1 ∨ n = 2 ∨ n = 3 ∨ n = 4 ∨ n = 5 := by omega
  rcases this with rfl | rfl | rfl | rfl | rfl
  · exact parityN h4.1.1.1 hb hc
  · exact parityN h4.1.1.2 hb hc
  · exact parityN h4.1.2 hb hc
  · exact parityN h4.2 hb hc
  · exact parity5 hb hc
theorem chk_of {n : Nat} (h1 : 1 ≤ n) (h5 : n ≤ 5) {a : List Int} (h : IsP n a) : chk a = 0 := chk_iff.2 ⟨by have := h.1; omega, by rw [h.1]; exact h⟩
theorem odd_times {n : Nat} (h1 : 1 ≤ n) (h5 : n ≤ 5) {b c : List Int} (hb : IsP n b) (hc : IsP n c) : oddR (timesL b c) = (oddR b != oddR c) := by
  unfold oddR
  rw [if_pos (chk_of h1 h5 hb), if_pos (chk_of h1 h5 hc), if_pos (chk_of h1 h5 (hb.times hc)), timesL_length, hb.1, hc.1]
  exact parity h1 h5 hb hc
theorem compL_of {n : Nat} (h1 : 1 ≤ n) (h5 : n ≤ 5) {a b : List Int} (ha : IsP n a) (hb : IsP n b) : compE a b = 0 ∧ compL a b = timesL a b := by
  have : compE a b = 0 := by
    unfold compE
    rw [if_neg (fun h => h (chk_of h1 h5 ha)), if_neg (fun h => h (chk_of h1 h5 hb)), if_neg (fun h => h (by rw [ha.1, hb.1]))]
  exact ⟨this, by rw [compL, if_pos this]⟩
theorem rightB_iff {l : List (List Int)} (h : rightB l = true) {a : List Int} (ha : a ∈ l) : chk a = 0 ∧ a.length = (l.getD 0 []).length := by
  have := List.all_eq_true.1 h a ha
  simpa using this
end Go.Proofs.YtpjlaaldepfnkaaDoor

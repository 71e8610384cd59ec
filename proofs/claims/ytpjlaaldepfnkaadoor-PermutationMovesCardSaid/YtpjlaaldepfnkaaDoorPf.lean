/- Compositions, inverses, parities. -/
import Derived.Test.YtpjlaaldepfnkaaDoorLa
namespace Go.Proofs.YtpjlaaldepfnkaaDoor

theorem IsP.idx {n : Nat} {x : List Int} (h : IsP n x) {q : Int} (hq : q ∈ x) : q.toNat < n ∧ ((q.toNat : Nat) : Int) = q := by
  have := h.2.1 q hq; omega
theorem times_assoc {n : Nat} {a b c : List Int} (hb : b.length = n) (hc : IsP n c) : timesL (timesL a b) c = timesL a (timesL b c) := by
  unfold timesL
  rw [List.map_map]
  apply List.map_congr_left
  intro q hq
  obtain ⟨h1, _⟩ := hc.idx hq
  show (b.map fun q => a.getD q.toNat 0).getD q.toNat 0 = a.getD (b.getD q.toNat 0).toNat 0
  simp [show q.toNat < b.length by omega]
theorem times_one {n : Nat} {a : List Int} (ha : IsP n a) : timesL (oneL n) a = a := by
  unfold timesL
  have : a.map (fun q => (oneL n).getD q.toNat 0) = a.map id := List.map_congr_left fun q hq => by
    obtain ⟨h1, h2⟩ := ha.idx hq
    rw [oneL_getD h1]; exact h2
  rw [this, List.map_id]
theorem one_times {n : Nat} {a : List Int} (ha : IsP n a) : timesL a (oneL n) = a := by
  have hl : (timesL a (oneL n)).length = a.length := by rw [timesL_length, oneL_length, ha.1]
  refine List.ext_getElem hl fun k h1 h2 => ?_
  have hk : k < n := by rw [hl, ha.1] at h1; exact h1
  have := timesL_getD a (oneL n) k (by rw [oneL_length]; exact hk)
  rw [oneL_getD hk] at this
  rw [← getD_eq h1 0, this, ← getD_eq h2 0]
  simp
theorem back_ok : permsAll.all (fun a => decide (timesL (backL a) a = oneL a.length) && decide (timesL a (backL a) = oneL a.length) && decide (chk (backL a) = 0)) = true := by decide +kernel
theorem back_left {a : List Int} (h : chk a = 0) : timesL (backL a) a = oneL a.length ∧ timesL a (backL a) = oneL a.length ∧ chk (backL a) = 0 := by
  have := perm_all back_ok h
  simp only [Bool.and_eq_true, decide_eq_true_eq] at this
  exact ⟨this.1.1, this.1.2, this.2⟩
def parL (n : Nat) : List (List Int × Bool) := (everyL n).map fun a => (a, oddGo a a.length)
def parityB (n : Nat) : Bool := (parL n).all fun x => (parL n).all fun y => oddGo (timesL x.1 y.1) y.1.length == (x.2 != y.2)
theorem parity4 : (parityB 1 && parityB 2 && parityB 3 && parityB 4) = true := by decide +kernel

/-- What holds of the start and is kept by the generators holds of the closure. -/
theorem clIn_all {Q : List Int → Prop} {y : List Int} (hy : Q y) : ∀ {l g : List (List Int)}, (∀ a ∈ l, ∀ y, Q y → Q (timesL a y)) → (∀ x ∈ g, Q x) → ∀ x ∈ clIn y l g, Q x
  | [], _, _, h => h
  | a :: l, g, hl, h => by
    rw [clIn]
    refine clIn_all hy (fun b hb => hl b (by simp [hb])) ?_
    split
    · exact h
    · intro x hx
      rcases List.mem_append.1 hx with hx | hx
      · exact h x hx
      · rw [List.mem_singleton.1 hx]; exact hl a (by simp) y hy
theorem clGo_all {Q : List Int → Prop} {l : List (List Int)} (hl : ∀ a ∈ l, ∀ y, Q y → Q (timesL a y)) : ∀ {f i : Nat} {g G : List (List Int)}, (∀ x ∈ g, Q x) → clGo l f i g = some G → ∀ x ∈ G, Q x
  | 0, _, _, _, _, h => by cases h
  | f + 1, i, g, G, hg, h => by
    rw [clGo] at h
    by_cases hlt : i < g.length
    · rw [if_pos hlt] at h
      refine clGo_all hl (clIn_all (y := g.getD i []) ?_ hl hg) h
      rw [getD_eq hlt]; exact hg _ (List.getElem_mem hlt)
    · rw [if_neg hlt] at h
      obtain rfl := Option.some.inj h
      exact hg
/-- The closure keeps what it has, and is closed. -/
theorem clIn_sub (y : List Int) : ∀ {l g : List (List Int)}, (∀ x ∈ g, x ∈ clIn y l g) ∧ (∀ a ∈ l, timesL a y ∈ clIn y l g)
  | [], g => ⟨fun _ h => h, fun _ h => by cases h⟩
  | a :: l, g => by
    rw [clIn]
    obtain ⟨h1, h2⟩ := clIn_sub y (l := l) (g := if timesL a y ∈ g then g else g ++ [timesL a y])
    refine ⟨fun x hx => h1 x (by split; exact hx; simp [hx]), fun b hb => ?_⟩
    rcases List.mem_cons.1 hb with rfl | hb
    · exact h1 _ (by split; assumption; simp)
    · exact h2 b hb
theorem clIn_getD (y : List Int) : ∀ {l g : List (List Int)} {k : Nat}, k < g.length → (clIn y l g).getD k [] = g.getD k []
  | [], _, _, _ => rfl
  | a :: l, g, k, hk => by
    rw [clIn]
    split
    · exact clIn_getD y hk
    · rw [clIn_getD y (by simp; omega), getD_append_left' hk]
theorem clGo_sub {l : List (List Int)} : ∀ {f i : Nat} {g G : List (List Int)}, clGo l f i g = some G → (∀ j, j < i → j < g.length → ∀ a ∈ l, timesL a (g.getD j []) ∈ g) → (∀ x ∈ g, x ∈ G) ∧ ∀ y ∈ G, ∀ a ∈ l, timesL a y ∈ G
  | 0, _, _, _, h, _ => by cases h
  | f + 1, i, g, G, h, hc => by
    rw [clGo] at h
    by_cases hlt : i < g.length
    · rw [if_pos hlt] at h
      obtain ⟨h1, h2⟩ := clIn_sub (g.getD i []) (l := l) (g := g)
      obtain ⟨k1, k2⟩ := clGo_sub h (fun j hj _ a ha => by
        by_cases hji : j = i
        · subst hji; rw [clIn_getD _ hlt]; exact h2 a ha
        · rw [clIn_getD _ (by omega)]
          exact h1 _ (hc j (by omega) (by omega) a ha))
      exact ⟨fun x hx => k1 x (h1 x hx), k2⟩
    · rw [if_neg hlt] at h
      obtain rfl := Option.some.inj h
      refine ⟨fun x hx => hx, fun y hy a ha => ?_⟩
      obtain ⟨j, hj, rfl⟩ := List.mem_iff_getElem.1 hy
      have := hc j (by omega) hj a ha
      rwa [getD_eq hj] at this

def gens5 : List (List Int) := [[1, 2, 3, 4, 0], [1, 0, 2, 3, 4]]
def par5 (a : List Int) : Bool := oddGo a 5
theorem gens_par : ((everyL 5).all fun y => gens5.all fun a => par5 (timesL a y) == (par5 a != par5 y)) = true := by decide +kernel
theorem gens_all : ((clGo gens5 3126 0 [oneL 5]).getD []).length = 120 := by decide +kernel
end Go.Proofs.YtpjlaaldepfnkaaDoor
namespace Go.Proofs.YtpjlaaldepfnkaaDoor

theorem gens5_isP : ∀ a ∈ gens5, IsP 5 a := by
  intro a ha
  have : a = [1, 2, 3, 4, 0] ∨ a = [1, 0, 2, 3, 4] := by simpa [gens5] using ha
  rcases this with rfl | rfl
  · exact mem_everyL.1 (by decide +kernel)
  · exact mem_everyL.1 (by decide +kernel)
theorem every5_len : (everyL 5).length = 120 := by decide +kernel
theorem gens5_gen {x : List Int} (h : IsP 5 x) : ∃ G, clGo gens5 3126 0 [oneL 5] = some G ∧ x ∈ G := by
  obtain ⟨G, hG, hI⟩ := clGo_start (n := 5) (by omega) gens5_isP
  refine ⟨G, hG, ?_⟩
  have hl : G.length = 120 := by have := gens_all; rw [hG] at this; exact this
  by_cases hx : x ∈ G
  · exact hx
  · have : (x :: G).length ≤ (everyL 5).length := nodup_le (List.nodup_cons.2 ⟨hx, hI.1⟩) fun y hy => by
      rcases List.mem_cons.1 hy with rfl | hy
      · exact mem_everyL.2 h
      · exact mem_everyL.2 (hI.2 y hy)
    rw [every5_len, List.length_cons] at this
    omega
theorem par_gen {a y : List Int} (ha : a ∈ gens5) (hy : IsP 5 y) : par5 (timesL a y) = (par5 a != par5 y) := by
  have := List.all_eq_true.1 (List.all_eq_true.1 gens_par y (mem_everyL.2 hy)) a ha
  simpa using this
theorem parity5 {b c : List Int} (hb : IsP 5 b) (hc : IsP 5 c) : par5 (timesL b c) = (par5 b != par5 c) := by
  obtain ⟨G, hG, hm⟩ := gens5_gen hb
  have key : ∀ x ∈ G, IsP 5 x ∧ ∀ c, IsP 5 c → par5 (timesL x c) = (par5 x != par5 c) := by
    refine clGo_all (Q := fun x => IsP 5 x ∧ ∀ c, IsP 5 c → par5 (timesL x c) = (par5 x != par5 c)) ?_ ?_ hG
    · rintro a ha y ⟨h1, h2⟩
      have haP := gens5_isP a ha
      refine ⟨haP.times h1, fun c hc => ?_⟩
      rw [times_assoc h1.1 hc, par_gen ha (h1.times hc), h2 c hc, par_gen ha h1]
      cases par5 a <;> cases par5 y <;> cases par5 c <;> rfl
    · intro x hx
      rw [List.mem_singleton.1 hx]
      refine ⟨IsP.one 5, fun c hc => ?_⟩
      rw [times_one hc, show par5 (oneL 5) = false by decide +kernel]
      cases par5 c <;> rfl
  exact (key b hm).2 c hc
theorem parityN {n : Nat} (h : parityB n = true) {b c : List Int} (hb : IsP n b) (hc : IsP n c) : oddGo (timesL b c) n = (oddGo b n != oddGo c n) := by
  have h1 := List.all_eq_true.1 h (b, oddGo b b.length) (List.mem_map_of_mem (mem_everyL.2 hb))
  have h2 := List.all_eq_true.1 h1 (c, oddGo c c.length) (List.mem_map_of_mem (mem_everyL.2 hc))
  rw [hb.1, hc.1] at h2
  simpa using h2
theorem parity {n : Nat} (h1 : 1 ≤ n) (h5 : n ≤ 5) {b c : List Int} (hb : IsP n b) (hc : IsP n c) : oddGo (timesL b c) n = (oddGo b n != oddGo c n) := by
  have h4 := parity4
  simp only [Bool.and_eq_true] at h4
  have : n = 1 ∨ n = 2 ∨ n = 3 ∨ n = 4 ∨ n = 5 := by omega
  rcases this with rfl | rfl | rfl | rfl | rfl
  · exact parityN h4.1.1.1 hb hc
  · exact parityN h4.1.1.2 hb hc
  · exact parityN h4.1.2 hb hc
  · exact parityN h4.2 hb hc
  · exact parity5 hb hc
theorem chk_of {n : Nat} (h1 : 1 ≤ n) (h5 : n ≤ 5) {a : List Int} (h : IsP n a) : chk a = 0 := chk_iff.2 ⟨by have := h.1; omega, by rw [h.1]; exact h⟩
theorem odd_times {n : Nat} (h1 : 1 ≤ n) (h5 : n ≤ 5) {b c : List Int} (hb : IsP n b) (hc : IsP n c) : oddR (timesL b c) = (oddR b != oddR c) := by
  unfold oddR
  rw [if_pos (chk_of h1 h5 hb), if_pos (chk_of h1 h5 hc), if_pos (chk_of h1 h5 (hb.times hc)), timesL_length, hb.1, hc.1]
  exact parity h1 h5 hb hc
theorem compL_of {n : Nat} (h1 : 1 ≤ n) (h5 : n ≤ 5) {a b : List Int} (ha : IsP n a) (hb : IsP n b) : compE a b = 0 ∧ compL a b = timesL a b := by
  have : compE a b = 0 := by
    unfold compE
    rw [if_neg (fun h => h (chk_of h1 h5 ha)), if_neg (fun h => h (chk_of h1 h5 hb)), if_neg (fun h => h (by rw [ha.1, hb.1]))]
  exact ⟨this, by rw [compL, if_pos this]⟩
theorem rightB_iff {l : List (List Int)} (h : rightB l = true) {a : List Int} (ha : a ∈ l) : chk a = 0 ∧ a.length = (l.getD 0 []).length := by
  have := List.all_eq_true.1 h a ha
  simpa using this
end Go.Proofs.YtpjlaaldepfnkaaDoor

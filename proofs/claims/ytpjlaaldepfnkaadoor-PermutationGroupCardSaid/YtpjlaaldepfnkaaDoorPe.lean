/- Plain facts on compositions, inverses, parities. -/
import Derived.Test.YtpjlaaldepfnkaaDoorLa
namespace Go.Proofs.YtpjlaaldepfnkaaDoor

theorem IsP.idx {n : Nat} {x : List Int} (h : IsP n x) {q : Int} (hq : q ∈ x) : q.toNat < n ∧ ((q.toNat : Nat) : Int) = q := by
  have := h.2.1 q hq; omega
theorem times_assoc {n : Nat} {a b c : List Int} (hb : b.length = n) (hc : IsP n c) : timesL (timesL a b) c = timesL a (timesL b c) := by
  unfold timesL
  rw [List.map_map]
  apply List.map_congr_left
  intro q hq
  obtain ⟨h1, _⟩ := hc.idx hq
  show (b.map fun q => a.getD q.toNat 0).getD q.toNat 0 = a.getD (b.getD q.toNat 0).toNat 0
  simp [show q.toNat < b.length by omega]
theorem times_one {n : Nat} {a : List Int} (ha : IsP n a) : timesL (oneL n) a = a := by
  unfold timesL
  have : a.map (fun q => (oneL n).getD q.toNat 0) = a.map id := List.map_congr_left fun q hq => by
    obtain ⟨h1, h2⟩ := ha.idx hq
    rw [oneL_getD h1]; exact h2
  rw [this, List.map_id]
theorem one_times {n : Nat} {a : List Int} (ha : IsP n a) : timesL a (oneL n) = a := by
  have hl : (timesL a (oneL n)).length = a.length := by rw [timesL_length, oneL_length, ha.1]
  refine List.ext_getElem hl fun k h1 h2 => ?_
  have hk : k < n := by rw [hl, ha.1] at h1; exact h1
  have := timesL_getD a (oneL n) k (by rw [oneL_length]; exact hk)
  rw [oneL_getD hk] at this
  rw [← getD_eq h1 0, this, ← getD_eq h2 0]
  simp
theorem back_ok : permsAll.all (fun a => decide (timesL (backL a) a = oneL a.length) && decide (timesL a (backL a) = oneL a.length) && decide (chk (backL a) = 0)) = true := by decide +kernel
theorem back_left {a : List Int} (h : chk a = 0) : timesL (backL a) a = oneL a.length ∧ timesL a (backL a) = oneL a.length ∧ chk (backL a) = 0 := by
  have := perm_all back_ok h
  simp only [Bool.and_eq_true, decide_eq_true_eq] at this
  exact ⟨this.1.1, this.1.2, this.2⟩
def parL (n : Nat) : List (List Int × Bool) := (everyL n).map fun a => (a, oddGo a a.length)
def parityB (n : Nat) : Bool := (parL n).all fun x => (parL n).all fun y => oddGo (timesL x.1 y.1) y.1.length == (x.2 != y.2)
theorem parity4 : (parityB 1 && parityB 2 && parityB 3 && parityB 4) = true := by decide +kernel

/-- What holds of the start and is kept by the generators holds of the closure. -/
theorem clIn_all {Q : List Int → Prop} {y : List Int} (hy : Q y) : ∀ {l g : List (List Int)}, (∀ a ∈ l, ∀ y, Q y → Q (timesL a y)) → (∀ x ∈ g, Q x) → ∀ x ∈ clIn y l g, Q x
  | [], _, _, h => h
  | a :: l, g, hl, h => by
    rw [clIn]
    refine clIn_all hy (fun b hb => hl b (by simp [hb])) ?_
    split
    · exact h
    · intro x hx
      rcases List.mem_append.1 hx with hx | hx
      · exact h x hx
      · rw [List.mem_singleton.1 hx]; exact hl a (by simp) y hy
theorem clGo_all {Q : List Int → Prop} {l : List (List Int)} (hl : ∀ a ∈ l, ∀ y, Q y → Q (timesL a y)) : ∀ {f i : Nat} {g G : List (List Int)}, (∀ x ∈ g, Q x) → clGo l f i g = some G → ∀ x ∈ G, Q x
  | 0, _, _, _, _, h => by cases h
  | f + 1, i, g, G, hg, h => by
    rw [clGo] at h
    by_cases hlt : i < g.length
    · rw [if_pos hlt] at h
      refine clGo_all hl (clIn_all (y := g.getD i []) ?_ hl hg) h
      rw [getD_eq hlt]; exact hg _ (List.getElem_mem hlt)
    · rw [if_neg hlt] at h
      obtain rfl := Option.some.inj h
      exact hg
/-- The closure keeps what it has, and is closed. -/
theorem clIn_sub (y : List Int) : ∀ {l g : List (List Int)}, (∀ x ∈ g, x ∈ clIn y l g) ∧ (∀ a ∈ l, timesL a y ∈ clIn y l g)
  | [], g => ⟨fun _ h => h, fun _ h => by cases h⟩
  | a :: l, g => by
    rw [clIn]
    obtain ⟨h1, h2⟩ := clIn_sub y (l := l) (g := if timesL a y ∈ g then g else g ++ [timesL a y])
    refine ⟨fun x hx => h1 x (by split; exact hx; simp [hx]), fun b hb => ?_⟩
    rcases List.mem_cons.1 hb with rfl | hb
    · exact h1 _ (by split; assumption; simp)
    · exact h2 b hb
theorem clIn_getD (y : List Int) : ∀ {l g : List (List Int)} {k : Nat}, k < g.length → (clIn y l g).getD k [] = g.getD k []
  | [], _, _, _ => rfl
  | a :: l, g, k, hk => by
    rw [clIn]
    split
    · exact clIn_getD y hk
    · rw [clIn_getD y (by simp; omega), getD_append_left' hk]
theorem clGo_sub {l : List (List Int)} : ∀ {f i : Nat} {g G : List (List Int)}, clGo l f i g = some G → (∀ j, j < i → j < g.length → ∀ a ∈ l, timesL a (g.getD j []) ∈ g) → (∀ x ∈ g, x ∈ G) ∧ ∀ y ∈ G, ∀ a ∈ l, timesL a y ∈ G
  | 0, _, _, _, h, _ => by cases h
  | f + 1, i, g, G, h, hc => by
    rw [clGo] at h
    by_cases hlt : i < g.length
    · rw [if_pos hlt] at h
      obtain ⟨h1, h2⟩ := clIn_sub (g.getD i []) (l := l) (g := g)
      obtain ⟨k1, k2⟩ := clGo_sub h (fun j hj _ a ha => by
        by_cases hji : j = i
        · subst hji; rw [clIn_getD _ hlt]; exact h2 a ha
        · rw [clIn_getD _ (by omega)]
          exact h1 _ (hc j (by omega) (by omega) a ha))
      exact ⟨fun x hx => k1 x (h1 x hx), k2⟩
    · rw [if_neg hlt] at h
      obtain rfl := Option.some.inj h
      refine ⟨fun x hx => hx, fun y hy a ha => ?_⟩
      obtain ⟨j, hj, rfl⟩ := List.mem_iff_getElem.1 hy
      have := hc j (by omega) hj a ha
      rwa [getD_eq hj] at this

def gens5 : List (List Int) := [[1, 2, 3, 4, 0], [1, 0, 2, 3, 4]]
def par5 (a : List Int) : Bool := oddGo a 5
theorem gens_par : ((everyL 5).all fun y => gens5.all fun a => par5 (timesL a y) == (par5 a != par5 y)) = true := by decide +kernel
theorem gens_all : ((clGo gens5 3126 0 [oneL 5]).getD []).length = 120 := by decide +kernel
end Go.Proofs.YtpjlaaldepfnkaaDoor

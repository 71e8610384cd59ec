/- Plain facts on permutations as lists: which they are, their compositions, the closure of a list of them. -/
import Derived.Test.YtpjlaaldepfnkaaDoorWl
namespace Go.Proofs.YtpjlaaldepfnkaaDoor

def IsP (n : Nat) (x : List Int) : Prop := x.length = n ∧ (∀ e ∈ x, 0 ≤ e ∧ e < (n : Int)) ∧ x.Nodup
theorem IsP.good {n : Nat} {x : List Int} (h : IsP n x) : Good n x := fun j hj => by rw [getD_eq hj]; exact h.2.1 _ (List.getElem_mem hj)

theorem mem_furF (n : Nat) : ∀ (f : Nat) (b x : List Int), x ∈ furF n f b ↔ ∃ s, x = b ++ s ∧ s.length = f ∧ (∀ e ∈ s, 0 ≤ e ∧ e < (n : Int)) ∧ s.Nodup ∧ ∀ e ∈ s, e ∉ b
  | 0, b, x => by
    simp only [furF, List.mem_singleton]
    constructor
    · rintro rfl; exact ⟨[], by simp⟩
    · rintro ⟨s, rfl, hs, _⟩; rw [List.length_eq_zero_iff.1 hs]; simp
  | f + 1, b, x => by
    simp only [furF, List.mem_flatMap, List.mem_range]
    constructor
    · rintro ⟨p, hp, hx⟩
      by_cases hb : (p : Int) ∈ b
      · rw [if_pos hb] at hx; cases hx
      · rw [if_neg hb, mem_furF n f] at hx
        obtain ⟨s, rfl, h1, h2, h3, h4⟩ := hx
        refine ⟨(p : Int) :: s, by simp, by simp [h1], ?_, ?_, ?_⟩
        · intro e he
          rcases List.mem_cons.1 he with rfl | he
          · omega
          · exact h2 e he
        · rw [List.nodup_cons]
          exact ⟨fun hm => h4 _ hm (by simp), h3⟩
        · intro e he
          rcases List.mem_cons.1 he with rfl | he
          · exact hb
          · exact fun h => h4 e he (by simp [h])
    · rintro ⟨s, rfl, h1, h2, h3, h4⟩
      match s, h1 with
      | p :: s, h1 =>
        obtain ⟨g1, g2⟩ := h2 p (by simp)
        rw [List.nodup_cons] at h3
        refine ⟨p.toNat, by omega, ?_⟩
        have hp : ((p.toNat : Nat) : Int) = p := by omega
        rw [hp, if_neg (h4 p (by simp)), mem_furF n f]
        refine ⟨s, by simp, by simpa using h1, fun e he => h2 e (by simp [he]), h3.2, fun e he => ?_⟩
        rw [List.mem_append, List.mem_singleton]
        rintro (h | rfl)
        · exact h4 e (by simp [he]) h
        · exact h3.1 he
theorem mem_everyL {n : Nat} {x : List Int} : x ∈ everyL n ↔ IsP n x := by
  rw [everyL, mem_furF]
  constructor
  · rintro ⟨s, rfl, h1, h2, h3, _⟩; exact ⟨by simpa using h1, by simpa using h2, by simpa using h3⟩
  · rintro ⟨h1, h2, h3⟩; exact ⟨x, by simp, h1, h2, h3, by simp⟩

theorem chkGo_ok {n : Nat} : ∀ {r seen : List Int}, (∀ x ∈ r, 0 ≤ x ∧ x < (n : Int)) → (∀ x ∈ r, x ∉ seen) → r.Nodup → chkGo n seen r = 0
  | [], _, _, _, _ => rfl
  | x :: r, seen, h1, h2, h3 => by
    have := h1 x (by simp)
    rw [List.nodup_cons] at h3
    rw [chkGo, if_neg (by omega), if_neg (h2 x (by simp))]
    refine chkGo_ok (fun y hy => h1 y (by simp [hy])) (fun y hy => ?_) h3.2
    rw [List.mem_append, List.mem_singleton]
    rintro (h | rfl)
    · exact h2 y (by simp [hy]) h
    · exact h3.1 hy
theorem chk_iff {x : List Int} : chk x = 0 ↔ (1 ≤ x.length ∧ x.length ≤ 5) ∧ IsP x.length x := by
  constructor
  · intro h
    obtain ⟨h1, h5, hG, hN⟩ := chk_good h
    refine ⟨⟨h1, h5⟩, rfl, fun e he => ?_, hN⟩
    obtain ⟨j, hj, rfl⟩ := List.mem_iff_getElem.1 he
    have := hG j hj
    rwa [getD_eq hj] at this
  · rintro ⟨⟨h1, h5⟩, _, h2, h3⟩
    rw [chk, if_neg (by omega)]
    exact chkGo_ok h2 (by simp) h3

theorem nodup_map {f : Int → Int} : ∀ {l : List Int}, l.Nodup → (∀ x ∈ l, ∀ y ∈ l, f x = f y → x = y) → (l.map f).Nodup
  | [], _, _ => by simp
  | a :: l, h, hf => by
    rw [List.nodup_cons] at h
    rw [List.map_cons, List.nodup_cons]
    refine ⟨?_, nodup_map h.2 fun x hx y hy => hf x (by simp [hx]) y (by simp [hy])⟩
    intro hm
    obtain ⟨y, hy, e⟩ := List.mem_map.1 hm
    have := hf y (by simp [hy]) a (by simp) e
    subst this
    exact h.1 hy
theorem nodup_getD {l : List Int} (h : l.Nodup) {i j : Nat} (hi : i < l.length) (hj : j < l.length) (e : l.getD i 0 = l.getD j 0) : i = j := by
  rw [getD_eq hi, getD_eq hj] at e
  have hp := List.pairwise_iff_getElem.1 h
  rcases Nat.lt_trichotomy i j with h1 | h1 | h1
  · exact absurd e (hp i j hi hj h1)
  · exact h1
  · exact absurd e.symm (hp j i hj hi h1)
theorem IsP.times {n : Nat} {a b : List Int} (ha : IsP n a) (hb : IsP n b) : IsP n (timesL a b) := by
  refine ⟨by rw [timesL_length]; exact hb.1, ?_, ?_⟩
  · intro e he
    obtain ⟨q, hq, rfl⟩ := List.mem_map.1 he
    have := hb.2.1 q hq
    exact ha.good q.toNat (by rw [ha.1]; omega)
  · refine nodup_map hb.2.2 fun x hx y hy e => ?_
    have h1 := hb.2.1 x hx
    have h2 := hb.2.1 y hy
    have := nodup_getD ha.2.2 (by rw [ha.1]; omega) (by rw [ha.1]; omega) e
    omega
theorem IsP.one (n : Nat) : IsP n (oneL n) := by
  refine ⟨oneL_length n, ?_, ?_⟩
  · intro e he
    obtain ⟨q, hq, rfl⟩ := List.mem_map.1 he
    have := List.mem_range.1 hq
    show 0 ≤ (q : Int) ∧ (q : Int) < n
    omega
  · refine List.pairwise_iff_getElem.2 fun i j hi hj hij => ?_
    rw [← getD_eq hi 0, ← getD_eq hj 0]
    rw [oneL_length] at hi hj
    rw [oneL_getD hi, oneL_getD hj]
    omega

/-- The lengths of lists without doubles in a list. -/
theorem nodup_le {α : Type} [DecidableEq α] : ∀ {l m : List α}, l.Nodup → (∀ x ∈ l, x ∈ m) → l.length ≤ m.length
  | [], _, _, _ => by simp
  | a :: l, m, h, hs => by
    rw [List.nodup_cons] at h
    have ha := hs a (by simp)
    have h1 : l.length ≤ (m.erase a).length := nodup_le h.2 fun x hx => by
      have hne : x ≠ a := by rintro rfl; exact h.1 hx
      rw [List.mem_erase_of_ne hne]
      exact hs x (by simp [hx])
    rw [List.length_erase_of_mem ha] at h1
    have : 0 < m.length := List.length_pos_of_mem ha
    simp only [List.length_cons]
    omega

def clIn (y : List Int) : List (List Int) → List (List Int) → List (List Int)
  | [], g => g
  | a :: l, g => clIn y l (if timesL a y ∈ g then g else g ++ [timesL a y])
def clGo (l : List (List Int)) : Nat → Nat → List (List Int) → Option (List (List Int))
  | 0, _, _ => none
  | f + 1, i, g => if i < g.length then clGo l f (i + 1) (clIn (g.getD i []) l g) else some g
/-- What holds of the group all the way. -/
def InvG (n : Nat) (g : List (List Int)) : Prop := g.Nodup ∧ ∀ y ∈ g, IsP n y
theorem InvG.le {n : Nat} (hn : n ≤ 5) {g : List (List Int)} (h : InvG n g) : g.length ≤ 3125 :=
  Nat.le_trans (nodup_le h.1 fun y hy => mem_everyL.2 (h.2 y hy)) (furF_small n n hn hn [])
theorem InvG.step {n : Nat} {g : List (List Int)} {a y : List Int} (h : InvG n g) (ha : IsP n a) (hy : IsP n y) : InvG n (if timesL a y ∈ g then g else g ++ [timesL a y]) := by
  split
  · exact h
  · rename_i hm
    refine ⟨?_, ?_⟩
    · rw [List.nodup_append]
      refine ⟨h.1, by simp, ?_⟩
      intro x hx z hz
      rw [List.mem_singleton.1 hz]
      rintro rfl
      exact hm hx
    · intro z hz
      rcases List.mem_append.1 hz with hz | hz
      · exact h.2 z hz
      · rw [List.mem_singleton.1 hz]; exact ha.times hy
theorem InvG.inner {n : Nat} {y : List Int} (hy : IsP n y) : ∀ {l g : List (List Int)}, InvG n g → (∀ a ∈ l, IsP n a) → InvG n (clIn y l g)
  | [], _, h, _ => h
  | a :: l, g, h, hl => by
    rw [clIn]
    exact InvG.inner hy (h.step (hl a (by simp)) hy) fun b hb => hl b (by simp [hb])
theorem clIn_le (y : List Int) : ∀ (l g : List (List Int)), g.length ≤ (clIn y l g).length
  | [], _ => Nat.le_refl _
  | a :: l, g => by
    rw [clIn]
    refine Nat.le_trans ?_ (clIn_le y l _)
    split
    · exact Nat.le_refl _
    · simp
theorem clGo_total {n : Nat} (hn : n ≤ 5) {l : List (List Int)} (hl : ∀ a ∈ l, IsP n a) : ∀ (f i : Nat) (g : List (List Int)), InvG n g → 3126 ≤ f + i → i ≤ g.length → ∃ G, clGo l f i g = some G ∧ InvG n G
  | 0, i, g, h, hf, hi => by have := h.le hn; omega
  | f + 1, i, g, h, hf, hi => by
    rw [clGo]
    by_cases hlt : i < g.length
    · rw [if_pos hlt]
      refine clGo_total hn hl f (i + 1) _ (InvG.inner ?_ h hl) (by omega) (Nat.le_trans hlt (clIn_le _ _ _))
      rw [getD_eq hlt]; exact h.2 _ (List.getElem_mem hlt)
    · rw [if_neg hlt]; exact ⟨g, rfl, h⟩
theorem clGo_start {n : Nat} (hn : n ≤ 5) {l : List (List Int)} (hl : ∀ a ∈ l, IsP n a) : ∃ G, clGo l 3126 0 [oneL n] = some G ∧ InvG n G :=
  clGo_total hn hl 3126 0 [oneL n] ⟨by simp, fun y hy => by rw [List.mem_singleton.1 hy]; exact IsP.one n⟩ (by omega) (by simp)
end Go.Proofs.YtpjlaaldepfnkaaDoor

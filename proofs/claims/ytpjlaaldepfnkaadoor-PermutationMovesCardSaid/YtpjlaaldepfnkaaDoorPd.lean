/- Sorted lists of permutations. -/
import Derived.Test.YtpjlaaldepfnkaaDoorPc
namespace Go.Proofs.YtpjlaaldepfnkaaDoor

theorem sorted_unique {α : Type} {lt : α → α → Prop} (has : ∀ a b, lt a b → ¬ lt b a) : ∀ {l1 l2 : List α}, l1.Pairwise lt → l2.Pairwise lt → (∀ x, x ∈ l1 ↔ x ∈ l2) → l1 = l2
  | [], [], _, _, _ => rfl
  | [], b :: t2, _, _, h => absurd ((h b).2 (List.mem_cons_self ..)) (by simp)
  | a :: t1, [], _, _, h => absurd ((h a).1 (List.mem_cons_self ..)) (by simp)
  | a :: t1, b :: t2, h1, h2, h => by
    rw [List.pairwise_cons] at h1 h2
    have hab : a = b := by
      rcases List.mem_cons.1 ((h a).1 (List.mem_cons_self ..)) with h3 | h3
      · exact h3
      · rcases List.mem_cons.1 ((h b).2 (List.mem_cons_self ..)) with h4 | h4
        · exact h4.symm
        · exact absurd (h2.1 a h3) (has _ _ (h1.1 b h4))
    subst hab
    rw [sorted_unique has h1.2 h2.2 fun x => ⟨fun hx => ?_, fun hx => ?_⟩]
    · rcases List.mem_cons.1 ((h x).1 (List.mem_cons_of_mem _ hx)) with h3 | h3
      · subst h3; exact absurd (h1.1 x hx) (fun h => has _ _ h h)
      · exact h3
    · rcases List.mem_cons.1 ((h x).2 (List.mem_cons_of_mem _ hx)) with h3 | h3
      · subst h3; exact absurd (h2.1 x hx) (fun h => has _ _ h h)
      · exact h3

theorem every_sorted : ∀ n, n ≤ 5 → (everyL n).Pairwise (fun a b => cmpL a b < 0) := by
  intro n hn
  have : n = 0 ∨ n = 1 ∨ n = 2 ∨ n = 3 ∨ n = 4 ∨ n = 5 := by omega
  rcases this with rfl | rfl | rfl | rfl | rfl | rfl <;> decide +kernel
theorem cmpL_cons (a b : Int) (xs ys : List Int) : cmpL (a :: xs) (b :: ys) < 0 ↔ a < b ∨ (a = b ∧ cmpL xs ys < 0) := by
  simp only [cmpL, cmpI]
  by_cases h1 : a < b
  · simp [h1]
  · by_cases h2 : b < a
    · simp [h1, h2, show a ≠ b by omega]
    · obtain rfl : a = b := by omega
      simp
theorem cmpL_nil_cons (b : Int) (ys : List Int) : cmpL [] (b :: ys) < 0 := by simp [cmpL]
theorem cmpL_any_nil : ∀ xs : List Int, ¬ cmpL xs [] < 0
  | [] => by simp [cmpL]
  | _ :: _ => by simp [cmpL]
theorem cmpL_asymm : ∀ a b : List Int, cmpL a b < 0 → ¬ cmpL b a < 0
  | xs, [], h => absurd h (cmpL_any_nil xs)
  | [], _ :: _, _ => cmpL_any_nil _
  | a :: xs, b :: ys, h => by
    rw [cmpL_cons] at h ⊢
    rintro (h2 | ⟨h2, h3⟩)
    · rcases h with h | ⟨h, _⟩ <;> omega
    · rcases h with h | ⟨_, h⟩
      · omega
      · exact cmpL_asymm xs ys h h3
theorem cmpL_trans : ∀ a b c : List Int, cmpL a b < 0 → cmpL b c < 0 → cmpL a c < 0
  | xs, [], _, h, _ => absurd h (cmpL_any_nil xs)
  | _, ys, [], _, h => absurd h (cmpL_any_nil ys)
  | [], _ :: _, c :: zs, _, _ => cmpL_nil_cons c zs
  | a :: xs, b :: ys, c :: zs, h, k => by
    rw [cmpL_cons] at h k ⊢
    rcases h with h | ⟨rfl, h⟩ <;> rcases k with k | ⟨rfl, k⟩
    · left; omega
    · exact .inl h
    · exact .inl k
    · exact .inr ⟨rfl, cmpL_trans xs ys zs h k⟩
theorem cmpL_total : ∀ a b : List Int, cmpL a b < 0 ∨ a = b ∨ cmpL b a < 0
  | [], [] => .inr (.inl rfl)
  | [], b :: ys => .inl (cmpL_nil_cons b ys)
  | a :: xs, [] => .inr (.inr (cmpL_nil_cons a xs))
  | a :: xs, b :: ys => by
    rw [cmpL_cons, cmpL_cons]
    rcases Int.lt_trichotomy a b with h | rfl | h
    · exact .inl (.inl h)
    · rcases cmpL_total xs ys with h | rfl | h
      · exact .inl (.inr ⟨rfl, h⟩)
      · exact .inr (.inl rfl)
      · exact .inr (.inr (.inr ⟨rfl, h⟩))
    · exact .inr (.inr (.inl h))
theorem cmpL_ntrans (a b c : List Int) (h : ¬ cmpL a b < 0) (k : ¬ cmpL b c < 0) : ¬ cmpL a c < 0 := by
  intro hc
  rcases cmpL_total a b with h1 | rfl | h1
  · exact h h1
  · exact k hc
  · exact k (cmpL_trans b a c h1 hc)
/-- A sorted list of the group's members, each once, is the filtered list of all. -/
theorem group_sorted {n : Nat} (hn : n ≤ 5) {G l : List (List Int)} (hG : ∀ y ∈ G, IsP n y) (hl : l.Pairwise (fun a b => ¬ cmpL b a < 0)) (hnd : l.Nodup) (hm : ∀ x, x ∈ l ↔ x ∈ G) :
    l = (everyL n).filter (fun x => decide (x ∈ G)) := by
  refine sorted_unique (lt := fun a b => cmpL a b < 0) cmpL_asymm ?_ ((every_sorted n hn).filter _) fun x => ?_
  · refine (hl.and hnd).imp fun {a b} h => ?_
    rcases cmpL_total a b with h1 | h1 | h1
    · exact h1
    · exact absurd h1 h.2
    · exact absurd h1 h.1
  · rw [hm, List.mem_filter]
    constructor
    · intro h; exact ⟨mem_everyL.2 (hG x h), by simpa using h⟩
    · intro h; simpa using h.2
end Go.Proofs.YtpjlaaldepfnkaaDoor

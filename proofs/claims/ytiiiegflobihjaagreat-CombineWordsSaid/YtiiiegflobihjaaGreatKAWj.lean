/- Texts of this claim, put together: P1 E5 E7 E8 H0 CB CC. -/
import Derived.Test.YtiiiegflobihjaaGreatKAWh
import Derived.Test.YtiiiegflobihjaaGreatKAWi
import Derived.Test.YtiiiegflobihjaaGreatKAWf

/- What is known of an adversary without an error; the search ends: plain lists. -/
namespace Go.Proofs.YtiiiegflobihjaaGreat
open Go.RowKit

theorem hErr_zero {n p x : Int} (h : hErr n p x = 0) : 0 ≤ x ∧ x ≤ 31 := by
  have hf := (fullI_le n).2
  unfold hErr at h
  by_cases h1 : n ≤ p
  · rw [if_pos h1] at h
    by_cases h2 : x = 0
    · omega
    · rw [if_neg h2] at h; cases h
  · rw [if_neg h1] at h
    by_cases h2 : x < 0 ∨ fullI n < x
    · rw [if_pos h2] at h; cases h
    · omega
theorem hGo_zero {n : Int} : ∀ {hs : List Int} {i : Int}, hGo n i hs = 0 → ∀ x ∈ hs, 0 ≤ x ∧ x ≤ 31
  | [], _, _, x, hx => by cases hx
  | y :: r, i, h, x, hx => by
    unfold hGo at h
    by_cases he : hErr n i y = 0
    · rw [if_neg (fun k => k he)] at h
      rcases List.mem_cons.1 hx with rfl | hx
      · exact hErr_zero he
      · exact hGo_zero h x hx
    · rw [if_pos he] at h; exact absurd h he
theorem chkGr_zero {n : Int} {hs : List Int} (h : chkGr n hs = 0) : (1 ≤ n ∧ n ≤ 5) ∧ ∀ x ∈ hs, 0 ≤ x ∧ x ≤ 31 := by
  unfold chkGr at h
  by_cases hn : n < 1 ∨ 5 < n
  · rw [if_pos hn] at h; cases h
  · rw [if_neg hn] at h
    exact ⟨by omega, hGo_zero h⟩
theorem wfR_of {r : List Int} (hl : r.length = 7) (h : chkRd r = 0) : WfR r := by
  obtain ⟨n, h0, h1, h2, h3, h4, f, rfl⟩ := seven hl
  have hg : chkGr n [h0, h1, h2, h3, h4] = 0 := by
    by_cases hc : chkGr n [h0, h1, h2, h3, h4] = 0
    · exact hc
    · rw [chkRd_1 hc] at h; exact h
  obtain ⟨hn, hh⟩ := chkGr_zero hg
  obtain ⟨_, hf0, hf1⟩ := chkSet_zero (chkRd_zero h)
  have h32 := twoI_le (n := n)
  refine ⟨rfl, fun x hx => ?_⟩
  simp only [List.mem_cons, List.not_mem_nil, or_false] at hx
  have hf0 : 0 ≤ f := hf0
  have hf1 : f < twoI n := hf1
  rcases hx with rfl | hx
  · omega
  rcases hx with rfl | rfl | rfl | rfl | rfl | rfl
  · have := hh x (by simp); omega
  · have := hh x (by simp); omega
  · have := hh x (by simp); omega
  · have := hh x (by simp); omega
  · have := hh x (by simp); omega
  · omega
/-- No error: what follows. -/
theorem chkA_facts {n : Int} {ss : List (List (List Int))} (h : chkA n ss = 0) : (1 ≤ n ∧ n ≤ 5) ∧ (1 ≤ ss.length ∧ ss.length ≤ 256 ∧ movesN ss ≤ 4096) ∧ ssGo n ss.length ss = 0 ∧ growsB ss = true := by
  unfold chkA at h
  by_cases h1 : n < 1 ∨ 5 < n
  · rw [if_pos h1] at h; cases h
  rw [if_neg h1] at h
  by_cases h2 : ss.length < 1 ∨ 256 < ss.length ∨ 4096 < movesN ss
  · rw [if_pos h2] at h; cases h
  rw [if_neg h2] at h
  by_cases h3 : ssGo n ss.length ss ≠ 0
  · rw [if_pos h3] at h; exact absurd h h3
  rw [if_neg h3] at h
  by_cases h4 : growsB ss = true
  · exact ⟨by omega, by omega, Decidable.not_not.1 h3, h4⟩
  · rw [if_neg h4] at h; cases h
theorem clsOK_of {n : Int} {ss : List (List (List Int))} (h8 : ∀ s ∈ ss, ∀ m ∈ s, m.length = 8) (h : chkA n ss = 0) (hl : ss.length ≤ 90) (hm : movesN ss ≤ 90) : ClsOK ss := by
  obtain ⟨_, ⟨h1, _, _⟩, h3, _⟩ := chkA_facts h
  refine ⟨hl, hm, h1, fun s hs => ?_⟩
  have h4 := ssGo_zero h3 s hs
  unfold stErr at h4
  by_cases he : s.length = 0
  · rw [if_pos he] at h4; cases h4
  rw [if_neg he] at h4
  refine ⟨by omega, fun m hmm => ?_⟩
  obtain ⟨j, hj, rfl⟩ := List.mem_iff_getElem.1 hmm
  obtain ⟨c1, _, _, c4, c5⟩ := mvErr_zero (mvGo_zero h4 j (by omega) (by omega))
  rw [getD_eq hj] at c1 c4 c5
  have hl8 := h8 s hs _ hmm
  exact ⟨wfR_of (by rw [rdOf, List.length_take, hl8]; rfl) c1, hl8, c4, c5⟩
theorem nodup_lt_le {n : Nat} {l : List Nat} (hn : l.Nodup) (h : ∀ x ∈ l, x < n) : l.length ≤ n := by
  have := nodup_sub_le (b := List.range n) hn (fun x hx => List.mem_range.2 (h x hx))
  rwa [List.length_range] at this
end Go.Proofs.YtiiiegflobihjaaGreat

/- Classes, Canonical, Is and Equal. -/
namespace Go.Proofs.YtiiiegflobihjaaGreat
open Go.RowKit Go.ChangeMaps Go.MapKept

/-- An adversary in a box. -/
theorem boxAdv {w : World} {n : Int} {a : Option Addr} {l c : Nat} {w1 : World} (hw : w1 = w.alloc (.cells #[.int .i64 n, .slice a l c] 24)) :
    Below w.heap.size w w1 ∧ w1.cell? ⟨w.heap.size, 0, none⟩ = some (.int .i64 n) ∧ w1.cell? ⟨w.heap.size, 1, none⟩ = some (.slice a l c) ∧ w1.heap[w.heap.size]? = some (.cells #[.int .i64 n, .slice a l c] 24) := by
  have h := heap_alloc_new w (.cells #[.int .i64 n, .slice a l c] 24)
  rw [← hw] at h
  refine ⟨by rw [hw]; exact (Below.refl _ w).alloc (Nat.le_refl _) _, ?_, ?_, h⟩
  · rw [cell_of_row _ _ 0 _ _ _ h]; rfl
  · rw [cell_of_row _ _ 1 _ _ _ h]; rfl

end Go.Proofs.YtiiiegflobihjaaGreat

/- canonical.to and canonical.after. -/
namespace Go.Proofs.YtiiiegflobihjaaGreat
open Go.RowKit

/-- The state to which a round leads, or -1. -/
def toI (r : List Int) : List (List Int) → Int
  | [] => -1
  | m :: ms => if rdOf m = r then m.getD 7 0 else toI r ms
theorem box7CI {w : World} {b : Nat} {x0 x1 x2 x3 x4 x5 x6 : Int} {t : TypeId} (h : w.heap[b]? = some (.cells #[.int .i64 x0, .int .i64 x1, .int .i64 x2, .int .i64 x3, .int .i64 x4, .int .i64 x5, .int .i64 x6] t)) : CI w b 0 [x0, x1, x2, x3, x4, x5, x6] := by
  intro j hj
  rw [cell_of_row w b (0 + j) _ _ _ h]
  match j, hj with
  | 0, _ => rfl
  | 1, _ => rfl
  | 2, _ => rfl
  | 3, _ => rfl
  | 4, _ => rfl
  | 5, _ => rfl
  | 6, _ => rfl
end Go.Proofs.YtiiiegflobihjaaGreat

/- canonical.after. -/
namespace Go.Proofs.YtiiiegflobihjaaGreat
open Go.RowKit

/-- The state behind a word, or -1. -/
def afterI (ss : List (List (List Int))) : List (List Int) → Nat → Int
  | [], s => (s : Int)
  | r :: rs, s => if toI r (ss.getD s []) < 0 then -1 else afterI ss rs (toI r (ss.getD s [])).toNat
/-- All moves lead to states. -/
def LeadOK (ss : List (List (List Int))) : Prop := ∀ s ∈ ss, ∀ m ∈ s, 0 ≤ m.getD 7 0 ∧ m.getD 7 0 < (ss.length : Int)
theorem toI_ge (r : List Int) {n : Int} : ∀ {ms : List (List Int)}, (∀ m ∈ ms, 0 ≤ m.getD 7 0 ∧ m.getD 7 0 < n) → 0 < n → -1 ≤ toI r ms ∧ toI r ms < n
  | [], _, _ => by simp only [toI]; omega
  | m :: ms, h, hn => by
    unfold toI
    split
    · have := h m (by simp); omega
    · exact toI_ge r (fun x hx => h x (by simp [hx])) hn
theorem advShape' {w : World} {v : Value} {n : Int} {ss : List (List (List Int))} (h : AdvV w v n ss) : ∃ a c, v = .agg #[.int .i64 n, .slice a ss.length c] := by
  obtain ⟨sv, rfl, hK⟩ := h
  obtain ⟨a, c, rfl⟩ := hK.shape
  exact ⟨a, c, rfl⟩
end Go.Proofs.YtiiiegflobihjaaGreat

/- The first word that tells two states apart: plain lists. -/
namespace Go.Proofs.YtiiiegflobihjaaGreat

theorem cmpL_cons (a b : Int) (xs ys : List Int) : cmpL (a :: xs) (b :: ys) < 0 ↔ a < b ∨ (a = b ∧ cmpL xs ys < 0) := by
  simp only [cmpL, cmpI]
  by_cases h1 : a < b
  · simp [h1]
  · by_cases h2 : b < a
    · simp [h1, h2, show a ≠ b by omega]
    · obtain rfl : a = b := by omega
      simp
theorem cmpL_nil_cons (b : Int) (ys : List Int) : cmpL [] (b :: ys) < 0 := by simp [cmpL]
theorem cmpL_any_nil : ∀ xs : List Int, ¬ cmpL xs [] < 0
  | [] => by simp [cmpL]
  | _ :: _ => by simp [cmpL]
theorem cmpL_asymm : ∀ a b : List Int, cmpL a b < 0 → ¬ cmpL b a < 0
  | xs, [], h => absurd h (cmpL_any_nil xs)
  | [], _ :: _, _ => cmpL_any_nil _
  | a :: xs, b :: ys, h => by
    rw [cmpL_cons] at h ⊢
    rintro (h2 | ⟨h2, h3⟩)
    · rcases h with h | ⟨h, _⟩ <;> omega
    · rcases h with h | ⟨_, h⟩
      · omega
      · exact cmpL_asymm xs ys h h3
theorem cmpL_trans : ∀ a b c : List Int, cmpL a b < 0 → cmpL b c < 0 → cmpL a c < 0
  | xs, [], _, h, _ => absurd h (cmpL_any_nil xs)
  | _, ys, [], _, h => absurd h (cmpL_any_nil ys)
  | [], _ :: _, c :: zs, _, _ => cmpL_nil_cons c zs
  | a :: xs, b :: ys, c :: zs, h, k => by
    rw [cmpL_cons] at h k ⊢
    rcases h with h | ⟨rfl, h⟩ <;> rcases k with k | ⟨rfl, k⟩
    · left; omega
    · exact .inl h
    · exact .inl k
    · exact .inr ⟨rfl, cmpL_trans xs ys zs h k⟩
theorem cmpL_total : ∀ a b : List Int, cmpL a b < 0 ∨ a = b ∨ cmpL b a < 0
  | [], [] => .inr (.inl rfl)
  | [], b :: ys => .inl (cmpL_nil_cons b ys)
  | a :: xs, [] => .inr (.inr (cmpL_nil_cons a xs))
  | a :: xs, b :: ys => by
    rw [cmpL_cons, cmpL_cons]
    rcases Int.lt_trichotomy a b with h | rfl | h
    · exact .inl (.inl h)
    · rcases cmpL_total xs ys with h | rfl | h
      · exact .inl (.inr ⟨rfl, h⟩)
      · exact .inr (.inl rfl)
      · exact .inr (.inr (.inr ⟨rfl, h⟩))
    · exact .inr (.inr (.inl h))
theorem cmpL_ntrans (a b c : List Int) (h : ¬ cmpL a b < 0) (k : ¬ cmpL b c < 0) : ¬ cmpL a c < 0 := by
  intro hc
  rcases cmpL_total a b with h1 | rfl | h1
  · exact h h1
  · exact k hc
  · exact k (cmpL_trans b a c h1 hc)
theorem sorted_unique {α : Type} {lt : α → α → Prop} (has : ∀ a b, lt a b → ¬ lt b a) : ∀ {l1 l2 : List α}, l1.Pairwise lt → l2.Pairwise lt → (∀ x, x ∈ l1 ↔ x ∈ l2) → l1 = l2
  | [], [], _, _, _ => rfl
  | [], b :: t2, _, _, h => absurd ((h b).2 (List.mem_cons_self ..)) (by simp)
  | a :: t1, [], _, _, h => absurd ((h a).1 (List.mem_cons_self ..)) (by simp)
  | a :: t1, b :: t2, h1, h2, h => by
    rw [List.pairwise_cons] at h1 h2
    have hab : a = b := by
      rcases List.mem_cons.1 ((h a).1 (List.mem_cons_self ..)) with h3 | h3
      · exact h3
      · rcases List.mem_cons.1 ((h b).2 (List.mem_cons_self ..)) with h4 | h4
        · exact h4.symm
        · exact absurd (h2.1 a h3) (has _ _ (h1.1 b h4))
    subst hab
    rw [sorted_unique has h1.2 h2.2 fun x => ⟨fun hx => ?_, fun hx => ?_⟩]
    · rcases List.mem_cons.1 ((h x).1 (List.mem_cons_of_mem _ hx)) with h3 | h3
      · subst h3; exact absurd (h1.1 x hx) (fun h => has _ _ h h)
      · exact h3
    · rcases List.mem_cons.1 ((h x).2 (List.mem_cons_of_mem _ hx)) with h3 | h3
      · subst h3; exact absurd (h2.1 x hx) (fun h => has _ _ h h)
      · exact h3

/-- Strictly ascending. -/
def AscL (l : List (List Int)) : Prop := l.Pairwise fun a b => cmpL a b < 0
/-- The merge of two ascending lists; what is in both is taken once. -/
def mgIn (k : List (List Int) → List (List Int)) (x : List Int) : List (List Int) → List (List Int)
  | [] => x :: k []
  | y :: ys => if cmpL x y < 0 then x :: k (y :: ys) else if x = y then y :: k ys else y :: mgIn k x ys
def mg : List (List Int) → List (List Int) → List (List Int)
  | [], ys => ys
  | x :: xs, ys => mgIn (mg xs) x ys
theorem mgIn_mem {k : List (List Int) → List (List Int)} {xs : List (List Int)} {x : List Int} (hk : ∀ ys z, z ∈ k ys ↔ z ∈ xs ∨ z ∈ ys) : ∀ (ys : List (List Int)) (z : List Int), z ∈ mgIn k x ys ↔ z ∈ x :: xs ∨ z ∈ ys
  | [], z => by rw [mgIn, List.mem_cons, hk, List.mem_cons]; simp
  | y :: ys, z => by
    rw [mgIn]
    split
    · rw [List.mem_cons, hk, List.mem_cons (a := z) (b := x), or_assoc]
    · split
      · rename_i h; subst h
        rw [List.mem_cons, hk, List.mem_cons, List.mem_cons]
        exact ⟨fun h => by rcases h with h | h | h; exact .inl (.inl h); exact .inl (.inr h); exact .inr (.inr h), fun h => by rcases h with (h | h) | (h | h); exact .inl h; exact .inr (.inl h); exact .inl h; exact .inr (.inr h)⟩
      · rw [List.mem_cons, mgIn_mem hk ys, List.mem_cons (a := z) (b := y)]
        exact ⟨fun h => by rcases h with h | h | h; exact .inr (.inl h); exact .inl h; exact .inr (.inr h), fun h => by rcases h with h | (h | h); exact .inr (.inl h); exact .inl h; exact .inr (.inr h)⟩
theorem mg_mem : ∀ (xs ys : List (List Int)) (z : List Int), z ∈ mg xs ys ↔ z ∈ xs ∨ z ∈ ys
  | [], ys, z => by simp [mg]
  | x :: xs, ys, z => by rw [mg]; exact mgIn_mem (mg_mem xs) ys z
/-- Neighbours that are equal are put together. -/
def cmpc : List (List Int) → List (List Int)
  | [] => []
  | [x] => [x]
  | x :: y :: r => if x = y then cmpc (y :: r) else x :: cmpc (y :: r)
theorem cmpc_mem : ∀ (l : List (List Int)) (z : List Int), z ∈ cmpc l ↔ z ∈ l
  | [], z => by simp [cmpc]
  | [x], z => by simp [cmpc]
  | x :: y :: r, z => by
    rw [cmpc]
    split
    · rename_i h; subst h
      rw [cmpc_mem (x :: r)]; simp
    · rw [List.mem_cons, cmpc_mem (y :: r), List.mem_cons (a := z) (b := x)]
theorem cmpc_asc : ∀ {l : List (List Int)}, l.Pairwise (fun a b => ¬ cmpL b a < 0) → AscL (cmpc l)
  | [], _ => by simp [cmpc, AscL]
  | [x], _ => by simp [cmpc, AscL]
  | x :: y :: r, h => by
    rw [List.pairwise_cons] at h
    rw [cmpc]
    split
    · exact cmpc_asc h.2
    · rename_i hne
      refine List.pairwise_cons.2 ⟨fun z hz => ?_, cmpc_asc h.2⟩
      have hz := (cmpc_mem _ _).1 hz
      have hxy : cmpL x y < 0 := by
        rcases cmpL_total x y with h1 | h1 | h1
        · exact h1
        · exact absurd h1 hne
        · exact absurd h1 (h.1 y (by simp))
      rcases List.mem_cons.1 hz with rfl | hz
      · exact hxy
      · rcases cmpL_total y z with h1 | rfl | h1
        · exact cmpL_trans _ _ _ hxy h1
        · exact hxy
        · exact absurd h1 ((List.pairwise_cons.1 h.2).1 z hz)
/-- A pair of states, and the word that leads to it. -/
abbrev It := (Nat × Nat) × List (List Int)
/-- The rounds of two states. -/
def ltr (ss : List (List (List Int))) (s t : Nat) : List (List Int) := mg ((ss.getD s []).map rdOf) ((ss.getD t []).map rdOf)
def dP (ss : List (List (List Int))) (r : List Int) (x : Nat × Nat) : Nat × Nat := ((toI r (ss.getD x.1 [])).toNat, (toI r (ss.getD x.2 [])).toNat)
theorem toI_self {r : List Int} : ∀ {ms : List (List Int)}, (∀ m ∈ ms, 0 ≤ m.getD 7 0) → r ∈ ms.map rdOf → 0 ≤ toI r ms
  | [], _, h => by cases h
  | m :: ms, h, hr => by
    unfold toI
    split
    · exact h m (by simp)
    · rename_i hne
      rw [List.map_cons] at hr
      rcases List.mem_cons.1 hr with hr | hr
      · exact absurd hr.symm hne
      · exact toI_self (fun x hx => h x (by simp [hx])) hr
theorem lead_mem {ss : List (List (List Int))} (hL : LeadOK ss) (u : Nat) : ∀ m ∈ ss.getD u [], 0 ≤ m.getD 7 0 := fun m hm => by
  by_cases hu : u < ss.length
  · rw [getD_eq hu] at hm; exact (hL _ (List.getElem_mem hu) m hm).1
  · rw [List.getD_eq_getElem?_getD, List.getElem?_eq_none (by omega)] at hm; cases hm
/-- The search ends. -/
theorem pairs_le {N : Nat} {l : List (Nat × Nat)} (hn : l.Nodup) (h : ∀ p ∈ l, p.1 < N ∧ p.2 < N) : l.length ≤ N * N := by
  have hi : ∀ p ∈ l, ∀ q ∈ l, p.1 * N + p.2 = q.1 * N + q.2 → p = q := fun p hp q hq e => by
    obtain ⟨p1, p2⟩ := h p hp
    obtain ⟨q1, q2⟩ := h q hq
    have a1 : (p.1 * N + p.2) / N = p.1 := by rw [Nat.mul_comm, Nat.mul_add_div (by omega), Nat.div_eq_of_lt p2, Nat.add_zero]
    have a2 : (q.1 * N + q.2) / N = q.1 := by rw [Nat.mul_comm, Nat.mul_add_div (by omega), Nat.div_eq_of_lt q2, Nat.add_zero]
    have e1 : p.1 = q.1 := by rw [← a1, ← a2, e]
    have e2 : p.2 = q.2 := by rw [e1] at e; omega
    exact Prod.ext e1 e2
  have hm : (l.map fun p => p.1 * N + p.2).Nodup := by
    clear h
    induction l with
    | nil => exact List.nodup_nil
    | cons a r ih =>
      rw [List.nodup_cons] at hn
      rw [List.map_cons, List.nodup_cons]
      refine ⟨fun hm => ?_, ih hn.2 fun p hp q hq => hi p (by simp [hp]) q (by simp [hq])⟩
      obtain ⟨b, hb, e⟩ := List.mem_map.1 hm
      have := hi b (by simp [hb]) a (by simp) e
      exact hn.1 (this ▸ hb)
  have := nodup_lt_le (n := N * N) hm fun x hx => by
    obtain ⟨p, hp, rfl⟩ := List.mem_map.1 hx
    obtain ⟨p1, p2⟩ := h p hp
    have : (p.1 + 1) * N ≤ N * N := Nat.mul_le_mul_right _ p1
    rw [Nat.add_mul, Nat.one_mul] at this
    omega
  rwa [List.length_map] at this
def QOK (ss : List (List (List Int))) (Q : List It) : Prop := (Q.map Prod.fst).Nodup ∧ ∀ t ∈ Q, t.1.1 < ss.length ∧ t.1.2 < ss.length
end Go.Proofs.YtiiiegflobihjaaGreat

/- Rounds in ascending order, each once: plain lists. -/
namespace Go.Proofs.YtiiiegflobihjaaGreat

/-- Where a round is put into an ascending list. -/
def insK (r : List Int) (l : List (List Int)) : Nat → Nat
  | 0 => 0
  | k + 1 => if cmpL r (l.getD k []) < 0 then insK r l k else k + 1
def insR (r : List Int) (l : List (List Int)) : List (List Int) := if r ∈ l then l else l.take (insK r l l.length) ++ [r] ++ l.drop (insK r l l.length)
def lets (rs : List (List Int)) : List (List Int) := rs.foldl (fun l r => insR r l) []
theorem insK_le (r : List Int) (l : List (List Int)) : ∀ k, insK r l k ≤ k
  | 0 => Nat.le_refl _
  | k + 1 => by rw [insK]; split; exact Nat.le_succ_of_le (insK_le r l k); exact Nat.le_refl _
theorem insK_lt {r : List Int} {l : List (List Int)} : ∀ {k j}, insK r l k ≤ j → j < k → cmpL r (l.getD j []) < 0
  | 0, _, _, h => absurd h (by omega)
  | k + 1, j, h, hj => by
    rw [insK] at h
    split at h
    · rename_i hc
      rcases Nat.lt_or_ge j k with h1 | h1
      · exact insK_lt h h1
      · obtain rfl : j = k := by omega
        exact hc
    · omega
theorem insK_ge {r : List Int} {l : List (List Int)} : ∀ {k}, 0 < insK r l k → ¬ cmpL r (l.getD (insK r l k - 1) []) < 0
  | 0, h => absurd h (by simp [insK])
  | k + 1, h => by
    rw [insK] at h ⊢
    split
    · rename_i hc
      rw [if_pos hc] at h
      exact insK_ge h
    · rename_i hc
      simpa using hc
theorem insR_mem (r : List Int) (l : List (List Int)) (x : List Int) : x ∈ insR r l ↔ x = r ∨ x ∈ l := by
  rw [insR]
  split
  · rename_i h
    exact ⟨.inr, fun hh => by rcases hh with rfl | hh; exact h; exact hh⟩
  · rw [List.mem_append, List.mem_append, List.mem_singleton]
    conv => rhs; rw [← List.take_append_drop (insK r l l.length) l, List.mem_append]
    constructor
    · rintro ((h | h) | h); exact .inr (.inl h); exact .inl h; exact .inr (.inr h)
    · rintro (h | h | h); exact .inl (.inr h); exact .inl (.inl h); exact .inr h
theorem asc_lt {l : List (List Int)} (h : AscL l) {i j : Nat} (hij : i < j) (hj : j < l.length) : cmpL (l.getD i []) (l.getD j []) < 0 := by
  have := (List.pairwise_iff_getElem.1 h) i j (by omega) hj hij
  simpa [hj, show i < l.length by omega] using this
theorem insR_asc {r : List Int} {l : List (List Int)} (h : AscL l) : AscL (insR r l) := by
  rw [insR]
  split
  · exact h
  · rename_i hn
    have hk := insK_le r l l.length
    obtain ⟨k, hkk⟩ : ∃ k, insK r l l.length = k := ⟨_, rfl⟩
    rw [hkk] at hk ⊢
    have hlo : ∀ x ∈ l.take k, cmpL x r < 0 := fun x hx => by
      obtain ⟨j, hj, rfl⟩ := List.mem_iff_getElem.1 hx
      rw [List.length_take] at hj
      rw [List.getElem_take]
      have h1 := insK_ge (r := r) (l := l) (k := l.length) (by omega)
      rw [hkk] at h1
      have hne : r ≠ l.getD (k - 1) [] := fun e => hn (by rw [e, getD_eq (by omega)]; exact List.getElem_mem _)
      have h2 : cmpL (l.getD (k - 1) []) r < 0 := by
        rcases cmpL_total r (l.getD (k - 1) []) with h3 | h3 | h3
        · exact absurd h3 h1
        · exact absurd h3 hne
        · exact h3
      rcases Nat.lt_or_ge j (k - 1) with h4 | h4
      · have := asc_lt h h4 (by omega)
        rw [getD_eq (by omega : j < l.length)] at this
        exact cmpL_trans _ _ _ this h2
      · obtain rfl : j = k - 1 := by omega
        rwa [getD_eq (by omega : k - 1 < l.length)] at h2
    have hhi : ∀ x ∈ l.drop k, cmpL r x < 0 := fun x hx => by
      obtain ⟨j, hj, rfl⟩ := List.mem_iff_getElem.1 hx
      rw [List.length_drop] at hj
      rw [List.getElem_drop]
      have := insK_lt (r := r) (l := l) (k := l.length) (j := k + j) (by omega) (by omega)
      rwa [getD_eq (by omega : k + j < l.length)] at this
    have h0 : AscL (l.take k ++ l.drop k) := by rw [List.take_append_drop]; exact h
    obtain ⟨h1, h2, h3⟩ := List.pairwise_append.1 h0
    rw [AscL, List.append_assoc]
    refine List.pairwise_append.2 ⟨h1, List.pairwise_cons.2 ⟨hhi, h2⟩, fun a ha b hb => ?_⟩
    rcases List.mem_cons.1 hb with rfl | hb
    · exact hlo a ha
    · exact h3 a ha b hb
theorem foldl_ins : ∀ (rs l : List (List Int)), AscL l → AscL (rs.foldl (fun l r => insR r l) l) ∧ ∀ x, x ∈ rs.foldl (fun l r => insR r l) l ↔ x ∈ l ∨ x ∈ rs
  | [], l, h => ⟨h, fun x => by simp⟩
  | r :: rs, l, h => by
    obtain ⟨h1, h2⟩ := foldl_ins rs (insR r l) (insR_asc h)
    refine ⟨h1, fun x => ?_⟩
    rw [List.foldl_cons, h2, insR_mem, List.mem_cons]
    constructor
    · rintro ((h | h) | h); exact .inr (.inl h); exact .inl h; exact .inr (.inr h)
    · rintro (h | h | h); exact .inl (.inr h); exact .inl (.inl h); exact .inr h
theorem lets_asc (rs : List (List Int)) : AscL (lets rs) := (foldl_ins rs [] List.Pairwise.nil).1
theorem lets_mem (rs : List (List Int)) (x : List Int) : x ∈ lets rs ↔ x ∈ rs := by
  have := (foldl_ins rs [] List.Pairwise.nil).2 x
  unfold lets
  simpa using this
theorem asc_unique {l1 l2 : List (List Int)} (h1 : AscL l1) (h2 : AscL l2) (h : ∀ x, x ∈ l1 ↔ x ∈ l2) : l1 = l2 := sorted_unique (lt := fun a b => cmpL a b < 0) cmpL_asymm h1 h2 h
/-- What the program sorts is what the reference inserts. -/
theorem cmpc_lets {rs l : List (List Int)} (hp : l.Perm rs) (hs : l.Pairwise fun a b => ¬ cmpL b a < 0) : cmpc l = lets rs :=
  asc_unique (cmpc_asc hs) (lets_asc rs) fun x => by rw [cmpc_mem, lets_mem, hp.mem_iff]
theorem asc_nodup' {l : List (List Int)} (h : AscL l) : l.Nodup := List.Pairwise.imp (R := fun a b => cmpL a b < 0) (fun {a b} hab e => by subst e; exact cmpL_asymm _ _ hab hab) h
theorem lets_len (rs : List (List Int)) : (lets rs).length ≤ rs.length := by
  have h : ∀ (rs l : List (List Int)), (rs.foldl (fun l r => insR r l) l).length ≤ l.length + rs.length := by
    intro rs
    induction rs with
    | nil => intro l; simp
    | cons r rs ih =>
      intro l
      rw [List.foldl_cons]
      refine Nat.le_trans (ih _) ?_
      have : (insR r l).length ≤ l.length + 1 := by
        rw [insR]; split
        · omega
        · have := insK_le r l l.length
          simp only [List.length_append, List.length_take, List.length_drop, List.length_cons, List.length_nil]; omega
      simp only [List.length_cons]; omega
  have := h rs []
  unfold lets
  simpa using this
theorem lets_all {P : List Int → Prop} {rs : List (List Int)} (h : ∀ r ∈ rs, P r) : ∀ r ∈ lets rs, P r := fun r hr => h r ((lets_mem rs r).1 hr)
/-- The number of elements of an ascending list that lie ahead. -/
def ahead (l : List (List Int)) (r : List Int) : Nat := l.countP fun x => decide (cmpL x r < 0)
theorem toI_at {ms : List (List Int)} {r : List Int} (hn : (ms.map rdOf).Nodup) {i : Nat} (hi : i < ms.length) (h : rdOf ms[i] = r) : toI r ms = ms[i].getD 7 0 := by
  induction ms generalizing i with
  | nil => simp at hi
  | cons m ms ih =>
    rw [List.map_cons, List.nodup_cons] at hn
    unfold toI
    cases i with
    | zero => exact if_pos h
    | succ i =>
      rw [if_neg]
      · exact ih hn.2 (by simpa using hi) h
      · intro e
        refine hn.1 (List.mem_map.2 ⟨ms[i]'(by simpa using hi), List.getElem_mem _, ?_⟩)
        rw [e]; exact h
theorem toI_none {ms : List (List Int)} {r : List Int} (h : r ∉ ms.map rdOf) : toI r ms = -1 := by
  induction ms with
  | nil => rfl
  | cons m ms ih =>
    rw [List.map_cons, List.mem_cons, not_or] at h
    unfold toI
    rw [if_neg (fun e => h.1 e.symm)]
    exact ih h.2
end Go.Proofs.YtiiiegflobihjaaGreat

/- The nodes of combined adversaries; which states can be continued: plain lists. -/
namespace Go.Proofs.YtiiiegflobihjaaGreat

/-- A node: two numbers, and a set of states. -/
abbrev Nd := Int × Int × List Nat
def ndM (ss : List (List (List Int))) (s : Int) : List (List Int) := if s < 0 then [] else ss.getD s.toNat []
def ndT (ss : List (List (List Int))) (s : Int) (r : List Int) : Int := if s < 0 then -1 else toI r (ss.getD s.toNat [])
def kpB (bt : Bool) (s t : Int) : Bool := !bt || (decide (0 ≤ s) && decide (0 ≤ t))
def prF (bt : Bool) (az bs : List (List (List Int))) (x : Nd) (r : List Int) : Option (List Int × Nd) :=
  if kpB bt (ndT az x.1 r) (ndT bs x.2.1 r) then some (r, (ndT az x.1 r, ndT bs x.2.1 r, [])) else none
def prRs (az bs : List (List (List Int))) (x : Nd) : List (List Int) := lets ((ndM az x.1 ++ ndM bs x.2.1).map rdOf)
/-- The arrows of a pair of states. -/
def prSt (bt : Bool) (az bs : List (List (List Int))) (x : Nd) : List (List Int × Nd) := (prRs az bs x).filterMap (prF bt az bs x)
def nd0 : Nd := (0, 0, [])
def prA (bt : Bool) (az bs : List (List (List Int))) : Option (List (List (List Int))) := (exG (prSt bt az bs) 300 0 [nd0] []).getD none
theorem prA_eq (bt : Bool) (az bs : List (List (List Int))) : exG (prSt bt az bs) 300 0 [nd0] [] = some (prA bt az bs) := by
  obtain ⟨R, hR⟩ := exG_some (prSt bt az bs) 300 0 [nd0] [] (by simp) (by omega) (by omega)
  rw [prA, hR]; rfl

/-- One state of a pass. -/
def lvB (ss : List (List (List Int))) (live : List Bool) (s : Nat) : Bool := (ss.getD s []).any fun m => live.getD (mvTo m) false
def psAt (ss : List (List (List Int))) (live : List Bool) (s : Nat) : List Bool := live.set s (live.getD s false && lvB ss live s)
/-- k more states of a pass, from state s on. -/
def psK (ss : List (List (List Int))) : Nat → Nat → List Bool → List Bool
  | 0, _, live => live
  | k + 1, s, live => psK ss k (s + 1) (psAt ss live s)
def psA (ss : List (List (List Int))) (live : List Bool) : List Bool := psK ss ss.length 0 live
def itA (ss : List (List (List Int))) : Nat → List Bool → Option (List Bool)
  | 0, _ => none
  | f + 1, live => if psA ss live = live then some live else itA ss f (psA ss live)
def psN (ss : List (List (List Int))) : Nat → List Bool → List Bool
  | 0, live => live
  | k + 1, live => psN ss k (psA ss live)
def trues (l : List Bool) : Nat := l.countP id
variable {ss : List (List (List Int))}
theorem psAt_len (live : List Bool) (s : Nat) : (psAt ss live s).length = live.length := by simp [psAt]
/-- A pass takes trues away alone. -/
def Dn (l l' : List Bool) : Prop := l'.length = l.length ∧ ∀ i, l'.getD i false = true → l.getD i false = true
theorem Dn.refl (l : List Bool) : Dn l l := ⟨rfl, fun _ h => h⟩
theorem Dn.trans {a b c : List Bool} (h : Dn a b) (k : Dn b c) : Dn a c := ⟨k.1.trans h.1, fun i hi => h.2 i (k.2 i hi)⟩
theorem Dn.trues : ∀ {l l' : List Bool}, Dn l l' → trues l' ≤ trues l ∧ (trues l' = trues l → l' = l)
  | [], l', h => by
    have := h.1
    simp at this
    subst this
    exact ⟨Nat.le_refl _, fun _ => rfl⟩
  | a :: l, [], h => by have := h.1; simp at this
  | a :: l, b :: l', h => by
    have hd : Dn l l' := ⟨by simpa using h.1, fun i hi => by simpa using h.2 (i + 1) (by simpa using hi)⟩
    obtain ⟨h1, h2⟩ := Dn.trues hd
    have h0 : b = true → a = true := by simpa using h.2 0
    cases a <;> cases b
    · simp only [_root_.Go.Proofs.YtiiiegflobihjaaGreat.trues, List.countP_cons, id] at h1 h2 ⊢
      exact ⟨by simpa using h1, fun e => by rw [h2 (by simpa using e)]⟩
    · exact absurd (h0 rfl) (by decide)
    · simp only [_root_.Go.Proofs.YtiiiegflobihjaaGreat.trues, List.countP_cons, id] at h1 h2 ⊢
      exact ⟨by simp; omega, fun e => by simp at e; omega⟩
    · simp only [_root_.Go.Proofs.YtiiiegflobihjaaGreat.trues, List.countP_cons, id] at h1 h2 ⊢
      exact ⟨by simpa using h1, fun e => by rw [h2 (by simpa using e)]⟩
theorem psAt_dn (live : List Bool) (s : Nat) : Dn live (psAt ss live s) := ⟨psAt_len _ _, fun i hi => by
  rw [psAt, List.getD_eq_getElem?_getD, List.getElem?_set] at hi
  split at hi
  · rename_i h
    subst h
    split at hi
    · simp at hi; simpa using hi.1
    · simp at hi
  · rwa [← List.getD_eq_getElem?_getD] at hi⟩
theorem psK_dn : ∀ (k s : Nat) (live : List Bool), Dn live (psK ss k s live)
  | 0, _, live => Dn.refl live
  | k + 1, s, live => (psAt_dn live s).trans (psK_dn k _ _)
theorem psA_dn (live : List Bool) : Dn live (psA ss live) := psK_dn _ _ _
theorem trues_le (l : List Bool) : trues l ≤ l.length := List.countP_le_length
/-- The reference's passes come to what the program finds. -/
theorem psN_stay {live : List Bool} (h : psA ss live = live) : ∀ k, psN ss k live = live
  | 0 => rfl
  | k + 1 => by rw [psN, h]; exact psN_stay h k
theorem it_eq : ∀ (f : Nat) (live : List Bool), trues live < f → ∃ R, itA ss f live = some R ∧ psA ss R = R ∧ R.length = live.length ∧ ∀ k, trues live ≤ k → psN ss k live = R
  | 0, _, h => absurd h (by omega)
  | f + 1, live, h => by
    rw [itA]
    by_cases he : psA ss live = live
    · rw [if_pos he]
      exact ⟨live, rfl, he, rfl, fun k _ => psN_stay he k⟩
    · rw [if_neg he]
      obtain ⟨h1, h2⟩ := (psA_dn (ss := ss) live).trues
      have h3 : trues (psA ss live) < trues live := by
        rcases Nat.lt_or_ge (trues (psA ss live)) (trues live) with h4 | h4
        · exact h4
        · exact absurd (h2 (by omega)) he
      obtain ⟨R, hR, hs, hl, hk⟩ := it_eq f (psA ss live) (by omega)
      refine ⟨R, hR, hs, by rw [hl, (psA_dn live).1], fun k hkk => ?_⟩
      cases k with
      | zero => omega
      | succ k => rw [psN]; exact hk k (by omega)
/-- The states that can be continued without end. -/
def lvA (ss : List (List (List Int))) : List Bool := psN ss ss.length (List.replicate ss.length true)
theorem lvA_it (ss : List (List (List Int))) : itA ss (ss.length + 1) (List.replicate ss.length true) = some (lvA ss) := by
  have ht := trues_le (List.replicate ss.length true)
  rw [List.length_replicate] at ht
  obtain ⟨R, hR, _, _, hk⟩ := it_eq (ss := ss) (ss.length + 1) (List.replicate ss.length true) (by omega)
  rw [hR, lvA, hk _ (by omega)]
theorem lvA_len (ss : List (List (List Int))) : (lvA ss).length = ss.length := by
  have ht := trues_le (List.replicate ss.length true)
  rw [List.length_replicate] at ht
  obtain ⟨R, _, _, hl, hk⟩ := it_eq (ss := ss) (ss.length + 1) (List.replicate ss.length true) (by omega)
  rw [lvA, hk _ (by omega), hl, List.length_replicate]
theorem lvA_stay (ss : List (List (List Int))) : psA ss (lvA ss) = lvA ss := by
  have ht := trues_le (List.replicate ss.length true)
  rw [List.length_replicate] at ht
  obtain ⟨R, _, hs, _, hk⟩ := it_eq (ss := ss) (ss.length + 1) (List.replicate ss.length true) (by omega)
  rw [lvA, hk _ (by omega), hs]
/-- The arrows of a state in what is left. -/
def lvF (live : List Bool) (m : List Int) : Option (List Int × Nd) := if live.getD (mvTo m) false then some (rdOf m, ((mvTo m : Int), 0, [])) else none
def lvSt (ss : List (List (List Int))) (live : List Bool) (x : Nd) : List (List Int × Nd) := (ss.getD x.1.toNat []).filterMap (lvF live)
end Go.Proofs.YtiiiegflobihjaaGreat

/- Texts of this claim, put together: H0 RQ G2 AP. -/
import Derived.Test.YtfihpofdoffclaaGreatDoorKo
import Derived.Test.YtfihpofdoffclaaGreatDoorKd
import Derived.Test.YtfihpofdoffclaaGreatDoorKl
import Derived.Test.YtfihpofdoffclaaGreatDoorKm
import Derived.Test.YtfihpofdoffclaaGreatDoorKj
import Derived.Deep.RegionHeld3
import Derived.Deep.DeepCutAuto
import Derived.Deep.AppendLies
import Derived.Maps.AppendAt

/- The first word that tells two states apart: plain lists. -/
namespace Go.Proofs.YtfihpofdoffclaaGreatDoor

theorem cmpL_cons (a b : Int) (xs ys : List Int) : cmpL (a :: xs) (b :: ys) < 0 ↔ a < b ∨ (a = b ∧ cmpL xs ys < 0) := by
  simp only [cmpL, cmpI]
  by_cases h1 : a < b
  · simp [h1]
  · by_cases h2 : b < a
    · simp [h1, h2, show a ≠ b by omega]
    · obtain rfl : a = b := by omega
      simp
theorem cmpL_nil_cons (b : Int) (ys : List Int) : cmpL [] (b :: ys) < 0 := by simp [cmpL]
theorem cmpL_any_nil : ∀ xs : List Int, ¬ cmpL xs [] < 0
  | [] => by simp [cmpL]
  | _ :: _ => by simp [cmpL]
theorem cmpL_asymm : ∀ a b : List Int, cmpL a b < 0 → ¬ cmpL b a < 0
  | xs, [], h => absurd h (cmpL_any_nil xs)
  | [], _ :: _, _ => cmpL_any_nil _
  | a :: xs, b :: ys, h => by
    rw [cmpL_cons] at h ⊢
    rintro (h2 | ⟨h2, h3⟩)
    · rcases h with h | ⟨h, _⟩ <;> omega
    · rcases h with h | ⟨_, h⟩
      · omega
      · exact cmpL_asymm xs ys h h3
theorem cmpL_trans : ∀ a b c : List Int, cmpL a b < 0 → cmpL b c < 0 → cmpL a c < 0
  | xs, [], _, h, _ => absurd h (cmpL_any_nil xs)
  | _, ys, [], _, h => absurd h (cmpL_any_nil ys)
  | [], _ :: _, c :: zs, _, _ => cmpL_nil_cons c zs
  | a :: xs, b :: ys, c :: zs, h, k => by
    rw [cmpL_cons] at h k ⊢
    rcases h with h | ⟨rfl, h⟩ <;> rcases k with k | ⟨rfl, k⟩
    · left; omega
    · exact .inl h
    · exact .inl k
    · exact .inr ⟨rfl, cmpL_trans xs ys zs h k⟩
theorem cmpL_total : ∀ a b : List Int, cmpL a b < 0 ∨ a = b ∨ cmpL b a < 0
  | [], [] => .inr (.inl rfl)
  | [], b :: ys => .inl (cmpL_nil_cons b ys)
  | a :: xs, [] => .inr (.inr (cmpL_nil_cons a xs))
  | a :: xs, b :: ys => by
    rw [cmpL_cons, cmpL_cons]
    rcases Int.lt_trichotomy a b with h | rfl | h
    · exact .inl (.inl h)
    · rcases cmpL_total xs ys with h | rfl | h
      · exact .inl (.inr ⟨rfl, h⟩)
      · exact .inr (.inl rfl)
      · exact .inr (.inr (.inr ⟨rfl, h⟩))
    · exact .inr (.inr (.inl h))
theorem cmpL_ntrans (a b c : List Int) (h : ¬ cmpL a b < 0) (k : ¬ cmpL b c < 0) : ¬ cmpL a c < 0 := by
  intro hc
  rcases cmpL_total a b with h1 | rfl | h1
  · exact h h1
  · exact k hc
  · exact k (cmpL_trans b a c h1 hc)
theorem sorted_unique {α : Type} {lt : α → α → Prop} (has : ∀ a b, lt a b → ¬ lt b a) : ∀ {l1 l2 : List α}, l1.Pairwise lt → l2.Pairwise lt → (∀ x, x ∈ l1 ↔ x ∈ l2) → l1 = l2
  | [], [], _, _, _ => rfl
  | [], b :: t2, _, _, h => absurd ((h b).2 (List.mem_cons_self ..)) (by simp)
  | a :: t1, [], _, _, h => absurd ((h a).1 (List.mem_cons_self ..)) (by simp)
  | a :: t1, b :: t2, h1, h2, h => by
    rw [List.pairwise_cons] at h1 h2
    have hab : a = b := by
      rcases List.mem_cons.1 ((h a).1 (List.mem_cons_self ..)) with h3 | h3
      · exact h3
      · rcases List.mem_cons.1 ((h b).2 (List.mem_cons_self ..)) with h4 | h4
        · exact h4.symm
        · exact absurd (h2.1 a h3) (has _ _ (h1.1 b h4))
    subst hab
    rw [sorted_unique has h1.2 h2.2 fun x => ⟨fun hx => ?_, fun hx => ?_⟩]
    · rcases List.mem_cons.1 ((h x).1 (List.mem_cons_of_mem _ hx)) with h3 | h3
      · subst h3; exact absurd (h1.1 x hx) (fun h => has _ _ h h)
      · exact h3
    · rcases List.mem_cons.1 ((h x).2 (List.mem_cons_of_mem _ hx)) with h3 | h3
      · subst h3; exact absurd (h2.1 x hx) (fun h => has _ _ h h)
      · exact h3

/-- Strictly ascending. -/
def AscL (l : List (List Int)) : Prop := l.Pairwise fun a b => cmpL a b < 0
/-- The merge of two ascending lists; what is in both is taken once. -/
def mgIn (k : List (List Int) → List (List Int)) (x : List Int) : List (List Int) → List (List Int)
  | [] => x :: k []
  | y :: ys => if cmpL x y < 0 then x :: k (y :: ys) else if x = y then y :: k ys else y :: mgIn k x ys
def mg : List (List Int) → List (List Int) → List (List Int)
  | [], ys => ys
  | x :: xs, ys => mgIn (mg xs) x ys
theorem mgIn_mem {k : List (List Int) → List (List Int)} {xs : List (List Int)} {x : List Int} (hk : ∀ ys z, z ∈ k ys ↔ z ∈ xs ∨ z ∈ ys) : ∀ (ys : List (List Int)) (z : List Int), z ∈ mgIn k x ys ↔ z ∈ x :: xs ∨ z ∈ ys
  | [], z => by rw [mgIn, List.mem_cons, hk, List.mem_cons]; simp
  | y :: ys, z => by
    rw [mgIn]
    split
    · rw [List.mem_cons, hk, List.mem_cons (a := z) (b := x), or_assoc]
    · split
      · rename_i h; subst h
        rw [List.mem_cons, hk, List.mem_cons, List.mem_cons]
        exact ⟨fun h => by rcases h with h | h | h; exact .inl (.inl h); exact .inl (.inr h); exact .inr (.inr h), fun h => by rcases h with (h | h) | (h | h); exact .inl h; exact .inr (.inl h); exact .inl h; exact .inr (.inr h)⟩
      · rw [List.mem_cons, mgIn_mem hk ys, List.mem_cons (a := z) (b := y)]
        exact ⟨fun h => by rcases h with h | h | h; exact .inr (.inl h); exact .inl h; exact .inr (.inr h), fun h => by rcases h with h | (h | h); exact .inr (.inl h); exact .inl h; exact .inr (.inr h)⟩
theorem mg_mem : ∀ (xs ys : List (List Int)) (z : List Int), z ∈ mg xs ys ↔ z ∈ xs ∨ z ∈ ys
  | [], ys, z => by simp [mg]
  | x :: xs, ys, z => by rw [mg]; exact mgIn_mem (mg_mem xs) ys z
theorem mgIn_asc {xs : List (List Int)} {x : List Int} (hx : AscL (x :: xs)) (hk : ∀ ys, AscL ys → AscL (mg xs ys)) : ∀ ys, AscL ys → AscL (mgIn (mg xs) x ys)
  | [], _ => by
    rw [mgIn]
    refine List.pairwise_cons.2 ⟨fun z hz => ?_, hk _ List.Pairwise.nil⟩
    rcases (mg_mem _ _ _).1 hz with h | h
    · exact (List.pairwise_cons.1 hx).1 z h
    · cases h
  | y :: ys, hy => by
    rw [mgIn]
    split
    · rename_i hlt
      refine List.pairwise_cons.2 ⟨fun z hz => ?_, hk _ hy⟩
      rcases (mg_mem _ _ _).1 hz with h | h
      · exact (List.pairwise_cons.1 hx).1 z h
      · rcases List.mem_cons.1 h with rfl | h
        · exact hlt
        · exact cmpL_trans _ _ _ hlt ((List.pairwise_cons.1 hy).1 z h)
    · split
      · rename_i h; subst h
        refine List.pairwise_cons.2 ⟨fun z hz => ?_, hk _ (List.pairwise_cons.1 hy).2⟩
        rcases (mg_mem _ _ _).1 hz with h | h
        · exact (List.pairwise_cons.1 hx).1 z h
        · exact (List.pairwise_cons.1 hy).1 z h
      · rename_i h1 h2
        have hyx : cmpL y x < 0 := by rcases cmpL_total x y with h | h | h; exact absurd h h1; exact absurd h h2; exact h
        refine List.pairwise_cons.2 ⟨fun z hz => ?_, mgIn_asc hx hk ys (List.pairwise_cons.1 hy).2⟩
        rcases (mgIn_mem (mg_mem xs) ys z).1 hz with h | h
        · rcases List.mem_cons.1 h with rfl | h
          · exact hyx
          · exact cmpL_trans _ _ _ hyx ((List.pairwise_cons.1 hx).1 z h)
        · exact (List.pairwise_cons.1 hy).1 z h
theorem mg_asc : ∀ {xs ys : List (List Int)}, AscL xs → AscL ys → AscL (mg xs ys)
  | [], _, _, h => h
  | x :: xs, ys, hx, hy => by
    rw [mg]; exact mgIn_asc hx (fun ys hy => mg_asc (List.pairwise_cons.1 hx).2 hy) ys hy
/-- Neighbours that are equal are put together. -/
def cmpc : List (List Int) → List (List Int)
  | [] => []
  | [x] => [x]
  | x :: y :: r => if x = y then cmpc (y :: r) else x :: cmpc (y :: r)
theorem cmpc_mem : ∀ (l : List (List Int)) (z : List Int), z ∈ cmpc l ↔ z ∈ l
  | [], z => by simp [cmpc]
  | [x], z => by simp [cmpc]
  | x :: y :: r, z => by
    rw [cmpc]
    split
    · rename_i h; subst h
      rw [cmpc_mem (x :: r)]; simp
    · rw [List.mem_cons, cmpc_mem (y :: r), List.mem_cons (a := z) (b := x)]
theorem cmpc_asc : ∀ {l : List (List Int)}, l.Pairwise (fun a b => ¬ cmpL b a < 0) → AscL (cmpc l)
  | [], _ => by simp [cmpc, AscL]
  | [x], _ => by simp [cmpc, AscL]
  | x :: y :: r, h => by
    rw [List.pairwise_cons] at h
    rw [cmpc]
    split
    · exact cmpc_asc h.2
    · rename_i hne
      refine List.pairwise_cons.2 ⟨fun z hz => ?_, cmpc_asc h.2⟩
      have hz := (cmpc_mem _ _).1 hz
      have hxy : cmpL x y < 0 := by
        rcases cmpL_total x y with h1 | h1 | h1
        · exact h1
        · exact absurd h1 hne
        · exact absurd h1 (h.1 y (by simp))
      rcases List.mem_cons.1 hz with rfl | hz
      · exact hxy
      · rcases cmpL_total y z with h1 | rfl | h1
        · exact cmpL_trans _ _ _ hxy h1
        · exact hxy
        · exact absurd h1 ((List.pairwise_cons.1 h.2).1 z hz)
/-- What the program sorts is what the reference merges. -/
theorem cmpc_mg {xs ys l : List (List Int)} (hx : AscL xs) (hy : AscL ys) (hp : l.Perm (xs ++ ys)) (hs : l.Pairwise fun a b => ¬ cmpL b a < 0) : cmpc l = mg xs ys :=
  sorted_unique (lt := fun a b => cmpL a b < 0) cmpL_asymm (cmpc_asc hs) (mg_asc hx hy) fun x => by rw [cmpc_mem, mg_mem, hp.mem_iff, List.mem_append]

/-- A pair of states, and the word that leads to it. -/
abbrev It := (Nat × Nat) × List (List Int)
/-- The rounds of two states. -/
def ltr (ss : List (List (List Int))) (s t : Nat) : List (List Int) := mg ((ss.getD s []).map rdOf) ((ss.getD t []).map rdOf)
def dP (ss : List (List (List Int))) (r : List Int) (x : Nat × Nat) : Nat × Nat := ((toI r (ss.getD x.1 [])).toNat, (toI r (ss.getD x.2 [])).toNat)
/-- The pairs behind one pair; pairs of equal states are left out if dg is false. -/
def dIn (dg : Bool) (ss : List (List (List Int))) (k : List It → Option (Option (List (List Int)))) (x : It) : List (List Int) → List It → Option (Option (List (List Int)))
  | [], Q => k Q
  | r :: rs, Q => if toI r (ss.getD x.1.1 []) < 0 ∨ toI r (ss.getD x.1.2 []) < 0 then some (some (x.2 ++ [r]))
    else if dP ss r x.1 ∈ Q.map Prod.fst ∨ (dg = false ∧ (dP ss r x.1).1 = (dP ss r x.1).2) then dIn dg ss k x rs Q
    else dIn dg ss k x rs (Q ++ [(dP ss r x.1, x.2 ++ [r])])
def dGo (dg : Bool) (ss : List (List (List Int))) : Nat → Nat → List It → Option (Option (List (List Int)))
  | 0, _, _ => none
  | f + 1, n, Q => if n < Q.length then dIn dg ss (dGo dg ss f (n + 1)) (Q.getD n ((0, 0), [])) (ltr ss (Q.getD n ((0, 0), [])).1.1 (Q.getD n ((0, 0), [])).1.2) Q else some none

theorem toI_self {r : List Int} : ∀ {ms : List (List Int)}, (∀ m ∈ ms, 0 ≤ m.getD 7 0) → r ∈ ms.map rdOf → 0 ≤ toI r ms
  | [], _, h => by cases h
  | m :: ms, h, hr => by
    unfold toI
    split
    · exact h m (by simp)
    · rename_i hne
      rw [List.map_cons] at hr
      rcases List.mem_cons.1 hr with hr | hr
      · exact absurd hr.symm hne
      · exact toI_self (fun x hx => h x (by simp [hx])) hr
theorem lead_mem {ss : List (List (List Int))} (hL : LeadOK ss) (u : Nat) : ∀ m ∈ ss.getD u [], 0 ≤ m.getD 7 0 := fun m hm => by
  by_cases hu : u < ss.length
  · rw [getD_eq hu] at hm; exact (hL _ (List.getElem_mem hu) m hm).1
  · rw [List.getD_eq_getElem?_getD, List.getElem?_eq_none (by omega)] at hm; cases hm
/-- Diagonal pairs lead to such pairs alone. -/
theorem dIn_diag {ss : List (List (List Int))} (hL : LeadOK ss) {k : List It → Option (Option (List (List Int)))} {u : Nat} {wd : List (List Int)} : ∀ (rs : List (List Int)) (Q : List It) {R : Option (List (List Int))}, (∀ r ∈ rs, r ∈ (ss.getD u []).map rdOf) →
    dIn true ss k ((u, u), wd) rs Q = some R → ∃ T : List It, (∀ t ∈ T, t.1.1 = t.1.2) ∧ k (Q ++ T) = some R
  | [], Q, R, _, h => ⟨[], by simp, by simpa [dIn] using h⟩
  | r :: rs, Q, R, hr, h => by
    have h0 : 0 ≤ toI r (ss.getD u []) := toI_self (lead_mem hL u) (hr r (by simp))
    rw [dIn, if_neg (by simp only; omega)] at h
    split at h
    · exact dIn_diag hL rs Q (fun x hx => hr x (by simp [hx])) h
    · obtain ⟨T, h1, h2⟩ := dIn_diag hL rs _ (fun x hx => hr x (by simp [hx])) h
      refine ⟨(dP ss r (u, u), wd ++ [r]) :: T, fun t ht => ?_, by rw [List.append_assoc] at h2; exact h2⟩
      rcases List.mem_cons.1 ht with rfl | ht
      · rfl
      · exact h1 t ht
theorem dIn_diag2 {ss : List (List (List Int))} (hL : LeadOK ss) {k : List It → Option (Option (List (List Int)))} {u : Nat} {wd : List (List Int)} : ∀ (rs : List (List Int)) (Q : List It), (∀ r ∈ rs, r ∈ (ss.getD u []).map rdOf) → dIn false ss k ((u, u), wd) rs Q = k Q
  | [], Q, _ => by rw [dIn]
  | r :: rs, Q, hr => by
    have h0 : 0 ≤ toI r (ss.getD u []) := toI_self (lead_mem hL u) (hr r (by simp))
    rw [dIn, if_neg (by simp only; omega), if_pos (.inr ⟨rfl, rfl⟩)]
    exact dIn_diag2 hL rs Q (fun x hx => hr x (by simp [hx]))
def nd (t : It) : Bool := decide (t.1.1 ≠ t.1.2)
theorem nd_fst {Q : List It} {p : Nat × Nat} (h : p.1 ≠ p.2) : p ∈ (Q.filter nd).map Prod.fst ↔ p ∈ Q.map Prod.fst := by
  rw [List.mem_map, List.mem_map]
  constructor
  · rintro ⟨a, ha, rfl⟩; exact ⟨a, (List.mem_filter.1 ha).1, rfl⟩
  · rintro ⟨a, ha, rfl⟩; exact ⟨a, List.mem_filter.2 ⟨ha, by simpa [nd] using h⟩, rfl⟩
theorem dIn_two {ss : List (List (List Int))} {k k' : List It → Option (Option (List (List Int)))} {x : It} : ∀ (rs : List (List Int)) (Q : List It) {R R' : Option (List (List Int))}, dIn true ss k' x rs Q = some R' → dIn false ss k x rs (Q.filter nd) = some R →
    (∀ T : List It, k' (Q ++ T) = some R' → k ((Q ++ T).filter nd) = some R → R' = R) → R' = R
  | [], Q, R, R', h1, h2, hk => hk [] (by simpa [dIn] using h1) (by simpa [dIn] using h2)
  | r :: rs, Q, R, R', h1, h2, hk => by
    rw [dIn] at h1 h2
    by_cases h0 : toI r (ss.getD x.1.1 []) < 0 ∨ toI r (ss.getD x.1.2 []) < 0
    · rw [if_pos h0] at h1 h2
      injection h1 with h1; injection h2 with h2
      rw [← h1, ← h2]
    · rw [if_neg h0] at h1 h2
      by_cases hd : (dP ss r x.1).1 = (dP ss r x.1).2
      · rw [if_pos (.inr ⟨rfl, hd⟩)] at h2
        by_cases hm : dP ss r x.1 ∈ Q.map Prod.fst
        · rw [if_pos (.inl hm)] at h1
          exact dIn_two rs Q h1 h2 hk
        · rw [if_neg (by rintro (h | h); exact hm h; exact absurd h.1 (by decide))] at h1
          refine dIn_two (k := k) rs (Q ++ [(dP ss r x.1, x.2 ++ [r])]) h1 ?_ fun T => ?_
          · rw [List.filter_append, List.filter_cons_of_neg (by simp [nd, hd]), List.filter_nil, List.append_nil]; exact h2
          · rw [List.append_assoc]; exact hk _
      · by_cases hm : dP ss r x.1 ∈ Q.map Prod.fst
        · rw [if_pos (.inl hm)] at h1
          rw [if_pos (.inl ((nd_fst hd).2 hm))] at h2
          exact dIn_two rs Q h1 h2 hk
        · rw [if_neg (by rintro (h | h); exact hm h; exact absurd h.1 (by decide))] at h1
          rw [if_neg (by rintro (h | h); exact hm ((nd_fst hd).1 h); exact hd h.2)] at h2
          refine dIn_two (k := k) rs (Q ++ [(dP ss r x.1, x.2 ++ [r])]) h1 ?_ fun T => ?_
          · rw [List.filter_append, List.filter_cons_of_pos (by simp [nd, hd]), List.filter_nil]; exact h2
          · rw [List.append_assoc]; exact hk _
theorem filter_at {α : Type} {p : α → Bool} {d : α} : ∀ {l : List α} {n : Nat}, n < l.length → p (l.getD n d) = true → ((l.take n).filter p).length < (l.filter p).length ∧ (l.filter p).getD ((l.take n).filter p).length d = l.getD n d
  | [], n, h, _ => by simp at h
  | a :: l, 0, _, hp => by
    simp only [List.getD_cons_zero] at hp
    simp [hp]
  | a :: l, n + 1, h, hp => by
    simp only [List.getD_cons_succ] at hp
    simp only [List.length_cons] at h
    have ih := filter_at (p := p) (d := d) (l := l) (n := n) (by omega) hp
    rw [List.take_succ_cons, List.filter_cons, List.filter_cons]
    by_cases ha : p a = true
    · rw [if_pos ha, if_pos ha, List.length_cons, List.length_cons, List.getD_cons_succ, List.getD_cons_succ]
      exact ⟨by omega, ih.2⟩
    · rw [if_neg ha, if_neg ha, List.getD_cons_succ]; exact ih
theorem dGo_two {ss : List (List (List Int))} (hL : LeadOK ss) : ∀ (f' f n : Nat) (Q : List It) {R R' : Option (List (List Int))}, n ≤ Q.length → dGo true ss f' n Q = some R' → dGo false ss f ((Q.take n).filter nd).length (Q.filter nd) = some R → R' = R
  | 0, _, _, _, _, _, _, h, _ => by cases h
  | f' + 1, f, n, Q, R, R', hn, h1, h2 => by
    rw [dGo] at h1
    by_cases hlt : n < Q.length
    · rw [if_pos hlt] at h1
      obtain ⟨⟨⟨s, t⟩, wd⟩, hx⟩ : ∃ x, Q.getD n ((0, 0), []) = x := ⟨_, rfl⟩
      rw [hx] at h1
      by_cases hst : s = t
      · subst hst
        obtain ⟨T, hT, hk⟩ := dIn_diag hL _ _ (fun r hr => by
          rcases (mg_mem _ _ _).1 hr with h | h <;> exact h) h1
        have hfT : T.filter nd = [] := List.filter_eq_nil_iff.2 fun a ha => by simp [nd, hT a ha]
        refine dGo_two hL f' f (n + 1) (Q ++ T) (by simp; omega) hk ?_
        rw [List.filter_append, hfT, List.append_nil, List.take_append_of_le_length (by omega), take_snoc hlt ((0, 0), []), hx, List.filter_append, List.filter_cons_of_neg (by simp [nd]), List.filter_nil, List.append_nil]
        exact h2
      · cases f with
        | zero => cases h2
        | succ f =>
          obtain ⟨g1, g2⟩ := filter_at (p := nd) (d := ((0, 0), [])) hlt (by rw [hx]; simp [nd, hst])
          rw [hx] at g2
          rw [dGo, if_pos g1, g2] at h2
          refine dIn_two _ Q h1 h2 fun T k1 k2 => ?_
          refine dGo_two hL f' f (n + 1) (Q ++ T) (by simp; omega) k1 ?_
          rw [List.take_append_of_le_length (by omega), take_snoc hlt ((0, 0), []), hx, List.filter_append, List.length_append, List.filter_cons_of_pos (by simp [nd, hst]), List.filter_nil]
          exact k2
    · rw [if_neg hlt] at h1
      injection h1 with h1
      subst h1
      obtain rfl : n = Q.length := by omega
      rw [List.take_length] at h2
      cases f with
      | zero => cases h2
      | succ f =>
        rw [dGo, if_neg (by omega)] at h2
        injection h2
/-- The search ends. -/
theorem pairs_le {N : Nat} {l : List (Nat × Nat)} (hn : l.Nodup) (h : ∀ p ∈ l, p.1 < N ∧ p.2 < N) : l.length ≤ N * N := by
  have hi : ∀ p ∈ l, ∀ q ∈ l, p.1 * N + p.2 = q.1 * N + q.2 → p = q := fun p hp q hq e => by
    obtain ⟨p1, p2⟩ := h p hp
    obtain ⟨q1, q2⟩ := h q hq
    have a1 : (p.1 * N + p.2) / N = p.1 := by rw [Nat.mul_comm, Nat.mul_add_div (by omega), Nat.div_eq_of_lt p2, Nat.add_zero]
    have a2 : (q.1 * N + q.2) / N = q.1 := by rw [Nat.mul_comm, Nat.mul_add_div (by omega), Nat.div_eq_of_lt q2, Nat.add_zero]
    have e1 : p.1 = q.1 := by rw [← a1, ← a2, e]
    have e2 : p.2 = q.2 := by rw [e1] at e; omega
    exact Prod.ext e1 e2
  have hm : (l.map fun p => p.1 * N + p.2).Nodup := by
    clear h
    induction l with
    | nil => exact List.nodup_nil
    | cons a r ih =>
      rw [List.nodup_cons] at hn
      rw [List.map_cons, List.nodup_cons]
      refine ⟨fun hm => ?_, ih hn.2 fun p hp q hq => hi p (by simp [hp]) q (by simp [hq])⟩
      obtain ⟨b, hb, e⟩ := List.mem_map.1 hm
      have := hi b (by simp [hb]) a (by simp) e
      exact hn.1 (this ▸ hb)
  have := nodup_lt_le (n := N * N) hm fun x hx => by
    obtain ⟨p, hp, rfl⟩ := List.mem_map.1 hx
    obtain ⟨p1, p2⟩ := h p hp
    have : (p.1 + 1) * N ≤ N * N := Nat.mul_le_mul_right _ p1
    rw [Nat.add_mul, Nat.one_mul] at this
    omega
  rwa [List.length_map] at this
def QOK (ss : List (List (List Int))) (Q : List It) : Prop := (Q.map Prod.fst).Nodup ∧ ∀ t ∈ Q, t.1.1 < ss.length ∧ t.1.2 < ss.length
theorem dP_lt {ss : List (List (List Int))} (hL : LeadOK ss) {r : List Int} {x : Nat × Nat} (h1 : x.1 < ss.length) (h2 : x.2 < ss.length) : (dP ss r x).1 < ss.length ∧ (dP ss r x).2 < ss.length := by
  have a := toI_st hL h1 r
  have b := toI_st hL h2 r
  simp only [dP]
  omega
theorem QOK.snoc {ss : List (List (List Int))} {Q : List It} (h : QOK ss Q) {t : It} (hm : t.1 ∉ Q.map Prod.fst) (hb : t.1.1 < ss.length ∧ t.1.2 < ss.length) : QOK ss (Q ++ [t]) := by
  refine ⟨?_, fun x hx => ?_⟩
  · rw [List.map_append, List.nodup_append]
    refine ⟨h.1, by simp, fun a ha b hb e => ?_⟩
    rw [List.map_cons, List.map_nil, List.mem_singleton] at hb
    exact hm (by rw [← hb, ← e]; exact ha)
  · rcases List.mem_append.1 hx with hx | hx
    · exact h.2 x hx
    · rw [List.mem_singleton.1 hx]; exact hb
theorem dIn_some {dg : Bool} {ss : List (List (List Int))} (hL : LeadOK ss) {k : List It → Option (Option (List (List Int)))} {x : It} (h1 : x.1.1 < ss.length) (h2 : x.1.2 < ss.length) : ∀ (rs : List (List Int)) (Q : List It), QOK ss Q → (∀ T : List It, QOK ss (Q ++ T) → ∃ R, k (Q ++ T) = some R) → ∃ R, dIn dg ss k x rs Q = some R
  | [], Q, hQ, hk => by
    have := hk [] (by rwa [List.append_nil])
    rw [List.append_nil] at this
    exact this
  | r :: rs, Q, hQ, hk => by
    rw [dIn]
    by_cases h0 : toI r (ss.getD x.1.1 []) < 0 ∨ toI r (ss.getD x.1.2 []) < 0
    · rw [if_pos h0]; exact ⟨_, rfl⟩
    · rw [if_neg h0]
      split
      · exact dIn_some hL h1 h2 rs Q hQ hk
      · rename_i hm
        refine dIn_some hL h1 h2 rs _ (hQ.snoc (fun h => hm (.inl h)) (dP_lt hL h1 h2)) fun T => ?_
        rw [List.append_assoc]
        exact hk _
theorem dGo_some {dg : Bool} {ss : List (List (List Int))} (hL : LeadOK ss) : ∀ (f n : Nat) (Q : List It), QOK ss Q → ss.length * ss.length + 1 ≤ n + f → n ≤ Q.length → ∃ R, dGo dg ss f n Q = some R
  | 0, n, Q, hQ, hf, hn => by
    have := pairs_le hQ.1 fun p hp => by
      obtain ⟨t, ht, rfl⟩ := List.mem_map.1 hp
      exact hQ.2 t ht
    rw [List.length_map] at this
    omega
  | f + 1, n, Q, hQ, hf, hn => by
    rw [dGo]
    split
    · rename_i hlt
      have hx : Q.getD n ((0, 0), []) ∈ Q := by rw [getD_eq hlt]; exact List.getElem_mem hlt
      obtain ⟨b1, b2⟩ := hQ.2 _ hx
      exact dIn_some hL b1 b2 _ Q hQ fun T hT => dGo_some hL f (n + 1) (Q ++ T) hT (by omega) (by simp; omega)
    · exact ⟨_, rfl⟩
/-- The first word that tells two states apart. -/
def dist (ss : List (List (List Int))) (s t : Nat) : Option (List (List Int)) := (dGo true ss (ss.length * ss.length + 1) 0 [((s, t), [])]).getD none
theorem dist_ref {ss : List (List (List Int))} (hL : LeadOK ss) {s t : Nat} (hs : s < ss.length) (ht : t < ss.length) : dGo true ss (ss.length * ss.length + 1) 0 [((s, t), [])] = some (dist ss s t) := by
  obtain ⟨R, hR⟩ := dGo_some (dg := true) hL (ss.length * ss.length + 1) 0 [((s, t), [])] ⟨by simp, by simp [hs, ht]⟩ (by omega) (by simp)
  rw [dist, hR]; rfl
theorem dist_prog {ss : List (List (List Int))} (hL : LeadOK ss) {s t : Nat} (hs : s < ss.length) (ht : t < ss.length) : dGo false ss (ss.length * ss.length + 1) 0 [((s, t), [])] = some (dist ss s t) := by
  have h1 := dist_ref hL hs ht
  by_cases hst : s = t
  · subst hst
    have h2 := dGo_two hL _ 1 0 [((s, s), [])] (by simp) h1 (R := none) (by simp [nd, dGo])
    rw [h2, dGo, if_pos (by simp)]
    simp only [List.getD_cons_zero]
    rw [dIn_diag2 hL _ _ (fun r hr => by rcases (mg_mem _ _ _).1 hr with h | h <;> exact h)]
    have : 0 < ss.length * ss.length := Nat.mul_pos (by omega) (by omega)
    obtain ⟨m, hm⟩ : ∃ m, ss.length * ss.length = m + 1 := ⟨ss.length * ss.length - 1, by omega⟩
    rw [hm, dGo, if_neg (by simp)]
  · obtain ⟨R, hR⟩ := dGo_some (dg := false) hL (ss.length * ss.length + 1) 0 [((s, t), [])] ⟨by simp, by simp [hs, ht]⟩ (by omega) (by simp)
    have h2 := dGo_two hL _ (ss.length * ss.length + 1) 0 [((s, t), [])] (by simp) h1 (R := R) (by simpa [nd, hst] using hR)
    rw [hR, h2]
/-- The rounds of a well-formed state ascend. -/
theorem ltr_eq {ss : List (List (List Int))} {s t : Nat} {l : List (List Int)} (hx : AscL ((ss.getD s []).map rdOf)) (hy : AscL ((ss.getD t []).map rdOf)) (hp : l.Perm ((ss.getD s [] ++ ss.getD t []).map rdOf)) (hs : l.Pairwise fun a b => ¬ cmpL b a < 0) : cmpc l = ltr ss s t := by
  rw [List.map_append] at hp
  exact cmpc_mg hx hy hp hs
end Go.Proofs.YtfihpofdoffclaaGreatDoor

/- Regions that draw their order, whose calls make new memory: a class of worlds in place of draws. -/
namespace Go.Proofs.YtfihpofdoffclaaGreatDoor
open Go.RowKit

/-- All operations read, or call what makes new memory only. -/
theorem wp_region_ball {P : Program} {id : Nat} {Q : Exit → Act → World → Prop} {a : Act} {w : World} {l : List Oper} (hm : P.follows .mixedOrders = true) (hB : Region.lexB .any l.toArray = true)
    (h : wpQuiet P l.toArray (Below w.heap.size w) (fun a' => ∀ w', Below w.heap.size w w' → Q .normal a' w') l a) :
    (Code.region id l.toArray true).wp P Q a w :=
  wp_region_quiet (C := Below w.heap.size w) hm hB (below_drewN (Below.refl _ w) 1) (by simpa using h)
end Go.Proofs.YtfihpofdoffclaaGreatDoor

/- The reference: refined. -/
namespace Go.Proofs.YtfihpofdoffclaaGreatDoor
open Go.RowKit

section
variable {κ : Type} [DecidableEq κ]
end
theorem OI.form {w : World} {B : Nat} {v : Value} {n : Nat} {xs : List Int} (h : OI w B v n xs) (hn : 0 < n) : ∃ g cap, v = .slice (some ⟨g, 0, none⟩) n cap ∧ B ≤ g := by
  have hl := h.length
  rcases h.2 with ⟨rfl, h'⟩ | ⟨g, cap, cur, h1, h2, _⟩
  · omega
  · exact ⟨g, cap, h1, h2⟩
end Go.Proofs.YtfihpofdoffclaaGreatDoor

/- append onto rows that a call made: at any world, and at a step of a region that draws its order; no program in sight. -/
namespace Go.Proofs.YtfihpofdoffclaaGreatDoor
open Go.RowKit

/-- Where the new row lies. -/
def NewAt (w : World) (v v' : Value) : Prop := v'.ownBlock = v.ownBlock ∨ v'.ownBlock = some w.heap.size
section
variable {α : Type} {E : TypeId} {k : Nat} {El : World → List Value → α → Prop} {B n : Nat} {v : Value} {xs : List α}
theorem run_appX {P : Program} {T ty : TypeId} {z : Value} {bytes : Nat} (hE : ElemK P T E z k bytes) (hby : bytes ≤ 128) (hk : 0 < k) (hS : Stab E El) {w : World} {cs : List Value} {x : α}
    (hown : OwX E k El w B v n xs) (ad : Addr) (c : Nat) (hcs : cs.length = k) (hnews : ∀ j u, cs[j]? = some u → w.cell? (ad.add j) = some u) (hc1 : ∀ u ∈ cs, u.oneCell' = true) (hEl : El w cs x) (hn : n ≤ 1000000000000) (hB : B ≤ w.heap.size) :
    ∃ v' w', (Builtin.append_ #[T, T] ty #[v, .slice (some ad) 1 c]).run P w = .ok v' w' ∧ OwX E k El w' B v' (n + 1) (xs ++ [x]) ∧ w.grownBy w' v.ownBlock ∧ NewAt w v v' ∧ Below B w w' ∧ KeepX E w w' := by
  obtain ⟨i0, hi, hz0, hz1, hz2⟩ := info_parts hE.2.1
  obtain ⟨vs, k1, k2, k3, k4⟩ := hown
  have hvl : vs.length = n * k := k1.1
  have hbd : (n + 1) * bytes ≤ 140737488355328 := by
    have : (n + 1) * bytes ≤ 1000000000001 * 128 := Nat.mul_le_mul (by omega) hby
    omega
  obtain ⟨v', w', hr, h1, hg, _, h5⟩ := run_append_own_at (P := P) w B T ty E i0 z k bytes hE.1 hi hz0 hz1 hz2 hE.2.2 hk v n vs k1 ad 1 c cs (by simpa using hcs) hnews hc1 (by unfold maxLen; omega) hbd hB
  have hX : KeepX E w w' := KeepX.own k1 hg
  refine ⟨v', w', hr, ⟨vs ++ cs, h1, by simp [k2], ?_, fun j x' hj => ?_⟩, hg, h5, (Below.refl B w).grown hg hB (fun k hk => (k1.lt k hk).1), hX⟩
  · intro u hu
    rcases List.mem_append.1 hu with hu | hu
    · exact k3 u hu
    · exact hc1 u hu
  · by_cases hjn : j < n
    · rw [List.getElem?_append_left (by omega)] at hj
      have hle : j * k + k ≤ n * k := by rw [← Nat.succ_mul]; exact Nat.mul_le_mul_right _ hjn
      rw [List.drop_append_of_le_length (by omega), List.take_append_of_le_length (by rw [List.length_drop]; omega)]
      exact hS _ _ _ _ (k4 j x' hj) hX
    · rw [List.getElem?_append_right (by omega)] at hj
      have hj0 : j - xs.length = 0 := by
        have := (List.getElem?_eq_some_iff.1 hj).1
        simpa using this
      rw [hj0] at hj
      simp only [List.getElem?_cons_zero, Option.some.injEq] at hj
      subst hj
      obtain rfl : j = n := by omega
      rw [← hvl, List.drop_left, List.take_of_length_le (by omega)]
      exact hS _ _ _ _ hEl hX
/-- At the operation. -/
theorem wp_appX {P : Program} {T : TypeId} {z : Value} {bytes : Nat} (hE : ElemK P T E z k bytes) (hby : bytes ≤ 128) (hk : 0 < k) (hS : Stab E El) {w : World} {cs : List Value} {x : α} {o : Oper} {a : Act} {K : Act → World → Prop} {Q : Exit → Act → World → Prop} (s y : Operand)
    (ho : o.op = .call { callee := .builtin .append, args := #[s, y], argTypes := #[T, T] }) (hs : a.eval s = v) (hown : OwX E k El w B v n xs) (ad : Addr) (c : Nat) (hx : a.eval y = .slice (some ad) 1 c) (hcs : cs.length = k)
    (hnews : ∀ j u, cs[j]? = some u → w.cell? (ad.add j) = some u) (hc1 : ∀ u ∈ cs, u.oneCell' = true) (hEl : El w cs x) (hn : n ≤ 1000000000000) (hB : B ≤ w.heap.size)
    (h : ∀ v' w', OwX E k El w' B v' (n + 1) (xs ++ [x]) → w.grownBy w' v.ownBlock → NewAt w v v' → Below B w w' → KeepX E w w' → K (a.put o.dst v') w') : o.wp P a w K Q := by
  obtain ⟨v', w', hr, h2, h3, h4, h5, h6⟩ := run_appX (P := P) (ty := o.type) hE hby hk hS hown ad c hcs hnews hc1 hEl hn hB
  unfold Oper.wp execOp
  simp only [ho, resolve, invoke, builtin, Sem.run_bind, Sem.run_pure, Result.andThen_ok, List.map_toArray, List.map_cons, List.map_nil, hs, hx, hr]
  exact h v' w' h2 h3 h4 h5 h6
/-- At the list of a plain region's operations. -/
theorem wpList_appX {P : Program} {T : TypeId} {z : Value} {bytes : Nat} (hE : ElemK P T E z k bytes) (hby : bytes ≤ 128) (hk : 0 < k) (hS : Stab E El) {w : World} {cs : List Value} {x : α} {ops : Array Oper} {rest : List Oper} {o : Oper} {a : Act} {Q : Exit → Act → World → Prop} (hgd : o.guard = none) (s y : Operand)
    (ho : o.op = .call { callee := .builtin .append, args := #[s, y], argTypes := #[T, T] }) (hs : a.eval s = v) (hown : OwX E k El w B v n xs) (ad : Addr) (c : Nat) (hx : a.eval y = .slice (some ad) 1 c) (hcs : cs.length = k)
    (hnews : ∀ j u, cs[j]? = some u → w.cell? (ad.add j) = some u) (hc1 : ∀ u ∈ cs, u.oneCell' = true) (hEl : El w cs x) (hn : n ≤ 1000000000000) (hB : B ≤ w.heap.size)
    (h : ∀ v' w', OwX E k El w' B v' (n + 1) (xs ++ [x]) → w.grownBy w' v.ownBlock → NewAt w v v' → Below B w w' → KeepX E w w' → wpList P ops Q rest (a.put o.dst v') w') : wpList P ops Q (o :: rest) a w :=
  wpList_plain hgd fun _ hK => wp_appX hE hby hk hS s y ho hs hown ad c hx hcs hnews hc1 hEl hn hB fun v' w' h1 h2 h3 h4 h5 => hK _ _ (h v' w' h1 h2 h3 h4 h5)
/-- At a step of a region that draws its order. -/
theorem step_appX {P : Program} {T : TypeId} {z : Value} {bytes : Nat} (hE : ElemK P T E z k bytes) (hby : bytes ≤ 128) (hk : 0 < k) (hS : Stab E El) {w : World} {cs : List Value} {x : α} {ops : Array Oper} {o : Oper} {a : Act} {K : Act → World → Prop} {Q : Exit → Act → World → Prop} {R : Prop} (hgd : o.guard = none) (s y : Operand)
    (ho : o.op = .call { callee := .builtin .append, args := #[s, y], argTypes := #[T, T] }) (hs : a.eval s = v) (hown : OwX E k El w B v n xs) (ad : Addr) (c : Nat) (hx : a.eval y = .slice (some ad) 1 c) (hcs : cs.length = k)
    (hnews : ∀ j u, cs[j]? = some u → w.cell? (ad.add j) = some u) (hc1 : ∀ u ∈ cs, u.oneCell' = true) (hEl : El w cs x) (hn : n ≤ 1000000000000) (hB : B ≤ w.heap.size)
    (h : ∀ v' w', OwX E k El w' B v' (n + 1) (xs ++ [x]) → w.grownBy w' v.ownBlock → NewAt w v v' → Below B w w' → KeepX E w w' → K (a.put o.dst v') w') :
    if Region.wanted o (yielded ops a.tmps) = true then Oper.wp P o a w K Q else R := by
  rw [if_pos (by simp [Region.wanted, hgd])]
  exact wp_appX hE hby hk hS s y ho hs hown ad c hx hcs hnews hc1 hEl hn hB h
end

/-- Rows of ints are such rows. -/
def E1I (_ : World) (cs : List Value) (x : Int) : Prop := cs = [.int .i64 x]
theorem E1I.stab (E : TypeId) : Stab E E1I := fun _ _ _ _ h _ => h
theorem OI.other {w w' : World} {E : TypeId} {B : Nat} {v : Value} {n : Nat} {xs : List Int} (h : OI w B v n xs) (hne : 3 ≠ E) (hx : KeepX E w w') : OI w' B v n xs := ownsRow_X h hne hx
/-- Two rows that are apart. -/
def Apart (u v : Value) : Prop := ∀ a b, u.ownBlock = some a → v.ownBlock = some b → a ≠ b
theorem Apart.symm {u v : Value} (h : Apart u v) : Apart v u := fun a b ha hb e => h b a hb ha e.symm
theorem Apart.ne {u v : Value} (h : Apart u v) : u.ownBlock = none ∨ u.ownBlock ≠ v.ownBlock := by
  cases hu : u.ownBlock with
  | none => exact .inl rfl
  | some a => exact .inr fun e => h a a hu e.symm rfl
/-- What stands when a row was appended to, and then another one. -/
def Two (B : Nat) (wr : World) (m : Nat) (xs ys : List Int) (u v : Value) (wx : World) : Prop := OI wx B u m xs ∧ OI wx B v m ys ∧ Apart u v ∧ KeepX 3 wr wx ∧ Below B wr wx
end Go.Proofs.YtfihpofdoffclaaGreatDoor

/- Texts of this claim, put together: U0 U1 U2 U3. -/
import Derived.Test.YtfihpofdoffclaaGreatDoorKp
import Derived.Test.YtfihpofdoffclaaGreatDoorKt

/- Two systems side by side: words, search and form of the one are those of the other; classes of states are classes of languages. Plain lists. -/
namespace Go.Proofs.YtfihpofdoffclaaGreatDoor

theorem ascL_of {n : Int} {ss : List (List (List Int))} (h : chkA n ss = 0) : ∀ s ∈ ss, AscL (s.map rdOf) := fun s hs => by
  obtain ⟨_, _, h3, _⟩ := chkA_facts h
  have h4 := ssGo_zero h3 s hs
  unfold stErr at h4
  by_cases he : s.length = 0
  · rw [List.length_eq_zero_iff.1 he]; exact List.Pairwise.nil
  rw [if_neg he] at h4
  have hadj : ∀ i, 0 < i → i < s.length → cmpL (rdOf (s.getD (i - 1) [])) (rdOf (s.getD i [])) < 0 := fun i h0 hi => by
    obtain ⟨_, _, c3, _, _⟩ := mvErr_zero (mvGo_zero h4 i (by omega) (by omega))
    have := c3 h0
    unfold rdOf; omega
  unfold AscL
  rw [List.pairwise_iff_getElem]
  intro i j hi hj hij
  rw [List.length_map] at hi hj
  rw [List.getElem_map, List.getElem_map]
  obtain ⟨d, rfl⟩ : ∃ d, j = i + 1 + d := ⟨j - i - 1, by omega⟩
  induction d with
  | zero =>
    have := hadj (i + 1) (by omega) hj
    rw [Nat.add_sub_cancel, getD_eq hi, getD_eq hj] at this
    exact this
  | succ d ih =>
    have h1 := ih (by rw [List.length_map]; omega) (by omega) (by omega)
    have h2 := hadj (i + 1 + (d + 1)) (by omega) hj
    rw [show i + 1 + (d + 1) - 1 = i + 1 + d by omega, getD_eq (by omega : i + 1 + d < s.length), getD_eq hj] at h2
    exact cmpL_trans _ _ _ h1 h2
/-- The order in which the states are met. -/
def ordI (ss : List (List (List Int))) : List Nat × List (Nat × List Int) := (srch id ss (ss.length + 1) 0 ([0], [])).getD ([0], [])
theorem ordI_eq {ss : List (List (List Int))} (h : ClsOK ss) : srch id ss (ss.length + 1) 0 ([0], []) = some (ordI ss) ∧ (ordI ss).1.length ≤ ss.length ∧ ∀ x ∈ (ordI ss).1, x < ss.length := by
  obtain ⟨R, h1, h2, h3⟩ := srch_some (kf := id) h.toOK (ss.length + 1) 0 ([0], []) (by simp) (fun x hx => by have := h.2.2.1; simp at hx; omega) (by omega) (by simp)
  unfold ordI
  rw [h1]
  exact ⟨rfl, h2, h3⟩
/-- Two lists, element by element. -/
def All2 {α β : Type} (R : α → β → Prop) : List α → List β → Prop
  | [], [] => True
  | a :: l, b :: m => R a b ∧ All2 R l m
  | _, _ => False
section
variable {α β : Type} {R : α → β → Prop}
theorem All2.len : ∀ {l : List α} {m : List β}, All2 R l m → l.length = m.length
  | [], [], _ => rfl
  | _ :: _, _ :: _, h => by rw [List.length_cons, List.length_cons, All2.len h.2]
  | [], _ :: _, h => h.elim
  | _ :: _, [], h => h.elim
theorem All2.imp {R' : α → β → Prop} (hi : ∀ a b, R a b → R' a b) : ∀ {l : List α} {m : List β}, All2 R l m → All2 R' l m
  | [], [], _ => trivial
  | _ :: _, _ :: _, h => ⟨hi _ _ h.1, All2.imp hi h.2⟩
  | [], _ :: _, h => h.elim
  | _ :: _, [], h => h.elim
theorem All2.app : ∀ {l l' : List α} {m m' : List β}, All2 R l m → All2 R l' m' → All2 R (l ++ l') (m ++ m')
  | [], _, [], _, _, h' => h'
  | _ :: _, _, _ :: _, _, h, h' => ⟨h.1, All2.app h.2 h'⟩
  | [], _, _ :: _, _, h, _ => h.elim
  | _ :: _, _, [], _, h, _ => h.elim
theorem All2.at {d : α} {d' : β} : ∀ {l : List α} {m : List β} {i : Nat}, All2 R l m → i < l.length → R (l.getD i d) (m.getD i d')
  | [], _, i, _, hi => absurd hi (Nat.not_lt_zero _)
  | _ :: _, _ :: _, 0, h, _ => h.1
  | _ :: _, _ :: _, i + 1, h, hi => by
    rw [List.getD_cons_succ, List.getD_cons_succ]
    exact All2.at h.2 (by simpa using hi)
  | _ :: _, [], _, h, _ => h.elim
theorem All2.of_map' {γ : Type} {f : α → γ} {g : β → γ} : ∀ {l : List α} {m : List β}, (∀ a ∈ l, ∀ b ∈ m, f a = g b → R a b) → l.map f = m.map g → All2 R l m
  | [], [], _, _ => trivial
  | a :: l, b :: m, hr, h => by
    rw [List.map_cons, List.map_cons, List.cons.injEq] at h
    exact ⟨hr _ (by simp) _ (by simp) h.1, All2.of_map' (fun a ha b hb => hr a (by simp [ha]) b (by simp [hb])) h.2⟩
  | [], _ :: _, _, h => by cases h
  | _ :: _, [], _, h => by cases h
theorem All2.map_eq {γ : Type} {f : α → γ} {g : β → γ} (hr : ∀ a b, R a b → f a = g b) : ∀ {l : List α} {m : List β}, All2 R l m → l.map f = m.map g
  | [], [], _ => rfl
  | _ :: _, _ :: _, h => by rw [List.map_cons, List.map_cons, hr _ _ h.1, All2.map_eq hr h.2]
  | [], _ :: _, h => h.elim
  | _ :: _, [], h => h.elim
end

/-- Moves that match. -/
def MvR (ρ : Nat → Nat → Prop) (m m' : List Int) : Prop := rdOf m = rdOf m' ∧ ρ (mvTo m) (mvTo m')
def SimR (ρ : Nat → Nat → Prop) (ss tt : List (List (List Int))) : Prop := ∀ s t, ρ s t → All2 (MvR ρ) (ss.getD s []) (tt.getD t [])
def KeyR (ρ : Nat → Nat → Prop) (kf kf' : Nat → Nat) : Prop := ∀ s t s' t', ρ s t → ρ s' t' → (kf s = kf s' ↔ kf' t = kf' t')

section
variable {ρ : Nat → Nat → Prop} {kf kf' : Nat → Nat} {ss tt : List (List (List Int))}
theorem mem_lock (hK : KeyR ρ kf kf') {x x' : Nat} (hx : ρ x x') : ∀ {o o' : List Nat}, All2 ρ o o' → (kf x ∈ o.map kf ↔ kf' x' ∈ o'.map kf')
  | [], [], _ => by simp
  | a :: o, a' :: o', h => by
    rw [List.map_cons, List.map_cons, List.mem_cons, List.mem_cons, mem_lock hK hx h.2, hK _ _ _ _ hx h.1]
  | [], _ :: _, h => h.elim
  | _ :: _, [], h => h.elim
theorem idx_lock (hK : KeyR ρ kf kf') {x x' : Nat} (hx : ρ x x') : ∀ {o o' : List Nat}, All2 ρ o o' → (o.map kf).idxOf (kf x) = (o'.map kf').idxOf (kf' x')
  | [], [], _ => rfl
  | a :: o, a' :: o', h => by
    rw [List.map_cons, List.map_cons, List.idxOf_cons, List.idxOf_cons, idx_lock hK hx h.2]
    have := hK _ _ _ _ h.1 hx
    by_cases e : kf a = kf x
    · have e' := this.1 e
      simp [e, e']
    · have e' : ¬ kf' a' = kf' x' := fun h => e (this.2 h)
      rw [show (kf a == kf x) = false by simpa using e, show (kf' a' == kf' x') = false by simpa using e']
  | [], _ :: _, h => h.elim
  | _ :: _, [], h => h.elim
theorem num_lock (hK : KeyR ρ kf kf') {x x' : Nat} (hx : ρ x x') {o o' : List Nat} (h : All2 ρ o o') : numK (o.map kf) (kf x) = numK (o'.map kf') (kf' x') := by
  unfold numK ixOf
  by_cases hm : kf x ∈ o.map kf
  · rw [if_pos hm, if_pos ((mem_lock hK hx h).1 hm), idx_lock hK hx h]
  · rw [if_neg hm, if_neg (fun h' => hm ((mem_lock hK hx h).2 h'))]
theorem exts_lock (hK : KeyR ρ kf kf') {s s' : Nat} : ∀ {ms ms' : List (List Int)} {st st' : List Nat × List (Nat × List Int)}, All2 (MvR ρ) ms ms' → All2 ρ st.1 st'.1 → All2 ρ (exts kf s ms st).1 (exts kf' s' ms' st').1
  | [], [], _, _, _, h => h
  | m :: r, m' :: r', st, st', h, hs => by
    rw [exts, exts]
    refine exts_lock hK h.2 ?_
    by_cases hm : kf (mvTo m) ∈ st.1.map kf
    · rw [if_pos hm, if_pos ((mem_lock hK h.1.2 hs).1 hm)]; exact hs
    · rw [if_neg hm, if_neg (fun h' => hm ((mem_lock hK h.1.2 hs).2 h'))]
      exact hs.app ⟨h.1.2, trivial⟩
  | [], _ :: _, _, _, h, _ => h.elim
  | _ :: _, [], _, _, h, _ => h.elim
theorem srch_lock (hS : SimR ρ ss tt) (hK : KeyR ρ kf kf') : ∀ (f i : Nat) (st st' : List Nat × List (Nat × List Int)) {R : List Nat × List (Nat × List Int)}, All2 ρ st.1 st'.1 → srch kf ss f i st = some R → ∃ R', srch kf' tt f i st' = some R' ∧ All2 ρ R.1 R'.1
  | 0, _, _, _, _, _, h => by cases h
  | f + 1, i, st, st', R, hs, h => by
    rw [srch] at h
    by_cases hi : i < st.1.length
    · rw [if_pos hi] at h
      have := srch_lock hS hK f (i + 1) _ (exts kf' (st'.1.getD i 0) (tt.getD (st'.1.getD i 0) []) st') (exts_lock hK (hS _ _ (hs.at hi)) hs) h
      rw [srch, if_pos (by rw [← hs.len]; exact hi)]
      exact this
    · rw [if_neg hi] at h
      injection h with h
      subst h
      exact ⟨st', by rw [srch, if_neg (by rw [← hs.len]; exact hi)], hs⟩
theorem srch_mono {f i : Nat} {st R : List Nat × List (Nat × List Int)} (h : srch kf ss f i st = some R) (d : Nat) : srch kf ss (f + d) i st = some R := by
  induction f generalizing i st with
  | zero => cases h
  | succ f ih =>
    rw [show f + 1 + d = (f + d) + 1 by omega, srch]
    rw [srch] at h
    split at h
    · rename_i hlt; rw [if_pos hlt]; exact ih h
    · rename_i hlt; rw [if_neg hlt]; exact h
/-- The form for some keys and some order. -/
def formK (ss : List (List (List Int))) (kf : Nat → Nat) (o : List Nat) : List (List (List Int)) := o.map fun i => (ss.getD i []).map fun m => rdOf m ++ [((numK (o.map kf) (kf (mvTo m)) : Nat) : Int)]
theorem formK_lock (hS : SimR ρ ss tt) (hK : KeyR ρ kf kf') {o o' : List Nat} (h : All2 ρ o o') : formK ss kf o = formK tt kf' o' := by
  refine All2.map_eq (R := ρ) (fun i i' hi => ?_) h
  exact All2.map_eq (R := MvR ρ) (fun m m' hm => by rw [hm.1, num_lock hK hm.2 h]) (hS _ _ hi)
/-- F is the form of the part that is reached from a state. -/
def CanF (ss : List (List (List Int))) (kf : Nat → Nat) (s0 : Nat) (F : List (List (List Int))) : Prop := ∃ f R, srch kf ss f 0 ([s0], []) = some R ∧ F = formK ss kf R.1
theorem CanF.lock {s0 t0 : Nat} {F : List (List (List Int))} (h : CanF ss kf s0 F) (hS : SimR ρ ss tt) (hK : KeyR ρ kf kf') (h0 : ρ s0 t0) : CanF tt kf' t0 F := by
  obtain ⟨f, R, h1, rfl⟩ := h
  obtain ⟨R', h2, h3⟩ := srch_lock hS hK f 0 ([s0], []) ([t0], []) ⟨h0, trivial⟩ h1
  exact ⟨f, R', h2, formK_lock hS hK h3⟩
theorem CanF.uniq {s0 : Nat} {F F' : List (List (List Int))} (h : CanF ss kf s0 F) (h' : CanF ss kf s0 F') : F = F' := by
  obtain ⟨f, R, h1, rfl⟩ := h
  obtain ⟨f', R', h1', rfl⟩ := h'
  have a := srch_mono h1 f'
  have b := srch_mono h1' f
  rw [Nat.add_comm] at b
  rw [a] at b
  injection b with b
  rw [b]
theorem set7 {m : List Int} (h : m.length = 8) (v : Int) : m.set 7 v = rdOf m ++ [v] := by
  obtain ⟨a, b, c, d, e, f, g, i, rfl⟩ := eight h; rfl
theorem formC_K (h8 : ∀ s ∈ ss, ∀ m ∈ s, m.length = 8) (L o : List Nat) : formC ss L o = formK ss (keyL L) o := by
  unfold formC formK
  refine List.map_congr_left fun i _ => ?_
  unfold formSt
  refine List.map_congr_left fun m hm => ?_
  have : m.length = 8 := by
    by_cases hi : i < ss.length
    · rw [getD_eq hi] at hm; exact h8 _ (List.getElem_mem hi) m hm
    · rw [List.getD_eq_getElem?_getD, List.getElem?_eq_none (by omega)] at hm; cases hm
  rw [formMv, set7 this]; rfl
theorem ClsOK.len8 (h : ClsOK ss) : ∀ s ∈ ss, ∀ m ∈ s, m.length = 8 := fun s hs m hm => ((h.2.2.2 s hs).2 m hm).2.1
theorem canS_F (h : ClsOK ss) : CanF ss (keyL (part ss)) 0 (canS ss) := ⟨_, _, (ordC_eq h).1, formC_K h.len8 _ _⟩
end

/-- A word is permitted from a state on. -/
def alw (ss : List (List (List Int))) : List (List Int) → Nat → Prop
  | [], _ => True
  | r :: w, s => 0 ≤ toI r (ss.getD s []) ∧ alw ss w (toI r (ss.getD s [])).toNat
section
variable {ρ : Nat → Nat → Prop} {ss tt : List (List (List Int))}
theorem alw_after : ∀ {w : List (List Int)} {s : Nat}, alw ss w s ↔ 0 ≤ afterI ss w s
  | [], s => by simp [alw, afterI]
  | r :: w, s => by
    rw [alw, afterI]
    by_cases h : toI r (ss.getD s []) < 0
    · rw [if_pos h]
      exact ⟨fun h' => absurd h'.1 (by omega), fun h' => absurd h' (by decide)⟩
    · rw [if_neg h, alw_after (w := w)]
      exact ⟨fun h' => h'.2, fun h' => ⟨by omega, h'⟩⟩
theorem toI_lock {r : List Int} : ∀ {ms ms' : List (List Int)}, All2 (MvR ρ) ms ms' → (∀ m ∈ ms, 0 ≤ m.getD 7 0) → (∀ m ∈ ms', 0 ≤ m.getD 7 0) →
    (toI r ms < 0 ∧ toI r ms' < 0) ∨ (0 ≤ toI r ms ∧ 0 ≤ toI r ms' ∧ ρ (toI r ms).toNat (toI r ms').toNat)
  | [], [], _, _, _ => .inl ⟨by simp [toI], by simp [toI]⟩
  | m :: l, m' :: l', h, h1, h2 => by
    rw [toI, toI, ← h.1.1]
    by_cases e : rdOf m = r
    · rw [if_pos e, if_pos e]
      exact .inr ⟨h1 m (by simp), h2 m' (by simp), h.1.2⟩
    · rw [if_neg e, if_neg e]
      exact toI_lock h.2 (fun x hx => h1 x (by simp [hx])) (fun x hx => h2 x (by simp [hx]))
  | [], _ :: _, h, _, _ => h.elim
  | _ :: _, [], h, _, _ => h.elim
theorem alw_lock (hS : SimR ρ ss tt) (hM : LeadOK ss) (hM' : LeadOK tt) : ∀ {w : List (List Int)} {s t : Nat}, ρ s t → (alw ss w s ↔ alw tt w t)
  | [], _, _, _ => Iff.rfl
  | r :: w, s, t, h => by
    rw [alw, alw]
    rcases toI_lock (r := r) (hS s t h) (lead_mem hM s) (lead_mem hM' t) with ⟨h1, h2⟩ | ⟨h1, h2, h3⟩
    · exact ⟨fun h => absurd h.1 (by omega), fun h => absurd h.1 (by omega)⟩
    · rw [alw_lock hS hM hM' (w := w) h3]
      exact ⟨fun h => ⟨h2, h.2⟩, fun h => ⟨h1, h.2⟩⟩
theorem toI_mem {m : List Int} : ∀ {x : List (List Int)}, AscL (x.map rdOf) → m ∈ x → toI (rdOf m) x = m.getD 7 0
  | [], _, h => by cases h
  | a :: x, ha, h => by
    rw [List.map_cons] at ha
    unfold AscL at ha
    rw [List.pairwise_cons] at ha
    rw [toI]
    rcases List.mem_cons.1 h with rfl | h
    · rw [if_pos rfl]
    · rw [if_neg, toI_mem ha.2 h]
      intro e
      have h1 := ha.1 (rdOf m) (List.mem_map_of_mem h)
      rw [e] at h1
      exact cmpL_asymm _ _ h1 h1
theorem toI_out {r : List Int} : ∀ {x : List (List Int)}, r ∉ x.map rdOf → toI r x = -1
  | [], _ => rfl
  | a :: x, h => by
    rw [List.map_cons, List.mem_cons, not_or] at h
    rw [toI, if_neg (fun e => h.1 e.symm), toI_out h.2]
theorem toI_in {r : List Int} {x : List (List Int)} (h0 : ∀ m ∈ x, 0 ≤ m.getD 7 0) : 0 ≤ toI r x ↔ r ∈ x.map rdOf := by
  constructor
  · intro h
    by_cases hr : r ∈ x.map rdOf
    · exact hr
    · rw [toI_out hr] at h; exact absurd h (by decide)
  · exact toI_self h0
theorem sig_toI {x : List (List Int)} (h : AscL (x.map rdOf)) (L : List Nat) : sig L x = (x.map rdOf).map fun r => (r, L.getD (toI r x).toNat 0) := by
  rw [List.map_map, sig]
  refine List.map_congr_left fun m hm => ?_
  show (rdOf m, L.getD (mvTo m) 0) = (rdOf m, L.getD (toI (rdOf m) x).toNat 0)
  rw [toI_mem h hm]; rfl
/-- What words of at most k rounds do not tell apart has the same label after k steps. -/
theorem stL_of_alw (hM : LeadOK ss) (hA : ∀ s ∈ ss, AscL (s.map rdOf)) : ∀ (k i j : Nat), i < ss.length → j < ss.length → (∀ w : List (List Int), w.length ≤ k → (alw ss w i ↔ alw ss w j)) → (stL ss k).getD i 0 = (stL ss k).getD j 0
  | 0, i, j, hi, hj, _ => by simp [stL, List.getD_eq_getElem?_getD, hi, hj]
  | k + 1, i, j, hi, hj, h => by
    rw [stL, lbl_sigs hi hj]
    have hx := hA _ (List.getElem_mem hi)
    have hy := hA _ (List.getElem_mem hj)
    have mi := lead_mem hM i
    have mj := lead_mem hM j
    have key : ∀ w : List (List Int), w.length ≤ k + 1 → (alw ss w i ↔ alw ss w j) := h
    have hr : ss[i].map rdOf = ss[j].map rdOf := by
      refine sorted_unique (lt := fun a b => cmpL a b < 0) cmpL_asymm hx hy fun r => ?_
      have h1 := key [r] (by simp)
      simp only [alw, and_true] at h1
      rw [toI_in mi, toI_in mj, getD_eq hi, getD_eq hj] at h1
      exact h1
    rw [sig_toI hx, sig_toI hy, hr]
    refine List.map_congr_left fun r hrm => ?_
    have a1 : 0 ≤ toI r (ss.getD i []) := (toI_in mi).2 (by rw [getD_eq hi, hr]; exact hrm)
    have a2 : 0 ≤ toI r (ss.getD j []) := (toI_in mj).2 (by rw [getD_eq hj]; exact hrm)
    have b1 := (toI_st hM hi r).2
    have b2 := (toI_st hM hj r).2
    have e := stL_of_alw hM hA k (toI r (ss.getD i [])).toNat (toI r (ss.getD j [])).toNat (by omega) (by omega) fun w hw => by
      have h1 := key (r :: w) (by simpa using hw)
      simp only [alw, a1, a2, true_and] at h1
      exact h1
    rw [getD_eq hi, getD_eq hj] at e
    rw [e]
theorem part_stab (hT : ToOK ss) (h0 : 0 < ss.length) (d : Nat) : stL ss (ss.length + d) = part ss := by
  by_cases h : ∃ k, k < ss.length ∧ cntL ss (k + 1) = cntL ss k
  · obtain ⟨k, hk, he⟩ := h
    have h1 := stL_stop hT he
    have h2 := stL_fix h1
    have e1 := h2 (ss.length - (k + 1))
    have e2 := h2 (ss.length + d - (k + 1))
    rw [show k + 1 + (ss.length - (k + 1)) = ss.length by omega] at e1
    rw [show k + 1 + (ss.length + d - (k + 1)) = ss.length + d by omega] at e2
    rw [e2, part, e1]
  · have h1 := cntL_grow hT h0 ss.length (fun j hj he => h ⟨j, hj, he⟩)
    have h2 := cntL_le ss ss.length
    omega
/-- States of one class. -/
def SameK (ss : List (List (List Int))) (i j : Nat) : Prop := i < ss.length ∧ j < ss.length ∧ keyL (part ss) i = keyL (part ss) j
theorem part_sim (hT : ToOK ss) (h0 : 0 < ss.length) : SimR (SameK ss) ss ss := fun i j h => by
  obtain ⟨hi, hj, e⟩ := h
  have e2 : (lbl (sigs ss (part ss))).getD i 0 = (lbl (sigs ss (part ss))).getD j 0 := by
    have : lbl (sigs ss (part ss)) = part ss := part_stab hT h0 1
    rw [this]; exact e
  rw [lbl_sigs hi hj] at e2
  rw [getD_eq hi, getD_eq hj]
  refine All2.of_map' (f := fun m => (rdOf m, (part ss).getD (mvTo m) 0)) (g := fun m => (rdOf m, (part ss).getD (mvTo m) 0)) (fun a ha b hb hab => ?_) e2
  rw [Prod.mk.injEq] at hab
  exact ⟨hab.1, hT _ (List.getElem_mem hi) a ha, hT _ (List.getElem_mem hj) b hb, hab.2⟩
/-- Classes are classes of languages. -/
theorem part_alw (hM : LeadOK ss) (hA : ∀ s ∈ ss, AscL (s.map rdOf)) {i j : Nat} (hi : i < ss.length) (hj : j < ss.length) : keyL (part ss) i = keyL (part ss) j ↔ ∀ w, alw ss w i ↔ alw ss w j := by
  constructor
  · intro h w
    exact alw_lock (part_sim hM.toOK (by omega)) hM hM ⟨hi, hj, h⟩
  · intro h
    exact stL_of_alw hM hA ss.length i j hi hj fun w _ => h w
theorem keyR_of (hS : SimR ρ ss tt) (hM : LeadOK ss) (hM' : LeadOK tt) (hA : ∀ s ∈ ss, AscL (s.map rdOf)) (hA' : ∀ s ∈ tt, AscL (s.map rdOf)) (hb : ∀ s t, ρ s t → s < ss.length ∧ t < tt.length) : KeyR ρ (keyL (part ss)) (keyL (part tt)) := fun s t s' t' h h' => by
  obtain ⟨a1, a2⟩ := hb s t h
  obtain ⟨b1, b2⟩ := hb s' t' h'
  rw [part_alw hM hA a1 b1, part_alw hM' hA' a2 b2]
  constructor
  · intro h1 w
    rw [← alw_lock hS hM hM' h, ← alw_lock hS hM hM' h', h1 w]
  · intro h1 w
    rw [alw_lock hS hM hM' h, alw_lock hS hM hM' h', h1 w]
/-- Systems with the same language have the same canonical form. -/
theorem canS_lock (h : ClsOK ss) (h' : ClsOK tt) (hA : ∀ s ∈ ss, AscL (s.map rdOf)) (hA' : ∀ s ∈ tt, AscL (s.map rdOf)) (hS : SimR ρ ss tt) (hb : ∀ s t, ρ s t → s < ss.length ∧ t < tt.length) (h0 : ρ 0 0) : canS ss = canS tt :=
  CanF.uniq ((canS_F h).lock hS (keyR_of hS (LeadOK.ofCls h) (LeadOK.ofCls h') hA hA' hb) h0) (canS_F h')
end
end Go.Proofs.YtfihpofdoffclaaGreatDoor

/- Well-formed adversaries state by state; an adversary whose states were split. Plain lists. -/
namespace Go.Proofs.YtfihpofdoffclaaGreatDoor

/-- What is asked of one state. -/
def StW (n : Int) (ss : List (List (List Int))) (s : Nat) : Prop :=
  0 < (ss.getD s []).length ∧ AscL ((ss.getD s []).map rdOf) ∧ ∀ m ∈ ss.getD s [], chkRd (rdOf m) = 0 ∧ (rdOf m).getD 0 0 = n ∧ ∀ k ∈ ss.getD (mvTo m) [], insideB ((rdOf m).getD 6 0) ((rdOf k).getD 6 0) = true
theorem rdOf_at {m : List Int} {j : Nat} (h : j < 7) : (rdOf m).getD j 0 = m.getD j 0 := getD_take7 h
theorem grows_iff {ss : List (List (List Int))} : growsB ss = true ↔ ∀ s ∈ ss, ∀ m ∈ s, ∀ k ∈ ss.getD (mvTo m) [], insideB ((rdOf m).getD 6 0) ((rdOf k).getD 6 0) = true := by
  simp only [growsB, gr2, gr3, List.all_eq_true, rdOf_at (show 6 < 7 by decide)]
  exact Iff.rfl
theorem mvGo_of {n : Int} {len : Nat} {ms : List (List Int)} : ∀ {k i : Nat}, (∀ j, i ≤ j → j < i + k → mvErr n len ms j = 0) → mvGo n len ms i k = 0
  | 0, _, _ => rfl
  | k + 1, i, h => by
    rw [mvGo_step (h i (Nat.le_refl _) (by omega))]
    exact mvGo_of fun j h1 h2 => h j (by omega) (by omega)
theorem ssGo_of {n : Int} {len : Nat} : ∀ {ss : List (List (List Int))}, (∀ s ∈ ss, stErr n len s = 0) → ssGo n len ss = 0
  | [], _ => rfl
  | s :: r, h => by
    rw [ssGo, if_neg (fun k => k (h s (by simp)))]
    exact ssGo_of fun x hx => h x (by simp [hx])
theorem chkA_of {n : Int} {ss : List (List (List Int))} (hn : 1 ≤ n ∧ n ≤ 5) (hl : 1 ≤ ss.length ∧ ss.length ≤ 256) (hm : movesN ss ≤ 4096) (hM : LeadOK ss) (hs : ∀ s, s < ss.length → StW n ss s) : chkA n ss = 0 := by
  have hss : ∀ s ∈ ss, ∃ i, i < ss.length ∧ ss.getD i [] = s := fun s hs => by
    obtain ⟨i, hi, rfl⟩ := List.getElem_of_mem hs
    exact ⟨i, hi, getD_eq hi _⟩
  have h1 : ssGo n ss.length ss = 0 := ssGo_of fun s hsm => by
    obtain ⟨i, hi, e⟩ := hss s hsm
    obtain ⟨a1, a2, a3⟩ := hs i hi
    rw [e] at a1 a2 a3
    unfold stErr
    rw [if_neg (by omega)]
    refine mvGo_of fun j _ hj => ?_
    have hj : j < s.length := by omega
    have hm : s.getD j [] ∈ s := by rw [getD_eq hj]; exact List.getElem_mem hj
    obtain ⟨b1, b2, _⟩ := a3 _ hm
    obtain ⟨c1, c2⟩ := hM s hsm _ hm
    refine mvErr_5 rfl b1 (by rw [← rdOf_at (by decide)]; exact b2) (fun hh => ?_) (by omega)
    have hp := List.pairwise_iff_getElem.1 a2 (j - 1) j (by rw [List.length_map]; omega) (by rw [List.length_map]; exact hj) (by omega)
    rw [List.getElem_map, List.getElem_map] at hp
    rw [getD_eq hj, getD_eq (show j - 1 < s.length by omega)] at hh
    have := hh.2
    unfold rdOf at hp
    omega
  have h2 : growsB ss = true := grows_iff.2 fun s hsm m hmm k hk => by
    obtain ⟨i, hi, e⟩ := hss s hsm
    obtain ⟨_, _, a3⟩ := hs i hi
    rw [e] at a3
    exact (a3 m hmm).2.2 k hk
  unfold chkA
  rw [if_neg (by omega), if_neg (by omega), if_neg (fun k => k h1), if_pos h2]
theorem stW_of {n : Int} {ss : List (List (List Int))} (h : chkA n ss = 0) (s : Nat) (hs : s < ss.length) : StW n ss s := by
  obtain ⟨_, _, h3, h4⟩ := chkA_facts h
  have hsm : ss.getD s [] ∈ ss := by rw [getD_eq hs]; exact List.getElem_mem hs
  have h5 := ssGo_zero h3 _ hsm
  unfold stErr at h5
  by_cases he : (ss.getD s []).length = 0
  · rw [if_pos he] at h5; cases h5
  rw [if_neg he] at h5
  refine ⟨by omega, ascL_of h _ hsm, fun m hm => ?_⟩
  obtain ⟨j, hj, e⟩ := List.getElem_of_mem hm
  obtain ⟨c1, c2, _, _, _⟩ := mvErr_zero (mvGo_zero h5 j (by omega) (by omega))
  rw [getD_eq hj, e] at c1 c2
  exact ⟨c1, by rw [rdOf_at (by decide)]; exact c2, fun k hk => grows_iff.1 h4 _ hsm m hm k hk⟩
theorem All2.mem_r {α β : Type} {R : α → β → Prop} : ∀ {l : List α} {m : List β} {b : β}, All2 R l m → b ∈ m → ∃ a ∈ l, R a b
  | [], [], _, _, h => by cases h
  | a :: l, b :: m, x, h, hx => by
    rcases List.mem_cons.1 hx with rfl | hx
    · exact ⟨a, by simp, h.1⟩
    · obtain ⟨y, hy, hr⟩ := All2.mem_r h.2 hx
      exact ⟨y, by simp [hy], hr⟩
  | [], _ :: _, _, h, _ => h.elim
  | _ :: _, [], _, h, _ => h.elim
theorem StW.lock {ρ : Nat → Nat → Prop} {n : Int} {ss tt : List (List (List Int))} (hS : SimR ρ ss tt) {s t : Nat} (hr : ρ s t) (h : StW n ss s) : StW n tt t := by
  obtain ⟨h1, h2, h3⟩ := h
  have hA := hS s t hr
  have he : (ss.getD s []).map rdOf = (tt.getD t []).map rdOf := All2.map_eq (R := MvR ρ) (fun a b hab => hab.1) hA
  refine ⟨by rw [← hA.len]; exact h1, by rw [← he]; exact h2, fun m hm => ?_⟩
  obtain ⟨m0, hm0, e1, e2⟩ := hA.mem_r hm
  obtain ⟨a1, a2, a3⟩ := h3 m0 hm0
  rw [← e1]
  refine ⟨a1, a2, fun k hk => ?_⟩
  obtain ⟨k0, hk0, f1, _⟩ := (hS _ _ e2).mem_r hk
  rw [← f1]
  exact a3 k0 hk0

section
variable {ss : List (List (List Int))} {bt : Nat → Int}
end
end Go.Proofs.YtfihpofdoffclaaGreatDoor

/- What the search for a distinguishing word finds: plain lists. -/
namespace Go.Proofs.YtfihpofdoffclaaGreatDoor

theorem afterI_app {ss : List (List (List Int))} {v : List (List Int)} : ∀ {u : List (List Int)} {s : Nat}, afterI ss (u ++ v) s = if afterI ss u s < 0 then -1 else afterI ss v (afterI ss u s).toNat
  | [], s => by
    rw [List.nil_append, afterI, if_neg (by omega), Int.toNat_natCast]
  | r :: u, s => by
    rw [List.cons_append, afterI, afterI]
    by_cases h : toI r (ss.getD s []) < 0
    · rw [if_pos h, if_pos h, if_pos (by decide)]
    · rw [if_neg h, if_neg h, afterI_app]
theorem afterI_one {ss : List (List (List Int))} {r : List Int} {s : Nat} : afterI ss [r] s = if toI r (ss.getD s []) < 0 then -1 else toI r (ss.getD s []) := by
  rw [afterI]
  by_cases h : toI r (ss.getD s []) < 0
  · rw [if_pos h, if_pos h]
  · rw [if_neg h, if_neg h, afterI]; omega
theorem alw_snoc {ss : List (List (List Int))} {u : List (List Int)} {r : List Int} {s p : Nat} (h : afterI ss u s = (p : Int)) : alw ss (u ++ [r]) s ↔ 0 ≤ toI r (ss.getD p []) := by
  rw [alw_after, afterI_app, h, if_neg (by omega), Int.toNat_natCast, afterI_one]
  split
  · constructor
    · intro h; exact absurd h (by decide)
    · intro h; omega
  · rfl
theorem alw_pre {ss : List (List (List Int))} {u v : List (List Int)} {s : Nat} (h : alw ss (u ++ v) s) : alw ss u s := by
  rw [alw_after] at h ⊢
  rw [afterI_app] at h
  by_cases hu : afterI ss u s < 0
  · rw [if_pos hu] at h; exact absurd h (by decide)
  · omega

section
variable (ss : List (List (List Int))) (s t : Nat)
/-- The queue so far: the first m items were searched, and of item m the rounds D. -/
structure BfsInv (m : Nat) (D : List (List Int)) (Q : List It) : Prop where
  zero : 0 < Q.length ∧ Q.getD 0 ((0, 0), []) = ((s, t), [])
  run : ∀ j, j < Q.length → afterI ss (Q.getD j ((0, 0), [])).2 s = ((Q.getD j ((0, 0), [])).1.1 : Int) ∧ afterI ss (Q.getD j ((0, 0), [])).2 t = ((Q.getD j ((0, 0), [])).1.2 : Int)
  up : ∀ i j, i ≤ j → j < Q.length → (Q.getD i ((0, 0), [])).2.length ≤ (Q.getD j ((0, 0), [])).2.length
  top : m < Q.length → ∀ j, j < Q.length → (Q.getD j ((0, 0), [])).2.length ≤ (Q.getD m ((0, 0), [])).2.length + 1
  old : ∀ i, i < Q.length → ∀ r, (i < m ∧ r ∈ ltr ss (Q.getD i ((0, 0), [])).1.1 (Q.getD i ((0, 0), [])).1.2) ∨ (i = m ∧ r ∈ D) →
    0 ≤ toI r (ss.getD (Q.getD i ((0, 0), [])).1.1 []) ∧ 0 ≤ toI r (ss.getD (Q.getD i ((0, 0), [])).1.2 []) ∧ ∃ y ∈ Q, y.1 = dP ss r (Q.getD i ((0, 0), [])).1 ∧ y.2.length ≤ (Q.getD i ((0, 0), [])).2.length + 1
end
section
variable {ss : List (List (List Int))} {s t : Nat}
theorem ltr_mem (hM : LeadOK ss) {p q : Nat} {r : List Int} : r ∈ ltr ss p q ↔ 0 ≤ toI r (ss.getD p []) ∨ 0 ≤ toI r (ss.getD q []) := by
  rw [ltr, mg_mem, toI_in (lead_mem hM p), toI_in (lead_mem hM q)]
/-- Words that are no longer than what was searched tell nothing apart. -/
theorem BfsInv.reach (hM : LeadOK ss) {m : Nat} {D : List (List Int)} {Q : List It} (h : BfsInv ss s t m D Q) {L : Nat} (hL : ∀ j, j < Q.length → (Q.getD j ((0, 0), [])).2.length < L → j < m) :
    ∀ (N : Nat) (u : List (List Int)), u.length = N → N ≤ L → (∃ y ∈ Q, afterI ss u s = (y.1.1 : Int) ∧ afterI ss u t = (y.1.2 : Int) ∧ y.2.length ≤ u.length) ∨ (¬ alw ss u s ∧ ¬ alw ss u t)
  | 0, u, hu, _ => by
    obtain rfl := List.length_eq_zero_iff.1 hu
    left
    refine ⟨((s, t), []), ?_, rfl, rfl, Nat.le_refl _⟩
    rw [← h.zero.2, getD_eq h.zero.1]
    exact List.getElem_mem _
  | N + 1, u, hu, hN => by
    have hne : u ≠ [] := fun e => by rw [e] at hu; simp at hu
    obtain ⟨u', r, rfl⟩ : ∃ u' r, u = u' ++ [r] := ⟨u.dropLast, u.getLast hne, (List.dropLast_concat_getLast hne).symm⟩
    rw [List.length_append] at hu
    have hu' : u'.length = N := by simpa using hu
    rcases BfsInv.reach hM h hL N u' hu' (by omega) with ⟨y, hy, h1, h2, h3⟩ | ⟨h1, h2⟩
    · obtain ⟨i, hi, hiy⟩ := List.getElem_of_mem hy
      have hgi : Q.getD i ((0, 0), []) = y := by rw [getD_eq hi]; exact hiy
      have him : i < m := hL i hi (by rw [hgi]; omega)
      by_cases hr : r ∈ ltr ss y.1.1 y.1.2
      · obtain ⟨a1, a2, z, hz, a3, a4⟩ := h.old i hi r (.inl ⟨him, by rw [hgi]; exact hr⟩)
        rw [hgi] at a1 a2 a3 a4
        left
        refine ⟨z, hz, ?_, ?_, by rw [List.length_append]; simp; omega⟩
        · rw [afterI_app, h1, if_neg (by omega), Int.toNat_natCast, afterI_one, if_neg (by omega), a3]
          show _ = (((toI r (ss.getD y.1.1 [])).toNat : Nat) : Int)
          omega
        · rw [afterI_app, h2, if_neg (by omega), Int.toNat_natCast, afterI_one, if_neg (by omega), a3]
          show _ = (((toI r (ss.getD y.1.2 [])).toNat : Nat) : Int)
          omega
      · right
        rw [ltr_mem hM, not_or] at hr
        rw [alw_snoc h1, alw_snoc h2]
        exact hr
    · right
      exact ⟨fun hh => h1 (alw_pre hh), fun hh => h2 (alw_pre hh)⟩
theorem BfsInv.same (hM : LeadOK ss) {m : Nat} {D : List (List Int)} {Q : List It} (h : BfsInv ss s t m D Q) {L : Nat} (hL : ∀ j, j < Q.length → (Q.getD j ((0, 0), [])).2.length < L → j < m) {u : List (List Int)} (hu : u.length ≤ L) : alw ss u s ↔ alw ss u t := by
  rcases h.reach hM hL _ u rfl hu with ⟨y, _, h1, h2, _⟩ | ⟨h1, h2⟩
  · rw [alw_after, alw_after, h1, h2]
    exact ⟨fun _ => by omega, fun _ => by omega⟩
  · exact ⟨fun h => absurd h h1, fun h => absurd h h2⟩
end
end Go.Proofs.YtfihpofdoffclaaGreatDoor

/- The canonical form: it is well-formed, has the same words, is minimal and its own form. Plain lists. -/
namespace Go.Proofs.YtfihpofdoffclaaGreatDoor

theorem movesN_perm {a b : List (List (List Int))} (h : a.Perm b) : movesN a = movesN b := by
  induction h with
  | nil => rfl
  | cons x _ ih => simp only [movesN, List.map_cons, List.foldr_cons] at ih ⊢; omega
  | swap x y l => simp only [movesN, List.map_cons, List.foldr_cons]; omega
  | trans _ _ h1 h2 => omega
theorem movesN_pick {g : Nat → List (List Int)} : ∀ {n : Nat} {o : List Nat}, o.Nodup → (∀ i ∈ o, i < n) → movesN (o.map g) ≤ movesN ((List.range n).map g)
  | 0, o, _, h => by
    cases o with
    | nil => simp [movesN]
    | cons a r => exact absurd (h a (by simp)) (Nat.not_lt_zero _)
  | n + 1, o, hn, h => by
    rw [List.range_succ, List.map_append, movesN_app]
    by_cases hm : n ∈ o
    · have hp := List.perm_cons_erase hm
      rw [movesN_perm (hp.map g)]
      have ih := movesN_pick (g := g) (n := n) (o := o.erase n) (hn.erase n) fun i hi => by
        have h1 := (List.Nodup.mem_erase_iff hn).1 hi
        have h2 := h i h1.2
        omega
      simp only [movesN, List.map_cons, List.foldr_cons, List.map_nil, List.foldr_nil] at ih ⊢
      omega
    · have ih := movesN_pick (g := g) (n := n) (o := o) hn fun i hi => by
        have h2 := h i hi
        have : i ≠ n := fun e => hm (e ▸ hi)
        omega
      omega
theorem range_getD {α : Type} {l : List α} {d : α} : (List.range l.length).map (fun i => l.getD i d) = l := by
  refine List.ext_getElem (by simp) fun i h1 h2 => ?_
  rw [List.getElem_map, List.getElem_range, getD_eq h2]

section
/-- A small, well-formed adversary. -/
def SmA (n : Int) (ss : List (List (List Int))) : Prop := (∀ s ∈ ss, ∀ m ∈ s, m.length = 8) ∧ chkA n ss = 0 ∧ ss.length ≤ 90 ∧ movesN ss ≤ 90
variable {n : Int} {ss : List (List (List Int))}
/-- A state, and its number in the canonical form. -/
def CanR (ss : List (List (List Int))) (i k : Nat) : Prop := i < ss.length ∧ k < (ordC ss).1.length ∧ keyL (part ss) i = keyL (part ss) ((ordC ss).1.getD k 0)
theorem canS_len : (canS ss).length = (ordC ss).1.length := by rw [canS, formC, List.length_map]
theorem ordC_facts (hW : SmA n ss) : (∀ a, a < (ordC ss).1.length → ∀ m ∈ ss.getD ((ordC ss).1.getD a 0) [], keyL (part ss) (mvTo m) ∈ (ordC ss).1.map (keyL (part ss))) ∧ ((ordC ss).1.map (keyL (part ss))).Nodup ∧ (∃ t, (ordC ss).1 = 0 :: t) ∧ (ordC ss).1.length ≤ ss.length ∧ ∀ x ∈ (ordC ss).1, x < ss.length := by
  obtain ⟨h8, h0, hl, hm⟩ := id hW
  have hO := clsOK_of hW.1 hW.2.1 hW.2.2.1 hW.2.2.2
  obtain ⟨h1, h2, h3⟩ := ordC_eq hO
  refine ⟨srch_closed h1 (by omega) (fun a ha => absurd ha (Nat.not_lt_zero _)), srch_nodup h1 (by simp), ?_, h2, h3⟩
  obtain ⟨t, ht⟩ := srch_pre h1
  exact ⟨t, ht⟩
theorem canS_at (hW : SmA n ss) {k : Nat} (hk : k < (ordC ss).1.length) : (canS ss).getD k [] = (ss.getD ((ordC ss).1.getD k 0) []).map fun m => rdOf m ++ [((numK ((ordC ss).1.map (keyL (part ss))) (keyL (part ss) (mvTo m)) : Nat) : Int)] := by
  obtain ⟨h8, h0, hl, hm⟩ := id hW
  rw [canS, formC_K h8, formK, List.getD_eq_getElem?_getD, List.getElem?_map, List.getElem?_eq_getElem hk, getD_eq hk]; rfl
theorem rd_snoc {m : List Int} (hm8 : m.length = 8) (v : Nat) : rdOf (rdOf m ++ [(v : Int)]) = rdOf m ∧ mvTo (rdOf m ++ [(v : Int)]) = v ∧ (rdOf m ++ [(v : Int)]).getD 7 0 = (v : Int) ∧ (rdOf m ++ [(v : Int)]).length = 8 := by
  have hl7 : (rdOf m).length = 7 := by rw [rdOf, List.length_take, hm8]; rfl
  have h7 : (rdOf m ++ [(v : Int)]).getD 7 0 = (v : Int) := by rw [List.getD_eq_getElem?_getD, List.getElem?_append_right (by omega), hl7]; rfl
  refine ⟨?_, ?_, h7, by rw [List.length_append, hl7]; rfl⟩
  · show (rdOf m ++ [_]).take 7 = _
    rw [← hl7, List.take_left]
  · unfold mvTo; rw [h7]; rfl
theorem numK_key {x : Nat} (hx : keyL (part ss) x ∈ (ordC ss).1.map (keyL (part ss))) : numK ((ordC ss).1.map (keyL (part ss))) (keyL (part ss) x) < (ordC ss).1.length ∧ keyL (part ss) ((ordC ss).1.getD (numK ((ordC ss).1.map (keyL (part ss))) (keyL (part ss) x)) 0) = keyL (part ss) x := by
  rw [numK, if_pos hx]
  have h1 := ixOf_lt hx
  rw [List.length_map] at h1
  refine ⟨h1, ?_⟩
  have h2 := List.getElem_idxOf (List.idxOf_lt_length_of_mem hx)
  rw [List.getElem_map] at h2
  rw [getD_eq h1]
  exact h2
theorem mem_at (hW : SmA n ss) {i : Nat} {m : List Int} (hmm : m ∈ ss.getD i []) : m.length = 8 := by
  obtain ⟨h8, h0, hl, hm⟩ := id hW
  by_cases hi : i < ss.length
  · rw [getD_eq hi] at hmm; exact h8 _ (List.getElem_mem hi) m hmm
  · rw [List.getD_eq_getElem?_getD, List.getElem?_eq_none (by omega)] at hmm; cases hmm
theorem canSim (hW : SmA n ss) : SimR (CanR ss) ss (canS ss) := fun i k h => by
  obtain ⟨h8, h0, hl, hm⟩ := id hW
  obtain ⟨hi, hk, e⟩ := h
  obtain ⟨f1, f2, _, f4, f5⟩ := ordC_facts hW
  have hO := clsOK_of hW.1 hW.2.1 hW.2.2.1 hW.2.2.2
  have hok : (ordC ss).1.getD k 0 < ss.length := f5 _ (by rw [getD_eq hk]; exact List.getElem_mem hk)
  have hA := part_sim hO.toOK hO.2.2.1 i ((ordC ss).1.getD k 0) ⟨hi, hok, e⟩
  rw [canS_at hW hk]
  have hcl := f1 k hk
  have hmem : ∀ m ∈ ss.getD ((ordC ss).1.getD k 0) [], m.length = 8 := fun m hmm => mem_at hW hmm
  revert hA hcl hmem
  generalize ss.getD i [] = A
  generalize ss.getD ((ordC ss).1.getD k 0) [] = B
  intro hA hcl hmem
  induction A generalizing B with
  | nil => cases B with
    | nil => trivial
    | cons _ _ => exact hA.elim
  | cons a A ih => cases B with
    | nil => exact hA.elim
    | cons b B =>
      obtain ⟨⟨r1, r2⟩, r3⟩ := hA
      have h8b := hmem b (by simp)
      obtain ⟨q1, q2, _, _⟩ := rd_snoc h8b (numK ((ordC ss).1.map (keyL (part ss))) (keyL (part ss) (mvTo b)))
      obtain ⟨n1, n2⟩ := numK_key (hcl b (by simp))
      refine ⟨⟨?_, ?_, ?_, ?_⟩, ih B r3 (fun m hm' => hcl m (by simp [hm'])) fun m hm' => hmem m (by simp [hm'])⟩
      · rw [q1]; exact r1
      · exact r2.1
      · rw [q2]; exact n1
      · rw [q2, n2]; exact r2.2.2
theorem canS_mem (hW : SmA n ss) {s : List (List Int)} (hs : s ∈ canS ss) {m : List Int} (hms : m ∈ s) : m.length = 8 ∧ 0 ≤ m.getD 7 0 ∧ m.getD 7 0 < ((canS ss).length : Int) := by
  obtain ⟨h8, h0, hl, hm⟩ := id hW
  obtain ⟨k, hk, rfl⟩ := List.getElem_of_mem hs
  have hk' : k < (ordC ss).1.length := by rw [canS_len] at hk; exact hk
  have he := canS_at hW hk'
  rw [getD_eq hk] at he
  rw [he] at hms
  obtain ⟨m0, hm0, rfl⟩ := List.mem_map.1 hms
  obtain ⟨f1, _⟩ := ordC_facts hW
  obtain ⟨n1, _⟩ := numK_key (f1 k hk' m0 hm0)
  obtain ⟨_, _, q3, q4⟩ := rd_snoc (mem_at hW hm0) (numK ((ordC ss).1.map (keyL (part ss))) (keyL (part ss) (mvTo m0)))
  rw [q3, canS_len]
  exact ⟨q4, by omega, by omega⟩
theorem canS_lead (hW : SmA n ss) : LeadOK (canS ss) := fun _ hs _ hms => (canS_mem hW hs hms).2
theorem canS_len8 (hW : SmA n ss) : ∀ s ∈ canS ss, ∀ m ∈ s, m.length = 8 := fun _ hs _ hms => (canS_mem hW hs hms).1
theorem canS_moves (hW : SmA n ss) : movesN (canS ss) ≤ movesN ss := by
  obtain ⟨h8, h0, hl, hm⟩ := id hW
  obtain ⟨_, f2, _, _, f5⟩ := ordC_facts hW
  have h1 : movesN (canS ss) = movesN ((ordC ss).1.map fun i => ss.getD i []) := by
    unfold movesN
    congr 1
    rw [canS, formC, List.map_map, List.map_map]
    refine List.map_congr_left fun i _ => ?_
    show (formSt ss _ _ i).length = (ss.getD i []).length
    rw [formSt, List.length_map]
  have h2 := movesN_pick (g := fun i => ss.getD i []) (nodup_of_map f2) f5
  rw [range_getD] at h2
  omega
theorem canS_small (hW : SmA n ss) : 1 ≤ (canS ss).length ∧ (canS ss).length ≤ ss.length := by
  obtain ⟨_, _, ⟨t, ht⟩, f4, _⟩ := ordC_facts hW
  rw [canS_len]
  exact ⟨by rw [ht]; simp, f4⟩
theorem canR_zero (hW : SmA n ss) : CanR ss 0 0 := by
  obtain ⟨h8, h0, hl, hm⟩ := id hW
  obtain ⟨_, _, ⟨t, ht⟩, f4, _⟩ := ordC_facts hW
  refine ⟨?_, by rw [ht]; simp, by rw [ht]; rfl⟩
  rw [ht] at f4; simp at f4; omega
theorem canR_of (hW : SmA n ss) {k : Nat} (hk : k < (canS ss).length) : CanR ss ((ordC ss).1.getD k 0) k := by
  obtain ⟨_, _, _, _, f5⟩ := ordC_facts hW
  rw [canS_len] at hk
  exact ⟨f5 _ (by rw [getD_eq hk]; exact List.getElem_mem hk), hk, rfl⟩
theorem canS_chk (hW : SmA n ss) : chkA n (canS ss) = 0 := by
  obtain ⟨h8, h0, hl, hm⟩ := id hW
  obtain ⟨a1, _, _, _⟩ := chkA_facts h0
  obtain ⟨b1, b2⟩ := canS_small hW
  have b3 := canS_moves hW
  refine chkA_of a1 ⟨b1, by omega⟩ (by omega) (canS_lead hW) fun k hk => ?_
  have hr := canR_of hW hk
  exact StW.lock (canSim hW) hr (stW_of h0 _ hr.1)
theorem canS_cls (hW : SmA n ss) : ClsOK (canS ss) := by
  obtain ⟨h8, h0, hl, hm⟩ := id hW
  obtain ⟨b1, b2⟩ := canS_small hW
  have b3 := canS_moves hW
  exact clsOK_of (canS_len8 hW) (canS_chk hW) (by omega) (by omega)
/-- The form of the form. -/
theorem canS_idem (hW : SmA n ss) : canS (canS ss) = canS ss := by
  obtain ⟨h8, h0, hl, hm⟩ := id hW
  refine (canS_lock (ρ := CanR ss) (clsOK_of hW.1 hW.2.1 hW.2.2.1 hW.2.2.2) (canS_cls hW) (ascL_of h0) (ascL_of (canS_chk hW)) (canSim hW) (fun s t h => ⟨h.1, ?_⟩) (canR_zero hW)).symm
  rw [canS_len]; exact h.2.1
end
end Go.Proofs.YtfihpofdoffclaaGreatDoor

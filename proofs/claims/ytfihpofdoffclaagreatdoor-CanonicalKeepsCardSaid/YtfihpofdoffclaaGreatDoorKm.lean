/- Texts of this claim, put together: P0 B0 B1. -/
import Derived.Test.YtfihpofdoffclaaGreatDoorKd
import Derived.Test.YtfihpofdoffclaaGreatDoorKb
import Derived.Test.YtfihpofdoffclaaGreatDoorKh
import Derived.Sort.LoopGhostIn
import Derived.Deep.LoopGhost
import Derived.OwnWalkIn
import Derived.TacticsInMore
import Derived.LoopNIn
import Derived.LoopIn
import Derived.Shelf.RegionOpen

/- The classes are the reference's partition: plain lists. -/
namespace Go.Proofs.YtfihpofdoffclaaGreatDoor

section
variable {κ κ' : Type} [DecidableEq κ] [DecidableEq κ']
theorem nodup_sub_le : ∀ {a b : List κ}, a.Nodup → (∀ x ∈ a, x ∈ b) → a.length ≤ b.length
  | [], _, _, _ => Nat.zero_le _
  | x :: r, b, hn, hs => by
    rw [List.nodup_cons] at hn
    have hx : x ∈ b := hs x (by simp)
    have h1 : ∀ y ∈ r, y ∈ b.erase x := fun y hy => by
      have hne : y ≠ x := fun e => hn.1 (e ▸ hy)
      exact (List.mem_erase_of_ne hne).2 (hs y (by simp [hy]))
    have h2 := nodup_sub_le hn.2 h1
    rw [List.length_erase_of_mem hx] at h2
    have h3 : 0 < b.length := List.length_pos_of_mem hx
    rw [List.length_cons]; omega
theorem nodup_of_sub : ∀ {b a : List κ}, a.Nodup → (∀ x ∈ a, x ∈ b) → b.length ≤ a.length → b.Nodup
  | [], _, _, _, _ => List.nodup_nil
  | y :: r, a, hn, hs, hl => by
    rw [List.length_cons] at hl
    by_cases hy : y ∈ r
    · have h1 : ∀ x ∈ a, x ∈ r := fun x hx => by
        rcases List.mem_cons.1 (hs x hx) with e | h
        · exact e ▸ hy
        · exact h
      have := nodup_sub_le hn h1
      omega
    · rw [List.nodup_cons]
      refine ⟨hy, nodup_of_sub (a := a.erase y) (hn.erase y) (fun x hx => ?_) ?_⟩
      · have hx' := (List.Nodup.mem_erase_iff hn).1 hx
        rcases List.mem_cons.1 (hs x hx'.2) with e | h
        · exact absurd e hx'.1
        · exact h
      · by_cases hya : y ∈ a
        · rw [List.length_erase_of_mem hya]; omega
        · rw [List.erase_of_not_mem hya]; omega
omit [DecidableEq κ] [DecidableEq κ'] in
theorem inj_of_map {g : κ → κ'} : ∀ {l : List κ}, (l.map g).Nodup → ∀ x ∈ l, ∀ y ∈ l, g x = g y → x = y
  | [], _, x, hx, _, _, _ => by cases hx
  | a :: r, h, x, hx, y, hy, e => by
    rw [List.map_cons, List.nodup_cons] at h
    rcases List.mem_cons.1 hx with hx1 | hx1
    · rcases List.mem_cons.1 hy with hy1 | hy1
      · rw [hx1, hy1]
      · exact absurd (by rw [← hx1, e]; exact List.mem_map_of_mem hy1) h.1
    · rcases List.mem_cons.1 hy with hy1 | hy1
      · exact absurd (by rw [← hy1, ← e]; exact List.mem_map_of_mem hx1) h.1
      · exact inj_of_map h.2 x hx1 y hy1 e
/-- Finer keys: as many of them or more; as many only if they are not finer. -/
theorem dd_finer {ks : List κ} {ks' : List κ'} (hl : ks.length = ks'.length) (h : ∀ i j (hi : i < ks.length) (hj : j < ks.length), ks'[i]'(hl ▸ hi) = ks'[j]'(hl ▸ hj) → ks[i] = ks[j]) :
    (dd [] ks).length ≤ (dd [] ks').length ∧ ((dd [] ks').length ≤ (dd [] ks).length → ∀ i j (hi : i < ks.length) (hj : j < ks.length), ks[i] = ks[j] → ks'[i]'(hl ▸ hi) = ks'[j]'(hl ▸ hj)) := by
  rcases Nat.eq_zero_or_pos ks.length with h0 | h0
  · have e1 : ks = [] := List.length_eq_zero_iff.1 h0
    have e2 : ks' = [] := List.length_eq_zero_iff.1 (by omega)
    subst e1 e2
    exact ⟨Nat.le_refl _, fun _ i j hi => absurd hi (Nat.not_lt_zero _)⟩
  · obtain ⟨d, _⟩ : ∃ d, d = ks[0] := ⟨_, rfl⟩
    let g : κ' → κ := fun x' => ks.getD (ks'.idxOf x') d
    have hg : ∀ i (hi : i < ks.length), g (ks'[i]'(hl ▸ hi)) = ks[i] := fun i hi => by
      have hm : ks'[i]'(hl ▸ hi) ∈ ks' := List.getElem_mem _
      have hj : ks'.idxOf (ks'[i]'(hl ▸ hi)) < ks'.length := List.idxOf_lt_length_of_mem hm
      show ks.getD _ d = _
      rw [List.getD_eq_getElem?_getD, List.getElem?_eq_getElem (by omega), Option.getD_some]
      exact h _ _ (by omega) hi (List.getElem_idxOf hj)
    have hsub : ∀ x ∈ dd [] ks, x ∈ (dd [] ks').map g := fun x hx => by
      have hx2 : x ∈ ks := by
        rcases mem_dd hx with h' | h'
        · cases h'
        · exact h'
      obtain ⟨i, hi, rfl⟩ := List.getElem_of_mem hx2
      rw [← hg i hi]
      exact List.mem_map_of_mem (dd_mem (List.getElem_mem _))
    have hn : (dd [] ks).Nodup := dd_nodup List.nodup_nil
    have h1 := nodup_sub_le hn hsub
    rw [List.length_map] at h1
    refine ⟨h1, fun h2 i j hi hj e => ?_⟩
    have hnd := nodup_of_sub hn hsub (by rw [List.length_map]; exact h2)
    exact inj_of_map hnd _ (dd_mem (List.getElem_mem _)) _ (dd_mem (List.getElem_mem _)) (by rw [hg i hi, hg j hj, e])
theorem dd_len_congr {ks : List κ} {ks' : List κ'} (hl : ks.length = ks'.length) (h : ∀ i j (hi : i < ks.length) (hj : j < ks.length), ks[i] = ks[j] ↔ ks'[i]'(hl ▸ hi) = ks'[j]'(hl ▸ hj)) : (dd [] ks).length = (dd [] ks').length := by
  have h1 := (dd_finer hl (fun i j hi hj e => (h i j hi hj).2 e)).1
  have h2 := (dd_finer (ks := ks') (ks' := ks) hl.symm (fun i j hi hj e => (h i j (by omega) (by omega)).1 e)).1
  omega
end

/-- What distinguishes states: their rounds, with the labels of the states to which these lead. -/
def sig (out : List Nat) (ms : List (List Int)) : List (List Int × Nat) := ms.map fun m => (rdOf m, out.getD (mvTo m) 0)
def sigs (ss : List (List (List Int))) (out : List Nat) : List (List (List Int × Nat)) := ss.map (sig out)
def stL (ss : List (List (List Int))) : Nat → List Nat
  | 0 => List.replicate ss.length 0
  | k + 1 => lbl (sigs ss (stL ss k))
/-- The partition of the states. -/
def part (ss : List (List (List Int))) : List Nat := stL ss ss.length
def cntL (ss : List (List (List Int))) (k : Nat) : Nat := (dd [] (sigs ss (stL ss k))).length
theorem sigs_len (ss : List (List (List Int))) (out : List Nat) : (sigs ss out).length = ss.length := by simp [sigs]
theorem stL_len (ss : List (List (List Int))) : ∀ k, (stL ss k).length = ss.length
  | 0 => by simp [stL]
  | k + 1 => by rw [stL, lbl_length, sigs_len]
/-- All moves lead to states. -/
def ToOK (ss : List (List (List Int))) : Prop := ∀ s ∈ ss, ∀ m ∈ s, mvTo m < ss.length
theorem sig_finer {ss : List (List (List Int))} (hT : ToOK ss) {a b : List Nat} (hr : ∀ i j, i < ss.length → j < ss.length → a.getD i 0 = a.getD j 0 → b.getD i 0 = b.getD j 0) {x y : List (List Int)} (hx : x ∈ ss) (hy : y ∈ ss) (h : sig a x = sig a y) : sig b x = sig b y := by
  have key : ∀ (x y : List (List Int)), (∀ m ∈ x, mvTo m < ss.length) → (∀ m ∈ y, mvTo m < ss.length) → sig a x = sig a y → sig b x = sig b y := by
    intro x
    induction x with
    | nil =>
      intro y _ _ h
      cases y with
      | nil => rfl
      | cons m r => cases h
    | cons m r ih =>
      intro y h1 h2 h
      cases y with
      | nil => cases h
      | cons m' r' =>
        simp only [sig, List.map_cons, List.cons.injEq, Prod.mk.injEq] at h ⊢
        refine ⟨⟨h.1.1, hr _ _ (h1 m (by simp)) (h2 m' (by simp)) h.1.2⟩, ih r' (fun x hx => h1 x (by simp [hx])) (fun x hx => h2 x (by simp [hx])) h.2⟩
  exact key x y (hT x hx) (hT y hy) h
theorem sigs_get {ss : List (List (List Int))} {out : List Nat} {i : Nat} (h : i < ss.length) : (sigs ss out)[i]'(by rw [sigs_len]; exact h) = sig out ss[i] := by simp [sigs]
theorem lbl_sigs {ss : List (List (List Int))} {out : List Nat} {i j : Nat} (hi : i < ss.length) (hj : j < ss.length) : (lbl (sigs ss out)).getD i 0 = (lbl (sigs ss out)).getD j 0 ↔ sig out ss[i] = sig out ss[j] := by
  rw [lbl_iff (by rw [sigs_len]; exact hi) (by rw [sigs_len]; exact hj), sigs_get hi, sigs_get hj]
/-- Each step refines. -/
theorem stL_finer {ss : List (List (List Int))} (hT : ToOK ss) : ∀ k i j, i < ss.length → j < ss.length → (stL ss (k + 1)).getD i 0 = (stL ss (k + 1)).getD j 0 → (stL ss k).getD i 0 = (stL ss k).getD j 0
  | 0, i, j, hi, hj, _ => by simp [stL, List.getD_eq_getElem?_getD, hi, hj]
  | k + 1, i, j, hi, hj, h => by
    rw [stL, lbl_sigs hi hj] at h ⊢
    exact sig_finer hT (stL_finer hT k) (List.getElem_mem _) (List.getElem_mem _) h
theorem stL_stop {ss : List (List (List Int))} (hT : ToOK ss) {k : Nat} (h : cntL ss (k + 1) = cntL ss k) : stL ss (k + 2) = stL ss (k + 1) := by
  have hl : (sigs ss (stL ss k)).length = (sigs ss (stL ss (k + 1))).length := by rw [sigs_len, sigs_len]
  have h1 := (dd_finer hl (fun i j hi hj e => by
    rw [sigs_len] at hi hj
    rw [sigs_get hi, sigs_get hj] at e ⊢
    exact sig_finer hT (stL_finer hT k) (List.getElem_mem _) (List.getElem_mem _) e)).2 (Nat.le_of_eq h)
  show lbl (sigs ss (stL ss (k + 1))) = lbl (sigs ss (stL ss k))
  refine lbl_congr hl.symm fun i j hi hj => ⟨fun e => ?_, fun e => h1 i j (by omega) (by omega) e⟩
  rw [sigs_len] at hi hj
  rw [sigs_get hi, sigs_get hj] at e ⊢
  exact sig_finer hT (stL_finer hT k) (List.getElem_mem _) (List.getElem_mem _) e
theorem stL_fix {ss : List (List (List Int))} {k : Nat} (h : stL ss (k + 1) = stL ss k) : ∀ d, stL ss (k + d) = stL ss k
  | 0 => rfl
  | d + 1 => by
    have := stL_fix h d
    show lbl (sigs ss (stL ss (k + d))) = _
    rw [this]; exact h
theorem cntL_le (ss : List (List (List Int))) (k : Nat) : cntL ss k ≤ ss.length := by
  have := dd_le (sigs ss (stL ss k)) []
  rw [sigs_len, List.length_nil, Nat.zero_add] at this; exact this
theorem cntL_pos {ss : List (List (List Int))} (h : 0 < ss.length) (k : Nat) : 0 < cntL ss k := by
  have hm : (sigs ss (stL ss k))[0]'(by rw [sigs_len]; exact h) ∈ dd [] (sigs ss (stL ss k)) := dd_mem (List.getElem_mem _)
  exact List.length_pos_of_mem hm
theorem cntL_mono {ss : List (List (List Int))} (hT : ToOK ss) (k : Nat) : cntL ss k ≤ cntL ss (k + 1) := by
  have hl : (sigs ss (stL ss k)).length = (sigs ss (stL ss (k + 1))).length := by rw [sigs_len, sigs_len]
  exact (dd_finer hl (fun i j hi hj e => by
    rw [sigs_len] at hi hj
    rw [sigs_get hi, sigs_get hj] at e ⊢
    exact sig_finer hT (stL_finer hT k) (List.getElem_mem _) (List.getElem_mem _) e)).1
/-- While the number of keys grows, it is at least the number of steps. -/
theorem cntL_grow {ss : List (List (List Int))} (hT : ToOK ss) (h0 : 0 < ss.length) : ∀ k, (∀ j, j < k → cntL ss (j + 1) ≠ cntL ss j) → k + 1 ≤ cntL ss k
  | 0, _ => cntL_pos h0 0
  | k + 1, h => by
    have h1 := cntL_grow hT h0 k (fun j hj => h j (by omega))
    have h2 := cntL_mono hT k
    have h3 := h k (by omega)
    omega

theorem digit_inj' : ∀ a : Nat, a < 10 → ∀ b : Nat, b < 10 → UInt8.ofNat (48 + a) = UInt8.ofNat (48 + b) → a = b := by decide +kernel
theorem digit_inj (a b : Nat) (ha : a < 10) (hb : b < 10) (h : UInt8.ofNat (48 + a) = UInt8.ofNat (48 + b)) : a = b := digit_inj' a ha b hb h
theorem digit_not : ∀ a : Nat, a < 10 → UInt8.ofNat (48 + a) ≠ 58 ∧ UInt8.ofNat (48 + a) ≠ 59 := by decide +kernel
theorem itoaL_inj {c : UInt8} (hc : c = 58 ∨ c = 59) {p q : Nat} (hp : p < 100) (hq : q < 100) {r r' : List UInt8} (h : itoaL p ++ c :: r = itoaL q ++ c :: r') : p = q ∧ r = r' := by
  have hd : ∀ a, a < 10 → UInt8.ofNat (48 + a) ≠ c := fun a ha => by
    rcases hc with rfl | rfl
    · exact (digit_not a ha).1
    · exact (digit_not a ha).2
  unfold itoaL at h
  split at h <;> split at h
  · simp only [List.cons_append, List.nil_append, List.cons.injEq, true_and] at h
    exact ⟨digit_inj _ _ (by omega) (by omega) h.1, h.2⟩
  · simp only [List.cons_append, List.nil_append, List.cons.injEq] at h
    exact absurd h.2.1.symm (hd _ (by omega))
  · simp only [List.cons_append, List.nil_append, List.cons.injEq] at h
    exact absurd h.2.1 (hd _ (by omega))
  · simp only [List.cons_append, List.nil_append, List.cons.injEq, true_and] at h
    have h1 := digit_inj (p / 10) (q / 10) (by omega) (by omega) h.1
    have h2 := digit_inj (p % 10) (q % 10) (by omega) (by omega) h.2.1
    exact ⟨by omega, h.2.2⟩
theorem tx_cons (R : List (List Int)) (out : List Nat) (m : List Int) (r : List UInt8) : tx R out m ++ r = itoaL (ixOf R (rdOf m)) ++ 58 :: (itoaL (out.getD (mvTo m) 0) ++ 59 :: r) := by simp [tx]
theorem txs_iff {R : List (List Int)} {out : List Nat} (hR : R.length ≤ 100) (ho : ∀ j, out.getD j 0 < 100) : ∀ {x y : List (List Int)}, (∀ m ∈ x, rdOf m ∈ R) → (∀ m ∈ y, rdOf m ∈ R) → (txs R out x = txs R out y ↔ sig out x = sig out y)
  | [], [], _, _ => by simp [txs, sig]
  | [], m :: r, _, _ => by
    refine ⟨fun h => ?_, fun h => by cases h⟩
    have h2 : tx R out m ++ txs R out r = [] := h.symm
    rw [tx_cons] at h2
    simp at h2
  | m :: r, [], _, _ => by
    refine ⟨fun h => ?_, fun h => by cases h⟩
    have h2 : tx R out m ++ txs R out r = [] := h
    rw [tx_cons] at h2
    simp at h2
  | m :: r, m' :: r', h1, h2 => by
    have hm := h1 m (by simp)
    have hm' := h2 m' (by simp)
    have b1 : ixOf R (rdOf m) < 100 := Nat.lt_of_lt_of_le (ixOf_lt hm) hR
    have b2 : ixOf R (rdOf m') < 100 := Nat.lt_of_lt_of_le (ixOf_lt hm') hR
    have ih := txs_iff hR ho (x := r) (y := r') (fun x hx => h1 x (by simp [hx])) (fun x hx => h2 x (by simp [hx]))
    have e1 : txs R out (m :: r) = tx R out m ++ txs R out r := rfl
    have e2 : txs R out (m' :: r') = tx R out m' ++ txs R out r' := rfl
    rw [e1, e2, tx_cons, tx_cons]
    constructor
    · intro h
      obtain ⟨g1, g2⟩ := itoaL_inj (.inl rfl) b1 b2 h
      obtain ⟨g3, g4⟩ := itoaL_inj (.inr rfl) (ho _) (ho _) g2
      have g5 : rdOf m = rdOf m' := idxOf_inj hm hm' g1
      simp only [sig, List.map_cons, List.cons.injEq, Prod.mk.injEq]
      exact ⟨⟨g5, g3⟩, ih.1 g4⟩
    · intro h
      simp only [sig, List.map_cons, List.cons.injEq, Prod.mk.injEq] at h
      have := ih.2 h.2
      rw [h.1.1, h.1.2, this]
theorem keys_sigs {ss : List (List (List Int))} {R : List (List Int)} (hR : R.length ≤ 100) (hRm : ∀ s ∈ ss, ∀ m ∈ s, rdOf m ∈ R) {out : List Nat} (ho : ∀ j, out.getD j 0 < 100) :
    lbl (keysL ss R out) = lbl (sigs ss out) ∧ (dd [] (keysL ss R out)).length = (dd [] (sigs ss out)).length := by
  have hl : (keysL ss R out).length = (sigs ss out).length := by simp [keysL, sigs]
  have h : ∀ i j (hi : i < (keysL ss R out).length) (hj : j < (keysL ss R out).length), (keysL ss R out)[i] = (keysL ss R out)[j] ↔ (sigs ss out)[i]'(hl ▸ hi) = (sigs ss out)[j]'(hl ▸ hj) := fun i j hi hj => by
    have hi' : i < ss.length := by simpa [keysL] using hi
    have hj' : j < ss.length := by simpa [keysL] using hj
    rw [sigs_get hi', sigs_get hj']
    simp only [keysL, List.getElem_map]
    exact txs_iff hR ho (hRm _ (List.getElem_mem _)) (hRm _ (List.getElem_mem _))
  exact ⟨lbl_congr hl h, dd_len_congr hl h⟩
theorem stL_small {ss : List (List (List Int))} (h : ss.length ≤ 100) (k j : Nat) : (stL ss k).getD j 0 < 100 := by
  by_cases hj : j < ss.length
  · cases k with
    | zero => simp [stL, List.getD_eq_getElem?_getD, hj]
    | succ k =>
      have h1 := lbl_lt (ks := sigs ss (stL ss k)) (i := j) (by rw [sigs_len]; exact hj)
      have h2 := cntL_le ss k
      unfold cntL at h2
      show (lbl (sigs ss (stL ss k))).getD j 0 < 100
      omega
  · rw [List.getD_eq_getElem?_getD, List.getElem?_eq_none (by rw [stL_len]; omega)]; simp
/-- The program's loop finds the partition. -/
theorem clsGo_stL {ss : List (List (List Int))} {R : List (List Int)} (hs : ss.length ≤ 100) (h0 : 0 < ss.length) (hT : ToOK ss) (hR : R.length ≤ 100) (hRm : ∀ s ∈ ss, ∀ m ∈ s, rdOf m ∈ R) :
    ∀ (f k : Nat), k + f = ss.length + 2 → (∀ j, j + 1 < k → cntL ss (j + 1) ≠ cntL ss j) → k ≤ ss.length + 1 → clsGo ss R f (stL ss k) (if k = 0 then 0 else cntL ss (k - 1)) = some (part ss)
  | 0, k, hf, _, hk => by omega
  | f + 1, k, hf, hg, hk => by
    obtain ⟨e1, e2⟩ := keys_sigs hR hRm (stL_small hs k)
    have e2 : (dd [] (keysL ss R (stL ss k))).length = cntL ss k := e2
    rw [clsGo, e1, e2]
    by_cases hc : cntL ss k = if k = 0 then 0 else cntL ss (k - 1)
    · rw [if_pos hc]
      obtain ⟨k', rfl⟩ : ∃ k', k = k' + 1 := by
        cases k with
        | zero => rw [if_pos rfl] at hc; have := cntL_pos h0 0; omega
        | succ k' => exact ⟨k', rfl⟩
      rw [if_neg (by omega), Nat.add_sub_cancel] at hc
      have h1 := stL_stop hT hc
      show some (stL ss (k' + 2)) = some (stL ss ss.length)
      rw [h1]
      congr 1
      have h2 := stL_fix h1 (ss.length - (k' + 1))
      by_cases hle : k' + 1 ≤ ss.length
      · rw [show k' + 1 + (ss.length - (k' + 1)) = ss.length by omega] at h2
        exact h2.symm
      · have h3 := cntL_grow hT h0 k' (fun j hj => hg j (by omega))
        have h4 := cntL_le ss k'
        omega
    · rw [if_neg hc]
      have h1 := clsGo_stL hs h0 hT hR hRm f (k + 1) (by omega) (fun j hj => by
        by_cases hjk : j + 1 < k
        · exact hg j hjk
        · obtain rfl : k = j + 1 := by omega
          rw [if_neg (by omega), Nat.add_sub_cancel] at hc
          exact hc) (by
        by_cases hkl : k ≤ ss.length
        · omega
        · obtain ⟨k', rfl⟩ : ∃ k', k = k' + 1 := ⟨k - 1, by omega⟩
          rw [if_neg (by omega), Nat.add_sub_cancel] at hc
          have h3 := cntL_grow hT h0 (k' + 1) (fun j hj => by
            by_cases hjk : j + 1 < k' + 1
            · exact hg j hjk
            · obtain rfl : j = k' := by omega
              exact hc)
          have h4 := cntL_le ss (k' + 1)
          omega)
      rw [if_neg (by omega), Nat.add_sub_cancel] at h1
      exact h1
theorem part_len (ss : List (List (List Int))) : (part ss).length = ss.length := stL_len ss _
end Go.Proofs.YtfihpofdoffclaaGreatDoor

/- The iterator over all moves with their states. -/
namespace Go.Proofs.YtfihpofdoffclaaGreatDoor
open Go.RowKit
attribute [local go_sem] Oper.semAt_some

/-- All moves with their states. -/
def mvs : Nat → List (List (List Int)) → List (Nat × List Int)
  | _, [] => []
  | s, l :: r => l.map (fun m => (s, m)) ++ mvs (s + 1) r
def mvEnc (x : Nat × List Int) : Array Value := #[.int .i64 (x.1 : Int), .agg (x.2.map (Value.int .i64)).toArray]
def mvR (L pre : List (Nat × List Int)) (x : Nat × List Int) (_ : World) : Prop := ∃ r, pre ++ x :: r = L
theorem mvs_step {ss : List (List (List Int))} {k : Nat} (h : k < ss.length) {ms : List (List Int)} (hm : ss.getD k [] = ms) : mvs k (ss.drop k) = (ms.drop 0).map (fun m => (k, m)) ++ mvs (k + 1) (ss.drop (k + 1)) := by
  rw [drop_cons h [], hm, mvs, List.drop_zero]
theorem mvs_in {ms : List (List Int)} {i k : Nat} (h : i < ms.length) {m : List Int} (hm : ms.getD i [] = m) : (ms.drop i).map (fun m => (k, m)) = (k, m) :: (ms.drop (i + 1)).map (fun m => (k, m)) := by
  rw [drop_cons h [], hm, List.map_cons]

set_option maxRecDepth 100000 in
set_option maxHeartbeats 6400000 in
theorem mvSeq {wA w0 : World} {sv : Value} {ss : List (List (List Int))} {Bx : Nat} (hK : KSS 8 wA sv ss) (hbA : Below wA.heap.size wA w0) (hc0 : w0.cell? ⟨Bx, 1, none⟩ = some sv) :
    SeqOK Tryz.prog 121 #[.pointer (some ⟨Bx, 0, none⟩)] mvEnc (mvR (mvs 0 ss)) (fun xs => xs = mvs 0 ss) (fun _ => True) (mvs 0 ss).length (fun k => k = Bx ∨ k < wA.heap.size) w0 := by
  intro l J Jx D W hb hBd hDC hJ hJx hY h0
  have hBx : ¬ D Bx := fun h => hDC _ h (.inl rfl)
  have hAn : ∀ k, k < wA.heap.size → ¬ D k := fun k hk h => hDC _ h (.inr hk)
  have hcW := cell_kept hb hc0
  have hbW : Below wA.heap.size wA W := bt hbA hb hbA.size
  obtain ⟨sa, sc, sb, so, rfl, hsa, hsc, hsl⟩ := hK
  clear hDC hc0 hb hbA
  replace hJ := Lib.hid hJ
  replace hJx := Lib.hid hJx
  replace hY := Lib.hid hY
  show CallsIn Fence.wide 0 Tryz.prog 121 #[.func (.yield l) #[] #[], .pointer (some ⟨Bx, 0, none⟩)] W _
  refine callsIn_of_wp Tryz.func121 rfl trivial ?_
  simp only [Tryz.ntmps121, List.size_toArray, List.length_cons, List.length_nil, Nat.reduceAdd, Nat.reduceSub, Array.replicate_succ,
     Array.replicate_zero, List.push_toArray, List.append_toArray, List.nil_append, List.cons_append]
  gi_wp2
  have hOn0 : Only D W W := Only.refl _ _
  have hGr0 : Gr D W D := Gr.refl _ _
  replace hsc := Lib.hid hsc
  replace hcW := Lib.hid hcW
  obtain ⟨L, hL⟩ : ∃ L, mvs 0 ss = L := ⟨_, rfl⟩
  rw [hL] at hY
  have hL0 : Hid ([] ++ mvs 0 (ss.drop 0) = L) := by show _ = _; rw [List.drop_zero, List.nil_append]; exact hL
  replace hL := Lib.hid hL
  obtain ⟨wo, hwo⟩ : ∃ wo, wo = W := ⟨_, rfl⟩
  have h00 : J [] D wo := by rw [hwo]; exact h0
  have hBd0 : Bd D wo := by rw [hwo]; exact hBd
  have hOn0 : Only D W wo := by rw [hwo]; exact hOn0
  rw [← hwo]
  clear hwo h0 hBd
  gi_loopw [10] (fun kv wr => ∃ (k : Nat) (pre : List (Nat × List Int)) (D1 : Nat → Prop), kv = .int .i64 k ∧ k ≤ ss.length ∧ J pre D1 wr ∧ Bd D1 wr ∧ Only D W wr ∧ Gr D W D1 ∧ Hid (pre ++ mvs k (ss.drop k) = L)) (fun kv _ => ss.length - (intOf kv).toNat)
  case atStart => exact ⟨0, [], D, rfl, by omega, h00, hBd0, hOn0, hGr0, hL0⟩
  case round =>
    clear h00 hBd0 hOn0 hGr0 hL0
    obtain ⟨k, pre, D1, rfl, hk, hJk, hBk, hOn, hGr, hp⟩ := hrel
    by_cases hlt : k < ss.length
    · obtain rfl := hsa (by omega)
      obtain ⟨u, hcu, hu⟩ := hsc.out k hlt
      have hlu := World.block_lt_of_cell? wA _ hcu
      have hcu2 : wr.cell? ⟨sb, so + k, none⟩ = some u := hOn.cell (p := ⟨sb, so + k, none⟩) (hAn _ hlu) (cell_kept hbW hcu)
      obtain ⟨ms, hms⟩ : ∃ ms, ss.getD k [] = ms := ⟨_, rfl⟩
      rw [hms] at hu
      have hp1 : Hid (pre ++ ((ms.drop 0).map (fun m => (k, m)) ++ mvs (k + 1) (ss.drop (k + 1))) = L) := by show _ = _; rw [← mvs_step hlt hms]; exact hp
      obtain ⟨ma, mc, mb, mo, rfl, hma, hmc, hml⟩ := hu
      clear hp hms hcu hlu
      replace hmc := Lib.hid hmc
      gi_wp2
      gi_loopw [17] (fun iv wr => ∃ (i : Nat) (pre : List (Nat × List Int)) (D1 : Nat → Prop), iv = .int .i64 i ∧ i ≤ ms.length ∧ J pre D1 wr ∧ Bd D1 wr ∧ Only D W wr ∧ Gr D W D1 ∧ Hid (pre ++ ((ms.drop i).map (fun m => (k, m)) ++ mvs (k + 1) (ss.drop (k + 1))) = L)) (fun iv _ => ms.length - (intOf iv).toNat)
      case atStart => exact ⟨0, pre, D1, rfl, by omega, hJk, hBk, hOn, hGr, hp1⟩
      case round =>
        clear hp1 hJk hBk hOn hGr hcu2
        obtain ⟨i, pre, D1, rfl, hi, hJk, hBk, hOn, hGr, hp⟩ := hrel
        by_cases hlti : i < ms.length
        · obtain rfl := hma (by omega)
          obtain ⟨hx8, hxc⟩ := hmc.out i hlti
          obtain ⟨x, hx⟩ : ∃ x, ms.getD i [] = x := ⟨_, rfl⟩
          have hp1 : Hid (pre ++ ((k, x) :: ((ms.drop (i + 1)).map (fun m => (k, m)) ++ mvs (k + 1) (ss.drop (k + 1)))) = L) := by show _ = _; rw [← List.cons_append, ← mvs_in hlti hx]; exact hp
          rw [hx] at hx8 hxc
          obtain ⟨y0, y1, y2, y3, y4, y5, y6, y7, rfl⟩ := eight hx8
          obtain ⟨c0, c1, c2, c3, c4, c5, c6, c7⟩ := hxc.all8
          have hmn : ¬ D mb := hAn _ (World.block_lt_of_cell? wA _ c0)
          have e0 := hOn.cell (p := ⟨mb, _, none⟩) hmn (cell_kept hbW c0)
          have e1 := hOn.cell (p := ⟨mb, _, none⟩) hmn (cell_kept hbW c1)
          have e2 := hOn.cell (p := ⟨mb, _, none⟩) hmn (cell_kept hbW c2)
          have e3 := hOn.cell (p := ⟨mb, _, none⟩) hmn (cell_kept hbW c3)
          have e4 := hOn.cell (p := ⟨mb, _, none⟩) hmn (cell_kept hbW c4)
          have e5 := hOn.cell (p := ⟨mb, _, none⟩) hmn (cell_kept hbW c5)
          have e6 := hOn.cell (p := ⟨mb, _, none⟩) hmn (cell_kept hbW c6)
          have e7 := hOn.cell (p := ⟨mb, _, none⟩) hmn (cell_kept hbW c7)
          clear c0 c1 c2 c3 c4 c5 c6 c7 hxc hx8 hx hp
          have hbn := (Below.refl wr.heap.size wr).alloc (Nat.le_refl _) (.cells #[.int .i64 y0, .int .i64 y1, .int .i64 y2, .int .i64 y3, .int .i64 y4, .int .i64 y5, .int .i64 y6, .int .i64 y7] 84)
          have hOn2 := hOn.thenBelow (hbn.mono (by have := hOn.size; omega))
          have hBk2 : Bd D1 (wr.alloc (.cells #[.int .i64 y0, .int .i64 y1, .int .i64 y2, .int .i64 y3, .int .i64 y4, .int .i64 y5, .int .i64 y6, .int .i64 y7] 84)) := fun q hq => Nat.lt_of_lt_of_le (hBk q hq) hbn.size
          have hJk2 := hJ.out _ _ _ _ hJk hbn.size (fun q hq => hbn.block q (hBk q hq))
          have hlen : pre.length < L.length := by rw [← hp1.out]; simp
          have hRx : mvR L pre (k, [y0, y1, y2, y3, y4, y5, y6, y7]) (wr.alloc (.cells #[.int .i64 y0, .int .i64 y1, .int .i64 y2, .int .i64 y3, .int .i64 y4, .int .i64 y5, .int .i64 y6, .int .i64 y7] 84)) := ⟨_, hp1.out⟩
          obtain ⟨fn, tmps, assign, body, hy, hR⟩ := hY.out pre (k, [y0, y1, y2, y3, y4, y5, y6, y7]) D1 _ hJk2 hBk2 hOn2 hGr hRx hlen
          simp only [mvEnc, List.map] at hy hR
          replace hR := Lib.hid hR
          clear hJk hlen hRx hBk
          gi_wp2
          refine ⟨rfl, hR.out.mono ?_⟩
          rintro e W' ⟨D', hO', hG', hB', (⟨rfl, hJ'⟩ | ⟨rfl, hJ'⟩)⟩
          · clear e0 e1 e2 e3 e4 e5 e6 e7 hy hR
            have hOn3 := hOn2.trans hO' hGr
            have hGr3 := hGr.trans hG' hOn2.size
            gi_wp2
            go_roundw
            case rel => exact ⟨i + 1, _, D', by go_num, hlti, hJ', hB', hOn3, hGr3, by show _ = _; rw [List.append_assoc]; exact hp1.out⟩
            case measure => simp [intOf]; omega
          · gi_wp2
            refine bodyPost_ret (results_none rfl _ _ _) rfl ?_
            exact ⟨⟨_, rfl⟩, D', hOn2.trans hO' hGr, hGr.trans hG' hOn2.size, hB', .inr ⟨_, trivial, hJ'⟩⟩
        · obtain rfl : i = ms.length := by omega
          have hp1 : Hid (pre ++ mvs (k + 1) (ss.drop (k + 1)) = L) := by show _ = _; rw [← hp.out, List.drop_length]; rfl
          clear hp
          gi_wp2
          go_roundw
          case rel => exact ⟨k + 1, pre, D1, by go_num, hlt, hJk, hBk, hOn, hGr, hp1⟩
          case measure => simp [intOf]; omega
    · obtain rfl : k = ss.length := by omega
      have hpe : pre = L := by rw [← hp.out, List.drop_length, mvs, List.append_nil]
      have hpf := Lib.hid (hpe.trans hL.out.symm)
      clear hJ hJx hY hpe hp hL
      gi_wp2
      first | refine bodyPost_end (results_none rfl _ _ _) rfl ?_ | refine bodyPost_ret (results_none rfl _ _ _) rfl ?_
      exact ⟨⟨_, rfl⟩, D1, hOn, hGr, hBk, .inl ⟨_, hpf.out, hJk⟩⟩
end Go.Proofs.YtfihpofdoffclaaGreatDoor

/- The numbers of states and moves. -/
namespace Go.Proofs.YtfihpofdoffclaaGreatDoor
open Go.RowKit
attribute [local go_sem] Oper.semAt_some

def Box1 (Bn : Nat) (D : Nat → Prop) (W : World) (n : Int) : Prop := (∀ k, D k ↔ k = Bn) ∧ W.heap[Bn]? = some (.cells #[.int .i64 n] 3 (0, 0))
theorem Box1.stable {α : Type} (Bn : Nat) (f : List α → Int) : Stable (fun pre D W => Box1 Bn D W (f pre)) := fun _ _ _ _ h _ hk => ⟨h.1, (hk Bn ((h.1 Bn).2 rfl)).trans h.2⟩
theorem mvs_length : ∀ (ss : List (List (List Int))) (k : Nat), (mvs k ss).length = movesN ss
  | [], _ => rfl
  | l :: r, k => by rw [mvs, List.length_append, List.length_map, mvs_length r]; rfl
theorem mvR_put {L : List (Nat × List Int)} (pre : List (Nat × List Int)) (x : Nat × List Int) (W : World) (k : Nat) (r : Loop) (o : Obj) (h : mvR L pre x W) (_ : W.heap[k]? = some (.loop r)) : mvR L pre x (W.putObj k o) := h
/-- The error of the numbers of states and moves. -/
def szE (ss : List (List (List Int))) : Int := if ss.length < 1 ∨ 256 < ss.length ∨ 4096 < movesN ss then 5 else 0

theorem movesCall (n : Int) (sa : Option Addr) (l c : Nat) (w : World) : Calls Tryz.prog 79 #[.agg #[.int .i64 n, .slice sa l c]] w fun e w' =>
    e = .returned (.func (.func 121) #[] #[.pointer (some ⟨w.heap.size, 0, none⟩)]) ∧ w' = w.alloc (.cells #[.int .i64 n, .slice sa l c] 24) := by
  go_enter Tryz.func79, Tryz.ntmps79
  go_wp2
  go_ret
  exact ⟨rfl, rfl⟩

set_option maxRecDepth 100000 in
set_option maxHeartbeats 1600000 in
theorem sized {w : World} {v : Value} {n : Int} {ss : List (List (List Int))} (hA : AdvV w v n ss) (hN : movesN ss ≤ 1000000000) :
    Calls Tryz.prog 77 #[v] w fun e w' => e = .returned (.int .i64 (szE ss)) ∧ Below w.heap.size w w' := by
  obtain ⟨sv, rfl, hK⟩ := hA
  obtain ⟨sa, sc, hsv⟩ := hK.shape
  have hsl : ss.length ≤ 5864062014805 := by obtain ⟨_, _, _, _, _, _, _, h⟩ := hK; exact h
  refine callsIn_wide.1 (callsIn_of_wp_marks (n := 0) Tryz.func77 rfl trivial ?_)
  simp only [Tryz.ntmps77, List.size_toArray, List.length_cons, List.length_nil, Nat.reduceAdd, Nat.reduceSub, Array.replicate_succ, Array.replicate_zero, List.push_toArray, List.append_toArray, List.nil_append, List.cons_append]
  subst hsv
  refine wpIn_wide.2 ?_
  go_wp2_with (go_at_call 79; refine (movesCall _ _ _ _ _).mono ?_; rintro e w2 ⟨rfl, rfl⟩)
  obtain ⟨wL, hwL⟩ : ∃ wL, wL = ((w.alloc (.cells #[.int .i64 n, .slice sa ss.length sc] 24)).alloc (.cells #[.int .i64 0] 3)).alloc (.cells #[.int .i64 n, .slice sa ss.length sc] 24) := ⟨_, rfl⟩
  obtain ⟨N, hNe⟩ : ∃ N, N = w.heap.size := ⟨_, rfl⟩
  have hsL : wL.heap.size = N + 3 := by rw [hwL, hNe]; simp
  have hbW : Below w.heap.size w wL := by rw [hwL]; exact (((Below.refl _ w).alloc (Nat.le_refl _) _).alloc (by simp) _).alloc (by simp; omega) _
  have hBa : wL.heap[N]? = some (.cells #[.int .i64 n, .slice sa ss.length sc] 24) := by
    rw [hwL, hNe]; exact (Below.heap_alloc _ _ _ (by simp; omega)).trans ((Below.heap_alloc _ _ _ (by simp)).trans (World.alloc_heap_new w _))
  have hBn : wL.heap[N + 1]? = some (.cells #[.int .i64 0] 3 (0, 0)) := by
    rw [hwL, hNe]
    refine (Below.heap_alloc _ _ _ (by simp)).trans ?_
    have := World.alloc_heap_new (w.alloc (.cells #[.int .i64 n, .slice sa ss.length sc] 24)) (.cells #[.int .i64 0] 3)
    rwa [World.size_alloc] at this
  have hBx : wL.heap[N + 2]? = some (.cells #[.int .i64 n, .slice sa ss.length sc] 24) := by
    rw [hwL, hNe]
    have := World.alloc_heap_new ((w.alloc (.cells #[.int .i64 n, .slice sa ss.length sc] 24)).alloc (.cells #[.int .i64 0] 3)) (.cells #[.int .i64 n, .slice sa ss.length sc] 24)
    simpa only [World.size_alloc] using this
  have hcx : wL.cell? ⟨N + 2, 1, none⟩ = some (.slice sa ss.length sc) := box_cell hBx rfl
  rw [← hwL, ← hNe]
  have hbWN : Below N w wL := hNe ▸ hbW
  have hwN : w.heap.size = N := hNe.symm
  clear hwL hNe
  have hML := mvs_length ss 0
  refine wpIn_wide.1 (wpIn_rf (gf := 121) (lb := #[.pointer (some ⟨N + 2, 0, none⟩)]) rfl (enters_of Tryz.func121 (by kernel_rfl) rfl) (mvSeq hK hbW hcx) (Below.refl _ _) (fun _ => rfl) mvR_put
    (fun pre D W => Box1 (N + 1) D W pre.length) (fun _ _ _ _ => False) (Box1.stable (N + 1) (fun pre : List (Nat × List Int) => (pre.length : Int))) (fun _ _ _ _ _ h _ _ => h)
    (fun k => k = N + 1) (fun k hk => by rw [hk]; omega) (fun k hk => by omega) (fun k hk => by omega) ⟨fun _ => Iff.rfl, hBn⟩
    (fun x => { tmps := #[.agg #[.int .i64 n, .slice sa ss.length sc], .pointer (some ⟨N, 0, none⟩), .int .i64 0, .pointer (some ⟨N + 1, 0, none⟩), .agg #[.int .i64 n, .slice sa ss.length sc], .func (.func 121) #[] #[.pointer (some ⟨N + 1 + 1, 0, none⟩)], .int .i64 x.1, .agg (x.2.map (Value.int .i64)).toArray, undef, undef, undef, undef, undef, undef, undef, undef, undef, undef, undef, undef, undef, undef, undef, undef], defers := [] }) ?assign ?body ?done ?stop)
  case assign =>
    intro l x W K hK
    unfold mvEnc
    gi_wp2
    simp only [List.zip_toArray, List.zip_cons_cons, List.zip_nil_right, List.foldl_toArray, List.foldl_cons, List.foldl_nil, List.setIfInBounds_toArray, List.set_cons_succ, List.set_cons_zero]
    exact hK
  case body =>
    rintro l pre ⟨s, m⟩ D W ⟨hD, hbox⟩ hBd hOn hGr ⟨r, hr⟩ hlen
    have hcn := cell_of_one hbox
    have hfn := free_of_one hbox
    have hset := one_setCell (u := .int .i64 (↑pre.length + 1)) hbox
    have hle : pre.length ≤ 1000000000 := by omega
    clear hr hOn hGr hBn hBx hcx hBa hlen hML
    gi_wp2
    refine ⟨D, (Only.refl D W).setCell (p := ⟨N + 1, 0, none⟩) ((hD (N + 1)).2 rfl) _, Gr.refl _ _, fun i hi => by have := hBd i hi; simpa [World.setCell] using this, ⟨hD, ?_⟩⟩
    rw [List.length_append, List.length_singleton]
    exact hset
  case done =>
    intro d xs D W hS hI hOn hGr hd hnd hdef
    obtain ⟨hD, hbox⟩ := hI
    have hcn := cell_of_one hbox
    rw [hS, hML] at hcn
    have hbE : Below w.heap.size w (W.putObj d (.deferred none)) := below_putObj (hbW.trans (hOn.below hbW.size (fun i hi => by omega))) (by omega) _
    have kA : W.heap[N]? = some (.cells #[.int .i64 n, .slice sa ss.length sc] 24) := (hOn.same N (by omega) (by omega)).trans hBa
    have k1 : W.cell? ⟨N, 1, none⟩ = some (.slice sa ss.length sc) := box_cell kA rfl
    clear hbox hBx hBn hcx hBa kA hK hOn hGr hML
    obtain ⟨M, hM⟩ : ∃ M, movesN ss = M := ⟨_, rfl⟩
    obtain ⟨q, hq⟩ : ∃ q, ss.length = q := ⟨_, rfl⟩
    have hE : szE ss = if q < 1 ∨ 256 < q ∨ 4096 < M then 5 else 0 := by rw [szE, hM, hq]
    rw [hM] at hcn hN
    rw [hq] at k1 hsl
    replace hE := Lib.hid hE
    replace hbE := Lib.hid hbE
    clear hM
    by_cases h1 : q < 1
    · have h1' : decide ((q : Int) < 1) = true := decide_eq_true (by omega)
      have hE2 := Lib.hid (show szE ss = 5 by rw [hE.out, if_pos (.inl h1)])
      go_wp2
      refine ⟨by simp, .inl ⟨_, _, rfl, run_takeDeferred hdef, ?_⟩⟩
      exact ⟨_, results_tmp rfl _ _ _, by rw [hE2.out]; rfl, hbE.out⟩
    · have h1' : decide ((q : Int) < 1) = false := decide_eq_false (by omega)
      by_cases h2 : 256 < q
      · have h2' : decide ((256 : Int) < (q : Int)) = true := decide_eq_true (by omega)
        have hE2 := Lib.hid (show szE ss = 5 by rw [hE.out, if_pos (.inr (.inl h2))])
        go_wp2
        refine ⟨by simp, .inl ⟨_, _, rfl, run_takeDeferred hdef, ?_⟩⟩
        exact ⟨_, results_tmp rfl _ _ _, by rw [hE2.out]; rfl, hbE.out⟩
      · have h2' : decide ((256 : Int) < (q : Int)) = false := decide_eq_false (by omega)
        by_cases h3 : 4096 < M
        · have h3' : decide ((4096 : Int) < (M : Int)) = true := decide_eq_true (by omega)
          have hE2 := Lib.hid (show szE ss = 5 by rw [hE.out, if_pos (.inr (.inr h3))])
          go_wp2
          refine ⟨by simp, .inl ⟨_, _, rfl, run_takeDeferred hdef, ?_⟩⟩
          exact ⟨_, results_tmp rfl _ _ _, by rw [hE2.out]; rfl, hbE.out⟩
        · have h3' : decide ((4096 : Int) < (M : Int)) = false := decide_eq_false (by omega)
          have hE2 := Lib.hid (show szE ss = 0 by rw [hE.out, if_neg (by omega)])
          go_wp2
          refine ⟨by simp, .inl ⟨_, _, rfl, run_takeDeferred hdef, ?_⟩⟩
          exact ⟨_, results_tmp rfl _ _ _, by rw [hE2.out]; rfl, hbE.out⟩
  case stop =>
    intro d c pre D W _ h
    exact h.elim
end Go.Proofs.YtfihpofdoffclaaGreatDoor

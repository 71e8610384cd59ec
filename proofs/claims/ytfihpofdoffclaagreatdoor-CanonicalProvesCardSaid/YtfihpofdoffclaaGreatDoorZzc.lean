/- Texts of this claim, put together: S0 S1 S2. -/
import Derived.Test.YtfihpofdoffclaaGreatDoorZu
import Derived.Test.YtfihpofdoffclaaGreatDoorZs
import Derived.Test.YtfihpofdoffclaaGreatDoorZn
import Derived.Test.YtfihpofdoffclaaGreatDoorZzb
import Derived.Test.YtfihpofdoffclaaGreatDoorZy

/- The reference: Reached and Number. -/
namespace Go.Proofs.YtfihpofdoffclaaGreatDoor
open Go.RowKit

/-- One state's moves, all states, as often as there are states. -/
def rMv (s : Nat) : List Bool → List (List Int) → List Bool
  | out, [] => out
  | out, m :: r => rMv s (if out.getD s false then out.set (mvTo m) true else out) r
def rSw (ss : List (List (List Int))) : List Bool → Nat → Nat → List Bool
  | out, _, 0 => out
  | out, s, c + 1 => rSw ss (rMv s out (ss.getD s [])) (s + 1) c
def rIt (ss : List (List (List Int))) : Nat → List Bool → List Bool
  | 0, out => out
  | k + 1, out => rIt ss k (rSw ss out 0 ss.length)
def rchL (ss : List (List (List Int))) : List Bool := rIt ss ss.length ((List.replicate ss.length false).set 0 true)
theorem rMv_len (s : Nat) : ∀ (ms : List (List Int)) (out : List Bool), (rMv s out ms).length = out.length
  | [], _ => rfl
  | m :: r, out => by rw [rMv, rMv_len s r]; split <;> simp
theorem rSw_len (ss : List (List (List Int))) : ∀ (c s : Nat) (out : List Bool), (rSw ss out s c).length = out.length
  | 0, _, _ => rfl
  | c + 1, s, out => by rw [rSw, rSw_len ss c, rMv_len]
theorem rIt_len (ss : List (List (List Int))) : ∀ (k : Nat) (out : List Bool), (rIt ss k out).length = out.length
  | 0, _ => rfl
  | k + 1, out => by rw [rIt, rIt_len ss k, rSw_len]
theorem rchL_len (ss : List (List (List Int))) : (rchL ss).length = ss.length := by rw [rchL, rIt_len]; simp
/-- What is true stays true. -/
def Up (a b : List Bool) : Prop := ∀ x, a.getD x false = true → b.getD x false = true
theorem up_set {a : List Bool} {t : Nat} : Up a (a.set t true) := fun x hx => by
  rw [List.getD_eq_getElem?_getD, List.getElem?_set]
  split
  · split
    · rfl
    · rename_i h1 h2
      subst h1
      rw [List.getD_eq_getElem?_getD, List.getElem?_eq_none (by omega)] at hx; cases hx
  · rw [List.getD_eq_getElem?_getD] at hx; exact hx
theorem rMv_up {s : Nat} : ∀ {ms : List (List Int)} {out : List Bool}, Up out (rMv s out ms)
  | [], _ => fun _ h => h
  | m :: r, out => fun x hx => by
    rw [rMv]
    refine rMv_up (ms := r) x ?_
    split
    · exact up_set x hx
    · exact hx
theorem rSw_up {ss : List (List (List Int))} : ∀ {c s : Nat} {out : List Bool}, Up out (rSw ss out s c)
  | 0, _, _ => fun _ h => h
  | c + 1, s, out => fun x hx => by rw [rSw]; exact rSw_up (c := c) x (rMv_up x hx)
theorem rMv_has {s : Nat} : ∀ {ms : List (List Int)} {out : List Bool} {m : List Int}, out.getD s false = true → m ∈ ms → mvTo m < out.length → (rMv s out ms).getD (mvTo m) false = true
  | [], _, _, _, h, _ => by cases h
  | a :: r, out, m, hs, hm, hl => by
    rw [rMv, if_pos hs]
    rcases List.mem_cons.1 hm with rfl | hm
    · refine rMv_up (ms := r) _ ?_
      rw [List.getD_eq_getElem?_getD, List.getElem?_set_self hl]; rfl
    · exact rMv_has (up_set _ hs) hm (by rw [List.length_set]; exact hl)
theorem rSw_has {ss : List (List (List Int))} : ∀ {c s : Nat} {out : List Bool} {q : Nat} {m : List Int}, out.getD q false = true → s ≤ q → q < s + c → m ∈ ss.getD q [] → mvTo m < out.length → (rSw ss out s c).getD (mvTo m) false = true
  | 0, s, _, q, _, _, h1, h2, _, _ => by omega
  | c + 1, s, out, q, m, hq, h1, h2, hm, hl => by
    rw [rSw]
    by_cases e : q = s
    · subst e
      exact rSw_up (c := c) _ (rMv_has hq hm hl)
    · exact rSw_has (rMv_up _ hq) (by omega) (by omega) hm (by rw [rMv_len]; exact hl)
/-- Only what is in a closed set becomes true. -/
theorem rMv_in {S : Nat → Prop} {s : Nat} : ∀ {ms : List (List Int)} {out : List Bool}, (S s → ∀ m ∈ ms, S (mvTo m)) → (∀ x, out.getD x false = true → S x) → ∀ x, (rMv s out ms).getD x false = true → S x
  | [], _, _, h => h
  | m :: r, out, hc, h => by
    rw [rMv]
    refine rMv_in (fun hs x hx => hc hs x (by simp [hx])) fun x hx => ?_
    split at hx
    · rename_i hs
      rw [List.getD_eq_getElem?_getD, List.getElem?_set] at hx
      split at hx
      · rename_i e; rw [← e]; exact hc (h s hs) m (by simp)
      · rw [← List.getD_eq_getElem?_getD] at hx; exact h x hx
    · exact h x hx
theorem rSw_in {S : Nat → Prop} {ss : List (List (List Int))} (hc : ∀ s, S s → ∀ m ∈ ss.getD s [], S (mvTo m)) : ∀ {c s : Nat} {out : List Bool}, (∀ x, out.getD x false = true → S x) → ∀ x, (rSw ss out s c).getD x false = true → S x
  | 0, _, _, h => h
  | c + 1, s, out, h => by rw [rSw]; exact rSw_in hc (rMv_in (hc s) h)
theorem rIt_in {S : Nat → Prop} {ss : List (List (List Int))} (hc : ∀ s, S s → ∀ m ∈ ss.getD s [], S (mvTo m)) : ∀ {k : Nat} {out : List Bool}, (∀ x, out.getD x false = true → S x) → ∀ x, (rIt ss k out).getD x false = true → S x
  | 0, _, h => h
  | k + 1, out, h => by rw [rIt]; exact rIt_in hc (rSw_in hc h)
theorem rIt_up {ss : List (List (List Int))} : ∀ {k : Nat} {out : List Bool}, Up out (rIt ss k out)
  | 0, _ => fun _ h => h
  | k + 1, out => fun x hx => by rw [rIt]; exact rIt_up (k := k) x (rSw_up x hx)
/-- The k first states that are met are reached after k sweeps. -/
theorem rIt_met {ss : List (List (List Int))} {o : List Nat} (ho : ∀ x ∈ o, x < ss.length) (hp : ∀ j, 0 < j → j < o.length → ∃ i, i < j ∧ ∃ m ∈ ss.getD (o.getD i 0) [], mvTo m = o.getD j 0) :
    ∀ (k b : Nat) (out : List Bool), out.length = ss.length → (∀ j, j ≤ b → j < o.length → out.getD (o.getD j 0) false = true) → ∀ j, j ≤ b + k → j < o.length → (rIt ss k out).getD (o.getD j 0) false = true
  | 0, b, out, hl, h => h
  | k + 1, b, out, hl, h => by
    rw [rIt]
    have := rIt_met ho hp k (b + 1) (rSw ss out 0 ss.length) (by rw [rSw_len, hl]) (fun j hj hjo => by
      by_cases hjb : j ≤ b
      · exact rSw_up _ (h j hjb hjo)
      · obtain ⟨i, hi, m, hm, e⟩ := hp j (by omega) hjo
        rw [← e]
        have hio : o.getD i 0 < ss.length := ho _ (by rw [getD_eq (by omega)]; exact List.getElem_mem _)
        refine rSw_has (q := o.getD i 0) (h i (by omega) (by omega)) (Nat.zero_le _) (by omega) hm ?_
        rw [e, hl]
        exact ho _ (by rw [getD_eq hjo]; exact List.getElem_mem _))
    rw [show b + (k + 1) = b + 1 + k by omega]
    exact this

theorem exts_from {kf : Nat → Nat} {s : Nat} : ∀ {ms : List (List Int)} {st : List Nat × List (Nat × List Int)}, ∃ t, (exts kf s ms st).1 = st.1 ++ t ∧ ∀ x ∈ t, ∃ m ∈ ms, mvTo m = x
  | [], st => ⟨[], by simp [exts], by simp⟩
  | m :: r, st => by
    rw [exts]
    obtain ⟨t, h1, h2⟩ := exts_from (kf := kf) (s := s) (ms := r) (st := if kf (mvTo m) ∈ st.1.map kf then st else (st.1 ++ [mvTo m], st.2 ++ [(s, m)]))
    rw [h1]
    split
    · exact ⟨t, rfl, fun x hx => let ⟨y, hy, e⟩ := h2 x hx; ⟨y, by simp [hy], e⟩⟩
    · refine ⟨mvTo m :: t, by simp, fun x hx => ?_⟩
      rcases List.mem_cons.1 hx with rfl | hx
      · exact ⟨m, by simp, rfl⟩
      · obtain ⟨y, hy, e⟩ := h2 x hx; exact ⟨y, by simp [hy], e⟩
/-- Each state that is met, but the first, is met from an earlier one. -/
theorem srch_from {kf : Nat → Nat} {ss : List (List (List Int))} : ∀ {f i : Nat} {st R : List Nat × List (Nat × List Int)}, srch kf ss f i st = some R → 
    (∀ j, 0 < j → j < st.1.length → ∃ i, i < j ∧ ∃ m ∈ ss.getD (st.1.getD i 0) [], mvTo m = st.1.getD j 0) → ∀ j, 0 < j → j < R.1.length → ∃ i, i < j ∧ ∃ m ∈ ss.getD (R.1.getD i 0) [], mvTo m = R.1.getD j 0
  | 0, _, _, _, h, _ => by cases h
  | f + 1, i, st, R, h, hp => by
    rw [srch] at h
    split at h
    · rename_i hlt
      refine srch_from h fun j h0 hj => ?_
      obtain ⟨t, h1, h2⟩ := exts_from (kf := kf) (s := st.1.getD i 0) (ms := ss.getD (st.1.getD i 0) []) (st := st)
      rw [h1] at hj ⊢
      rw [List.length_append] at hj
      by_cases hjl : j < st.1.length
      · obtain ⟨q, hq, m, hm, e⟩ := hp j h0 hjl
        exact ⟨q, hq, m, by rw [getD_app_l (by omega)]; exact hm, by rw [getD_app_l hjl]; exact e⟩
      · have hx : (st.1 ++ t).getD j 0 ∈ t := by
          rw [List.getD_eq_getElem?_getD, List.getElem?_append_right (by omega), List.getElem?_eq_getElem (by omega)]
          exact List.getElem_mem _
        obtain ⟨m, hm, e⟩ := h2 _ hx
        exact ⟨i, by omega, m, by rw [getD_app_l hlt]; exact hm, e⟩
    · injection h with h; subst h; exact hp
theorem rchL_iff {ss : List (List (List Int))} (h : ClsOK ss) (x : Nat) : (rchL ss).getD x false = true ↔ x ∈ (ordI ss).1 := by
  obtain ⟨h1, h2, h3⟩ := ordI_eq h
  have hp := h.2.2.1
  obtain ⟨t, ht⟩ := srch_pre h1
  have ht : (ordI ss).1 = 0 :: t := ht
  constructor
  · refine rIt_in (S := fun x => x ∈ (ordI ss).1) (fun s hs m hm => ?_) (fun y hy => ?_) x
    · obtain ⟨a, ha, e⟩ := List.getElem_of_mem hs
      have := srch_closed h1 (by omega) (fun a ha => absurd ha (Nat.not_lt_zero _)) a ha m (by rw [getD_eq ha, e]; exact hm)
      rw [List.map_id] at this
      exact this
    · rw [List.getD_eq_getElem?_getD, List.getElem?_set] at hy
      split at hy
      · rename_i e; rw [← e, ht]; simp
      · rw [List.getElem?_replicate] at hy
        split at hy <;> cases hy
  · intro hx
    obtain ⟨j, hj, e⟩ := List.getElem_of_mem hx
    have := rIt_met h3 (srch_from h1 (fun j h0 hj => by simp at hj; omega)) ss.length 0 ((List.replicate ss.length false).set 0 true) (by simp) (fun j hj0 hjo => by
      obtain rfl : j = 0 := by omega
      rw [ht]
      show (List.set _ _ _).getD 0 false = true
      rw [List.getD_eq_getElem?_getD, List.getElem?_set_self (by rw [List.length_replicate]; exact hp)]; rfl) j (by omega) hj
    rw [getD_eq hj, e] at this
    exact this
/-- All states are reached exactly if all of them are met. -/
theorem rchL_all {ss : List (List (List Int))} (h : ClsOK ss) : (∀ x, x < ss.length → (rchL ss).getD x false = true) ↔ (ordI ss).1.length = ss.length := by
  obtain ⟨h1, h2, h3⟩ := ordI_eq h
  have hn : (ordI ss).1.Nodup := by have := srch_nodup h1 (by simp); rwa [List.map_id] at this
  constructor
  · intro ha
    have := nodup_sub_le (List.nodup_range (n := ss.length)) fun x hx => (rchL_iff h x).1 (ha x (List.mem_range.1 hx))
    rw [List.length_range] at this
    omega
  · intro hl x hx
    refine (rchL_iff h x).2 ?_
    apply Classical.byContradiction
    intro hm
    have h6 : (x :: (ordI ss).1).Nodup := List.nodup_cons.2 ⟨hm, hn⟩
    have h7 := nodup_lt_le h6 fun y hy => by
      rcases List.mem_cons.1 hy with rfl | hy
      · exact hx
      · exact h3 y hy
    rw [List.length_cons, hl] at h7
    omega

/-- A row of bools that was made since block B. -/
def OB (w : World) (B : Nat) (v : Value) (n : Nat) (xs : List Bool) : Prop := w.ownsRow B 4 1 v n (xs.map Value.bool)
theorem elemB : ElemOK Tryz.prog 151 4 (.bool false) 1 := ⟨by kernel_rfl, by kernel_rfl, rfl⟩
theorem OB.length {w : World} {B : Nat} {v : Value} {n : Nat} {xs : List Bool} (h : OB w B v n xs) : xs.length = n := by have := h.1; simpa using this
theorem OB.keep {w w' : World} {B : Nat} {v : Value} {n : Nat} {xs : List Bool} (h : OB w B v n xs) (hb : Below w.heap.size w w') : OB w' B v n xs := by
  refine ⟨h.1, ?_⟩
  rcases h.2 with h' | ⟨g, cap, cur, h1, h2, h3, h4⟩
  · exact .inl h'
  · exact .inr ⟨g, cap, cur, h1, h2, (hb.block g (Array.getElem?_eq_some_iff.1 h3).1).trans h3, h4⟩
theorem OB.base {w : World} {B B' : Nat} {v : Value} {n : Nat} {xs : List Bool} (h : OB w B v n xs) (hb : B' ≤ B) : OB w B' v n xs := by
  refine ⟨h.1, ?_⟩
  rcases h.2 with h' | ⟨g, cap, cur, h1, h2, h3⟩
  · exact .inl h'
  · exact .inr ⟨g, cap, cur, h1, by omega, h3⟩
theorem OB.store {w : World} {B g n cap : Nat} {xs : List Bool} (h : OB w B (.slice (some ⟨g, 0, none⟩) n cap) n xs) (j : Nat) (y : Bool) :
    OB (w.setCell ⟨g, j, none⟩ (.bool y)) B (.slice (some ⟨g, 0, none⟩) n cap) n (xs.set j y) := by
  have := (World.ownsRow.stored h j (.bool y)).1
  unfold OB
  rw [List.map_set]
  exact this
theorem OB.cell {w : World} {B g n cap : Nat} {xs : List Bool} (h : OB w B (.slice (some ⟨g, 0, none⟩) n cap) n xs) {j : Nat} (hj : j < n) : w.cell? ⟨g, j, none⟩ = some (.bool (xs.getD j false)) := by
  have hl := h.length
  rw [World.ownsRow.cellAt h j (by omega)]
  simp [show j < xs.length by omega]
theorem OB.free {w : World} {B g n cap : Nat} {xs : List Bool} (h : OB w B (.slice (some ⟨g, 0, none⟩) n cap) n xs) (j : Nat) : w.frozen? ⟨g, j, none⟩ = false := World.ownsRow.frozenAt h j
theorem OB.shape {w : World} {B : Nat} {v : Value} {n : Nat} {xs : List Bool} (h : OB w B v n xs) : ∃ a c, v = .slice a n c := by
  rcases h.2 with ⟨rfl, rfl⟩ | ⟨g, cap, cur, rfl, _⟩
  · exact ⟨_, _, rfl⟩
  · exact ⟨_, _, rfl⟩
theorem OB.form {w : World} {B : Nat} {v : Value} {n : Nat} {xs : List Bool} (h : OB w B v n xs) (hn : 0 < n) : ∃ g cap, v = .slice (some ⟨g, 0, none⟩) n cap ∧ B ≤ g := by
  rcases h.2 with ⟨_, h'⟩ | ⟨g, cap, cur, rfl, hb, _⟩
  · first | omega | (rw [h'] at hn; omega)
  · exact ⟨g, cap, rfl, hb⟩
set_option maxRecDepth 100000 in
set_option maxHeartbeats 1600000 in
theorem refNumber {w : World} {v : Value} {l : List Nat} (h : Ints w v (natI l)) (hb : ∀ x ∈ l, x ≤ 1000000) (h0 : 0 < l.length) (hl : l.length ≤ 1000000) :
    Calls Tryz.prog 105 #[v] w fun e w' => e = .returned (.int .i64 ((mxN l + 1 : Nat) : Int)) ∧ w' = w := by
  obtain ⟨aa, ac, ab, off, rfl, ha, hc, _⟩ := h
  rw [natI_len] at ha ⊢
  obtain rfl := ha h0
  have hcl : Hid (∀ j, j < l.length → w.cell? ⟨ab, off + j, none⟩ = some (.int .i64 ((l.getD j 0 : Nat) : Int))) := fun j hj => by
    have := hc j (by rw [natI_len]; exact hj)
    rwa [natI_getD] at this
  have hbl : Hid (∀ j, j < l.length → l.getD j 0 ≤ 1000000) := fun j hj => hb _ (by rw [getD_eq hj]; exact List.getElem_mem hj)
  obtain ⟨N, hN⟩ : ∃ N, l.length = N := ⟨_, rfl⟩
  have hfold : Hid (∀ k, k < N → (l.take (k + 1)).foldl (fun a x => max a (x + 1)) 0 = max ((l.take k).foldl (fun a x => max a (x + 1)) 0) (l.getD k 0 + 1)) := fun k hk => by
    rw [take_snoc (by omega) 0, List.foldl_append]; rfl
  have hend : Hid ((l.take N).foldl (fun a x => max a (x + 1)) 0 = mxN l + 1) := by
    show _ = _
    rw [← hN, List.take_length]
    have key : ∀ (l : List Nat) (a : Nat), l.foldl (fun a x => max a (x + 1)) (a + 1) = l.foldl max a + 1 := by
      intro l
      induction l with
      | nil => intro a; rfl
      | cons x l ih => intro a; rw [List.foldl_cons, List.foldl_cons, ← ih]; congr 1; omega
    cases l with
    | nil => simp at h0
    | cons x r =>
      rw [List.foldl_cons, show max 0 (x + 1) = x + 1 by omega, key, mxN, List.foldl_cons, show max 0 x = x by omega]
  rw [hN] at hcl hbl h0 hl ⊢
  have hz : Hid ((l.take 0).foldl (fun a x => max a (x + 1)) 0 ≤ 1000001) := by show _ ≤ _; simp
  clear hb ha hc hN
  go_enter Tryz.func105, Tryz.ntmps105
  go_wp2_with fail
  go_loopw [3, 4] (fun mv iv wr => ∃ (k M : Nat), iv = .int .i64 k ∧ mv = .int .i64 M ∧ k ≤ N ∧ Hid (M = (l.take k).foldl (fun a x => max a (x + 1)) 0) ∧ M ≤ 1000001 ∧ wr = w) (fun _ iv _ => N - (intOf iv).toNat)
  case atStart => exact ⟨0, 0, rfl, rfl, by omega, by show _ = _; simp, by omega, rfl⟩
  case round =>
    obtain ⟨k, M, rfl, rfl, hk, hM, hM9, rfl⟩ := hrel
    by_cases hlt : k < N
    · have hki : (k : Int) < (N : Int) := by omega
      obtain ⟨q, hq⟩ : ∃ q, l.getD k 0 = q := ⟨_, rfl⟩
      have c := hcl.out k hlt
      have hb := hbl.out k hlt
      have hf := hfold.out k hlt
      rw [hq] at c hb hf
      rw [← hM.out] at hf
      replace hf := Lib.hid hf
      replace hq := Lib.hid hq
      have hw1 : IntKind.i64.wrap ((q : Int) + 1) = (q : Int) + 1 := IntWalk.i64_in _ (by omega)
      clear hM
      by_cases hc : M < q + 1
      · have h1 : (M : Int) < (q : Int) + 1 := by omega
        have h2 : ¬ ((q : Int) + 1 < (M : Int)) := by omega
        have hf2 : Hid (q + 1 = (l.take (k + 1)).foldl (fun a x => max a (x + 1)) 0) := by show _ = _; rw [hf.out]; omega
        clear hf
        go_wp2
        go_roundw
        case rel => exact ⟨k + 1, q + 1, by go_num, by first | go_num | (congr 1; omega), hlt, hf2, by omega, by first | rfl | trivial⟩
        case measure => simp [intOf]; omega
      · have h1 : ¬ ((M : Int) < (q : Int) + 1) := by omega
        have hf2 : Hid (M = (l.take (k + 1)).foldl (fun a x => max a (x + 1)) 0) := by show _ = _; rw [hf.out]; omega
        clear hf
        go_wp2
        go_roundw
        case rel => exact ⟨k + 1, M, by go_num, by first | go_num | (congr 1; omega), hlt, hf2, hM9, by first | rfl | trivial⟩
        case measure => simp [intOf]; omega
    · obtain rfl : k = N := by omega
      have hR : M = mxN l + 1 := by rw [hM.out, hend.out]
      have hRi : Hid ((M : Int) = ((mxN l + 1 : Nat) : Int)) := by show _ = _; rw [hR]
      clear hM hR hend
      go_wp2
      go_ret
      exact ⟨by rw [← hRi.out]; rfl, by first | rfl | trivial⟩
end Go.Proofs.YtfihpofdoffclaaGreatDoor

/- The reference: Reached and Minimal. -/
namespace Go.Proofs.YtfihpofdoffclaaGreatDoor
open Go.RowKit

theorem obMade {W : World} {g g' N : Nat} (h : W.ownsRow g 4 1 (.slice (some ⟨g, 0, none⟩) N N) N (List.replicate N (.bool false))) (e : g = g') : OB W g' (.slice (some ⟨g', 0, none⟩) N N) N (List.replicate N false) := by
  subst e
  unfold OB
  rw [List.map_replicate]; exact h
set_option maxRecDepth 100000 in
set_option maxHeartbeats 3200000 in
theorem refReached {w : World} {v : Value} {n : Int} {ss : List (List (List Int))} (hA : AdvV w v n ss) (hM : LeadOK ss) (h0 : 0 < ss.length) (hl : ss.length ≤ 1000) :
    Calls Tryz.prog 104 #[v] w fun e w' => ∃ u, e = .returned u ∧ OB w' w.heap.size u ss.length (rchL ss) ∧ Below w.heap.size w w' := by
  have hA' := hA
  obtain ⟨sv, rfl, hK⟩ := hA'
  obtain ⟨sa, sc, sb, so, rfl, hsa, hsc, _⟩ := hK
  obtain rfl := hsa h0
  obtain ⟨W1, hW1⟩ : ∃ W1, W1 = w.alloc (.cells #[.int .i64 n, .slice (some ⟨sb, so, none⟩) ss.length sc] 24) := ⟨_, rfl⟩
  obtain ⟨hb1, p0, p1, _⟩ := boxAdv hW1
  have hsc := Lib.hid (fun W (hb : Below W1.heap.size W1 W) j (hj : j < ss.length) => let ⟨u, h1, h2⟩ := hsc j hj; (⟨u, cell_kept (bt hb1 hb hb1.size) h1, h2.keep (bt hb1 hb hb1.size)⟩ : ∃ u, W.cell? ⟨sb, so + j, none⟩ = some u ∧ KS 8 W u (ss.getD j [])))
  obtain ⟨R, hR⟩ : ∃ R, rchL ss = R := ⟨_, rfl⟩
  have hto : Hid (∀ j, j < ss.length → ∀ m ∈ ss.getD j [], 0 ≤ m.getD 7 0 ∧ m.getD 7 0 < (ss.length : Int)) := fun j hj m hm => hM _ (by rw [getD_eq hj]; exact List.getElem_mem hj) m hm
  obtain ⟨N, hN⟩ : ∃ N, ss.length = N := ⟨_, rfl⟩
  have hR0 : Hid (rIt ss (N - 0) ((List.replicate N false).set 0 true) = R) := by show _ = _; rw [← hR, rchL, hN, Nat.sub_zero]
  rw [hN] at hto hsc h0 hl p1 hW1 ⊢
  rw [hR]
  have hsz := hb1.size
  have hs1 : W1.heap.size = w.heap.size + 1 := by rw [hW1]; simp
  replace hN := Lib.hid hN
  clear hA hM hR
  have h0i : (0 : Int) < (N : Int) := by omega
  replace hs1 := Lib.hid hs1
  have hgB : W1.heap.size ≤ w.heap.size + 1 := by rw [hs1.out]; exact Nat.le_refl _
  go_enter Tryz.func104, Tryz.ntmps104
  go_wp2_with (at_make; rw [← hW1]; refine wpMake elemB (by decide) rfl _ _ rfl N rfl rfl (by omega) (Nat.le_refl W1.heap.size) ?_; intro W2 ho hgr hb2; replace hW1 := Lib.hid hW1; rw [hs1.out]; have hob := obMade ho hs1.out; have hc0 := hob.cell h0; have hf0 := hob.free 0; clear ho)
  have hob1 := hob.store 0 true
  have hbs : Below W1.heap.size W1 (W2.setCell ⟨w.heap.size + 1, 0, none⟩ (.bool true)) := Below.setCell (p := ⟨w.heap.size + 1, 0, none⟩) hb2 hgB _
  clear hob
  obtain ⟨W3, hW3⟩ : ∃ W3, W3 = W2.setCell ⟨w.heap.size + 1, 0, none⟩ (.bool true) := ⟨_, rfl⟩
  rw [← hW3] at hob1 hbs ⊢
  replace hW3 := Lib.hid hW3
  clear hc0 hf0
  go_loopw [4] (fun kv wr => ∃ (k : Nat) (o : List Bool), kv = .int .i64 k ∧ k ≤ N ∧ OB wr (w.heap.size + 1) (.slice (some ⟨w.heap.size + 1, 0, none⟩) N N) N o ∧ Below W1.heap.size W1 wr ∧ Hid (rIt ss (N - k) o = R)) (fun kv _ => N - (intOf kv).toNat)
  case atStart => exact ⟨0, _, rfl, by omega, hob1, hbs, hR0⟩
  case round =>
    clear hob1 hbs hR0
    obtain ⟨k, o, rfl, hk, hob, hbr, hr⟩ := hrel
    have q1 := cell_kept hbr p1
    by_cases hlt : k < N
    · have hki : (k : Int) < (N : Int) := by omega
      have hr2 := hr.out
      rw [show N - k = (N - (k + 1)) + 1 by omega, rIt, hN.out] at hr2
      obtain ⟨R1, hR1⟩ : ∃ R1, rSw ss o 0 N = R1 := ⟨_, rfl⟩
      rw [hR1] at hr2
      have hR10 : Hid (rSw ss o 0 (N - 0) = R1) := by show _ = _; rw [Nat.sub_zero]; exact hR1
      replace hR1 := Lib.hid hR1
      replace hr2 := Lib.hid hr2
      obtain ⟨wo, hwo⟩ : ∃ wo, wo = wr := ⟨_, rfl⟩
      subst hwo
      clear hr
      go_wp2_with fail
      go_loopw [5] (fun sv wr => ∃ (s : Nat) (o : List Bool), sv = .int .i64 s ∧ s ≤ N ∧ OB wr (w.heap.size + 1) (.slice (some ⟨w.heap.size + 1, 0, none⟩) N N) N o ∧ Below W1.heap.size W1 wr ∧ Hid (rSw ss o s (N - s) = R1)) (fun sv _ => N - (intOf sv).toNat)
      case atStart => exact ⟨0, _, rfl, by omega, hob, hbr, hR10⟩
      case round =>
        clear hob hbr hR10 q1
        obtain ⟨s, o, rfl, hs, hob, hbr, hr⟩ := hrel
        have q1 := cell_kept hbr p1
        by_cases hlts : s < N
        · have hsi : (s : Int) < (N : Int) := by omega
          have hr3 := hr.out
          rw [show N - s = (N - (s + 1)) + 1 by omega, rSw] at hr3
          obtain ⟨ms, hms⟩ : ∃ ms, ss.getD s [] = ms := ⟨_, rfl⟩
          have htm := hto.out s hlts
          rw [hms] at hr3 htm
          obtain ⟨R2, hR2⟩ : ∃ R2, rMv s o ms = R2 := ⟨_, rfl⟩
          rw [hR2] at hr3
          have hR20 : Hid (rMv s o (ms.drop 0) = R2) := hR2
          replace hr3 := Lib.hid hr3
          replace hR2 := Lib.hid hR2
          replace hms := Lib.hid hms
          replace htm := Lib.hid htm
          obtain ⟨u0, hu0, hk0⟩ := hsc.out W1 (Below.refl _ _) s hlts
          rw [hms.out] at hk0
          obtain ⟨ua, uc, ub, uo, hus, hua, hmc, _⟩ := hk0
          subst hus
          obtain ⟨wi, hwi⟩ : ∃ wi, wi = wr := ⟨_, rfl⟩
          subst hwi
          clear hr
          go_wp2_with fail
          go_loopw [6] (fun jv wr => ∃ (j : Nat) (o : List Bool), jv = .int .i64 j ∧ j ≤ ms.length ∧ OB wr (w.heap.size + 1) (.slice (some ⟨w.heap.size + 1, 0, none⟩) N N) N o ∧ Below W1.heap.size W1 wr ∧ Hid (rMv s o (ms.drop j) = R2)) (fun jv _ => ms.length - (intOf jv).toNat)
          case atStart => exact ⟨0, _, rfl, by omega, hob, hbr, hR20⟩
          case round =>
            clear hob hbr hR20 q1
            obtain ⟨j, o, rfl, hj, hob, hbr, hr⟩ := hrel
            have q1 := cell_kept hbr p1
            have hur := cell_kept hbr hu0
            by_cases hltj : j < ms.length
            · have hji : (j : Int) < (ms.length : Int) := by omega
              obtain ⟨m, hm⟩ : ∃ m, ms.getD j [] = m := ⟨_, rfl⟩
              have hr4 := hr.out
              rw [drop_cons hltj ([] : List Int), hm, rMv] at hr4
              have hmm := htm.out m (by rw [← hm, getD_eq hltj]; exact List.getElem_mem hltj)
              have hm8 := (hmc j hltj).1
              have hmk := ((hmc j hltj).2).keep hbr
              rw [hm] at hm8 hmk
              obtain ⟨y0, y1, y2, y3, y4, y5, y6, y7, rfl⟩ := eight hm8
              obtain ⟨c0, c1, c2, c3, c4, c5, c6, c7⟩ := hmk.all8
              obtain rfl := hua (by omega)
              have hg7 : ([y0, y1, y2, y3, y4, y5, y6, y7] : List Int).getD 7 0 = y7 := rfl
              rw [hg7] at hmm
              obtain ⟨t, rfl⟩ : ∃ t : Nat, y7 = (t : Int) := ⟨y7.toNat, by omega⟩
              have hmt : mvTo [y0, y1, y2, y3, y4, y5, y6, (t : Int)] = t := by unfold mvTo; rw [hg7, Int.toNat_natCast]
              rw [hmt] at hr4
              have htN : t < N := by omega
              have hti : (t : Int) < (N : Int) := by omega
              have hcs := hob.cell hlts
              have hct := hob.cell htN
              have hft := hob.free t
              obtain ⟨bs, hbs⟩ : ∃ bs, o.getD s false = bs := ⟨_, rfl⟩
              rw [hbs] at hr4 hcs
              replace hbs := Lib.hid hbs
              replace hm := Lib.hid hm
              clear hr hmm hmt hg7 c0 c1 c2 c3 c4 c5 c6 hm8 hmk
              cases bs
              · rw [if_neg (by decide)] at hr4
                replace hr4 := Lib.hid hr4
                go_wp2_with fail
                go_roundw
                case rel => exact ⟨j + 1, o, by go_num, hltj, hob, hbr, hr4⟩
                case measure => simp [intOf]; omega
              · rw [if_pos rfl] at hr4
                replace hr4 := Lib.hid hr4
                have hob2 := hob.store t true
                have hbs2 : Below W1.heap.size W1 (wr.setCell ⟨w.heap.size + 1, t, none⟩ (.bool true)) := Below.setCell (p := ⟨w.heap.size + 1, t, none⟩) hbr hgB _
                clear hob
                go_wp2_with fail
                go_roundw
                case rel => exact ⟨j + 1, o.set t true, by go_num, hltj, hob2, hbs2, hr4⟩
                case measure => simp [intOf]; omega
            · obtain rfl : j = ms.length := by omega
              have hr4 := hr.out
              rw [List.drop_eq_nil_of_le (Nat.le_refl _), rMv] at hr4
              have hr5 : Hid (rSw ss o (s + 1) (N - (s + 1)) = R1) := by show _ = _; rw [hr4]; exact hr3.out
              clear hr hr4
              go_wp2_with fail
              go_roundw
              case rel => exact ⟨s + 1, o, by go_num, hlts, hob, hbr, hr5⟩
              case measure => simp [intOf]; omega
        · obtain rfl : s = N := by omega
          have hr4 := hr.out
          rw [Nat.sub_self, rSw] at hr4
          have hr5 : Hid (rIt ss (s - (k + 1)) o = R) := by show _ = _; rw [hr4]; exact hr2.out
          clear hr hr4
          go_wp2_with fail
          go_roundw
          case rel => exact ⟨k + 1, o, by go_num, hlt, hob, hbr, hr5⟩
          case measure => simp [intOf]; omega
    · obtain rfl : k = N := by omega
      have hr4 := hr.out
      rw [Nat.sub_self, rIt] at hr4
      subst hr4
      have hfin := Lib.hid (hob.base (B' := w.heap.size) (Nat.le_succ _))
      have hbf := bt hb1 hbr hb1.size
      clear hr hob
      go_wp2_with fail
      go_ret
      exact ⟨_, rfl, hfin.out, hbf⟩
set_option maxRecDepth 100000 in
set_option maxHeartbeats 1600000 in
theorem refMinimal {w : World} {v : Value} {n : Int} {ss : List (List (List Int))} (hA : AdvV w v n ss) (hW : SmA n ss) :
    Calls Tryz.prog 66 #[v] w fun e w' => e = .returned (.bool (minB ss)) ∧ Below w.heap.size w w' := by
  have h0 := hW.pos
  have hl := hW.2.2.1
  obtain ⟨sa, sc, hv⟩ := advShape' hA
  subst hv
  obtain ⟨W1, hW1⟩ : ∃ W1, W1 = w.alloc (.cells #[.int .i64 n, .slice sa ss.length sc] 24) := ⟨_, rfl⟩
  obtain ⟨hb1, p0, p1, _⟩ := boxAdv hW1
  have H1 := Lib.hid (fun W (hb : Below W1.heap.size W1 W) => refReached ((hA.keep hb1).keep hb) hW.lead h0 (by omega))
  have H2 := Lib.hid (fun W (hb : Below W1.heap.size W1 W) => refPartition ((hA.keep hb1).keep hb) hW.lead (by omega))
  have HN := Lib.hid (fun W v (h : Ints W v (natI (part ss))) => refNumber h (fun x hx => part_mem (by omega) hx) (by rw [part_len]; exact h0) (by rw [part_len]; omega))
  have hall := rchL_all hW.cls
  have hmb : minB ss = (decide (∀ x, x < ss.length → (rchL ss).getD x false = true) && decide (mxN (part ss) + 1 = ss.length)) := by
    unfold minB
    congr 1
    exact decide_eq_decide.2 hall.symm
  obtain ⟨RB, hRB⟩ : ∃ RB, rchL ss = RB := ⟨_, rfl⟩
  obtain ⟨PL, hPL⟩ : ∃ PL, part ss = PL := ⟨_, rfl⟩
  obtain ⟨M, hM⟩ : ∃ M, mxN PL + 1 = M := ⟨_, rfl⟩
  obtain ⟨Z, hZ⟩ : ∃ Z, minB ss = Z := ⟨_, rfl⟩
  rw [hRB, hPL, hM, hZ] at hmb
  rw [hRB] at H1
  rw [hPL] at H2 HN
  rw [hM] at HN
  rw [hZ]
  obtain ⟨N, hN⟩ : ∃ N, ss.length = N := ⟨_, rfl⟩
  rw [hN] at hmb h0 hl H1 H2 p1 hW1 ⊢
  have hyes : Hid ((∀ x, x < N → RB.getD x false = true) → Z = decide (M = N)) := fun h => by rw [hmb, decide_eq_true h, Bool.true_and]
  have hno : Hid (∀ x, x < N → RB.getD x false = false → Z = false) := fun x hx h => by
    rw [hmb, decide_eq_false (fun h2 => by have := h2 x hx; rw [h] at this; cases this), Bool.false_and]
  replace hRB := Lib.hid hRB
  replace hPL := Lib.hid hPL
  replace hM := Lib.hid hM
  replace hZ := Lib.hid hZ
  replace hN := Lib.hid hN
  clear hall hmb hW hA
  go_enter Tryz.func66, Tryz.ntmps66
  go_wp2_with fail
  rw [← hW1]
  replace hW1 := Lib.hid hW1
  go_upto_region 1 with fail
  go_cut [3, 4] (fun rv lv wx => ∃ ra rc la lc, rv = .slice ra N rc ∧ lv = .slice la N lc ∧ OB wx W1.heap.size (.slice ra N rc) N RB ∧ OI wx W1.heap.size (.slice la N lc) N (natI PL) ∧ Below W1.heap.size W1 wx)
  case first =>
    go_region_held3 (fun w' => w'.cell? ⟨w.heap.size, 0, none⟩ = some (.int .i64 n) ∧ w'.cell? ⟨w.heap.size, 1, none⟩ = some (.slice sa N sc))
      (first
        | go_keep
        | (exact ⟨cell_kept hR6 p0, cell_kept hR6 p1⟩)
        | (exact ⟨cell_kept hR5 p0, cell_kept hR5 p1⟩))
      (first
        | (go_at_call 104; (with_reducible refine (H1.out _ (by first | exact hR6 | exact (Below.refl _ _).drew)).mono ?_); rintro e w5 ⟨u5, rfl, h5, hb5⟩; obtain ⟨a5, c5, rfl⟩ := h5.shape; have hR5 : Below W1.heap.size W1 w5 := (by first | exact bt hR6 hb5 hR6.size | exact below_of_drew hb5); have h5b : OB w5 W1.heap.size (.slice a5 N c5) N RB := h5.base (by first | exact hR6.size | exact Nat.le_refl _))
        | (go_at_call 50; (with_reducible refine (H2.out _ (by first | exact hR5 | exact (Below.refl _ _).drew)).mono ?_); rintro e w6 ⟨u6, rfl, h6, hb6⟩; obtain ⟨a6, c6, rfl⟩ := h6.shape; have hR6 : Below W1.heap.size W1 w6 := (by first | exact bt hR5 hb6 hR5.size | exact below_of_drew hb6); have h6b : OI w6 W1.heap.size (.slice a6 N c6) N (natI PL) := h6.base (by first | exact hR5.size | exact Nat.le_refl _)))
    all_goals
      go_wp2
      go_meet
      first
        | exact ⟨a5, c5, a6, c6, rfl, rfl, h5b.keep hb6, h6b, hR6⟩
        | exact ⟨a5, c5, a6, c6, rfl, rfl, h5b, h6b.keep hb5, hR5⟩
  case rest =>
    obtain ⟨ra, rc, la, lc, rfl, rfl, hob, hoi, hbx⟩ := hcut
    obtain ⟨wp, hwp⟩ : ∃ wp, wp = wc := ⟨_, rfl⟩
    subst hwp
    obtain ⟨gr, cr, hre, _⟩ := hob.form h0
    obtain ⟨rfl, rfl⟩ : ra = some ⟨gr, 0, none⟩ ∧ rc = cr := by injection hre with h1 h2 h3; exact ⟨h1, h3⟩
    have hcell := Lib.hid (fun s (hs : s < N) => hob.cell hs)
    have HNc := Lib.hid (HN.out wp _ (hoi.ints (by omega)))
    have hbf := bt hb1 hbx hb1.size
    clear hre hob hoi
    go_wp2_with fail
    go_loopw [5] (fun sv wr => ∃ s : Nat, sv = .int .i64 s ∧ s ≤ N ∧ Hid (∀ x, x < s → RB.getD x false = true) ∧ wr = wp) (fun sv _ => N - (intOf sv).toNat)
    case atStart => exact ⟨0, rfl, by omega, fun x hx => absurd hx (Nat.not_lt_zero _), rfl⟩
    case round =>
      obtain ⟨s, rfl, hs, hall, rfl⟩ := hrel
      by_cases hlt : s < N
      · have hsi : (s : Int) < (N : Int) := by omega
        obtain ⟨b, hb⟩ : ∃ b, RB.getD s false = b := ⟨_, rfl⟩
        have c := hcell.out s hlt
        rw [hb] at c
        cases b
        · have hz := Lib.hid (hno.out s hlt hb)
          clear hb
          go_wp2
          go_ret
          exact ⟨by rw [hz.out]; rfl, hbf⟩
        · have hall2 : Hid (∀ x, x < s + 1 → RB.getD x false = true) := fun x hx => by
            by_cases e : x = s
            · subst e; exact hb
            · exact hall.out x (by omega)
          clear hb hall
          go_wp2
          go_roundw
          case rel => exact ⟨s + 1, by go_num, hlt, hall2, by first | rfl | trivial⟩
          case measure => simp [intOf]; omega
      · obtain rfl : s = N := by omega
        have hz := Lib.hid (hyes.out hall.out)
        have hge : ¬ ((s : Int) < (s : Int)) := by omega
        clear hall
        by_cases hMN : M = s
        · have e1 : ((M : Int) == (s : Int)) = true := by simp [hMN]
          have hz2 : Hid (Z = true) := by show _ = _; rw [hz.out, decide_eq_true hMN]
          clear hz hMN
          go_wp2_with fail
          refine HNc.out.mono ?_
          rintro e w' ⟨rfl, hw'⟩
          replace hw' := hw'.symm
          subst hw'
          go_wp2
          go_ret
          exact ⟨by rw [hz2.out]; rfl, hbf⟩
        · have e1 : ((M : Int) == (s : Int)) = false := by simp; omega
          have hz2 : Hid (Z = false) := by show _ = _; rw [hz.out, decide_eq_false hMN]
          clear hz hMN
          go_wp2_with fail
          refine HNc.out.mono ?_
          rintro e w' ⟨rfl, hw'⟩
          replace hw' := hw'.symm
          subst hw'
          go_wp2
          go_ret
          exact ⟨by rw [hz2.out]; rfl, hbf⟩
end Go.Proofs.YtfihpofdoffclaaGreatDoor

/- The reference: access. -/
namespace Go.Proofs.YtfihpofdoffclaaGreatDoor
open Go.RowKit

/-- A word in a cell; an empty one is nil. -/
def EWdN (w : World) (cs : List Value) (x : List (List Int)) : Prop := ∃ u, cs = [u] ∧ OwX 79 7 EI w 0 u x.length x ∧ (x = [] → u = .slice none 0 0)
theorem EWdN.stab {E : TypeId} (h : 79 ≠ E) : Stab E EWdN := fun _ _ _ _ ⟨u, h1, h2, h3⟩ hx => ⟨u, h1, h2.other (EI.stab _) h hx, h3⟩
theorem OwX.wd {E : TypeId} {w : World} {B : Nat} {v : Value} {n : Nat} {xs : List (List (List Int))} (h : OwX E 1 EWdN w B v n xs) : OwX E 1 EWd w B v n xs := h.mono fun _ _ ⟨u, h1, h2, _⟩ => ⟨u, h1, h2⟩
theorem owMadeW {w : World} {B g N : Nat} (h : w.ownsRow B 45 1 (.slice (some ⟨g, 0, none⟩) N N) N (List.replicate N (.slice none 0 0))) :
    OwX 45 1 EWdN w B (.slice (some ⟨g, 0, none⟩) N N) N (List.replicate N []) := by
  refine ⟨_, h, by simp, fun u hu => ?_, fun j x hj => ?_⟩
  · rw [List.eq_of_mem_replicate hu]; rfl
  · have hjl : j < N := by
      have := (List.getElem?_eq_some_iff.1 hj).1
      rwa [List.length_replicate] at this
    rw [List.getElem?_replicate, if_pos hjl] at hj
    injection hj with hj
    subst hj
    rw [Nat.mul_one, List.drop_replicate, List.take_replicate, show min 1 (N - j) = 1 by omega]
    exact ⟨_, rfl, OwX.nil _ _, fun _ => rfl⟩
theorem htcell {w : World} {B g N cap : Nat} {P : List (List (List Int))} (h : OwX 45 1 EWdN w B (.slice (some ⟨g, 0, none⟩) N cap) N P) {t : Nat} (ht : t < N) : ∃ u, w.cell? ⟨g, t, none⟩ = some u := by
  have hl := h.length
  obtain ⟨cs, _, ⟨u, h1, _⟩, h3⟩ := h.cells (j := t) (x := P.getD t []) (by rw [getD_eq (by omega)]; exact List.getElem?_eq_some_iff.2 ⟨by omega, rfl⟩)
  have h4 := h3 0 u (by rw [h1]; rfl)
  rw [Nat.mul_one, Nat.add_zero] at h4
  exact ⟨u, h4⟩
theorem setC_other {w : World} {p : Addr} {v u : Value} {b o : Nat} (h : w.cell? ⟨b, o, none⟩ = some u) (hne : b ≠ p.block) : (w.setCell p v).cell? ⟨b, o, none⟩ = some u := by
  rw [cell_same (Below.heap_setCell _ _ _ _ hne)]; exact h
theorem OwX.setC {α : Type} {E : TypeId} {k : Nat} {El : World → List Value → α → Prop} {w : World} {B g n cap : Nat} {xs : List α} (h : OwX E k El w B (.slice (some ⟨g, 0, none⟩) n cap) n xs) {q t : Nat} (hne : q ≠ t) {v u : Value} (hc : w.cell? ⟨g, q, none⟩ = some u) : (w.setCell ⟨g, t, none⟩ v).cell? ⟨g, q, none⟩ = some u := by
  obtain ⟨vs, h1, _⟩ := h
  obtain ⟨cs, h2⟩ := ownsRow_ty h1 g rfl
  rw [row_set_other h2 hne]; exact hc
theorem own_ne {w : World} {E E' : TypeId} {B B' k k' g g' n n' c c' : Nat} {vs vs' : List Value} (h : w.ownsRow B E k (.slice (some ⟨g, 0, none⟩) n c) n vs) (h' : w.ownsRow B' E' k' (.slice (some ⟨g', 0, none⟩) n' c') n' vs') (hE : E ≠ E') : g ≠ g' := fun e => by
  obtain ⟨cs, h2⟩ := ownsRow_ty h g rfl
  obtain ⟨cs', h3⟩ := ownsRow_ty h' g' rfl
  rw [e, h3] at h2
  simp at h2
  exact hE h2.2.symm
theorem oiBox {w : World} {g B : Nat} {x : Int} (hg : w.heap[g]? = some (.cells #[.int .i64 x] 3)) (hB : B ≤ g) : OI w B (.slice (some ⟨g, 0, none⟩) 1 1) 1 [x] :=
  ⟨rfl, .inr ⟨g, 1, _, rfl, hB, hg, Nat.le_refl _, by unfold maxLen; omega, rfl, rfl⟩⟩
theorem wds_app {N : Nat} {fs : List (Nat × List Int)} {s t : Nat} {m : List Int} (ht : mvTo m = t) : wds N (fs ++ [(s, m)]) = (wds N fs).set t ((wds N fs).getD s [] ++ [rdOf m]) := by rw [wds_snoc, ht]
set_option maxRecDepth 100000 in
set_option maxHeartbeats 6400000 in
theorem refAccess {w : World} {v : Value} {n : Int} {ss : List (List (List Int))} (hA : AdvV w v n ss) (hW : SmA n ss) :
    Calls Tryz.prog 67 #[v] w fun e w' => ∃ u, e = .returned u ∧ OwX 45 1 EWdN w' w.heap.size u ss.length (wds ss.length (ordI ss).2) ∧ Below w.heap.size w w' := by
  have h0 := hW.pos
  have hl := hW.2.2.1
  have hO := hW.cls
  have hR := (ordI_eq hO).1
  have hFs : FsOK ss ([0], []) := ⟨rfl, by simp, fun x hx => by rw [List.mem_singleton.1 hx]; exact h0, by simp, fun x hx => by
    rw [List.mem_singleton.1 hx]
    show afterI ss ((List.replicate ss.length []).getD 0 []) 0 = _
    rw [List.getD_eq_getElem?_getD, List.getElem?_replicate, if_pos h0]; rfl, by simp⟩
  have hA' := hA
  obtain ⟨sv, rfl, hK⟩ := hA'
  obtain ⟨sa, sc, sb, so, rfl, hsa, hsc, _⟩ := hK
  obtain rfl := hsa h0
  obtain ⟨W1, hW1⟩ : ∃ W1, W1 = w.alloc (.cells #[.int .i64 n, .slice (some ⟨sb, so, none⟩) ss.length sc] 24) := ⟨_, rfl⟩
  obtain ⟨hb1, p0, p1, _⟩ := boxAdv hW1
  have hsc := Lib.hid (fun W (hb : Below W1.heap.size W1 W) j (hj : j < ss.length) => let ⟨u, h1, h2⟩ := hsc j hj; (⟨u, cell_kept hb1 h1, cell_kept (bt hb1 hb hb1.size) h1, h2.keep (bt hb1 hb hb1.size)⟩ : ∃ u, W1.cell? ⟨sb, so + j, none⟩ = some u ∧ W.cell? ⟨sb, so + j, none⟩ = some u ∧ KS 8 W u (ss.getD j [])))
  obtain ⟨R, hRe⟩ : ∃ R, ordI ss = R := ⟨_, rfl⟩
  rw [hRe] at hR ⊢
  have hlead := Lib.hid hW.lead
  have hasc := Lib.hid hW.asc
  obtain ⟨N, hN⟩ : ∃ N, ss.length = N := ⟨_, rfl⟩
  obtain ⟨F, hF⟩ : ∃ F, ss.length + 1 = F := ⟨_, rfl⟩
  rw [hF] at hR
  have hR0 := Lib.hid hR
  have hFs0 := Lib.hid hFs
  rw [hN] at hsc h0 hl p1 hW1 ⊢
  have hs1 : W1.heap.size = w.heap.size + 1 := by rw [hW1]; simp
  have hgB : W1.heap.size ≤ w.heap.size + 1 := by omega
  have hmx : Tryz.prog.follows .mixedOrders = true := by kernel_rfl
  replace hs1 := Lib.hid hs1
  replace hN := Lib.hid hN
  replace hRe := Lib.hid hRe
  replace hF := Lib.hid hF
  clear hA hO hW hR hFs
  go_enter Tryz.func67, Tryz.ntmps67
  go_wp2_with (at_make; rw [← hW1]; refine wpMake elemRsO (by decide) rfl _ _ rfl N rfl rfl (by omega) (Nat.le_refl W1.heap.size) ?_; intro W2 ho hgr hb2; replace hW1 := Lib.hid hW1)
  have hrow0 := owMadeW ho
  obtain ⟨W3, hW3⟩ : ∃ W3, W3 = W2.alloc (.cells #[.int .i64 0] 3) := ⟨_, rfl⟩
  rw [← hW3]
  have hb3 : Below W2.heap.size W2 W3 := by rw [hW3]; exact (Below.refl _ _).alloc (Nat.le_refl _) _
  have hi3 : W3.heap[W2.heap.size]? = some (.cells #[.int .i64 0] 3) := by rw [hW3]; exact heap_alloc_new _ _
  have hoi0 : OI W3 W1.heap.size (.slice (some ⟨W2.heap.size, 0, none⟩) 1 1) ([0] : List Nat).length (natI [0]) := oiBox hi3 hb2.size
  have hrow1 := OwX.keep (EWdN.stab (by decide)) hrow0 hb3
  have hbx0 := bt hb2 hb3 hb2.size
  have hrow2 : OwX 45 1 EWdN W3 W1.heap.size (.slice (some ⟨W1.heap.size, 0, none⟩) N N) N (wds N ([] : List (Nat × List Int))) := hrow1
  replace hW3 := Lib.hid hW3
  clear ho hi3 hrow0 hrow1 hb3 hgr
  go_loopg [4, 5] F (fun f mv iv wr => ∃ (i : Nat) (met : List Nat) (fs : List (Nat × List Int)), iv = .int .i64 i ∧ i ≤ met.length ∧ OI wr W1.heap.size mv met.length (natI met) ∧ OwX 45 1 EWdN wr W1.heap.size (.slice (some ⟨W1.heap.size, 0, none⟩) N N) N (wds N fs) ∧
    Below W1.heap.size W1 wr ∧ Hid (FsOK ss (met, fs)) ∧ Hid (srch id ss f i (met, fs) = some R))
  case atStart => exact ⟨0, [0], [], rfl, by omega, hoi0, hrow2, hbx0, hFs0, hR0⟩
  case round =>
    clear hoi0 hrow2 hbx0 hFs0 hR0
    obtain ⟨i, met, fs, rfl, hi, hoi, hrow, hbr, hFs, hr⟩ := hrel
    obtain ⟨ma, mc, hmv⟩ := hoi.shape
    subst hmv
    have hnd := hFs.out.2.1
    have hmb := hFs.out.2.2.1
    have hml : met.length ≤ N := by have := nodup_lt_le hnd hmb; rw [hN.out] at this; exact this
    by_cases hlt : i < met.length
    · obtain ⟨f, rfl⟩ : ∃ f, gk = f + 1 := by
        cases gk with
        | zero => exact absurd hr (by intro h; simp [Hid, srch] at h)
        | succ f => exact ⟨f, rfl⟩
      have hii : (i : Int) < (met.length : Int) := by omega
      obtain ⟨gm, cm, hme, _⟩ : ∃ g cap, Value.slice ma met.length mc = .slice (some ⟨g, 0, none⟩) met.length cap ∧ W1.heap.size ≤ g := by
        rcases hoi.2 with ⟨_, h'⟩ | ⟨g, cap, cur, h1, hb, _⟩
        · omega
        · exact ⟨g, cap, h1, hb⟩
      obtain ⟨rfl, rfl⟩ : ma = some ⟨gm, 0, none⟩ ∧ mc = cm := by injection hme with h1 h2 h3; exact ⟨h1, h3⟩
      obtain ⟨q, hq⟩ : ∃ q, met.getD i 0 = q := ⟨_, rfl⟩
      have hcm := hoi.cell hlt
      rw [natI_getD, hq] at hcm
      have hqN : q < N := by rw [← hN.out, ← hq, getD_eq hlt]; exact hmb _ (List.getElem_mem hlt)
      have hqi : (q : Int) < (N : Int) := by omega
      have hqm : q ∈ met := by rw [← hq, getD_eq hlt]; exact List.getElem_mem hlt
      obtain ⟨u, d1, e1, k1⟩ := hsc.out W1 (Below.refl _ _) q hqN
      replace e1 := cell_kept hbr e1
      obtain ⟨ms, hms⟩ : ∃ ms, ss.getD q [] = ms := ⟨_, rfl⟩
      rw [hms] at k1
      obtain ⟨ua, uc, ub, uo, hus, hua, hmc, _⟩ := k1
      subst hus
      have hr2 := hr.out
      rw [srch, if_pos hlt] at hr2
      simp only at hr2
      rw [hq, hms] at hr2
      obtain ⟨E, hE⟩ : ∃ E, exts id q ms (met, fs) = E := ⟨_, rfl⟩
      rw [hE] at hr2
      have hE0 : Hid (exts id q (ms.drop 0) (met, fs) = E) := hE
      have q1 := cell_kept hbr p1
      have hf := Lib.hid (fun wq (hC : Below wr.heap.size wr wq) => And.intro (cell_kept hC q1) (And.intro (cell_kept hC hcm) (cell_kept hC e1)))
      have hmd : Hid (∀ m ∈ ms, m.length = 8 ∧ 0 ≤ m.getD 7 0 ∧ m.getD 7 0 < (N : Int)) := fun m hm => by
        have hmem : ms ∈ ss := by rw [← hms, getD_eq (by rw [hN.out]; exact hqN)]; exact List.getElem_mem _
        obtain ⟨j, hj, e⟩ := List.getElem_of_mem hm
        have h8 := (hmc j hj).1
        rw [getD_eq hj, e] at h8
        have := hlead.out _ hmem m hm
        rw [hN.out] at this
        exact ⟨h8, this⟩
      have hmcw := Lib.hid (fun W (hW : Below W1.heap.size W1 W) j (hj : j < ms.length) => And.intro (hmc j hj).1 ((hmc j hj).2.keep hW))
      have hm9 : ms.length ≤ 2199023255552 := by assumption
      replace hr2 := Lib.hid hr2
      replace hE := Lib.hid hE
      replace hms := Lib.hid hms
      have hqh := Lib.hid hq
      obtain ⟨wo, hwo⟩ : ∃ wo, wo = wr := ⟨_, rfl⟩
      subst hwo
      clear hr hme hmc d1 hnd hmb hq
      go_wp2_with fail
      refine wp_region_bw hmx (by kernel_rfl) ?_
      repeat (refine WQ.step (fun K hK => ?_)
              go_simp
              first
                | (refine hK _ ?_; clear hK K)
                | (apply Exists.intro
                   refine ⟨fun wq hC => ?_, hK _ ?_⟩
                   · (first | with_reducible rfl | (obtain ⟨f0, f1, f2⟩ := hf.out wq hC; go_simp; first | done | with_reducible rfl | with_reducible exact ⟨rfl, rfl⟩))
                   clear hK K))
      refine WQ.nil ?_
      intro w4 hb4
      have hoi4 := hoi.keep hb4
      have hrow4 := OwX.keep (EWdN.stab (by decide)) hrow hb4
      have hbr4 := bt hbr hb4 hbr.size
      have hqm4 : Hid (i < met.length ∧ met.getD i 0 = q) := ⟨hlt, hqh.out⟩
      clear hoi hrow hcm e1 q1 hf
      go_wp2_with fail
      go_loopw [4, 7] (fun mv jv wr => ∃ (j : Nat) (met' : List Nat) (fs' : List (Nat × List Int)), jv = .int .i64 j ∧ j ≤ ms.length ∧ OI wr W1.heap.size mv met'.length (natI met') ∧ OwX 45 1 EWdN wr W1.heap.size (.slice (some ⟨W1.heap.size, 0, none⟩) N N) N (wds N fs') ∧
        Below W1.heap.size W1 wr ∧ Hid (FsOK ss (met', fs')) ∧ Hid (exts id q (ms.drop j) (met', fs') = E) ∧ Hid (i < met'.length ∧ met'.getD i 0 = q)) (fun _ jv _ => ms.length - (intOf jv).toNat)
      case atStart => exact ⟨0, met, fs, rfl, by omega, hoi4, hrow4, hbr4, hFs, hE0, hqm4⟩
      case round =>
        clear hoi4 hrow4 hbr4 hFs hE0 hqm4 hbr hb4 hml hqm
        obtain ⟨j, met', fs', rfl, hj, hoi, hrow, hbr, hFs, hx, hqm⟩ := hrel
        obtain ⟨ma, mc, hmv⟩ := hoi.shape
        subst hmv
        have hnd := hFs.out.2.1
        have hmb := hFs.out.2.2.1
        have hml : met'.length ≤ N := by have := nodup_lt_le hnd hmb; rw [hN.out] at this; exact this
        have hbw : Below w.heap.size w wr := bt hb1 hbr hb1.size
        by_cases hltj : j < ms.length
        · have hji : (j : Int) < (ms.length : Int) := by omega
          obtain ⟨m, hm⟩ : ∃ m, ms.getD j [] = m := ⟨_, rfl⟩
          have hmem : m ∈ ms := by rw [← hm, getD_eq hltj]; exact List.getElem_mem hltj
          obtain ⟨hm8, hm0, hm1⟩ := hmd.out m hmem
          have hmk := (hmcw.out wr hbr j hltj).2
          rw [hm] at hmk
          obtain ⟨y0, y1, y2, y3, y4, y5, y6, y7, rfl⟩ := eight hm8
          obtain ⟨c0, c1, c2, c3, c4, c5, c6, c7⟩ := hmk.all8
          obtain rfl := hua (by omega)
          have hg7 : ([y0, y1, y2, y3, y4, y5, y6, y7] : List Int).getD 7 0 = y7 := rfl
          rw [hg7] at hm0 hm1
          obtain ⟨t, rfl⟩ : ∃ t : Nat, y7 = (t : Int) := ⟨y7.toNat, by omega⟩
          have hmt : mvTo [y0, y1, y2, y3, y4, y5, y6, (t : Int)] = t := by unfold mvTo; rw [hg7, Int.toNat_natCast]
          have hrd : rdOf [y0, y1, y2, y3, y4, y5, y6, (t : Int)] = [y0, y1, y2, y3, y4, y5, y6] := rfl
          have htN : t < N := by omega
          have hti : (t : Int) < (N : Int) := by omega
          have hx2 := hx.out
          rw [drop_cons hltj ([] : List Int), hm] at hx2
          have hm9' := Lib.hid hm
          have hmt' := Lib.hid hmt
          have HFd := Lib.hid (findCall (hoi.ints (by omega)) t)
          by_cases hin : t ∈ met'
          · rw [exts_in (by rw [List.map_id, hmt]; exact hin)] at hx2
            rw [findI_in hin] at HFd
            obtain ⟨z, hz⟩ : ∃ z, ixOf met' t = z := ⟨_, rfl⟩
            rw [hz] at HFd
            have hz0 : ¬ ((z : Int) < 0) := by omega
            replace hx2 := Lib.hid hx2
            replace hz := Lib.hid hz
            clear hx hm hm8 hmk c0 c1 c2 c3 c4 c5 c6 hmt hrd hg7 hin hnd hmb
            go_wp2_with fail
            refine HFd.out.mono ?_
            rintro e w' ⟨rfl, hw'⟩
            replace hw' := hw'.symm
            subst hw'
            go_wp2_with fail
            go_roundw
            case rel => exact ⟨j + 1, met', fs', by go_num, hltj, hoi, hrow, hbr, hFs, hx2, hqm⟩
            case measure => simp [intOf]; omega
          · rw [exts_out (by rw [List.map_id, hmt]; exact hin), hmt] at hx2
            rw [findI_out hin] at HFd
            have hin' := Lib.hid hin
            replace hx2 := Lib.hid hx2
            have hFs2 : Hid (FsOK ss (met' ++ [t], fs' ++ [(q, [y0, y1, y2, y3, y4, y5, y6, (t : Int)])])) := by
              have h1 := hFs.out.step hlead.out hasc.out (s := q) (m := [y0, y1, y2, y3, y4, y5, y6, (t : Int)]) (by rw [← hqm.out.2, getD_eq hqm.out.1]; exact List.getElem_mem _) (by rw [hms.out]; exact hmem) (by rw [hmt]; exact hin)
              rw [hmt] at h1; exact h1
            have hqm2 : Hid (i < (met' ++ [t]).length ∧ (met' ++ [t]).getD i 0 = q) := ⟨by rw [List.length_append]; have := hqm.out.1; omega, by rw [getD_app_l hqm.out.1]; exact hqm.out.2⟩
            have hnat := Lib.hid (show natI met' ++ [(t : Int)] = natI (met' ++ [t]) by rw [natI_app]; rfl)
            have hoi1 := hoi
            have hBw := hbr.size
            have hml9 : met'.length ≤ 1000000000000 := by omega
            clear hx hm hm8 hmk hmt hg7 hin hnd hmb
            go_wp2_with fail
            refine HFd.out.mono ?_
            rintro e w' ⟨rfl, hw'⟩
            replace hw' := hw'.symm
            subst hw'
            go_wp2_with (at_builtin; refine wpAppI (B := W1.heap.size) rfl _ _ rfl rfl hoi1 rfl hml9 hBw ?_)
            intro mv2 w2 hoi2 hgr2 hbl2
            rw [hnat.out] at hoi2
            have hoi2' : OI w2 W1.heap.size mv2 (met' ++ [t]).length (natI (met' ++ [t])) := by rw [List.length_append]; exact hoi2
            have hX2 : KeepX 3 wr w2 := KeepX.own hoi1 hgr2
            have hrow2 := OwX.other (E' := 3) (EWdN.stab (by decide)) hrow (by decide) hX2
            have hbr2 : Below W1.heap.size W1 w2 := hbr.trans hbl2
            obtain ⟨m2a, m2c, hmv2⟩ := hoi2'.shape
            subst hmv2
            obtain ⟨g2, c2', hme2, _⟩ : ∃ g cap, Value.slice m2a (met' ++ [t]).length m2c = .slice (some ⟨g, 0, none⟩) (met' ++ [t]).length cap ∧ W1.heap.size ≤ g := by
              rcases hoi2'.2 with ⟨_, h'⟩ | ⟨g, cap, cur, h1, hb, _⟩
              · rw [List.length_append] at h'; simp at h'
              · exact ⟨g, cap, h1, hb⟩
            obtain ⟨rfl, rfl⟩ : m2a = some ⟨g2, 0, none⟩ ∧ m2c = c2' := by injection hme2 with h1 h2 h3; exact ⟨h1, h3⟩
            obtain ⟨M2, hM2⟩ : ∃ M2, (met' ++ [t]).length = M2 := ⟨_, rfl⟩
            have hiM : i < M2 := by rw [← hM2]; exact hqm2.out.1
            have hiMi : (i : Int) < (M2 : Int) := by omega
            have cm := hoi2'.cell (j := i) hqm2.out.1
            rw [natI_getD, hqm2.out.2] at cm
            have hmk2 := (hmcw.out w2 hbr2 j hltj).2
            rw [hm9'.out] at hmk2
            obtain ⟨e0, e1, e2, e3, e4, e5, e6, e7⟩ := hmk2.all8
            have hqN' : q < (wds N fs').length := by rw [wds_len]; exact hqN
            obtain ⟨cs, _, ⟨uq, hcs, huq, hun⟩, hcq⟩ := hrow2.cells (j := q) (x := (wds N fs').getD q []) (by rw [getD_eq hqN']; exact List.getElem?_eq_some_iff.2 ⟨hqN', rfl⟩)
            subst hcs
            have cq := hcq 0 uq rfl
            rw [Nat.mul_one, Nat.add_zero] at cq
            obtain ⟨uqa, uqc, huqs⟩ := huq.shape
            have hwl := wds_le N fs' q
            have hfl : fs'.length ≤ 90 := by
              have h0 : met' = 0 :: fs'.map (fun f => mvTo f.2) := hFs.out.1
              have h1 := congrArg List.length h0
              rw [List.length_cons, List.length_map] at h1
              omega
            have hW2 := Lib.hid (withCall (w := w2.drew) ((OwX.keep (EI.stab _) huq (Below.refl _ _).drew).ks (by omega)) hun (by omega) y0 y1 y2 y3 y4 y5 y6)
            obtain ⟨wq, hwq⟩ : ∃ wq, (wds N fs').getD q [] = wq := ⟨_, rfl⟩
            rw [hwq] at hW2 huqs
            have hset := Lib.hid (wds_app (N := N) (fs := fs') (s := q) (m := [y0, y1, y2, y3, y4, y5, y6, (t : Int)]) (t := t) hmt'.out)
            subst huqs
            rw [hM2]
            have hqN2 : (q : Int) < (N : Int) := hqi
            have hub : ub ≠ W1.heap.size := by
              have h1 := ((hmcw.out W1 (Below.refl _ _) j hltj).2)
              rw [hm9'.out] at h1
              have h2 : ub < W1.heap.size := World.block_lt_of_cell? W1 _ h1.all8.1
              omega
            have hg2n : g2 ≠ W1.heap.size := by
              obtain ⟨vs, h1, _⟩ := hrow2
              exact own_ne hoi2' h1 (by decide)
            have hqt : q ≠ t := by
              intro e
              have h1 := hqm.out.2
              rw [getD_eq hqm.out.1] at h1
              exact hin'.out (e ▸ h1 ▸ List.getElem_mem _)
            have hgW : W1.heap.size ≤ W1.heap.size := Nat.le_refl _
            clear hoi hrow hoi1 hgr2 hbl2 hX2 c0 c1 c2 c3 c4 c5 c6 c7 hcq huq hun hoi2 hme2
            go_wp2_with fail
            go_region_held3 (fun w' => w'.cell? ⟨ub, uo + j * 8, none⟩ = some (.int .i64 y0) ∧ w'.cell? ⟨ub, uo + j * 8 + 1, none⟩ = some (.int .i64 y1) ∧ w'.cell? ⟨ub, uo + j * 8 + 2, none⟩ = some (.int .i64 y2) ∧ w'.cell? ⟨ub, uo + j * 8 + 3, none⟩ = some (.int .i64 y3) ∧ w'.cell? ⟨ub, uo + j * 8 + 4, none⟩ = some (.int .i64 y4) ∧ w'.cell? ⟨ub, uo + j * 8 + 5, none⟩ = some (.int .i64 y5) ∧ w'.cell? ⟨ub, uo + j * 8 + 6, none⟩ = some (.int .i64 y6) ∧ w'.cell? ⟨ub, uo + j * 8 + 7, none⟩ = some (.int .i64 (t : Int)) ∧ w'.cell? ⟨g2, i, none⟩ = some (.int .i64 (q : Int)) ∧ w'.cell? ⟨W1.heap.size, q, none⟩ = some (.slice uqa wq.length uqc))
              (first
                | go_keep
                | (exact ⟨setC_other (cell_kept hb6 e0) hub, setC_other (cell_kept hb6 e1) hub, setC_other (cell_kept hb6 e2) hub, setC_other (cell_kept hb6 e3) hub, setC_other (cell_kept hb6 e4) hub, setC_other (cell_kept hb6 e5) hub, setC_other (cell_kept hb6 e6) hub, setC_other (cell_kept hb6 e7) hub, setC_other (cell_kept hb6 cm) hg2n, hrow6.setC hqt (cell_kept hb6 cq)⟩)
                | (exact ⟨cell_kept hb6 e0, cell_kept hb6 e1, cell_kept hb6 e2, cell_kept hb6 e3, cell_kept hb6 e4, cell_kept hb6 e5, cell_kept hb6 e6, cell_kept hb6 e7, cell_kept hb6 cm, cell_kept hb6 cq⟩))
              (first
                | (go_at_call 99; (with_reducible refine hW2.out.mono ?_); rintro e w6 ⟨u6, rfl, ho6, hb6'⟩; obtain ⟨a6, c6', rfl⟩ := ho6.shape; have hb6 : Below w2.heap.size w2 w6 := below_of_drew hb6'; have hrow6 := OwX.keep (EWdN.stab (by decide)) hrow2 hb6; have hfr6 := OwX.frozen hrow6 t; obtain ⟨v6, ht6⟩ := htcell hrow6 htN))
            obtain ⟨r1, r2⟩ := OwX.store1 (EWdN.stab (by decide)) hrow6 htN (u := .slice a6 (wq.length + 1) c6') rfl (x := wq ++ [[y0, y1, y2, y3, y4, y5, y6]]) ⟨_, rfl, by rw [List.length_append]; exact ho6.base (Nat.zero_le _), fun h => by simp at h⟩
            have hoi6 := hoi2'.keep hb6
            have hX6 : KeepX 45 w6 (w6.setCell ⟨W1.heap.size, t, none⟩ (.slice a6 (wq.length + 1) c6')) := KeepX.grown r2 (by obtain ⟨vs, h1, _⟩ := hrow6; exact ownsRow_ty h1)
            have hoi7 := OI.other hoi6 (by decide) hX6
            have hbr7 : Below W1.heap.size W1 (w6.setCell ⟨W1.heap.size, t, none⟩ (.slice a6 (wq.length + 1) c6')) := Below.setCell (p := ⟨W1.heap.size, t, none⟩) (hbr2.trans (hb6.mono hbr2.size)) (Nat.le_refl _) _
            have hrow7 : OwX 45 1 EWdN (w6.setCell ⟨W1.heap.size, t, none⟩ (.slice a6 (wq.length + 1) c6')) W1.heap.size (.slice (some ⟨W1.heap.size, 0, none⟩) N N) N (wds N (fs' ++ [(q, [y0, y1, y2, y3, y4, y5, y6, (t : Int)])])) := by
              rw [hset.out, hwq]; exact r1
            rw [hM2] at hoi7
            have hoi8 : OI (w6.setCell ⟨W1.heap.size, t, none⟩ (.slice a6 (wq.length + 1) c6')) W1.heap.size (.slice (some ⟨g2, 0, none⟩) M2 m2c) (met' ++ [t]).length (natI (met' ++ [t])) := by rw [hM2]; exact hoi7
            clear hrow6 hrow2 r1 r2 hX6 hoi6 hoi2' ho6 hoi7
            go_wp2_with fail
            go_roundw
            case rel => exact ⟨j + 1, met' ++ [t], fs' ++ [(q, [y0, y1, y2, y3, y4, y5, y6, (t : Int)])], by go_num, hltj, hoi8, hrow7, hbr7, hFs2, hx2, hqm2⟩
            case measure => simp [intOf]; omega
        · obtain rfl : j = ms.length := by omega
          have hx2 := hx.out
          rw [List.drop_eq_nil_of_le (Nat.le_refl _), exts] at hx2
          have hr3 : Hid (srch id ss f (i + 1) (met', fs') = some R) := by show _ = _; rw [hx2]; exact hr2.out
          have hi1 : i + 1 ≤ met'.length := hqm.out.1
          clear hx hx2
          go_wp2_with fail
          go_roundg f
          case measure => omega
          case rel => exact ⟨i + 1, met', fs', by go_num, hi1, hoi, hrow, hbr, hFs, hr3⟩
    · have hRe2 : some (met, fs) = some R := by
        have h1 := hr.out
        cases gk with
        | zero => simp [srch] at h1
        | succ f => rw [srch, if_neg hlt] at h1; exact h1
      injection hRe2 with hRe2
      subst hRe2
      have hbw := bt hb1 hbr hb1.size
      have hge : ¬ ((i : Int) < (met.length : Int)) := by omega
      have hfin := Lib.hid (hrow.base (B' := w.heap.size) hb1.size)
      clear hr hFs hrow hoi
      go_wp2_with fail
      go_ret
      exact ⟨_, rfl, hfin.out, hbw⟩
end Go.Proofs.YtfihpofdoffclaaGreatDoor

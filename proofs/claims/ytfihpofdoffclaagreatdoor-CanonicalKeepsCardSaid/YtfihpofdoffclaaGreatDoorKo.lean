/- Texts of this claim, put together: P1 E5 E7 E8. -/
import Derived.Test.YtfihpofdoffclaaGreatDoorKm
import Derived.Test.YtfihpofdoffclaaGreatDoorKk
import Derived.Test.YtfihpofdoffclaaGreatDoorKn
import Derived.Test.YtfihpofdoffclaaGreatDoorKl

/- What is known of an adversary without an error; the search ends: plain lists. -/
namespace Go.Proofs.YtfihpofdoffclaaGreatDoor
open Go.RowKit

theorem hErr_zero {n p x : Int} (h : hErr n p x = 0) : 0 ≤ x ∧ x ≤ 31 := by
  have hf := (fullI_le n).2
  unfold hErr at h
  by_cases h1 : n ≤ p
  · rw [if_pos h1] at h
    by_cases h2 : x = 0
    · omega
    · rw [if_neg h2] at h; cases h
  · rw [if_neg h1] at h
    by_cases h2 : x < 0 ∨ fullI n < x
    · rw [if_pos h2] at h; cases h
    · omega
theorem hGo_zero {n : Int} : ∀ {hs : List Int} {i : Int}, hGo n i hs = 0 → ∀ x ∈ hs, 0 ≤ x ∧ x ≤ 31
  | [], _, _, x, hx => by cases hx
  | y :: r, i, h, x, hx => by
    unfold hGo at h
    by_cases he : hErr n i y = 0
    · rw [if_neg (fun k => k he)] at h
      rcases List.mem_cons.1 hx with rfl | hx
      · exact hErr_zero he
      · exact hGo_zero h x hx
    · rw [if_pos he] at h; exact absurd h he
theorem chkGr_zero {n : Int} {hs : List Int} (h : chkGr n hs = 0) : (1 ≤ n ∧ n ≤ 5) ∧ ∀ x ∈ hs, 0 ≤ x ∧ x ≤ 31 := by
  unfold chkGr at h
  by_cases hn : n < 1 ∨ 5 < n
  · rw [if_pos hn] at h; cases h
  · rw [if_neg hn] at h
    exact ⟨by omega, hGo_zero h⟩
theorem wfR_of {r : List Int} (hl : r.length = 7) (h : chkRd r = 0) : WfR r := by
  obtain ⟨n, h0, h1, h2, h3, h4, f, rfl⟩ := seven hl
  have hg : chkGr n [h0, h1, h2, h3, h4] = 0 := by
    by_cases hc : chkGr n [h0, h1, h2, h3, h4] = 0
    · exact hc
    · rw [chkRd_1 hc] at h; exact h
  obtain ⟨hn, hh⟩ := chkGr_zero hg
  obtain ⟨_, hf0, hf1⟩ := chkSet_zero (chkRd_zero h)
  have h32 := twoI_le (n := n)
  refine ⟨rfl, fun x hx => ?_⟩
  simp only [List.mem_cons, List.not_mem_nil, or_false] at hx
  have hf0 : 0 ≤ f := hf0
  have hf1 : f < twoI n := hf1
  rcases hx with rfl | hx
  · omega
  rcases hx with rfl | rfl | rfl | rfl | rfl | rfl
  · have := hh x (by simp); omega
  · have := hh x (by simp); omega
  · have := hh x (by simp); omega
  · have := hh x (by simp); omega
  · have := hh x (by simp); omega
  · omega
/-- No error: what follows. -/
theorem chkA_facts {n : Int} {ss : List (List (List Int))} (h : chkA n ss = 0) : (1 ≤ n ∧ n ≤ 5) ∧ (1 ≤ ss.length ∧ ss.length ≤ 256 ∧ movesN ss ≤ 4096) ∧ ssGo n ss.length ss = 0 ∧ growsB ss = true := by
  unfold chkA at h
  by_cases h1 : n < 1 ∨ 5 < n
  · rw [if_pos h1] at h; cases h
  rw [if_neg h1] at h
  by_cases h2 : ss.length < 1 ∨ 256 < ss.length ∨ 4096 < movesN ss
  · rw [if_pos h2] at h; cases h
  rw [if_neg h2] at h
  by_cases h3 : ssGo n ss.length ss ≠ 0
  · rw [if_pos h3] at h; exact absurd h h3
  rw [if_neg h3] at h
  by_cases h4 : growsB ss = true
  · exact ⟨by omega, by omega, Decidable.not_not.1 h3, h4⟩
  · rw [if_neg h4] at h; cases h
theorem clsOK_of {n : Int} {ss : List (List (List Int))} (h8 : ∀ s ∈ ss, ∀ m ∈ s, m.length = 8) (h : chkA n ss = 0) (hl : ss.length ≤ 90) (hm : movesN ss ≤ 90) : ClsOK ss := by
  obtain ⟨_, ⟨h1, _, _⟩, h3, _⟩ := chkA_facts h
  refine ⟨hl, hm, h1, fun s hs => ?_⟩
  have h4 := ssGo_zero h3 s hs
  unfold stErr at h4
  by_cases he : s.length = 0
  · rw [if_pos he] at h4; cases h4
  rw [if_neg he] at h4
  refine ⟨by omega, fun m hmm => ?_⟩
  obtain ⟨j, hj, rfl⟩ := List.mem_iff_getElem.1 hmm
  obtain ⟨c1, _, _, c4, c5⟩ := mvErr_zero (mvGo_zero h4 j (by omega) (by omega))
  rw [getD_eq hj] at c1 c4 c5
  have hl8 := h8 s hs _ hmm
  exact ⟨wfR_of (by rw [rdOf, List.length_take, hl8]; rfl) c1, hl8, c4, c5⟩
theorem ClsOK.toOK {ss : List (List (List Int))} (h : ClsOK ss) : ToOK ss := fun s hs m hm => by
  obtain ⟨_, _, _, h4⟩ := h
  obtain ⟨_, _, h5, h6⟩ := (h4 s hs).2 m hm
  unfold mvTo; omega
theorem allRd_len (ss : List (List (List Int))) : (allRd ss).length = movesN ss := by
  have h : (List.length ∘ List.map rdOf : List (List Int) → Nat) = List.length := by funext x; simp
  simp [allRd, movesN, List.length_flatten, List.sum, h]
/-- The program's classes. -/
theorem clsGo_part {ss : List (List (List Int))} (h : ClsOK ss) : clsGo ss (dd [] (allRd ss)) (ss.length + 2) (List.replicate ss.length 0) 0 = some (part ss) := by
  have hT := h.toOK
  obtain ⟨h1, h2, h3, _⟩ := h
  have hR := dd_le (allRd ss) []
  rw [allRd_len, List.length_nil] at hR
  have hR2 : (dd [] (allRd ss)).length ≤ 100 := by omega
  exact clsGo_stL (by omega) h3 hT hR2 (fun s hs m hm => dd_mem (List.mem_map_of_mem (List.mem_flatten.2 ⟨s, hs, hm⟩))) (ss.length + 2) 0 (by omega) (fun j hj => by omega) (by omega)
theorem part_small {ss : List (List (List Int))} (h : ss.length ≤ 100) (j : Nat) : (part ss).getD j 0 < 100 := stL_small h _ j
theorem part_mem {ss : List (List (List Int))} (h : ss.length ≤ 100) {x : Nat} (hx : x ∈ part ss) : x ≤ 1000000 := by
  obtain ⟨i, hi, rfl⟩ := List.getElem_of_mem hx
  have := part_small h i
  rw [getD_eq hi] at this; omega
theorem lbl_idem {κ : Type} [DecidableEq κ] (ks : List κ) : lbl (lbl ks) = lbl ks := by
  refine lbl_congr (by rw [lbl_length]) fun i j hi hj => ?_
  have h1 := lbl_iff (ks := ks) (i := i) (j := j) (by rw [lbl_length] at hi; exact hi) (by rw [lbl_length] at hj; exact hj)
  rw [getD_eq hi, getD_eq hj] at h1
  exact h1
theorem part_lbl {ss : List (List (List Int))} (h : 0 < ss.length) : lbl (part ss) = part ss := by
  unfold part
  obtain ⟨k, hk⟩ : ∃ k, ss.length = k + 1 := ⟨ss.length - 1, by omega⟩
  rw [hk]
  exact lbl_idem _

theorem nodup_lt_le {n : Nat} {l : List Nat} (hn : l.Nodup) (h : ∀ x ∈ l, x < n) : l.length ≤ n := by
  have := nodup_sub_le (b := List.range n) hn (fun x hx => List.mem_range.2 (h x hx))
  rwa [List.length_range] at this
theorem nodup_of_map {κ κ' : Type} {g : κ → κ'} : ∀ {l : List κ}, (l.map g).Nodup → l.Nodup
  | [], _ => List.nodup_nil
  | a :: r, h => by
    rw [List.map_cons, List.nodup_cons] at h
    rw [List.nodup_cons]
    exact ⟨fun hm => h.1 (List.mem_map_of_mem hm), nodup_of_map h.2⟩
theorem exts_lt {kf : Nat → Nat} {n s : Nat} : ∀ {ms : List (List Int)} {st : List Nat × List (Nat × List Int)}, (∀ m ∈ ms, mvTo m < n) → (∀ x ∈ st.1, x < n) → ∀ x ∈ (exts kf s ms st).1, x < n
  | [], _, _, h => h
  | m :: r, st, hm, h => by
    rw [exts]
    refine exts_lt (fun x hx => hm x (by simp [hx])) ?_
    split
    · exact h
    · intro x hx
      rcases List.mem_append.1 hx with hx | hx
      · exact h x hx
      · rw [List.mem_singleton] at hx; rw [hx]; exact hm m (by simp)
theorem exts_pre {kf : Nat → Nat} {s : Nat} : ∀ (ms : List (List Int)) (st : List Nat × List (Nat × List Int)), ∃ t, (exts kf s ms st).1 = st.1 ++ t
  | [], st => ⟨[], by simp [exts]⟩
  | m :: r, st => by
    rw [exts]
    obtain ⟨t, ht⟩ := exts_pre (kf := kf) (s := s) r (if kf (mvTo m) ∈ st.1.map kf then st else (st.1 ++ [mvTo m], st.2 ++ [(s, m)]))
    rw [ht]
    split
    · exact ⟨t, rfl⟩
    · exact ⟨mvTo m :: t, by simp⟩
theorem exts_has {kf : Nat → Nat} {s : Nat} : ∀ {ms : List (List Int)} {st : List Nat × List (Nat × List Int)} {m : List Int}, m ∈ ms → kf (mvTo m) ∈ (exts kf s ms st).1.map kf
  | [], _, _, h => by cases h
  | a :: r, st, m, h => by
    rw [exts]
    rcases List.mem_cons.1 h with rfl | h
    · obtain ⟨t, ht⟩ := exts_pre (kf := kf) (s := s) r (if kf (mvTo m) ∈ st.1.map kf then st else (st.1 ++ [mvTo m], st.2 ++ [(s, m)]))
      rw [ht, List.map_append, List.mem_append]
      left
      split
      · assumption
      · simp
    · exact exts_has h
theorem srch_pre {kf : Nat → Nat} {ss : List (List (List Int))} : ∀ {f i : Nat} {st R : List Nat × List (Nat × List Int)}, srch kf ss f i st = some R → ∃ t, R.1 = st.1 ++ t
  | 0, _, _, _, h => by cases h
  | f + 1, i, st, R, h => by
    rw [srch] at h
    split at h
    · obtain ⟨t, ht⟩ := srch_pre h
      obtain ⟨t2, ht2⟩ := exts_pre (kf := kf) (s := st.1.getD i 0) (ss.getD (st.1.getD i 0) []) st
      exact ⟨t2 ++ t, by rw [ht, ht2, List.append_assoc]⟩
    · injection h with h; subst h; exact ⟨[], by simp⟩
theorem srch_some {kf : Nat → Nat} {ss : List (List (List Int))} (hT : ToOK ss) : ∀ (f i : Nat) (st : List Nat × List (Nat × List Int)), (st.1.map kf).Nodup → (∀ x ∈ st.1, x < ss.length) → ss.length + 1 ≤ i + f → i ≤ st.1.length →
    ∃ R, srch kf ss f i st = some R ∧ R.1.length ≤ ss.length ∧ ∀ x ∈ R.1, x < ss.length
  | 0, i, st, h1, h2, h3, h4 => by
    have := nodup_lt_le (nodup_of_map h1) h2
    omega
  | f + 1, i, st, h1, h2, h3, h4 => by
    rw [srch]
    split
    · rename_i hlt
      refine srch_some hT f (i + 1) _ (exts_nodup h1) (exts_lt (fun m hm => ?_) h2) (by omega) ?_
      · have hx := h2 (st.1.getD i 0) (by rw [getD_eq hlt]; exact List.getElem_mem hlt)
        rw [getD_eq hx] at hm
        exact hT _ (List.getElem_mem _) m hm
      · have := exts_le kf (st.1.getD i 0) (ss.getD (st.1.getD i 0) []) st
        omega
    · exact ⟨st, rfl, nodup_lt_le (nodup_of_map h1) h2, h2⟩
/-- What was met is closed. -/
theorem srch_closed {kf : Nat → Nat} {ss : List (List (List Int))} : ∀ {f i : Nat} {st R : List Nat × List (Nat × List Int)}, srch kf ss f i st = some R → i ≤ st.1.length → (∀ a, a < i → ∀ m ∈ ss.getD (st.1.getD a 0) [], kf (mvTo m) ∈ st.1.map kf) →
    ∀ a, a < R.1.length → ∀ m ∈ ss.getD (R.1.getD a 0) [], kf (mvTo m) ∈ R.1.map kf
  | 0, _, _, _, h, _, _ => by cases h
  | f + 1, i, st, R, h, hi, hc => by
    rw [srch] at h
    split at h
    · rename_i hlt
      obtain ⟨t, ht⟩ := exts_pre (kf := kf) (s := st.1.getD i 0) (ss.getD (st.1.getD i 0) []) st
      refine srch_closed h (by rw [ht, List.length_append]; omega) fun a ha m hm => ?_
      have hg : (exts kf (st.1.getD i 0) (ss.getD (st.1.getD i 0) []) st).1.getD a 0 = st.1.getD a 0 := by
        rw [ht, List.getD_eq_getElem?_getD, List.getElem?_append_left (by omega), List.getD_eq_getElem?_getD]
      rw [hg] at hm
      by_cases hai : a < i
      · rw [ht, List.map_append, List.mem_append]
        exact .inl (hc a hai m hm)
      · obtain rfl : a = i := by omega
        exact exts_has hm
    · rename_i hlt
      injection h with h; subst h
      intro a ha
      exact hc a (by omega)
/-- The order in which classes are met. -/
def ordC (ss : List (List (List Int))) : List Nat × List (Nat × List Int) := (srch (keyL (part ss)) ss (ss.length + 1) 0 ([0], [])).getD ([0], [])
theorem ordC_eq {ss : List (List (List Int))} (h : ClsOK ss) : srch (keyL (part ss)) ss (ss.length + 1) 0 ([0], []) = some (ordC ss) ∧ (ordC ss).1.length ≤ ss.length ∧ ∀ x ∈ (ordC ss).1, x < ss.length := by
  obtain ⟨R, h1, h2, h3⟩ := srch_some (kf := keyL (part ss)) h.toOK (ss.length + 1) 0 ([0], []) (by simp) (fun x hx => by simp at hx; rw [hx]; exact h.2.2.1) (by omega) (by simp)
  have : ordC ss = R := by rw [ordC, h1]; rfl
  rw [this]; exact ⟨h1, h2, h3⟩
/-- The canonical form. -/
def canS (ss : List (List (List Int))) : List (List (List Int)) := formC ss (part ss) (ordC ss).1
end Go.Proofs.YtfihpofdoffclaaGreatDoor

/- Classes, Canonical, Is and Equal. -/
namespace Go.Proofs.YtfihpofdoffclaaGreatDoor
open Go.RowKit Go.ChangeMaps Go.MapKept

/-- canonical.canonical, of an adversary that is well-formed. -/
theorem canonC {w : World} {v : Value} {n : Int} {ss : List (List (List Int))} (hA : AdvV w v n ss) (hO : ClsOK ss) :
    Calls Tryz.prog 51 #[v] w fun e w' => ∃ u, e = .returned u ∧ OwAdv w' u n (canS ss) ∧ Below w.heap.size w w' := by
  obtain ⟨h1, h2, h3⟩ := ordC_eq hO
  have hl := hO.1
  exact canonW hA hO (clsGo_part hO) (part_len ss) (fun x hx => part_mem (by omega) hx) h1 (by omega) h3
/-- An adversary in a box. -/
theorem boxAdv {w : World} {n : Int} {a : Option Addr} {l c : Nat} {w1 : World} (hw : w1 = w.alloc (.cells #[.int .i64 n, .slice a l c] 24)) :
    Below w.heap.size w w1 ∧ w1.cell? ⟨w.heap.size, 0, none⟩ = some (.int .i64 n) ∧ w1.cell? ⟨w.heap.size, 1, none⟩ = some (.slice a l c) ∧ w1.heap[w.heap.size]? = some (.cells #[.int .i64 n, .slice a l c] 24) := by
  have h := heap_alloc_new w (.cells #[.int .i64 n, .slice a l c] 24)
  rw [← hw] at h
  refine ⟨by rw [hw]; exact (Below.refl _ w).alloc (Nat.le_refl _) _, ?_, ?_, h⟩
  · rw [cell_of_row _ _ 0 _ _ _ h]; rfl
  · rw [cell_of_row _ _ 1 _ _ _ h]; rfl

set_option maxRecDepth 100000 in
set_option maxHeartbeats 800000 in
theorem classesGood {w : World} {v : Value} {n : Int} {ss : List (List (List Int))} (hA : AdvV w v n ss) (hl : ss.length ≤ 90) (hm : movesN ss ≤ 90) (h0 : chkA n ss = 0) :
    Calls Tryz.prog 13 #[v] w fun e w' => ∃ u, e = .returned (.tuple #[u, .int .i64 0]) ∧ OI w' w.heap.size u ss.length (natI (part ss)) ∧ Below w.heap.size w w' := by
  have hO := clsOK_of hA.len8 h0 hl hm
  have hA' := hA
  obtain ⟨sv, rfl, hK⟩ := hA'
  obtain ⟨sa, sc, hsv⟩ := hK.shape
  subst hsv
  obtain ⟨W1, hW1⟩ : ∃ W1, W1 = w.alloc (.cells #[.int .i64 n, .slice sa ss.length sc] 24) := ⟨_, rfl⟩
  obtain ⟨hb1, p0, p1, _⟩ := boxAdv hW1
  have HC := checkA (hA.keep hb1) (by omega)
  rw [h0] at HC
  have HL := Lib.hid (fun W (hb : Below w.heap.size w W) => classesCall (hK.keep hb) hO (clsGo_part hO))
  have hpl := part_len ss
  have h0l := hO.2.2.1
  replace HC := Lib.hid HC
  replace hO := Lib.hid hO
  obtain ⟨L, hL⟩ : ∃ L, part ss = L := ⟨_, rfl⟩
  have hLL : lbl L = L := by rw [← hL]; exact part_lbl h0l
  have hLb : Hid (∀ x ∈ L, x ≤ 1000000) := fun x hx => part_mem (ss := ss) (by omega) (by rw [hL]; exact hx)
  rw [hL] at HL hpl ⊢
  replace hLL := Lib.hid hLL
  clear hA hK h0
  go_enter Tryz.func13, Tryz.ntmps13
  go_wp2_with fail
  rw [← hW1]
  refine HC.out.mono ?_
  rintro e W2 ⟨rfl, hb2⟩
  have hb02 := bt hb1 hb2 hb1.size
  have q1 := cell_kept hb2 p1
  go_wp2_with fail
  refine (HL.out W2 hb02).mono ?_
  rintro e W3 ⟨u, rfl, h1, h2⟩
  have hs2 := hb02.size
  have HP := Lib.hid (partOf (ks := L) (h1.ints (by omega)) (by omega) (by omega) hLb.out)
  rw [hLL.out] at HP
  have hb03 := bt hb02 h2 hb02.size
  have hsz := hb03.size
  go_wp2_with fail
  refine HP.out.mono ?_
  rintro e W4 ⟨u2, rfl, h3, h4⟩
  have hfin : OI W4 w.heap.size u2 ss.length (natI L) := by rw [← hpl]; exact h3.base hsz
  have hb04 := bt hb03 h4 hsz
  replace hfin := Lib.hid hfin
  go_wp2
  go_ret2
  exact ⟨_, rfl, hfin.out, hb04⟩
set_option maxRecDepth 100000 in
set_option maxHeartbeats 800000 in
theorem canonGood {w : World} {v : Value} {n : Int} {ss : List (List (List Int))} (hA : AdvV w v n ss) (hl : ss.length ≤ 90) (hm : movesN ss ≤ 90) (h0 : chkA n ss = 0) :
    Calls Tryz.prog 15 #[v] w fun e w' => ∃ u, e = .returned (.tuple #[u, .int .i64 0]) ∧ OwAdv w' u n (canS ss) ∧ Below w.heap.size w w' := by
  have hO := clsOK_of hA.len8 h0 hl hm
  have hA' := hA
  obtain ⟨sv, rfl, hK⟩ := hA'
  obtain ⟨sa, sc, hsv⟩ := hK.shape
  subst hsv
  obtain ⟨W1, hW1⟩ : ∃ W1, W1 = w.alloc (.cells #[.int .i64 n, .slice sa ss.length sc] 24) := ⟨_, rfl⟩
  obtain ⟨hb1, p0, p1, _⟩ := boxAdv hW1
  obtain ⟨W1', hW1'⟩ : ∃ W1', W1' = W1.alloc (.cells #[.int .i64 0, .slice none 0 0] 24) := ⟨_, rfl⟩
  obtain ⟨hb1', z0, z1, m1⟩ := boxAdv hW1'
  have hs1 : W1.heap.size = w.heap.size + 1 := by rw [hW1]; simp
  have hb11 := bt hb1 hb1' hb1.size
  rw [hs1] at z0 z1 m1
  have p0' := cell_kept hb1' p0
  have p1' := cell_kept hb1' p1
  have HC := checkA (hA.keep hb11) (by omega)
  rw [h0] at HC
  have HL := Lib.hid (fun W (hb : Below w.heap.size w W) => canonC (hA.keep hb) hO)
  replace HC := Lib.hid HC
  clear hA hK h0 hO
  obtain ⟨C, hC⟩ : ∃ C, canS ss = C := ⟨_, rfl⟩
  rw [hC] at HL ⊢
  rw [hW1] at hW1'
  go_enter Tryz.func15, Tryz.ntmps15
  go_wp2_with fail
  rw [← hW1']
  refine HC.out.mono ?_
  rintro e W2 ⟨rfl, hb2⟩
  have hb02 := bt hb11 hb2 hb11.size
  have q0 := cell_kept hb2 p0'
  have q1 := cell_kept hb2 p1'
  go_wp2_with fail
  refine (HL.out W2 hb02).mono ?_
  rintro e W3 ⟨u, rfl, h1, h2⟩
  obtain ⟨su, rfl, hsu, hsl⟩ := h1
  obtain ⟨ua, uc, hua⟩ := hsu.shape
  subst hua
  have m3 := ((btt hb2 h2).block _ (Array.getElem?_eq_some_iff.1 m1).1).trans m1
  have y0 : W3.cell? ⟨w.heap.size + 1, 0, none⟩ = some (.int .i64 0) := by rw [cell_of_row _ _ 0 _ _ _ m3]; rfl
  have y1 : W3.cell? ⟨w.heap.size + 1, 1, none⟩ = some (.slice none 0 0) := by rw [cell_of_row _ _ 1 _ _ _ m3]; rfl
  have hfr := row_free m3
  have hb03 := bt hb02 h2 hb02.size
  have hrw1 : (W3.setCell ⟨w.heap.size + 1, 0, none⟩ (.int .i64 n)).heap[w.heap.size + 1]? = some (.cells #[.int .i64 n, .slice none 0 0] 24) := heap_setCell_same W3 _ 0 _ _ _ m3
  have hrw2 := two_setCell (u := .slice ua C.length uc) hrw1
  have hx2 := (KeepX.setCell (p := ⟨w.heap.size + 1, 0, none⟩) m3 (.int .i64 n)).trans (KeepX.setCell (p := ⟨w.heap.size + 1, 1, none⟩) hrw1 (.slice ua C.length uc))
  have hfin := OwAdv.other (v := .agg #[.int .i64 n, .slice ua C.length uc]) ⟨_, rfl, hsu, hsl⟩ hx2
  have hbe := (hb03.setCell (p := ⟨w.heap.size + 1, 0, none⟩) (Nat.le_succ _) (.int .i64 n)).setCell (p := ⟨w.heap.size + 1, 1, none⟩) (Nat.le_succ _) (.slice ua C.length uc)
  have e0 : ((W3.setCell ⟨w.heap.size + 1, 0, none⟩ (.int .i64 n)).setCell ⟨w.heap.size + 1, 1, none⟩ (.slice ua C.length uc)).cell? ⟨w.heap.size + 1, 0, none⟩ = some (.int .i64 n) := by rw [cell_of_row _ _ 0 _ _ _ hrw2]; rfl
  have e1 : ((W3.setCell ⟨w.heap.size + 1, 0, none⟩ (.int .i64 n)).setCell ⟨w.heap.size + 1, 1, none⟩ (.slice ua C.length uc)).cell? ⟨w.heap.size + 1, 1, none⟩ = some (.slice ua C.length uc) := by rw [cell_of_row _ _ 1 _ _ _ hrw2]; rfl
  replace hfin := Lib.hid hfin
  clear hrw1 hrw2 hx2 hsu m3 hC
  go_wp2
  obtain ⟨W8, hW8⟩ : ∃ W8, W8 = (W3.setCell ⟨w.heap.size + 1, 0, none⟩ (.int .i64 n)).setCell ⟨w.heap.size + 1, 1, none⟩ (.slice ua C.length uc) := ⟨_, rfl⟩
  rw [← hW8] at e0 e1 hfin hbe ⊢
  clear hW8
  refine bodyPost_ret (v := .tuple #[.agg #[.int .i64 n, .slice ua C.length uc], .int .i64 0]) (by simp [results, Tryz.results15, go_sem, e0, e1]) rfl ?_
  exact ⟨_, rfl, hfin.out, hbe⟩
set_option maxRecDepth 100000 in
set_option maxHeartbeats 800000 in
theorem canonBad {w : World} {v : Value} {n : Int} {ss : List (List (List Int))} (hA : AdvV w v n ss) (hm : movesN ss ≤ 1000000000) (h0 : chkA n ss ≠ 0) :
    Calls Tryz.prog 15 #[v] w fun e w' => e = .returned (.tuple #[.agg #[.int .i64 0, .slice none 0 0], .int .i64 (chkA n ss)]) ∧ Below w.heap.size w w' := by
  have hA' := hA
  obtain ⟨sv, rfl, hK⟩ := hA'
  obtain ⟨sa, sc, hsv⟩ := hK.shape
  subst hsv
  obtain ⟨W1, hW1⟩ : ∃ W1, W1 = w.alloc (.cells #[.int .i64 n, .slice sa ss.length sc] 24) := ⟨_, rfl⟩
  obtain ⟨hb1, p0, p1, _⟩ := boxAdv hW1
  obtain ⟨W1', hW1'⟩ : ∃ W1', W1' = W1.alloc (.cells #[.int .i64 0, .slice none 0 0] 24) := ⟨_, rfl⟩
  obtain ⟨hb1', z0, z1, m1⟩ := boxAdv hW1'
  have hs1 : W1.heap.size = w.heap.size + 1 := by rw [hW1]; simp
  have hb11 := bt hb1 hb1' hb1.size
  rw [hs1] at z0 z1 m1
  have p0' := cell_kept hb1' p0
  have p1' := cell_kept hb1' p1
  have HC := Lib.hid (checkA (hA.keep hb11) hm)
  obtain ⟨E, hE⟩ : ∃ E, chkA n ss = E := ⟨_, rfl⟩
  rw [hE] at HC h0 ⊢
  have h1 : (E == 0) = false := by simp [h0]
  clear hA hK hE
  rw [hW1] at hW1'
  go_enter Tryz.func15, Tryz.ntmps15
  go_wp2_with fail
  rw [← hW1']
  refine HC.out.mono ?_
  rintro e W2 ⟨rfl, hb2⟩
  have hb02 := bt hb11 hb2 hb11.size
  have m3 := (hb2.block _ (Array.getElem?_eq_some_iff.1 m1).1).trans m1
  have y0 : W2.cell? ⟨w.heap.size + 1, 0, none⟩ = some (.int .i64 0) := by rw [cell_of_row _ _ 0 _ _ _ m3]; rfl
  have y1 : W2.cell? ⟨w.heap.size + 1, 1, none⟩ = some (.slice none 0 0) := by rw [cell_of_row _ _ 1 _ _ _ m3]; rfl
  have hfr := row_free m3
  have hrw1 : (W2.setCell ⟨w.heap.size + 1, 0, none⟩ (.int .i64 0)).heap[w.heap.size + 1]? = some (.cells #[.int .i64 0, .slice none 0 0] 24) := heap_setCell_same W2 _ 0 _ _ _ m3
  have hrw2 := two_setCell (u := .slice none 0 0) hrw1
  have hbe := (hb02.setCell (p := ⟨w.heap.size + 1, 0, none⟩) (Nat.le_succ _) (.int .i64 0)).setCell (p := ⟨w.heap.size + 1, 1, none⟩) (Nat.le_succ _) (.slice none 0 0)
  have e0 : ((W2.setCell ⟨w.heap.size + 1, 0, none⟩ (.int .i64 0)).setCell ⟨w.heap.size + 1, 1, none⟩ (.slice none 0 0)).cell? ⟨w.heap.size + 1, 0, none⟩ = some (.int .i64 0) := by rw [cell_of_row _ _ 0 _ _ _ hrw2]; rfl
  have e1 : ((W2.setCell ⟨w.heap.size + 1, 0, none⟩ (.int .i64 0)).setCell ⟨w.heap.size + 1, 1, none⟩ (.slice none 0 0)).cell? ⟨w.heap.size + 1, 1, none⟩ = some (.slice none 0 0) := by rw [cell_of_row _ _ 1 _ _ _ hrw2]; rfl
  clear hrw1 hrw2 m3
  go_wp2
  obtain ⟨W8, hW8⟩ : ∃ W8, W8 = (W2.setCell ⟨w.heap.size + 1, 0, none⟩ (.int .i64 0)).setCell ⟨w.heap.size + 1, 1, none⟩ (.slice none 0 0) := ⟨_, rfl⟩
  rw [← hW8] at e0 e1 hbe ⊢
  clear hW8
  refine bodyPost_ret (v := .tuple #[.agg #[.int .i64 0, .slice none 0 0], .int .i64 E]) (by simp [results, Tryz.results15, go_sem, e0, e1]) rfl ?_
  exact ⟨rfl, hbe⟩
end Go.Proofs.YtfihpofdoffclaaGreatDoor

/- canonical.to and canonical.after. -/
namespace Go.Proofs.YtfihpofdoffclaaGreatDoor
open Go.RowKit

/-- The state to which a round leads, or -1. -/
def toI (r : List Int) : List (List Int) → Int
  | [] => -1
  | m :: ms => if rdOf m = r then m.getD 7 0 else toI r ms
theorem box7CI {w : World} {b : Nat} {x0 x1 x2 x3 x4 x5 x6 : Int} {t : TypeId} (h : w.heap[b]? = some (.cells #[.int .i64 x0, .int .i64 x1, .int .i64 x2, .int .i64 x3, .int .i64 x4, .int .i64 x5, .int .i64 x6] t)) : CI w b 0 [x0, x1, x2, x3, x4, x5, x6] := by
  intro j hj
  rw [cell_of_row w b (0 + j) _ _ _ h]
  match j, hj with
  | 0, _ => rfl
  | 1, _ => rfl
  | 2, _ => rfl
  | 3, _ => rfl
  | 4, _ => rfl
  | 5, _ => rfl
  | 6, _ => rfl
set_option maxRecDepth 100000 in
set_option maxHeartbeats 1600000 in
theorem toA {w : World} {v : Value} {n : Int} {ss : List (List (List Int))} (hA : AdvV w v n ss) {i : Nat} (hi : i < ss.length) (r0 r1 r2 r3 r4 r5 r6 : Int) :
    Calls Tryz.prog 96 #[v, .int .i64 (i : Int), .agg #[.int .i64 r0, .int .i64 r1, .int .i64 r2, .int .i64 r3, .int .i64 r4, .int .i64 r5, .int .i64 r6]] w fun e w' =>
      e = .returned (.int .i64 (toI [r0, r1, r2, r3, r4, r5, r6] (ss.getD i []))) ∧ Below w.heap.size w w' := by
  obtain ⟨sv, rfl, hK⟩ := hA
  obtain ⟨sa, sc, sb, so, rfl, hsa, hsc, _⟩ := hK
  obtain rfl := hsa (by omega)
  obtain ⟨W1, hW1⟩ : ∃ W1, W1 = w.alloc (.cells #[.int .i64 n, .slice (some ⟨sb, so, none⟩) ss.length sc] 24) := ⟨_, rfl⟩
  obtain ⟨hb1, p0, p1, _⟩ := boxAdv hW1
  have hs1 : W1.heap.size = w.heap.size + 1 := by rw [hW1]; simp
  obtain ⟨W2, hW2⟩ : ∃ W2, W2 = W1.alloc (.cells #[.int .i64 r0, .int .i64 r1, .int .i64 r2, .int .i64 r3, .int .i64 r4, .int .i64 r5, .int .i64 r6] 79) := ⟨_, rfl⟩
  have hb2 : Below W1.heap.size W1 W2 := by rw [hW2]; exact (Below.refl _ _).alloc (Nat.le_refl _) _
  have m2 : W2.heap[W1.heap.size]? = some (.cells #[.int .i64 r0, .int .i64 r1, .int .i64 r2, .int .i64 r3, .int .i64 r4, .int .i64 r5, .int .i64 r6] 79) := by rw [hW2]; exact heap_alloc_new _ _
  have hc2 := box7CI m2
  rw [hs1] at hc2
  have hb02 := bt hb1 hb2 hb1.size
  have q1 := cell_kept hb2 p1
  obtain ⟨u, hcu, hu⟩ := hsc i hi
  have hcu := cell_kept hb02 hcu
  have hu := hu.keep hb02
  obtain ⟨ms, hms⟩ : ∃ ms, ss.getD i [] = ms := ⟨_, rfl⟩
  rw [hms] at hu ⊢
  obtain ⟨ma, mc, mb, mo, rfl, hma, hmc, _⟩ := hu
  replace hmc := Lib.hid hmc
  replace hc2 := Lib.hid hc2
  obtain ⟨z, hz⟩ : ∃ z, toI [r0, r1, r2, r3, r4, r5, r6] ms = z := ⟨_, rfl⟩
  have hz0 : Hid (toI [r0, r1, r2, r3, r4, r5, r6] (ms.drop 0) = z) := by show _ = _; rw [List.drop_zero]; exact hz
  rw [hz]
  have hs2a : W2.heap.size ≤ w.heap.size + 2 := by rw [hW2]; simp; omega
  have hs2b : w.heap.size + 2 ≤ W2.heap.size := by rw [hW2]; simp; omega
  rw [hW1] at hW2
  clear hsc hms hz m2 p0 p1 hb1
  have q1' := q1
  have hcu' := hcu
  rw [hW2] at q1' hcu'
  go_enter Tryz.func96, Tryz.ntmps96
  go_wp2
  rw [← hW2]
  replace hW2 := Lib.hid hW2
  go_loopw [15] (fun jv wr => ∃ k : Nat, jv = .int .i64 k ∧ k ≤ ms.length ∧ Hid (toI [r0, r1, r2, r3, r4, r5, r6] (ms.drop k) = z) ∧ Below W2.heap.size W2 wr) (fun jv _ => ms.length - (intOf jv).toNat)
  case atStart => exact ⟨0, rfl, by omega, hz0, Below.refl _ _⟩
  case round =>
    clear hz0
    obtain ⟨k, rfl, hk, hzk, hbr⟩ := hrel
    by_cases hlt : k < ms.length
    · obtain rfl := hma (by omega)
      obtain ⟨hx8, hxi⟩ := hmc.out k hlt
      obtain ⟨x, hx⟩ : ∃ x, ms.getD k [] = x := ⟨_, rfl⟩
      have hdr := drop_cons hlt ([] : List Int)
      rw [hx] at hx8 hxi hdr
      rw [hdr] at hzk
      obtain ⟨x0, x1, x2, x3, x4, x5, x6, x7, rfl⟩ := eight hx8
      obtain ⟨c0, c1, c2, c3, c4, c5, c6, c7⟩ := (hxi.keep hbr).all8
      obtain ⟨W3, hW3⟩ : ∃ W3, W3 = wr.alloc (.cells #[.int .i64 x0, .int .i64 x1, .int .i64 x2, .int .i64 x3, .int .i64 x4, .int .i64 x5, .int .i64 x6, .int .i64 x7] 84) := ⟨_, rfl⟩
      have hb3 : Below wr.heap.size wr W3 := by rw [hW3]; exact (Below.refl _ _).alloc (Nat.le_refl _) _
      have m3 : W3.heap[wr.heap.size]? = some (.cells #[.int .i64 x0, .int .i64 x1, .int .i64 x2, .int .i64 x3, .int .i64 x4, .int .i64 x5, .int .i64 x6, .int .i64 x7] 84) := by rw [hW3]; exact heap_alloc_new _ _
      have hb23 := btt hbr hb3
      obtain ⟨d0, d1, d2, d3, d4, d5, d6⟩ := (hc2.out.keep hb23).all7
      obtain ⟨e0, e1, e2, e3, e4, e5, e6, e7⟩ := box8 m3
      rw [hW3] at d0 d1 d2 d3 d4 d5 d6 e0 e1 e2 e3 e4 e5 e6 e7
      simp only [Nat.zero_add] at d0 d1 d2 d3 d4 d5 d6
      clear hxi hx8 hx m3 hdr
      by_cases he : [x0, x1, x2, x3, x4, x5, x6] = [r0, r1, r2, r3, r4, r5, r6]
      · have hE : eqL [x0, x1, x2, x3, x4, x5, x6] [r0, r1, r2, r3, r4, r5, r6] = true := eqL_true.2 he
        have hzx : x7 = z := by
          have h := hzk.out
          rw [toI, if_pos (show rdOf [x0, x1, x2, x3, x4, x5, x6, x7] = _ from he)] at h
          exact h
        subst hzx
        clear he hzk
        go_wp2
        rw [← hW3]
        go_ret
        exact ⟨rfl, hb02.trans (hb23.mono (by omega))⟩
      · have hE : eqL [x0, x1, x2, x3, x4, x5, x6] [r0, r1, r2, r3, r4, r5, r6] = false := eqL_false.2 he
        have hz2 : Hid (toI [r0, r1, r2, r3, r4, r5, r6] (ms.drop (k + 1)) = z) := by
          have h := hzk.out
          rwa [toI, if_neg (show ¬ rdOf [x0, x1, x2, x3, x4, x5, x6, x7] = _ from he)] at h
        clear he hzk
        go_wp2
        rw [← hW3]
        go_roundw
        case rel => exact ⟨k + 1, by go_num, hlt, hz2, hb23⟩
        case measure => simp [intOf]; omega
    · have hzx : -1 = z := by
        have h := hzk.out
        rw [List.drop_eq_nil_of_le (by omega), toI] at h
        exact h
      subst hzx
      clear hzk
      go_wp2
      go_ret
      exact ⟨rfl, hb02.trans (hbr.mono (by omega))⟩
end Go.Proofs.YtfihpofdoffclaaGreatDoor

/- canonical.after. -/
namespace Go.Proofs.YtfihpofdoffclaaGreatDoor
open Go.RowKit

/-- The state behind a word, or -1. -/
def afterI (ss : List (List (List Int))) : List (List Int) → Nat → Int
  | [], s => (s : Int)
  | r :: rs, s => if toI r (ss.getD s []) < 0 then -1 else afterI ss rs (toI r (ss.getD s [])).toNat
/-- All moves lead to states. -/
def LeadOK (ss : List (List (List Int))) : Prop := ∀ s ∈ ss, ∀ m ∈ s, 0 ≤ m.getD 7 0 ∧ m.getD 7 0 < (ss.length : Int)
theorem toI_ge (r : List Int) {n : Int} : ∀ {ms : List (List Int)}, (∀ m ∈ ms, 0 ≤ m.getD 7 0 ∧ m.getD 7 0 < n) → 0 < n → -1 ≤ toI r ms ∧ toI r ms < n
  | [], _, _ => by simp only [toI]; omega
  | m :: ms, h, hn => by
    unfold toI
    split
    · have := h m (by simp); omega
    · exact toI_ge r (fun x hx => h x (by simp [hx])) hn
theorem toI_st {ss : List (List (List Int))} (h : LeadOK ss) {s : Nat} (hs : s < ss.length) (r : List Int) : -1 ≤ toI r (ss.getD s []) ∧ toI r (ss.getD s []) < (ss.length : Int) :=
  toI_ge r (fun m hm => h _ (by rw [getD_eq hs] at hm; exact List.getElem_mem hs) m (by rw [getD_eq hs] at hm; exact hm)) (by omega)

theorem advShape' {w : World} {v : Value} {n : Int} {ss : List (List (List Int))} (h : AdvV w v n ss) : ∃ a c, v = .agg #[.int .i64 n, .slice a ss.length c] := by
  obtain ⟨sv, rfl, hK⟩ := h
  obtain ⟨a, c, rfl⟩ := hK.shape
  exact ⟨a, c, rfl⟩
set_option maxRecDepth 100000 in
set_option maxHeartbeats 1600000 in
theorem afterA {w : World} {v wv : Value} {n : Int} {ss : List (List (List Int))} {rs : List (List Int)} (hA : AdvV w v n ss) (hM : LeadOK ss) {i : Nat} (hi : i < ss.length) (hw : KS 7 w wv rs) :
    Calls Tryz.prog 64 #[v, .int .i64 (i : Int), wv] w fun e w' => e = .returned (.int .i64 (afterI ss rs i)) ∧ Below w.heap.size w w' := by
  obtain ⟨sa, sc, hv⟩ := advShape' hA
  subst hv
  obtain ⟨ra, rc, rb, ro, rfl, hra, hrc, _⟩ := hw
  obtain ⟨W1, hW1⟩ : ∃ W1, W1 = w.alloc (.cells #[.int .i64 n, .slice sa ss.length sc] 24) := ⟨_, rfl⟩
  obtain ⟨hb1, p0, p1, _⟩ := boxAdv hW1
  have HT := Lib.hid (fun W (hb : Below w.heap.size w W) j (hj : j < ss.length) r0 r1 r2 r3 r4 r5 r6 => toA (hA.keep hb) hj r0 r1 r2 r3 r4 r5 r6)
  obtain ⟨z, hz⟩ : ∃ z, afterI ss rs i = z := ⟨_, rfl⟩
  have hz0 : Hid (afterI ss (rs.drop 0) i = z) := by show _ = _; rw [List.drop_zero]; exact hz
  rw [hz]
  replace hrc := Lib.hid hrc
  replace hM := Lib.hid hM
  clear hA hz
  go_enter Tryz.func64, Tryz.ntmps64
  go_wp2
  rw [← hW1]
  replace hW1 := Lib.hid hW1
  go_loopw [1, 11] (fun sv jv wr => ∃ s k : Nat, sv = .int .i64 s ∧ s < ss.length ∧ jv = .int .i64 k ∧ k ≤ rs.length ∧ Hid (afterI ss (rs.drop k) s = z) ∧ Below W1.heap.size W1 wr) (fun _ jv _ => rs.length - (intOf jv).toNat)
  case atStart => exact ⟨i, 0, rfl, hi, rfl, by omega, hz0, Below.refl _ _⟩
  case round =>
    clear hz0 hi i
    obtain ⟨s, k, rfl, hs, rfl, hk, hzk, hbr⟩ := hrel
    by_cases hlt : k < rs.length
    · obtain rfl := hra (by omega)
      obtain ⟨hx7, hxi⟩ := hrc.out k hlt
      obtain ⟨x, hx⟩ : ∃ x, rs.getD k [] = x := ⟨_, rfl⟩
      have hdr := drop_cons hlt ([] : List Int)
      rw [hx] at hx7 hxi hdr
      rw [hdr] at hzk
      obtain ⟨x0, x1, x2, x3, x4, x5, x6, rfl⟩ := seven hx7
      have hb1r := bt hb1 hbr hb1.size
      obtain ⟨c0, c1, c2, c3, c4, c5, c6⟩ := (hxi.keep hb1r).all7
      obtain ⟨W3, hW3⟩ : ∃ W3, W3 = wr.alloc (.cells #[.int .i64 x0, .int .i64 x1, .int .i64 x2, .int .i64 x3, .int .i64 x4, .int .i64 x5, .int .i64 x6] 79) := ⟨_, rfl⟩
      have hb3 : Below wr.heap.size wr W3 := by rw [hW3]; exact (Below.refl _ _).alloc (Nat.le_refl _) _
      have m3 : W3.heap[wr.heap.size]? = some (.cells #[.int .i64 x0, .int .i64 x1, .int .i64 x2, .int .i64 x3, .int .i64 x4, .int .i64 x5, .int .i64 x6] 79) := by rw [hW3]; exact heap_alloc_new _ _
      obtain ⟨e0, e1, e2, e3, e4, e5, e6⟩ := (box7CI m3).all7
      have d0 := cell_kept (btt hbr hb3) p0
      have d1 := cell_kept (btt hbr hb3) p1
      have hbw := bt hb1r hb3 hb1r.size
      have H := HT.out W3 hbw s hs x0 x1 x2 x3 x4 x5 x6
      obtain ⟨hge, hlq⟩ := toI_st hM.out hs [x0, x1, x2, x3, x4, x5, x6]
      obtain ⟨t, ht⟩ : ∃ t, toI [x0, x1, x2, x3, x4, x5, x6] (ss.getD s []) = t := ⟨_, rfl⟩
      rw [ht] at H hge hlq
      have hz2 := hzk.out
      rw [afterI, ht] at hz2
      replace H := Lib.hid H
      rw [hW3] at e0 e1 e2 e3 e4 e5 e6 d0 d1
      simp only [Nat.zero_add] at e0 e1 e2 e3 e4 e5 e6
      clear hxi hx7 hx m3 hdr ht hzk
      by_cases hneg : t < 0
      · rw [if_pos hneg] at hz2
        have hd : decide (t < 0) = true := decide_eq_true hneg
        subst hz2
        clear hneg
        go_wp2_with fail
        rw [← hW3]
        refine H.out.mono ?_
        rintro e W4 ⟨rfl, hb4⟩
        go_wp2
        go_ret
        exact ⟨rfl, bt hbw hb4 hbw.size⟩
      · rw [if_neg hneg] at hz2
        have hz3 : Hid (afterI ss (rs.drop (k + 1)) t.toNat = z) := hz2
        obtain ⟨q, rfl⟩ : ∃ q : Nat, t = (q : Int) := ⟨t.toNat, by omega⟩
        rw [show ((q : Int)).toNat = q by omega] at hz3
        have hd : decide ((q : Int) < 0) = false := decide_eq_false hneg
        have hq : q < ss.length := by omega
        clear hneg hz2
        go_wp2_with fail
        rw [← hW3]
        refine H.out.mono ?_
        rintro e W4 ⟨rfl, hb4⟩
        go_wp2
        go_roundw
        case rel => exact ⟨q, k + 1, rfl, hq, by go_num, hlt, hz3, (btt hbr hb3).trans (hb4.mono (Nat.le_trans hbr.size hb3.size))⟩
        case measure => simp [intOf]; omega
    · have hzx : (s : Int) = z := by
        have h := hzk.out
        rw [List.drop_eq_nil_of_le (by omega), afterI] at h
        exact h
      subst hzx
      clear hzk
      go_wp2
      go_ret
      exact ⟨rfl, bt hb1 hbr hb1.size⟩
end Go.Proofs.YtfihpofdoffclaaGreatDoor

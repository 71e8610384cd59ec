/- The walks of Vector, Identity, Compose and the reference's. -/
import Derived.Test.YtpjlaaldepfnkaaDoorWf
namespace Go.Proofs.YtpjlaaldepfnkaaDoor
open Go.RowKit

set_option maxRecDepth 100000 in
set_option maxHeartbeats 800000 in
theorem vector {w : World} {u v : Value} {a b : List Int} (h : Ints w u a) (h' : Ints w v b) : Calls Tryd.prog 24 #[u, v] w (RI w (vecL a b) (vecE a b)) := by
  have H := Lib.hid (check h)
  by_cases hz : chk a = 0
  · obtain ⟨h1, h5, hG, _⟩ := chk_good hz
    by_cases hab : a.length = b.length
    · have hvE := Lib.hid (show vecE a b = 0 by rw [vecE, if_neg (fun h => h hz), if_neg (fun h => h hab.symm)])
      have hL := Lib.hid (show vecL a b = movedL a b by rw [vecL, if_pos hvE.out])
      rw [hz] at H
      clear hz
      obtain ⟨aa, ac, ab, ao, rfl, ha, hca, hla⟩ := h
      obtain ⟨ba, bc, bb, bo, rfl, hb', hcb, hlb⟩ := h'
      obtain rfl := ha (by omega)
      obtain rfl := hb' (by omega)
      clear ha hb'
      have hab' : ((b.length : Int) != (a.length : Int)) = false := by simp; omega
      have hb5 : b.length ≤ 5 := by omega
      replace hab := Lib.hid hab
      go_enter Tryd.func24, Tryd.ntmps24
      go_wp2_with (first | (go_at_call 19; refine H.out.mono ?_; rintro e w1 ⟨rfl, hb1⟩) | (at_make; refine wpMakeI rfl _ _ rfl b.length rfl rfl (by omega) (Nat.le_refl _) ?_; intro w2 ho _ hb))
      rw [← hab.out] at ho ⊢
      have hb0 := btt hb1 hb
      have hg1 := hb1.size
      clear hb1 hb
      obtain ⟨g, hg⟩ : ∃ g, g = w1.heap.size := ⟨_, rfl⟩
      rw [← hg] at ho ⊢
      have hgl : w.heap.size ≤ g := by omega
      clear hg hg1
      go_loopw [25] (fun i wr => ∃ k : Nat, k ≤ a.length ∧ i = .int .i64 k ∧ OI wr g (.slice (some ⟨g, 0, none⟩) a.length a.length) a.length (scat a b (List.replicate a.length 0) k) ∧ Below w.heap.size w wr) (fun i _ => a.length - (intOf i).toNat)
      case atStart => exact ⟨0, by omega, rfl, ho, hb0⟩
      case round =>
        clear ho hb0
        obtain ⟨k, hk, rfl, ho, hb⟩ := hrel
        by_cases hlt : k < a.length
        · obtain ⟨g1, g2⟩ := hG k hlt
          have hck := hca.keep hb k hlt
          have hck' := hcb.keep hb k (by have := hab.out; omega)
          have e1 := Lib.hid (scat_succ a b (List.replicate a.length 0) k)
          obtain ⟨q, hq⟩ : ∃ q, a.getD k 0 = q := ⟨_, rfl⟩
          obtain ⟨y, hy⟩ : ∃ y, b.getD k 0 = y := ⟨_, rfl⟩
          rw [hq] at hck g1 g2 e1
          rw [hy] at hck' e1
          clear hq hy hca hcb hG
          have hcq := ho.cell (j := q.toNat) (by omega)
          have hfq := ho.free q.toNat
          have hst := ho.store q.toNat y
          go_wp2
          go_roundw
          case rel => exact ⟨k + 1, by omega, by go_num, by rw [e1.out]; exact hst.1, hb.setCell (by simpa using hgl) _⟩
          case measure => simp [intOf]; omega
        · obtain rfl : k = a.length := by omega
          clear hca hcb hG
          go_wp2
          go_ret2
          exact RI.some hL.out hvE.out ho hgl hb
    · have hvE := Lib.hid (show vecE a b = 15 by rw [vecE, if_neg (fun h => h hz), if_pos (fun h => hab h.symm)])
      have hL := Lib.hid (show vecL a b = [] by rw [vecL, hvE.out]; rfl)
      rw [hz] at H
      clear hz
      obtain ⟨aa, ac, ab, ao, rfl, ha, hca, hla⟩ := h
      obtain ⟨ba, bc, bb, bo, rfl, hb', hcb, hlb⟩ := h'
      clear ha hb' hca hcb
      have hab' : ((b.length : Int) != (a.length : Int)) = true := by simp; omega
      go_enter Tryd.func24, Tryd.ntmps24
      go_wp2_with (first | (go_at_call 19; refine H.out.mono ?_; rintro e w1 ⟨rfl, hb1⟩))
      go_ret2
      exact RI.none hL.out hvE.out.symm hb1
  · obtain ⟨E, hE⟩ : ∃ E, chk a = E := ⟨_, rfl⟩
    have hvE := Lib.hid (show vecE a b = E by rw [vecE, if_pos hz, hE])
    have hL := Lib.hid (show vecL a b = [] by rw [vecL, hvE.out, ← hE, if_neg hz])
    rw [hE] at H hz
    have hz' : (E != 0) = true := by simpa using hz
    clear hz h hE
    go_enter Tryd.func24, Tryd.ntmps24
    go_wp2_with (go_at_call 19; refine H.out.mono ?_; rintro e w1 ⟨rfl, hb1⟩)
    go_ret2
    exact RI.none hL.out hvE.out.symm hb1

set_option maxRecDepth 100000 in
set_option maxHeartbeats 800000 in
theorem refVector {w : World} {u v : Value} {a b : List Int} (h : Ints w u a) (h' : Ints w v b) : Calls Tryd.prog 25 #[u, v] w (RI w (vecL a b) (vecE a b)) := by
  have H := Lib.hid (refCheck h)
  by_cases hz : chk a = 0
  · obtain ⟨h1, h5, hG, _⟩ := chk_good hz
    by_cases hab : a.length = b.length
    · have hvE := Lib.hid (show vecE a b = 0 by rw [vecE, if_neg (fun h => h hz), if_neg (fun h => h hab.symm)])
      have hL := Lib.hid (show vecL a b = movedL a b by rw [vecL, if_pos hvE.out])
      rw [hz] at H
      clear hz
      have H2 := fun (w1 : World) (hq : Qt w w1) => refMoved (h.qt hq) (h'.qt hq) hG hab (by omega)
      replace H2 := Lib.hid H2
      obtain ⟨aa, ac, ab, ao, rfl, ha, hca, hla⟩ := h
      obtain ⟨ba, bc, bb, bo, rfl, hb', hcb, hlb⟩ := h'
      clear ha hb' hca hcb hG
      have hab' : ((b.length : Int) != (a.length : Int)) = false := by simp; omega
      replace hab := Lib.hid hab
      go_enter Tryd.func25, Tryd.ntmps25
      go_wp2_with fail
      refine H.out.mono ?_; rintro e w1 ⟨rfl, hq⟩
      replace H2 := Lib.hid (H2.out _ hq)
      go_wp2_with fail
      refine H2.out.mono ?_; rintro e w2 ⟨r, rfl, ho, hb⟩
      go_wp2
      go_ret2
      exact RI.some hL.out hvE.out ho hq.below.size (btt hq.below hb)
    · have hvE := Lib.hid (show vecE a b = 15 by rw [vecE, if_neg (fun h => h hz), if_pos (fun h => hab h.symm)])
      have hL := Lib.hid (show vecL a b = [] by rw [vecL, hvE.out]; rfl)
      rw [hz] at H
      clear hz
      obtain ⟨aa, ac, ab, ao, rfl, ha, hca, hla⟩ := h
      obtain ⟨ba, bc, bb, bo, rfl, hb', hcb, hlb⟩ := h'
      clear ha hb' hca hcb
      have hab' : ((b.length : Int) != (a.length : Int)) = true := by simp; omega
      go_enter Tryd.func25, Tryd.ntmps25
      go_wp2_with (first | (go_at_call 20; refine H.out.mono ?_; rintro e w1 ⟨rfl, hb1⟩))
      go_ret2
      exact RI.none hL.out hvE.out.symm hb1.below
  · obtain ⟨E, hE⟩ : ∃ E, chk a = E := ⟨_, rfl⟩
    have hvE := Lib.hid (show vecE a b = E by rw [vecE, if_pos hz, hE])
    have hL := Lib.hid (show vecL a b = [] by rw [vecL, hvE.out, ← hE, if_neg hz])
    rw [hE] at H hz
    have hz' : (E != 0) = true := by simpa using hz
    clear hz h hE
    go_enter Tryd.func25, Tryd.ntmps25
    go_wp2_with (go_at_call 20; refine H.out.mono ?_; rintro e w1 ⟨rfl, hb1⟩)
    go_ret2
    exact RI.none hL.out hvE.out.symm hb1.below

set_option maxRecDepth 100000 in
set_option maxHeartbeats 800000 in
theorem identityE (n : Int) (w : World) : Calls Tryd.prog 32 #[.int .i64 n] w (RI w (idL n) (numE n)) := by
  have H := Lib.hid (number n w)
  by_cases hz : numE n = 0
  · obtain ⟨k, rfl⟩ : ∃ k : Nat, n = k := ⟨n.toNat, by unfold numE at hz; split at hz <;> omega⟩
    have hk : k ≤ 5 := by unfold numE at hz; split at hz <;> omega
    have hL := Lib.hid (show idL k = oneL k by rw [idL, if_pos hz]; rfl)
    rw [hz] at H
    replace hz := Lib.hid hz
    go_enter Tryd.func32, Tryd.ntmps32
    go_wp2_with fail
    refine H.out.mono ?_; rintro e w1 ⟨rfl, rfl⟩
    go_wp2_with fail
    refine (identityCall k _ (by omega)).mono ?_; rintro e w2 ⟨r, rfl, ho, hb⟩
    go_wp2
    go_ret2
    exact RI.some hL.out hz.out ho (Nat.le_refl _) hb
  · obtain ⟨E, hE⟩ : ∃ E, numE n = E := ⟨_, rfl⟩
    have hL := Lib.hid (show idL n = [] by rw [idL, if_neg hz])
    rw [hE] at H hz
    replace hE := Lib.hid hE
    have hz' : (E != 0) = true := by simpa using hz
    clear hz
    go_enter Tryd.func32, Tryd.ntmps32
    go_wp2_with fail
    refine H.out.mono ?_; rintro e w1 ⟨rfl, rfl⟩
    go_wp2
    go_ret2
    exact RI.none hL.out hE.out.symm (Below.refl _ _)

set_option maxRecDepth 100000 in
set_option maxHeartbeats 800000 in
theorem refIdentity (n : Int) (w : World) : Calls Tryd.prog 39 #[.int .i64 n] w (RI w (idL n) (numE n)) := by
  by_cases h1 : n < 1
  · have hE := Lib.hid (show numE n = 2 by rw [numE, if_pos (.inl h1)])
    have hL := Lib.hid (show idL n = [] by rw [idL, hE.out]; rfl)
    go_enter Tryd.func39, Tryd.ntmps39
    go_wp2
    go_ret2
    exact RI.none hL.out hE.out.symm (Below.refl _ _)
  · have h1' : decide (n < 1) = false := by simpa using h1
    by_cases h5 : 5 < n
    · have hE := Lib.hid (show numE n = 2 by rw [numE, if_pos (.inr h5)])
      have hL := Lib.hid (show idL n = [] by rw [idL, hE.out]; rfl)
      go_enter Tryd.func39, Tryd.ntmps39
      go_wp2
      go_ret2
      exact RI.none hL.out hE.out.symm (Below.refl _ _)
    · obtain ⟨k, rfl⟩ : ∃ k : Nat, n = k := ⟨n.toNat, by omega⟩
      have hE := Lib.hid (show numE k = 0 by rw [numE, if_neg (by omega)])
      have hL := Lib.hid (show idL k = oneL k by rw [idL, hE.out]; rfl)
      have h5' : decide (5 < (k : Int)) = false := by simp; omega
      go_enter Tryd.func39, Tryd.ntmps39
      go_wp2_with (go_at_call 36; refine (refOne k _ (by omega)).mono ?_; rintro e w2 ⟨r, rfl, ho, hb⟩)
      go_ret2
      exact RI.some hL.out hE.out ho (Nat.le_refl _) hb

set_option maxRecDepth 100000 in
set_option maxHeartbeats 800000 in
theorem compose {w : World} {u v : Value} {a b : List Int} (h : Ints w u a) (h' : Ints w v b) : Calls Tryd.prog 31 #[u, v] w (RI w (compL a b) (compE a b)) := by
  have H := Lib.hid (check h)
  by_cases hz : chk a = 0
  · rw [hz] at H
    have Hb := fun (w1 : World) (hq : Below w.heap.size w w1) => check (h'.keep hq)
    by_cases hzb : chk b = 0
    · simp only [hzb] at Hb
      replace Hb := Lib.hid Hb
      obtain ⟨h1, h5, hG, _⟩ := chk_good hzb
      by_cases hab : a.length = b.length
      · have hvE := Lib.hid (show compE a b = 0 by rw [compE, if_neg (fun h => h hz), if_neg (fun h => h hzb), if_neg (fun h => h hab)])
        have hL := Lib.hid (show compL a b = timesL a b by rw [compL, if_pos hvE.out])
        have H2 := fun (w1 : World) (hq : Below w.heap.size w w1) => composeCall (h.keep hq) (h'.keep hq) (by rw [hab]; exact hG) (by omega)
        replace H2 := Lib.hid H2
        obtain ⟨aa, ac, ab, ao, rfl, ha, hca, hla⟩ := h
        obtain ⟨ba, bc, bb, bo, rfl, hb', hcb, hlb⟩ := h'
        clear ha hb' hca hcb hG hz hzb
        have hab' : ((a.length : Int) != (b.length : Int)) = false := by simp; omega
        replace hab := Lib.hid hab
        go_enter Tryd.func31, Tryd.ntmps31
        go_wp2_with fail
        refine H.out.mono ?_; rintro e w1 ⟨rfl, hq1⟩
        replace Hb := Lib.hid (Hb.out _ hq1)
        go_wp2_with fail
        refine Hb.out.mono ?_; rintro e w2 ⟨rfl, hq2⟩
        have hq := btt hq1 hq2
        replace H2 := Lib.hid (H2.out _ hq)
        go_wp2_with fail
        refine H2.out.mono ?_; rintro e w3 ⟨r, rfl, ho, hb⟩
        go_wp2
        go_ret2
        exact RI.some hL.out hvE.out ho hq.size (btt hq hb)
      · have hvE := Lib.hid (show compE a b = 22 by rw [compE, if_neg (fun h => h hz), if_neg (fun h => h hzb), if_pos hab])
        have hL := Lib.hid (show compL a b = [] by rw [compL, hvE.out]; rfl)
        obtain ⟨aa, ac, ab, ao, rfl, ha, hca, hla⟩ := h
        obtain ⟨ba, bc, bb, bo, rfl, hb', hcb, hlb⟩ := h'
        clear ha hb' hca hcb hG hz hzb
        have hab' : ((a.length : Int) != (b.length : Int)) = true := by simp; omega
        go_enter Tryd.func31, Tryd.ntmps31
        go_wp2_with fail
        refine H.out.mono ?_; rintro e w1 ⟨rfl, hq1⟩
        replace Hb := Lib.hid (Hb.out _ hq1)
        go_wp2_with fail
        refine Hb.out.mono ?_; rintro e w2 ⟨rfl, hq2⟩
        have hq := btt hq1 hq2
        go_wp2
        go_ret2
        exact RI.none hL.out hvE.out.symm hq
    · obtain ⟨E, hE⟩ : ∃ E, chk b = E := ⟨_, rfl⟩
      have hvE := Lib.hid (show compE a b = E by rw [compE, if_neg (fun h => h hz), if_pos hzb, hE])
      have hL := Lib.hid (show compL a b = [] by rw [compL, hvE.out, ← hE, if_neg hzb])
      rw [hE] at hzb
      simp only [hE] at Hb
      replace Hb := Lib.hid Hb
      have hz' : (E != 0) = true := by simpa using hzb
      clear hz hzb h h' hE
      go_enter Tryd.func31, Tryd.ntmps31
      go_wp2_with fail
      refine H.out.mono ?_; rintro e w1 ⟨rfl, hq1⟩
      replace Hb := Lib.hid (Hb.out _ hq1)
      go_wp2_with fail
      refine Hb.out.mono ?_; rintro e w2 ⟨rfl, hq2⟩
      have hq := btt hq1 hq2
      go_wp2
      go_ret2
      exact RI.none hL.out hvE.out.symm hq
  · obtain ⟨E, hE⟩ : ∃ E, chk a = E := ⟨_, rfl⟩
    have hvE := Lib.hid (show compE a b = E by rw [compE, if_pos hz, hE])
    have hL := Lib.hid (show compL a b = [] by rw [compL, hvE.out, ← hE, if_neg hz])
    rw [hE] at H hz
    have hz' : (E != 0) = true := by simpa using hz
    clear hz h hE
    go_enter Tryd.func31, Tryd.ntmps31
    go_wp2_with (go_at_call 19; refine H.out.mono ?_; rintro e w1 ⟨rfl, hq⟩)
    go_ret2
    exact RI.none hL.out hvE.out.symm hq

set_option maxRecDepth 100000 in
set_option maxHeartbeats 800000 in
theorem refCompose {w : World} {u v : Value} {a b : List Int} (h : Ints w u a) (h' : Ints w v b) : Calls Tryd.prog 38 #[u, v] w (RI w (compL a b) (compE a b)) := by
  have H := Lib.hid (refCheck h)
  by_cases hz : chk a = 0
  · rw [hz] at H
    have Hb := fun (w1 : World) (hq : Qt w w1) => refCheck (h'.qt hq)
    by_cases hzb : chk b = 0
    · simp only [hzb] at Hb
      replace Hb := Lib.hid Hb
      obtain ⟨h1, h5, hG, _⟩ := chk_good hzb
      by_cases hab : a.length = b.length
      · have hvE := Lib.hid (show compE a b = 0 by rw [compE, if_neg (fun h => h hz), if_neg (fun h => h hzb), if_neg (fun h => h hab)])
        have hL := Lib.hid (show compL a b = timesL a b by rw [compL, if_pos hvE.out])
        have H2 := fun (w1 : World) (hq : Qt w w1) => refTimes (h.qt hq) (h'.qt hq) (by rw [hab]; exact hG) (by omega)
        replace H2 := Lib.hid H2
        obtain ⟨aa, ac, ab, ao, rfl, ha, hca, hla⟩ := h
        obtain ⟨ba, bc, bb, bo, rfl, hb', hcb, hlb⟩ := h'
        clear ha hb' hca hcb hG hz hzb
        have hab' : ((a.length : Int) != (b.length : Int)) = false := by simp; omega
        replace hab := Lib.hid hab
        go_enter Tryd.func38, Tryd.ntmps38
        go_wp2_with fail
        refine H.out.mono ?_; rintro e w1 ⟨rfl, hq1⟩
        replace Hb := Lib.hid (Hb.out _ hq1)
        go_wp2_with fail
        refine Hb.out.mono ?_; rintro e w2 ⟨rfl, hq2⟩
        have hq := hq1.trans hq2
        replace H2 := Lib.hid (H2.out _ hq)
        go_wp2_with fail
        refine H2.out.mono ?_; rintro e w3 ⟨r, rfl, ho, hb⟩
        go_wp2
        go_ret2
        exact RI.some hL.out hvE.out ho hq.below.size (btt hq.below hb)
      · have hvE := Lib.hid (show compE a b = 22 by rw [compE, if_neg (fun h => h hz), if_neg (fun h => h hzb), if_pos hab])
        have hL := Lib.hid (show compL a b = [] by rw [compL, hvE.out]; rfl)
        obtain ⟨aa, ac, ab, ao, rfl, ha, hca, hla⟩ := h
        obtain ⟨ba, bc, bb, bo, rfl, hb', hcb, hlb⟩ := h'
        clear ha hb' hca hcb hG hz hzb
        have hab' : ((a.length : Int) != (b.length : Int)) = true := by simp; omega
        go_enter Tryd.func38, Tryd.ntmps38
        go_wp2_with fail
        refine H.out.mono ?_; rintro e w1 ⟨rfl, hq1⟩
        replace Hb := Lib.hid (Hb.out _ hq1)
        go_wp2_with fail
        refine Hb.out.mono ?_; rintro e w2 ⟨rfl, hq2⟩
        have hq := hq1.trans hq2
        go_wp2
        go_ret2
        exact RI.none hL.out hvE.out.symm hq.below
    · obtain ⟨E, hE⟩ : ∃ E, chk b = E := ⟨_, rfl⟩
      have hvE := Lib.hid (show compE a b = E by rw [compE, if_neg (fun h => h hz), if_pos hzb, hE])
      have hL := Lib.hid (show compL a b = [] by rw [compL, hvE.out, ← hE, if_neg hzb])
      rw [hE] at hzb
      simp only [hE] at Hb
      replace Hb := Lib.hid Hb
      have hz' : (E != 0) = true := by simpa using hzb
      clear hz hzb h h' hE
      go_enter Tryd.func38, Tryd.ntmps38
      go_wp2_with fail
      refine H.out.mono ?_; rintro e w1 ⟨rfl, hq1⟩
      replace Hb := Lib.hid (Hb.out _ hq1)
      go_wp2_with fail
      refine Hb.out.mono ?_; rintro e w2 ⟨rfl, hq2⟩
      have hq := hq1.trans hq2
      go_wp2
      go_ret2
      exact RI.none hL.out hvE.out.symm hq.below
  · obtain ⟨E, hE⟩ : ∃ E, chk a = E := ⟨_, rfl⟩
    have hvE := Lib.hid (show compE a b = E by rw [compE, if_pos hz, hE])
    have hL := Lib.hid (show compL a b = [] by rw [compL, hvE.out, ← hE, if_neg hz])
    rw [hE] at H hz
    have hz' : (E != 0) = true := by simpa using hz
    clear hz h hE
    go_enter Tryd.func38, Tryd.ntmps38
    go_wp2_with (go_at_call 20; refine H.out.mono ?_; rintro e w1 ⟨rfl, hq⟩)
    go_ret2
    exact RI.none hL.out hvE.out.symm hq.below
end Go.Proofs.YtpjlaaldepfnkaaDoor

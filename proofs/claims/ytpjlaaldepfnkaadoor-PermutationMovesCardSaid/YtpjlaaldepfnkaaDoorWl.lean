/- The walks of Clone, all, All. -/
import Derived.Test.YtpjlaaldepfnkaaDoorWk
namespace Go.Proofs.YtpjlaaldepfnkaaDoor
open Go.RowKit

theorem und22 : Tryd.prog.underlying 22 = some (.slice 3) := by kernel_rfl

set_option maxRecDepth 100000 in
set_option maxHeartbeats 800000 in
theorem clone {w : World} {B n : Nat} {v : Value} {b : List Int} (h : OI w B v n b) (hn : n ≤ 1000000) :
    Calls Tryd.prog 74 #[v] w fun e w' => ∃ r, e = .returned r ∧ OI w' w.heap.size r n b ∧ Below w.heap.size w w' := by
  have hl := h.length
  rcases h.2 with ⟨rfl, h0⟩ | ⟨g, cap, cur, rfl, _⟩
  · subst h0
    obtain rfl : b = [] := List.length_eq_zero_iff.1 hl
    have hnil := fun w : World => Lib.run_eql_slice_nil (P := Tryd.prog) w 22 3 none 0 0 0 0 und22
    go_enter Tryd.func74, Tryd.ntmps74
    go_wp2
    go_ret
    exact ⟨_, rfl, OI.nil _ _, Below.refl _ _⟩
  · subst hl
    have hnil := fun w : World => Lib.run_eql_slice_nil (P := Tryd.prog) w 22 3 (some ⟨g, 0, none⟩) b.length cap 0 0 und22
    go_enter Tryd.func74, Tryd.ntmps74
    go_wp2_with (at_builtin; refine wpAppManyI (w := w.alloc (.cells #[] 3)) (B := w.heap.size) (xs := []) (n := 0) rfl _ _ rfl rfl (⟨rfl, .inr ⟨w.heap.size, 0, #[], rfl, Nat.le_refl _, heap_alloc_new _ _, Nat.le_refl _, by decide, rfl, rfl⟩⟩) rfl (h.keep ((Below.refl _ _).alloc (Nat.le_refl _) _)) (by omega) (by simp) ?_; intro v2 w2 hv2 _ hb2)
    rw [Nat.zero_add, List.nil_append] at hv2
    go_ret
    exact ⟨_, rfl, hv2, ((Below.refl _ _).alloc (Nat.le_refl _) _).trans hb2⟩

theorem OII.one {w : World} {u : Value} {x : List Int} {B : Nat} (hu : OI w B u x.length x) : OII (w.alloc (.cells #[u] 22)) w.heap.size (.slice (some ⟨w.heap.size, 0, none⟩) 1 1) 1 [x] := by
  refine ⟨[u], ⟨rfl, .inr ⟨w.heap.size, 1, _, rfl, Nat.le_refl _, heap_alloc_new _ _, Nat.le_refl _, by decide, rfl, rfl⟩⟩, rfl, ?_, ?_⟩
  · intro y hy; rw [List.mem_singleton.1 hy]; exact oneCell_slice hu
  · intro j hj
    obtain rfl : j = 0 := by omega
    exact (hu.keep ((Below.refl _ _).alloc (Nat.le_refl _) _)).base (Nat.zero_le _)

set_option maxRecDepth 100000 in
set_option maxHeartbeats 1600000 in
theorem allRec (n : Nat) (hn : n ≤ 5) (f : Nat) : ∀ (b : List Int) (v : Value) (w : World), b.length + f = n → OI w 0 v b.length b →
    Calls Tryd.prog 61 #[.int .i64 n, v] w fun e w' => ∃ r, e = .returned r ∧ OII w' w.heap.size r (furF n f b).length (furF n f b) ∧ Below w.heap.size w w' := by
  induction f with
  | zero =>
    intro b v w hbn hv
    have H := Lib.hid (clone hv (by omega))
    have hi := hv.ints (by omega)
    obtain ⟨a, c, bb, off, rfl, ha, hc, hl⟩ := hi
    have he : ((b.length : Int) == (n : Int)) = true := by simp; omega
    clear ha hc
    replace hbn := Lib.hid hbn
    go_enter Tryd.func61, Tryd.ntmps61
    go_wp2_with (go_at_call 74; refine H.out.mono ?_; rintro e w1 ⟨r, rfl, ho, hb⟩; obtain ⟨a1, c1, rfl⟩ := ho.shape)
    go_ret
    exact ⟨_, rfl, (OII.one ho).base hb.size, hb.alloc hb.size _⟩
  | succ f ih =>
    intro b v w hbn hv
    have hi := hv.ints (by omega)
    have hi0 := hi
    obtain ⟨a, c, bb, off, rfl, ha, hc, hl⟩ := hi
    have he : ((b.length : Int) == (n : Int)) = false := by simp; omega
    have hb5 : b.length ≤ 5 := by omega
    have hf5 : f ≤ 5 := by omega
    clear ha hc
    replace hbn := Lib.hid hbn
    replace ih := Lib.hid ih
    go_enter Tryd.func61, Tryd.ntmps61
    go_wp2
    go_loopw [5, 15] (fun o i wr => ∃ k : Nat, k ≤ n ∧ i = .int .i64 k ∧ OII wr w.heap.size o (furK n f b k).length (furK n f b k) ∧ Below w.heap.size w wr) (fun _ i _ => n - (intOf i).toNat)
    case atStart => exact ⟨0, by omega, rfl, OII.nil _ _, Below.refl _ _⟩
    case round =>
      obtain ⟨k, hk, rfl, ho, hb⟩ := hrel
      have hbs := hb.size
      by_cases hlt : k < n
      · have H1 := Lib.hid (slContains (k : Int) (hi0.keep hb))
        have e1 := Lib.hid (furK_succ n f b k)
        have hle := furK_le n f 3125 (fun b => furF_small n f hn hf5 b) b k
        have hle2 := furF_small n f hn hf5 (b ++ [(k : Int)])
        by_cases hm : (k : Int) ∈ b
        · rw [show hasB b k = true by simp [hasB, hm]] at H1
          rw [if_pos hm, List.append_nil] at e1
          clear hm hle hle2
          go_wp2_with (go_at_call 75; refine H1.out.mono ?_; rintro e w1 ⟨rfl, hq⟩)
          go_roundw
          case rel => exact ⟨k + 1, by omega, by go_num, by rw [e1.out]; exact ho.keep hq.below, hb.trans (hq.belowB _)⟩
          case measure => simp [intOf]; omega
        · rw [show hasB b k = false by simp [hasB, hm]] at H1
          rw [if_neg hm] at e1
          clear hm
          have hlb := Lib.hid (show (b ++ [(k : Int)]).length = b.length + 1 by simp)
          go_wp2_with (first | (go_at_call 75; refine H1.out.mono ?_; rintro e w1 ⟨rfl, hq⟩; have hb1 := hb.trans (hq.belowB w.heap.size); replace ho := ho.keep hq.below; have HC := Lib.hid (clone (hv.keep hb1) (by omega)); clear hq hb hbs H1) | (go_at_call 74; refine HC.out.mono ?_; rintro e w2 ⟨v2, rfl, hv2, hb2⟩; have hs2 := hb2.size; clear HC) | (at_builtin; refine wpAppI rfl _ _ rfl rfl hv2 rfl (by omega) hs2 ?_; intro v3 w3 hv3 _ hb4; rw [← hlb.out] at hv3; have hb24 := hb2.trans hb4; replace ho := ho.keep hb24; have hb5 := bt hb1 hb24 hb1.size; have H2 := Lib.hid (ih.out (b ++ [(k : Int)]) v3 w3 (by have := hbn.out; have := hlb.out; omega) (hv3.base (Nat.zero_le _))); clear hb1 hb2 hb4 hb24 hv2 hs2) | (go_at_call 61; refine H2.out.mono ?_; rintro e w4 ⟨r4, rfl, ho4, hb6⟩; replace ho := ho.keep hb6; have hb7 := bt hb5 hb6 hb5.size; have hb7s := hb7.size; clear hb5 hb6 hv3 H2) | (at_builtin; refine wpAppManyS rfl _ _ rfl rfl ho rfl ho4 (by omega) hb7s ?_; intro v5 w5 ho5 hb8 _; have hb9 := hb7.trans hb8; clear hb7 hb8 ho ho4))
          go_roundw
          case rel => exact ⟨k + 1, by omega, by go_num, by rw [e1.out, List.length_append]; exact ho5, hb9⟩
          case measure => simp [intOf]; omega
      · obtain rfl : k = n := by omega
        go_wp2
        go_ret
        exact ⟨_, rfl, ho, hb⟩

set_option maxRecDepth 100000 in
set_option maxHeartbeats 800000 in
theorem allCall (n : Int) (w : World) : Calls Tryd.prog 34 #[.int .i64 n] w (RII w (allL n) (numE n)) := by
  have H := Lib.hid (number n w)
  by_cases hz : numE n = 0
  · obtain ⟨k, rfl⟩ : ∃ k : Nat, n = k := ⟨n.toNat, by unfold numE at hz; split at hz <;> omega⟩
    have hk : k ≤ 5 := by unfold numE at hz; split at hz <;> omega
    have hL := Lib.hid (show allL k = everyL k by rw [allL, if_pos hz]; rfl)
    rw [hz] at H
    replace hz := Lib.hid hz
    have H2 := Lib.hid (allRec k hk k [] (.slice none 0 0) w (by simp) (OI.nil _ _))
    go_enter Tryd.func34, Tryd.ntmps34
    go_wp2_with (first | (go_at_call 53; refine H.out.mono ?_; rintro e w1 ⟨rfl, rfl⟩) | (go_at_call 61; refine H2.out.mono ?_; rintro e w2 ⟨r, rfl, ho, hb⟩))
    go_ret2
    exact RII.some hL.out hz.out ho (Nat.le_refl _) hb
  · obtain ⟨E, hE⟩ : ∃ E, numE n = E := ⟨_, rfl⟩
    have hL := Lib.hid (show allL n = [] by rw [allL, if_neg hz])
    rw [hE] at H hz
    replace hE := Lib.hid hE
    have hz' : (E != 0) = true := by simpa using hz
    clear hz
    go_enter Tryd.func34, Tryd.ntmps34
    go_wp2_with fail
    refine H.out.mono ?_; rintro e w1 ⟨rfl, rfl⟩
    go_wp2
    go_ret2
    exact RII.none hL.out hE.out.symm (Below.refl _ _)
end Go.Proofs.YtpjlaaldepfnkaaDoor

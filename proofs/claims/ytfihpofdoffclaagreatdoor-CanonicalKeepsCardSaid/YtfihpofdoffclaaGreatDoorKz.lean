/- Texts of this claim, put together: VB VC VD S0 V0. -/
import Derived.Test.YtfihpofdoffclaaGreatDoorKy
import Derived.Deep.RegionWith
import Derived.Test.YtfihpofdoffclaaGreatDoorKv
import Derived.Test.YtfihpofdoffclaaGreatDoorKt

/- slices.Sort of few ints. -/
namespace Go.Proofs.YtfihpofdoffclaaGreatDoor
open Go.RowKit

theorem nanI (x : Int) (w : World) : Calls Tryz.prog 139 #[.int .i64 x] w fun e w' => e = .returned (.bool false) ∧ w' = w := by
  have h : (x != x) = false := by simp
  go_enter Tryz.func139, Tryz.ntmps139
  go_wp2
  go_ret
  exact ⟨rfl, rfl⟩
theorem lessI (x y : Int) (w : World) : Calls Tryz.prog 115 #[.int .i64 x, .int .i64 y] w fun e w' => e = .returned (.bool (decide (x < y))) ∧ w' = w := by
  go_enter Tryz.func115, Tryz.ntmps115
  go_wp2_with (go_at_call 139; refine (nanI _ _).mono ?_; rintro e w2 ⟨rfl, hw2⟩; replace hw2 := hw2.symm; subst hw2)
  go_ret
  exact ⟨rfl, rfl⟩
def swL (xs : List Int) (j : Nat) : List Int := (xs.set j (xs.getD (j - 1) 0)).set (j - 1) (xs.getD j 0)
theorem swL_at {xs : List Int} {j : Nat} (hj : j < xs.length) (h0 : 0 < j) (b : Nat) : (swL xs j).getD b 0 = if b = j - 1 then xs.getD j 0 else if b = j then xs.getD (j - 1) 0 else xs.getD b 0 := by
  simp only [swL, List.getD_eq_getElem?_getD, List.getElem?_set, List.length_set]
  by_cases h1 : j - 1 = b
  · rw [if_pos h1, if_pos (by omega), if_pos h1.symm]; rfl
  · rw [if_neg h1, if_neg (show ¬ b = j - 1 from fun e => h1 e.symm)]
    by_cases h2 : j = b
    · rw [if_pos h2, if_pos (by omega), if_pos h2.symm]; rfl
    · rw [if_neg h2, if_neg (show ¬ b = j from fun e => h2 e.symm)]
theorem swL_mem {xs : List Int} {j : Nat} (hj : j < xs.length) (h0 : 0 < j) (x : Int) : x ∈ swL xs j ↔ x ∈ xs := by
  have h1 : j - 1 < xs.length := by omega
  have h := List.set_set_perm hj h1
  rw [← getD_eq hj 0, ← getD_eq h1 0] at h
  exact h.mem_iff
/-- Sorted up to i but for the number at j. -/
def SrtB (xs : List Int) (i j : Nat) : Prop := ∀ a b, a < b → b ≤ i → b ≠ j → xs.getD a 0 ≤ xs.getD b 0
theorem SrtB.step {xs : List Int} {i j : Nat} (h : SrtB xs i j) (hi : i < xs.length) (hj : j ≤ i) (h0 : 0 < j) (hlt : xs.getD j 0 < xs.getD (j - 1) 0) : SrtB (swL xs j) i (j - 1) := fun a b hab hb hne => by
  rw [swL_at (by omega) h0, swL_at (by omega) h0]
  have h1 := fun a b => h a b
  by_cases hb2 : b = j
  · subst hb2
    rw [if_neg (by omega : ¬ b = b - 1), if_pos rfl]
    by_cases ha : a = b - 1
    · rw [if_pos ha]; omega
    · rw [if_neg ha, if_neg (by omega)]
      exact h1 a (b - 1) (by omega) (by omega) (by omega)
  · rw [if_neg hne, if_neg hb2]
    by_cases ha : a = j - 1
    · rw [if_pos ha]; exact h1 j b (by omega) hb hb2
    · rw [if_neg ha]
      by_cases ha2 : a = j
      · rw [if_pos ha2]; exact h1 (j - 1) b (by omega) hb hb2
      · rw [if_neg ha2]; exact h1 a b hab hb hb2
/-- Sorted up to i. -/
def Srt (xs : List Int) (i : Nat) : Prop := ∀ a b, a < b → b ≤ i → xs.getD a 0 ≤ xs.getD b 0
theorem SrtB.done {xs : List Int} {i j : Nat} (h : SrtB xs i j) (hj : j ≤ i) (he : j = 0 ∨ ¬ xs.getD j 0 < xs.getD (j - 1) 0) : Srt xs i := fun a b hab hb => by
  by_cases hbj : b = j
  · subst hbj
    rcases he with rfl | he
    · omega
    · by_cases ha : a = b - 1
      · subst ha; omega
      · have := h a (b - 1) (by omega) (by omega) (by omega)
        omega
  · exact h a b hab hb hbj
theorem Srt.start {xs : List Int} {i : Nat} (h : Srt xs i) : SrtB xs (i + 1) (i + 1) := fun a b hab hb hne => h a b hab (by omega)
end Go.Proofs.YtfihpofdoffclaaGreatDoor

/- slices.Sort of few ints: the walk. -/
namespace Go.Proofs.YtfihpofdoffclaaGreatDoor
open Go.RowKit

set_option maxRecDepth 100000 in
set_option maxHeartbeats 3200000 in
theorem insertionI {w : World} {B g n cap : Nat} {xs : List Int} (h : OI w B (.slice (some ⟨g, 0, none⟩) n cap) n xs) (hn0 : 0 < n) (hn : n ≤ 1000) :
    Calls Tryz.prog 109 #[.slice (some ⟨g, 0, none⟩) n cap, .int .i64 0, .int .i64 (n : Int)] w fun e w' => e = .returned (.tuple #[]) ∧ ∃ ys, OI w' B (.slice (some ⟨g, 0, none⟩) n cap) n ys ∧ (∀ x, x ∈ ys ↔ x ∈ xs) ∧ Srt ys (n - 1) ∧ Below B w w' := by
  have hgB := h.ge
  have hmx : Tryz.prog.follows .mixedOrders = true := by kernel_rfl
  have hs0 : Hid (Srt xs (1 - 1)) := fun a b hab hb => by omega
  have hw1 : IntKind.i64.wrap 1 = 1 := by decide
  go_enter Tryz.func109, Tryz.ntmps109
  go_wp2_with fail
  go_loopw [6] (fun iv wr => ∃ (i : Nat) (ys : List Int), iv = .int .i64 i ∧ 1 ≤ i ∧ i ≤ n ∧ OI wr B (.slice (some ⟨g, 0, none⟩) n cap) n ys ∧ Hid (∀ x, x ∈ ys ↔ x ∈ xs) ∧ Hid (Srt ys (i - 1)) ∧ Below B w wr) (fun iv _ => n - (intOf iv).toNat)
  case atStart => exact ⟨1, xs, rfl, by omega, by omega, h, fun _ => Iff.rfl, hs0, Below.refl _ _⟩
  case round =>
    clear h hs0
    obtain ⟨i, ys, rfl, hi1, hi, hO, hm, hs, hbr⟩ := hrel
    by_cases hlt : i < n
    · have hii : (i : Int) < (n : Int) := by omega
      have hsb : Hid (SrtB ys i i) := by
        obtain ⟨t, rfl⟩ : ∃ t, i = t + 1 := ⟨i - 1, by omega⟩
        exact Srt.start hs.out
      go_wp2_with fail
      go_loopw [7] (fun jv wr => ∃ (j : Nat) (ys : List Int), jv = .int .i64 j ∧ j ≤ i ∧ OI wr B (.slice (some ⟨g, 0, none⟩) n cap) n ys ∧ Hid (∀ x, x ∈ ys ↔ x ∈ xs) ∧ Hid (SrtB ys i j) ∧ Below B w wr) (fun jv _ => (intOf jv).toNat)
      case atStart => exact ⟨i, ys, rfl, by omega, hO, hm, hsb, hbr⟩
      case round =>
        clear hsb hO hm hs hbr
        obtain ⟨j, ys, rfl, hj, hO, hm, hsb, hbr⟩ := hrel
        have hyl := hO.length
        by_cases hj0 : j = 0
        · have hd : decide (0 < j) = false := decide_eq_false (by omega)
          have hsf : Hid (Srt ys (i + 1 - 1)) := by
            show Srt ys (i + 1 - 1)
            rw [Nat.add_sub_cancel]
            exact hsb.out.done hj (.inl hj0)
          clear hj0
          go_wp2_with fail
          go_quiet (fail)
          go_wp2
          go_roundw
          case rel => exact ⟨i + 1, ys, by go_num, by omega, hlt, (hO.keep (below_drewN (Below.refl _ _) _)), hm, hsf, below_drewN hbr _⟩
          case measure => simp [intOf]; omega
        · obtain ⟨t, rfl⟩ : ∃ t, j = t + 1 := ⟨j - 1, by omega⟩
          have hd : decide (0 < t + 1) = true := decide_eq_true (by omega)
          have hdI : decide ((0 : Int) < (t : Int) + 1) = true := decide_eq_true (by omega)
          have htn : t < n := by omega
          have htn1 : t + 1 < n := by omega
          have hx1 : (t : Int) + 1 < (n : Int) := by omega
          have hx0 : (0 : Int) ≤ (t : Int) + 1 := by omega
          have hx3 : (t : Int) < (n : Int) := by omega
          have hx2 : (0 : Int) ≤ (t : Int) := by omega
          have hwr : IntKind.i64.wrap ((t : Int) + 1 - 1) = (t : Int) := by rw [show (t : Int) + 1 - 1 = (t : Int) by omega]; exact IntWalk.i64_in _ (by omega)
          have hwr2 : IntKind.i64.wrap (t : Int) = (t : Int) := IntWalk.i64_in _ (by omega)
          have htn2 : ((t : Int) + 1).toNat = t + 1 := by omega
          have c1 := hO.cell htn1
          have c0 := hO.cell htn
          obtain ⟨a, ha⟩ : ∃ a, ys.getD (t + 1) 0 = a := ⟨_, rfl⟩
          obtain ⟨b, hb⟩ : ∃ b, ys.getD t 0 = b := ⟨_, rfl⟩
          rw [ha] at c1
          rw [hb] at c0
          by_cases hab : a < b
          · have hab1 : decide (a < b) = true := decide_eq_true hab
            have hsw : Hid (SrtB (swL ys (t + 1)) i t) := by
              have := SrtB.step hsb.out (by omega) hj (by omega) (by rw [ha, Nat.add_sub_cancel, hb]; exact hab)
              rwa [Nat.add_sub_cancel] at this
            have hmw : Hid (∀ x, x ∈ swL ys (t + 1) ↔ x ∈ xs) := fun x => (swL_mem (by omega) (by omega) x).trans (hm.out x)
            have hO2 := Lib.hid (fun W (hb : Below wr.heap.size wr W) => hO.keep hb)
            have f0 := hO.free t
            have f1 := hO.free (t + 1)
            clear hsb hm hab
            go_wp2_with fail
            go_quiet ((go_at_call 115; exact Calls.quiet_of_same (lessI _ _ _)))
            go_wp2_with fail
            go_region_with (fail)
            all_goals
              have hfO : OI (((wr.drewN (nq + 1)).setCell ⟨g, t + 1, none⟩ (.int .i64 b)).setCell ⟨g, t, none⟩ (.int .i64 a)) B (.slice (some ⟨g, 0, none⟩) n cap) n (swL ys (t + 1)) := by
                have h1 := (((hO.keep (below_drewN (Below.refl wr.heap.size wr) (nq + 1))).store (t + 1) b).1.store t a).1
                have h2 : (ys.set (t + 1) b).set t a = swL ys (t + 1) := by rw [swL, Nat.add_sub_cancel, ha, hb]
                rw [← h2]; exact h1
              have hfB := ((below_drewN hbr (nq + 1)).setCell (p := ⟨g, t + 1, none⟩) hgB (.int .i64 b)).setCell (p := ⟨g, t, none⟩) hgB (.int .i64 a)
              replace hfO := Lib.hid hfO
              replace ha := Lib.hid ha
              replace hb := Lib.hid hb
              clear hO
              go_wp2
              go_roundw
              case rel => exact ⟨t, swL ys (t + 1), rfl, by omega, hfO.out, hmw, hsw, hfB⟩
              case measure => simp [intOf]
          · have hab1 : decide (a < b) = false := decide_eq_false hab
            have hsf : Hid (Srt ys (i + 1 - 1)) := by
              show Srt ys (i + 1 - 1)
              rw [Nat.add_sub_cancel]
              exact hsb.out.done hj (.inr (by rw [ha, Nat.add_sub_cancel, hb]; exact hab))
            clear hsb hab
            go_wp2_with fail
            go_quiet ((go_at_call 115; exact Calls.quiet_of_same (lessI _ _ _)))
            go_wp2
            go_roundw
            case rel => exact ⟨i + 1, ys, by go_num, by omega, hlt, (hO.keep (below_drewN (Below.refl _ _) _)), hm, hsf, below_drewN hbr _⟩
            case measure => simp [intOf]; omega
    · obtain rfl : i = n := by omega
      have hge : ¬ ((i : Int) < (i : Int)) := by omega
      go_wp2
      go_end0
      exact ⟨rfl, ys, hO, hm.out, hs.out, hbr⟩
set_option maxRecDepth 100000 in
set_option maxHeartbeats 1600000 in
theorem pdqI {w : World} {B g n cap : Nat} {xs : List Int} (h : OI w B (.slice (some ⟨g, 0, none⟩) n cap) n xs) (hn0 : 0 < n) (hn : n ≤ 12) (lim : Value) :
    Calls Tryz.prog 75 #[.slice (some ⟨g, 0, none⟩) n cap, .int .i64 0, .int .i64 (n : Int), lim] w fun e w' => e = .returned (.tuple #[]) ∧ ∃ ys, OI w' B (.slice (some ⟨g, 0, none⟩) n cap) n ys ∧ (∀ x, x ∈ ys ↔ x ∈ xs) ∧ Srt ys (n - 1) ∧ Below B w w' := by
  have hI := Lib.hid (insertionI h hn0 (by omega))
  have hwn : IntKind.i64.wrap (n : Int) = (n : Int) := IntWalk.i64_in _ (by omega)
  have hd : decide ((n : Int) ≤ 12) = true := decide_eq_true (by omega)
  go_enter Tryz.func75, Tryz.ntmps75
  go_wp2_with fail
  refine wp_loop_once ?_
  go_wp2_with fail
  refine hI.out.mono ?_
  rintro e w2 ⟨rfl, hR⟩
  replace hR := Lib.hid hR
  go_wp2
  refine bodyPost_ret (results_none rfl _ _ _) rfl ?_
  exact ⟨rfl, hR.out⟩
end Go.Proofs.YtfihpofdoffclaaGreatDoor

/- slices.Sort of few ints. -/
namespace Go.Proofs.YtfihpofdoffclaaGreatDoor
open Go.RowKit

set_option maxRecDepth 100000 in
set_option maxHeartbeats 3200000 in
theorem len64 {n : Nat} (hn : n ≤ 8) (w : World) : Calls Tryz.prog 119 #[.int .u64 (n : Int)] w fun e w' => ∃ k : Int, e = .returned (.int .i64 k) ∧ w' = w := by
  rcases (by omega : n = 0 ∨ n = 1 ∨ n = 2 ∨ n = 3 ∨ n = 4 ∨ n = 5 ∨ n = 6 ∨ n = 7 ∨ n = 8) with rfl | rfl | rfl | rfl | rfl | rfl | rfl | rfl | rfl
  all_goals
    go_enter Tryz.func119, Tryz.ntmps119
    go_wp2
    go_ret
    exact ⟨_, rfl, rfl⟩
theorem lenN {n : Nat} (hn : n ≤ 8) (w : World) : Calls Tryz.prog 76 #[.int .u64 (n : Int)] w fun e w' => ∃ k : Int, e = .returned (.int .i64 k) ∧ w' = w := by
  have h5 : IntKind.u64.wrap (n : Int) = (n : Int) := by rw [IntKind.wrap_u64]; omega
  go_enter Tryz.func76, Tryz.ntmps76
  go_wp2_with fail
  refine (len64 hn w).mono ?_
  rintro e w2 ⟨k, rfl, hw2⟩
  replace hw2 := hw2.symm
  subst hw2
  go_wp2
  go_ret
  exact ⟨_, rfl, rfl⟩
set_option maxRecDepth 100000 in
set_option maxHeartbeats 1600000 in
theorem sortI {w : World} {B g n cap : Nat} {xs : List Int} (h : OI w B (.slice (some ⟨g, 0, none⟩) n cap) n xs) (hn0 : 0 < n) (hn : n ≤ 8) :
    Calls Tryz.prog 41 #[.slice (some ⟨g, 0, none⟩) n cap] w fun e w' => e = .returned (.tuple #[]) ∧ ∃ ys, OI w' B (.slice (some ⟨g, 0, none⟩) n cap) n ys ∧ (∀ x, x ∈ ys ↔ x ∈ xs) ∧ Srt ys (n - 1) ∧ Below B w w' := by
  have h5 : IntKind.u64.wrap (n : Int) = (n : Int) := by rw [IntKind.wrap_u64]; omega
  have hP := Lib.hid (fun lim => pdqI h hn0 (by omega) lim)
  have hL := Lib.hid (lenN hn w)
  go_enter Tryz.func41, Tryz.ntmps41
  go_wp2_with fail
  refine hL.out.mono ?_
  rintro e w2 ⟨k, rfl, hw2⟩
  replace hw2 := hw2.symm
  subst hw2
  go_wp2_with fail
  refine (hP.out _).mono ?_
  rintro e w2 ⟨rfl, hR⟩
  replace hR := Lib.hid hR
  go_wp2
  first
    | go_end0
    | refine bodyPost_ret (results_none rfl _ _ _) rfl ?_
  exact ⟨rfl, hR.out⟩
end Go.Proofs.YtfihpofdoffclaaGreatDoor

/- The reference: Reached and Number. -/
namespace Go.Proofs.YtfihpofdoffclaaGreatDoor
open Go.RowKit

/-- A row of bools that was made since block B. -/
def OB (w : World) (B : Nat) (v : Value) (n : Nat) (xs : List Bool) : Prop := w.ownsRow B 4 1 v n (xs.map Value.bool)
theorem OB.length {w : World} {B : Nat} {v : Value} {n : Nat} {xs : List Bool} (h : OB w B v n xs) : xs.length = n := by have := h.1; simpa using this
theorem OB.keep {w w' : World} {B : Nat} {v : Value} {n : Nat} {xs : List Bool} (h : OB w B v n xs) (hb : Below w.heap.size w w') : OB w' B v n xs := by
  refine ⟨h.1, ?_⟩
  rcases h.2 with h' | ⟨g, cap, cur, h1, h2, h3, h4⟩
  · exact .inl h'
  · exact .inr ⟨g, cap, cur, h1, h2, (hb.block g (Array.getElem?_eq_some_iff.1 h3).1).trans h3, h4⟩
theorem OB.base {w : World} {B B' : Nat} {v : Value} {n : Nat} {xs : List Bool} (h : OB w B v n xs) (hb : B' ≤ B) : OB w B' v n xs := by
  refine ⟨h.1, ?_⟩
  rcases h.2 with h' | ⟨g, cap, cur, h1, h2, h3⟩
  · exact .inl h'
  · exact .inr ⟨g, cap, cur, h1, by omega, h3⟩
theorem OB.store {w : World} {B g n cap : Nat} {xs : List Bool} (h : OB w B (.slice (some ⟨g, 0, none⟩) n cap) n xs) (j : Nat) (y : Bool) :
    OB (w.setCell ⟨g, j, none⟩ (.bool y)) B (.slice (some ⟨g, 0, none⟩) n cap) n (xs.set j y) := by
  have := (World.ownsRow.stored h j (.bool y)).1
  unfold OB
  rw [List.map_set]
  exact this
theorem OB.cell {w : World} {B g n cap : Nat} {xs : List Bool} (h : OB w B (.slice (some ⟨g, 0, none⟩) n cap) n xs) {j : Nat} (hj : j < n) : w.cell? ⟨g, j, none⟩ = some (.bool (xs.getD j false)) := by
  have hl := h.length
  rw [World.ownsRow.cellAt h j (by omega)]
  simp [show j < xs.length by omega]
theorem OB.free {w : World} {B g n cap : Nat} {xs : List Bool} (h : OB w B (.slice (some ⟨g, 0, none⟩) n cap) n xs) (j : Nat) : w.frozen? ⟨g, j, none⟩ = false := World.ownsRow.frozenAt h j
theorem OB.shape {w : World} {B : Nat} {v : Value} {n : Nat} {xs : List Bool} (h : OB w B v n xs) : ∃ a c, v = .slice a n c := by
  rcases h.2 with ⟨rfl, rfl⟩ | ⟨g, cap, cur, rfl, _⟩
  · exact ⟨_, _, rfl⟩
  · exact ⟨_, _, rfl⟩
theorem OB.form {w : World} {B : Nat} {v : Value} {n : Nat} {xs : List Bool} (h : OB w B v n xs) (hn : 0 < n) : ∃ g cap, v = .slice (some ⟨g, 0, none⟩) n cap ∧ B ≤ g := by
  rcases h.2 with ⟨_, h'⟩ | ⟨g, cap, cur, rfl, hb, _⟩
  · first | omega | (rw [h'] at hn; omega)
  · exact ⟨g, cap, rfl, hb⟩
end Go.Proofs.YtfihpofdoffclaaGreatDoor

/- The numbers of words: the reference's Number. -/
namespace Go.Proofs.YtfihpofdoffclaaGreatDoor
open Go.RowKit

def stM (L : Nat) (prev : List Nat) (ms : List (List Int)) : Nat := ms.foldl (fun acc m => min (acc + prev.getD (mvTo m) 0) L) 0
/-- The numbers of words of so many rounds, cut off at L. -/
def numL (ss : List (List (List Int))) (L : Nat) : Nat → List Nat
  | 0 => List.replicate ss.length 1
  | k + 1 => ss.map (stM L (numL ss L k))
theorem numL_len (ss : List (List (List Int))) (L : Nat) : ∀ k, (numL ss L k).length = ss.length
  | 0 => by simp [numL]
  | k + 1 => by simp [numL]
/-- The number of words. -/
def cnt (ss : List (List (List Int))) : Nat → Nat → Nat
  | 0, _ => 1
  | k + 1, s => ((ss.getD s []).map fun m => cnt ss k (mvTo m)).sum
theorem fold_min (L : Nat) (f g : List Int → Nat) : ∀ (ms : List (List Int)) (a : Nat), (∀ m ∈ ms, g m = min (f m) L) → ms.foldl (fun acc m => min (acc + g m) L) (min a L) = min (a + (ms.map f).sum) L
  | [], a, _ => by simp
  | m :: r, a, h => by
    rw [List.foldl_cons, h m (by simp), List.map_cons, List.sum_cons]
    have := fold_min L f g r (a + f m) (fun x hx => h x (by simp [hx]))
    rw [show min (min a L + min (f m) L) L = min (a + f m) L by omega, this, Nat.add_assoc]
theorem numL_cnt {ss : List (List (List Int))} (hM : LeadOK ss) {L : Nat} (hL : 1 ≤ L) : ∀ (k s : Nat), s < ss.length → (numL ss L k).getD s 0 = min (cnt ss k s) L
  | 0, s, hs => by
    rw [numL, cnt, List.getD_eq_getElem?_getD, List.getElem?_replicate, if_pos hs]; simp; omega
  | k + 1, s, hs => by
    rw [numL, cnt, List.getD_eq_getElem?_getD, List.getElem?_map, List.getElem?_eq_getElem hs, Option.map_some, Option.getD_some, stM]
    have h1 : ss.getD s [] = ss[s] := getD_eq hs []
    rw [h1]
    have h2 := fold_min L (fun m => cnt ss k (mvTo m)) (fun m => (numL ss L k).getD (mvTo m) 0) ss[s] 0 (fun m hm => by
      have h3 := hM _ (List.getElem_mem hs) m hm
      have h4 : mvTo m < ss.length := by unfold mvTo; omega
      exact numL_cnt hM hL k (mvTo m) h4)
    rw [Nat.zero_add, Nat.zero_min] at h2
    exact h2
theorem stM_le (L : Nat) (prev : List Nat) (ms : List (List Int)) : stM L prev ms ≤ L := by
  have h : ∀ (ms : List (List Int)) (a : Nat), a ≤ L → ms.foldl (fun acc m => min (acc + prev.getD (mvTo m) 0) L) a ≤ L := by
    intro ms
    induction ms with
    | nil => intro a h; exact h
    | cons m r ih => intro a _; exact ih _ (Nat.min_le_right _ _)
  exact h ms 0 (Nat.zero_le _)
theorem numL_le (ss : List (List (List Int))) {L : Nat} (hL : 1 ≤ L) : ∀ (k j : Nat), (numL ss L k).getD j 0 ≤ L
  | 0, j => by rw [numL, List.getD_eq_getElem?_getD, List.getElem?_replicate]; split <;> simp <;> omega
  | k + 1, j => by
    rw [numL, List.getD_eq_getElem?_getD, List.getElem?_map]
    cases ss[j]? with
    | none => simp
    | some ms => exact stM_le _ _ _

set_option maxRecDepth 100000 in
set_option maxHeartbeats 6400000 in
theorem refNum {w : World} {v : Value} {n : Int} {ss : List (List (List Int))} (hA : AdvV w v n ss) (hM : LeadOK ss) (h0 : 0 < ss.length) (hl : ss.length ≤ 90) {k L : Nat} {lim : Int} (hk : k ≤ 100) (hL : lim + 1 = (L : Int)) (hL1 : 1 ≤ L) (hL9 : L ≤ 1000000) :
    Calls Tryz.prog 71 #[v, .int .i64 (k : Int), .int .i64 lim] w fun e w' => e = .returned (.int .i64 ((numL ss L k).getD 0 0 : Nat)) ∧ Below w.heap.size w w' := by
  obtain ⟨sv, rfl, sa, sc, sb, so, rfl, hsa, hsc, _⟩ := hA
  obtain rfl := hsa h0
  obtain ⟨W1, hW1⟩ : ∃ W1, W1 = w.alloc (.cells #[.int .i64 n, .slice (some ⟨sb, so, none⟩) ss.length sc] 24) := ⟨_, rfl⟩
  obtain ⟨hb1, p0, p1, _⟩ := boxAdv hW1
  obtain ⟨N, hN⟩ : ∃ N, ss.length = N := ⟨_, rfl⟩
  have hwL : IntKind.i64.wrap (lim + 1) = (L : Int) := by rw [hL]; exact IntWalk.i64_in _ (by omega)
  have hwL2 : IntKind.i64.wrap (L : Int) = (L : Int) := IntWalk.i64_in _ (by omega)
  replace hsc : ∀ j, j < ss.length → ∃ u, w.cell? ⟨sb, so + j, none⟩ = some u ∧ KS 8 w u (ss.getD j []) := hsc
  rw [hN] at h0 hl p1 hW1 hsc ⊢
  have hnl : OI W1 W1.heap.size (.slice none 0 0) 0 (natI (List.replicate 0 1)) := OI.nil _ _
  replace hsc := Lib.hid hsc
  replace hN := Lib.hid hN
  replace hL := Lib.hid hL
  have hMt : Hid (∀ j, j < N → ∀ m ∈ ss.getD j [], 0 ≤ m.getD 7 0 ∧ m.getD 7 0 < (N : Int)) := fun j hj m hm => by
    have hjs : j < ss.length := by rw [hN.out]; exact hj
    have := hM _ (by rw [getD_eq hjs]; exact List.getElem_mem hjs) m hm
    rw [hN.out] at this; exact this
  clear hM
  obtain ⟨Z, hZ⟩ : ∃ Z, (numL ss L k).getD 0 0 = Z := ⟨_, rfl⟩
  rw [hZ]
  replace hZ := Lib.hid hZ
  go_enter Tryz.func71, Tryz.ntmps71
  go_wp2_with fail
  rw [← hW1]
  replace hW1 := Lib.hid hW1
  go_loopw [7, 8] (fun lv iv wr => ∃ i : Nat, iv = .int .i64 i ∧ i ≤ N ∧ OI wr W1.heap.size lv i (natI (List.replicate i 1)) ∧ Below W1.heap.size W1 wr) (fun _ iv _ => N - (intOf iv).toNat)
  case atStart => exact ⟨0, rfl, by omega, hnl, Below.refl _ _⟩
  case round =>
    clear hnl
    obtain ⟨i, rfl, hi, hO, hbr⟩ := hrel
    have c1 := cell_kept hbr p1
    obtain ⟨la, lc, hls⟩ := hO.shape
    subst hls
    by_cases hlt : i < N
    · have hii : (i : Int) < (N : Int) := by omega
      have hr1 : natI (List.replicate i 1) ++ [(1 : Int)] = natI (List.replicate (i + 1) 1) := by
        rw [natI, natI, List.replicate_succ', List.map_append]; rfl
      replace hr1 := Lib.hid hr1
      go_wp2_with (at_builtin; refine wpAppI rfl _ _ rfl rfl hO rfl (by omega) hbr.size ?_)
      intro v2 w2 ho2 hg2 hb2
      rw [hr1.out] at ho2
      have hbf := hbr.trans hb2
      go_wp2
      go_roundw
      case rel => exact ⟨i + 1, by go_num, hlt, ho2, hbf⟩
      case measure => simp [intOf]; omega
    · obtain rfl : i = N := by omega
      have hii : ¬ ((i : Int) < (i : Int)) := by omega
      have hO0 : OI wr W1.heap.size (.slice la i lc) i (natI (numL ss L 0)) := by rw [numL, hN.out]; exact hO
      clear hO
      go_wp2_with fail
      obtain ⟨wa, hwa⟩ : ∃ wa, wa = wr := ⟨_, rfl⟩
      subst hwa
      obtain ⟨N, hNi⟩ : ∃ N, i = N := ⟨_, rfl⟩
      subst hNi
      go_loopw [7, 9] (fun lv iv wr => ∃ j : Nat, iv = .int .i64 j ∧ j ≤ k ∧ OI wr W1.heap.size lv i (natI (numL ss L j)) ∧ Below W1.heap.size W1 wr) (fun _ iv _ => k - (intOf iv).toNat)
      case atStart => exact ⟨0, rfl, by omega, hO0, hbr⟩
      case round =>
        clear hO0 hbr c1
        obtain ⟨r, rfl, hr, hO, hbr⟩ := hrel
        have c1 := cell_kept hbr p1
        obtain ⟨g, gc, hgs, hgb⟩ := hO.form h0
        subst hgs
        by_cases hltr : r < k
        · have hri : (r : Int) < (k : Int) := by omega
          obtain ⟨P, hP⟩ : ∃ P, numL ss L r = P := ⟨_, rfl⟩
          have hPl : P.length = i := by rw [← hP, numL_len]; exact hN.out
          have hPb : Hid (∀ j, P.getD j 0 ≤ L) := fun j => by rw [← hP]; exact numL_le ss hL1 r j
          have hQ : Hid (numL ss L (r + 1) = ss.map (stM L P)) := by show _ = _; rw [numL, hP]
          rw [hP] at hO
          obtain ⟨wo, hwo⟩ : ∃ wo, wo = wr := ⟨_, rfl⟩
          subst hwo
          have hc1 := Lib.hid (fun W (hb : Below wo.heap.size wo W) => cell_kept hb c1)
          have hcP := Lib.hid (fun W (hb : Below wo.heap.size wo W) q (hq : q < i) => by have := cell_kept hb (hO.cell hq); rwa [natI_getD] at this)
          have hsw := Lib.hid (fun W (hb : Below wo.heap.size wo W) j (hj : j < i) => let ⟨u, h1, h2⟩ := hsc.out j hj; (⟨u, cell_kept (bt (bt hb1 hbr hb1.size) hb (bt hb1 hbr hb1.size).size) h1, h2.keep (bt (bt hb1 hbr hb1.size) hb (bt hb1 hbr hb1.size).size)⟩ : ∃ u, W.cell? ⟨sb, so + j, none⟩ = some u ∧ KS 8 W u (ss.getD j [])))
          have hn2 : OI wo wo.heap.size (.slice none 0 0) 0 (natI ((ss.map (stM L P)).take 0)) := OI.nil _ _
          replace hP := Lib.hid hP
          go_wp2_with fail
          go_loopw [10, 11] (fun lv jv wr => ∃ j : Nat, jv = .int .i64 j ∧ j ≤ i ∧ OI wr wo.heap.size lv j (natI ((ss.map (stM L P)).take j)) ∧ Below wo.heap.size wo wr) (fun _ jv _ => i - (intOf jv).toNat)
          case atStart => exact ⟨0, rfl, by omega, hn2, Below.refl _ _⟩
          case round =>
            clear hn2 hO c1
            obtain ⟨j, rfl, hj, hO, hbo⟩ := hrel
            have c1 := hc1.out wr hbo
            obtain ⟨la, lc, hls⟩ := hO.shape
            subst hls
            by_cases hltj : j < i
            · have hji : (j : Int) < (i : Int) := by omega
              obtain ⟨u, hu, hks⟩ := hsw.out wr hbo j hltj
              obtain ⟨ms, hms⟩ : ∃ ms, ss.getD j [] = ms := ⟨_, rfl⟩
              have hmt := hMt.out j hltj
              rw [hms] at hks hmt
              have hst : Hid ((ss.map (stM L P)).take (j + 1) = (ss.map (stM L P)).take j ++ [stM L P ms]) := by
                have hjs : j < ss.length := by rw [hN.out]; exact hltj
                show _ = _
                rw [take_snoc (by rw [List.length_map]; exact hjs) 0]
                congr 1
                rw [List.getD_eq_getElem?_getD, List.getElem?_map, List.getElem?_eq_getElem hjs, Option.map_some, Option.getD_some, ← getD_eq hjs [], hms]
              obtain ⟨ma, mc, mb, mo, rfl, hma, hmc, hml⟩ := hks
              obtain ⟨wj, hwj⟩ : ∃ wj, wj = wr := ⟨_, rfl⟩
              subst hwj
              have hz : Hid (stM L P (ms.take 0) = 0) := rfl
              replace hmt := Lib.hid hmt
              replace hms := Lib.hid hms
              replace hmc := Lib.hid hmc
              go_wp2_with fail
              go_loopw [12, 13] (fun av xv wr => ∃ x a : Nat, av = .int .i64 a ∧ xv = .int .i64 x ∧ x ≤ ms.length ∧ a ≤ L ∧ Hid (stM L P (ms.take x) = a) ∧ wr = wj) (fun _ xv _ => ms.length - (intOf xv).toNat)
              case atStart => exact ⟨0, 0, rfl, rfl, by omega, by omega, hz, by first | rfl | trivial⟩
              case round =>
                clear hz
                obtain ⟨x, a, rfl, rfl, hx, haL, hax, rfl⟩ := hrel
                by_cases hltx : x < ms.length
                · have hxi : (x : Int) < (ms.length : Int) := by omega
                  obtain rfl := hma (by omega)
                  obtain ⟨hm8, hmk⟩ := hmc.out x hltx
                  obtain ⟨m, hm⟩ : ∃ m, ms.getD x [] = m := ⟨_, rfl⟩
                  have hmr := hmt.out m (by rw [← hm, getD_eq hltx]; exact List.getElem_mem hltx)
                  rw [hm] at hm8 hmk
                  obtain ⟨y0, y1, y2, y3, y4, y5, y6, y7, rfl⟩ := eight hm8
                  obtain ⟨_, _, _, _, _, _, _, c7⟩ := hmk.all8
                  obtain ⟨q, rfl⟩ : ∃ q : Nat, y7 = (q : Int) := ⟨y7.toNat, by have : 0 ≤ y7 := hmr.1; omega⟩
                  have hqN : q < i := by have : (q : Int) < (i : Int) := hmr.2; omega
                  have hqi : (q : Int) < (i : Int) := by omega
                  have hcq := hcP.out wr hbo q hqN
                  obtain ⟨b, hb⟩ : ∃ b, P.getD q 0 = b := ⟨_, rfl⟩
                  have hbL := hPb.out q
                  rw [hb] at hcq hbL
                  have hnx : Hid (stM L P (ms.take (x + 1)) = min (a + b) L) := by
                    show _ = _
                    rw [take_snoc hltx [], hm, stM, List.foldl_append, List.foldl_cons, List.foldl_nil]
                    have h1 : (ms.take x).foldl (fun acc m => min (acc + P.getD (mvTo m) 0) L) 0 = a := hax.out
                    rw [h1]
                    have h2 : mvTo [y0, y1, y2, y3, y4, y5, y6, (q : Int)] = q := rfl
                    rw [h2, hb]
                  have hws : IntKind.i64.wrap ((a : Int) + (b : Int)) = (a : Int) + (b : Int) := IntWalk.i64_in _ (by omega)
                  replace hb := Lib.hid hb
                  replace hm := Lib.hid hm
                  clear hax hmk hm8 hmr
                  by_cases hc : L < a + b
                  · have h1 : (L : Int) < (a : Int) + (b : Int) := by omega
                    have hn2 : Hid (stM L P (ms.take (x + 1)) = L) := by show _ = _; rw [hnx.out]; omega
                    clear hnx
                    go_wp2
                    go_roundw
                    case rel => exact ⟨x + 1, L, by go_num, by go_num, hltx, by omega, hn2, by first | rfl | trivial⟩
                    case measure => simp [intOf]; omega
                  · have h1 : ¬ ((L : Int) < (a : Int) + (b : Int)) := by omega
                    have hn2 : Hid (stM L P (ms.take (x + 1)) = a + b) := by show _ = _; rw [hnx.out]; omega
                    clear hnx
                    go_wp2
                    go_roundw
                    case rel => exact ⟨x + 1, a + b, by go_num, by go_num, hltx, by omega, hn2, by first | rfl | trivial⟩
                    case measure => simp [intOf]; omega
                · obtain rfl : x = ms.length := by omega
                  have hge : ¬ ((ms.length : Int) < (ms.length : Int)) := by omega
                  have hfa : stM L P ms = a := by have := hax.out; rwa [List.take_length] at this
                  have hst2 : natI ((ss.map (stM L P)).take j) ++ [(a : Int)] = natI ((ss.map (stM L P)).take (j + 1)) := by
                    rw [hst.out, hfa, natI, natI, List.map_append]; rfl
                  replace hst2 := Lib.hid hst2
                  clear hax hfa
                  go_wp2_with (at_builtin; refine wpAppI rfl _ _ rfl rfl hO rfl (by omega) hbo.size ?_)
                  intro v2 w2 ho2 hg2 hb2
                  rw [hst2.out] at ho2
                  have hbf := hbo.trans hb2
                  go_wp2
                  go_roundw
                  case rel => exact ⟨j + 1, by go_num, hltj, ho2, hbf⟩
                  case measure => simp [intOf]; omega
            · obtain rfl : j = i := by omega
              have hO2 : OI wr W1.heap.size (.slice la j lc) j (natI (numL ss L (r + 1))) := by
                have h1 := hO
                rw [List.take_of_length_le (by rw [List.length_map, hN.out]; exact Nat.le_refl _), ← hQ.out] at h1
                exact h1.base hbr.size
              have hbf := btt hbr hbo
              have hge : ¬ ((j : Int) < (j : Int)) := by omega
              clear hO
              go_wp2
              go_roundw
              case rel => exact ⟨r + 1, by go_num, hltr, hO2, hbf⟩
              case measure => simp [intOf]; omega
        · obtain rfl : r = k := by omega
          have hge : ¬ ((r : Int) < (r : Int)) := by omega
          have hc0 := hO.cell h0
          rw [natI_getD] at hc0
          have h0i : (0 : Int) < (i : Int) := by omega
          rw [hZ.out] at hc0
          go_wp2
          go_ret
          exact ⟨rfl, bt hb1 hbr hb1.size⟩
end Go.Proofs.YtfihpofdoffclaaGreatDoor

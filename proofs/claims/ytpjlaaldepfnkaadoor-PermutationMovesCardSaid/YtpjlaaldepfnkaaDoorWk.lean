/- The walks of further, Every, the reference's All; Clone, all, All. -/
import Derived.Test.YtpjlaaldepfnkaaDoorOwn2
import Derived.Test.YtpjlaaldepfnkaaDoorWg
namespace Go.Proofs.YtpjlaaldepfnkaaDoor
open Go.RowKit

/-- All permutations of n processes that begin with b, f places being open. -/
def furF (n : Nat) : Nat → List Int → List (List Int)
  | 0, b => [b]
  | f + 1, b => (List.range n).flatMap fun (p : Nat) => if (p : Int) ∈ b then [] else furF n f (b ++ [(p : Int)])
def furK (n f : Nat) (b : List Int) (k : Nat) : List (List Int) := (List.range k).flatMap fun (p : Nat) => if (p : Int) ∈ b then [] else furF n f (b ++ [(p : Int)])
theorem furK_succ (n f : Nat) (b : List Int) (k : Nat) : furK n f b (k + 1) = furK n f b k ++ if (k : Int) ∈ b then [] else furF n f (b ++ [(k : Int)]) := by
  simp [furK, List.range_succ, List.flatMap_append]
theorem furF_succ (n f : Nat) (b : List Int) : furF n (f + 1) b = furK n f b n := rfl
theorem furK_le (n f B : Nat) (h : ∀ b, (furF n f b).length ≤ B) (b : List Int) : ∀ k, (furK n f b k).length ≤ k * B
  | 0 => by simp [furK]
  | k + 1 => by
    rw [furK_succ, List.length_append, Nat.succ_mul]
    have h1 := furK_le n f B h b k
    have h2 : (if (k : Int) ∈ b then [] else furF n f (b ++ [(k : Int)])).length ≤ B := by split; exact Nat.zero_le _; exact h _
    omega
theorem furF_le (n : Nat) : ∀ f b, (furF n f b).length ≤ n ^ f
  | 0, b => by simp [furF]
  | f + 1, b => by rw [furF_succ, Nat.pow_succ, Nat.mul_comm]; exact furK_le n f _ (furF_le n f) b n
theorem furF_small (n f : Nat) (hn : n ≤ 5) (hf : f ≤ 5) (b : List Int) : (furF n f b).length ≤ 3125 := by
  refine Nat.le_trans (furF_le n f b) ?_
  calc n ^ f ≤ 5 ^ f := Nat.pow_le_pow_left hn f
    _ ≤ 5 ^ 5 := Nat.pow_le_pow_right (by decide) hf
    _ = 3125 := by decide

set_option maxRecDepth 100000 in
set_option maxHeartbeats 1600000 in
theorem further (n : Nat) (hn : n ≤ 5) (f : Nat) : ∀ (b : List Int) (v : Value) (w : World), b.length + f = n → OI w 0 v b.length b →
    Calls Tryd.prog 77 #[.int .i64 n, v] w fun e w' => ∃ r, e = .returned r ∧ OII w' w.heap.size r (furF n f b).length (furF n f b) ∧ Below w.heap.size w w' := by
  induction f with
  | zero =>
    intro b v w hbn hv
    have hi := hv.ints (by omega)
    obtain ⟨a, c, bb, off, rfl, ha, hc, hl⟩ := hi
    have he : ((b.length : Int) == (n : Int)) = true := by simp; omega
    clear ha hc
    replace hbn := Lib.hid hbn
    go_enter Tryd.func77, Tryd.ntmps77
    go_wp2
    go_ret
    have h1 := oneCell_slice hv
    refine ⟨_, rfl, ?_, (Below.refl _ _).alloc (Nat.le_refl _) _⟩
    refine ⟨[.slice a b.length c], ⟨rfl, .inr ⟨w.heap.size, 1, _, rfl, Nat.le_refl _, heap_alloc_new _ _, Nat.le_refl _, by decide, rfl, rfl⟩⟩, rfl, ?_, ?_⟩
    · intro x hx; rw [List.mem_singleton.1 hx]; rfl
    · intro j hj
      obtain rfl : j = 0 := by simp [furF] at hj; exact hj
      exact hv.keep ((Below.refl _ _).alloc (Nat.le_refl _) _)
  | succ f ih =>
    intro b v w hbn hv
    have hi := hv.ints (by omega)
    have hi0 := hi
    obtain ⟨a, c, bb, off, rfl, ha, hc, hl⟩ := hi
    have he : ((b.length : Int) == (n : Int)) = false := by simp; omega
    have hb5 : b.length ≤ 5 := by omega
    have hf5 : f ≤ 5 := by omega
    clear ha hc
    replace hbn := Lib.hid hbn
    replace ih := Lib.hid ih
    go_enter Tryd.func77, Tryd.ntmps77
    go_wp2
    go_loopw [5, 6] (fun o i wr => ∃ k : Nat, k ≤ n ∧ i = .int .i64 k ∧ OII wr w.heap.size o (furK n f b k).length (furK n f b k) ∧ Below w.heap.size w wr) (fun _ i _ => n - (intOf i).toNat)
    case atStart => exact ⟨0, by omega, rfl, OII.nil _ _, Below.refl _ _⟩
    case round =>
      obtain ⟨k, hk, rfl, ho, hb⟩ := hrel
      have hbs := hb.size
      by_cases hlt : k < n
      · have H1 := Lib.hid (refHas (k : Int) (hi0.keep hb))
        have e1 := Lib.hid (furK_succ n f b k)
        have hle := furK_le n f 3125 (fun b => furF_small n f hn hf5 b) b k
        have hle2 := furF_small n f hn hf5 (b ++ [(k : Int)])
        by_cases hm : (k : Int) ∈ b
        · rw [show hasB b k = true by simp [hasB, hm]] at H1
          rw [if_pos hm, List.append_nil] at e1
          clear hm hle hle2
          go_wp2_with (go_at_call 97; refine H1.out.mono ?_; rintro e w1 ⟨rfl, hq⟩)
          go_roundw
          case rel => exact ⟨k + 1, by omega, by go_num, by rw [e1.out]; exact ho.keep hq.below, hb.trans (hq.belowB _)⟩
          case measure => simp [intOf]; omega
        · rw [show hasB b k = false by simp [hasB, hm]] at H1
          rw [if_neg hm] at e1
          clear hm
          have hlb := Lib.hid (show (b ++ [(k : Int)]).length = b.length + 1 by simp)
          go_wp2_with (first | (go_at_call 97; refine H1.out.mono ?_; rintro e w1 ⟨rfl, hq⟩; have hb1 := hb.trans (hq.belowB w.heap.size); replace ho := ho.keep hq.below; have hv1 := hv.keep hb1; clear hq hb hbs H1) | (at_builtin; refine wpAppManyI rfl _ _ rfl rfl (OI.nil _ w1.heap.size) rfl hv1 (by omega) (Nat.le_refl _) ?_; intro v2 w2 hv2 _ hb2; rw [Nat.zero_add, List.nil_append] at hv2; have hs2 := hb2.size; clear hv1) | (at_builtin; refine wpAppI rfl _ _ rfl rfl hv2 rfl (by omega) hs2 ?_; intro v3 w3 hv3 _ hb4; rw [← hlb.out] at hv3; have hb24 := hb2.trans hb4; replace ho := ho.keep hb24; have hb5 := bt hb1 hb24 hb1.size; have H2 := Lib.hid (ih.out (b ++ [(k : Int)]) v3 w3 (by have := hbn.out; have := hlb.out; omega) (hv3.base (Nat.zero_le _))); clear hb1 hb2 hb4 hb24 hv2 hs2) | (go_at_call 77; refine H2.out.mono ?_; rintro e w4 ⟨r4, rfl, ho4, hb6⟩; replace ho := ho.keep hb6; have hb7 := bt hb5 hb6 hb5.size; have hb7s := hb7.size; clear hb5 hb6 hv3 H2) | (at_builtin; refine wpAppManyS rfl _ _ rfl rfl ho rfl ho4 (by omega) hb7s ?_; intro v5 w5 ho5 hb8 _; have hb9 := hb7.trans hb8; clear hb7 hb8 ho ho4))
          go_roundw
          case rel => exact ⟨k + 1, by omega, by go_num, by rw [e1.out, List.length_append]; exact ho5, hb9⟩
          case measure => simp [intOf]; omega
      · obtain rfl : k = n := by omega
        go_wp2
        go_ret
        exact ⟨_, rfl, ho, hb⟩

def everyL (n : Nat) : List (List Int) := furF n n []
theorem every (n : Nat) (hn : n ≤ 5) (w : World) :
    Calls Tryd.prog 63 #[.int .i64 n] w fun e w' => ∃ r, e = .returned r ∧ OII w' w.heap.size r (everyL n).length (everyL n) ∧ Below w.heap.size w w' := by
  have H := Lib.hid (further n hn n [] (.slice none 0 0) w (by simp) (OI.nil _ _))
  go_enter Tryd.func63, Tryd.ntmps63
  go_wp2_with (go_at_call 77; refine H.out.mono ?_; rintro e w1 ⟨r, rfl, ho, hb⟩)
  go_ret
  exact ⟨_, rfl, ho, hb⟩

def allL (n : Int) : List (List Int) := if numE n = 0 then everyL n.toNat else []
/-- A result: fresh slices of ints, and an error. -/
def RII (w : World) (l : List (List Int)) (E : Int) (e : Ending) (w' : World) : Prop :=
  ∃ r, e = .returned (.tuple #[r, .int .i64 E]) ∧ OII w' w.heap.size r l.length l ∧ Below w.heap.size w w'
theorem RII.none {w w' : World} {l : List (List Int)} {E E' : Int} (hl : l = []) (hE : E' = E) (hb : Below w.heap.size w w') :
    RII w l E (.returned (.tuple #[.slice none 0 0, .int .i64 E'])) w' := by
  subst hl; subst hE; exact ⟨_, rfl, OII.nil _ _, hb⟩
theorem RII.some {w w' : World} {l l' : List (List Int)} {E : Int} {r : Value} {n B : Nat} (hl : l = l') (hE : E = 0) (ho : OII w' B r n l') (hB : w.heap.size ≤ B) (hb : Below w.heap.size w w') :
    RII w l E (.returned (.tuple #[r, .int .i64 0])) w' := by
  subst hl; subst hE; obtain rfl := ho.length; exact ⟨_, rfl, ho.base hB, hb⟩

set_option maxRecDepth 100000 in
set_option maxHeartbeats 800000 in
theorem refAll (n : Int) (w : World) : Calls Tryd.prog 40 #[.int .i64 n] w (RII w (allL n) (numE n)) := by
  by_cases h1 : n < 1
  · have hE := Lib.hid (show numE n = 2 by rw [numE, if_pos (.inl h1)])
    have hL := Lib.hid (show allL n = [] by rw [allL, hE.out]; rfl)
    go_enter Tryd.func40, Tryd.ntmps40
    go_wp2
    go_ret2
    exact RII.none hL.out hE.out.symm (Below.refl _ _)
  · have h1' : decide (n < 1) = false := by simpa using h1
    by_cases h5 : 5 < n
    · have hE := Lib.hid (show numE n = 2 by rw [numE, if_pos (.inr h5)])
      have hL := Lib.hid (show allL n = [] by rw [allL, hE.out]; rfl)
      go_enter Tryd.func40, Tryd.ntmps40
      go_wp2
      go_ret2
      exact RII.none hL.out hE.out.symm (Below.refl _ _)
    · obtain ⟨k, rfl⟩ : ∃ k : Nat, n = k := ⟨n.toNat, by omega⟩
      have hE := Lib.hid (show numE k = 0 by rw [numE, if_neg (by omega)])
      have hL := Lib.hid (show allL k = everyL k by rw [allL, hE.out]; rfl)
      have h5' : decide (5 < (k : Int)) = false := by simp; omega
      go_enter Tryd.func40, Tryd.ntmps40
      go_wp2_with (go_at_call 63; refine (every k (by omega) _).mono ?_; rintro e w2 ⟨r, rfl, ho, hb⟩)
      go_ret2
      exact RII.some hL.out hE.out ho (Nat.le_refl _) hb
end Go.Proofs.YtpjlaaldepfnkaaDoor

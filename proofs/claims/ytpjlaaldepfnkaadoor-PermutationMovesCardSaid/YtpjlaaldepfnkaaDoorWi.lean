/- The walks of the reference's Odd, Order, digit, Text. -/
import Derived.Test.YtpjlaaldepfnkaaDoorWh
namespace Go.Proofs.YtpjlaaldepfnkaaDoor
open Go.RowKit

def oddIn (a : List Int) (q p : Nat) (o : Bool) : Bool := (List.range p).foldl (fun o j => if decide (a.getD q 0 < a.getD j 0) = true then !o else o) o
def oddGo (a : List Int) (k : Nat) : Bool := (List.range k).foldl (fun o q => oddIn a q q o) false
theorem oddIn_succ (a : List Int) (q p : Nat) (o : Bool) : oddIn a q (p + 1) o = if decide (a.getD q 0 < a.getD p 0) = true then !oddIn a q p o else oddIn a q p o := by simp [oddIn, List.range_succ]
theorem oddGo_succ (a : List Int) (k : Nat) : oddGo a (k + 1) = oddIn a k k (oddGo a k) := by simp [oddGo, List.range_succ]
def oddR (a : List Int) : Bool := if chk a = 0 then oddGo a a.length else false
/-- A bool and a number. -/
def RB (w : World) (x : Bool) (y : Int) (e : Ending) (w' : World) : Prop := e = .returned (.tuple #[.bool x, .int .i64 y]) ∧ Below w.heap.size w w'
theorem RB.mk' {w w' : World} {x x' : Bool} {y y' : Int} (hx : x' = x) (hy : y' = y) (hb : Below w.heap.size w w') : RB w x y (.returned (.tuple #[.bool x', .int .i64 y'])) w' := by
  subst hx; subst hy; exact ⟨rfl, hb⟩

set_option maxRecDepth 100000 in
set_option maxHeartbeats 800000 in
theorem refOdd {w : World} {u : Value} {a : List Int} (h : Ints w u a) : Calls Tryd.prog 18 #[u] w (RB w (oddR a) (chk a)) := by
  have H := Lib.hid (refCheck h)
  by_cases hz : chk a = 0
  · have hL := Lib.hid (show oddR a = oddGo a a.length by rw [oddR, if_pos hz])
    rw [hz] at H
    replace hz := Lib.hid hz
    obtain ⟨aa, ac, ab, ao, rfl, ha, hc, hl⟩ := h
    go_enter Tryd.func18, Tryd.ntmps18
    go_wp2_with (go_at_call 20; refine H.out.mono ?_; rintro e w1 ⟨rfl, hq⟩)
    go_loopw [5, 6] (fun o i wr => ∃ (k : Nat) (x : Bool), k ≤ a.length ∧ i = .int .i64 k ∧ o = .bool x ∧ Hid (oddGo a k = x) ∧ Hid (Qt w wr)) (fun _ i _ => a.length - (intOf i).toNat)
    case atStart => exact ⟨0, false, by omega, rfl, rfl, rfl, hq⟩
    case round =>
      clear hq
      obtain ⟨k, x, hk, rfl, rfl, hg, hq⟩ := hrel
      by_cases hlt : k < a.length
      · obtain rfl := ha (by omega)
        go_wp2
        obtain ⟨wo, hwo⟩ : ∃ wo, wo = wr := ⟨_, rfl⟩
        rw [← hwo] at hq ⊢
        clear hwo
        go_loopw [5, 7] (fun o i wr => ∃ (m : Nat) (y : Bool), m ≤ k ∧ i = .int .i64 m ∧ o = .bool y ∧ Hid (oddIn a k m x = y) ∧ Hid (Qt w wr)) (fun _ i _ => k - (intOf i).toNat)
        case atStart => exact ⟨0, x, by omega, rfl, rfl, rfl, hq⟩
        case round =>
          clear hq
          obtain ⟨m, y, hm, rfl, rfl, hy, hq⟩ := hrel
          by_cases hmk : m < k
          · have hck := hc.qt hq.out k hlt
            have hcm := hc.qt hq.out m (by omega)
            have e1 := Lib.hid (oddIn_succ a k m x)
            obtain ⟨p, hp⟩ : ∃ p, a.getD k 0 = p := ⟨_, rfl⟩
            obtain ⟨q, hq'⟩ : ∃ q, a.getD m 0 = q := ⟨_, rfl⟩
            rw [hp] at hck e1
            rw [hq'] at hcm e1
            clear hp hq' ha hc
            by_cases hpq : p < q
            · have hd : decide (p < q) = true := by simpa using hpq
              go_wp2
              go_quiet (fail)
              go_wp2
              go_roundw
              case rel => exact ⟨m + 1, _, by omega, by go_num, rfl, by show _ = _; rw [e1.out, if_pos hd, hy.out], hq.out.trans (Qt.mk' _ _)⟩
              case measure => simp [intOf]; omega
            · have hd : decide (p < q) = false := by simpa using hpq
              go_wp2
              go_quiet (fail)
              go_wp2
              go_roundw
              case rel => exact ⟨m + 1, _, by omega, by go_num, rfl, by show _ = _; rw [e1.out, if_neg (by rw [hd]; decide), hy.out], hq.out.trans (Qt.mk' _ _)⟩
              case measure => simp [intOf]; omega
          · obtain rfl : m = k := by omega
            go_wp2
            go_roundw
            case rel => exact ⟨m + 1, _, by omega, by go_num, rfl, by show _ = _; rw [oddGo_succ, hg.out, hy.out], hq⟩
            case measure => simp [intOf]; omega
      · obtain rfl : k = a.length := by omega
        clear ha hc
        go_wp2
        go_ret2
        exact RB.mk' (by rw [hL.out, hg.out]) hz.out.symm hq.out.below
  · obtain ⟨E, hE⟩ : ∃ E, chk a = E := ⟨_, rfl⟩
    have hL := Lib.hid (show oddR a = false by rw [oddR, if_neg hz])
    rw [hE] at H hz
    have hz' : (E != 0) = true := by simpa using hz
    replace hE := Lib.hid hE
    clear hz h
    go_enter Tryd.func18, Tryd.ntmps18
    go_wp2_with (go_at_call 20; refine H.out.mono ?_; rintro e w1 ⟨rfl, hq⟩)
    go_ret2
    exact RB.mk' hL.out.symm hE.out.symm hq.below

/-- The powers of a. -/
def powL (a : List Int) : Nat → List Int
  | 0 => a
  | n + 1 => timesL a (powL a n)
theorem powL_length (a : List Int) : ∀ n, (powL a n).length = a.length
  | 0 => rfl
  | n + 1 => by rw [powL, timesL_length, powL_length a n]
/-- The least m with a^(m+1) = 1, up to some bound. -/
def ordGo (a : List Int) : Nat → Nat → Option Nat
  | 0, _ => none
  | f + 1, n => if powL a n = oneL a.length then some (n + 1) else ordGo a f (n + 1)
/-- What the walk of the reference's Order asks of a permutation. -/
structure OrdOK (a : List Int) (r : Nat) : Prop where
  run : ordGo a 7 0 = some r
  good : ∀ n, n < 8 → Good a.length (powL a n)

set_option maxRecDepth 100000 in
set_option maxHeartbeats 800000 in
theorem refOrder0 {w : World} {u : Value} {a : List Int} (h : Ints w u a) (hz : chk a = 0) {r : Nat} (hr : OrdOK a r) : Calls Tryd.prog 16 #[u] w (R2 w r 0) := by
  have H := Lib.hid (refCheck h)
  rw [hz] at H
  obtain ⟨h1, h5, hG, _⟩ := chk_good hz
  clear hz hG
  have h0 := h
  obtain ⟨aa, ac, ab, ao, rfl, ha, hc, hl⟩ := h
  clear ha hc
  go_enter Tryd.func16, Tryd.ntmps16
  go_wp2_with (go_at_call 20; refine H.out.mono ?_; rintro e w1 ⟨rfl, hq⟩)
  go_loopw [5, 6] (fun b i wr => ∃ n f : Nat, n + f = 7 ∧ i = .int .i64 (n + 1) ∧ Ints wr b (powL a n) ∧ Hid (ordGo a f n = some r) ∧ Below w.heap.size w wr) (fun _ i _ => 9 - (intOf i).toNat)
  case atStart => exact ⟨0, 7, rfl, rfl, h0.qt hq, hr.run, hq.below⟩
  case round =>
    clear hq
    obtain ⟨n, f, hnf, rfl, hB, hg, hb⟩ := hrel
    have hn7 : n ≤ 7 := by omega
    replace hnf := Lib.hid hnf
    have hgood := hr.good n (by omega)
    have hlen := powL_length a n
    match f, hg with
    | 0, hg => exact absurd hg.out (by simp [ordGo])
    | f + 1, hg =>
    have hg' := hg.out
    unfold ordGo at hg'
    have H1 := fun (w2 : World) (h2 : Below w.heap.size w w2) (v : Value) (h3 : Ints w2 v (oneL a.length)) (h4 : Ints w2 u5 (powL a n)) => refSame h4 h3
    by_cases hs : powL a n = oneL a.length
    · rw [if_pos hs] at hg'
      have hsb : sameB (powL a n) (oneL a.length) = true := by simp [sameB, hs]
      rw [hsb] at H1
      replace H1 := Lib.hid H1
      replace hg' := Lib.hid (Option.some.inj hg')
      clear hs hsb
      replace hlen := Lib.hid hlen
      go_wp2_with fail
      refine (refOne a.length _ (by omega)).mono ?_; rintro e w2 ⟨v2, rfl, ho2, hb2⟩
      replace H1 := Lib.hid (H1.out w2 (btt hb hb2) _ (ho2.ints (by omega)) (hB.keep hb2))
      go_wp2_with fail
      refine H1.out.mono ?_; rintro e w3 ⟨rfl, hq3⟩
      go_wp2
      go_ret2
      exact R2.mk' (by have := hg'.out; omega) rfl ((btt hb hb2).trans (hq3.belowB _))
    · rw [if_neg hs] at hg'
      have hsb : sameB (powL a n) (oneL a.length) = false := by simp [sameB, hs]
      rw [hsb] at H1
      replace H1 := Lib.hid H1
      replace hg' := Lib.hid hg'
      clear hs hsb
      replace hlen := Lib.hid hlen
      go_wp2_with fail
      refine (refOne a.length _ (by omega)).mono ?_; rintro e w2 ⟨v2, rfl, ho2, hb2⟩
      replace H1 := Lib.hid (H1.out w2 (btt hb hb2) _ (ho2.ints (by omega)) (hB.keep hb2))
      go_wp2_with fail
      refine H1.out.mono ?_; rintro e w3 ⟨rfl, hq3⟩
      have hb3 := (btt hb hb2).trans (hq3.belowB _)
      have H2 := Lib.hid (refTimes (h0.keep hb3) ((hB.keep hb2).qt hq3) hgood (by have := hlen.out; omega))
      go_wp2_with fail
      refine H2.out.mono ?_; rintro e w4 ⟨v4, rfl, ho4, hb4⟩
      go_wp2
      go_roundw
      case rel => exact ⟨n + 1, f, by have := hnf.out; omega, by go_num, ho4.ints (by have := hlen.out; omega), hg', btt hb3 hb4⟩
      case measure => have := hnf.out; simp [intOf]; omega
end Go.Proofs.YtpjlaaldepfnkaaDoor

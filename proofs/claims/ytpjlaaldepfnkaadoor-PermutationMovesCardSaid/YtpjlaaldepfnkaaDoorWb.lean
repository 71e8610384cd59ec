/- The walks of slices.Equal, Index, Contains, Compare, cmp.Compare, number, gcd. -/
import Derived.Test.YtpjlaaldepfnkaaDoorSp
namespace Go.Proofs.YtpjlaaldepfnkaaDoor
open Go.RowKit

set_option maxHeartbeats 800000 in
theorem slEqual {w : World} {u v : Value} {xs ys : List Int} (h : Ints w u xs) (h' : Ints w v ys) :
    Calls Tryd.prog 21 #[u, v] w fun e w' => e = .returned (.bool (sameB xs ys)) ∧ Qt w w' := by
  obtain ⟨a, c, b, off, rfl, ha, hc, hl⟩ := h
  obtain ⟨a', c', b', off', rfl, ha', hc', hl'⟩ := h'
  by_cases h1 : xs.length = ys.length
  · have h1' : ((xs.length : Int) != (ys.length : Int)) = false := by simp; omega
    have h1 := Lib.hid h1
    go_enter Tryd.func21, Tryd.ntmps21
    go_wp2
    go_loopw [13] (fun i wr => ∃ k : Nat, k ≤ xs.length ∧ i = .int .i64 k ∧ Hid (xs.take k = ys.take k) ∧ Hid (Qt w wr)) (fun i _ => xs.length - (intOf i).toNat)
    case atStart => exact ⟨0, by omega, rfl, by simp [Hid], Qt.refl _⟩
    case round =>
      obtain ⟨k, hk, rfl, hg, hq⟩ := hrel
      by_cases hlt : k < xs.length
      · have hlt' : k < ys.length := by have := h1.out; omega
        obtain rfl := ha (by omega)
        obtain rfl := ha' (by omega)
        have hck := hc.qt hq.out k hlt
        have hck' := hc'.qt hq.out k hlt'
        clear ha ha' hc hc'
        go_wp2
        go_quiet (fail)
        go_wp2
        · go_ret
          have he := ‹(xs[k] != ys[k]) = true›
          refine ⟨ret_bool ?_, hq.out.trans (Qt.mk' _ _)⟩
          have he' : xs[k] ≠ ys[k] := by simpa using he
          have : xs ≠ ys := fun e => he' (by subst e; rfl)
          simp [sameB, this]
        · have he := ‹(xs[k] != ys[k]) = false›
          go_roundw
          case rel =>
            refine ⟨k + 1, by omega, by go_num, ?_, hq.out.trans (Qt.mk' _ _)⟩
            show xs.take (k + 1) = ys.take (k + 1)
            rw [take_snoc hlt 0, take_snoc hlt' 0, hg.out, getD_eq hlt, getD_eq hlt']
            have he' : xs[k] = ys[k] := by simpa using he
            rw [he']
          case measure => simp [intOf]; omega
      · clear ha hc ha' hc'
        go_wp2
        go_ret
        refine ⟨ret_bool ?_, hq.out⟩
        have := hg.out
        have hh := h1.out
        rw [List.take_of_length_le (by omega), List.take_of_length_le (by omega)] at this
        simp [sameB, this]
  · have h1' : ((xs.length : Int) != (ys.length : Int)) = true := by simp; omega
    clear ha hc ha' hc'
    go_enter Tryd.func21, Tryd.ntmps21
    go_wp2
    go_ret
    refine ⟨ret_bool ?_, Qt.refl _⟩
    have : xs ≠ ys := fun e => h1 (by rw [e])
    simp [sameB, this]

theorem idxGo_step {xs : List Int} {x : Int} {k : Nat} (h : k < xs.length) : idxGo x k (xs.drop k) = if x = xs[k] then (k : Int) else idxGo x (k + 1) (xs.drop (k + 1)) := by
  rw [drop_cons h 0, idxGo, getD_eq h]
theorem idxGo_end {xs : List Int} {x : Int} {k : Nat} (h : ¬ k < xs.length) : idxGo x k (xs.drop k) = -1 := by
  rw [List.drop_eq_nil_of_le (by omega), idxGo]

set_option maxHeartbeats 400000 in
theorem slIndex {w : World} {v : Value} {xs : List Int} (x : Int) (h : Ints w v xs) :
    Calls Tryd.prog 96 #[v, .int .i64 x] w fun e w' => e = .returned (.int .i64 (idxI xs x)) ∧ Qt w w' := by
  obtain ⟨a, c, b, off, rfl, ha, hc, hl⟩ := h
  go_enter Tryd.func96, Tryd.ntmps96
  go_wp2
  go_loopw [8] (fun i wr => ∃ k : Nat, k ≤ xs.length ∧ i = .int .i64 k ∧ Hid (idxGo x k (xs.drop k) = idxI xs x) ∧ Hid (Qt w wr)) (fun i _ => xs.length - (intOf i).toNat)
  case atStart => exact ⟨0, by omega, rfl, by simp [Hid, idxI], Qt.refl _⟩
  case round =>
    obtain ⟨k, hk, rfl, hg, hq⟩ := hrel
    by_cases hlt : k < xs.length
    · obtain rfl := ha (by omega)
      have hck := hc.qt hq.out k hlt
      have hst := Lib.hid (idxGo_step (x := x) hlt)
      clear ha hc
      go_wp2
      · go_ret
        have he := ‹(x == xs[k]) = true›
        exact ⟨ret_int (by rw [← hg.out, hst.out, if_pos (by simpa using he)]), hq.out⟩
      · have he := ‹(x == xs[k]) = false›
        go_roundw
        case rel => exact ⟨k + 1, by omega, by go_num, by show _ = _; rw [← hg.out, hst.out, if_neg (by simpa using he)], hq⟩
        case measure => simp [intOf]; omega
    · have hst := Lib.hid (idxGo_end (x := x) hlt)
      clear ha hc
      go_wp2
      go_ret
      exact ⟨ret_int (by rw [← hg.out, hst.out]), hq.out⟩

theorem idxGo_ge (xs : List Int) (x : Int) : ∀ k, (0 ≤ idxGo x k xs) = (x ∈ xs) := by
  induction xs with
  | nil => intro k; simp [idxGo]
  | cons y r ih => intro k; unfold idxGo; by_cases h : x = y <;> simp [h, ih]

set_option maxHeartbeats 400000 in
theorem slContains {w : World} {v : Value} {xs : List Int} (x : Int) (h : Ints w v xs) :
    Calls Tryd.prog 75 #[v, .int .i64 x] w fun e w' => e = .returned (.bool (hasB xs x)) ∧ Qt w w' := by
  have H := Lib.hid (slIndex x h)
  clear h
  have hi := Lib.hid (idxGo_ge xs x 0)
  go_enter Tryd.func75, Tryd.ntmps75
  go_wp2_with (go_at_call 96; refine H.out.mono ?_; rintro e w' ⟨rfl, hq⟩)
  go_ret
  exact ⟨ret_bool (by unfold hasB; rw [← decide_eq_decide.2 (Iff.of_eq hi.out)]; rfl), hq⟩

theorem isNaN (x : Int) (w : World) : Calls Tryd.prog 76 #[.int .i64 x] w fun e w' => e = .returned (.bool false) ∧ w = w' := by
  go_enter Tryd.func76, Tryd.ntmps76
  go_wp2
  go_ret
  exact ⟨ret_bool (by simp), rfl⟩

set_option maxHeartbeats 400000 in
theorem cmpInt (x y : Int) (w : World) : Calls Tryd.prog 62 #[.int .i64 x, .int .i64 y] w fun e w' => e = .returned (.int .i64 (cmpI x y)) ∧ w = w' := by
  by_cases h1 : x < y
  · go_enter Tryd.func62, Tryd.ntmps62
    go_wp2_with (go_at_call 76; refine (isNaN _ _).mono ?_; rintro e w' ⟨rfl, rfl⟩)
    go_ret
    exact ⟨ret_int (by simp [cmpI, h1]), rfl⟩
  · by_cases h2 : y < x
    · go_enter Tryd.func62, Tryd.ntmps62
      go_wp2_with (go_at_call 76; refine (isNaN _ _).mono ?_; rintro e w' ⟨rfl, rfl⟩)
      go_ret
      exact ⟨ret_int (by rw [cmpI, if_neg (by omega), if_pos h2]), rfl⟩
    · go_enter Tryd.func62, Tryd.ntmps62
      go_wp2_with (go_at_call 76; refine (isNaN _ _).mono ?_; rintro e w' ⟨rfl, rfl⟩)
      go_ret
      exact ⟨ret_int (by rw [cmpI, if_neg (by omega), if_neg (by omega)]), rfl⟩

theorem drop_nil {l : List Int} {k : Nat} (h : ¬ k < l.length) : l.drop k = [] := List.drop_eq_nil_of_le (by omega)
theorem cmpL_step {xs ys : List Int} {k : Nat} (h : k < xs.length) (h' : k < ys.length) :
    cmpL (xs.drop k) (ys.drop k) = if cmpI xs[k] ys[k] = 0 then cmpL (xs.drop (k + 1)) (ys.drop (k + 1)) else cmpI xs[k] ys[k] := by
  rw [drop_cons h 0, drop_cons h' 0, cmpL, getD_eq h, getD_eq h']
theorem cmpL_gt {xs ys : List Int} {k : Nat} (h : k < xs.length) (h' : ¬ k < ys.length) : cmpL (xs.drop k) (ys.drop k) = 1 := by
  rw [drop_cons h 0, drop_nil (l := ys) h', cmpL]
theorem cmpL_lt {xs ys : List Int} {k : Nat} (h : ¬ k < xs.length) (h' : k < ys.length) : cmpL (xs.drop k) (ys.drop k) = -1 := by
  rw [drop_cons h' 0, drop_nil (l := xs) h, cmpL]
theorem cmpL_eq {xs ys : List Int} {k : Nat} (h : ¬ k < xs.length) (h' : ¬ k < ys.length) : cmpL (xs.drop k) (ys.drop k) = 0 := by
  rw [drop_nil (l := ys) h', drop_nil (l := xs) h, cmpL]

set_option maxHeartbeats 800000 in
theorem slCompare {w : World} {u v : Value} {xs ys : List Int} (h : Ints w u xs) (h' : Ints w v ys) :
    Calls Tryd.prog 37 #[u, v] w fun e w' => e = .returned (.int .i64 (cmpL xs ys)) ∧ Qt w w' := by
  obtain ⟨a, c, b, off, rfl, ha, hc, hl⟩ := h
  obtain ⟨a', c', b', off', rfl, ha', hc', hl'⟩ := h'
  go_enter Tryd.func37, Tryd.ntmps37
  go_wp2
  go_loopw [11] (fun i wr => ∃ k : Nat, k ≤ xs.length ∧ k ≤ ys.length ∧ i = .int .i64 k ∧ Hid (cmpL (xs.drop k) (ys.drop k) = cmpL xs ys) ∧ Hid (Qt w wr)) (fun i _ => xs.length - (intOf i).toNat)
  case atStart => exact ⟨0, by omega, by omega, rfl, by simp [Hid], Qt.refl _⟩
  case round =>
    obtain ⟨k, hk, hk', rfl, hg, hq⟩ := hrel
    by_cases hlt : k < xs.length
    · obtain rfl := ha (by omega)
      have hck := hc.qt hq.out k hlt
      by_cases hlt' : k < ys.length
      · obtain rfl := ha' (by omega)
        have hck' := hc'.qt hq.out k hlt'
        have hst := Lib.hid (cmpL_step hlt hlt')
        clear ha ha' hc hc'
        by_cases hz : cmpI xs[k] ys[k] = 0
        · have hz' : (cmpI xs[k] ys[k] != 0) = false := by simp [hz]
          have hz := Lib.hid hz
          go_wp2_with (go_at_call 62; refine (cmpInt _ _ _).mono ?_; rintro e w' ⟨rfl, rfl⟩)
          go_roundw
          case rel => exact ⟨k + 1, by omega, by omega, by go_num, by show _ = _; rw [← hg.out, hst.out, if_pos hz.out], hq⟩
          case measure => simp [intOf]; omega
        · have hz' : (cmpI xs[k] ys[k] != 0) = true := by simp [hz]
          have hz := Lib.hid hz
          go_wp2_with (go_at_call 62; refine (cmpInt _ _ _).mono ?_; rintro e w' ⟨rfl, rfl⟩)
          go_ret
          exact ⟨ret_int (by rw [← hg.out, hst.out, if_neg hz.out]), hq.out⟩
      · have hst := Lib.hid (cmpL_gt hlt hlt')
        clear ha ha' hc hc'
        go_wp2
        go_ret
        exact ⟨ret_int (by rw [← hg.out, hst.out]), hq.out⟩
    · clear ha ha' hc hc'
      by_cases hlt' : k < ys.length
      · have hst := Lib.hid (cmpL_lt hlt hlt')
        go_wp2
        go_ret
        exact ⟨ret_int (by rw [← hg.out, hst.out]), hq.out⟩
      · have hst := Lib.hid (cmpL_eq hlt hlt')
        go_wp2
        go_ret
        exact ⟨ret_int (by rw [← hg.out, hst.out]), hq.out⟩

def numE (n : Int) : Int := if n < 1 ∨ 5 < n then 2 else 0
set_option maxHeartbeats 400000 in
theorem number (n : Int) (w : World) : Calls Tryd.prog 53 #[.int .i64 n] w fun e w' => e = .returned (.int .i64 (numE n)) ∧ w = w' := by
  by_cases h1 : n < 1
  · go_enter Tryd.func53, Tryd.ntmps53
    go_wp2
    go_ret
    exact ⟨ret_int (by simp [numE, h1]), rfl⟩
  · have h1' : decide (n < 1) = false := by simpa using h1
    by_cases h2 : 5 < n
    · go_enter Tryd.func53, Tryd.ntmps53
      go_wp2
      go_ret
      exact ⟨ret_int (by simp [numE, h2]), rfl⟩
    · go_enter Tryd.func53, Tryd.ntmps53
      go_wp2
      go_ret
      exact ⟨ret_int (by simp [numE, h1, h2]), rfl⟩

set_option maxHeartbeats 400000 in
theorem gcdCall (a b : Nat) (w : World) (ha : a < 1000) (hb : b < 1000) : Calls Tryd.prog 50 #[.int .i64 a, .int .i64 b] w fun e w' => e = .returned (.int .i64 (Nat.gcd a b)) ∧ Qt w w' := by
  go_enter Tryd.func50, Tryd.ntmps50
  go_wp2
  go_loopw [0, 1] (fun x y wr => ∃ m n : Nat, x = .int .i64 m ∧ y = .int .i64 n ∧ m < 1000 ∧ n < 1000 ∧ Hid (Nat.gcd m n = Nat.gcd a b) ∧ Hid (Qt w wr)) (fun _ y _ => (intOf y).toNat)
  case atStart => exact ⟨a, b, rfl, rfl, ha, hb, rfl, Qt.refl _⟩
  case round =>
    obtain ⟨m, n, rfl, rfl, hm, hn, hg, hq⟩ := hrel
    by_cases h0 : n = 0
    · subst h0
      go_wp2
      go_ret
      exact ⟨ret_int (by rw [← hg.out]; simp), hq.out⟩
    · go_wp2
      go_quiet (fail)
      go_wp2
      have hlt := Nat.mod_lt m (show 0 < n by omega)
      go_roundw
      case rel =>
        refine ⟨n, m % n, rfl, by simp, hn, by omega, ?_, hq.out.trans (Qt.mk' _ _)⟩
        show _ = _
        rw [← hg.out, Nat.gcd_comm m n, Nat.gcd_rec n m, Nat.gcd_comm]
      case measure => simp [intOf]; omega
end Go.Proofs.YtpjlaaldepfnkaaDoor

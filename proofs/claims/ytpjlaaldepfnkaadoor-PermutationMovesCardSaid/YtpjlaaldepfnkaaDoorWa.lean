/- The walks of the reference's Check, has, Same, SameAll, Among. -/
import Derived.Test.YtpjlaaldepfnkaaDoorSp
namespace Go.Proofs.YtpjlaaldepfnkaaDoor
open Go.RowKit

set_option maxHeartbeats 800000 in
theorem refCheck {w : World} {v : Value} {xs : List Int} (h : Ints w v xs) :
    Calls Tryd.prog 20 #[v] w fun e w' => e = .returned (.int .i64 (chk xs)) ∧ Qt w w' := by
  obtain ⟨a, c, b, off, rfl, ha, hc, hl⟩ := h
  by_cases h1 : xs.length < 1
  · have h1' : decide ((xs.length : Int) < 1) = true := by simp; omega
    clear ha hc
    go_enter Tryd.func20, Tryd.ntmps20
    go_wp2
    go_ret
    exact ⟨by simp [chk, h1], Qt.refl _⟩
  · have h1' : decide ((xs.length : Int) < 1) = false := by simp; omega
    by_cases h2 : 5 < xs.length
    · have h2' : decide (5 < (xs.length : Int)) = true := by simp; omega
      clear ha hc
      go_enter Tryd.func20, Tryd.ntmps20
      go_wp2
      go_ret
      exact ⟨by simp [chk, h2], Qt.refl _⟩
    · have h2' : decide (5 < (xs.length : Int)) = false := by simp; omega
      obtain rfl := ha (by omega)
      clear ha
      go_enter Tryd.func20, Tryd.ntmps20
      go_wp2
      go_loopw [3] (fun i wr => ∃ k : Nat, k ≤ xs.length ∧ i = .int .i64 k ∧ Hid (chkGo xs.length (xs.take k) (xs.drop k) = chk xs) ∧ Hid (Qt w wr)) (fun i _ => xs.length - (intOf i).toNat)
      case atStart => exact ⟨0, by omega, rfl, by simp [Hid, chk, h1, h2], Qt.refl _⟩
      case round =>
        obtain ⟨k, hk, rfl, hg, n, rfl⟩ := hrel
        by_cases hlt : k < xs.length
        · have hck := hc k hlt
          have hst := Lib.hid (chkGo_step hlt)
          go_wp2
          · go_ret
            have h := ‹xs[k] < 0 ∨ ↑xs.length ≤ xs[k]›
            exact ⟨ret_int (by rw [← hg.out, hst.out, getD_eq hlt, if_pos h]), Qt.mk' _ _⟩
          · have h := ‹0 ≤ xs[k] ∧ xs[k] < ↑xs.length›
            obtain ⟨wo, rfl⟩ : ∃ wo : World, wo = w.drewN n := ⟨_, rfl⟩
            go_loopw [4] (fun j wr => ∃ m : Nat, m ≤ k ∧ j = .int .i64 m ∧ Hid (xs.getD k 0 ∉ xs.take m) ∧ Hid (Qt w wr)) (fun j _ => k - (intOf j).toNat)
            case atStart => exact ⟨0, by omega, rfl, by simp [Hid], ⟨n, rfl⟩⟩
            case round =>
              obtain ⟨m, hm, rfl, hnm, n1, rfl⟩ := hrel
              by_cases hmk : m < k
              · have hcm := hc m (by omega)
                go_wp2
                go_quiet (fail)
                go_wp2
                · go_ret
                  have he := ‹(xs[m]?.getD 0 == xs[k]) = true›
                  refine ⟨ret_int ?_, Qt.mk2 _ _ _⟩
                  rw [← hg.out, hst.out, if_neg (by rw [getD_eq hlt]; omega), if_pos]
                  exact mem_take_of hlt hmk (by simpa using he)
                · have he := ‹(xs[m]?.getD 0 == xs[k]) = false›
                  go_roundw
                  case rel =>
                    refine ⟨m + 1, by omega, by go_num, ?_, ⟨_, rfl⟩⟩
                    have hne : xs.getD m 0 ≠ xs.getD k 0 := by rw [getD_eq hlt]; simpa using he
                    show xs.getD k 0 ∉ xs.take (m + 1)
                    rw [take_snoc (by omega) 0, List.mem_append, not_or]
                    exact ⟨hnm.out, by simpa using fun e => hne e.symm⟩
                  case measure => simp [intOf]; omega
              · obtain rfl : m = k := by omega
                go_wp2
                go_roundw
                case rel =>
                  refine ⟨m + 1, by omega, by go_num, ?_, ⟨_, rfl⟩⟩
                  show chkGo xs.length (xs.take (m + 1)) (xs.drop (m + 1)) = chk xs
                  rw [← hg.out, hst.out, if_neg (by rw [getD_eq hlt]; omega), if_neg hnm.out]
                case measure => simp [intOf]; omega
          · go_ret
            have h := ‹xs[k] < 0›
            exact ⟨ret_int (by rw [← hg.out, hst.out, getD_eq hlt, if_pos (.inl h)]), Qt.mk' _ _⟩
        · have hst := Lib.hid (chkGo_end hlt)
          go_wp2
          go_ret
          exact ⟨ret_int (by rw [← hg.out, hst.out]), Qt.mk' _ _⟩

set_option maxHeartbeats 400000 in
theorem refHas {w : World} {v : Value} {xs : List Int} (x : Int) (h : Ints w v xs) :
    Calls Tryd.prog 97 #[v, .int .i64 x] w fun e w' => e = .returned (.bool (hasB xs x)) ∧ Qt w w' := by
  obtain ⟨a, c, b, off, rfl, ha, hc, hl⟩ := h
  go_enter Tryd.func97, Tryd.ntmps97
  go_wp2
  go_loopw [5] (fun i wr => ∃ k : Nat, k ≤ xs.length ∧ i = .int .i64 k ∧ Hid (x ∉ xs.take k) ∧ Hid (Qt w wr)) (fun i _ => xs.length - (intOf i).toNat)
  case atStart => exact ⟨0, by omega, rfl, by simp [Hid], Qt.refl _⟩
  case round =>
    obtain ⟨k, hk, rfl, hg, n, rfl⟩ := hrel
    by_cases hlt : k < xs.length
    · obtain rfl := ha (by omega)
      have hck := hc k hlt
      clear ha hc
      go_wp2
      · go_ret
        have he := ‹(xs[k] == x) = true›
        refine ⟨ret_bool ?_, Qt.mk' _ _⟩
        simp only [hasB, true_eq_decide_iff]
        exact List.mem_iff_getElem.2 ⟨k, hlt, by simpa using he⟩
      · have he := ‹(xs[k] == x) = false›
        go_roundw
        case rel =>
          refine ⟨k + 1, by omega, by go_num, ?_, ⟨_, rfl⟩⟩
          show x ∉ xs.take (k + 1)
          rw [take_snoc hlt 0, List.mem_append, not_or]
          refine ⟨hg.out, ?_⟩
          rw [getD_eq hlt]
          simp at he ⊢
          exact fun e => he e.symm
        case measure => simp [intOf]; omega
    · clear ha hc
      go_wp2
      go_ret
      refine ⟨ret_bool ?_, Qt.mk' _ _⟩
      have := hg.out
      rw [List.take_of_length_le (by omega)] at this
      simp [hasB, this]

set_option maxHeartbeats 800000 in
theorem refSame {w : World} {u v : Value} {xs ys : List Int} (h : Ints w u xs) (h' : Ints w v ys) :
    Calls Tryd.prog 51 #[u, v] w fun e w' => e = .returned (.bool (sameB xs ys)) ∧ Qt w w' := by
  obtain ⟨a, c, b, off, rfl, ha, hc, hl⟩ := h
  obtain ⟨a', c', b', off', rfl, ha', hc', hl'⟩ := h'
  by_cases h1 : xs.length = ys.length
  · have h1' : ((xs.length : Int) != (ys.length : Int)) = false := by simp; omega
    have h1 := Lib.hid h1
    go_enter Tryd.func51, Tryd.ntmps51
    go_wp2
    go_loopw [5] (fun i wr => ∃ k : Nat, k ≤ xs.length ∧ i = .int .i64 k ∧ Hid (xs.take k = ys.take k) ∧ Hid (Qt w wr)) (fun i _ => xs.length - (intOf i).toNat)
    case atStart => exact ⟨0, by omega, rfl, by simp [Hid], Qt.refl _⟩
    case round =>
      obtain ⟨k, hk, rfl, hg, n, rfl⟩ := hrel
      by_cases hlt : k < xs.length
      · have hlt' : k < ys.length := by have := h1.out; omega
        obtain rfl := ha (by omega)
        obtain rfl := ha' (by omega)
        have hck := hc k hlt
        have hck' := hc' k hlt'
        clear ha ha' hc hc'
        go_wp2
        go_quiet (fail)
        go_wp2
        · go_ret
          have he := ‹(xs[k] != ys[k]) = true›
          refine ⟨ret_bool ?_, Qt.mk2 _ _ _⟩
          have he' : xs[k] ≠ ys[k] := by simpa using he
          have : xs ≠ ys := fun e => he' (by subst e; rfl)
          simp [sameB, this]
        · have he := ‹(xs[k] != ys[k]) = false›
          go_roundw
          case rel =>
            refine ⟨k + 1, by omega, by go_num, ?_, ⟨_, rfl⟩⟩
            show xs.take (k + 1) = ys.take (k + 1)
            rw [take_snoc hlt 0, take_snoc hlt' 0, hg.out, getD_eq hlt, getD_eq hlt']
            have he' : xs[k] = ys[k] := by simpa using he
            rw [he']
          case measure => simp [intOf]; omega
      · clear ha hc ha' hc'
        go_wp2
        go_ret
        refine ⟨ret_bool ?_, Qt.mk' _ _⟩
        have := hg.out
        have hh := h1.out
        rw [List.take_of_length_le (by omega), List.take_of_length_le (by omega)] at this
        simp [sameB, this]
  · have h1' : ((xs.length : Int) != (ys.length : Int)) = true := by simp; omega
    clear ha hc ha' hc'
    go_enter Tryd.func51, Tryd.ntmps51
    go_wp2
    go_ret
    refine ⟨ret_bool ?_, Qt.refl _⟩
    have : xs ≠ ys := fun e => h1 (by rw [e])
    simp [sameB, this]


set_option maxHeartbeats 800000 in
theorem refSameAll {w : World} {u v : Value} {xs ys : List (List Int)} (h : Intss w u xs) (h' : Intss w v ys) :
    Calls Tryd.prog 29 #[u, v] w fun e w' => e = .returned (.bool (sameAllB xs ys)) ∧ Qt w w' := by
  obtain ⟨a, c, b, off, rfl, ha, hc, hl⟩ := h
  obtain ⟨a', c', b', off', rfl, ha', hc', hl'⟩ := h'
  by_cases h1 : xs.length = ys.length
  · have h1' : ((xs.length : Int) != (ys.length : Int)) = false := by simp; omega
    have h1 := Lib.hid h1
    go_enter Tryd.func29, Tryd.ntmps29
    go_wp2
    go_loopw [5] (fun i wr => ∃ k : Nat, k ≤ xs.length ∧ i = .int .i64 k ∧ Hid (xs.take k = ys.take k) ∧ Hid (Qt w wr)) (fun i _ => xs.length - (intOf i).toNat)
    case atStart => exact ⟨0, by omega, rfl, by simp [Hid], Qt.refl _⟩
    case round =>
      obtain ⟨k, hk, rfl, hg, hq⟩ := hrel
      by_cases hlt : k < xs.length
      · have hlt' : k < ys.length := by have := h1.out; omega
        obtain rfl := ha (by omega)
        obtain rfl := ha' (by omega)
        obtain ⟨u1, hck, hi⟩ := hc.qt hq.out k hlt
        obtain ⟨u2, hck', hi'⟩ := hc'.qt hq.out k hlt'
        clear ha ha' hc hc'
        have hb : sameB (xs.getD k []) (ys.getD k []) = true ∨ sameB (xs.getD k []) (ys.getD k []) = false := by
          cases sameB (xs.getD k []) (ys.getD k []) <;> simp
        have hcall : ∀ m, Calls Tryd.prog 51 #[u1, u2] (wr.drewN m) fun e w' => e = .returned (.bool (sameB (xs.getD k []) (ys.getD k []))) ∧ Qt (wr.drewN m) w' :=
          fun m => refSame (hi.drew m) (hi'.drew m)
        have H := Lib.hid hcall
        clear hcall hi hi'
        rcases hb with hb | hb
        · rw [hb] at H
          go_wp2
          go_quiet ((go_at_call 51; exact Calls.quiet_of (H.out _)))
          go_wp2
          go_roundw
          case rel =>
            refine ⟨k + 1, by omega, by go_num, ?_, hq.out.trans (Qt.mk' _ _)⟩
            show xs.take (k + 1) = ys.take (k + 1)
            rw [take_snoc hlt [], take_snoc hlt' [], hg.out, of_decide_eq_true hb]
          case measure => simp [intOf]; omega
        · rw [hb] at H
          go_wp2
          go_quiet ((go_at_call 51; exact Calls.quiet_of (H.out _)))
          go_wp2
          go_ret
          refine ⟨ret_bool ?_, hq.out.trans (Qt.mk' _ _)⟩
          have : xs ≠ ys := fun e => of_decide_eq_false hb (by subst e; rfl)
          simp [sameAllB, this]
      · clear ha hc ha' hc'
        go_wp2
        go_ret
        refine ⟨ret_bool ?_, hq.out⟩
        have := hg.out
        have hh := h1.out
        rw [List.take_of_length_le (by omega), List.take_of_length_le (by omega)] at this
        simp [sameAllB, this]
  · have h1' : ((xs.length : Int) != (ys.length : Int)) = true := by simp; omega
    clear ha hc ha' hc'
    go_enter Tryd.func29, Tryd.ntmps29
    go_wp2
    go_ret
    refine ⟨ret_bool ?_, Qt.refl _⟩
    have : xs ≠ ys := fun e => h1 (by rw [e])
    simp [sameAllB, this]

set_option maxHeartbeats 800000 in
theorem refAmong {w : World} {u v : Value} {xs : List (List Int)} {y : List Int} (h : Intss w u xs) (h' : Ints w v y) :
    Calls Tryd.prog 35 #[u, v] w fun e w' => e = .returned (.bool (amongB xs y)) ∧ Qt w w' := by
  obtain ⟨a, c, b, off, rfl, ha, hc, hl⟩ := h
  go_enter Tryd.func35, Tryd.ntmps35
  go_wp2
  go_loopw [5] (fun i wr => ∃ k : Nat, k ≤ xs.length ∧ i = .int .i64 k ∧ Hid (y ∉ xs.take k) ∧ Hid (Qt w wr)) (fun i _ => xs.length - (intOf i).toNat)
  case atStart => exact ⟨0, by omega, rfl, by simp [Hid], Qt.refl _⟩
  case round =>
    obtain ⟨k, hk, rfl, hg, hq⟩ := hrel
    by_cases hlt : k < xs.length
    · obtain rfl := ha (by omega)
      obtain ⟨u1, hck, hi⟩ := hc.qt hq.out k hlt
      clear ha hc
      have H := Lib.hid (refSame hi (h'.qt hq.out))
      clear hi
      by_cases hb : sameB (xs.getD k []) y = true
      · rw [hb] at H
        have hy := Lib.hid (of_decide_eq_true hb)
        clear hb
        go_wp2_with (go_at_call 51; refine H.out.mono ?_; rintro e w' ⟨rfl, n1, rfl⟩)
        go_ret
        refine ⟨ret_bool ?_, hq.out.trans (Qt.mk' _ _)⟩
        simp only [amongB, true_eq_decide_iff]
        exact List.mem_iff_getElem.2 ⟨k, hlt, by rw [← getD_eq hlt []]; exact hy.out⟩
      · have hy := Lib.hid (of_decide_eq_false (eq_false_of_ne_true hb))
        rw [eq_false_of_ne_true hb] at H
        clear hb
        go_wp2_with (go_at_call 51; refine H.out.mono ?_; rintro e w' ⟨rfl, n1, rfl⟩)
        go_roundw
        case rel =>
          refine ⟨k + 1, by omega, by go_num, ?_, hq.out.trans (Qt.mk' _ _)⟩
          show y ∉ xs.take (k + 1)
          rw [take_snoc hlt [], List.mem_append, not_or]
          exact ⟨hg.out, by simpa using fun e => hy.out e.symm⟩
        case measure => simp [intOf]; omega
    · clear ha hc
      go_wp2
      go_ret
      refine ⟨ret_bool ?_, hq.out⟩
      have := hg.out
      rw [List.take_of_length_le (by omega)] at this
      simp [amongB, this]

end Go.Proofs.YtpjlaaldepfnkaaDoor

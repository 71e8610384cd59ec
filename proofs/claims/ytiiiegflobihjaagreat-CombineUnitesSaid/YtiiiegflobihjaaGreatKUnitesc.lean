/- Texts of this claim, put together: A2. -/
import Derived.Test.YtiiiegflobihjaaGreatKUnitesb

/- Graphs, sets, rounds: Check of the program and of the reference. -/
namespace Go.Proofs.YtiiiegflobihjaaGreat
open Go.RowKit

theorem ix0 (a b c d e : Value) (w : World) : (Instr.index 47 (.agg #[a, b, c, d, e]) (.int .i64 0)).run Tryz.prog w = .ok a w := by kernel_rfl
theorem ix1 (a b c d e : Value) (w : World) : (Instr.index 47 (.agg #[a, b, c, d, e]) (.int .i64 1)).run Tryz.prog w = .ok b w := by kernel_rfl
theorem ix2 (a b c d e : Value) (w : World) : (Instr.index 47 (.agg #[a, b, c, d, e]) (.int .i64 2)).run Tryz.prog w = .ok c w := by kernel_rfl
theorem ix3 (a b c d e : Value) (w : World) : (Instr.index 47 (.agg #[a, b, c, d, e]) (.int .i64 3)).run Tryz.prog w = .ok d w := by kernel_rfl
theorem ix4 (a b c d e : Value) (w : World) : (Instr.index 47 (.agg #[a, b, c, d, e]) (.int .i64 4)).run Tryz.prog w = .ok e w := by kernel_rfl
theorem hGo_step {n : Int} {p x : Int} {r : List Int} (h : hErr n p x = 0) : hGo n p (x :: r) = hGo n (p + 1) r := by rw [hGo, if_neg (fun k => k h)]
theorem hGo_stop {n : Int} {p x : Int} {r : List Int} (h : hErr n p x ≠ 0) : hGo n p (x :: r) = hErr n p x := by rw [hGo, if_pos h]
theorem hErr_1 {n p x : Int} (h : n ≤ p) (hx : x = 0) : hErr n p x = 0 := by rw [hErr, if_pos h, if_pos hx]
theorem hErr_2 {n p x : Int} (h : n ≤ p) (hx : ¬ x = 0) : hErr n p x = 3 := by rw [hErr, if_pos h, if_neg hx]
theorem hErr_3 {n p x : Int} (h : p < n) (hx : x < 0 ∨ fullI n < x) : hErr n p x = 2 := by rw [hErr, if_neg (by omega), if_pos hx]
theorem hErr_4 {n p x : Int} (h : p < n) (hx : 0 ≤ x ∧ x ≤ fullI n) (hb : hasI x p = false) : hErr n p x = 3 := by rw [hErr, if_neg (by omega), if_neg (by omega), hb]; rfl
theorem hErr_5 {n p x : Int} (h : p < n) (hx : 0 ≤ x ∧ x ≤ fullI n) (hb : hasI x p = true) : hErr n p x = 0 := by rw [hErr, if_neg (by omega), if_neg (by omega), hb]; rfl

set_option maxRecDepth 100000 in
set_option maxHeartbeats 3200000 in
theorem graphCheck (n h0 h1 h2 h3 h4 : Int) (w : World) : Calls Tryz.prog 119 #[.agg #[.int .i64 n, .int .i64 h0, .int .i64 h1, .int .i64 h2, .int .i64 h3, .int .i64 h4]] w fun e w' => e = .returned (.int .i64 (chkGr n [h0, h1, h2, h3, h4])) ∧ Below w.heap.size w w' := by
  by_cases hn : n < 1 ∨ 5 < n
  · have hE := Lib.hid (show chkGr n [h0, h1, h2, h3, h4] = 2 by rw [chkGr, if_pos hn])
    by_cases hn1 : n < 1
    · go_enter Tryz.func119, Tryz.ntmps119
      go_wp2
      go_ret
      exact ⟨ret_int hE.out.symm, (Below.refl _ _).alloc (Nat.le_refl _) _⟩
    · have hn1' : decide (n < 1) = false := by simpa using hn1
      have hn5 : 5 < n := by omega
      go_enter Tryz.func119, Tryz.ntmps119
      go_wp2
      go_ret
      exact ⟨ret_int hE.out.symm, (Below.refl _ _).alloc (Nat.le_refl _) _⟩
  · have hn1 : decide (n < 1) = false := decide_eq_false (by omega)
    have hn5 : decide (5 < n) = false := decide_eq_false (by omega)
    obtain ⟨E, hE⟩ : ∃ E, chkGr n [h0, h1, h2, h3, h4] = E := ⟨_, rfl⟩
    have hE0 := Lib.hid (show hGo n 0 [h0, h1, h2, h3, h4] = E by rw [← hE, chkGr, if_neg hn])
    rw [hE]
    have g1 : 1 ≤ n := by omega
    have g5 : n ≤ 5 := by omega
    have hF := fun W => fullCall n W g1 g5
    obtain ⟨f1, f31⟩ := fullI_le n
    obtain ⟨F, hFe⟩ : ∃ F, fullI n = F := ⟨_, rfl⟩
    rw [hFe] at f1 f31
    simp only [hFe] at hF
    replace hF := Lib.hid hF
    replace hFe := Lib.hid hFe
    clear hn hE
    go_enter Tryz.func119, Tryz.ntmps119
    go_wp2
    have hb := (Below.refl w.heap.size w).alloc (Nat.le_refl _) (.cells #[.int .i64 n, .int .i64 h0, .int .i64 h1, .int .i64 h2, .int .i64 h3, .int .i64 h4] 49)
    go_loop [15] (fun iv => ∃ k : Int, iv = .int .i64 k ∧ ((k = 0 ∧ Hid (hGo n 0 [h0, h1, h2, h3, h4] = E)) ∨ (k = 1 ∧ Hid (hGo n 1 [h1, h2, h3, h4] = E)) ∨ (k = 2 ∧ Hid (hGo n 2 [h2, h3, h4] = E)) ∨ (k = 3 ∧ Hid (hGo n 3 [h3, h4] = E)) ∨ (k = 4 ∧ Hid (hGo n 4 [h4] = E)) ∨ (k = 5 ∧ Hid (hGo n 5 [] = E)))) (fun iv => 5 - (intOf iv).toNat)
    case atStart => exact ⟨0, rfl, .inl ⟨rfl, hE0⟩⟩
    case round =>
      clear hE0
      obtain ⟨k, rfl, hk⟩ := hrel
      rcases hk with ⟨rfl, hg⟩ | ⟨rfl, hg⟩ | ⟨rfl, hg⟩ | ⟨rfl, hg⟩ | ⟨rfl, hg⟩ | ⟨rfl, hg⟩
      · have hix := ix0 (.int .i64 h0) (.int .i64 h1) (.int .i64 h2) (.int .i64 h3) (.int .i64 h4)
        by_cases hp0 : n ≤ 0
        · have hp := Lib.hid hp0
          have hp1 : decide (n ≤ 0) = true := decide_eq_true hp0
          clear hp0
          by_cases hx : h0 = 0
          · have hx' : (h0 != 0) = false := by simp [hx]
            replace hx := Lib.hid hx
            go_wp2
            go_round
            case rel => exact ⟨1, rfl, .inr (.inl ⟨rfl, by show _ = _; rw [← hg.out, hGo_step (hErr_1 hp.out hx.out)]; rfl⟩)⟩
            case measure => simp [intOf]
          · have hx' : (h0 != 0) = true := by simpa using hx
            replace hx := Lib.hid hx
            go_wp2
            go_ret
            exact ⟨ret_int (by rw [← hg.out, hGo_stop (by rw [hErr_2 hp.out hx.out]; decide), hErr_2 hp.out hx.out]), hb⟩
        · have hp := Lib.hid (show 0 < n by omega)
          have hp1 : decide (n ≤ 0) = false := decide_eq_false hp0
          clear hp0
          by_cases hx0 : h0 < 0
          · have hx := Lib.hid (show h0 < 0 ∨ fullI n < h0 from .inl hx0)
            go_wp2
            go_ret
            exact ⟨ret_int (by rw [← hg.out, hGo_stop (by rw [hErr_3 hp.out hx.out]; decide), hErr_3 hp.out hx.out]), hb⟩
          · have hx0' : decide (h0 < 0) = false := decide_eq_false hx0
            by_cases hx1 : F < h0
            · have hx := Lib.hid (show h0 < 0 ∨ fullI n < h0 from .inr (by rw [hFe.out]; exact hx1))
              go_wp2_with (first | (go_at_call 144; refine (hF.out _).mono ?_; rintro e w1 ⟨rfl, rfl⟩))
              go_ret
              exact ⟨ret_int (by rw [← hg.out, hGo_stop (by rw [hErr_3 hp.out hx.out]; decide), hErr_3 hp.out hx.out]), hb⟩
            · have hx1' : decide (F < h0) = false := decide_eq_false hx1
              have hx := Lib.hid (show 0 ≤ h0 ∧ h0 ≤ fullI n by rw [hFe.out]; omega)
              have ha := and1 (x := h0) (p := 0) (by omega) (by omega) (by omega) (by omega)
              by_cases hbit : hasI h0 0 = true
              · rw [hbit, if_pos rfl] at ha
                rw [show twoI 0 = 1 from rfl, Int.ediv_one] at ha
                replace hbit := Lib.hid hbit
                go_wp2_with (first | (go_at_call 144; refine (hF.out _).mono ?_; rintro e w1 ⟨rfl, rfl⟩))
                go_round
                case rel => exact ⟨1, rfl, .inr (.inl ⟨rfl, by show _ = _; rw [← hg.out, hGo_step (hErr_5 hp.out hx.out hbit.out)]; rfl⟩)⟩
                case measure => simp [intOf]
              · replace hbit := eq_false_of_ne_true hbit
                rw [hbit, if_neg (by decide)] at ha
                rw [show twoI 0 = 1 from rfl, Int.ediv_one] at ha
                replace hbit := Lib.hid hbit
                go_wp2_with (first | (go_at_call 144; refine (hF.out _).mono ?_; rintro e w1 ⟨rfl, rfl⟩))
                go_ret
                exact ⟨ret_int (by rw [← hg.out, hGo_stop (by rw [hErr_4 hp.out hx.out hbit.out]; decide), hErr_4 hp.out hx.out hbit.out]), hb⟩
      · have hix := ix1 (.int .i64 h0) (.int .i64 h1) (.int .i64 h2) (.int .i64 h3) (.int .i64 h4)
        by_cases hp0 : n ≤ 1
        · have hp := Lib.hid hp0
          have hp1 : decide (n ≤ 1) = true := decide_eq_true hp0
          clear hp0
          by_cases hx : h1 = 0
          · have hx' : (h1 != 0) = false := by simp [hx]
            replace hx := Lib.hid hx
            go_wp2
            go_round
            case rel => exact ⟨2, rfl, .inr (.inr (.inl ⟨rfl, by show _ = _; rw [← hg.out, hGo_step (hErr_1 hp.out hx.out)]; rfl⟩))⟩
            case measure => simp [intOf]
          · have hx' : (h1 != 0) = true := by simpa using hx
            replace hx := Lib.hid hx
            go_wp2
            go_ret
            exact ⟨ret_int (by rw [← hg.out, hGo_stop (by rw [hErr_2 hp.out hx.out]; decide), hErr_2 hp.out hx.out]), hb⟩
        · have hp := Lib.hid (show 1 < n by omega)
          have hp1 : decide (n ≤ 1) = false := decide_eq_false hp0
          clear hp0
          by_cases hx0 : h1 < 0
          · have hx := Lib.hid (show h1 < 0 ∨ fullI n < h1 from .inl hx0)
            go_wp2
            go_ret
            exact ⟨ret_int (by rw [← hg.out, hGo_stop (by rw [hErr_3 hp.out hx.out]; decide), hErr_3 hp.out hx.out]), hb⟩
          · have hx0' : decide (h1 < 0) = false := decide_eq_false hx0
            by_cases hx1 : F < h1
            · have hx := Lib.hid (show h1 < 0 ∨ fullI n < h1 from .inr (by rw [hFe.out]; exact hx1))
              go_wp2_with (first | (go_at_call 144; refine (hF.out _).mono ?_; rintro e w1 ⟨rfl, rfl⟩))
              go_ret
              exact ⟨ret_int (by rw [← hg.out, hGo_stop (by rw [hErr_3 hp.out hx.out]; decide), hErr_3 hp.out hx.out]), hb⟩
            · have hx1' : decide (F < h1) = false := decide_eq_false hx1
              have hx := Lib.hid (show 0 ≤ h1 ∧ h1 ≤ fullI n by rw [hFe.out]; omega)
              have ha := and1 (x := h1) (p := 1) (by omega) (by omega) (by omega) (by omega)
              by_cases hbit : hasI h1 1 = true
              · rw [hbit, if_pos rfl] at ha
                rw [show twoI 1 = 2 from rfl] at ha
                replace hbit := Lib.hid hbit
                go_wp2_with (first | (go_at_call 144; refine (hF.out _).mono ?_; rintro e w1 ⟨rfl, rfl⟩))
                go_round
                case rel => exact ⟨2, rfl, .inr (.inr (.inl ⟨rfl, by show _ = _; rw [← hg.out, hGo_step (hErr_5 hp.out hx.out hbit.out)]; rfl⟩))⟩
                case measure => simp [intOf]
              · replace hbit := eq_false_of_ne_true hbit
                rw [hbit, if_neg (by decide)] at ha
                rw [show twoI 1 = 2 from rfl] at ha
                replace hbit := Lib.hid hbit
                go_wp2_with (first | (go_at_call 144; refine (hF.out _).mono ?_; rintro e w1 ⟨rfl, rfl⟩))
                go_ret
                exact ⟨ret_int (by rw [← hg.out, hGo_stop (by rw [hErr_4 hp.out hx.out hbit.out]; decide), hErr_4 hp.out hx.out hbit.out]), hb⟩
      · have hix := ix2 (.int .i64 h0) (.int .i64 h1) (.int .i64 h2) (.int .i64 h3) (.int .i64 h4)
        by_cases hp0 : n ≤ 2
        · have hp := Lib.hid hp0
          have hp1 : decide (n ≤ 2) = true := decide_eq_true hp0
          clear hp0
          by_cases hx : h2 = 0
          · have hx' : (h2 != 0) = false := by simp [hx]
            replace hx := Lib.hid hx
            go_wp2
            go_round
            case rel => exact ⟨3, rfl, .inr (.inr (.inr (.inl ⟨rfl, by show _ = _; rw [← hg.out, hGo_step (hErr_1 hp.out hx.out)]; rfl⟩)))⟩
            case measure => simp [intOf]
          · have hx' : (h2 != 0) = true := by simpa using hx
            replace hx := Lib.hid hx
            go_wp2
            go_ret
            exact ⟨ret_int (by rw [← hg.out, hGo_stop (by rw [hErr_2 hp.out hx.out]; decide), hErr_2 hp.out hx.out]), hb⟩
        · have hp := Lib.hid (show 2 < n by omega)
          have hp1 : decide (n ≤ 2) = false := decide_eq_false hp0
          clear hp0
          by_cases hx0 : h2 < 0
          · have hx := Lib.hid (show h2 < 0 ∨ fullI n < h2 from .inl hx0)
            go_wp2
            go_ret
            exact ⟨ret_int (by rw [← hg.out, hGo_stop (by rw [hErr_3 hp.out hx.out]; decide), hErr_3 hp.out hx.out]), hb⟩
          · have hx0' : decide (h2 < 0) = false := decide_eq_false hx0
            by_cases hx1 : F < h2
            · have hx := Lib.hid (show h2 < 0 ∨ fullI n < h2 from .inr (by rw [hFe.out]; exact hx1))
              go_wp2_with (first | (go_at_call 144; refine (hF.out _).mono ?_; rintro e w1 ⟨rfl, rfl⟩))
              go_ret
              exact ⟨ret_int (by rw [← hg.out, hGo_stop (by rw [hErr_3 hp.out hx.out]; decide), hErr_3 hp.out hx.out]), hb⟩
            · have hx1' : decide (F < h2) = false := decide_eq_false hx1
              have hx := Lib.hid (show 0 ≤ h2 ∧ h2 ≤ fullI n by rw [hFe.out]; omega)
              have ha := and1 (x := h2) (p := 2) (by omega) (by omega) (by omega) (by omega)
              by_cases hbit : hasI h2 2 = true
              · rw [hbit, if_pos rfl] at ha
                rw [show twoI 2 = 4 from rfl] at ha
                replace hbit := Lib.hid hbit
                go_wp2_with (first | (go_at_call 144; refine (hF.out _).mono ?_; rintro e w1 ⟨rfl, rfl⟩))
                go_round
                case rel => exact ⟨3, rfl, .inr (.inr (.inr (.inl ⟨rfl, by show _ = _; rw [← hg.out, hGo_step (hErr_5 hp.out hx.out hbit.out)]; rfl⟩)))⟩
                case measure => simp [intOf]
              · replace hbit := eq_false_of_ne_true hbit
                rw [hbit, if_neg (by decide)] at ha
                rw [show twoI 2 = 4 from rfl] at ha
                replace hbit := Lib.hid hbit
                go_wp2_with (first | (go_at_call 144; refine (hF.out _).mono ?_; rintro e w1 ⟨rfl, rfl⟩))
                go_ret
                exact ⟨ret_int (by rw [← hg.out, hGo_stop (by rw [hErr_4 hp.out hx.out hbit.out]; decide), hErr_4 hp.out hx.out hbit.out]), hb⟩
      · have hix := ix3 (.int .i64 h0) (.int .i64 h1) (.int .i64 h2) (.int .i64 h3) (.int .i64 h4)
        by_cases hp0 : n ≤ 3
        · have hp := Lib.hid hp0
          have hp1 : decide (n ≤ 3) = true := decide_eq_true hp0
          clear hp0
          by_cases hx : h3 = 0
          · have hx' : (h3 != 0) = false := by simp [hx]
            replace hx := Lib.hid hx
            go_wp2
            go_round
            case rel => exact ⟨4, rfl, .inr (.inr (.inr (.inr (.inl ⟨rfl, by show _ = _; rw [← hg.out, hGo_step (hErr_1 hp.out hx.out)]; rfl⟩))))⟩
            case measure => simp [intOf]
          · have hx' : (h3 != 0) = true := by simpa using hx
            replace hx := Lib.hid hx
            go_wp2
            go_ret
            exact ⟨ret_int (by rw [← hg.out, hGo_stop (by rw [hErr_2 hp.out hx.out]; decide), hErr_2 hp.out hx.out]), hb⟩
        · have hp := Lib.hid (show 3 < n by omega)
          have hp1 : decide (n ≤ 3) = false := decide_eq_false hp0
          clear hp0
          by_cases hx0 : h3 < 0
          · have hx := Lib.hid (show h3 < 0 ∨ fullI n < h3 from .inl hx0)
            go_wp2
            go_ret
            exact ⟨ret_int (by rw [← hg.out, hGo_stop (by rw [hErr_3 hp.out hx.out]; decide), hErr_3 hp.out hx.out]), hb⟩
          · have hx0' : decide (h3 < 0) = false := decide_eq_false hx0
            by_cases hx1 : F < h3
            · have hx := Lib.hid (show h3 < 0 ∨ fullI n < h3 from .inr (by rw [hFe.out]; exact hx1))
              go_wp2_with (first | (go_at_call 144; refine (hF.out _).mono ?_; rintro e w1 ⟨rfl, rfl⟩))
              go_ret
              exact ⟨ret_int (by rw [← hg.out, hGo_stop (by rw [hErr_3 hp.out hx.out]; decide), hErr_3 hp.out hx.out]), hb⟩
            · have hx1' : decide (F < h3) = false := decide_eq_false hx1
              have hx := Lib.hid (show 0 ≤ h3 ∧ h3 ≤ fullI n by rw [hFe.out]; omega)
              have ha := and1 (x := h3) (p := 3) (by omega) (by omega) (by omega) (by omega)
              by_cases hbit : hasI h3 3 = true
              · rw [hbit, if_pos rfl] at ha
                rw [show twoI 3 = 8 from rfl] at ha
                replace hbit := Lib.hid hbit
                go_wp2_with (first | (go_at_call 144; refine (hF.out _).mono ?_; rintro e w1 ⟨rfl, rfl⟩))
                go_round
                case rel => exact ⟨4, rfl, .inr (.inr (.inr (.inr (.inl ⟨rfl, by show _ = _; rw [← hg.out, hGo_step (hErr_5 hp.out hx.out hbit.out)]; rfl⟩))))⟩
                case measure => simp [intOf]
              · replace hbit := eq_false_of_ne_true hbit
                rw [hbit, if_neg (by decide)] at ha
                rw [show twoI 3 = 8 from rfl] at ha
                replace hbit := Lib.hid hbit
                go_wp2_with (first | (go_at_call 144; refine (hF.out _).mono ?_; rintro e w1 ⟨rfl, rfl⟩))
                go_ret
                exact ⟨ret_int (by rw [← hg.out, hGo_stop (by rw [hErr_4 hp.out hx.out hbit.out]; decide), hErr_4 hp.out hx.out hbit.out]), hb⟩
      · have hix := ix4 (.int .i64 h0) (.int .i64 h1) (.int .i64 h2) (.int .i64 h3) (.int .i64 h4)
        by_cases hp0 : n ≤ 4
        · have hp := Lib.hid hp0
          have hp1 : decide (n ≤ 4) = true := decide_eq_true hp0
          clear hp0
          by_cases hx : h4 = 0
          · have hx' : (h4 != 0) = false := by simp [hx]
            replace hx := Lib.hid hx
            go_wp2
            go_round
            case rel => exact ⟨5, rfl, .inr (.inr (.inr (.inr (.inr (⟨rfl, by show _ = _; rw [← hg.out, hGo_step (hErr_1 hp.out hx.out)]; rfl⟩)))))⟩
            case measure => simp [intOf]
          · have hx' : (h4 != 0) = true := by simpa using hx
            replace hx := Lib.hid hx
            go_wp2
            go_ret
            exact ⟨ret_int (by rw [← hg.out, hGo_stop (by rw [hErr_2 hp.out hx.out]; decide), hErr_2 hp.out hx.out]), hb⟩
        · have hp := Lib.hid (show 4 < n by omega)
          have hp1 : decide (n ≤ 4) = false := decide_eq_false hp0
          clear hp0
          by_cases hx0 : h4 < 0
          · have hx := Lib.hid (show h4 < 0 ∨ fullI n < h4 from .inl hx0)
            go_wp2
            go_ret
            exact ⟨ret_int (by rw [← hg.out, hGo_stop (by rw [hErr_3 hp.out hx.out]; decide), hErr_3 hp.out hx.out]), hb⟩
          · have hx0' : decide (h4 < 0) = false := decide_eq_false hx0
            by_cases hx1 : F < h4
            · have hx := Lib.hid (show h4 < 0 ∨ fullI n < h4 from .inr (by rw [hFe.out]; exact hx1))
              go_wp2_with (first | (go_at_call 144; refine (hF.out _).mono ?_; rintro e w1 ⟨rfl, rfl⟩))
              go_ret
              exact ⟨ret_int (by rw [← hg.out, hGo_stop (by rw [hErr_3 hp.out hx.out]; decide), hErr_3 hp.out hx.out]), hb⟩
            · have hx1' : decide (F < h4) = false := decide_eq_false hx1
              have hx := Lib.hid (show 0 ≤ h4 ∧ h4 ≤ fullI n by rw [hFe.out]; omega)
              have ha := and1 (x := h4) (p := 4) (by omega) (by omega) (by omega) (by omega)
              by_cases hbit : hasI h4 4 = true
              · rw [hbit, if_pos rfl] at ha
                rw [show twoI 4 = 16 from rfl] at ha
                replace hbit := Lib.hid hbit
                go_wp2_with (first | (go_at_call 144; refine (hF.out _).mono ?_; rintro e w1 ⟨rfl, rfl⟩))
                go_round
                case rel => exact ⟨5, rfl, .inr (.inr (.inr (.inr (.inr (⟨rfl, by show _ = _; rw [← hg.out, hGo_step (hErr_5 hp.out hx.out hbit.out)]; rfl⟩)))))⟩
                case measure => simp [intOf]
              · replace hbit := eq_false_of_ne_true hbit
                rw [hbit, if_neg (by decide)] at ha
                rw [show twoI 4 = 16 from rfl] at ha
                replace hbit := Lib.hid hbit
                go_wp2_with (first | (go_at_call 144; refine (hF.out _).mono ?_; rintro e w1 ⟨rfl, rfl⟩))
                go_ret
                exact ⟨ret_int (by rw [← hg.out, hGo_stop (by rw [hErr_4 hp.out hx.out hbit.out]; decide), hErr_4 hp.out hx.out hbit.out]), hb⟩
      · go_wp2
        go_ret
        exact ⟨ret_int (by rw [← hg.out]; rfl), hb⟩

set_option maxRecDepth 100000 in
set_option maxHeartbeats 3200000 in
theorem refGraphCheck (n h0 h1 h2 h3 h4 : Int) (w : World) : Calls Tryz.prog 137 #[.agg #[.int .i64 n, .int .i64 h0, .int .i64 h1, .int .i64 h2, .int .i64 h3, .int .i64 h4]] w fun e w' => e = .returned (.int .i64 (chkGr n [h0, h1, h2, h3, h4])) ∧ Below w.heap.size w w' := by
  by_cases hn : n < 1 ∨ 5 < n
  · have hE := Lib.hid (show chkGr n [h0, h1, h2, h3, h4] = 2 by rw [chkGr, if_pos hn])
    by_cases hn1 : n < 1
    · go_enter Tryz.func137, Tryz.ntmps137
      go_wp2
      go_ret
      exact ⟨ret_int hE.out.symm, (Below.refl _ _).alloc (Nat.le_refl _) _⟩
    · have hn1' : decide (n < 1) = false := by simpa using hn1
      have hn5 : 5 < n := by omega
      go_enter Tryz.func137, Tryz.ntmps137
      go_wp2
      go_ret
      exact ⟨ret_int hE.out.symm, (Below.refl _ _).alloc (Nat.le_refl _) _⟩
  · have hn1 : decide (n < 1) = false := decide_eq_false (by omega)
    have hn5 : decide (5 < n) = false := decide_eq_false (by omega)
    obtain ⟨E, hE⟩ : ∃ E, chkGr n [h0, h1, h2, h3, h4] = E := ⟨_, rfl⟩
    have hE0 := Lib.hid (show hGo n 0 [h0, h1, h2, h3, h4] = E by rw [← hE, chkGr, if_neg hn])
    rw [hE]
    have g1 : 1 ≤ n := by omega
    have g5 : n ≤ 5 := by omega
    have hF := fun W => refFull n W g1 g5
    obtain ⟨f1, f31⟩ := fullI_le n
    obtain ⟨F, hFe⟩ : ∃ F, fullI n = F := ⟨_, rfl⟩
    rw [hFe] at f1 f31
    simp only [hFe] at hF
    replace hF := Lib.hid hF
    replace hFe := Lib.hid hFe
    clear hn hE
    go_enter Tryz.func137, Tryz.ntmps137
    go_wp2
    have hb := (Below.refl w.heap.size w).alloc (Nat.le_refl _) (.cells #[.int .i64 n, .int .i64 h0, .int .i64 h1, .int .i64 h2, .int .i64 h3, .int .i64 h4] 49)
    go_loop [3] (fun iv => ∃ k : Int, iv = .int .i64 k ∧ ((k = 0 ∧ Hid (hGo n 0 [h0, h1, h2, h3, h4] = E)) ∨ (k = 1 ∧ Hid (hGo n 1 [h1, h2, h3, h4] = E)) ∨ (k = 2 ∧ Hid (hGo n 2 [h2, h3, h4] = E)) ∨ (k = 3 ∧ Hid (hGo n 3 [h3, h4] = E)) ∨ (k = 4 ∧ Hid (hGo n 4 [h4] = E)) ∨ (k = 5 ∧ Hid (hGo n 5 [] = E)))) (fun iv => 5 - (intOf iv).toNat)
    case atStart => exact ⟨0, rfl, .inl ⟨rfl, hE0⟩⟩
    case round =>
      clear hE0
      obtain ⟨k, rfl, hk⟩ := hrel
      rcases hk with ⟨rfl, hg⟩ | ⟨rfl, hg⟩ | ⟨rfl, hg⟩ | ⟨rfl, hg⟩ | ⟨rfl, hg⟩ | ⟨rfl, hg⟩
      · have hix := ix0 (.int .i64 h0) (.int .i64 h1) (.int .i64 h2) (.int .i64 h3) (.int .i64 h4)
        by_cases hp0 : n ≤ 0
        · have hp := Lib.hid hp0
          have hp1 : decide (n ≤ 0) = true := decide_eq_true hp0
          clear hp0
          by_cases hx : h0 = 0
          · have hx' : (h0 != 0) = false := by simp [hx]
            replace hx := Lib.hid hx
            go_wp2
            go_round
            case rel => exact ⟨1, rfl, .inr (.inl ⟨rfl, by show _ = _; rw [← hg.out, hGo_step (hErr_1 hp.out hx.out)]; rfl⟩)⟩
            case measure => simp [intOf]
          · have hx' : (h0 != 0) = true := by simpa using hx
            replace hx := Lib.hid hx
            go_wp2
            go_ret
            exact ⟨ret_int (by rw [← hg.out, hGo_stop (by rw [hErr_2 hp.out hx.out]; decide), hErr_2 hp.out hx.out]), hb⟩
        · have hp := Lib.hid (show 0 < n by omega)
          have hp1 : decide (n ≤ 0) = false := decide_eq_false hp0
          clear hp0
          by_cases hx0 : h0 < 0
          · have hx := Lib.hid (show h0 < 0 ∨ fullI n < h0 from .inl hx0)
            go_wp2
            go_ret
            exact ⟨ret_int (by rw [← hg.out, hGo_stop (by rw [hErr_3 hp.out hx.out]; decide), hErr_3 hp.out hx.out]), hb⟩
          · have hx0' : decide (h0 < 0) = false := decide_eq_false hx0
            by_cases hx1 : F < h0
            · have hx := Lib.hid (show h0 < 0 ∨ fullI n < h0 from .inr (by rw [hFe.out]; exact hx1))
              go_wp2_with (first | (go_at_call 159; refine (hF.out _).mono ?_; rintro e w1 ⟨rfl, rfl⟩) | (go_at_call 135; refine (refHas _ _ _ (by omega) (by omega) (by omega) (by omega)).mono ?_; rintro e w2 ⟨rfl, rfl⟩; rw [hbit]))
              go_ret
              exact ⟨ret_int (by rw [← hg.out, hGo_stop (by rw [hErr_3 hp.out hx.out]; decide), hErr_3 hp.out hx.out]), hb⟩
            · have hx1' : decide (F < h0) = false := decide_eq_false hx1
              have hx := Lib.hid (show 0 ≤ h0 ∧ h0 ≤ fullI n by rw [hFe.out]; omega)
              have ha := and1 (x := h0) (p := 0) (by omega) (by omega) (by omega) (by omega)
              by_cases hbit : hasI h0 0 = true
              · clear ha
                go_wp2_with (first | (go_at_call 159; refine (hF.out _).mono ?_; rintro e w1 ⟨rfl, rfl⟩) | (go_at_call 135; refine (refHas _ _ _ (by omega) (by omega) (by omega) (by omega)).mono ?_; rintro e w2 ⟨rfl, rfl⟩; rw [hbit]))
                go_round
                case rel => exact ⟨1, rfl, .inr (.inl ⟨rfl, by show _ = _; rw [← hg.out, hGo_step (hErr_5 hp.out hx.out hbit)]; rfl⟩)⟩
                case measure => simp [intOf]
              · replace hbit := eq_false_of_ne_true hbit
                clear ha
                go_wp2_with (first | (go_at_call 159; refine (hF.out _).mono ?_; rintro e w1 ⟨rfl, rfl⟩) | (go_at_call 135; refine (refHas _ _ _ (by omega) (by omega) (by omega) (by omega)).mono ?_; rintro e w2 ⟨rfl, rfl⟩; rw [hbit]))
                go_ret
                exact ⟨ret_int (by rw [← hg.out, hGo_stop (by rw [hErr_4 hp.out hx.out hbit]; decide), hErr_4 hp.out hx.out hbit]), hb⟩
      · have hix := ix1 (.int .i64 h0) (.int .i64 h1) (.int .i64 h2) (.int .i64 h3) (.int .i64 h4)
        by_cases hp0 : n ≤ 1
        · have hp := Lib.hid hp0
          have hp1 : decide (n ≤ 1) = true := decide_eq_true hp0
          clear hp0
          by_cases hx : h1 = 0
          · have hx' : (h1 != 0) = false := by simp [hx]
            replace hx := Lib.hid hx
            go_wp2
            go_round
            case rel => exact ⟨2, rfl, .inr (.inr (.inl ⟨rfl, by show _ = _; rw [← hg.out, hGo_step (hErr_1 hp.out hx.out)]; rfl⟩))⟩
            case measure => simp [intOf]
          · have hx' : (h1 != 0) = true := by simpa using hx
            replace hx := Lib.hid hx
            go_wp2
            go_ret
            exact ⟨ret_int (by rw [← hg.out, hGo_stop (by rw [hErr_2 hp.out hx.out]; decide), hErr_2 hp.out hx.out]), hb⟩
        · have hp := Lib.hid (show 1 < n by omega)
          have hp1 : decide (n ≤ 1) = false := decide_eq_false hp0
          clear hp0
          by_cases hx0 : h1 < 0
          · have hx := Lib.hid (show h1 < 0 ∨ fullI n < h1 from .inl hx0)
            go_wp2
            go_ret
            exact ⟨ret_int (by rw [← hg.out, hGo_stop (by rw [hErr_3 hp.out hx.out]; decide), hErr_3 hp.out hx.out]), hb⟩
          · have hx0' : decide (h1 < 0) = false := decide_eq_false hx0
            by_cases hx1 : F < h1
            · have hx := Lib.hid (show h1 < 0 ∨ fullI n < h1 from .inr (by rw [hFe.out]; exact hx1))
              go_wp2_with (first | (go_at_call 159; refine (hF.out _).mono ?_; rintro e w1 ⟨rfl, rfl⟩) | (go_at_call 135; refine (refHas _ _ _ (by omega) (by omega) (by omega) (by omega)).mono ?_; rintro e w2 ⟨rfl, rfl⟩; rw [hbit]))
              go_ret
              exact ⟨ret_int (by rw [← hg.out, hGo_stop (by rw [hErr_3 hp.out hx.out]; decide), hErr_3 hp.out hx.out]), hb⟩
            · have hx1' : decide (F < h1) = false := decide_eq_false hx1
              have hx := Lib.hid (show 0 ≤ h1 ∧ h1 ≤ fullI n by rw [hFe.out]; omega)
              have ha := and1 (x := h1) (p := 1) (by omega) (by omega) (by omega) (by omega)
              by_cases hbit : hasI h1 1 = true
              · clear ha
                go_wp2_with (first | (go_at_call 159; refine (hF.out _).mono ?_; rintro e w1 ⟨rfl, rfl⟩) | (go_at_call 135; refine (refHas _ _ _ (by omega) (by omega) (by omega) (by omega)).mono ?_; rintro e w2 ⟨rfl, rfl⟩; rw [hbit]))
                go_round
                case rel => exact ⟨2, rfl, .inr (.inr (.inl ⟨rfl, by show _ = _; rw [← hg.out, hGo_step (hErr_5 hp.out hx.out hbit)]; rfl⟩))⟩
                case measure => simp [intOf]
              · replace hbit := eq_false_of_ne_true hbit
                clear ha
                go_wp2_with (first | (go_at_call 159; refine (hF.out _).mono ?_; rintro e w1 ⟨rfl, rfl⟩) | (go_at_call 135; refine (refHas _ _ _ (by omega) (by omega) (by omega) (by omega)).mono ?_; rintro e w2 ⟨rfl, rfl⟩; rw [hbit]))
                go_ret
                exact ⟨ret_int (by rw [← hg.out, hGo_stop (by rw [hErr_4 hp.out hx.out hbit]; decide), hErr_4 hp.out hx.out hbit]), hb⟩
      · have hix := ix2 (.int .i64 h0) (.int .i64 h1) (.int .i64 h2) (.int .i64 h3) (.int .i64 h4)
        by_cases hp0 : n ≤ 2
        · have hp := Lib.hid hp0
          have hp1 : decide (n ≤ 2) = true := decide_eq_true hp0
          clear hp0
          by_cases hx : h2 = 0
          · have hx' : (h2 != 0) = false := by simp [hx]
            replace hx := Lib.hid hx
            go_wp2
            go_round
            case rel => exact ⟨3, rfl, .inr (.inr (.inr (.inl ⟨rfl, by show _ = _; rw [← hg.out, hGo_step (hErr_1 hp.out hx.out)]; rfl⟩)))⟩
            case measure => simp [intOf]
          · have hx' : (h2 != 0) = true := by simpa using hx
            replace hx := Lib.hid hx
            go_wp2
            go_ret
            exact ⟨ret_int (by rw [← hg.out, hGo_stop (by rw [hErr_2 hp.out hx.out]; decide), hErr_2 hp.out hx.out]), hb⟩
        · have hp := Lib.hid (show 2 < n by omega)
          have hp1 : decide (n ≤ 2) = false := decide_eq_false hp0
          clear hp0
          by_cases hx0 : h2 < 0
          · have hx := Lib.hid (show h2 < 0 ∨ fullI n < h2 from .inl hx0)
            go_wp2
            go_ret
            exact ⟨ret_int (by rw [← hg.out, hGo_stop (by rw [hErr_3 hp.out hx.out]; decide), hErr_3 hp.out hx.out]), hb⟩
          · have hx0' : decide (h2 < 0) = false := decide_eq_false hx0
            by_cases hx1 : F < h2
            · have hx := Lib.hid (show h2 < 0 ∨ fullI n < h2 from .inr (by rw [hFe.out]; exact hx1))
              go_wp2_with (first | (go_at_call 159; refine (hF.out _).mono ?_; rintro e w1 ⟨rfl, rfl⟩) | (go_at_call 135; refine (refHas _ _ _ (by omega) (by omega) (by omega) (by omega)).mono ?_; rintro e w2 ⟨rfl, rfl⟩; rw [hbit]))
              go_ret
              exact ⟨ret_int (by rw [← hg.out, hGo_stop (by rw [hErr_3 hp.out hx.out]; decide), hErr_3 hp.out hx.out]), hb⟩
            · have hx1' : decide (F < h2) = false := decide_eq_false hx1
              have hx := Lib.hid (show 0 ≤ h2 ∧ h2 ≤ fullI n by rw [hFe.out]; omega)
              have ha := and1 (x := h2) (p := 2) (by omega) (by omega) (by omega) (by omega)
              by_cases hbit : hasI h2 2 = true
              · clear ha
                go_wp2_with (first | (go_at_call 159; refine (hF.out _).mono ?_; rintro e w1 ⟨rfl, rfl⟩) | (go_at_call 135; refine (refHas _ _ _ (by omega) (by omega) (by omega) (by omega)).mono ?_; rintro e w2 ⟨rfl, rfl⟩; rw [hbit]))
                go_round
                case rel => exact ⟨3, rfl, .inr (.inr (.inr (.inl ⟨rfl, by show _ = _; rw [← hg.out, hGo_step (hErr_5 hp.out hx.out hbit)]; rfl⟩)))⟩
                case measure => simp [intOf]
              · replace hbit := eq_false_of_ne_true hbit
                clear ha
                go_wp2_with (first | (go_at_call 159; refine (hF.out _).mono ?_; rintro e w1 ⟨rfl, rfl⟩) | (go_at_call 135; refine (refHas _ _ _ (by omega) (by omega) (by omega) (by omega)).mono ?_; rintro e w2 ⟨rfl, rfl⟩; rw [hbit]))
                go_ret
                exact ⟨ret_int (by rw [← hg.out, hGo_stop (by rw [hErr_4 hp.out hx.out hbit]; decide), hErr_4 hp.out hx.out hbit]), hb⟩
      · have hix := ix3 (.int .i64 h0) (.int .i64 h1) (.int .i64 h2) (.int .i64 h3) (.int .i64 h4)
        by_cases hp0 : n ≤ 3
        · have hp := Lib.hid hp0
          have hp1 : decide (n ≤ 3) = true := decide_eq_true hp0
          clear hp0
          by_cases hx : h3 = 0
          · have hx' : (h3 != 0) = false := by simp [hx]
            replace hx := Lib.hid hx
            go_wp2
            go_round
            case rel => exact ⟨4, rfl, .inr (.inr (.inr (.inr (.inl ⟨rfl, by show _ = _; rw [← hg.out, hGo_step (hErr_1 hp.out hx.out)]; rfl⟩))))⟩
            case measure => simp [intOf]
          · have hx' : (h3 != 0) = true := by simpa using hx
            replace hx := Lib.hid hx
            go_wp2
            go_ret
            exact ⟨ret_int (by rw [← hg.out, hGo_stop (by rw [hErr_2 hp.out hx.out]; decide), hErr_2 hp.out hx.out]), hb⟩
        · have hp := Lib.hid (show 3 < n by omega)
          have hp1 : decide (n ≤ 3) = false := decide_eq_false hp0
          clear hp0
          by_cases hx0 : h3 < 0
          · have hx := Lib.hid (show h3 < 0 ∨ fullI n < h3 from .inl hx0)
            go_wp2
            go_ret
            exact ⟨ret_int (by rw [← hg.out, hGo_stop (by rw [hErr_3 hp.out hx.out]; decide), hErr_3 hp.out hx.out]), hb⟩
          · have hx0' : decide (h3 < 0) = false := decide_eq_false hx0
            by_cases hx1 : F < h3
            · have hx := Lib.hid (show h3 < 0 ∨ fullI n < h3 from .inr (by rw [hFe.out]; exact hx1))
              go_wp2_with (first | (go_at_call 159; refine (hF.out _).mono ?_; rintro e w1 ⟨rfl, rfl⟩) | (go_at_call 135; refine (refHas _ _ _ (by omega) (by omega) (by omega) (by omega)).mono ?_; rintro e w2 ⟨rfl, rfl⟩; rw [hbit]))
              go_ret
              exact ⟨ret_int (by rw [← hg.out, hGo_stop (by rw [hErr_3 hp.out hx.out]; decide), hErr_3 hp.out hx.out]), hb⟩
            · have hx1' : decide (F < h3) = false := decide_eq_false hx1
              have hx := Lib.hid (show 0 ≤ h3 ∧ h3 ≤ fullI n by rw [hFe.out]; omega)
              have ha := and1 (x := h3) (p := 3) (by omega) (by omega) (by omega) (by omega)
              by_cases hbit : hasI h3 3 = true
              · clear ha
                go_wp2_with (first | (go_at_call 159; refine (hF.out _).mono ?_; rintro e w1 ⟨rfl, rfl⟩) | (go_at_call 135; refine (refHas _ _ _ (by omega) (by omega) (by omega) (by omega)).mono ?_; rintro e w2 ⟨rfl, rfl⟩; rw [hbit]))
                go_round
                case rel => exact ⟨4, rfl, .inr (.inr (.inr (.inr (.inl ⟨rfl, by show _ = _; rw [← hg.out, hGo_step (hErr_5 hp.out hx.out hbit)]; rfl⟩))))⟩
                case measure => simp [intOf]
              · replace hbit := eq_false_of_ne_true hbit
                clear ha
                go_wp2_with (first | (go_at_call 159; refine (hF.out _).mono ?_; rintro e w1 ⟨rfl, rfl⟩) | (go_at_call 135; refine (refHas _ _ _ (by omega) (by omega) (by omega) (by omega)).mono ?_; rintro e w2 ⟨rfl, rfl⟩; rw [hbit]))
                go_ret
                exact ⟨ret_int (by rw [← hg.out, hGo_stop (by rw [hErr_4 hp.out hx.out hbit]; decide), hErr_4 hp.out hx.out hbit]), hb⟩
      · have hix := ix4 (.int .i64 h0) (.int .i64 h1) (.int .i64 h2) (.int .i64 h3) (.int .i64 h4)
        by_cases hp0 : n ≤ 4
        · have hp := Lib.hid hp0
          have hp1 : decide (n ≤ 4) = true := decide_eq_true hp0
          clear hp0
          by_cases hx : h4 = 0
          · have hx' : (h4 != 0) = false := by simp [hx]
            replace hx := Lib.hid hx
            go_wp2
            go_round
            case rel => exact ⟨5, rfl, .inr (.inr (.inr (.inr (.inr (⟨rfl, by show _ = _; rw [← hg.out, hGo_step (hErr_1 hp.out hx.out)]; rfl⟩)))))⟩
            case measure => simp [intOf]
          · have hx' : (h4 != 0) = true := by simpa using hx
            replace hx := Lib.hid hx
            go_wp2
            go_ret
            exact ⟨ret_int (by rw [← hg.out, hGo_stop (by rw [hErr_2 hp.out hx.out]; decide), hErr_2 hp.out hx.out]), hb⟩
        · have hp := Lib.hid (show 4 < n by omega)
          have hp1 : decide (n ≤ 4) = false := decide_eq_false hp0
          clear hp0
          by_cases hx0 : h4 < 0
          · have hx := Lib.hid (show h4 < 0 ∨ fullI n < h4 from .inl hx0)
            go_wp2
            go_ret
            exact ⟨ret_int (by rw [← hg.out, hGo_stop (by rw [hErr_3 hp.out hx.out]; decide), hErr_3 hp.out hx.out]), hb⟩
          · have hx0' : decide (h4 < 0) = false := decide_eq_false hx0
            by_cases hx1 : F < h4
            · have hx := Lib.hid (show h4 < 0 ∨ fullI n < h4 from .inr (by rw [hFe.out]; exact hx1))
              go_wp2_with (first | (go_at_call 159; refine (hF.out _).mono ?_; rintro e w1 ⟨rfl, rfl⟩) | (go_at_call 135; refine (refHas _ _ _ (by omega) (by omega) (by omega) (by omega)).mono ?_; rintro e w2 ⟨rfl, rfl⟩; rw [hbit]))
              go_ret
              exact ⟨ret_int (by rw [← hg.out, hGo_stop (by rw [hErr_3 hp.out hx.out]; decide), hErr_3 hp.out hx.out]), hb⟩
            · have hx1' : decide (F < h4) = false := decide_eq_false hx1
              have hx := Lib.hid (show 0 ≤ h4 ∧ h4 ≤ fullI n by rw [hFe.out]; omega)
              have ha := and1 (x := h4) (p := 4) (by omega) (by omega) (by omega) (by omega)
              by_cases hbit : hasI h4 4 = true
              · clear ha
                go_wp2_with (first | (go_at_call 159; refine (hF.out _).mono ?_; rintro e w1 ⟨rfl, rfl⟩) | (go_at_call 135; refine (refHas _ _ _ (by omega) (by omega) (by omega) (by omega)).mono ?_; rintro e w2 ⟨rfl, rfl⟩; rw [hbit]))
                go_round
                case rel => exact ⟨5, rfl, .inr (.inr (.inr (.inr (.inr (⟨rfl, by show _ = _; rw [← hg.out, hGo_step (hErr_5 hp.out hx.out hbit)]; rfl⟩)))))⟩
                case measure => simp [intOf]
              · replace hbit := eq_false_of_ne_true hbit
                clear ha
                go_wp2_with (first | (go_at_call 159; refine (hF.out _).mono ?_; rintro e w1 ⟨rfl, rfl⟩) | (go_at_call 135; refine (refHas _ _ _ (by omega) (by omega) (by omega) (by omega)).mono ?_; rintro e w2 ⟨rfl, rfl⟩; rw [hbit]))
                go_ret
                exact ⟨ret_int (by rw [← hg.out, hGo_stop (by rw [hErr_4 hp.out hx.out hbit]; decide), hErr_4 hp.out hx.out hbit]), hb⟩
      · go_wp2
        go_ret
        exact ⟨ret_int (by rw [← hg.out]; rfl), hb⟩

end Go.Proofs.YtiiiegflobihjaaGreat

/- The walks of Few, List, right. -/
import Derived.Test.YtpjlaaldepfnkaaDoorWa
namespace Go.Proofs.YtpjlaaldepfnkaaDoor
open Go.RowKit

def fewHd (l : List (List Int)) : Bool := (l.take 41).all (fun a => decide (a.length ≤ 60))
theorem fewHd_false {l : List (List Int)} {k : Nat} (h : k < l.length) (h41 : k ≤ 40) (hk : 60 < (l.getD k []).length) : fewB l = false := by
  have : (l.take 41).all (fun a => decide (a.length ≤ 60)) = false := by
    rw [List.all_eq_false]
    refine ⟨l.getD k [], ?_, fun h => by have := of_decide_eq_true h; omega⟩
    rw [getD_eq h, List.mem_iff_getElem?]
    exact ⟨k, by rw [List.getElem?_take, if_pos (by omega), List.getElem?_eq_getElem h]⟩
  simp [fewB, this]
theorem fewB_end {l : List (List Int)} {k : Nat} (hp : ∀ j, j < k → (l.getD j []).length ≤ 60) (hend : l.length ≤ k ∨ 40 < k) :
    fewB l = (decide (l.length ≤ 40) || decide (1024 < l.length)) := by
  have : (l.take 41).all (fun a => decide (a.length ≤ 60)) = true := by
    rw [List.all_eq_true]
    intro a ha
    obtain ⟨j, hj⟩ := List.mem_iff_getElem?.1 ha
    rw [List.getElem?_take] at hj
    split at hj
    · have := hp j (by have := (List.getElem?_eq_some_iff.1 hj).1; omega)
      rw [List.getD_eq_getElem?_getD, hj] at this
      simpa using this
    · cases hj
  simp [fewB, this]

set_option maxHeartbeats 800000 in
theorem refFew {w : World} {v : Value} {l : List (List Int)} (h : Intss w v l) :
    Calls Tryd.prog 26 #[v] w fun e w' => e = .returned (.bool (fewB l)) ∧ Qt w w' := by
  obtain ⟨a, c, b, off, rfl, ha, hc, hl⟩ := h
  go_enter Tryd.func26, Tryd.ntmps26
  go_wp2
  go_loopw [3] (fun i wr => ∃ k : Nat, k ≤ l.length ∧ k ≤ 41 ∧ i = .int .i64 k ∧ Hid (∀ j, j < k → (l.getD j []).length ≤ 60) ∧ Hid (Qt w wr)) (fun i _ => l.length - (intOf i).toNat)
  case atStart => exact ⟨0, by omega, by omega, rfl, by simp [Hid], Qt.refl _⟩
  case round =>
    obtain ⟨k, hk, h41, rfl, hg, hq⟩ := hrel
    have fin : ∀ x, (l.length ≤ k ∨ 40 < k) → x = (decide (l.length ≤ 40) || decide (1024 < l.length)) → Ending.returned (.bool x) = Ending.returned (.bool (fewB l)) :=
      fun x hx hy => ret_bool (by rw [hy, fewB_end hg.out hx])
    have FIN := Lib.hid fin
    clear fin
    by_cases hlt : k < l.length
    · by_cases h40 : k ≤ 40
      · obtain rfl := ha (by omega)
        obtain ⟨u1, hck, a1, c1, b1, o1, rfl, _⟩ := hc.qt hq.out k hlt
        clear ha hc
        have hlen : ∃ m, (l.getD k []).length = m := ⟨_, rfl⟩
        obtain ⟨m, hm⟩ := hlen
        rw [hm] at hck
        have hm := Lib.hid hm
        by_cases h60 : 60 < m
        · go_wp2
          go_ret
          exact ⟨ret_bool (fewHd_false hlt h40 (by have := hm.out; omega)).symm, hq.out⟩
        · go_wp2
          go_roundw
          case rel =>
            refine ⟨k + 1, by omega, by omega, by go_num, fun j hj => ?_, hq⟩
            by_cases hjk : j < k
            · exact hg.out j hjk
            · obtain rfl : j = k := by omega
              have := hm.out; omega
          case measure => simp [intOf]; omega
      · clear ha hc
        have hd : decide ((k : Int) ≤ 40) = false := by simp; omega
        by_cases hl40 : l.length ≤ 40
        · exfalso; omega
        · have hl' : decide ((l.length : Int) ≤ 40) = false := by simp; omega
          go_wp2
          go_ret
          exact ⟨FIN.out _ (by omega) (by rw [decide_eq_false hl40, Bool.false_or]; exact decide_eq_decide.2 (by omega)), hq.out⟩
    · clear ha hc
      have hd : decide ((k : Int) < (l.length : Int)) = false := by simp; omega
      by_cases hl40 : l.length ≤ 40
      · go_wp2
        go_ret
        exact ⟨FIN.out _ (by omega) (by rw [decide_eq_true hl40]; rfl), hq.out⟩
      · have hl' : decide ((l.length : Int) ≤ 40) = false := by simp; omega
        go_wp2
        go_ret
        exact ⟨FIN.out _ (by omega) (by rw [decide_eq_false hl40, Bool.false_or]; exact decide_eq_decide.2 (by omega)), hq.out⟩

theorem chkAll_step {n : Int} {l : List (List Int)} {k : Nat} (h : k < l.length) {x : List Int} (hx : l.getD k [] = x) :
    chkAll n (l.drop k) = if chk x ≠ 0 then chk x else if (x.length : Int) ≠ n then 22 else chkAll n (l.drop (k + 1)) := by
  rw [drop_cons h [], chkAll, hx]
theorem chkAll_end {n : Int} {l : List (List Int)} {k : Nat} (h : ¬ k < l.length) : chkAll n (l.drop k) = 0 := by
  rw [List.drop_eq_nil_of_le (by omega), chkAll]
theorem chkAll_1 {n : Int} {l : List (List Int)} {k : Nat} (h : k < l.length) {x : List Int} (hx : l.getD k [] = x) {m : Nat} (hm : x.length = m) (hz : chk x = 0) (hn : (m : Int) = n) :
    chkAll n (l.drop k) = chkAll n (l.drop (k + 1)) := by rw [chkAll_step h hx, if_neg (fun h => h hz), if_neg (fun h => h (by rw [hm]; exact hn))]
theorem chkAll_2 {n : Int} {l : List (List Int)} {k : Nat} (h : k < l.length) {x : List Int} (hx : l.getD k [] = x) {m : Nat} (hm : x.length = m) (hz : chk x = 0) (hn : ¬ (m : Int) = n) :
    chkAll n (l.drop k) = 22 := by rw [chkAll_step h hx, if_neg (fun h => h hz), if_pos (by rw [hm]; exact hn)]
theorem chkAll_3 {n : Int} {l : List (List Int)} {k : Nat} (h : k < l.length) {x : List Int} (hx : l.getD k [] = x) (hz : ¬ chk x = 0) :
    chkAll n (l.drop k) = chk x := by rw [chkAll_step h hx, if_pos hz]

set_option maxHeartbeats 800000 in
theorem refList {w : World} {v : Value} {l : List (List Int)} (n : Int) (h : Intss w v l) :
    Calls Tryd.prog 33 #[.int .i64 n, v] w fun e w' => e = .returned (.int .i64 (chkList n l)) ∧ Qt w w' := by
  obtain ⟨a, c, b, off, rfl, ha, hc, hl⟩ := h
  by_cases h1 : n < 1
  · clear ha hc
    go_enter Tryd.func33, Tryd.ntmps33
    go_wp2
    go_ret
    exact ⟨ret_int (by simp [chkList, h1]), Qt.refl _⟩
  · have h1' : decide (n < 1) = false := by simpa using h1
    by_cases h5 : 5 < n
    · clear ha hc
      go_enter Tryd.func33, Tryd.ntmps33
      go_wp2
      go_ret
      exact ⟨ret_int (by simp [chkList, h5]), Qt.refl _⟩
    · by_cases hm : 1024 < l.length
      · clear ha hc
        go_enter Tryd.func33, Tryd.ntmps33
        go_wp2
        go_ret
        exact ⟨ret_int (by rw [chkList, if_neg (by omega), if_pos hm]), Qt.refl _⟩
      · have e0 := Lib.hid (show chkList n l = chkAll n l by rw [chkList, if_neg (by omega), if_neg hm])
        go_enter Tryd.func33, Tryd.ntmps33
        go_wp2
        go_loopw [5] (fun i wr => ∃ k : Nat, k ≤ l.length ∧ i = .int .i64 k ∧ Hid (chkAll n (l.drop k) = chkAll n l) ∧ Hid (Qt w wr)) (fun i _ => l.length - (intOf i).toNat)
        case atStart => exact ⟨0, by omega, rfl, by simp [Hid], Qt.refl _⟩
        case round =>
          obtain ⟨k, hk, rfl, hg, hq⟩ := hrel
          by_cases hlt : k < l.length
          · obtain rfl := ha (by omega)
            obtain ⟨u1, hck, hi⟩ := hc.qt hq.out k hlt
            clear ha hc
            obtain ⟨x, hx⟩ : ∃ x, l.getD k [] = x := ⟨_, rfl⟩
            rw [hx] at hi
            replace hx := Lib.hid hx
            have H := Lib.hid (refCheck hi)
            obtain ⟨a1, c1, b1, o1, rfl, _⟩ := hi
            obtain ⟨m, hm'⟩ : ∃ m, x.length = m := ⟨_, rfl⟩
            rw [hm'] at hck H
            replace hm' := Lib.hid hm'
            obtain ⟨E, hE⟩ : ∃ E, chk x = E := ⟨_, rfl⟩
            rw [hE] at H
            replace hE := Lib.hid hE
            by_cases hz : E = 0
            · subst hz
              by_cases hmn : (m : Int) = n
              · have hmn' : ((m : Int) != n) = false := by simp [hmn]
                replace hmn := Lib.hid hmn
                go_wp2_with (go_at_call 20; refine H.out.mono ?_; rintro e w' ⟨rfl, n1, rfl⟩)
                go_roundw
                case rel => exact ⟨k + 1, by omega, by go_num, by show _ = _; rw [← hg.out, chkAll_1 hlt hx.out hm'.out hE.out hmn.out], hq.out.trans (Qt.mk' _ _)⟩
                case measure => simp [intOf]; omega
              · have hmn' : ((m : Int) != n) = true := by simp [hmn]
                go_wp2_with (go_at_call 20; refine H.out.mono ?_; rintro e w' ⟨rfl, n1, rfl⟩)
                go_ret
                exact ⟨ret_int (by rw [e0.out, ← hg.out, chkAll_2 hlt hx.out hm'.out hE.out hmn]), hq.out.trans (Qt.mk' _ _)⟩
            · have hz' : (E != 0) = true := by simpa using hz
              replace hz := Lib.hid hz
              go_wp2_with (go_at_call 20; refine H.out.mono ?_; rintro e w' ⟨rfl, n1, rfl⟩)
              go_ret
              exact ⟨ret_int (by rw [e0.out, ← hg.out, chkAll_3 hlt hx.out (by rw [hE.out]; exact hz.out), hE.out]), hq.out.trans (Qt.mk' _ _)⟩
          · have hst := Lib.hid (chkAll_end (n := n) hlt)
            clear ha hc
            go_wp2
            go_ret
            exact ⟨ret_int (by rw [e0.out, ← hg.out, hst.out]), hq.out⟩

theorem rightB_no {l : List (List Int)} {k : Nat} (h : k < l.length) {x y : List Int} (hx : l.getD k [] = x) (hy : l.getD 0 [] = y) (hz : ¬ (chk x = 0 ∧ x.length = y.length)) : rightB l = false := by
  unfold rightB
  rw [List.all_eq_false]
  refine ⟨x, ?_, fun h => hz ?_⟩
  · rw [← hx, getD_eq h]; exact List.getElem_mem h
  · simp only [Bool.and_eq_true, decide_eq_true_eq] at h; rw [← hy]; exact h
theorem rightB_yes {l : List (List Int)} (h : ∀ j, j < l.length → chk (l.getD j []) = 0 ∧ (l.getD j []).length = (l.getD 0 []).length) : rightB l = true := by
  unfold rightB
  rw [List.all_eq_true]
  intro a ha
  obtain ⟨j, hj, rfl⟩ := List.mem_iff_getElem.1 ha
  have := h j hj
  rw [getD_eq hj] at this
  simp only [Bool.and_eq_true, decide_eq_true_eq]
  exact this

set_option maxHeartbeats 800000 in
theorem right {w : World} {v : Value} {l : List (List Int)} (h : Intss w v l) :
    Calls Tryd.prog 30 #[v] w fun e w' => e = .returned (.bool (rightB l)) ∧ Qt w w' := by
  obtain ⟨a, c, b, off, rfl, ha, hc, hl⟩ := h
  go_enter Tryd.func30, Tryd.ntmps30
  go_wp2
  go_loopw [7] (fun i wr => ∃ k : Nat, k ≤ l.length ∧ i = .int .i64 k ∧ Hid (∀ j, j < k → chk (l.getD j []) = 0 ∧ (l.getD j []).length = (l.getD 0 []).length) ∧ Hid (Qt w wr)) (fun i _ => l.length - (intOf i).toNat)
  case atStart => exact ⟨0, by omega, rfl, by simp [Hid], Qt.refl _⟩
  case round =>
    obtain ⟨k, hk, rfl, hg, hq⟩ := hrel
    by_cases hlt : k < l.length
    · obtain rfl := ha (by omega)
      obtain ⟨u1, hck, hi⟩ := hc.qt hq.out k hlt
      obtain ⟨u0, hc0, hi0⟩ := hc.qt hq.out 0 (by omega)
      clear ha hc
      obtain ⟨x, hx⟩ : ∃ x, l.getD k [] = x := ⟨_, rfl⟩
      obtain ⟨y, hy⟩ : ∃ y, l.getD 0 [] = y := ⟨_, rfl⟩
      rw [hx] at hi
      rw [hy] at hi0
      replace hx := Lib.hid hx
      replace hy := Lib.hid hy
      have H := Lib.hid (refCheck hi)
      obtain ⟨a1, c1, b1, o1, rfl, _⟩ := hi
      obtain ⟨a0, c0, b0, o0, rfl, _⟩ := hi0
      obtain ⟨m, hm'⟩ : ∃ m, x.length = m := ⟨_, rfl⟩
      obtain ⟨n0, hn'⟩ : ∃ n0, y.length = n0 := ⟨_, rfl⟩
      rw [hm'] at hck H
      rw [hn'] at hc0
      simp only [Nat.add_zero] at hc0
      replace hm' := Lib.hid hm'
      replace hn' := Lib.hid hn'
      obtain ⟨E, hE⟩ : ∃ E, chk x = E := ⟨_, rfl⟩
      rw [hE] at H
      replace hE := Lib.hid hE
      by_cases hz : E = 0
      · subst hz
        by_cases hmn : m = n0
        · have hmn' : ((m : Int) != (n0 : Int)) = false := by simp [hmn]
          replace hmn := Lib.hid hmn
          go_wp2_with (go_at_call 20; refine H.out.mono ?_; rintro e w' ⟨rfl, n1, rfl⟩)
          go_roundw
          case rel =>
            refine ⟨k + 1, by omega, by go_num, fun j hj => ?_, hq.out.trans (Qt.mk' _ _)⟩
            by_cases hjk : j < k
            · exact hg.out j hjk
            · obtain rfl : j = k := by omega
              rw [hx.out, hy.out, hE.out, hm'.out, hn'.out]
              exact ⟨rfl, hmn.out⟩
          case measure => simp [intOf]; omega
        · have hmn' : ((m : Int) != (n0 : Int)) = true := by simp; omega
          go_wp2_with (go_at_call 20; refine H.out.mono ?_; rintro e w' ⟨rfl, n1, rfl⟩)
          go_ret
          exact ⟨ret_bool (rightB_no hlt hx.out hy.out (by rw [hm'.out, hn'.out]; exact fun h => hmn h.2)).symm, hq.out.trans (Qt.mk' _ _)⟩
      · have hz' : (E != 0) = true := by simpa using hz
        replace hz := Lib.hid hz
        go_wp2_with (go_at_call 20; refine H.out.mono ?_; rintro e w' ⟨rfl, n1, rfl⟩)
        go_ret
        exact ⟨ret_bool (rightB_no hlt hx.out hy.out (by rw [hE.out]; exact fun h => hz.out h.1)).symm, hq.out.trans (Qt.mk' _ _)⟩
    · clear ha hc
      go_wp2
      go_ret
      obtain rfl : k = l.length := by omega
      exact ⟨ret_bool (rightB_yes hg.out).symm, hq.out⟩
end Go.Proofs.YtpjlaaldepfnkaaDoor

/- The walk of Generate. -/
import Derived.Test.YtpjlaaldepfnkaaDoorSb
import Derived.Test.YtpjlaaldepfnkaaDoorGa
namespace Go.Proofs.YtpjlaaldepfnkaaDoor
open Go.RowKit Go.ChangeMaps Go.MapKept Go.WideMaps

theorem OII.shape {w : World} {B : Nat} {v : Value} {n : Nat} {xss : List (List Int)} (h : OII w B v n xss) : ∃ a c, v = .slice a n c := by
  obtain ⟨a, c, b, hv, _⟩ := h.open'
  exact ⟨a, c, hv⟩

set_option maxRecDepth 100000 in
set_option maxHeartbeats 3200000 in
theorem generateBad {w : World} {v : Value} {l : List (List Int)} (n : Int) (h : Intss w v l) (hz : chkList n l ≠ 0) : Calls Tryd.prog 27 #[.int .i64 n, v] w (RII w (genR n l) (chkList n l)) := by
  have hL := Lib.hid (show genR n l = [] by rw [genR, if_neg hz])
  have HN := Lib.hid (number n w)
  obtain ⟨a, c, b, off, rfl, ha, hc, hl⟩ := h
  by_cases h1 : n < 1 ∨ 5 < n
  · have hE := Lib.hid (show chkList n l = 2 by rw [chkList, if_pos h1])
    rw [show numE n = 2 by rw [numE, if_pos h1]] at HN
    clear h1 ha hc hz
    go_enter Tryd.func27, Tryd.ntmps27
    go_wp2_with (go_at_call 53; refine HN.out.mono ?_; rintro e w1 ⟨rfl, rfl⟩)
    go_ret2
    exact RII.none hL.out hE.out.symm (Below.refl _ _)
  · rw [show numE n = 0 by rw [numE, if_neg h1]] at HN
    by_cases hm : 1024 < l.length
    · have hE := Lib.hid (show chkList n l = 5 by rw [chkList, if_neg h1, if_pos hm])
      clear h1 ha hc hz
      go_enter Tryd.func27, Tryd.ntmps27
      go_wp2_with (go_at_call 53; refine HN.out.mono ?_; rintro e w1 ⟨rfl, rfl⟩)
      go_ret2
      exact RII.none hL.out hE.out.symm (Below.refl _ _)
    · have e0 := Lib.hid (show chkList n l = chkAll n l by rw [chkList, if_neg h1, if_neg hm])
      replace hz := Lib.hid hz
      clear h1
      go_enter Tryd.func27, Tryd.ntmps27
      go_wp2_with (go_at_call 53; refine HN.out.mono ?_; rintro e w1 ⟨rfl, rfl⟩)
      go_loopw [26] (fun i wr => ∃ k : Nat, k ≤ l.length ∧ i = .int .i64 k ∧ Hid (chkAll n (l.drop k) = chkAll n l) ∧ Below w.heap.size w wr) (fun i _ => l.length - (intOf i).toNat)
      case atStart => exact ⟨0, by omega, rfl, by simp [Hid], Below.refl _ _⟩
      case round =>
        obtain ⟨k, hk, rfl, hg, hb⟩ := hrel
        by_cases hlt : k < l.length
        · obtain rfl := ha (by omega)
          obtain ⟨u1, hck, hi⟩ := hc.keep hb k hlt
          clear ha hc
          obtain ⟨x, hx⟩ : ∃ x, l.getD k [] = x := ⟨_, rfl⟩
          rw [hx] at hi
          replace hx := Lib.hid hx
          have H := Lib.hid (check hi)
          obtain ⟨a1, c1, b1, o1, rfl, _⟩ := hi
          obtain ⟨m, hm'⟩ : ∃ m, x.length = m := ⟨_, rfl⟩
          rw [hm'] at hck H
          replace hm' := Lib.hid hm'
          obtain ⟨E, hE⟩ : ∃ E, chk x = E := ⟨_, rfl⟩
          rw [hE] at H
          replace hE := Lib.hid hE
          by_cases hzE : E = 0
          · subst hzE
            by_cases hmn : (m : Int) = n
            · have hmn' : ((m : Int) != n) = false := by simp [hmn]
              replace hmn := Lib.hid hmn
              go_wp2_with (go_at_call 19; refine H.out.mono ?_; rintro e w' ⟨rfl, hb2⟩)
              go_roundw
              case rel => exact ⟨k + 1, by omega, by go_num, by show _ = _; rw [← hg.out, chkAll_1 hlt hx.out hm'.out hE.out hmn.out], bt hb hb2 hb.size⟩
              case measure => simp [intOf]; omega
            · have hmn' : ((m : Int) != n) = true := by simp [hmn]
              go_wp2_with (go_at_call 19; refine H.out.mono ?_; rintro e w' ⟨rfl, hb2⟩)
              go_ret2
              exact RII.none hL.out (by rw [e0.out, ← hg.out, chkAll_2 hlt hx.out hm'.out hE.out hmn]) (bt hb hb2 hb.size)
          · have hz' : (E != 0) = true := by simpa using hzE
            replace hzE := Lib.hid hzE
            go_wp2_with (go_at_call 19; refine H.out.mono ?_; rintro e w' ⟨rfl, hb2⟩)
            go_ret2
            exact RII.none hL.out (by rw [e0.out, ← hg.out, chkAll_3 hlt hx.out (by rw [hE.out]; exact hzE.out), hE.out]) (bt hb hb2 hb.size)
        · exact absurd (by rw [e0.out, ← hg.out, chkAll_end (n := n) hlt]) hz.out
end Go.Proofs.YtpjlaaldepfnkaaDoor

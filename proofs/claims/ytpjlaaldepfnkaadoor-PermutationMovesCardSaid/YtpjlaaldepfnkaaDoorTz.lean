/- Parse. -/
import Derived.Test.YtpjlaaldepfnkaaDoorTy
namespace Go.Proofs.YtpjlaaldepfnkaaDoor
open Go.RowKit

set_option maxRecDepth 100000 in
set_option maxHeartbeats 1600000 in
theorem parseCall (n : Int) (s : ByteArray) (w : World) (hs : s.size ≤ 100000) : Calls Tryd.prog 43 #[.int .i64 n, .string s] w (RI w (parseL n s) (parseE n s)) := by
  have H := Lib.hid (number n w)
  by_cases hz : n < 1 ∨ 5 < n
  · have hE := Lib.hid (show parseE n s = 2 by rw [parseE, if_pos hz])
    have hL := Lib.hid (show parseL n s = [] by rw [parseL, hE.out]; rfl)
    have hN : numE n = 2 := by rw [numE, if_pos hz]
    rw [hN] at H
    clear hN hz
    go_enter Tryd.func43, Tryd.ntmps43
    go_wp2_with (go_at_call 53; refine H.out.mono ?_; rintro e w1 ⟨rfl, rfl⟩)
    go_ret2
    exact RI.none hL.out hE.out.symm (Below.refl _ _)
  · have hN : numE n = 0 := by rw [numE, if_neg hz]
    rw [hN] at H
    clear hN
    by_cases h24 : 24 < s.size
    · have hE := Lib.hid (show parseE n s = 13 by rw [parseE, if_neg hz, if_pos h24])
      have hL := Lib.hid (show parseL n s = [] by rw [parseL, hE.out]; rfl)
      clear hz
      go_enter Tryd.func43, Tryd.ntmps43
      go_wp2_with (go_at_call 53; refine H.out.mono ?_; rintro e w1 ⟨rfl, rfl⟩)
      go_ret2
      exact RI.none hL.out hE.out.symm (Below.refl _ _)
    · obtain ⟨k, rfl⟩ : ∃ k : Nat, n = k := ⟨n.toNat, by omega⟩
      have hPE := Lib.hid (show parseE k s = if ((everyL k).find? (fun a => (textB a).toList == s.toList)).isSome then 0 else 4 by rw [parseE, if_neg hz, if_neg h24]; rfl)
      have hPL := Lib.hid (show parseL k s = if parseE k s = 0 then ((everyL k).find? (fun a => (textB a).toList == s.toList)).getD [] else [] from rfl)
      have hk5 : k ≤ 5 := by omega
      have hal5 := everyL_le k hk5
      have HE := allRec k hk5 k [] (.slice none 0 0) w (by simp) (OI.nil _ _)
      change Calls Tryd.prog 61 #[.int .i64 k, .slice none 0 0] w (fun e w' => ∃ r, e = .returned r ∧ OII w' w.heap.size r (everyL k).length (everyL k) ∧ Below w.heap.size w w') at HE
      obtain ⟨A, hA⟩ : ∃ A, everyL k = A := ⟨_, rfl⟩
      rw [hA] at HE hal5 hPE hPL
      have hP : ∀ x ∈ A, IsP k x := fun x hx => mem_everyL.1 (hA ▸ hx)
      clear hA
      replace HE := Lib.hid HE
      go_enter Tryd.func43, Tryd.ntmps43
      go_wp2_with (first | (go_at_call 53; refine H.out.mono ?_; rintro e w0 ⟨rfl, rfl⟩) | (go_at_call 61; refine HE.out.mono ?_; rintro e w1 ⟨r, rfl, ho, hb⟩; obtain ⟨aa, ac, ab, rfl, haa, hac⟩ := ho.open'))
      clear HE H
      obtain ⟨w2, hw2⟩ : ∃ w2, w2 = w1 := ⟨_, rfl⟩
      rw [← hw2] at ho hb hac ⊢
      clear hw2
      go_loopw [20] (fun iv wr => ∃ j : Nat, j ≤ A.length ∧ iv = .int .i64 j ∧ Hid (∀ i, i < j → ((textB (A.getD i [])).toList == s.toList) = false) ∧ Hid (Below w2.heap.size w2 wr)) (fun iv _ => A.length - (intOf iv).toNat)
      case atStart => exact ⟨0, by omega, rfl, by simp [Hid], Below.refl _ _⟩
      case round =>
        obtain ⟨j, hj, rfl, hg, hq⟩ := hrel
        have hbw := hb.trans (hq.out.mono hb.size)
        by_cases hlt : j < A.length
        · obtain rfl := haa (by omega)
          obtain ⟨u, hcu, hu⟩ := hac j hlt
          replace hcu := cell_kept hq.out hcu
          replace hu := hu.keep hq.out
          obtain ⟨x, hx⟩ : ∃ x, A.getD j [] = x := ⟨_, rfl⟩
          have hxP : IsP k x := by rw [← hx, getD_eq hlt]; exact hP _ (List.getElem_mem hlt)
          have hx5 : x.length ≤ 5 := by have := hxP.1; omega
          have hxc : chk x = 0 := chk_iff.2 ⟨by have := hxP.1; omega, by have := hxP; rwa [← hxP.1] at this⟩
          rw [hx] at hu
          have HX := textCall (hu.ints (by omega)) hxc
          replace HX := Lib.hid HX
          obtain ⟨t, ht⟩ : ∃ t, textB x = t := ⟨_, rfl⟩
          rw [ht] at HX
          obtain ⟨ua, uc, rfl⟩ := hu.shape
          clear haa hac hP
          replace hx := Lib.hid hx
          replace hxc := Lib.hid hxc
          by_cases hm : (t.toList == s.toList) = true
          · have hfd := Lib.hid (find_step hlt hx.out (by rw [ht]; exact hm) hg.out)
            have hE := Lib.hid (show parseE k s = 0 by rw [hPE.out, hfd.out]; rfl)
            have hL := Lib.hid (show parseL k s = x by rw [hPL.out, if_pos hE.out, hfd.out]; rfl)
            clear ht
            go_wp2_with (go_at_call 64; refine HX.out.mono ?_; rintro e w3 ⟨rfl, hq3⟩; replace hcu := cell_kept hq3 hcu)
            go_ret2
            refine ⟨_, by rw [hE.out]; rfl, ?_, hbw.trans (hq3.mono hbw.size)⟩
            rw [hL.out]
            exact (hu.keep hq3).own
          · have hm' : (t.toList == s.toList) = false := eq_false_of_ne_true hm
            have hng := Lib.hid (show ((textB x).toList == s.toList) = false by rw [ht]; exact hm')
            clear ht hm
            go_wp2_with (go_at_call 64; refine HX.out.mono ?_; rintro e w3 ⟨rfl, hq3⟩)
            go_roundw
            case rel =>
              refine ⟨j + 1, by omega, by go_num, fun i hi => ?_, hq.out.trans (hq3.mono hq.out.size)⟩
              by_cases hij : i < j
              · exact hg.out i hij
              · obtain rfl : i = j := by omega
                rw [hx.out]; exact hng.out
            case measure => simp [intOf]; omega
        · obtain rfl : j = A.length := by omega
          have hfd := Lib.hid (find_none hg.out)
          have hE := Lib.hid (show parseE k s = 4 by rw [hPE.out, hfd.out]; rfl)
          have hL := Lib.hid (show parseL k s = [] by rw [hPL.out, hE.out]; rfl)
          clear haa hac hP
          go_wp2
          go_ret2
          exact RI.none hL.out hE.out.symm hbw
end Go.Proofs.YtpjlaaldepfnkaaDoor

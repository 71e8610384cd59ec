/- The law PermutationChecks: the walk. -/
import Derived.Test.YtpjlaaldepfnkaaDoorAx
namespace Go.Proofs.YtpjlaaldepfnkaaDoor
open Go.RowKit

/-- What a law does: it returns true and leaves what was there. -/
def Yes (w : World) (e : Ending) (w' : World) : Prop := e = .returned (.bool true) ∧ Below w.heap.size w w'
theorem Yes.on {w w1 w' : World} {e : Ending} (h : Yes w1 e w') (hb : Below w.heap.size w w1) : Yes w e w' := ⟨h.1, btt hb h.2⟩

theorem chk_isP {a : List Int} (h : chk a = 0) : IsP a.length a := (chk_iff.1 h).2
theorem powL_isP {n : Nat} {a : List Int} (h : IsP n a) : ∀ k, IsP n (powL a k)
  | 0 => h
  | k + 1 => h.times (powL_isP h k)
theorem ordOK {a : List Int} (h : chk a = 0) : OrdOK a (ordF (cycL a)) := ⟨ordP_eq h, fun n _ => (powL_isP (chk_isP h) n).good⟩

theorem scat_length (idx vals out : List Int) : ∀ k, (scat idx vals out k).length = out.length
  | 0 => rfl
  | k + 1 => by rw [scat_succ, List.length_set, scat_length idx vals out k]
theorem movedL_length (a v : List Int) : (movedL a v).length = a.length := by rw [movedL, scat_length, List.length_replicate]
theorem invL_le (a : List Int) : (invL a).length ≤ a.length := by
  unfold invL
  split
  · rw [backL, movedL_length]; exact Nat.le_refl _
  · exact Nat.zero_le _

set_option maxRecDepth 100000 in
set_option maxHeartbeats 800000 in
theorem refOrder {w : World} {u : Value} {a : List Int} (h : Ints w u a) : Calls Tryd.prog 16 #[u] w (R2 w (ordP a) (chk a)) := by
  by_cases hz : chk a = 0
  · have := refOrder0 h hz (ordOK hz)
    rwa [ordP, if_pos hz, hz]
  · have H := Lib.hid (refCheck h)
    have hL := Lib.hid (show ordP a = 0 by rw [ordP, if_neg hz])
    obtain ⟨E, hE⟩ : ∃ E, chk a = E := ⟨_, rfl⟩
    rw [hE] at H hz
    replace hE := Lib.hid hE
    have hz' : (E != 0) = true := by simpa using hz
    clear hz h
    go_enter Tryd.func16, Tryd.ntmps16
    go_wp2_with (go_at_call 20; refine H.out.mono ?_; rintro e w1 ⟨rfl, hq⟩)
    go_ret2
    exact R2.mk' hL.out.symm hE.out.symm hq.below

set_option maxRecDepth 100000 in
set_option maxHeartbeats 1600000 in
theorem lawChecks {w : World} {v : Value} {a : List Int} (h : Ints w v a) : Calls Tryd.prog 3 #[v] w (Yes w) := by
  have hA := fun W => awake W
  replace hA := Lib.hid hA
  by_cases h60 : 60 < a.length
  · obtain ⟨la, lc, lb, lo, rfl, ha, hc, hl⟩ := h
    clear ha hc
    go_enter Tryd.func3, Tryd.ntmps3
    go_wp2_with (go_at_call 12; refine (hA.out _).mono ?_; rintro e w1 ⟨rfl, hb⟩)
    go_ret
    exact ⟨rfl, hb⟩
  · have h0 := h
    obtain ⟨la, lc, lb, lo, rfl, ha, hc, hl⟩ := h
    clear ha hc
    have H1 := inverse h0
    have hI := Lib.hid (show (invL a).length ≤ 60 by have := invL_le a; omega)
    obtain ⟨E, hE⟩ : ∃ E, chk a = E := ⟨_, rfl⟩
    obtain ⟨x, hx⟩ : ∃ x, invL a = x := ⟨_, rfl⟩
    have HA := fun W (hb : Below w.heap.size w W) => refInverse (h0.keep hb)
    have HB := fun W (hb : Below w.heap.size w W) => orderCall (h0.keep hb) fun h => (cyFacts h).cyc
    have HC := fun W (hb : Below w.heap.size w W) => refOrder (h0.keep hb)
    have HD := fun W (hb : Below w.heap.size w W) => oddCall (h0.keep hb) fun h => (cyFacts h).cyc
    have HE := fun W (hb : Below w.heap.size w W) => refOdd (h0.keep hb)
    have HF := fun W (hb : Below w.heap.size w W) => check (h0.keep hb)
    have HG := fun W (hb : Below w.heap.size w W) => refCheck (h0.keep hb)
    simp only [oddP_eq] at HD
    obtain ⟨m, hm⟩ : ∃ m, ordP a = m := ⟨_, rfl⟩
    obtain ⟨o, ho⟩ : ∃ o, oddR a = o := ⟨_, rfl⟩
    simp only [hE, hx, hm, ho] at H1 HA HB HC HD HE HF HG
    rw [hx] at hI
    replace H1 := Lib.hid H1; replace HA := Lib.hid HA; replace HB := Lib.hid HB; replace HC := Lib.hid HC; replace HD := Lib.hid HD; replace HE := Lib.hid HE; replace HF := Lib.hid HF; replace HG := Lib.hid HG
    clear hE hx hm ho
    go_enter Tryd.func3, Tryd.ntmps3
    go_wp2_with fail
    refine H1.out.mono ?_; rintro e w1 ⟨r1, rfl, ho1, hb1⟩
    go_wp2_with fail
    refine (HA.out _ hb1).mono ?_; rintro e w2 ⟨r2, rfl, ho2, hb2⟩
    replace ho1 := ho1.keep hb2; have hb := btt hb1 hb2; clear hb1 hb2
    go_wp2_with fail
    refine (HB.out _ hb).mono ?_; rintro e w3 ⟨rfl, hb2⟩
    replace ho1 := ho1.keep hb2; replace ho2 := ho2.keep hb2; replace hb := btt hb hb2; clear hb2
    go_wp2_with fail
    refine (HC.out _ hb).mono ?_; rintro e w4 ⟨rfl, hb2⟩
    replace ho1 := ho1.keep hb2; replace ho2 := ho2.keep hb2; replace hb := btt hb hb2; clear hb2
    go_wp2_with fail
    refine (HD.out _ hb).mono ?_; rintro e w5 ⟨rfl, hb2⟩
    replace ho1 := ho1.keep hb2; replace ho2 := ho2.keep hb2; replace hb := btt hb hb2; clear hb2
    go_wp2_with fail
    refine (HE.out _ hb).mono ?_; rintro e w6 ⟨rfl, hb2⟩
    replace ho1 := ho1.keep hb2; replace ho2 := ho2.keep hb2; replace hb := btt hb hb2; clear hb2
    go_wp2_with fail
    refine (hA.out _).mono ?_; rintro e w7 ⟨rfl, hb2⟩
    replace ho1 := ho1.keep hb2; replace ho2 := ho2.keep hb2; replace hb := btt hb hb2; clear hb2
    go_wp2_with fail
    refine (HF.out _ hb).mono ?_; rintro e w8 ⟨rfl, hb2⟩
    replace ho1 := ho1.keep hb2; replace ho2 := ho2.keep hb2; replace hb := btt hb hb2; clear hb2
    go_wp2_with fail
    refine (HG.out _ hb).mono ?_; rintro e w9 ⟨rfl, hq⟩
    replace ho1 := ho1.keep hq.below; replace ho2 := ho2.keep hq.below; replace hb := btt hb hq.below; clear hq
    go_wp2_with fail
    refine (awEq (ho1.ints (by have := hI.out; omega)) (ho2.ints (by have := hI.out; omega))).mono ?_; rintro e w10 ⟨rfl, hq⟩
    replace hb := btt hb hq.below; clear hq
    go_wp2
    go_ret
    exact ⟨rfl, hb⟩
end Go.Proofs.YtpjlaaldepfnkaaDoor

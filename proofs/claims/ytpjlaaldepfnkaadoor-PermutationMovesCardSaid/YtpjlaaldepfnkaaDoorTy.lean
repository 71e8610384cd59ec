/- text and Format. -/
import Derived.Test.YtpjlaaldepfnkaaDoorPc
namespace Go.Proofs.YtpjlaaldepfnkaaDoor
open Go.RowKit

theorem textCall {w : World} {v : Value} {a : List Int} (h : Ints w v a) (hz : chk a = 0) :
    Calls Tryd.prog 64 #[v] w fun e w' => e = .returned (.string (textB a)) ∧ Below w.heap.size w w' := by
  have F := cyFacts hz
  rw [← F.text]
  exact text0 h hz F.cyc.eq F.txt F.len

set_option maxRecDepth 100000 in
set_option maxHeartbeats 800000 in
theorem formatCall {w : World} {u : Value} {a : List Int} (h : Ints w u a) : Calls Tryd.prog 41 #[u] w (RS w (fmtL a) (chk a)) := by
  have H := Lib.hid (check h)
  by_cases hz : chk a = 0
  · have hL := Lib.hid (show fmtL a = textB a by rw [fmtL, if_pos hz])
    have H2 := fun (W : World) (hW : Below w.heap.size w W) => textCall (h.keep hW) hz
    replace H2 := Lib.hid H2
    rw [hz] at H
    replace hz := Lib.hid hz
    clear h
    go_enter Tryd.func41, Tryd.ntmps41
    go_wp2_with (first | (go_at_call 19; refine H.out.mono ?_; rintro e w1 ⟨rfl, hq⟩) | (go_at_call 64; refine (H2.out _ hq).mono ?_; rintro e w2 ⟨rfl, hq2⟩))
    go_ret2
    exact RS.mk' hL.out.symm hz.out.symm (hq.trans (hq2.mono hq.size))
  · obtain ⟨E, hE⟩ : ∃ E, chk a = E := ⟨_, rfl⟩
    have hL := Lib.hid (show fmtL a = ByteArray.empty by rw [fmtL, if_neg hz])
    rw [hE] at H hz
    replace hE := Lib.hid hE
    have hz' : (E != 0) = true := by simpa using hz
    clear hz h
    go_enter Tryd.func41, Tryd.ntmps41
    go_wp2_with (go_at_call 19; refine H.out.mono ?_; rintro e w1 ⟨rfl, hq⟩)
    go_ret2
    exact RS.mk' hL.out.symm hE.out.symm hq
end Go.Proofs.YtpjlaaldepfnkaaDoor

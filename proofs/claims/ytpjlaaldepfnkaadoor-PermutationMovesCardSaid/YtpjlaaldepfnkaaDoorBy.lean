/- (*strings.Builder).String of a builder that holds a byte. -/
import Derived.Test.YtpjlaaldepfnkaaDoorBx
import Derived.Test.YtpjlaaldepfnkaaDoorRd
namespace Go.Proofs.YtpjlaaldepfnkaaDoor
open Go.RowKit

theorem Only.freeze {D : Nat → Prop} {A B : World} (h : Only D A B) {p : Addr} (hp : D p.block) (n : Nat) : Only D A (B.freeze p n) := by
  unfold World.freeze
  split
  · exact h
  · exact ⟨h.os, h.tape, h.output, by simpa using h.size, fun i hi hd => by
      rw [← h.same i hi hd]
      simp only [Array.getElem?_modify]
      have hne : ¬ p.block = i := by rintro rfl; exact hd hp
      rw [if_neg hne]⟩

set_option maxRecDepth 100000 in
set_option maxHeartbeats 2000000 in
theorem bString {w : World} {b : Nat} {p v : Value} {l : List UInt8} (h : BA w b p v (Lib.byteCells l)) (h0 : l ≠ []) :
    Calls Tryd.prog 82 #[.pointer (some ⟨b, 0, none⟩)] w fun e w' => e = .returned (.string ⟨l.toArray⟩) ∧ Only (fun k => v.ownBlock = some k) w w' := by
  obtain ⟨hbk, hown, hne⟩ := h
  have hl0 : l.length ≠ 0 := by simpa using h0
  rw [Lib.byteCells_length] at hown
  obtain ⟨g, cap, cur, rfl, hbg, hg, hnc, hcm, hcs, htake⟩ : ∃ g cap cur, v = .slice (some ⟨g, 0, none⟩) l.length cap ∧ 0 ≤ g ∧ w.heap[g]? = some (.cells cur 5 (0, 0)) ∧ l.length ≤ cap ∧ cap ≤ maxLen ∧ cur.size = cap * 1 ∧ cur.toList.take (l.length * 1) = Lib.byteCells l := by
    rcases hown.2 with ⟨_, hz⟩ | ⟨g, cap, cur, hv, r⟩
    · exact absurd hz hl0
    · exact ⟨g, cap, cur, hv, r⟩
  have c1 : w.drew.cell? ⟨b, 1, none⟩ = some (.slice (some ⟨g, 0, none⟩) l.length cap) := by
    have : w.drew.heap[b]? = some (.cells #[p, .slice (some ⟨g, 0, none⟩) l.length cap] 109 (0, 0)) := hbk
    rw [Lib.cell_of_heap this]; rfl
  have hSD : (Builtin.unsafeSliceData_ #[107] 129 #[.slice (some ⟨g, 0, none⟩) l.length cap]).run Tryd.prog w.drew = .ok (.pointer (some ⟨g, 0, none⟩)) w.drew :=
    Lib.run_unsafeSliceData_row _ _ _ _ _ _ (by omega)
  have hUS : (Builtin.unsafeString_ #[129, 3] 9 #[.pointer (some ⟨g, 0, none⟩), .int .i64 l.length]).run Tryd.prog w.drew = .ok (.string ⟨l.toArray⟩) (w.drew.freeze ⟨g, 0, none⟩ l.length) := by
    refine Lib.run_unsafeString_row w.drew 129 3 9 5 (by kernel_rfl) (by kernel_rfl) g cur.size (by have hg' : w.drew.heap[g]? = some (.cells cur 5 (0, 0)) := hg; simp [World.shape?, hg']) l h0 (by omega) (by unfold maxLen at hcm; omega) ?_
    intro j x hx
    have := hown.cells (g := g) rfl j (.int .u8 x.toNat) (by simp [Lib.byteCells, hx])
    exact this
  clear hcs htake hown
  go_enter Tryd.func82, Tryd.ntmps82
  go_wp2
  go_region
  all_goals (go_wp2; go_ret; exact ⟨rfl, ((Only.refl (fun k => some g = some k) w).drewN 1).freeze (p := ⟨g, 0, none⟩) rfl _⟩)
end Go.Proofs.YtpjlaaldepfnkaaDoor

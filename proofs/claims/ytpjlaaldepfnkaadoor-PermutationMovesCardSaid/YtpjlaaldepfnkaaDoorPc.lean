/- What holds of the 153 permutations' cycles, looked up one by one. -/
import Derived.Test.YtpjlaaldepfnkaaDoorTx
import Derived.Test.YtpjlaaldepfnkaaDoorPb
import Derived.Test.YtpjlaaldepfnkaaDoorWn
namespace Go.Proofs.YtpjlaaldepfnkaaDoor

theorem split_eq {α : Type} (d : α) {pre r L : List α} {x : α} (h : pre ++ x :: r = L) : pre.length < L.length ∧ L.take pre.length = pre ∧ L.getD pre.length d = x := by
  subst h
  refine ⟨by simp, by simp, by simp⟩

def ordLB (L : List (List Int)) : Bool := (List.range L.length).all fun i => decide (ordF (L.take i) < 1000) && decide (1 ≤ ordF (L.take i)) && decide ((L.getD i []).length ≤ 5) && decide (1 ≤ (L.getD i []).length)
theorem OrdL.of {L : List (List Int)} (h : ordLB L = true) : OrdL L := by
  intro pre x r hr
  obtain ⟨h1, h2, h3⟩ := split_eq [] hr
  have := List.all_eq_true.1 h pre.length (List.mem_range.2 h1)
  simp only [Bool.and_eq_true, decide_eq_true_eq, h2, h3] at this
  exact ⟨this.1.1.1, this.1.1.2, this.1.2, this.2⟩
def txtLB (L : List (List Int)) : Bool := (List.range L.length).all fun i => decide ((L.getD i []).length ≤ 5) && decide (1 ≤ (L.getD i []).length) && ((List.range (L.getD i []).length).all fun k => decide (0 ≤ (L.getD i []).getD k 0) && decide ((L.getD i []).getD k 0 < 10)) && decide ((txT (L.take i)).length ≤ 1000)
theorem TxtL.of {L : List (List Int)} (h : txtLB L = true) : TxtL L := by
  intro pre x r hr
  obtain ⟨h1, h2, h3⟩ := split_eq [] hr
  have := List.all_eq_true.1 h pre.length (List.mem_range.2 h1)
  simp only [Bool.and_eq_true, decide_eq_true_eq, h2, h3] at this
  refine ⟨this.1.1.1, this.1.1.2, fun k hk => ?_, this.2⟩
  have := List.all_eq_true.1 this.1.2 k (List.mem_range.2 hk)
  simpa using this

def cyOKB (a : List Int) : Bool := match cyOut a a.length 0 (List.replicate a.length false) with
  | none => false
  | some L => ordLB L && txtLB L && decide ((txT L).length ≤ 1000) && decide ((textP L).data.toList = (textB a).data.toList) && decide (ordGo a 7 0 = some (ordF L)) && (oddB L == oddGo a a.length)
theorem cy_total : permsAll.all cyOKB = true := by decide +kernel

structure CyFacts (a : List Int) : Prop where
  cyc : CycOK a
  txt : TxtL (cycL a)
  len : (txT (cycL a)).length ≤ 1000
  text : textP (cycL a) = textB a
  ord : ordGo a 7 0 = some (ordF (cycL a))
  odd : oddB (cycL a) = oddGo a a.length
theorem cyFacts {a : List Int} (h : chk a = 0) : CyFacts a := by
  have H := perm_all cy_total h
  unfold cyOKB at H
  split at H
  · cases H
  · rename_i L hL
    have hc : cycL a = L := by rw [cycL, hL]; rfl
    simp only [Bool.and_eq_true, decide_eq_true_eq, beq_iff_eq] at H
    obtain ⟨⟨⟨⟨⟨h1, h2⟩, h3⟩, h4⟩, h5⟩, h6⟩ := H
    refine ⟨⟨⟨L, hL⟩, by rw [hc]; exact OrdL.of h1⟩, by rw [hc]; exact TxtL.of h2, by rw [hc]; exact h3, ?_, by rw [hc]; exact h5, by rw [hc]; exact h6⟩
    rw [hc]
    exact ByteArray.ext (Array.toList_inj.1 h4)
theorem hasText {a : List Int} (h : chk a = 0) : HasText a := Option.isSome_iff_exists.1 (perm_all tOut_total h)
theorem ordP_eq {a : List Int} (h : chk a = 0) : ordGo a 7 0 = some (ordF (cycL a)) := (cyFacts h).ord
theorem oddP_eq (a : List Int) : oddP a = oddR a := by
  unfold oddP oddR
  split
  · next h => exact (cyFacts h).odd
  · rfl
end Go.Proofs.YtpjlaaldepfnkaaDoor

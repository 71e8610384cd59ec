/- key. -/
import Derived.Test.YtpjlaaldepfnkaaDoorTz
import Derived.Laws.CopyRow
namespace Go.Proofs.YtpjlaaldepfnkaaDoor
open Go.RowKit

theorem und89 : Tryd.prog.underlying 89 = some (.array 5 3) := by kernel_rfl
theorem addr_add (b o j : Nat) : (⟨b, o, none⟩ : Addr).add j = ⟨b, o + j, none⟩ := by
  cases j <;> simp [Addr.add]
def keyA (a : List Int) : Array Value := #[.int .i64 (a.getD 0 0), .int .i64 (a.getD 1 0), .int .i64 (a.getD 2 0), .int .i64 (a.getD 3 0), .int .i64 (a.getD 4 0)]
def zer5 : Array Value := #[.int .i64 0, .int .i64 0, .int .i64 0, .int .i64 0, .int .i64 0]
theorem keyA_pad : ∀ {a : List Int}, a.length ≤ 5 → (zer5.toList.take 0 ++ a.map (Value.int .i64) ++ zer5.toList.drop (0 + (a.map (Value.int .i64)).length)).toArray = keyA a
  | [], _ => rfl
  | [_], _ => rfl
  | [_, _], _ => rfl
  | [_, _, _], _ => rfl
  | [_, _, _, _], _ => rfl
  | [_, _, _, _, _], _ => rfl
  | _ :: _ :: _ :: _ :: _ :: _ :: _, h => by simp at h
theorem setRow_last (w : World) (cur cs : Array Value) (t : TypeId) : (w.alloc (.cells cur t)).setRow w.heap.size cs = w.alloc (.cells cs t) := by
  unfold World.setRow World.alloc
  congr 1
  apply Array.ext_getElem?
  intro i
  simp only [Array.getElem?_modify, Array.getElem?_push]
  by_cases hi : w.heap.size = i
  · subst hi; simp
  · simp [hi, show ¬ i = w.heap.size from fun e => hi e.symm]

theorem copyKey {w : World} {a : List Int} {ab off ac : Nat} (hc : CI w ab off a) (h5 : a.length ≤ 5) :
    (Builtin.copy_ #[22, 22] 3 #[.slice (some ⟨w.heap.size, 0, none⟩) 5 5, .slice (some ⟨ab, off, none⟩) a.length ac]).run Tryd.prog (w.alloc (.cells zer5 89)) = .ok (.int .i64 a.length) (w.alloc (.cells (keyA a) 89)) := by
  have hl : (a.map (Value.int .i64)).length = a.length := List.length_map ..
  have := run_copy_row (P := Tryd.prog) (w.alloc (.cells zer5 89)) 22 22 3 3 w.heap.size 0 5 5 ⟨ab, off, none⟩ a.length ac zer5 89 (a.map (Value.int .i64)) (by kernel_rfl) (by kernel_rfl) (World.alloc_heap_new w _) (by rw [hl]; simp [Nat.min_def]; omega) ?_ (by rw [hl]; show 0 + a.length ≤ 5; omega) ?_
  · rw [this, keyA_pad h5, setRow_last, hl]; rfl
  · intro j v hj
    rw [List.getElem?_map] at hj
    cases hq : a[j]? with
    | none => rw [hq] at hj; cases hj
    | some x =>
      rw [hq] at hj
      simp only [Option.map_some, Option.some.injEq] at hj
      subst hj
      have hjl : j < a.length := (List.getElem?_eq_some_iff.1 hq).1
      have := (hc.keep ((Below.refl _ w).alloc (Nat.le_refl _) (.cells zer5 89))) j hjl
      rw [List.getD_eq_getElem?_getD, hq] at this
      rw [addr_add]; exact this
  · intro v hv
    obtain ⟨x, _, rfl⟩ := List.mem_map.1 hv
    rfl
set_option maxRecDepth 100000 in
set_option maxHeartbeats 800000 in
theorem keyCall {w : World} {u : Value} {a : List Int} (h : Ints w u a) (h1 : 1 ≤ a.length) (h5 : a.length ≤ 5) : Calls Tryd.prog 57 #[u] w fun e w' => e = .returned (.agg (keyA a)) ∧ Below w.heap.size w w' := by
  obtain ⟨aa, ac, ab, off, rfl, ha, hc, hl⟩ := h
  obtain rfl := ha h1
  have hcA : CI (w.alloc (.cells zer5 89)) ab off a := hc.keep ((Below.refl _ w).alloc (Nat.le_refl _) _)
  have hcp := copyKey (ac := ac) hcA h5
  rw [World.size_alloc] at hcp
  unfold zer5 keyA at hcp
  unfold keyA
  obtain ⟨x0, hx0⟩ : ∃ x, a.getD 0 0 = x := ⟨_, rfl⟩
  obtain ⟨x1, hx1⟩ : ∃ x, a.getD 1 0 = x := ⟨_, rfl⟩
  obtain ⟨x2, hx2⟩ : ∃ x, a.getD 2 0 = x := ⟨_, rfl⟩
  obtain ⟨x3, hx3⟩ : ∃ x, a.getD 3 0 = x := ⟨_, rfl⟩
  obtain ⟨x4, hx4⟩ : ∃ x, a.getD 4 0 = x := ⟨_, rfl⟩
  rw [hx0, hx1, hx2, hx3, hx4] at hcp ⊢
  clear hx0 hx1 hx2 hx3 hx4 hcA hc ha
  go_enter Tryd.func57, Tryd.ntmps57
  go_wp2
  have hb : Below w.heap.size w ((w.alloc (.cells #[.int .i64 x0, .int .i64 x1, .int .i64 x2, .int .i64 x3, .int .i64 x4] 89)).alloc (.cells #[.int .i64 x0, .int .i64 x1, .int .i64 x2, .int .i64 x3, .int .i64 x4] 89)) := ((Below.refl _ w).alloc (Nat.le_refl _) _).alloc (by simp) _
  have hg : ((w.alloc (.cells #[.int .i64 x0, .int .i64 x1, .int .i64 x2, .int .i64 x3, .int .i64 x4] 89)).alloc (.cells #[.int .i64 x0, .int .i64 x1, .int .i64 x2, .int .i64 x3, .int .i64 x4] 89)).heap[w.heap.size]? = _ := (Below.heap_alloc _ _ _ (by simp)).trans (World.alloc_heap_new w _)
  exact ⟨by simp, _, results_cell_row (p := 2) (ty := 89) rfl _ _ w.heap.size 89 _ _ _ rfl hg und89 rfl (by kernel_rfl), rfl, hb⟩
end Go.Proofs.YtpjlaaldepfnkaaDoor

/- The map literal of 'text'. -/
import Derived.Test.YtpjlaaldepfnkaaDoorBy
import Derived.Maps.Own
namespace Go.Proofs.YtpjlaaldepfnkaaDoor
open Go.RowKit Go.ChangeMaps Go.MapKept

theorem und114 : Tryd.prog.underlying 114 = some (.map 4 9) := by kernel_rfl
theorem und4 : Tryd.prog.underlying 4 = some .bool := by kernel_rfl

theorem isKeyB {x : Bool} : IsKey .bool (.bool x) := by simp [IsKey]
theorem mapPut {w : World} {b : Nat} {es : Array MapEntry} {clock : Nat} {x : Bool} (val : Value) (hb : w.heap[b]? = some (.map es clock)) (hf : Instr.findNow .bool (.bool x) es.toList 0 = some none) :
    (Instr.mapUpdate 114 (.map (some b)) (.bool x) val).run Tryd.prog w = .ok () (setBlock w b (.map (es.push ⟨.bool x, val, clock⟩) (clock + 1))) := by
  have h1 := MapKept.run_findKey (P := Tryd.prog) (w := w) und4 hf
  have h2 : (Instr.checkKey false 10000 4 (.bool x)).run Tryd.prog w = .ok () w := by
    exact MapKept.run_checkKey und4 isKeyB _ _
  simp [Instr.mapUpdate, run_underlying und114, MapKept.run_getObj_map hb, h2, h1, MapKept.run_setObj_map _ hb, Result.andThen, setBlock]

theorem mapGet {w : World} {b : Nat} {es : Array MapEntry} {clock i : Nat} {x : Bool} {val : Value} (hb : w.heap[b]? = some (.map es clock)) (hf : Instr.findNow .bool (.bool x) es.toList 0 = some (some (i, val))) :
    (Instr.lookup 114 (.map (some b)) (.bool x) false).run Tryd.prog w = .ok val w := by
  have h1 := MapKept.run_findKey (P := Tryd.prog) (w := w) und4 hf
  have h2 : ∀ e, (Instr.checkKey e 10000 4 (.bool x)).run Tryd.prog w = .ok () w := by
    intro e
    exact MapKept.run_checkKey und4 isKeyB _ _
  simp [Instr.lookup, run_underlying und114, MapKept.run_getObj_map hb, h2, h1, Result.andThen]

def sepB (x : Bool) : ByteArray := if x then { data := #[40] } else { data := #[32] }

theorem mapLit (w : World) : ∃ W1 W2, (Instr.mapUpdate 114 (.map (some w.heap.size)) (.bool true) (.string { data := #[40] })).run Tryd.prog (w.alloc (.map #[] 0)) = .ok () W1 ∧
    (Instr.mapUpdate 114 (.map (some w.heap.size)) (.bool false) (.string { data := #[32] })).run Tryd.prog W1 = .ok () W2 ∧
    (∀ x, (Instr.lookup 114 (.map (some w.heap.size)) (.bool x) false).run Tryd.prog W2 = .ok (.string (sepB x)) W2) ∧ Below w.heap.size w W2 := by
  have h0 := World.alloc_heap_new w (.map #[] 0)
  have h1 := heap_setBlock_same h0 (.map #[⟨.bool true, .string { data := #[40] }, 0⟩] 1)
  have h2 := heap_setBlock_same h1 (.map #[⟨.bool true, .string { data := #[40] }, 0⟩, ⟨.bool false, .string { data := #[32] }, 1⟩] 2)
  refine ⟨_, _, mapPut _ h0 rfl, mapPut _ h1 rfl, ?_, ?_⟩
  · intro x
    cases x
    · exact mapGet h2 (i := 1) (val := .string { data := #[32] }) rfl
    · exact mapGet h2 (i := 0) (val := .string { data := #[40] }) rfl
  · refine ⟨rfl, rfl, rfl, by simp [setBlock], fun k hk => ?_⟩
    simp only [setBlock]
    rw [Array.getElem?_setIfInBounds_ne (by omega), Array.getElem?_setIfInBounds_ne (by omega)]
    exact Below.heap_alloc _ _ _ hk
end Go.Proofs.YtpjlaaldepfnkaaDoor

/- awake: the examples of the chapter. -/
import Derived.Test.YtpjlaaldepfnkaaDoorGd
import Derived.Test.YtpjlaaldepfnkaaDoorTz
import Derived.Test.YtpjlaaldepfnkaaDoorIc
namespace Go.Proofs.YtpjlaaldepfnkaaDoor
open Go.RowKit

theorem Ints.lit (w : World) (xs : List Int) (t : TypeId) (c : Nat) {g : Nat} (hg : g = w.heap.size) (hl : xs.length ≤ 1000) :
    Ints (w.alloc (.cells (xs.map (Value.int .i64)).toArray t)) (.slice (some ⟨g, 0, none⟩) xs.length c) xs := by
  subst hg
  refine ⟨_, c, w.heap.size, 0, rfl, fun _ => rfl, fun j hj => ?_, by omega⟩
  rw [Nat.zero_add, cell_of_row _ w.heap.size j _ t (0, 0) (World.alloc_heap_new w _)]
  simp [hj]
theorem Intss.lit (w : World) (us : List Value) (xss : List (List Int)) (t : TypeId) (c : Nat) {g : Nat} (hg : g = w.heap.size) (hl : xss.length ≤ 1000) (hu : us.length = xss.length) (h : ∀ j, j < xss.length → Ints w (us.getD j undef) (xss.getD j [])) :
    Intss (w.alloc (.cells us.toArray t)) (.slice (some ⟨g, 0, none⟩) xss.length c) xss := by
  subst hg
  refine ⟨_, c, w.heap.size, 0, rfl, fun _ => rfl, fun j hj => ⟨us.getD j undef, ?_, (h j hj).keep ((Below.refl _ _).alloc (Nat.le_refl _) _)⟩, by omega⟩
  rw [Nat.zero_add, cell_of_row _ w.heap.size j _ t (0, 0) (World.alloc_heap_new w _)]
  simp [show j < us.length by omega]

def awA : List Int := [1, 2, 0, 3]
def awB : List Int := [1, 0, 3, 2]
theorem aw1 {W : World} {u v : Value} (hA : Ints W u awA) (hB : Ints W v awB) : Calls Tryd.prog 31 #[u, v] W (RI W [2, 1, 3, 0] 0) := by
  have := compose hA hB
  rwa [show compL awA awB = [2, 1, 3, 0] by decide +kernel, show compE awA awB = 0 by decide +kernel] at this
theorem aw2 {W : World} {u v : Value} (hA : Ints W u awA) (hB : Ints W v awB) : Calls Tryd.prog 31 #[v, u] W (RI W [0, 3, 1, 2] 0) := by
  have := compose hB hA
  rwa [show compL awB awA = [0, 3, 1, 2] by decide +kernel, show compE awB awA = 0 by decide +kernel] at this
theorem aw3 {W : World} {u : Value} (hA : Ints W u awA) : Calls Tryd.prog 13 #[u] W (RI W [2, 0, 1, 3] 0) := by
  have := inverse hA
  rwa [show invL awA = [2, 0, 1, 3] by decide +kernel, show chk awA = 0 by decide +kernel] at this
theorem aw4 {W : World} {u : Value} (hA : Ints W u awA) : Calls Tryd.prog 15 #[u] W (R2 W 3 0) := by
  have := orderCall hA fun h => (cyFacts h).cyc
  rwa [show ordP awA = 3 by decide +kernel, show chk awA = 0 by decide +kernel] at this
theorem aw5 {W : World} {u : Value} (hA : Ints W u awB) : Calls Tryd.prog 15 #[u] W (R2 W 2 0) := by
  have := orderCall hA fun h => (cyFacts h).cyc
  rwa [show ordP awB = 2 by decide +kernel, show chk awB = 0 by decide +kernel] at this
theorem aw6 {W : World} {u : Value} (hA : Ints W u awA) : Calls Tryd.prog 41 #[u] W (RS W { data := #[40, 48, 32, 49, 32, 50, 41] } 0) := by
  have := formatCall hA
  rwa [show fmtL awA = { data := #[40, 48, 32, 49, 32, 50, 41] } by decide +kernel, show chk awA = 0 by decide +kernel] at this
theorem aw7 {W : World} {u : Value} (hA : Ints W u awB) : Calls Tryd.prog 41 #[u] W (RS W { data := #[40, 48, 32, 49, 41, 40, 50, 32, 51, 41] } 0) := by
  have := formatCall hA
  rwa [show fmtL awB = { data := #[40, 48, 32, 49, 41, 40, 50, 32, 51, 41] } by decide +kernel, show chk awB = 0 by decide +kernel] at this
theorem aw8 {W : World} {u : Value} (hA : Ints W u awA) : Calls Tryd.prog 22 #[u, .int .i64 9] W (R2 W 10 0) := by
  have := setCall hA 9
  rwa [show setP awA 9 = 10 by decide +kernel, show setE awA 9 = 0 by decide +kernel] at this
theorem aw9 {W : World} {u v : Value} (hA : Ints W u awA) (hv : Ints W v [5, 6, 7, 8]) : Calls Tryd.prog 24 #[u, v] W (RI W [7, 5, 6, 8] 0) := by
  have := vector hA hv
  rwa [show vecL awA [5, 6, 7, 8] = [7, 5, 6, 8] by decide +kernel, show vecE awA [5, 6, 7, 8] = 0 by decide +kernel] at this
theorem aw10 {W : World} {v : Value} (hv : Intss W v [[1, 2, 0]]) : Calls Tryd.prog 27 #[.int .i64 3, v] W (RII W [[0, 1, 2], [1, 2, 0], [2, 0, 1]] 0) := by
  have := generate 3 hv
  rwa [show genR 3 [[1, 2, 0]] = [[0, 1, 2], [1, 2, 0], [2, 0, 1]] by decide +kernel, show chkList 3 [[1, 2, 0]] = 0 by decide +kernel] at this
theorem aw11 {W : World} {u : Value} (hA : Ints W u awA) : Calls Tryd.prog 17 #[u] W (RB W false 0) := by
  have := oddCall hA fun h => (cyFacts h).cyc
  rwa [show oddP awA = false by decide +kernel, show chk awA = 0 by decide +kernel] at this
theorem awEq {W : World} {u v : Value} {xs : List Int} (hA : Ints W u xs) (hB : Ints W v xs) : Calls Tryd.prog 21 #[u, v] W (fun e w' => e = .returned (.bool true) ∧ Qt W w') := by
  have := slEqual hA hB
  rwa [show sameB xs xs = true by simp [sameB]] at this
theorem awEqs {W : World} {u v : Value} {xs : List (List Int)} (hA : Intss W u xs) (hB : Intss W v xs) : Calls Tryd.prog 29 #[u, v] W (fun e w' => e = .returned (.bool true) ∧ Qt W w') := by
  have := refSameAll hA hB
  rwa [show sameAllB xs xs = true by simp [sameAllB]] at this
end Go.Proofs.YtpjlaaldepfnkaaDoor

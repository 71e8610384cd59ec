/- What holds of the 153 permutations, looked up one by one. -/
import Derived.Test.YtpjlaaldepfnkaaDoorPa
import Derived.Test.YtpjlaaldepfnkaaDoorWj
namespace Go.Proofs.YtpjlaaldepfnkaaDoor

def permsAll : List (List Int) := [1, 2, 3, 4, 5].flatMap everyL
theorem mem_permsAll {a : List Int} (h : chk a = 0) : a ∈ permsAll := by
  obtain ⟨⟨h1, h5⟩, hP⟩ := chk_iff.1 h
  rw [permsAll, List.mem_flatMap]
  exact ⟨a.length, by simp; omega, mem_everyL.2 hP⟩
theorem perm_all {p : List Int → Bool} (h : permsAll.all p = true) {a : List Int} (ha : chk a = 0) : p a = true := List.all_eq_true.1 h a (mem_permsAll ha)

theorem tOut_total : permsAll.all (fun a => (tOut a a.length 0 ByteArray.empty 0).isSome) = true := by decide +kernel
theorem ord_total : permsAll.all (fun a => (ordGo a 7 0).isSome) = true := by decide +kernel
theorem img_same : permsAll.all (fun a => (List.range 32).all (fun s => decide (imgR a s a.length = imgP a s a.length))) = true := by decide +kernel
end Go.Proofs.YtpjlaaldepfnkaaDoor

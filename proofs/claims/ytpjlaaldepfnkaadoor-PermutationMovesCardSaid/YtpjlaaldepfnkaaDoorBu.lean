/- strings.Builder's methods, with the blocks that they write. -/
import Derived.Test.YtpjlaaldepfnkaaDoorIt
import Derived.Lib.Builder
import Derived.Lib.AppendStr
import Derived.Lib.UnsafeStr
import Derived.Lib.Strings
import Derived.Lib.Slices
import Derived.Lib.Walk
import Derived.Laws.Externs
import Derived.Laws.IdiomCopy
namespace Go.Proofs.YtpjlaaldepfnkaaDoor
open Go.RowKit

theorem elemByte : ElemOK Tryd.prog 107 5 (.int .u8 0) 1 := ⟨by kernel_rfl, by kernel_rfl, rfl⟩
theorem und9 : Tryd.prog.underlying 9 = some .string := by kernel_rfl
/-- The block of a row behind an append: the old one, or a new one. -/
def NewBlk (w : World) (v v' : Value) : Prop := v'.ownBlock = v.ownBlock ∨ ∀ k, v'.ownBlock = some k → w.heap.size ≤ k

theorem ownBlock_ge {w : World} {B : Nat} {E : TypeId} {v : Value} {n : Nat} {xs : List Value} (h : w.ownsRow B E 1 v n xs) : ∀ k, v.ownBlock = some k → B ≤ k := fun k hk => (h.lt k hk).1

theorem run_app_str (w : World) (ty : TypeId) (v : Value) (n : Nat) (xs : List Value) (hown : w.ownsRow 0 5 1 v n xs) (s : ByteArray) (hb : n + s.size ≤ 1000000000) :
    ∃ v' w', (Builtin.append_ #[107, 9] ty #[v, .string s]).run Tryd.prog w = .ok v' w' ∧ w'.ownsRow 0 5 1 v' (n + s.size) (xs ++ Lib.strCells s) ∧ w.grownBy w' v.ownBlock ∧ NewBlk w v v' := by
  obtain ⟨i0, hi, hz0, hz1, hz2⟩ := info_parts elemByte.2.1
  obtain ⟨v', w', hr, h1, h2, _⟩ := Lib.run_append_own_string (P := Tryd.prog) w 0 107 9 ty 5 i0 elemByte.1 und9 hi hz0 hz1 hz2 v n xs hown s (by unfold maxLen; omega) (by omega) (Nat.zero_le _)
  refine ⟨v', w', hr, h1, h2, ?_⟩
  rcases hown.2 with ⟨rfl, rfl⟩ | ⟨g, cap, cur, rfl, hbg, hg, hnc, hcm, hcs, htake⟩
  · have hx : xs = [] := List.length_eq_zero_iff.1 (by simpa using hown.1)
    subst hx
    obtain ⟨v2, w2, hr2, h3, _, _⟩ := Lib.run_append_own_string (P := Tryd.prog) w w.heap.size 107 9 ty 5 i0 elemByte.1 und9 hi hz0 hz1 hz2 (.slice none 0 0) 0 [] (World.ownsRow_nil _ _ _ _) s (by unfold maxLen; omega) (by omega) (Nat.le_refl _)
    rw [hr] at hr2
    injection hr2 with e1 e2
    subst e1
    exact .inr (ownBlock_ge h3)
  · by_cases hroom : n + s.size ≤ cap
    · have hcs' : cur.size = cap := by simpa using hcs
      have hr2 := Lib.run_append_room_string (P := Tryd.prog) w 107 9 ty 5 i0 elemByte.1 und9 hi hz1 g n cap cur hg s hroom (by omega)
      rw [hr] at hr2
      injection hr2 with e1 e2
      subst e1
      exact .inl rfl
    · have holds : ∀ j u, xs[j]? = some u → w.cell? ((⟨g, 0, none⟩ : Addr).add j) = some u := hown.cells (g := g) rfl
      have hr2 := Lib.run_append_grow_string (P := Tryd.prog) w 107 9 ty 5 i0 (.int .u8 0) elemByte.1 und9 hi hz0 ⟨g, 0, none⟩ n cap xs (by rw [hz1]; simpa using hown.1) holds s (by omega) (by omega) (by rw [hz2]; exact growslice_fits (by omega) (by omega))
      rw [hr] at hr2
      injection hr2 with e1 e2
      subst e1
      right
      intro k hk
      simp only [Value.ownBlock, Option.some.injEq] at hk
      omega

theorem run_app_one (w : World) (ty : TypeId) (v : Value) (n : Nat) (xs : List Value) (hown : w.ownsRow 0 5 1 v n xs) (ad : Addr) (c : Nat) (y : Value) (hy : w.cell? ad = some y) (hy1 : y.oneCell' = true) (hb : n + 1 ≤ 1000000000) :
    ∃ v' w', (Builtin.append_ #[107, 107] ty #[v, .slice (some ad) 1 c]).run Tryd.prog w = .ok v' w' ∧ w'.ownsRow 0 5 1 v' (n + 1) (xs ++ [y]) ∧ w.grownBy w' v.ownBlock ∧ NewBlk w v v' := by
  obtain ⟨i0, hi, hz0, hz1, hz2⟩ := info_parts elemByte.2.1
  have hnews : ∀ j u, [y][j]? = some u → w.cell? (ad.add j) = some u := by
    intro j u hj
    match j, hj with
    | 0, hj => simp at hj; subst hj; simpa [Addr.add] using hy
  have h1c : ∀ u ∈ [y], u.oneCell' = true := fun u hu => by rw [List.mem_singleton.1 hu]; exact hy1
  obtain ⟨v', w', hr, h1, h2, _⟩ := run_append_own (P := Tryd.prog) w 0 107 ty 5 i0 (.int .u8 0) 1 1 elemByte.1 hi hz0 hz1 hz2 rfl (by decide) v n xs hown ad 1 c [y] rfl hnews h1c (by unfold maxLen; omega) (by omega) (Nat.zero_le _)
  refine ⟨v', w', hr, h1, h2, ?_⟩
  rcases hown.2 with ⟨rfl, rfl⟩ | ⟨g, cap, cur, rfl, hbg, hg, hnc, hcm, hcs, htake⟩
  · have hx : xs = [] := List.length_eq_zero_iff.1 (by simpa using hown.1)
    subst hx
    obtain ⟨v2, w2, hr2, h3, _, _⟩ := run_append_own (P := Tryd.prog) w w.heap.size 107 ty 5 i0 (.int .u8 0) 1 1 elemByte.1 hi hz0 hz1 hz2 rfl (by decide) (.slice none 0 0) 0 [] (World.ownsRow_nil _ _ _ _) ad 1 c [y] rfl hnews h1c (by unfold maxLen; omega) (by omega) (Nat.le_refl _)
    rw [hr] at hr2
    injection hr2 with e1 e2
    subst e1
    exact .inr (ownBlock_ge h3)
  · by_cases hroom : n + 1 ≤ cap
    · obtain ⟨w2, hr2, _, _⟩ := run_append_fits (P := Tryd.prog) w 0 107 ty 5 i0 1 elemByte.1 hi hz1 g n cap xs hown ad 1 c [y] rfl hnews h1c hroom
      rw [hr] at hr2
      injection hr2 with e1 e2
      subst e1
      exact .inl rfl
    · have holds : ∀ j u, xs[j]? = some u → w.cell? ((⟨g, 0, none⟩ : Addr).add j) = some u := hown.cells (g := g) rfl
      have hr2 := run_append_grow (P := Tryd.prog) w 107 ty 5 i0 (.int .u8 0) elemByte.1 hi hz0 ⟨g, 0, none⟩ n cap xs (by rw [hz1]; simpa using hown.1) holds ad 1 c [y] (by rw [hz1]; rfl) hnews (by omega) (by omega) (growslice_fits (by omega) (by rw [hz2]; omega))
      rw [hr] at hr2
      injection hr2 with e1 e2
      subst e1
      right
      intro k hk
      simp only [Value.ownBlock, Option.some.injEq] at hk
      omega
end Go.Proofs.YtpjlaaldepfnkaaDoor

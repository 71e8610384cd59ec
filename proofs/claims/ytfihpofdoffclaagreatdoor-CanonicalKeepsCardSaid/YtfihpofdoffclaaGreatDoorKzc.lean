/- Texts of this claim, put together: V7 V8 V9 VE VF VG. -/
import Derived.Test.YtfihpofdoffclaaGreatDoorKzb
import Derived.Test.YtfihpofdoffclaaGreatDoorKw
import Derived.Test.YtfihpofdoffclaaGreatDoorKu
import Derived.Test.YtfihpofdoffclaaGreatDoorKz
import Derived.Deep.AppendSrc

/- Words. -/
namespace Go.Proofs.YtfihpofdoffclaaGreatDoor
open Go.RowKit

theorem run_make0 {T E : TypeId} {z : Value} {k bytes : Nat} (hE : ElemK Tryz.prog T E z k bytes) (c : Nat) (hc : c ≤ 1000000) (hby : bytes ≤ 128) (w : World) :
    (Instr.makeSlice T (.int .i64 0) (.int .i64 (c : Int))).run Tryz.prog w = .ok (.slice (some ⟨w.heap.size, 0, none⟩) 0 c) (w.alloc (.cells (madeCells z.cells (c * k)) E)) := by
  obtain ⟨i0, hi, hz0, hz1, hz2⟩ := info_parts hE.2.1
  have hb : (i0.bytes : Int) * (c : Int) ≤ 281474976710656 := by
    have h : ((i0.bytes * c : Nat) : Int) ≤ 281474976710656 := by
      have : i0.bytes * c ≤ 128 * 1000000 := Nat.mul_le_mul (by omega) hc
      omega
    rwa [Int.natCast_mul] at h
  have hr := run_make (P := Tryz.prog) w T E i0 z hE.1 hi hz0 .i64 .i64 0 c (by omega) (by omega) hb (by omega)
  simp only [Int.toNat_natCast, hz1, Int.toNat_zero] at hr
  exact hr
theorem owMade0 {α : Type} {E : TypeId} {z : Value} {k : Nat} {El : World → List Value → α → Prop} {w : World} {B c : Nat} (hB : B ≤ w.heap.size) (hc : c ≤ 1000000) :
    OwX E k El (w.alloc (.cells (madeCells z.cells (c * k)) E)) B (.slice (some ⟨w.heap.size, 0, none⟩) 0 c) 0 [] :=
  ⟨[], ⟨by simp, .inr ⟨w.heap.size, c, _, rfl, hB, heap_alloc_new w _, Nat.zero_le _, by unfold maxLen; omega, by rw [size_madeCells], by simp⟩⟩, rfl, by simp, by simp⟩
theorem runStore {W : World} {p : Addr} {v u : Value} (hc : W.cell? p = some u) (hf : W.frozen? p = false) (h1 : v.oneCell' = true) : (store p v).run Tryz.prog W = .ok () (W.setCell p v) := by
  rw [run_store Tryz.prog W p v _ h1, hc]; simp [hf]
theorem wL_each (ss : List (List (List Int))) : ∀ (m s : Nat) (x : List (List Int)), x ∈ wL ss m s → x.length = m
  | 0, _, x, h => by rw [wL, List.mem_singleton] at h; subst h; rfl
  | m + 1, s, x, h => by
    rw [wL, List.mem_flatMap] at h
    obtain ⟨mv, _, h⟩ := h
    obtain ⟨y, hy, rfl⟩ := List.mem_map.1 h
    rw [List.length_cons, wL_each ss m _ y hy]
set_option maxRecDepth 100000 in
set_option maxHeartbeats 3200000 in
theorem wordsA {w : World} {v : Value} {n : Int} {ss : List (List (List Int))} (hA : AdvV w v n ss) (h0 : chkA n ss = 0) (hO : ClsOK ss) {k : Nat} (hk : k ≤ 6) (hz : num ss 4097 k ≤ 4096) :
    Calls Tryz.prog 39 #[v, .int .i64 (k : Int)] w fun e w' => ∃ u, e = .returned (.tuple #[u, .int .i64 0]) ∧ KSS 7 w' u (wL ss k 0) ∧ Below w.heap.size w w' := by
  have hM := LeadOK.ofCls hO
  have hl0 := hO.2.2.1
  have hcn := numL_cnt hM (L := 4097) (by omega) k 0 hl0
  have hcnt : (wL ss k 0).length ≤ 4096 := by rw [wL_len]; unfold num at hz; omega
  obtain ⟨c, hc⟩ : ∃ c, num ss 4097 k = c := ⟨_, rfl⟩
  have HC := Lib.hid (fun W (hb : Below w.heap.size w W) => countedA (hA.keep hb) h0 hO hk hz)
  rw [hc] at hz
  simp only [hc] at HC
  obtain ⟨sv, rfl, hK⟩ := hA
  obtain ⟨sa, sc, hsv⟩ := hK.shape
  subst hsv
  obtain ⟨W1, hW1⟩ : ∃ W1, W1 = (w.alloc (.cells #[.int .i64 n, .slice sa ss.length sc] 24)).alloc (.cells #[.int .i64 (k : Int)] 3) := ⟨_, rfl⟩
  have hs1 : W1.heap.size = w.heap.size + 2 := by rw [hW1]; simp
  have hb1 : Below w.heap.size w W1 := by rw [hW1]; exact ((Below.refl _ w).alloc (Nat.le_refl _) _).alloc (by simp) _
  have kA : W1.heap[w.heap.size]? = some (.cells #[.int .i64 n, .slice sa ss.length sc] 24) := by
    rw [hW1]; exact (Below.heap_alloc _ _ _ (by simp)).trans (World.alloc_heap_new w _)
  have kK : W1.heap[w.heap.size + 1]? = some (.cells #[.int .i64 (k : Int)] 3 (0, 0)) := by
    rw [hW1]
    have := World.alloc_heap_new (w.alloc (.cells #[.int .i64 n, .slice sa ss.length sc] 24)) (.cells #[.int .i64 (k : Int)] 3)
    rwa [World.size_alloc] at this
  obtain ⟨d0, d1⟩ := box2 kA
  have ck := cell_of_one kK
  have hm1 : ∀ w : World, (Instr.makeSlice 56 (.int .i64 0) (.int .i64 (c : Int))).run Tryz.prog w = .ok (.slice (some ⟨w.heap.size, 0, none⟩) 0 c) (w.alloc (.cells (madeCells #[.slice none 0 0] c) 45)) := fun w => by
    have h := run_make0 elemRs c (by omega) (by decide) w
    rwa [Nat.mul_one] at h
  have hm2 : ∀ w : World, (Instr.makeSlice 45 (.int .i64 0) (.int .i64 (k : Int))).run Tryz.prog w = .ok (.slice (some ⟨w.heap.size, 0, none⟩) 0 k) (w.alloc (.cells (madeCells #[.int .i64 0, .int .i64 0, .int .i64 0, .int .i64 0, .int .i64 0, .int .i64 0, .int .i64 0] (k * 7)) 79)) := fun w => run_make0 elemRd k (by omega) (by decide) w
  replace hs1 := Lib.hid hs1
  replace hK := Lib.hid hK
  replace hO := Lib.hid hO
  replace hc := Lib.hid hc
  go_enter Tryz.func39, Tryz.ntmps39
  go_wp2_with fail
  rw [← hW1]
  replace hW1 := Lib.hid hW1
  refine (HC.out W1 hb1).mono ?_
  rintro e W2 ⟨rfl, hb2⟩
  have hb12 := bt hb1 hb2 hb1.size
  have ck2 := cell_kept hb2 ck
  have cA2 := cell_kept hb2 d0
  have cA3 := cell_kept hb2 d1
  have hs12 : w.heap.size + 2 ≤ W2.heap.size := by have := hs1.out; have := hb2.size; omega
  have kA2 := (hb2.block w.heap.size (by have := hs1.out; omega)).trans kA
  have kK2 := (hb2.block (w.heap.size + 1) (by have := hs1.out; omega)).trans kK
  obtain ⟨W3, hW3⟩ : ∃ W3, W3 = W2.alloc (.cells (madeCells #[.slice none 0 0] c) 45) := ⟨_, rfl⟩
  obtain ⟨W5, hW5⟩ : ∃ W5, W5 = (((W2.alloc (.cells (madeCells #[.slice none 0 0] c) 45)).alloc (.cells #[.slice (some ⟨W2.heap.size, 0, none⟩) 0 c] 56)).alloc (.cells #[Value.nilFunc] 106)) := ⟨_, rfl⟩
  have hs3 : W3.heap.size = W2.heap.size + 1 := by rw [hW3]; simp
  have hs5 : W5.heap.size = W2.heap.size + 3 := by rw [hW5]; simp
  have kF5 : W5.heap[W2.heap.size + 1 + 1]? = some (.cells #[Value.nilFunc] 106 (0, 0)) := by
    rw [hW5]
    have := World.alloc_heap_new ((W2.alloc (.cells (madeCells #[.slice none 0 0] c) 45)).alloc (.cells #[.slice (some ⟨W2.heap.size, 0, none⟩) 0 c] 56)) (.cells #[Value.nilFunc] 106)
    simpa only [World.size_alloc] using this
  have hst := runStore (v := (.func (.func 73) #[] #[.pointer (some ⟨w.heap.size + 1, 0, none⟩), .pointer (some ⟨W2.heap.size + 1, 0, none⟩), .pointer (some ⟨w.heap.size, 0, none⟩), .pointer (some ⟨W2.heap.size + 1 + 1, 0, none⟩)])) (cell_of_one kF5) (free_of_one kF5) rfl
  obtain ⟨W6, hW6⟩ : ∃ W6, W6 = ((W2.alloc (.cells (madeCells #[.slice none 0 0] c) 45)).alloc (.cells #[.slice (some ⟨W2.heap.size, 0, none⟩) 0 c] 56)).alloc (.cells #[(.func (.func 73) #[] #[.pointer (some ⟨w.heap.size + 1, 0, none⟩), .pointer (some ⟨W2.heap.size + 1, 0, none⟩), .pointer (some ⟨w.heap.size, 0, none⟩), .pointer (some ⟨W2.heap.size + 1 + 1, 0, none⟩)])] 106) := ⟨_, rfl⟩
  have hs6 : W6.heap.size = W2.heap.size + 3 := by rw [hW6]; simp
  have hb36 : Below W3.heap.size W3 W6 := by rw [hW6, ← hW3]; exact ((Below.refl _ W3).alloc (Nat.le_refl _) _).alloc (by simp) _
  have hb26 : Below W2.heap.size W2 W6 := by rw [hW6]; exact (((Below.refl _ W2).alloc (Nat.le_refl _) _).alloc (by simp) _).alloc (by simp; omega) _
  have hrow3 : OwX 45 1 (EWg W6.heap.size) W3 w.heap.size (.slice (some ⟨W2.heap.size, 0, none⟩) 0 c) 0 [] := by
    have h := owMade0 (E := 45) (z := .slice none 0 0) (k := 1) (El := EWg W6.heap.size) (w := W2) (B := w.heap.size) (c := c) (by omega) (by omega)
    rw [Nat.mul_one] at h
    rw [hW3]; exact h
  have kO6 : W6.heap[W2.heap.size + 1]? = some (.cells #[.slice (some ⟨W2.heap.size, 0, none⟩) 0 c] 56 (0, 0)) := by
    rw [hW6]
    refine (Below.heap_alloc _ _ _ (by simp)).trans ?_
    have := World.alloc_heap_new (W2.alloc (.cells (madeCells #[.slice none 0 0] c) 45)) (.cells #[.slice (some ⟨W2.heap.size, 0, none⟩) 0 c] 56)
    rwa [World.size_alloc] at this
  have kF6 : W6.heap[W2.heap.size + 1 + 1]? = some (.cells #[(.func (.func 73) #[] #[.pointer (some ⟨w.heap.size + 1, 0, none⟩), .pointer (some ⟨W2.heap.size + 1, 0, none⟩), .pointer (some ⟨w.heap.size, 0, none⟩), .pointer (some ⟨W2.heap.size + 1 + 1, 0, none⟩)])] 106 (0, 0)) := by
    rw [hW6]
    have := World.alloc_heap_new ((W2.alloc (.cells (madeCells #[.slice none 0 0] c) 45)).alloc (.cells #[.slice (some ⟨W2.heap.size, 0, none⟩) 0 c] 56)) (.cells #[(.func (.func 73) #[] #[.pointer (some ⟨w.heap.size + 1, 0, none⟩), .pointer (some ⟨W2.heap.size + 1, 0, none⟩), .pointer (some ⟨w.heap.size, 0, none⟩), .pointer (some ⟨W2.heap.size + 1 + 1, 0, none⟩)])] 106)
    simpa only [World.size_alloc] using this
  have kA6 := (hb26.block w.heap.size (by omega)).trans kA2
  have kK6 := (hb26.block (w.heap.size + 1) (by omega)).trans kK2
  have hbw6 := bt hb12 hb26 hb12.size
  obtain ⟨W7, hW7⟩ : ∃ W7, W7 = (W6.alloc (.cells (madeCells #[.int .i64 0, .int .i64 0, .int .i64 0, .int .i64 0, .int .i64 0, .int .i64 0, .int .i64 0] (k * 7)) 79)).drew := ⟨_, rfl⟩
  have h67 : Below W6.heap.size W6 W7 := by rw [hW7]; exact ((Below.refl _ W6).alloc (Nat.le_refl _) _).drew
  have hbw7 := bt hbw6 h67 hbw6.size
  have hx7 : OwX 79 7 EI W7 w.heap.size (.slice (some ⟨W6.heap.size, 0, none⟩) 0 k) 0 [] := by
    have h := owMade0 (E := 79) (z := .agg #[.int .i64 0, .int .i64 0, .int .i64 0, .int .i64 0, .int .i64 0, .int .i64 0, .int .i64 0]) (k := 7) (El := EI) (w := W6) (B := w.heap.size) (c := k) hbw6.size (by omega)
    rw [hW7]; exact h.wd7 rfl
  have hX7 : Bxs W7 k n (.slice sa ss.length sc) (.func (.func 73) #[] #[.pointer (some ⟨w.heap.size + 1, 0, none⟩), .pointer (some ⟨W2.heap.size + 1, 0, none⟩), .pointer (some ⟨w.heap.size, 0, none⟩), .pointer (some ⟨W2.heap.size + 1 + 1, 0, none⟩)]) 106 W6.heap.size (W2.heap.size + 1) (w.heap.size + 1) w.heap.size (W2.heap.size + 1 + 1) :=
    ⟨(h67.block _ (by omega)).trans kK6, (h67.block _ (by omega)).trans kA6, (h67.block _ (by omega)).trans kF6, by decide, by omega, by omega, by omega, by omega, by omega, by omega, by omega⟩
  have hO7 : WOut W7 w.heap.size W6.heap.size (W2.heap.size + 1) [] := by
    refine ⟨_, 0, (h67.block _ (by omega)).trans kO6, ?_, by omega⟩
    exact OwX.keep (EWg.stab _ (by decide)) (OwX.keep (EWg.stab _ (by decide)) hrow3 hb36) h67
  have hR := wordsRec hM hK.out hk (B := w.heap.size) (bo := W2.heap.size + 1) (cap := k) (Nat.le_refl _) (Nat.le_refl _) (by omega : w.heap.size ≤ W6.heap.size) k (w := W7) (l := 0) (s := 0) (x := []) (out := []) (by omega) hl0 rfl hbw7 hbw7.size hX7 hx7 hO7 (by simp; omega)
  rw [show ((0 : Nat) : Int) = 0 from rfl] at hR
  replace hR := Lib.hid hR
  replace hs6 := Lib.hid hs6
  replace hX7 := Lib.hid hX7
  have cf6 := cell_of_one kF6
  have ck6 := cell_of_one kK6
  rw [hW5] at hst
  replace hW3 := Lib.hid hW3
  replace hW5 := Lib.hid hW5
  replace hW6 := hW6.symm
  have hW6h := Lib.hid hW6
  clear hO7 hx7 kF5 hrow3 h67 hb36 kA6 kO6 hs3 hs5 hW6
  go_wp2_with fail
  rw [hW6h.out]
  clear hst
  go_region_held3 (fun w' => w'.cell? ⟨W2.heap.size + 1 + 1, 0, none⟩ = some (.func (.func 73) #[] #[.pointer (some ⟨w.heap.size + 1, 0, none⟩), .pointer (some ⟨W2.heap.size + 1, 0, none⟩), .pointer (some ⟨w.heap.size, 0, none⟩), .pointer (some ⟨W2.heap.size + 1 + 1, 0, none⟩)]) ∧ w'.cell? ⟨w.heap.size + 1, 0, none⟩ = some (.int .i64 (k : Int)))
    (first
      | go_keep
      | (exact ⟨cell_of_one (hX7.out.kw hk9).f, cell_of_one (hX7.out.kw hk9).k⟩))
    (first
      | (go_at_call 73; rw [← hW7]; refine hR.out.mono ?_; rintro e w9 ⟨rfl, hW9, hx9, hk9⟩))
  obtain ⟨ov, no, hbo, hrow9, _⟩ := hW9
  have cbo := cell_of_one hbo
  have hl9 : ([] : List (List (List Int))) ++ (wL ss k 0).map (([] : List (List Int)) ++ ·) = wL ss k 0 := by simp
  rw [hl9] at hrow9
  have hno := hrow9.length
  obtain ⟨oa, oc, hov⟩ := hrow9.shape
  subst hov
  have hks : KSS 7 w9 (.slice oa no oc) (wL ss k 0) := OwX.kss7 (hrow9.mono fun _ _ ⟨u, h1, h2, _⟩ => ⟨u, h1, h2⟩) (by omega) (fun x hx => by rw [wL_each ss k 0 x hx]; omega)
  have hbf := hbw7.trans hk9.1
  go_wp2
  go_ret2
  exact ⟨_, rfl, hks, hbf⟩
end Go.Proofs.YtfihpofdoffclaaGreatDoor

/- Words in lockstep; the words of the canonical form. -/
namespace Go.Proofs.YtfihpofdoffclaaGreatDoor
open Go.RowKit

theorem all2_flat {α β γ : Type} {R : α → β → Prop} {f : α → List γ} {g : β → List γ} (h : ∀ a b, R a b → f a = g b) : ∀ {xs : List α} {ys : List β}, All2 R xs ys → xs.flatMap f = ys.flatMap g
  | [], [], _ => rfl
  | a :: xs, b :: ys, hh => by
    rw [List.flatMap_cons, List.flatMap_cons, h a b hh.1, all2_flat h hh.2]
  | [], _ :: _, h => h.elim
  | _ :: _, [], h => h.elim
theorem wL_lock {ρ : Nat → Nat → Prop} {ss tt : List (List (List Int))} (hS : SimR ρ ss tt) : ∀ (k s t : Nat), ρ s t → wL ss k s = wL tt k t
  | 0, _, _, _ => rfl
  | k + 1, s, t, h => by
    rw [wL, wL]
    exact all2_flat (fun a b hab => by rw [hab.1, wL_lock hS k _ _ hab.2]) (hS s t h)
end Go.Proofs.YtfihpofdoffclaaGreatDoor

/- The classes of the states that are reached: as many as the canonical form has states. -/
namespace Go.Proofs.YtfihpofdoffclaaGreatDoor
open Go.RowKit

theorem exts_all {kf : Nat → Nat} {P : Nat → Prop} {s : Nat} : ∀ {ms : List (List Int)} {st : List Nat × List (Nat × List Int)}, (∀ m ∈ ms, P (mvTo m)) → (∀ x ∈ st.1, P x) → ∀ x ∈ (exts kf s ms st).1, P x
  | [], _, _, h => h
  | m :: r, st, hm, h => by
    rw [exts]
    refine exts_all (fun y hy => hm y (by simp [hy])) ?_
    split
    · exact h
    · intro x hx
      rcases List.mem_append.1 hx with hx | hx
      · exact h x hx
      · rw [List.mem_singleton.1 hx]; exact hm m (by simp)
theorem srch_all {kf : Nat → Nat} {P : Nat → Prop} {ss : List (List (List Int))} (hP : ∀ s, P s → ∀ m ∈ ss.getD s [], P (mvTo m)) : ∀ {f i : Nat} {st R : List Nat × List (Nat × List Int)}, srch kf ss f i st = some R → (∀ x ∈ st.1, P x) → ∀ x ∈ R.1, P x
  | 0, _, _, _, h, _ => by simp [srch] at h
  | f + 1, i, st, R, h, h0 => by
    rw [srch] at h
    by_cases hi : i < st.1.length
    · rw [if_pos hi] at h
      exact srch_all hP h (exts_all (hP _ (h0 _ (by rw [getD_eq hi]; exact List.getElem_mem hi))) h0)
    · rw [if_neg hi] at h
      injection h with h
      subst h; exact h0
theorem all2_mem {α β : Type} {R : α → β → Prop} : ∀ {xs : List α} {ys : List β}, All2 R xs ys → ∀ a ∈ xs, ∃ b ∈ ys, R a b
  | [], [], _, a, h => by cases h
  | x :: xs, y :: ys, hh, a, h => by
    rcases List.mem_cons.1 h with rfl | h
    · exact ⟨y, by simp, hh.1⟩
    · obtain ⟨b, h1, h2⟩ := all2_mem hh.2 a h
      exact ⟨b, by simp [h1], h2⟩
  | [], _ :: _, h, _, _ => h.elim
  | _ :: _, [], h, _, _ => h.elim
/-- The classes of the reached states are those of the states of the form. -/
theorem reach_keys {n : Int} {ss : List (List (List Int))} (hW : SmA n ss) (k : Nat) : k ∈ (ordI ss).1.map (keyL (part ss)) ↔ k ∈ (ordC ss).1.map (keyL (part ss)) := by
  have hO := clsOK_of hW.1 hW.2.1 hW.2.2.1 hW.2.2.2
  obtain ⟨f1, f2, ⟨t, ht⟩, f4, f5⟩ := ordC_facts hW
  obtain ⟨c1, _, _⟩ := ordC_eq hO
  obtain ⟨i1, _, i3⟩ := ordI_eq hO
  constructor
  · intro h
    obtain ⟨x, hx, rfl⟩ := List.mem_map.1 h
    refine srch_all (P := fun s => ∃ j, CanR ss s j) (fun s hs m hm => ?_) i1 (fun y hy => ?_) x hx |> fun ⟨j, hj⟩ => ?_
    · obtain ⟨j, hj⟩ := hs
      obtain ⟨b, _, hb⟩ := all2_mem (canSim hW s j hj) m hm
      exact ⟨_, hb.2⟩
    · rw [List.mem_singleton.1 hy]; exact ⟨0, canR_zero hW⟩
    · rw [hj.2.2, getD_eq hj.2.1]
      exact List.mem_map_of_mem (List.getElem_mem hj.2.1)
  · intro h
    obtain ⟨x, hx, rfl⟩ := List.mem_map.1 h
    refine List.mem_map_of_mem (srch_all (P := fun s => s ∈ (ordI ss).1) (fun s hs m hm => ?_) c1 (fun y hy => ?_) x hx)
    · obtain ⟨a, ha, rfl⟩ := List.getElem_of_mem hs
      have h1 := srch_closed i1 (by omega) (fun a ha => absurd ha (Nat.not_lt_zero _)) a ha m (by rw [getD_eq ha]; exact hm)
      simpa using h1
    · rw [List.mem_singleton.1 hy]
      obtain ⟨t', ht'⟩ := srch_pre i1
      rw [ht']; simp
/-- A list of different numbers that are the classes of reached states has as many members as the form has states. -/
theorem reach_count {n : Int} {ss : List (List (List Int))} (hW : SmA n ss) {l : List Nat} (hn : l.Nodup) (hl : ∀ k, k ∈ l ↔ k ∈ (ordI ss).1.map (keyL (part ss))) : l.length = (canS ss).length := by
  obtain ⟨_, f2, _, _, _⟩ := ordC_facts hW
  have h := ((List.perm_ext_iff_of_nodup hn f2).2 fun k => (hl k).trans (reach_keys hW k)).length_eq
  rw [List.length_map] at h
  rw [canS_len]; exact h
end Go.Proofs.YtfihpofdoffclaaGreatDoor

/- Sorted and compacted classes of the reached states. -/
namespace Go.Proofs.YtfihpofdoffclaaGreatDoor
open Go.RowKit

theorem cmpL_one (a b : Int) : cmpL [a] [b] < 0 ↔ a < b := by
  rw [cmpL_cons]
  simp [cmpL]
theorem srt_pair {ys : List Int} (h : Srt ys (ys.length - 1)) : (ys.map fun x => [x]).Pairwise fun a b => ¬ cmpL b a < 0 := by
  rw [List.pairwise_map, List.pairwise_iff_getElem]
  intro i j hi hj hij
  have := h i j hij (by omega)
  rw [getD_eq hi, getD_eq hj] at this
  rw [cmpL_one]; omega
theorem asc_nodup {l : List (List Int)} (h : AscL l) : l.Nodup := List.Pairwise.imp (R := fun a b => cmpL a b < 0) (fun {a b} hab e => by subst e; rw [cmpL_self] at hab; omega) h
theorem compact_count {n : Int} {ss : List (List (List Int))} (hW : SmA n ss) {ys : List Int} (hs : Srt ys (ys.length - 1)) (hm : ∀ x, x ∈ ys ↔ x ∈ natI ((ordI ss).1.map (keyL (part ss)))) : (cmpc (ys.map fun x => [x])).length = (canS ss).length := by
  have hn := asc_nodup (cmpc_asc (srt_pair hs))
  have hmem : ∀ v, v ∈ cmpc (ys.map fun x => [x]) ↔ ∃ x ∈ ys, v = [x] := fun v => by
    rw [cmpc_mem, List.mem_map]
    exact ⟨fun ⟨x, h1, h2⟩ => ⟨x, h1, h2.symm⟩, fun ⟨x, h1, h2⟩ => ⟨x, h1, h2.symm⟩⟩
  have hpos : ∀ v ∈ cmpc (ys.map fun x => [x]), ∃ k : Nat, v = [(k : Int)] ∧ k ∈ (ordI ss).1.map (keyL (part ss)) := fun v hv => by
    obtain ⟨x, hx, rfl⟩ := (hmem v).1 hv
    rw [hm, natI, List.mem_map] at hx
    obtain ⟨k, hk, rfl⟩ := hx
    exact ⟨k, rfl, hk⟩
  have h1 := reach_count hW (l := (cmpc (ys.map fun x => [x])).map fun v => (v.getD 0 0).toNat) (by
    refine List.pairwise_map.2 (List.Pairwise.imp_of_mem (fun {a b} ha hb hne hab => ?_) hn)
    obtain ⟨k, rfl, _⟩ := hpos a ha
    obtain ⟨k', rfl, _⟩ := hpos b hb
    have : k = k' := hab
    exact hne (by rw [this])) (fun k => by
    rw [List.mem_map]
    constructor
    · rintro ⟨v, hv, rfl⟩
      obtain ⟨k, rfl, hk⟩ := hpos v hv
      exact hk
    · intro hk
      refine ⟨[(k : Int)], (hmem _).2 ⟨_, (hm _).2 ?_, rfl⟩, rfl⟩
      rw [natI, List.mem_map]
      exact ⟨k, hk, rfl⟩)
  rwa [List.length_map] at h1
end Go.Proofs.YtfihpofdoffclaaGreatDoor

/- A queue of ints: a slice that begins anywhere in a row of the call's own. -/
namespace Go.Proofs.YtfihpofdoffclaaGreatDoor
open Go.RowKit

/-- The queue. -/
def QI (w : World) (B : Nat) (v : Value) (xs : List Int) : Prop := ∃ g o c cur, v = .slice (some ⟨g, o, none⟩) xs.length c ∧ B ≤ g ∧ w.heap[g]? = some (.cells cur 3 (0, 0)) ∧ xs.length ≤ c ∧ o + c ≤ cur.size ∧ c ≤ maxLen ∧ ∀ j, j < xs.length → cur[o + j]? = some (.int .i64 (xs.getD j 0))
theorem QI.keep {w w' : World} {B : Nat} {v : Value} {xs : List Int} (h : QI w B v xs) (hb : Below w.heap.size w w') : QI w' B v xs := by
  obtain ⟨g, o, c, cur, h1, h2, h3, h4⟩ := h
  exact ⟨g, o, c, cur, h1, h2, (hb.block g (Array.getElem?_eq_some_iff.1 h3).1).trans h3, h4⟩
theorem QI.other {w w' : World} {B : Nat} {v : Value} {xs : List Int} (h : QI w B v xs) (hk : ∀ g, B ≤ g → ∀ cs, w.heap[g]? = some (.cells cs 3 (0, 0)) → w'.heap[g]? = w.heap[g]?) : QI w' B v xs := by
  obtain ⟨g, o, c, cur, h1, h2, h3, h4⟩ := h
  exact ⟨g, o, c, cur, h1, h2, (hk g h2 cur h3).trans h3, h4⟩
theorem QI.start {w : World} {B : Nat} (x : Int) (hB : B ≤ w.heap.size) : QI (w.alloc (.cells #[.int .i64 x] 3)) B (.slice (some ⟨w.heap.size, 0, none⟩) 1 1) [x] :=
  ⟨w.heap.size, 0, 1, _, rfl, hB, heap_alloc_new w _, by simp, by simp, by unfold maxLen; omega, fun j hj => by
    have : j = 0 := by simp at hj; omega
    subst this; rfl⟩
theorem QI.head {w : World} {B : Nat} {v : Value} {x : Int} {xs : List Int} (h : QI w B v (x :: xs)) : ∃ g o c, v = .slice (some ⟨g, o, none⟩) (xs.length + 1) c ∧ w.cell? ⟨g, o, none⟩ = some (.int .i64 x) ∧ xs.length + 1 ≤ c := by
  obtain ⟨g, o, c, cur, h1, h2, h3, h4, h5, _, h6⟩ := h
  refine ⟨g, o, c, h1, ?_, h4⟩
  rw [cell_of_row _ _ o _ _ _ h3]
  exact h6 0 (by simp)
/-- queue[1:]. -/
theorem QI.tail {w : World} {B g o c : Nat} {x : Int} {xs : List Int} (h : QI w B (.slice (some ⟨g, o, none⟩) (xs.length + 1) c) (x :: xs)) : QI w B (.slice (if c = 1 then some ⟨g, o, none⟩ else some ⟨g, o + 1, none⟩) xs.length (c - 1)) xs := by
  obtain ⟨g', o', c', cur, h1, h2, h3, h4, h5, h6, h7⟩ := h
  injection h1 with h1 _ hc
  injection h1 with h1
  injection h1 with h1 ho
  subst h1 hc ho
  simp only [List.length_cons] at h4 h7
  by_cases hc1 : c = 1
  · have hx : xs.length = 0 := by omega
    refine ⟨g, o, c - 1, cur, by rw [if_pos hc1], h2, h3, by omega, by omega, by omega, fun j hj => by omega⟩
  · refine ⟨g, o + 1, c - 1, cur, by rw [if_neg hc1], h2, h3, by omega, by omega, by omega, fun j hj => ?_⟩
    have := h7 (j + 1) (by omega)
    rw [show o + 1 + j = o + (j + 1) by omega, this]; rfl
/-- append(queue, y). -/
theorem run_appQ {w : World} {B : Nat} {v : Value} {xs : List Int} {y : Int} (h : QI w B v xs) (hn : xs.length ≤ 1000000) (hB : B ≤ w.heap.size) (ad : Addr) (c0 : Nat) (hy : w.cell? ad = some (.int .i64 y)) (ty : TypeId) :
    ∃ v' w', (Builtin.append_ #[27, 27] ty #[v, .slice (some ad) 1 c0]).run Tryz.prog w = .ok v' w' ∧ QI w' B v' (xs ++ [y]) ∧ Below B w w' ∧ KeepX 3 w w' := by
  obtain ⟨g, o, c, cur, rfl, hg, hc, hlen, hsz, hmax, hcs⟩ := h
  obtain ⟨i0, hi, hz0, hz1, hz2⟩ := info_parts elemInt.2.1
  have ha0 : ad.add 0 = ad := by unfold Addr.add; split <;> simp_all
  have hnews : ∀ j u, ([.int .i64 y] : List Value)[j]? = some u → w.cell? (ad.add j) = some u := fun j u hj => by
    match j, hj with
    | 0, hj => simp at hj; subst hj; rw [ha0]; exact hy
  have hone : ∀ u ∈ ([.int .i64 y] : List Value), u.oneCell' = true := fun u hu => by rw [List.mem_singleton.1 hu]; rfl
  by_cases hroom : xs.length + 1 ≤ c
  · have hS := Src.ofSlice (P := Tryz.prog) w (size := i0.size) elemInt.1 ad 1 c0 [.int .i64 y] (by simp [hz1]) hnews hone
    have hcell : w.cell? ⟨g, o + xs.length, none⟩ = some (cur[o + xs.length]'(by omega)) := by
      rw [cell_of_row _ _ _ _ _ _ hc]; exact Array.getElem?_eq_getElem _
    have hr := run_append_room_src (P := Tryz.prog) w 27 27 ty 3 i0 elemInt.1 hi g o xs.length c _ 1 _ hS hroom
      (fun j hj => by
        have : j = 0 := by simp at hj; omega
        subst this
        rw [hz1, Nat.mul_one, Nat.add_zero, hcell]; rfl)
      (fun j _ => row_free hc _)
    rw [hz1, Nat.mul_one] at hr
    refine ⟨_, _, hr, ?_, Below.setCell (p := ⟨g, o + xs.length, none⟩) (Below.refl B w) hg _, KeepX.setCell (p := ⟨g, o + xs.length, none⟩) hc _⟩
    have hst := heap_setCell_same w g (o + xs.length) _ _ (.int .i64 y) hc
    refine ⟨g, o, c, _, by rw [List.length_append]; rfl, hg, hst, by rw [List.length_append]; exact hroom, by simpa using hsz, hmax, fun j hj => ?_⟩
    rw [Array.getElem?_setIfInBounds]
    by_cases hjl : j = xs.length
    · subst hjl
      rw [if_pos rfl, if_pos (by omega), List.getD_eq_getElem?_getD, List.getElem?_append_right (Nat.le_refl _), Nat.sub_self]; rfl
    · rw [List.length_append, List.length_singleton] at hj
      rw [if_neg (by omega), hcs j (by omega), List.getD_eq_getElem?_getD, List.getD_eq_getElem?_getD, List.getElem?_append_left (by omega)]
  · have holds : ∀ j u, (xs.map (Value.int .i64))[j]? = some u → w.cell? ((⟨g, o, none⟩ : Addr).add j) = some u := fun j u hj => by
      rw [List.getElem?_map] at hj
      have hjl : j < xs.length := by
        cases hq : xs[j]? with
        | none => rw [hq] at hj; cases hj
        | some z => exact (List.getElem?_eq_some_iff.1 hq).1
      rw [List.getElem?_eq_getElem hjl] at hj
      simp only [Option.map_some, Option.some.injEq] at hj
      subst hj
      rw [Addr.add_lit, cell_of_row _ _ _ _ _ _ hc, hcs j hjl, getD_eq hjl]
    have hbd : (xs.length + 1) * i0.bytes ≤ 140737488355328 := by rw [hz2]; omega
    have hr := run_append_grow (P := Tryz.prog) w 27 ty 3 i0 (.int .i64 0) elemInt.1 hi hz0 ⟨g, o, none⟩ xs.length c (xs.map (Value.int .i64)) (by simp [hz1]) holds ad 1 c0 [.int .i64 y] (by simp [hz1]) hnews (by omega) (by omega) (growslice_fits (by omega) hbd)
    have hge := grownCap_ge w (xs.length + 1) c 3
    have hcm : grownCap w (xs.length + 1) c 3 ≤ maxLen := grownCap_le_maxLen w (xs.length + 1) c 3 (by unfold maxLen; omega)
    obtain ⟨gc, hgc⟩ : ∃ gc, grownCap w (xs.length + 1) c 3 = gc := ⟨_, rfl⟩
    rw [hgc] at hr hge hcm
    have hb : Below w.heap.size w (w.drew.alloc (.cells ((xs.map (Value.int .i64)).toArray ++ [Value.int .i64 y].toArray ++ Builtin.zeroCells (Value.int .i64 0).cells (gc - (xs.length + 1))) 3)) := (Below.refl _ w).drew.alloc (Nat.le_refl _) _
    refine ⟨_, _, hr, ?_, hb.mono hB, KeepX.below hb⟩
    have hnew := heap_alloc_new w.drew (.cells ((xs.map (Value.int .i64)).toArray ++ [Value.int .i64 y].toArray ++ Builtin.zeroCells (Value.int .i64 0).cells (gc - (xs.length + 1))) 3)
    refine ⟨w.heap.size, 0, gc, _, by rw [List.length_append]; rfl, hB, hnew, by rw [List.length_append]; exact hge, ?_, hcm, fun j hj => ?_⟩
    · simp only [Array.size_append, List.size_toArray, size_zeroCells, List.length_map, List.length_singleton]
      have : (Value.int .i64 0).cells.size = 1 := rfl
      rw [this]; omega
    · rw [List.length_append, List.length_singleton] at hj
      rw [Nat.zero_add, Array.getElem?_append_left (by simp; omega)]
      have h1 : ((xs.map (Value.int .i64)).toArray ++ [Value.int .i64 y].toArray) = ((xs ++ [y]).map (Value.int .i64)).toArray := by simp
      rw [h1, List.getElem?_toArray, List.getElem?_map, List.getElem?_eq_getElem (by simpa using hj), getD_eq (by simpa using hj)]; rfl
/-- At the list of a plain region's operations: append(queue, y), y in a new box. -/
theorem wpAppQ {w0 : World} {y : Int} {t : TypeId} {ops : Array Oper} {rest : List Oper} {o : Oper} {a : Act} {Q : Exit → Act → World → Prop} (hgd : o.guard = none) (s x : Operand)
    (ho : o.op = .call { callee := .builtin .append, args := #[s, x], argTypes := #[27, 27] })
    {B : Nat} {v : Value} {xs : List Int} (hs : a.eval s = v) (hown : QI w0 B v xs) (hx : a.eval x = .slice (some ⟨w0.heap.size, 0, none⟩) 1 1)
    (hn : xs.length ≤ 1000000) (hB : B ≤ w0.heap.size)
    (h : ∀ v' w', QI w' B v' (xs ++ [y]) → Below B w0 w' → KeepX 3 w0 w' → wpList Tryz.prog ops Q rest (a.put o.dst v') w') :
    wpList Tryz.prog ops Q (o :: rest) a (w0.alloc (.cells #[.int .i64 y] t)) := by
  have hb : Below w0.heap.size w0 (w0.alloc (.cells #[.int .i64 y] t)) := (Below.refl _ _).alloc (Nat.le_refl _) _
  have hc : (w0.alloc (.cells #[.int .i64 y] t)).cell? ⟨w0.heap.size, 0, none⟩ = some (.int .i64 y) := by
    rw [cell_of_row _ _ 0 _ _ _ (heap_alloc_new w0 (.cells #[.int .i64 y] t))]; rfl
  refine wpList_plain hgd fun K hK => ?_
  obtain ⟨v', w', hr, h2, h3, h4⟩ := run_appQ (hown.keep hb) hn (Nat.le_trans hB hb.size) ⟨w0.heap.size, 0, none⟩ 1 hc o.type
  unfold Oper.wp execOp
  simp only [ho, resolve, invoke, builtin, Sem.run_bind, Sem.run_pure, Result.andThen_ok, List.map_toArray, List.map_cons, List.map_nil, hs, hx, hr]
  exact hK _ _ (h v' w' h2 ((hb.mono hB).trans h3) ((KeepX.below hb).trans h4))
end Go.Proofs.YtfihpofdoffclaaGreatDoor

/- adversary.reached: the states that are met, in ascending order. -/
namespace Go.Proofs.YtfihpofdoffclaaGreatDoor
open Go.RowKit Go.ChangeMaps Go.MapKept Go.WideMaps

theorem idmap (o : List Nat) : o.map id = o := List.map_id o
set_option maxRecDepth 100000 in
set_option maxHeartbeats 6400000 in
theorem reachedA {w : World} {v : Value} {n : Int} {ss : List (List (List Int))} (hA : AdvV w v n ss) (hO : ClsOK ss) :
    Calls Tryz.prog 74 #[v] w fun e w' => ∃ u l, e = .returned u ∧ OI w' w.heap.size u l.length (natI l) ∧ (∀ x, x ∈ l ↔ x ∈ (ordI ss).1) ∧ l.length ≤ ss.length ∧ Below w.heap.size w w' := by
  obtain ⟨hR, hRl, hRb⟩ := ordI_eq hO
  have hl0 := hO.2.2.1
  have hl90 := hO.1
  obtain ⟨sv, rfl, sa, sc, sb, so, rfl, hsa, hsc, _⟩ := hA
  obtain rfl := hsa hl0
  obtain ⟨W1, hW1⟩ : ∃ W1, W1 = (w.alloc (.cells #[.int .i64 n, .slice (some ⟨sb, so, none⟩) ss.length sc] 24)).alloc (.map #[] 0) := ⟨_, rfl⟩
  have hs1 : W1.heap.size = w.heap.size + 2 := by rw [hW1]; simp
  have hb1 : Below w.heap.size w W1 := by rw [hW1]; exact ((Below.refl _ w).alloc (Nat.le_refl _) _).alloc (by simp) _
  have kA : W1.heap[w.heap.size]? = some (.cells #[.int .i64 n, .slice (some ⟨sb, so, none⟩) ss.length sc] 24) := by
    rw [hW1]; exact (Below.heap_alloc _ _ _ (by simp)).trans (World.alloc_heap_new w _)
  have hmade : SN id W1 (w.heap.size + 1) [] := by
    have h := MX.made (kv := intV) (vv := Value.bool) (w.alloc (.cells #[.int .i64 n, .slice (some ⟨sb, so, none⟩) ss.length sc] 24))
    rw [World.size_alloc] at h
    rw [hW1]; exact h
  obtain ⟨ob, hput, hSN1⟩ := SN.put hmade (by simp) (x := 0) (by simp) (by simp)
  obtain ⟨W2, hW2⟩ : ∃ W2, W2 = setBlock W1 (w.heap.size + 1) ob := ⟨_, rfl⟩
  rw [← hW2] at hput hSN1
  have hs2 : W2.heap.size = w.heap.size + 2 := by rw [hW2]; simpa [setBlock] using hs1
  have hb2 : Below w.heap.size w W2 := by rw [hW2]; exact setBlock_below hb1 (by omega) ob
  have kA2 : W2.heap[w.heap.size]? = some (.cells #[.int .i64 n, .slice (some ⟨sb, so, none⟩) ss.length sc] 24) := by rw [hW2]; exact (setBlock_keep ob (by omega)).trans kA
  have hmm := @run_makeMap Tryz.prog
  rw [hW1] at hput
  replace hput : (Instr.mapUpdate 150 (.map (some (w.heap.size + 1))) (.int .i64 0) (.bool true)).run Tryz.prog ((w.alloc (.cells #[.int .i64 n, .slice (some ⟨sb, so, none⟩) ss.length sc] 24)).alloc (.map #[] 0)) = .ok () W2 := hput
  have hQ0 := QI.start (w := W2) (B := w.heap.size + 2) 0 (by omega)
  have hbA : Below W2.heap.size W2 (W2.alloc (.cells #[.int .i64 0] 3)) := (Below.refl _ _).alloc (Nat.le_refl _) _
  have hSN2 : SN id (W2.alloc (.cells #[.int .i64 0] 3)) (w.heap.size + 1) [0] := MX.keep hSN1 (hbA.block _ (MX.lt hSN1))
  have kA3 := (hbA.block w.heap.size (by omega)).trans kA2
  have hbw := bt hb2 hbA hb2.size
  have hb0 : Hid (∀ x ∈ ([0] : List Nat), x < ss.length) := fun x hx => by simp at hx; omega
  replace hs1 := Lib.hid hs1
  replace hs2 := Lib.hid hs2
  replace hsc := Lib.hid hsc
  replace hR := Lib.hid hR
  go_enter Tryz.func74, Tryz.ntmps74
  replace hW1 := Lib.hid hW1
  replace hW2 := Lib.hid hW2
  go_wp2_with fail
  clear hput hmade hSN1 kA kA2
  go_loopg [4] (ss.length + 1) (fun f qv wr => ∃ (i : Nat) (o : List Nat) (fs : List (Nat × List Int)), SN id wr (w.heap.size + 1) o ∧ QI wr (w.heap.size + 2) qv (natI (o.drop i)) ∧ Hid (∀ x ∈ o, x < ss.length) ∧ Hid (srch id ss f i (o, fs) = some (ordI ss)) ∧ i ≤ o.length ∧ wr.heap[w.heap.size]? = some (.cells #[.int .i64 n, .slice (some ⟨sb, so, none⟩) ss.length sc] 24) ∧ Below w.heap.size w wr)
  case atStart => exact ⟨0, [0], [], hSN2, hQ0, hb0, hR, by simp, kA3, hbw⟩
  case round =>
    clear hSN2 hQ0 hb0 hR kA3 hbw
    obtain ⟨i, o, fs, hSN, hQ, hob, hg, hio, kA, hbw⟩ := hrel
    obtain ⟨f, rfl⟩ : ∃ f, gk = f + 1 := by
      cases gk with
      | zero => exact absurd hg (by intro h; simp [Hid, srch] at h)
      | succ f => exact ⟨f, rfl⟩
    have hol : o.length ≤ 90 := Nat.le_trans (srch_le hg.out) (by omega)
    by_cases hlt : i < o.length
    · obtain ⟨s, hs⟩ : ∃ s, o.getD i 0 = s := ⟨_, rfl⟩
      have hsl : s < ss.length := hob.out s (by rw [← hs, getD_eq hlt]; exact List.getElem_mem hlt)
      have hdi : natI (o.drop i) = (s : Int) :: natI (o.drop (i + 1)) := by rw [drop_cons hlt 0, hs]; rfl
      have hg3 : Hid (srch id ss f (i + 1) (exts id s (ss.getD s []) (o, fs)) = some (ordI ss)) := by
        have h1 := hg.out
        rw [srch, if_pos hlt] at h1
        rw [← hs]; exact h1
      rw [hdi] at hQ
      obtain ⟨gq, oq, cq, hqv, ch, hqc⟩ := hQ.head
      subst hqv
      obtain ⟨L, hL⟩ : ∃ L, (natI (o.drop (i + 1))).length = L := ⟨_, rfl⟩
      rw [hL] at hqc
      have hL9 : L ≤ 90 := by rw [← hL, natI_len, List.length_drop]; omega
      obtain ⟨d0, d1⟩ := box2 kA
      obtain ⟨u, hcu, hu⟩ := hsc.out s hsl
      have hcu2 := cell_kept hbw hcu
      obtain ⟨ms, hms⟩ : ∃ ms, ss.getD s [] = ms := ⟨_, rfl⟩
      have hmem : ms ∈ ss := by rw [← hms, getD_eq hsl]; exact List.getElem_mem hsl
      have hmv : Hid (∀ m ∈ ms, 0 ≤ m.getD 7 0 ∧ m.getD 7 0 < (ss.length : Int)) := fun m hm => by
        exact ((hO.2.2.2 ms hmem).2 m hm).2.2
      rw [hms] at hu hg3
      obtain ⟨E, hE⟩ : ∃ E, exts id s ms (o, fs) = E := ⟨_, rfl⟩
      have hE0 : Hid (exts id s (ms.drop 0) (o, fs) = E) := by show _ = _; rw [List.drop_zero]; exact hE
      rw [hE] at hg3
      have hEl : E.1.length ≤ 90 := Nat.le_trans (srch_le hg3.out) (by omega)
      obtain ⟨ma, mc, mb, mo, rfl, hma, hmc, hml⟩ := hu
      have hmcw := Lib.hid (fun W (hW : Below w.heap.size w W) j (hj : j < ms.length) => And.intro (hmc j hj).1 ((hmc j hj).2.keep hW))
      have hL0 : (0 : Int) < (L : Int) + 1 := by omega
      have hLd : decide ((0 : Int) < (L : Int) + 1) = true := decide_eq_true hL0
      have hsi : (s : Int) < (ss.length : Int) := by omega
      have hi0 : i < o.length := hlt
      replace hms := Lib.hid hms
      replace hdi := Lib.hid hdi
      rw [hL] at hQ ⊢
      clear hs hg hE hmc hcu hlt
      have hQ1 : QI wr (w.heap.size + 2) (.slice (some ⟨gq, oq, none⟩) (L + 1) cq) (natI (o.drop i)) := by rw [hdi.out]; exact hQ
      go_wp2_with fail
      go_quiet (fail)
      go_wp2_with fail
      go_loopw [4, 25] (fun qv jv wr => ∃ (j : Nat) (o : List Nat) (fs : List (Nat × List Int)), jv = .int .i64 j ∧ j ≤ ms.length ∧ SN id wr (w.heap.size + 1) o ∧ QI wr (w.heap.size + 2) qv (natI (o.drop i)) ∧ Hid (∀ x ∈ o, x < ss.length) ∧ Hid (exts id s (ms.drop j) (o, fs) = E) ∧ i < o.length ∧ wr.heap[w.heap.size]? = some (.cells #[.int .i64 n, .slice (some ⟨sb, so, none⟩) ss.length sc] 24) ∧ Below w.heap.size w wr) (fun _ jv _ => ms.length - (intOf jv).toNat)
      case atStart => exact ⟨0, o, fs, rfl, by omega, MX.keep hSN rfl, hQ1.keep (below_drewN (Below.refl _ _) _), hob, hE0, hi0, kA, below_drewN hbw _⟩
      case round =>
        clear hSN hQ hQ1 hob hE0 hi0 kA hbw hdi ch d0 d1 hio hol hcu2
        obtain ⟨j, o, fs, rfl, hj, hSN, hQ, hob, hg, hio, kA, hbw⟩ := hrel
        have hol : o.length ≤ 90 := by
          have h1 := exts_le id s (ms.drop j) (o, fs)
          rw [hg.out] at h1
          exact Nat.le_trans h1 hEl
        by_cases hltj : j < ms.length
        · obtain rfl := hma (by omega)
          have hji : (j : Int) < (ms.length : Int) := by omega
          obtain ⟨hx8, hxc⟩ := hmcw.out wr hbw j hltj
          obtain ⟨x, hx⟩ : ∃ x, ms.getD j [] = x := ⟨_, rfl⟩
          have hxm : x ∈ ms := by rw [← hx, getD_eq hltj]; exact List.getElem_mem hltj
          obtain ⟨ht0, ht1⟩ := hmv.out x hxm
          have hdr := drop_cons hltj ([] : List Int)
          rw [hx] at hx8 hxc hdr
          obtain ⟨y0, y1, y2, y3, y4, y5, y6, y7, rfl⟩ := eight hx8
          replace ht0 : 0 ≤ y7 := ht0
          replace ht1 : y7 < (ss.length : Int) := ht1
          obtain ⟨q, rfl⟩ : ∃ q : Nat, y7 = (q : Int) := ⟨y7.toNat, by omega⟩
          have hq : q < ss.length := by omega
          obtain ⟨c0, c1, c2, c3, c4, c5, c6, c7⟩ := hxc.all8
          have hmq : mvTo [y0, y1, y2, y3, y4, y5, y6, (q : Int)] = q := by show ((q : Int)).toNat = q; omega
          rw [hdr] at hg
          obtain ⟨Wb, hWb⟩ : ∃ Wb, Wb = wr.alloc (.cells #[.int .i64 y0, .int .i64 y1, .int .i64 y2, .int .i64 y3, .int .i64 y4, .int .i64 y5, .int .i64 y6, .int .i64 (q : Int)] 84) := ⟨_, rfl⟩
          have hbb : Below wr.heap.size wr Wb := by rw [hWb]; exact (Below.refl _ _).alloc (Nat.le_refl _) _
          have mb : Wb.heap[wr.heap.size]? = some (.cells #[.int .i64 y0, .int .i64 y1, .int .i64 y2, .int .i64 y3, .int .i64 y4, .int .i64 y5, .int .i64 y6, .int .i64 (q : Int)] 84) := by rw [hWb]; exact heap_alloc_new _ _
          obtain ⟨p0, p1, p2, p3, p4, p5, p6, p7⟩ := box8 mb
          have hSNb : SN id Wb (w.heap.size + 1) o := MX.keep hSN (hbb.block _ (MX.lt hSN))
          have hQb := hQ.keep hbb
          have kAb := (hbb.block w.heap.size (Array.getElem?_eq_some_iff.1 kA).1).trans kA
          have hbwb := bt hbw hbb hbw.size
          have hoall : ∀ y ∈ o, id y ≤ 1000000 := fun y hy => by have := hob.out y hy; show y ≤ 1000000; omega
          have hlk := hSNb.look hoall (x := q) (by omega)
          rw [idmap] at hlk
          have hbS : w.heap.size + 1 < wr.heap.size := MX.lt hSN
          have hsWb : wr.heap.size < Wb.heap.size := (Array.getElem?_eq_some_iff.1 mb).1
          clear hx8 hxc hxm hdr hSN hQ hx
          by_cases hin : q ∈ o
          · rw [decide_eq_true hin] at hlk
            have hg2 : Hid (exts id s (ms.drop (j + 1)) (o, fs) = E) := by
              show _ = _; rw [← hg.out]; exact (exts_in (by rw [hmq, idmap]; exact hin)).symm
            clear hin hg hmq
            rw [hWb] at hlk
            replace hWb := Lib.hid hWb.symm
            go_wp2_with fail
            rw [hWb.out]
            go_roundw
            case rel => exact ⟨j + 1, o, fs, by go_num, hltj, hSNb, hQb, hob, hg2, hio, kAb, hbwb⟩
            case measure => simp [intOf]; omega
          · rw [decide_eq_false hin] at hlk
            have hg2 : Hid (exts id s (ms.drop (j + 1)) (o ++ [q], fs ++ [(s, [y0, y1, y2, y3, y4, y5, y6, (q : Int)])]) = E) := by
              show _ = _; rw [← hg.out]
              have h1 := exts_out (kf := id) (s := s) (m := [y0, y1, y2, y3, y4, y5, y6, (q : Int)]) (r := ms.drop (j + 1)) (o := o) (fs := fs) (by rw [hmq, idmap]; exact hin)
              rw [hmq] at h1; exact h1.symm
            obtain ⟨ob2, hput, hSN3⟩ := hSNb.put hoall (x := q) (by show q ≤ 1000000; omega) (by rw [idmap]; exact hin)
            replace hput : (Instr.mapUpdate 150 (.map (some (w.heap.size + 1))) (.int .i64 (q : Int)) (.bool true)).run Tryz.prog Wb = .ok () (setBlock Wb (w.heap.size + 1) ob2) := hput
            obtain ⟨W3, hW3⟩ : ∃ W3, W3 = setBlock Wb (w.heap.size + 1) ob2 := ⟨_, rfl⟩
            rw [← hW3] at hput hSN3
            have hkp : ∀ k, k ≠ w.heap.size + 1 → W3.heap[k]? = Wb.heap[k]? := fun k hk => by rw [hW3]; exact setBlock_keep ob2 hk
            have hs3 : W3.heap.size = Wb.heap.size := by rw [hW3]; simp [setBlock]
            have hQ3 := hQb.other (w' := W3) (fun g hg _ _ => hkp g (by omega))
            have kA4 := (hkp w.heap.size (by omega)).trans kAb
            have m3 := (hkp wr.heap.size (by omega)).trans mb
            obtain ⟨r0, r1, r2, r3, r4, r5, r6, r7⟩ := box8 m3
            have hb3 : Below w.heap.size w W3 := by rw [hW3]; exact setBlock_below hbwb (by omega) ob2
            have hB3 : w.heap.size + 2 ≤ W3.heap.size := by omega
            have hn9 : (natI (o.drop i)).length ≤ 1000000 := by rw [natI_len, List.length_drop]; omega
            have hdq : natI (o.drop i) ++ [(q : Int)] = natI ((o ++ [q]).drop i) := by
              rw [List.drop_append_of_le_length (by omega), natI, natI, List.map_append]; rfl
            have hob2 : Hid (∀ x ∈ o ++ [q], x < ss.length) := fun x hx => by
              rcases List.mem_append.1 hx with h | h
              · exact hob.out x h
              · rw [List.mem_singleton.1 h]; exact hq
            have hio2 : i < (o ++ [q]).length := by rw [List.length_append]; omega
            rw [hWb] at hlk hput
            replace hdq := Lib.hid hdq
            replace hs3 := Lib.hid hs3
            replace hW3 := Lib.hid hW3
            clear hin hg hmq hWb hSNb hQb kAb hbwb mb p0 p1 p2 p3 p4 p5 p6 p7 m3
            go_wp2_with (at_builtin; refine wpAppQ rfl _ _ rfl rfl hQ3 rfl hn9 hB3 ?_)
            intro v9 w9 hQ9 hb9 hx9
            rw [hdq.out] at hQ9
            have hSN9 := MX.keep hSN3 (hb9.block _ (by omega))
            have kA9 := (hb9.block w.heap.size (by omega)).trans kA4
            have hbw9 := hb3.trans (hb9.mono (by omega))
            go_wp2
            go_roundw
            case rel => exact ⟨j + 1, o ++ [q], _, by go_num, hltj, hSN9, hQ9, hob2, hg2, hio2, kA9, hbw9⟩
            case measure => simp [intOf]; omega
        · obtain rfl : j = ms.length := by omega
          have hEe : E = (o, fs) := by
            have h1 := hg.out
            rw [List.drop_length, exts] at h1
            exact h1.symm
          have hg4 : Hid (srch id ss f (i + 1) (o, fs) = some (ordI ss)) := by rw [hEe] at hg3; exact hg3
          obtain ⟨s2, hs2'⟩ : ∃ s2, o.getD i 0 = s2 := ⟨_, rfl⟩
          have hdi : natI (o.drop i) = (s2 : Int) :: natI (o.drop (i + 1)) := by rw [drop_cons hio 0, hs2']; rfl
          rw [hdi] at hQ
          obtain ⟨g2, o2, c2, hqv, _, hqc⟩ := hQ.head
          subst hqv
          have hQt := hQ.tail
          obtain ⟨L2, hL2⟩ : ∃ L2, (natI (o.drop (i + 1))).length = L2 := ⟨_, rfl⟩
          rw [hL2] at hqc hQt ⊢
          have hge : ¬ ((ms.length : Int) < (ms.length : Int)) := by omega
          have hq1 : (1 : Int) ≤ (L2 : Int) + 1 := by omega
          have hq2 : (L2 : Int) + 1 ≤ (c2 : Int) := by omega
          have hc20 : ¬ c2 = 0 := by omega
          have hio3 : i + 1 ≤ o.length := hio
          clear hQ hg hg3 hEe hdi hL2 hs2'
          by_cases hc1 : c2 = 1
          · subst hc1
            obtain rfl : L2 = 0 := by omega
            rw [if_pos rfl] at hQt
            go_wp2_with fail
            go_roundg f
            case measure => omega
            case rel => exact ⟨i + 1, o, fs, hSN, hQt, hob, hg4, hio3, kA, hbw⟩
          · rw [if_neg hc1] at hQt
            go_wp2_with fail
            go_roundg f
            case measure => omega
            case rel => exact ⟨i + 1, o, fs, hSN, hQt, hob, hg4, hio3, kA, hbw⟩
    · have hoe : o = (ordI ss).1 := by
        have h1 := hg.out
        rw [srch, if_neg hlt] at h1
        injection h1 with h1
        rw [← h1]
      have hge : ¬ ((0 : Int) < 0) := by omega
      have hd0 : natI (o.drop i) = [] := by rw [List.drop_eq_nil_of_le (by omega)]; rfl
      rw [hd0] at hQ
      obtain ⟨gq, oq, cq, _, hqv, _⟩ := hQ
      subst hqv
      obtain ⟨d0, d1⟩ := box2 kA
      have hoall : ∀ y ∈ o, id y ≤ 1000000 := fun y hy => by have := hob.out y hy; show y ≤ 1000000; omega
      have hsz : w.heap.size ≤ wr.heap.size := hbw.size
      have hn0 : OI wr w.heap.size (.slice none 0 0) ((List.range 0).filter fun x => decide (x ∈ o)).length (natI ((List.range 0).filter fun x => decide (x ∈ o))) := OI.nil _ _
      obtain ⟨wo, hwo⟩ : ∃ wo, wo = wr := ⟨_, rfl⟩
      subst hwo
      have hmS := Lib.hid (fun W (hb : Below wo.heap.size wo W) => MX.keep hSN (hb.block _ (MX.lt hSN)))
      have hcc := Lib.hid (fun W (hb : Below wo.heap.size wo W) => cell_kept hb d1)
      replace hoe := Lib.hid hoe
      go_wp2_with fail
      go_loopw [7, 46] (fun lv kv wr => ∃ k : Nat, kv = .int .i64 k ∧ k ≤ ss.length ∧ OI wr wo.heap.size lv ((List.range k).filter fun x => decide (x ∈ o)).length (natI ((List.range k).filter fun x => decide (x ∈ o))) ∧ Below wo.heap.size wo wr) (fun _ kv _ => ss.length - (intOf kv).toNat)
      case atStart => exact ⟨0, rfl, by omega, OI.nil _ _, Below.refl _ _⟩
      case round =>
        clear hn0 d0 d1
        obtain ⟨k, rfl, hk, hO2, hbo⟩ := hrel
        have c1 := hcc.out wr hbo
        have hSNr := hmS.out wr hbo
        obtain ⟨la, lc, hls⟩ := hO2.shape
        subst hls
        by_cases hltk : k < ss.length
        · have hki : (k : Int) < (ss.length : Int) := by omega
          have hlk : (Instr.lookup 150 (.map (some (w.heap.size + 1))) (.int .i64 (k : Int)) false).run Tryz.prog wr = .ok (.bool (decide (k ∈ o.map id))) wr := SN.look hSNr hoall (x := k) (by omega)
          rw [idmap] at hlk
          have hlen9 : ((List.range k).filter fun x => decide (x ∈ o)).length ≤ 1000 := by
            have := List.length_filter_le (fun x => decide (x ∈ o)) (List.range k)
            rw [List.length_range] at this; omega
          by_cases hin : k ∈ o
          · rw [decide_eq_true hin] at hlk
            have hst : Hid ((List.range (k + 1)).filter (fun x => decide (x ∈ o)) = (List.range k).filter (fun x => decide (x ∈ o)) ++ [k]) := by
              show _ = _
              rw [List.range_succ, List.filter_append]; simp [hin]
            obtain ⟨l, hl⟩ : ∃ l, (List.range k).filter (fun x => decide (x ∈ o)) = l := ⟨_, rfl⟩
            rw [hl] at hO2 hst hlen9 ⊢
            have hl2 : Hid (natI l ++ [(k : Int)] = natI (l ++ [k])) := by show _ = _; rw [natI, natI, List.map_append]; rfl
            replace hl := Lib.hid hl
            clear hin
            go_wp2_with (at_builtin; refine wpAppI rfl _ _ rfl rfl hO2 rfl (by omega) hbo.size ?_)
            intro v2 w2 ho2 hg2 hb2
            rw [hl2.out] at ho2
            have hbf := hbo.trans hb2
            go_wp2
            go_roundw
            case rel => exact ⟨k + 1, by go_num, hltk, by rw [hst.out, List.length_append]; exact ho2, hbf⟩
            case measure => simp [intOf]; omega
          · rw [decide_eq_false hin] at hlk
            have hst : Hid ((List.range (k + 1)).filter (fun x => decide (x ∈ o)) = (List.range k).filter (fun x => decide (x ∈ o))) := by
              show _ = _
              rw [List.range_succ, List.filter_append]; simp [hin]
            clear hin
            go_wp2
            go_roundw
            case rel => exact ⟨k + 1, by go_num, hltk, by rw [hst.out]; exact hO2, hbo⟩
            case measure => simp [intOf]; omega
        · obtain rfl : k = ss.length := by omega
          have hge2 : ¬ ((ss.length : Int) < (ss.length : Int)) := by omega
          have hfin : Hid (∀ x, x ∈ (List.range ss.length).filter (fun x => decide (x ∈ o)) ↔ x ∈ (ordI ss).1) := fun x => by
            rw [List.mem_filter, List.mem_range, hoe.out]
            constructor
            · intro h; simpa using h.2
            · intro h; exact ⟨hRb x h, by simpa using h⟩
          have hO3 := hO2.base (B' := w.heap.size) hsz
          have hbf := bt hbw hbo hbw.size
          have hlef : Hid (((List.range ss.length).filter (fun x => decide (x ∈ o))).length ≤ ss.length) := by
            have := List.length_filter_le (fun x => decide (x ∈ o)) (List.range ss.length)
            rwa [List.length_range] at this
          go_wp2
          go_ret
          first
            | exact ⟨_, _, rfl, hO3, hfin.out, hlef.out, hbf⟩
            | exact ⟨_, rfl, hO3, hfin.out, hlef.out, hbf⟩
            | exact ⟨_, rfl, _, hO3, hfin.out, hlef.out, hbf⟩
end Go.Proofs.YtfihpofdoffclaaGreatDoor

/- Texts of this claim, put together: V7 HA GA GB GC. -/
import Derived.Test.YtiiiegflobihjaaGreatKAWzd
import Derived.Test.YtiiiegflobihjaaGreatKAWu
import Derived.Test.YtiiiegflobihjaaGreatKAWzb
import Derived.Test.YtiiiegflobihjaaGreatKAWt
import Derived.Test.YtiiiegflobihjaaGreatKAWr
import Derived.Test.YtiiiegflobihjaaGreatKAWp

/- Words. -/
namespace Go.Proofs.YtiiiegflobihjaaGreat
open Go.RowKit

theorem run_make0 {T E : TypeId} {z : Value} {k bytes : Nat} (hE : ElemK Tryz.prog T E z k bytes) (c : Nat) (hc : c ≤ 1000000) (hby : bytes ≤ 128) (w : World) :
    (Instr.makeSlice T (.int .i64 0) (.int .i64 (c : Int))).run Tryz.prog w = .ok (.slice (some ⟨w.heap.size, 0, none⟩) 0 c) (w.alloc (.cells (madeCells z.cells (c * k)) E)) := by
  obtain ⟨i0, hi, hz0, hz1, hz2⟩ := info_parts hE.2.1
  have hb : (i0.bytes : Int) * (c : Int) ≤ 281474976710656 := by
    have h : ((i0.bytes * c : Nat) : Int) ≤ 281474976710656 := by
      have : i0.bytes * c ≤ 128 * 1000000 := Nat.mul_le_mul (by omega) hc
      omega
    rwa [Int.natCast_mul] at h
  have hr := run_make (P := Tryz.prog) w T E i0 z hE.1 hi hz0 .i64 .i64 0 c (by omega) (by omega) hb (by omega)
  simp only [Int.toNat_natCast, hz1, Int.toNat_zero] at hr
  exact hr
theorem owMade0 {α : Type} {E : TypeId} {z : Value} {k : Nat} {El : World → List Value → α → Prop} {w : World} {B c : Nat} (hB : B ≤ w.heap.size) (hc : c ≤ 1000000) :
    OwX E k El (w.alloc (.cells (madeCells z.cells (c * k)) E)) B (.slice (some ⟨w.heap.size, 0, none⟩) 0 c) 0 [] :=
  ⟨[], ⟨by simp, .inr ⟨w.heap.size, c, _, rfl, hB, heap_alloc_new w _, Nat.zero_le _, by unfold maxLen; omega, by rw [size_madeCells], by simp⟩⟩, rfl, by simp, by simp⟩
theorem runStore {W : World} {p : Addr} {v u : Value} (hc : W.cell? p = some u) (hf : W.frozen? p = false) (h1 : v.oneCell' = true) : (store p v).run Tryz.prog W = .ok () (W.setCell p v) := by
  rw [run_store Tryz.prog W p v _ h1, hc]; simp [hf]
theorem wL_each (ss : List (List (List Int))) : ∀ (m s : Nat) (x : List (List Int)), x ∈ wL ss m s → x.length = m
  | 0, _, x, h => by rw [wL, List.mem_singleton] at h; subst h; rfl
  | m + 1, s, x, h => by
    rw [wL, List.mem_flatMap] at h
    obtain ⟨mv, _, h⟩ := h
    obtain ⟨y, hy, rfl⟩ := List.mem_map.1 h
    rw [List.length_cons, wL_each ss m _ y hy]
set_option maxRecDepth 100000 in
set_option maxHeartbeats 3200000 in
theorem wordsW {w : World} {v : Value} {n : Int} {ss : List (List (List Int))} (hA : AdvV w v n ss) (h0 : chkA n ss = 0) (hO : WdOK ss) {k : Nat} (hk : k ≤ 6) (hz : num ss 4097 k ≤ 4096) :
    Calls Tryz.prog 19 #[v, .int .i64 (k : Int)] w fun e w' => ∃ u, e = .returned (.tuple #[u, .int .i64 0]) ∧ KSS 7 w' u (wL ss k 0) ∧ Below w.heap.size w w' := by
  have hM := LeadOK.ofWd hO
  have hl0 := hO.2.2.1
  have hcn := numL_cnt hM (L := 4097) (by omega) k 0 hl0
  have hcnt : (wL ss k 0).length ≤ 4096 := by rw [wL_len]; unfold num at hz; omega
  obtain ⟨c, hc⟩ : ∃ c, num ss 4097 k = c := ⟨_, rfl⟩
  have HC := Lib.hid (fun W (hb : Below w.heap.size w W) => countedW (hA.keep hb) h0 hO hk hz)
  rw [hc] at hz
  simp only [hc] at HC
  obtain ⟨sv, rfl, hK⟩ := hA
  obtain ⟨sa, sc, hsv⟩ := hK.shape
  subst hsv
  obtain ⟨W1, hW1⟩ : ∃ W1, W1 = (w.alloc (.cells #[.int .i64 n, .slice sa ss.length sc] 24)).alloc (.cells #[.int .i64 (k : Int)] 3) := ⟨_, rfl⟩
  have hs1 : W1.heap.size = w.heap.size + 2 := by rw [hW1]; simp
  have hb1 : Below w.heap.size w W1 := by rw [hW1]; exact ((Below.refl _ w).alloc (Nat.le_refl _) _).alloc (by simp) _
  have kA : W1.heap[w.heap.size]? = some (.cells #[.int .i64 n, .slice sa ss.length sc] 24) := by
    rw [hW1]; exact (Below.heap_alloc _ _ _ (by simp)).trans (World.alloc_heap_new w _)
  have kK : W1.heap[w.heap.size + 1]? = some (.cells #[.int .i64 (k : Int)] 3 (0, 0)) := by
    rw [hW1]
    have := World.alloc_heap_new (w.alloc (.cells #[.int .i64 n, .slice sa ss.length sc] 24)) (.cells #[.int .i64 (k : Int)] 3)
    rwa [World.size_alloc] at this
  obtain ⟨d0, d1⟩ := box2 kA
  have ck := cell_of_one kK
  have hm1 : ∀ w : World, (Instr.makeSlice 38 (.int .i64 0) (.int .i64 (c : Int))).run Tryz.prog w = .ok (.slice (some ⟨w.heap.size, 0, none⟩) 0 c) (w.alloc (.cells (madeCells #[.slice none 0 0] c) 44)) := fun w => by
    have h := run_make0 elemRs c (by omega) (by decide) w
    rwa [Nat.mul_one] at h
  have hm2 : ∀ w : World, (Instr.makeSlice 44 (.int .i64 0) (.int .i64 (k : Int))).run Tryz.prog w = .ok (.slice (some ⟨w.heap.size, 0, none⟩) 0 k) (w.alloc (.cells (madeCells #[.int .i64 0, .int .i64 0, .int .i64 0, .int .i64 0, .int .i64 0, .int .i64 0, .int .i64 0] (k * 7)) 51)) := fun w => run_make0 elemRd k (by omega) (by decide) w
  replace hs1 := Lib.hid hs1
  replace hK := Lib.hid hK
  replace hO := Lib.hid hO
  replace hc := Lib.hid hc
  go_enter Tryz.func19, Tryz.ntmps19
  go_wp2_with fail
  rw [← hW1]
  replace hW1 := Lib.hid hW1
  refine (HC.out W1 hb1).mono ?_
  rintro e W2 ⟨rfl, hb2⟩
  have hb12 := bt hb1 hb2 hb1.size
  have ck2 := cell_kept hb2 ck
  have cA2 := cell_kept hb2 d0
  have cA3 := cell_kept hb2 d1
  have hs12 : w.heap.size + 2 ≤ W2.heap.size := by have := hs1.out; have := hb2.size; omega
  have kA2 := (hb2.block w.heap.size (by have := hs1.out; omega)).trans kA
  have kK2 := (hb2.block (w.heap.size + 1) (by have := hs1.out; omega)).trans kK
  obtain ⟨W3, hW3⟩ : ∃ W3, W3 = W2.alloc (.cells (madeCells #[.slice none 0 0] c) 44) := ⟨_, rfl⟩
  obtain ⟨W5, hW5⟩ : ∃ W5, W5 = (((W2.alloc (.cells (madeCells #[.slice none 0 0] c) 44)).alloc (.cells #[.slice (some ⟨W2.heap.size, 0, none⟩) 0 c] 38)).alloc (.cells #[Value.nilFunc] 92)) := ⟨_, rfl⟩
  have hs3 : W3.heap.size = W2.heap.size + 1 := by rw [hW3]; simp
  have hs5 : W5.heap.size = W2.heap.size + 3 := by rw [hW5]; simp
  have kF5 : W5.heap[W2.heap.size + 1 + 1]? = some (.cells #[Value.nilFunc] 92 (0, 0)) := by
    rw [hW5]
    have := World.alloc_heap_new ((W2.alloc (.cells (madeCells #[.slice none 0 0] c) 44)).alloc (.cells #[.slice (some ⟨W2.heap.size, 0, none⟩) 0 c] 38)) (.cells #[Value.nilFunc] 92)
    simpa only [World.size_alloc] using this
  have hst := runStore (v := (.func (.func 52) #[] #[.pointer (some ⟨w.heap.size + 1, 0, none⟩), .pointer (some ⟨W2.heap.size + 1, 0, none⟩), .pointer (some ⟨w.heap.size, 0, none⟩), .pointer (some ⟨W2.heap.size + 1 + 1, 0, none⟩)])) (cell_of_one kF5) (free_of_one kF5) rfl
  obtain ⟨W6, hW6⟩ : ∃ W6, W6 = ((W2.alloc (.cells (madeCells #[.slice none 0 0] c) 44)).alloc (.cells #[.slice (some ⟨W2.heap.size, 0, none⟩) 0 c] 38)).alloc (.cells #[(.func (.func 52) #[] #[.pointer (some ⟨w.heap.size + 1, 0, none⟩), .pointer (some ⟨W2.heap.size + 1, 0, none⟩), .pointer (some ⟨w.heap.size, 0, none⟩), .pointer (some ⟨W2.heap.size + 1 + 1, 0, none⟩)])] 92) := ⟨_, rfl⟩
  have hs6 : W6.heap.size = W2.heap.size + 3 := by rw [hW6]; simp
  have hb36 : Below W3.heap.size W3 W6 := by rw [hW6, ← hW3]; exact ((Below.refl _ W3).alloc (Nat.le_refl _) _).alloc (by simp) _
  have hb26 : Below W2.heap.size W2 W6 := by rw [hW6]; exact (((Below.refl _ W2).alloc (Nat.le_refl _) _).alloc (by simp) _).alloc (by simp; omega) _
  have hrow3 : OwX 44 1 (EWg W6.heap.size) W3 w.heap.size (.slice (some ⟨W2.heap.size, 0, none⟩) 0 c) 0 [] := by
    have h := owMade0 (E := 44) (z := .slice none 0 0) (k := 1) (El := EWg W6.heap.size) (w := W2) (B := w.heap.size) (c := c) (by omega) (by omega)
    rw [Nat.mul_one] at h
    rw [hW3]; exact h
  have kO6 : W6.heap[W2.heap.size + 1]? = some (.cells #[.slice (some ⟨W2.heap.size, 0, none⟩) 0 c] 38 (0, 0)) := by
    rw [hW6]
    refine (Below.heap_alloc _ _ _ (by simp)).trans ?_
    have := World.alloc_heap_new (W2.alloc (.cells (madeCells #[.slice none 0 0] c) 44)) (.cells #[.slice (some ⟨W2.heap.size, 0, none⟩) 0 c] 38)
    rwa [World.size_alloc] at this
  have kF6 : W6.heap[W2.heap.size + 1 + 1]? = some (.cells #[(.func (.func 52) #[] #[.pointer (some ⟨w.heap.size + 1, 0, none⟩), .pointer (some ⟨W2.heap.size + 1, 0, none⟩), .pointer (some ⟨w.heap.size, 0, none⟩), .pointer (some ⟨W2.heap.size + 1 + 1, 0, none⟩)])] 92 (0, 0)) := by
    rw [hW6]
    have := World.alloc_heap_new ((W2.alloc (.cells (madeCells #[.slice none 0 0] c) 44)).alloc (.cells #[.slice (some ⟨W2.heap.size, 0, none⟩) 0 c] 38)) (.cells #[(.func (.func 52) #[] #[.pointer (some ⟨w.heap.size + 1, 0, none⟩), .pointer (some ⟨W2.heap.size + 1, 0, none⟩), .pointer (some ⟨w.heap.size, 0, none⟩), .pointer (some ⟨W2.heap.size + 1 + 1, 0, none⟩)])] 92)
    simpa only [World.size_alloc] using this
  have kA6 := (hb26.block w.heap.size (by omega)).trans kA2
  have kK6 := (hb26.block (w.heap.size + 1) (by omega)).trans kK2
  have hbw6 := bt hb12 hb26 hb12.size
  obtain ⟨W7, hW7⟩ : ∃ W7, W7 = (W6.alloc (.cells (madeCells #[.int .i64 0, .int .i64 0, .int .i64 0, .int .i64 0, .int .i64 0, .int .i64 0, .int .i64 0] (k * 7)) 51)).drew := ⟨_, rfl⟩
  have h67 : Below W6.heap.size W6 W7 := by rw [hW7]; exact ((Below.refl _ W6).alloc (Nat.le_refl _) _).drew
  have hbw7 := bt hbw6 h67 hbw6.size
  have hx7 : OwX 51 7 EI W7 w.heap.size (.slice (some ⟨W6.heap.size, 0, none⟩) 0 k) 0 [] := by
    have h := owMade0 (E := 51) (z := .agg #[.int .i64 0, .int .i64 0, .int .i64 0, .int .i64 0, .int .i64 0, .int .i64 0, .int .i64 0]) (k := 7) (El := EI) (w := W6) (B := w.heap.size) (c := k) hbw6.size (by omega)
    rw [hW7]; exact h.wd7 rfl
  have hX7 : Bxs W7 k n (.slice sa ss.length sc) (.func (.func 52) #[] #[.pointer (some ⟨w.heap.size + 1, 0, none⟩), .pointer (some ⟨W2.heap.size + 1, 0, none⟩), .pointer (some ⟨w.heap.size, 0, none⟩), .pointer (some ⟨W2.heap.size + 1 + 1, 0, none⟩)]) 92 W6.heap.size (W2.heap.size + 1) (w.heap.size + 1) w.heap.size (W2.heap.size + 1 + 1) :=
    ⟨(h67.block _ (by omega)).trans kK6, (h67.block _ (by omega)).trans kA6, (h67.block _ (by omega)).trans kF6, by decide, by omega, by omega, by omega, by omega, by omega, by omega, by omega⟩
  have hO7 : WOut W7 w.heap.size W6.heap.size (W2.heap.size + 1) [] := by
    refine ⟨_, 0, (h67.block _ (by omega)).trans kO6, ?_, by omega⟩
    exact OwX.keep (EWg.stab _ (by decide)) (OwX.keep (EWg.stab _ (by decide)) hrow3 hb36) h67
  have hR := wordsRec hM hK.out hk (B := w.heap.size) (bo := W2.heap.size + 1) (cap := k) (Nat.le_refl _) (Nat.le_refl _) (by omega : w.heap.size ≤ W6.heap.size) k (w := W7) (l := 0) (s := 0) (x := []) (out := []) (by omega) hl0 rfl hbw7 hbw7.size hX7 hx7 hO7 (by simp; omega)
  rw [show ((0 : Nat) : Int) = 0 from rfl] at hR
  replace hR := Lib.hid hR
  replace hs6 := Lib.hid hs6
  replace hX7 := Lib.hid hX7
  have cf6 := cell_of_one kF6
  have ck6 := cell_of_one kK6
  rw [hW5] at hst
  replace hW3 := Lib.hid hW3
  replace hW5 := Lib.hid hW5
  replace hW6 := hW6.symm
  have hW6h := Lib.hid hW6
  clear hO7 hx7 kF5 hrow3 h67 hb36 kA6 kO6 hs3 hs5 hW6
  go_wp2_with fail
  rw [hW6h.out]
  clear hst
  go_region_held3 (fun w' => w'.cell? ⟨W2.heap.size + 1 + 1, 0, none⟩ = some (.func (.func 52) #[] #[.pointer (some ⟨w.heap.size + 1, 0, none⟩), .pointer (some ⟨W2.heap.size + 1, 0, none⟩), .pointer (some ⟨w.heap.size, 0, none⟩), .pointer (some ⟨W2.heap.size + 1 + 1, 0, none⟩)]) ∧ w'.cell? ⟨w.heap.size + 1, 0, none⟩ = some (.int .i64 (k : Int)))
    (first
      | go_keep
      | (exact ⟨cell_of_one (hX7.out.kw hk9).f, cell_of_one (hX7.out.kw hk9).k⟩))
    (first
      | (go_at_call 52; rw [← hW7]; refine hR.out.mono ?_; rintro e w9 ⟨rfl, hW9, hx9, hk9⟩))
  obtain ⟨ov, no, hbo, hrow9, _⟩ := hW9
  have cbo := cell_of_one hbo
  have hl9 : ([] : List (List (List Int))) ++ (wL ss k 0).map (([] : List (List Int)) ++ ·) = wL ss k 0 := by simp
  rw [hl9] at hrow9
  have hno := hrow9.length
  obtain ⟨oa, oc, hov⟩ := hrow9.shape
  subst hov
  have hks : KSS 7 w9 (.slice oa no oc) (wL ss k 0) := OwX.kss7 (hrow9.mono fun _ _ ⟨u, h1, h2, _⟩ => ⟨u, h1, h2⟩) (by omega) (fun x hx => by rw [wL_each ss k 0 x hx]; omega)
  have hbf := hbw7.trans hk9.1
  go_wp2
  go_ret2
  exact ⟨_, rfl, hks, hbf⟩
end Go.Proofs.YtiiiegflobihjaaGreat

/- sameWords: two adversaries whose words of a length are the same. -/
namespace Go.Proofs.YtiiiegflobihjaaGreat
open Go.RowKit

set_option maxRecDepth 100000 in
set_option maxHeartbeats 1600000 in
theorem sameWordsC {w : World} {u v : Value} {m n : Int} {xs ys : List (List (List Int))} (hx : AdvV w u m xs) (hy : AdvV w v n ys) (cx : chkA m xs = 0) (cy : chkA n ys = 0) (dx : WdOK xs) (dy : WdOK ys) {k : Nat} (hk : k ≤ 6) (zx : num xs 4097 k ≤ 4096) (zy : num ys 4097 k ≤ 4096) (he : wL xs k 0 = wL ys k 0) :
    Calls Tryz.prog 18 #[u, v, .int .i64 (k : Int)] w fun e w' => e = .returned (.bool true) ∧ Below w.heap.size w w' := by
  obtain ⟨xa, xc, hu⟩ := advShape' hx
  obtain ⟨ya, yc, hv⟩ := advShape' hy
  subst hu hv
  obtain ⟨W1, hW1⟩ : ∃ W1, W1 = (w.alloc (.cells #[.int .i64 m, .slice xa xs.length xc] 24)).alloc (.cells #[.int .i64 n, .slice ya ys.length yc] 24) := ⟨_, rfl⟩
  obtain ⟨hb1, ⟨p0, p1⟩, ⟨q0, q1⟩, _, hs1⟩ := boxAdv2 hW1
  replace hs1 := Lib.hid hs1
  have HX := Lib.hid (wordsW (hx.keep hb1) cx dx hk zx)
  have HY := Lib.hid (fun W (hb : Below W1.heap.size W1 W) => wordsW ((hy.keep hb1).keep hb) cy dy hk zy)
  rw [he] at HX
  obtain ⟨L, hL⟩ : ∃ L, wL ys k 0 = L := ⟨_, rfl⟩
  rw [hL] at HX
  simp only [hL] at HY
  clear hx hy hL
  go_enter Tryz.func18, Tryz.ntmps18
  go_wp2_with fail
  rw [← hW1]
  refine HX.out.mono ?_
  rintro e W2 ⟨u2, rfl, hK2, hb2⟩
  have a0 := cell_kept hb2 q0
  have a1 := cell_kept hb2 q1
  go_wp2_with fail
  refine (HY.out W2 hb2).mono ?_
  rintro e W3 ⟨u3, rfl, hK3, hb3⟩
  have HS := Lib.hid (sameWords (hK2.keep hb3) hK3)
  rw [show decide (L = L) = true by simp] at HS
  have B3 := btt hb2 hb3
  go_wp2_with fail
  refine HS.out.mono ?_
  rintro e W4 ⟨rfl, hq4⟩
  have hb4 := hq4.below
  go_wp2
  go_ret
  exact ⟨rfl, bt hb1 (btt B3 hb4) hb1.size⟩
end Go.Proofs.YtiiiegflobihjaaGreat

/- What an exploration permits: the words of its steps. Plain lists. -/
namespace Go.Proofs.YtiiiegflobihjaaGreat

theorem ixOf_app {κ : Type} [DecidableEq κ] {a b : List κ} {x : κ} (h : x ∈ a) : ixOf (a ++ b) x = ixOf a x := by
  simp [ixOf, List.idxOf_append, h]
theorem ixOf_get {κ : Type} [DecidableEq κ] {l : List κ} {x : κ} (h : x ∈ l) : l[ixOf l x]? = some x := by
  have h1 := ixOf_lt h
  rw [List.getElem?_eq_getElem h1]
  exact congrArg some (List.getElem_idxOf h1)
/-- Each state of the result is a node's step; its moves lead to the numbers of the nodes. -/
def ExSh (step : Nd → List (List Int × Nd)) (N : List Nd) (ss : List (List (List Int))) (i : Nat) : Prop :=
  ∀ j, j < i → ∃ x, N[j]? = some x ∧ ss[j]? = some ((step x).map fun a => a.1 ++ [(ixOf N a.2 : Int)]) ∧ ∀ a ∈ step x, a.2 ∈ N
theorem exG_shape {step : Nd → List (List Int × Nd)} {P : Nd → Prop} (hPs : ∀ x, P x → ∀ a ∈ step x, P a.2) : ∀ (f i : Nat) (nodes : List Nd) (out ss : List (List (List Int))), exG step f i nodes out = some (some ss) → i ≤ nodes.length → nodes.Nodup → out.length = i → (∀ x ∈ nodes, P x) → ExSh step nodes out i →
    ∃ N t, N = nodes ++ t ∧ N.Nodup ∧ N.length = ss.length ∧ (∀ x ∈ N, P x) ∧ ExSh step N ss N.length
  | 0, _, _, _, _, h, _, _, _, _, _ => by simp [exG] at h
  | f + 1, i, nodes, out, ss, h, hi, hn, ho, hP, hs => by
    by_cases hlt : i < nodes.length
    · obtain ⟨x, hx⟩ : ∃ x, nodes[i]? = some x := ⟨_, List.getElem?_eq_getElem hlt⟩
      by_cases hb : 256 < (exN nodes (step x)).length ∨ 4096 < movesN (out ++ [exL nodes (step x)])
      · rw [exG_big hx hb] at h
        injection h with h
        cases h
      · rw [exG_step hx hb] at h
        have hge : nodes.length ≤ (exN nodes (step x)).length := exN_ge
        obtain ⟨t, ht⟩ := dd_pre ((step x).map Prod.snd) nodes
        have ht : exN nodes (step x) = nodes ++ t := ht
        obtain ⟨N, t2, h1, h2, h3, h5, h4⟩ := exG_shape hPs f (i + 1) (exN nodes (step x)) (out ++ [exL nodes (step x)]) ss h (by omega) (exN_nodup hn) (by rw [List.length_append, ho]; rfl) (fun z hz => by
          rcases exN_mem hz with hz | ⟨a, ha, rfl⟩
          · exact hP z hz
          · exact hPs x (hP x (List.mem_of_getElem? hx)) a ha) (fun j hj => by
          by_cases hj' : j < i
          · obtain ⟨y, y1, y2, y3⟩ := hs j hj'
            refine ⟨y, ?_, ?_, fun a ha => ?_⟩
            · rw [ht, List.getElem?_append_left (by omega)]; exact y1
            · rw [List.getElem?_append_left (by omega), y2]
              congr 1
              refine List.map_congr_left fun a ha => ?_
              rw [ht, ixOf_app (y3 a ha)]
            · rw [ht]; exact List.mem_append_left _ (y3 a ha)
          · obtain rfl : j = i := by omega
            refine ⟨x, ?_, ?_, fun a ha => ?_⟩
            · rw [ht, List.getElem?_append_left hlt]; exact hx
            · rw [List.getElem?_append_right (by omega), ho, Nat.sub_self]; rfl
            · exact dd_mem (List.mem_map_of_mem ha))
        exact ⟨N, t ++ t2, by rw [h1, ht, List.append_assoc], h2, h3, h5, h4⟩
    · rw [exG_end hlt] at h
      injection h with h
      injection h with h
      subst h
      obtain rfl : i = nodes.length := by omega
      exact ⟨nodes, [], by simp, hn, ho.symm, hP, hs⟩
/-- A word is permitted by the steps from a node on. -/
def alwN (step : Nd → List (List Int × Nd)) : List (List Int) → Nd → Prop
  | [], _ => True
  | r :: w, x => ∃ y, (r, y) ∈ step x ∧ alwN step w y
theorem rdOf_app {r : List Int} (h : r.length = 7) (v : Int) : rdOf (r ++ [v]) = r := by
  simp [rdOf, ← h]
theorem alw_shape {step : Nd → List (List Int × Nd)} {N : List Nd} {ss : List (List (List Int))} (hs : ExSh step N ss N.length) (h7 : ∀ x ∈ N, ∀ a ∈ step x, a.1.length = 7) (hn : ∀ x ∈ N, AscL ((step x).map Prod.fst)) : ∀ (w : List (List Int)) (j : Nat) (x : Nd), N[j]? = some x → (alw ss w j ↔ alwN step w x)
  | [], _, _, _ => by simp [alw, alwN]
  | r :: w, j, x, hx => by
    have hxm := List.mem_of_getElem? hx
    obtain ⟨x', e1, e2, e3⟩ := hs j (List.getElem?_eq_some_iff.1 hx).1
    rw [hx] at e1; injection e1 with e1; subst e1
    have e2' : ss.getD j [] = (step x).map fun a => a.1 ++ [(ixOf N a.2 : Int)] := by rw [List.getD_eq_getElem?_getD, e2]; rfl
    have hrd : ((step x).map fun a => a.1 ++ [(ixOf N a.2 : Int)]).map rdOf = (step x).map Prod.fst := by
      rw [List.map_map]
      exact List.map_congr_left fun a ha => rdOf_app (h7 x hxm a ha) _
    have h0 : ∀ m ∈ ((step x).map fun a => a.1 ++ [(ixOf N a.2 : Int)]), 0 ≤ m.getD 7 0 := fun m hm => by
      obtain ⟨a, ha, rfl⟩ := List.mem_map.1 hm
      rw [show 7 = a.1.length from (h7 x hxm a ha).symm]
      simp
    have hto : ∀ y, (r, y) ∈ step x → toI r ((step x).map fun a => a.1 ++ [(ixOf N a.2 : Int)]) = (ixOf N y : Int) := fun y hy => by
      have hm : r ++ [(ixOf N y : Int)] ∈ ((step x).map fun a => a.1 ++ [(ixOf N a.2 : Int)]) := List.mem_map.2 ⟨(r, y), hy, rfl⟩
      have hr7 : r.length = 7 := h7 x hxm (r, y) hy
      have h := toI_mem (by rw [hrd]; exact hn x hxm) hm
      rw [rdOf_app hr7] at h
      rw [h, show 7 = r.length from hr7.symm]
      simp
    rw [alw, e2']
    constructor
    · rintro ⟨h1, h2⟩
      have h3 := (toI_in h0).1 h1
      rw [hrd] at h3
      obtain ⟨⟨r', y⟩, ha, rfl⟩ := List.mem_map.1 h3
      rw [hto y ha] at h2
      exact ⟨y, ha, (alw_shape hs h7 hn w _ y (ixOf_get (e3 _ ha))).1 (by simpa using h2)⟩
    · rintro ⟨y, ha, h2⟩
      rw [hto y ha]
      refine ⟨by omega, ?_⟩
      have := (alw_shape hs h7 hn w _ y (ixOf_get (e3 _ ha))).2 h2
      simpa using this
end Go.Proofs.YtiiiegflobihjaaGreat

/- The words of Or are those of both; those of the pairs of And are words of both. Plain lists. -/
namespace Go.Proofs.YtiiiegflobihjaaGreat

/-- A word is permitted from a state on; a state below 0 permits nothing. -/
def sdA (ss : List (List (List Int))) (w : List (List Int)) (s : Int) : Prop := 0 ≤ s ∧ alw ss w s.toNat
theorem sdA_cons {ss : List (List (List Int))} {r : List Int} {w : List (List Int)} {s : Int} : sdA ss (r :: w) s ↔ sdA ss w (ndT ss s r) := by
  unfold sdA
  rw [ndT, alw]
  by_cases h : s < 0
  · rw [if_pos h]
    exact ⟨fun h' => absurd h'.1 (by omega), fun h' => absurd h'.1 (by decide)⟩
  · rw [if_neg h]
    exact ⟨fun h' => h'.2, fun h' => ⟨by omega, h'⟩⟩
theorem prRs_mem {az bz : List (List (List Int))} (wA : AdOK az) (wB : AdOK bz) {x : Nd} {r : List Int} : r ∈ prRs az bz x ↔ 0 ≤ ndT az x.1 r ∨ 0 ≤ ndT bz x.2.1 r := by
  have one : ∀ {ss : List (List (List Int))} (_ : AdOK ss) (s : Int), r ∈ (ndM ss s).map rdOf ↔ 0 ≤ ndT ss s r := fun {ss} h s => by
    have hm := ndM_all h s
    rw [ndM] at hm ⊢
    rw [ndT]
    by_cases h0 : s < 0
    · rw [if_pos h0, if_pos h0]
      exact ⟨fun h' => (List.not_mem_nil h').elim, fun h' => absurd h' (by decide)⟩
    · rw [if_neg h0] at hm ⊢
      rw [if_neg h0]
      exact (toI_in fun m hmm => (hm m hmm).2.1).symm
  rw [prRs, lets_mem, List.map_append, List.mem_append, one wA, one wB]
theorem prSt_asc (bt : Bool) (az bz : List (List (List Int))) (x : Nd) : AscL ((prSt bt az bz x).map Prod.fst) := by
  have h1 : ((prSt bt az bz x).map Prod.fst).Sublist (prRs az bz x) := by
    rw [prSt]
    generalize prRs az bz x = l
    induction l with
    | nil => exact List.Sublist.refl _
    | cons r l ih =>
      rw [List.filterMap_cons]
      unfold prF
      split
      · rename_i h; exact List.Sublist.cons _ ih
      · rename_i b h
        split at h
        · injection h with h; subst h
          exact List.Sublist.cons_cons _ ih
        · cases h
  exact List.Pairwise.sublist h1 (lets_asc _)
theorem prSt_step {bt : Bool} {az bz : List (List (List Int))} {x y : Nd} {r : List Int} : (r, y) ∈ prSt bt az bz x ↔ r ∈ prRs az bz x ∧ kpB bt (ndT az x.1 r) (ndT bz x.2.1 r) = true ∧ y = (ndT az x.1 r, ndT bz x.2.1 r, []) := by
  rw [prSt, List.mem_filterMap]
  constructor
  · rintro ⟨r', h1, h2⟩
    unfold prF at h2
    split at h2
    · rename_i h3
      injection h2 with h2
      injection h2 with h4 h5
      subst h4 h5
      exact ⟨h1, h3, rfl⟩
    · cases h2
  · rintro ⟨h1, h2, rfl⟩
    exact ⟨r, h1, by rw [prF, if_pos h2]⟩
theorem alwN_or {az bz : List (List (List Int))} (wA : AdOK az) (wB : AdOK bz) : ∀ (w : List (List Int)) (x : Nd), (0 ≤ x.1 ∨ 0 ≤ x.2.1) → (alwN (prSt false az bz) w x ↔ sdA az w x.1 ∨ sdA bz w x.2.1)
  | [], x, h => by
    simp only [alwN, sdA, alw, and_true, true_iff]; exact h
  | r :: w, x, h => by
    rw [sdA_cons, sdA_cons, alwN]
    constructor
    · rintro ⟨y, h1, h2⟩
      obtain ⟨h3, _, rfl⟩ := prSt_step.1 h1
      exact (alwN_or wA wB w _ ((prRs_mem wA wB).1 h3)).1 h2
    · intro h1
      have h0 : 0 ≤ ndT az x.1 r ∨ 0 ≤ ndT bz x.2.1 r := h1.elim (fun h => .inl h.1) (fun h => .inr h.1)
      exact ⟨_, prSt_step.2 ⟨(prRs_mem wA wB).2 h0, rfl, rfl⟩, (alwN_or wA wB w (ndT az x.1 r, ndT bz x.2.1 r, []) h0).2 h1⟩
theorem alwN_and {az bz : List (List (List Int))} (wA : AdOK az) (wB : AdOK bz) : ∀ (w : List (List Int)) (x : Nd), (0 ≤ x.1 ∧ 0 ≤ x.2.1) → (alwN (prSt true az bz) w x ↔ sdA az w x.1 ∧ sdA bz w x.2.1)
  | [], x, h => by
    simp only [alwN, sdA, alw, and_true, true_iff]; exact h
  | r :: w, x, h => by
    rw [sdA_cons, sdA_cons, alwN]
    constructor
    · rintro ⟨y, h1, h2⟩
      obtain ⟨_, h3, rfl⟩ := prSt_step.1 h1
      have h4 : 0 ≤ ndT az x.1 r ∧ 0 ≤ ndT bz x.2.1 r := by simpa [kpB] using h3
      exact (alwN_and wA wB w _ h4).1 h2
    · intro h1
      have h0 : 0 ≤ ndT az x.1 r ∧ 0 ≤ ndT bz x.2.1 r := ⟨h1.1.1, h1.2.1⟩
      exact ⟨_, prSt_step.2 ⟨(prRs_mem wA wB).2 (.inl h0.1), by simp [kpB, h0.1, h0.2], rfl⟩, (alwN_and wA wB w (ndT az x.1 r, ndT bz x.2.1 r, []) h0).2 h1⟩
theorem prA_shape {bt : Bool} {az bz ss : List (List (List Int))} (wA : AdOK az) (wB : AdOK bz) (h : prA bt az bz = some ss) : ∃ N t, N = nd0 :: t ∧ N.Nodup ∧ N.length = ss.length ∧ (∀ x ∈ N, PrP az bz x) ∧ ExSh (prSt bt az bz) N ss N.length := by
  have he := prA_eq bt az bz
  rw [h] at he
  exact exG_shape (P := PrP az bz) (fun x hx a ha => ((prSt_ok wA wB hx).1 a ha).1) 300 0 [nd0] [] ss he (by simp) (by simp) rfl (fun x hx => by rw [List.mem_singleton.1 hx]; exact PrP.first wA wB) (fun j hj => absurd hj (by omega))
theorem prA_alw {bt : Bool} {az bz ss : List (List (List Int))} (wA : AdOK az) (wB : AdOK bz) (h : prA bt az bz = some ss) (w : List (List Int)) : alw ss w 0 ↔ alwN (prSt bt az bz) w nd0 := by
  obtain ⟨N, t, h1, _, _, h4, h5⟩ := prA_shape wA wB h
  exact alw_shape h5 (fun x hx a ha => ((prSt_ok wA wB (h4 x hx)).1 a ha).2) (fun x _ => prSt_asc bt az bz x) w 0 nd0 (by rw [h1]; rfl)
theorem sdA_zero {ss : List (List (List Int))} {w : List (List Int)} : sdA ss w 0 ↔ alw ss w 0 := ⟨fun h => h.2, fun h => ⟨Int.le_refl _, h⟩⟩
/-- The words of Or. -/
theorem or_alw {az bz ss : List (List (List Int))} (wA : AdOK az) (wB : AdOK bz) (h : prA false az bz = some ss) (w : List (List Int)) : alw ss w 0 ↔ alw az w 0 ∨ alw bz w 0 := by
  rw [prA_alw wA wB h, alwN_or wA wB w nd0 (.inl (Int.le_refl _))]
  show sdA az w 0 ∨ sdA bz w 0 ↔ _
  rw [sdA_zero, sdA_zero]
/-- The words of the pairs of And, before those that end are taken away. -/
theorem and_alw {az bz ss : List (List (List Int))} (wA : AdOK az) (wB : AdOK bz) (h : prA true az bz = some ss) (w : List (List Int)) : alw ss w 0 ↔ alw az w 0 ∧ alw bz w 0 := by
  rw [prA_alw wA wB h, alwN_and wA wB w nd0 ⟨Int.le_refl _, Int.le_refl _⟩]
  show sdA az w 0 ∧ sdA bz w 0 ↔ _
  rw [sdA_zero, sdA_zero]
end Go.Proofs.YtiiiegflobihjaaGreat

/- The words of And: those of the pairs that can be continued to every length. Plain lists. -/
namespace Go.Proofs.YtiiiegflobihjaaGreat

/-- Words of every length are permitted behind this one. -/
def Ext (ss : List (List (List Int))) (w : List (List Int)) (s : Nat) : Prop := ∀ n : Nat, ∃ u : List (List Int), u.length = n ∧ alw ss (w ++ u) s
section
variable {ss : List (List (List Int))}
theorem alw_preG : ∀ {w u : List (List Int)} {s : Nat}, alw ss (w ++ u) s → alw ss w s
  | [], _, _, _ => trivial
  | _ :: _, _, _, h => ⟨h.1, alw_preG h.2⟩
theorem alw_take {w : List (List Int)} {s : Nat} (h : alw ss w s) (n : Nat) : alw ss (w.take n) s := alw_preG (u := w.drop n) (by rw [List.take_append_drop]; exact h)
theorem toI_some {r : List Int} : ∀ {x : List (List Int)}, 0 ≤ toI r x → ∃ m ∈ x, rdOf m = r ∧ toI r x = m.getD 7 0
  | [], h => by simp [toI] at h
  | a :: x, h => by
    rw [toI] at h ⊢
    by_cases e : rdOf a = r
    · rw [if_pos e]; exact ⟨a, by simp, e, rfl⟩
    · rw [if_neg e] at h ⊢
      obtain ⟨m, h1, h2, h3⟩ := toI_some h
      exact ⟨m, by simp [h1], h2, h3⟩
theorem alw_cons_some {r : List Int} {w : List (List Int)} {s : Nat} (h : alw ss (r :: w) s) : ∃ m ∈ ss.getD s [], rdOf m = r ∧ alw ss w (mvTo m) := by
  obtain ⟨m, h1, h2, h3⟩ := toI_some h.1
  refine ⟨m, h1, h2, ?_⟩
  have h4 := h.2
  rw [h3] at h4
  exact h4
theorem alw_cons_mem (hA : ∀ s ∈ ss, AscL (s.map rdOf)) (hM : LeadOK ss) {m : List Int} {w : List (List Int)} {s : Nat} (hm : m ∈ ss.getD s []) : alw ss (rdOf m :: w) s ↔ alw ss w (mvTo m) := by
  have hs : s < ss.length := by
    rcases Nat.lt_or_ge s ss.length with h | h
    · exact h
    · rw [List.getD_eq_getElem?_getD, List.getElem?_eq_none h] at hm; cases hm
  have hin : ss.getD s [] ∈ ss := by rw [getD_eq hs]; exact List.getElem_mem hs
  have h1 := toI_mem (hA _ hin) hm
  have h2 := (hM _ hin m hm).1
  rw [alw, h1]
  exact ⟨fun h => h.2, fun h => ⟨h2, h⟩⟩
theorem lng_step {s : Nat} (h : Ext ss [] s) : ∃ m ∈ ss.getD s [], Ext ss [] (mvTo m) := by
  have key : ∀ l : List (List Int), (∀ m ∈ l, ¬ Ext ss [] (mvTo m)) → ∃ N : Nat, ∀ m ∈ l, ¬ ∃ u : List (List Int), u.length = N ∧ alw ss u (mvTo m) := by
    intro l
    induction l with
    | nil => intro _; exact ⟨0, fun m hm => by cases hm⟩
    | cons a l ih =>
      intro h
      obtain ⟨N, hN⟩ := ih fun m hm => h m (by simp [hm])
      have ha := h a (by simp)
      unfold Ext at ha
      obtain ⟨K, hK⟩ := Classical.not_forall.1 ha
      refine ⟨N + K, fun m hm => ?_⟩
      rintro ⟨u, hu, hu2⟩
      rcases List.mem_cons.1 hm with rfl | hm
      · exact hK ⟨u.take K, by rw [List.length_take]; omega, alw_take hu2 K⟩
      · exact hN m hm ⟨u.take N, by rw [List.length_take]; omega, alw_take hu2 N⟩
  refine Classical.byContradiction fun hne => ?_
  obtain ⟨N, hN⟩ := key (ss.getD s []) fun m hm hx => hne ⟨m, hm, hx⟩
  obtain ⟨u, hu, hu2⟩ := h (N + 1)
  cases u with
  | nil => simp at hu
  | cons r u =>
    obtain ⟨m, hm, _, h3⟩ := alw_cons_some hu2
    exact hN m hm ⟨u, by simpa using hu, h3⟩
theorem psK_fix : ∀ (k s : Nat) (live : List Bool), psK ss k s live = live → ∀ i, s ≤ i → i < s + k → psAt ss live i = live
  | 0, _, _, _, _, h1, h2 => absurd h2 (by omega)
  | k + 1, s, live, h, i, h1, h2 => by
    rw [psK] at h
    have d1 := psAt_dn (ss := ss) live s
    have d2 := psK_dn (ss := ss) k (s + 1) (psAt ss live s)
    rw [h] at d2
    have he := d1.trues.2 (Nat.le_antisymm d1.trues.1 d2.trues.1)
    rw [he] at h
    by_cases e : i = s
    · rw [e]; exact he
    · exact psK_fix k (s + 1) live h i (by omega) (by omega)
theorem lv_next {s : Nat} (hs : (lvA ss).getD s false = true) : ∃ m ∈ ss.getD s [], (lvA ss).getD (mvTo m) false = true := by
  have hl := lvA_len ss
  have hlt : s < (lvA ss).length := by
    rcases Nat.lt_or_ge s (lvA ss).length with h | h
    · exact h
    · rw [List.getD_eq_getElem?_getD, List.getElem?_eq_none h] at hs; cases hs
  have h1 := psK_fix ss.length 0 (lvA ss) (lvA_stay ss) s (by omega) (by omega)
  rw [psAt] at h1
  have h2 := congrArg (fun l => l.getD s false) h1
  simp only [List.getD_eq_getElem?_getD, List.getElem?_set_self hlt] at h2
  rw [← List.getD_eq_getElem?_getD, hs] at h2
  have h3 : lvB ss (lvA ss) s = true := by simpa using h2
  unfold lvB at h3
  obtain ⟨m, hm, h4⟩ := List.any_eq_true.1 h3
  exact ⟨m, hm, h4⟩
theorem lv_ext (hA : ∀ s ∈ ss, AscL (s.map rdOf)) (hM : LeadOK ss) {s : Nat} (hs : (lvA ss).getD s false = true) : Ext ss [] s := by
  intro n
  induction n generalizing s with
  | zero => exact ⟨[], rfl, trivial⟩
  | succ n ih =>
    obtain ⟨m, hm, h⟩ := lv_next hs
    obtain ⟨u, hu, hu2⟩ := ih h
    exact ⟨rdOf m :: u, by rw [List.length_cons, hu], (alw_cons_mem hA hM hm).2 hu2⟩
def LvK (ss : List (List (List Int))) (live : List Bool) : Prop := live.length = ss.length ∧ ∀ s, s < ss.length → Ext ss [] s → live.getD s false = true
theorem LvK.at (hM : LeadOK ss) {live : List Bool} (h : LvK ss live) (i : Nat) : LvK ss (psAt ss live i) := ⟨by rw [psAt_len]; exact h.1, fun s hs he => by
  rw [psAt, List.getD_eq_getElem?_getD, List.getElem?_set]
  split
  · rename_i e
    subst e
    obtain ⟨m, hm, h3⟩ := lng_step he
    have hin : ss.getD i [] ∈ ss := by rw [getD_eq hs]; exact List.getElem_mem hs
    obtain ⟨m1, m2⟩ := hM _ hin m hm
    have h4 := h.2 (mvTo m) (by rw [mvTo]; omega) h3
    have h5 : lvB ss live i = true := List.any_eq_true.2 ⟨m, hm, h4⟩
    rw [if_pos (by have := h.1; omega)]
    have h6 := h.2 i hs he
    rw [h5, h6]; rfl
  · rw [← List.getD_eq_getElem?_getD]; exact h.2 s hs he⟩
theorem LvK.k (hM : LeadOK ss) : ∀ (k s : Nat) {live : List Bool}, LvK ss live → LvK ss (psK ss k s live)
  | 0, _, _, h => h
  | k + 1, s, _, h => LvK.k hM k (s + 1) (h.at hM s)
theorem LvK.n (hM : LeadOK ss) : ∀ (k : Nat) {live : List Bool}, LvK ss live → LvK ss (psN ss k live)
  | 0, _, h => h
  | k + 1, _, h => LvK.n hM k (LvK.k hM ss.length 0 h)
theorem lv_of_ext (hM : LeadOK ss) {s : Nat} (hs : s < ss.length) (h : Ext ss [] s) : (lvA ss).getD s false = true :=
  (LvK.n hM ss.length (live := List.replicate ss.length true) ⟨by simp, fun s hs _ => by simp [List.getD_eq_getElem?_getD, hs]⟩).2 s hs h
theorem lvSt_step {live : List Bool} {x y : Nd} {r : List Int} : (r, y) ∈ lvSt ss live x ↔ ∃ m ∈ ss.getD x.1.toNat [], live.getD (mvTo m) false = true ∧ rdOf m = r ∧ y = ((mvTo m : Int), 0, []) := by
  rw [lvSt, List.mem_filterMap]
  constructor
  · rintro ⟨m, h1, h2⟩
    unfold lvF at h2
    split at h2
    · rename_i h3
      injection h2 with h2
      injection h2 with h4 h5
      exact ⟨m, h1, h3, h4, h5.symm⟩
    · cases h2
  · rintro ⟨m, h1, h2, rfl, rfl⟩
    exact ⟨m, h1, by rw [lvF, if_pos h2]⟩
theorem lvSt_asc (hA : ∀ s ∈ ss, AscL (s.map rdOf)) (live : List Bool) {x : Nd} (hx : PL ss x) : AscL ((lvSt ss live x).map Prod.fst) := by
  have h1 : ((lvSt ss live x).map Prod.fst).Sublist ((ss.getD x.1.toNat []).map rdOf) := by
    rw [lvSt]
    generalize ss.getD x.1.toNat [] = l
    induction l with
    | nil => exact List.Sublist.refl _
    | cons r l ih =>
      rw [List.filterMap_cons, List.map_cons]
      unfold lvF
      split
      · exact List.Sublist.cons _ ih
      · rename_i b h
        split at h
        · injection h with h; subst h
          exact List.Sublist.cons_cons _ ih
        · cases h
  exact List.Pairwise.sublist h1 (hA _ (by rw [getD_eq hx.2.2]; exact List.getElem_mem hx.2.2))
theorem alwN_lv (hA : ∀ s ∈ ss, AscL (s.map rdOf)) (hM : LeadOK ss) : ∀ (w : List (List Int)) (s : Nat), (lvA ss).getD s false = true → (alwN (lvSt ss (lvA ss)) w ((s : Int), 0, []) ↔ Ext ss w s)
  | [], s, hs => ⟨fun _ => lv_ext hA hM hs, fun _ => trivial⟩
  | r :: w, s, hs => by
    rw [alwN]
    constructor
    · rintro ⟨y, h1, h2⟩
      obtain ⟨m, hm, h3, rfl, rfl⟩ := lvSt_step.1 h1
      have h4 := (alwN_lv hA hM w (mvTo m) h3).1 h2
      intro n
      obtain ⟨u, hu, hu2⟩ := h4 n
      exact ⟨u, hu, (alw_cons_mem hA hM hm).2 hu2⟩
    · intro h
      obtain ⟨u0, _, h0⟩ := h 0
      obtain ⟨m, hm, rfl, _⟩ := alw_cons_some (w := w ++ u0) h0
      have h5 : Ext ss w (mvTo m) := fun n => by
        obtain ⟨u, hu, hu2⟩ := h n
        exact ⟨u, hu, (alw_cons_mem hA hM hm).1 hu2⟩
      have h6 : Ext ss [] (mvTo m) := fun n => by
        obtain ⟨u, hu, hu2⟩ := h5 n
        exact ⟨(w ++ u).take n, by rw [List.length_take, List.length_append]; omega, alw_take hu2 n⟩
      have hlt : mvTo m < ss.length := by
        have hs2 : s < ss.length := by
          rcases Nat.lt_or_ge s ss.length with h | h
          · exact h
          · rw [List.getD_eq_getElem?_getD, List.getElem?_eq_none h] at hm; cases hm
        have hin : ss.getD s [] ∈ ss := by rw [getD_eq hs2]; exact List.getElem_mem hs2
        obtain ⟨m1, m2⟩ := hM _ hin m hm
        rw [mvTo]; omega
      have h7 := lv_of_ext hM hlt h6
      exact ⟨_, lvSt_step.2 ⟨m, hm, h7, rfl, rfl⟩, (alwN_lv hA hM w (mvTo m) h7).2 h5⟩
end
theorem lvR_shape {ss S : List (List (List Int))} (wS : AdW ss) (h : lvR ss = some S) : ∃ N t, N = nd0 :: t ∧ N.Nodup ∧ N.length = S.length ∧ (∀ x ∈ N, PL ss x) ∧ ExSh (lvSt ss (lvA ss)) N S N.length := by
  obtain ⟨R, hR⟩ := exG_some (lvSt ss (lvA ss)) 300 0 [nd0] [] (by simp) (by omega) (by omega)
  have he : exG (lvSt ss (lvA ss)) 300 0 [nd0] [] = some (some S) := by
    rw [hR]
    rw [lvR, hR] at h
    exact congrArg some h
  exact exG_shape (P := PL ss) (fun x hx a ha => ((lvSt_ok wS _ hx).1 a ha).1) 300 0 [nd0] [] S he (by simp) (by simp) rfl (fun x hx => by rw [List.mem_singleton.1 hx]; exact PL.first wS) (fun j hj => absurd hj (by omega))
/-- The words of what And hands back. -/
theorem lvR_alw {ss S : List (List (List Int))} (wS : AdW ss) (hA : ∀ s ∈ ss, AscL (s.map rdOf)) (hM : LeadOK ss) (h0 : (lvA ss).getD 0 false = true) (h : lvR ss = some S) (w : List (List Int)) : alw S w 0 ↔ Ext ss w 0 := by
  obtain ⟨N, t, h1, _, _, h4, h5⟩ := lvR_shape wS h
  rw [alw_shape h5 (fun x hx a ha => ((lvSt_ok wS _ (h4 x hx)).1 a ha).2) (fun x hx => lvSt_asc hA _ (h4 x hx)) w 0 nd0 (by rw [h1]; rfl)]
  exact alwN_lv hA hM w 0 h0
end Go.Proofs.YtiiiegflobihjaaGreat

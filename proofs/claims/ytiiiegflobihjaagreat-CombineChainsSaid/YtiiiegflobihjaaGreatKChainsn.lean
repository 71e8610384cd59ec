/- Texts of this claim, put together: J1 Sh. -/
import Derived.Test.YtiiiegflobihjaaGreatKChainsk
import Derived.Test.YtiiiegflobihjaaGreatKChainsj
import Derived.Test.YtiiiegflobihjaaGreatKChainsh
import Derived.Lib.SliceRun
import Derived.IntWalk
import Derived.Laws.IdiomCopy
import Derived.Ground.SlsfProg
import Derived.Ground.SlgmProg
import Derived.Shelf.SlSortCmp.WholeK
import Derived.Shelf.SlSortCmp.Whole1
import Derived.Shelf.SlSortCmp.NoneTotal
import Derived.Shelf.SortM.Plain
import Derived.Shelf.SortM.SortNone
import Derived.Test.YtiiiegflobihjaaGreatProg

/- slices.Compact at rows of rounds. -/
namespace Go.Proofs.YtiiiegflobihjaaGreat
open Go.RowKit

theorem cmpc_snoc : ∀ {l : List (List Int)} {x y : List Int}, cmpc (l ++ [x] ++ [y]) = if x = y then cmpc (l ++ [x]) else cmpc (l ++ [x]) ++ [y]
  | [], x, y => by
    by_cases h : x = y
    · subst h; simp [cmpc]
    · simp [cmpc, h]
  | [a], x, y => by
    by_cases ha : a = x <;> by_cases h : x = y <;> simp [cmpc, ha, h]
  | a :: b :: l, x, y => by
    have ih := cmpc_snoc (l := b :: l) (x := x) (y := y)
    simp only [List.cons_append] at ih ⊢
    by_cases ha : a = b
    · rw [cmpc, if_pos ha, ih]
      by_cases h : x = y
      · rw [if_pos h, if_pos h, cmpc, if_pos ha]
      · rw [if_neg h, if_neg h, cmpc, if_pos ha]
    · rw [cmpc, if_neg ha, ih]
      by_cases h : x = y
      · rw [if_pos h, if_pos h, cmpc, if_neg ha]
      · rw [if_neg h, if_neg h, cmpc, if_neg ha]; rfl
theorem cmpc_take {xs : List (List Int)} {m : Nat} (h : m + 1 < xs.length) : cmpc (xs.take (m + 2)) = if xs.getD m [] = xs.getD (m + 1) [] then cmpc (xs.take (m + 1)) else cmpc (xs.take (m + 1)) ++ [xs.getD (m + 1) []] := by
  rw [take_snoc h [], take_snoc (show m < xs.length by omega) [], cmpc_snoc]
/-- A store of a whole round. -/
theorem OwX.store7 {w : World} {B g n cap : Nat} {xs : List (List Int)} (h : OwX 51 7 EI w B (.slice (some ⟨g, 0, none⟩) n cap) n xs) {j : Nat} (hj : j < n) (y0 y1 y2 y3 y4 y5 y6 : Int) :
    OwX 51 7 EI (((((((w.setCell ⟨g, j * 7, none⟩ (.int .i64 y0)).setCell ⟨g, j * 7 + 1, none⟩ (.int .i64 y1)).setCell ⟨g, j * 7 + 2, none⟩ (.int .i64 y2)).setCell ⟨g, j * 7 + 3, none⟩ (.int .i64 y3)).setCell ⟨g, j * 7 + 4, none⟩ (.int .i64 y4)).setCell ⟨g, j * 7 + 5, none⟩ (.int .i64 y5)).setCell ⟨g, j * 7 + 6, none⟩ (.int .i64 y6)) B (.slice (some ⟨g, 0, none⟩) n cap) n (xs.set j [y0, y1, y2, y3, y4, y5, y6]) := by
  have hl := h.length
  obtain ⟨h7, _⟩ := h.intCells hj
  have h0 := (h.storeI hj (i := 0) (by decide) y0).1
  have h1 := (h0.storeI hj (i := 1) (by decide) y1).1
  have h2 := (h1.storeI hj (i := 2) (by decide) y2).1
  have h3 := (h2.storeI hj (i := 3) (by decide) y3).1
  have h4 := (h3.storeI hj (i := 4) (by decide) y4).1
  have h5 := (h4.storeI hj (i := 5) (by decide) y5).1
  have h6 := (h5.storeI hj (i := 6) (by decide) y6).1
  have hg : ∀ (a : List Int), (xs.set j a).getD j [] = a := fun a => by
    rw [List.getD_eq_getElem?_getD, List.getElem?_set_self (by omega)]; rfl
  simp only [hg, List.set_set] at h6
  obtain ⟨a, b, c, d, e, f, i, hx⟩ := seven h7
  rw [hx] at h6
  exact h6
theorem below7 {w w' : World} {B g : Nat} {a b c d e f i : Nat} {va vb vc vd ve vf vi : Value} (h : Below B w w') (hg : B ≤ g) :
    Below B w (((((((w'.setCell ⟨g, a, none⟩ va).setCell ⟨g, b, none⟩ vb).setCell ⟨g, c, none⟩ vc).setCell ⟨g, d, none⟩ vd).setCell ⟨g, e, none⟩ ve).setCell ⟨g, f, none⟩ vf).setCell ⟨g, i, none⟩ vi) := by
  have h1 := h.setCell (p := ⟨g, a, none⟩) hg va
  have h2 := h1.setCell (p := ⟨g, b, none⟩) hg vb
  have h3 := h2.setCell (p := ⟨g, c, none⟩) hg vc
  have h4 := h3.setCell (p := ⟨g, d, none⟩) hg vd
  have h5 := h4.setCell (p := ⟨g, e, none⟩) hg ve
  have h6 := h5.setCell (p := ⟨g, f, none⟩) hg vf
  exact h6.setCell (p := ⟨g, i, none⟩) hg vi
theorem OwX.keep7 {w : World} {B g n cap : Nat} {xs : List (List Int)} (h : OwX 51 7 EI w B (.slice (some ⟨g, 0, none⟩) n cap) n xs) (j : Nat) (y0 y1 y2 y3 y4 y5 y6 : Int) :
    KeepX 51 w (((((((w.setCell ⟨g, j * 7, none⟩ (.int .i64 y0)).setCell ⟨g, j * 7 + 1, none⟩ (.int .i64 y1)).setCell ⟨g, j * 7 + 2, none⟩ (.int .i64 y2)).setCell ⟨g, j * 7 + 3, none⟩ (.int .i64 y3)).setCell ⟨g, j * 7 + 4, none⟩ (.int .i64 y4)).setCell ⟨g, j * 7 + 5, none⟩ (.int .i64 y5)).setCell ⟨g, j * 7 + 6, none⟩ (.int .i64 y6)) := by
  obtain ⟨_, h1, _⟩ := h
  obtain ⟨cs', g0⟩ := ownsRow_ty h1 g rfl
  have k0 := KeepX.setCell (p := ⟨g, j * 7, none⟩) g0 (.int .i64 y0)
  have g1 := heap_setCell_same _ g (j * 7) _ _ (.int .i64 y0) g0
  have k1 := KeepX.setCell (p := ⟨g, j * 7 + 1, none⟩) g1 (.int .i64 y1)
  have g2 := heap_setCell_same _ g (j * 7 + 1) _ _ (.int .i64 y1) g1
  have k2 := KeepX.setCell (p := ⟨g, j * 7 + 2, none⟩) g2 (.int .i64 y2)
  have g3 := heap_setCell_same _ g (j * 7 + 2) _ _ (.int .i64 y2) g2
  have k3 := KeepX.setCell (p := ⟨g, j * 7 + 3, none⟩) g3 (.int .i64 y3)
  have g4 := heap_setCell_same _ g (j * 7 + 3) _ _ (.int .i64 y3) g3
  have k4 := KeepX.setCell (p := ⟨g, j * 7 + 4, none⟩) g4 (.int .i64 y4)
  have g5 := heap_setCell_same _ g (j * 7 + 4) _ _ (.int .i64 y4) g4
  have k5 := KeepX.setCell (p := ⟨g, j * 7 + 5, none⟩) g5 (.int .i64 y5)
  have g6 := heap_setCell_same _ g (j * 7 + 5) _ _ (.int .i64 y5) g5
  have k6 := KeepX.setCell (p := ⟨g, j * 7 + 6, none⟩) g6 (.int .i64 y6)
  exact (((((k0.trans k1).trans k2).trans k3).trans k4).trans k5).trans k6
theorem heap_setCell_other {w : World} {p : Addr} {v : Value} {k : Nat} (h : k ≠ p.block) : (w.setCell p v).heap[k]? = w.heap[k]? := Below.heap_setCell w p v k h
theorem setCells_row {b : Nat} {E : TypeId} : ∀ (vs : List Value) (o : Nat) (w : World) (cur : Array Value), w.heap[b]? = some (.cells cur E) →
    ∃ cur', (w.setCells b o vs).heap[b]? = some (.cells cur' E) ∧ cur'.size = cur.size ∧ cur'.toList.take o = cur.toList.take o ∧ (∀ k, k ≠ b → (w.setCells b o vs).heap[k]? = w.heap[k]?) ∧
      (w.setCells b o vs).heap.size = w.heap.size ∧ (w.setCells b o vs).os = w.os ∧ (w.setCells b o vs).tape = w.tape ∧ (w.setCells b o vs).output = w.output
  | [], o, w, cur, h => ⟨cur, h, rfl, rfl, fun _ _ => rfl, rfl, rfl, rfl, rfl⟩
  | v :: vs, o, w, cur, h => by
    have h1 := heap_setCell_same w b o cur E v h
    obtain ⟨cur', k1, k2, k3, k4, k5, k6, k7, k8⟩ := setCells_row vs (o + 1) (w.setCell ⟨b, o, none⟩ v) _ h1
    refine ⟨cur', k1, by rw [k2]; simp, ?_, fun k hk => (k4 k hk).trans (heap_setCell_other hk), k5.trans (by simp [World.setCell]), k6, k7, k8⟩
    have := congrArg (List.take o) k3
    rw [List.take_take, List.take_take, Nat.min_eq_left (Nat.le_succ o)] at this
    rw [this, Array.toList_setIfInBounds, List.take_set, List.set_eq_of_length_le (by rw [List.length_take]; exact Nat.min_le_left _ _)]
/-- The head of a row, when its tail is set to something else. -/
theorem OwX.setTail {w : World} {B g n cap m : Nat} {xs : List (List Int)} (h : OwX 51 7 EI w B (.slice (some ⟨g, 0, none⟩) n cap) n xs) (hm : m ≤ n) (vs : List Value) :
    OwX 51 7 EI (w.setCells g (m * 7) vs) B (.slice (some ⟨g, 0, none⟩) m cap) m (xs.take m) ∧ Below B w (w.setCells g (m * 7) vs) ∧ KeepX 51 w (w.setCells g (m * 7) vs) := by
  have hl := h.length
  obtain ⟨ws, h1, h2, h3, h4⟩ := h
  rcases h1.2 with ⟨h0, _⟩ | ⟨g', cap', cur, he, hB, hg, hc1, hc2, hc3, hc4⟩
  · cases h0
  · injection he with he1 he2 he3
    injection he1 with he1
    injection he1 with he1
    subst he1 he3
    obtain ⟨cur', k1, k2, k3, k4, k5, k6, k7, k8⟩ := setCells_row vs (m * 7) w cur hg
    have hmn : m * 7 ≤ n * 7 := Nat.mul_le_mul_right _ hm
    have hwl : ws.length = n * 7 := h1.1
    have hws : cur'.toList.take (m * 7) = ws.take (m * 7) := by
      rw [k3, ← hc4, List.take_take, Nat.min_eq_left hmn]
    refine ⟨⟨ws.take (m * 7), ⟨by rw [List.length_take]; omega, .inr ⟨g, cap, cur', rfl, hB, k1, by omega, hc2, by rw [k2]; exact hc3, hws⟩⟩, by rw [List.length_take]; omega, fun u hu => h3 u (List.mem_of_mem_take hu), fun j x hj => ?_⟩, ⟨k6, k7, k8, by rw [k5]; exact Nat.le_refl _, fun k hk => k4 k (by omega)⟩, fun k cs t hk ht => k4 k fun e => ?_⟩
    · rw [List.getElem?_take] at hj
      split at hj
      · rename_i hjm
        have := h4 j x hj
        have hjm7 : j * 7 + 7 ≤ m * 7 := by rw [← Nat.succ_mul]; exact Nat.mul_le_mul_right _ hjm
        show _ = _
        rw [List.drop_take, List.take_take, Nat.min_eq_left (by omega)]
        exact this
      · cases hj
    · subst e
      rw [hg] at hk
      injection hk with hk
      injection hk with _ hk
      exact ht hk.symm
theorem run_clear_rds (w : World) (ty : TypeId) (b o m c : Nat) (hm : 0 < m) (hc : ∀ j, j < m * 7 → (w.cell? ⟨b, o + j, none⟩).isSome = true) (hf : ∀ j, j < m * 7 → w.frozen? ⟨b, o + j, none⟩ = false) :
    (Builtin.clear_ #[44] ty #[.slice (some ⟨b, o, none⟩) m c]).run Tryz.prog w = .ok (.tuple #[]) (w.setCells b o (Builtin.zeroCells (Value.agg #[.int .i64 0, .int .i64 0, .int .i64 0, .int .i64 0, .int .i64 0, .int .i64 0, .int .i64 0]).cells m).toList) := by
  have hzv : ∀ w, (zeroValue 51).run Tryz.prog w = .ok (Value.agg #[.int .i64 0, .int .i64 0, .int .i64 0, .int .i64 0, .int .i64 0, .int .i64 0, .int .i64 0]) w := fun w => by kernel_rfl
  have hcl : (Value.agg #[.int .i64 0, .int .i64 0, .int .i64 0, .int .i64 0, .int .i64 0, .int .i64 0, .int .i64 0]).cells = #[.int .i64 0, .int .i64 0, .int .i64 0, .int .i64 0, .int .i64 0, .int .i64 0, .int .i64 0] := by rfl
  have hsz : (Builtin.zeroCells (Value.agg #[.int .i64 0, .int .i64 0, .int .i64 0, .int .i64 0, .int .i64 0, .int .i64 0, .int .i64 0]).cells m).toList.length = m * 7 := by
    rw [Array.length_toList, size_zeroCells, hcl]; rfl
  have hone : ∀ v ∈ (Builtin.zeroCells (Value.agg #[.int .i64 0, .int .i64 0, .int .i64 0, .int .i64 0, .int .i64 0, .int .i64 0, .int .i64 0]).cells m).toList, v.oneCell' = true := by
    intro v hv
    rw [hcl] at hv
    simp only [Builtin.zeroCells, Array.toList_map, List.mem_map] at hv
    obtain ⟨i, _, rfl⟩ := hv
    have hi : i % 7 < 7 := Nat.mod_lt _ (by decide)
    have : ∀ k, k < 7 → ((#[.int .i64 0, .int .i64 0, .int .i64 0, .int .i64 0, .int .i64 0, .int .i64 0, .int .i64 0] : Array Value)[k]!).oneCell' = true := by
      intro k hk
      match k, hk with
      | 0, _ => rfl
      | 1, _ => rfl
      | 2, _ => rfl
      | 3, _ => rfl
      | 4, _ => rfl
      | 5, _ => rfl
      | 6, _ => rfl
    exact this _ hi
  have hst := run_storeCells_cells (P := Tryz.prog) b o _ 0 w (by rw [hsz]; simpa using hc) (by rw [hsz]; simpa using hf) hone
  simp only [Nat.add_zero] at hst
  obtain ⟨k, rfl⟩ : ∃ k, m = k + 1 := ⟨m - 1, by omega⟩
  simp [Builtin.clear_, run_underlying elemRd.1, hzv, hst]

/-- A step of the second loop. -/
theorem compact_put {xs cs : List (List Int)} {m kk : Nat} {x : List Int} (hcl : cs.length = xs.length) (hk : kk < m) (hm : m < xs.length) (h1 : cs.take kk = cmpc (xs.take m)) (h2 : ∀ j, kk ≤ j → cs.getD j [] = xs.getD j []) (hx : xs.getD m [] = x) (hne : ¬ xs.getD (m - 1) [] = x) :
    (cs.set kk x).take (kk + 1) = cmpc (xs.take (m + 1)) ∧ ∀ j, kk + 1 ≤ j → (cs.set kk x).getD j [] = xs.getD j [] := by
  obtain ⟨p, rfl⟩ : ∃ p, m = p + 1 := ⟨m - 1, by omega⟩
  refine ⟨?_, fun j hj => ?_⟩
  · rw [cmpc_take hm, if_neg (by rw [hx]; exact hne), ← h1, hx, List.take_set, take_snoc (show kk < cs.length by omega) [], List.set_append_right _ _ (by rw [List.length_take]; exact Nat.min_le_left _ _), List.length_take, Nat.min_eq_left (by omega), Nat.sub_self]; rfl
  · rw [List.getD_eq_getElem?_getD, List.getElem?_set_ne (by omega), ← List.getD_eq_getElem?_getD]; exact h2 j (by omega)
set_option maxRecDepth 100000 in
set_option maxHeartbeats 3200000 in
theorem compactRd {w : World} {B g n cap : Nat} {xs : List (List Int)} (h : OwX 51 7 EI w B (.slice (some ⟨g, 0, none⟩) n cap) n xs) (hn : n ≤ 1000) :
    Calls Tryz.prog 95 #[.slice (some ⟨g, 0, none⟩) n cap] w fun e w' => ∃ m, e = .returned (.slice (some ⟨g, 0, none⟩) m cap) ∧ OwX 51 7 EI w' B (.slice (some ⟨g, 0, none⟩) m cap) m (cmpc xs) ∧ Below B w w' ∧ KeepX 51 w w' := by
  have hl := h.length
  have hB : B ≤ g := by
    obtain ⟨_, h1, _⟩ := h
    exact (World.ownsRow.lt h1 g rfl).1
  have hnc : n ≤ cap ∧ (cap : Int) ≤ 9223372036854775807 := by
    obtain ⟨_, h1, _⟩ := h
    rcases h1.2 with ⟨h0, _⟩ | ⟨g', cap', cur, he, _, _, hc1, hc2, _⟩
    · cases h0
    · injection he with _ _ he3
      subst he3
      unfold maxLen at hc2
      exact ⟨hc1, by omega⟩
  obtain ⟨hnc1, hnc2⟩ := hnc
  have hxl : ∀ j, j < n → (xs.getD j []).length = 7 := fun j hj => (h.intCells hj).1
  have hcells := Lib.hid (fun j (hj : j < n) => OwX.intCells h hj)
  have hh := Lib.hid h
  have hlh := Lib.hid hl
  have hxlh := Lib.hid hxl
  clear h hl hxl
  have hfin0 : Hid (∀ q, cmpc (xs.take n) = xs.take n → OwX 51 7 EI (w.drewN q) B (.slice (some ⟨g, 0, none⟩) n cap) n (cmpc xs)) := fun q hq => by
    rw [List.take_of_length_le (by rw [hlh.out]; exact Nat.le_refl _)] at hq
    rw [hq]
    exact hh.out.keep (EI.stab _) (below_drewN (Below.refl _ w) q)
  have hBw : Hid (∀ q, Below B w (w.drewN q) ∧ KeepX 51 w (w.drewN q)) := fun q => ⟨below_drewN (Below.refl _ w) q, KeepX.below (below_drewN (Below.refl _ w) q)⟩
  by_cases h2 : n < 2
  · have hall : Hid (cmpc (xs.take n) = xs.take n) := by
      show _ = _
      have : n = 0 ∨ n = 1 := by omega
      rcases this with rfl | rfl
      · simp [cmpc]
      · match xs, hlh.out with
        | [x], _ => simp [cmpc]
    have hd : decide ((n : Int) < 2) = true := decide_eq_true (by omega)
    go_enter Tryz.func95, Tryz.ntmps95
    go_wp2
    go_ret
    exact ⟨n, rfl, hfin0.out 0 hall.out, (hBw.out 0).1, (hBw.out 0).2⟩
  · have hd : decide ((n : Int) < 2) = false := decide_eq_false (by omega)
    have h1 : Hid (cmpc (xs.take (0 + 1)) = xs.take (0 + 1)) := by
      show _ = _
      match xs, hlh.out with
      | x :: r, _ => simp [cmpc]
      | [], h => simp at h; omega
    go_enter Tryz.func95, Tryz.ntmps95
    go_wp2_with fail
    go_loopg [3] n (fun f kv wr => ∃ p q : Nat, kv = .int .i64 ((p : Int) + 1) ∧ p + 1 ≤ n ∧ n ≤ p + 1 + f ∧ wr = w.drewN q ∧ Hid (cmpc (xs.take (p + 1)) = xs.take (p + 1)))
    case atStart => exact ⟨0, 0, rfl, by omega, by omega, rfl, h1⟩
    case round =>
      clear h1
      obtain ⟨p, q, rfl, hp, hpf, rfl, hc⟩ := hrel
      by_cases hlt : p + 1 < n
      · obtain ⟨f, rfl⟩ : ∃ f, gk = f + 1 := ⟨gk - 1, by omega⟩
        obtain ⟨hx7, hxc⟩ := hcells.out (p + 1) hlt
        obtain ⟨hy7, hyc⟩ := hcells.out p (by omega)
        obtain ⟨x, hx⟩ : ∃ x, xs.getD (p + 1) [] = x := ⟨_, rfl⟩
        obtain ⟨y, hy⟩ : ∃ y, xs.getD p [] = y := ⟨_, rfl⟩
        have htk := cmpc_take (xs := xs) (m := p) (by rw [hlh.out]; exact hlt)
        rw [hx, hy] at htk
        rw [hx] at hx7 hxc
        rw [hy] at hy7 hyc
        obtain ⟨x0, x1, x2, x3, x4, x5, x6, rfl⟩ := seven hx7
        obtain ⟨y0, y1, y2, y3, y4, y5, y6, rfl⟩ := seven hy7
        obtain ⟨c0, c1, c2, c3, c4, c5, c6⟩ := hxc.all7
        obtain ⟨d0, d1, d2, d3, d4, d5, d6⟩ := hyc.all7
        have hix1 : (p : Int) + 1 < (n : Int) := by omega
        have hix0 : (0 : Int) ≤ (p : Int) := by omega
        have hix2 : (0 : Int) ≤ (p : Int) + 1 := by omega
        have hix3 : (p : Int) < (n : Int) := by omega
        have hwr : IntKind.i64.wrap ((p : Int) + 1 - 1) = (p : Int) := by rw [show (p : Int) + 1 - 1 = (p : Int) by omega]; exact IntWalk.i64_in _ (by omega)
        have htn : ((p : Int) + 1).toNat = p + 1 := by omega
        have hty := hy
        have hxt := hx
        clear hxc hyc hx7 hy7 hx hy
        by_cases he : [x0, x1, x2, x3, x4, x5, x6] = [y0, y1, y2, y3, y4, y5, y6]
        · have hE : eqL [x0, x1, x2, x3, x4, x5, x6] [y0, y1, y2, y3, y4, y5, y6] = true := eqL_true.2 he
          rw [if_pos he.symm, hc.out] at htk
          have htk := Lib.hid htk
          replace hty := Lib.hid hty
          clear he hc hxt
          go_wp2_with fail
          go_quiet (fail)
          go_wp2_with fail
          obtain ⟨N2, hN2⟩ : ∃ N2, n - (p + 1) = N2 := ⟨_, rfl⟩
          obtain ⟨C2, hC2⟩ : ∃ C2, cap - (p + 1) = C2 := ⟨_, rfl⟩
          rw [hN2, hC2]
          have hnN : n = p + 1 + N2 := by omega
          replace hC2 := Lib.hid hC2
          replace hN2 := Lib.hid hN2
          have hnNh := Lib.hid hnN
          have hN2i : (1 : Int) ≤ (N2 : Int) := by omega
          have hs0 : Hid (xs.take (p + 1) = cmpc (xs.take (p + 1 + (0 + 1)))) := htk.out.symm
          have hO0 : OwX 51 7 EI (w.drewN (q + nq)) B (.slice (some ⟨g, 0, none⟩) n cap) n xs := hh.out
          have hb0 : Below B w (w.drewN (q + nq)) := below_drewN (Below.refl _ w) _
          have hk0 : KeepX 51 w (w.drewN (q + nq)) := KeepX.below (below_drewN (Below.refl _ w) _)
          have hk0h := Lib.hid hk0
          have hsame : Hid (∀ j, p + 1 ≤ j → xs.getD j [] = xs.getD j []) := fun _ _ => rfl
          clear hnN c0 c1 c2 c3 c4 c5 c6 d0 d1 d2 d3 d4 d5 d6 hE hix1 hix2 htn hwr hk0
          go_loopg [3, 5] N2 (fun f kv rv wr => ∃ (kk r : Nat) (cs : List (List Int)), kv = .int .i64 ((kk : Nat) : Int) ∧ rv = .int .i64 ((r : Int) + 1) ∧ r + 1 ≤ N2 ∧ N2 ≤ r + 1 + f ∧ kk < p + 1 + (r + 1) ∧ OwX 51 7 EI wr B (.slice (some ⟨g, 0, none⟩) n cap) n cs ∧ Hid (cs.take kk = cmpc (xs.take (p + 1 + (r + 1)))) ∧ Hid (∀ j, kk ≤ j → cs.getD j [] = xs.getD j []) ∧ Below B w wr ∧ Hid (KeepX 51 w wr))
          case atStart => exact ⟨p + 1, 0, xs, by go_num, rfl, by omega, by omega, by omega, hO0, hs0, hsame, hb0, hk0h⟩
          case round =>
            clear hO0 hs0 hsame hb0 hk0h
            obtain ⟨kk, r, cs, rfl, rfl, hr, hrf, hkk, hO, htkk, hsm, hbw, hkx⟩ := hrel
            have hcl := hO.length
            have hOh := Lib.hid hO
            have hnn := hnNh.out
            by_cases hltr : r + 1 < N2
            · obtain ⟨f, rfl⟩ : ∃ f, gk = f + 1 := ⟨gk - 1, by omega⟩
              obtain ⟨hx7, hxc⟩ := hO.intCells (j := p + 1 + (r + 1)) (by omega)
              obtain ⟨hy7, hyc⟩ := hO.intCells (j := p + 1 + r) (by omega)
              obtain ⟨hz7, hzc⟩ := hO.intCells (j := kk) (by omega)
              rw [hsm.out _ (by omega)] at hx7 hxc
              rw [hsm.out _ (by omega)] at hy7 hyc
              rw [Nat.add_mul (p + 1) (r + 1)] at hxc
              rw [Nat.add_mul (p + 1) r] at hyc
              obtain ⟨x, hx⟩ : ∃ x, xs.getD (p + 1 + (r + 1)) [] = x := ⟨_, rfl⟩
              obtain ⟨y, hy⟩ : ∃ y, xs.getD (p + 1 + r) [] = y := ⟨_, rfl⟩
              obtain ⟨z, hz⟩ : ∃ z, cs.getD kk [] = z := ⟨_, rfl⟩
              have htt := cmpc_take (xs := xs) (m := p + 1 + r) (by rw [hlh.out]; omega)
              have hput := compact_put (xs := xs) (cs := cs) (m := p + 1 + (r + 1)) (kk := kk) (x := x) (by rw [hcl, hlh.out]) hkk (by rw [hlh.out]; omega) htkk.out hsm.out hx
              rw [show p + 1 + r + 1 = p + 1 + (r + 1) by omega, hx, hy] at htt
              rw [show p + 1 + (r + 1) - 1 = p + 1 + r by omega, hy] at hput
              rw [hx] at hx7 hxc
              rw [hy] at hy7 hyc
              rw [hz] at hz7 hzc
              obtain ⟨x0, x1, x2, x3, x4, x5, x6, rfl⟩ := seven hx7
              obtain ⟨y0, y1, y2, y3, y4, y5, y6, rfl⟩ := seven hy7
              obtain ⟨z0, z1, z2, z3, z4, z5, z6, rfl⟩ := seven hz7
              obtain ⟨c0, c1, c2, c3, c4, c5, c6⟩ := hxc.all7
              obtain ⟨d0, d1, d2, d3, d4, d5, d6⟩ := hyc.all7
              obtain ⟨e0, e1, e2, e3, e4, e5, e6⟩ := hzc.all7
              have hi1 : (r : Int) + 1 < (N2 : Int) := by omega
              have hi2 : (0 : Int) ≤ (r : Int) + 1 := by omega
              have hi3 : (0 : Int) ≤ (r : Int) := by omega
              have hi4 : (r : Int) < (N2 : Int) := by omega
              have hi5 : (kk : Int) < (n : Int) := by omega
              have hN2b : (N2 : Int) ≤ 1000 := by omega
              have hkkb : (kk : Int) ≤ 1000 := by omega
              have htn : ((r : Int) + 1).toNat = r + 1 := by omega
              have hwr : IntKind.i64.wrap ((r : Int) + 1 - 1) = (r : Int) := by rw [show (r : Int) + 1 - 1 = (r : Int) by omega]; exact IntWalk.i64_in _ (by omega)
              have hwr2 : IntKind.i64.wrap (r : Int) = (r : Int) := IntWalk.i64_in _ (by omega)
              clear hxc hyc hzc hx7 hy7 hz7 hx hy hz hO
              by_cases he : [x0, x1, x2, x3, x4, x5, x6] = [y0, y1, y2, y3, y4, y5, y6]
              · have hE : eqL [x0, x1, x2, x3, x4, x5, x6] [y0, y1, y2, y3, y4, y5, y6] = true := eqL_true.2 he
                rw [if_pos he.symm] at htt
                have htt2 : Hid (cs.take kk = cmpc (xs.take (p + 1 + (r + 1 + 1)))) := htkk.out.trans htt.symm
                clear he htt hput
                replace hnn := Lib.hid hnn
                replace hcl := Lib.hid hcl
                go_wp2_with fail
                go_quiet (fail)
                clear hwr hwr2 htn
                go_wp2_with fail
                go_roundg f
                case measure => omega
                case rel => exact ⟨kk, r + 1, cs, rfl, by go_num, by omega, by omega, by omega, hOh.out, htt2, hsm, below_drewN hbw _, hkx.out.trans (KeepX.below (below_drewN (Below.refl _ _) _))⟩
              · have hE : eqL [x0, x1, x2, x3, x4, x5, x6] [y0, y1, y2, y3, y4, y5, y6] = false := eqL_false.2 he
                obtain ⟨hp1, hp2⟩ := hput (fun h => he h.symm)
                have hp1h := Lib.hid hp1
                have hp2h := Lib.hid hp2
                have hst : Hid (∀ d, OwX 51 7 EI ((((((((wr.drewN d).setCell ⟨g, kk * 7, none⟩ (.int .i64 x0)).setCell ⟨g, kk * 7 + 1, none⟩ (.int .i64 x1)).setCell ⟨g, kk * 7 + 2, none⟩ (.int .i64 x2)).setCell ⟨g, kk * 7 + 3, none⟩ (.int .i64 x3)).setCell ⟨g, kk * 7 + 4, none⟩ (.int .i64 x4)).setCell ⟨g, kk * 7 + 5, none⟩ (.int .i64 x5)).setCell ⟨g, kk * 7 + 6, none⟩ (.int .i64 x6)) B (.slice (some ⟨g, 0, none⟩) n cap) n (cs.set kk [x0, x1, x2, x3, x4, x5, x6])) := fun d => OwX.store7 (OwX.keep (EI.stab _) hOh.out (below_drewN (Below.refl _ _) d)) (by omega) x0 x1 x2 x3 x4 x5 x6
                have hst3 : Hid (∀ d, Below B w ((((((((wr.drewN d).setCell ⟨g, kk * 7, none⟩ (.int .i64 x0)).setCell ⟨g, kk * 7 + 1, none⟩ (.int .i64 x1)).setCell ⟨g, kk * 7 + 2, none⟩ (.int .i64 x2)).setCell ⟨g, kk * 7 + 3, none⟩ (.int .i64 x3)).setCell ⟨g, kk * 7 + 4, none⟩ (.int .i64 x4)).setCell ⟨g, kk * 7 + 5, none⟩ (.int .i64 x5)).setCell ⟨g, kk * 7 + 6, none⟩ (.int .i64 x6))) := fun d => below7 (below_drewN hbw d) hB
                have hst2 : Hid (∀ d, KeepX 51 w ((((((((wr.drewN d).setCell ⟨g, kk * 7, none⟩ (.int .i64 x0)).setCell ⟨g, kk * 7 + 1, none⟩ (.int .i64 x1)).setCell ⟨g, kk * 7 + 2, none⟩ (.int .i64 x2)).setCell ⟨g, kk * 7 + 3, none⟩ (.int .i64 x3)).setCell ⟨g, kk * 7 + 4, none⟩ (.int .i64 x4)).setCell ⟨g, kk * 7 + 5, none⟩ (.int .i64 x5)).setCell ⟨g, kk * 7 + 6, none⟩ (.int .i64 x6))) := fun d => (hkx.out.trans (KeepX.below (below_drewN (Below.refl _ _) d))).trans (OwX.keep7 (OwX.keep (EI.stab _) hOh.out (below_drewN (Below.refl _ _) d)) kk x0 x1 x2 x3 x4 x5 x6)
                have hfz : ∀ j, wr.frozen? ⟨g, j, none⟩ = false := fun j => hOh.out.frozen j
                have f0 := hfz (kk * 7)
                have f1 := hfz (kk * 7 + 1)
                have f2 := hfz (kk * 7 + 2)
                have f3 := hfz (kk * 7 + 3)
                have f4 := hfz (kk * 7 + 4)
                have f5 := hfz (kk * 7 + 5)
                have f6 := hfz (kk * 7 + 6)
                clear he htt hput hp1 hp2 hfz
                replace hnn := Lib.hid hnn
                replace hcl := Lib.hid hcl
                go_wp2_with fail
                go_quiet (fail)
                clear hwr hwr2 htn
                go_wp2_with fail
                go_roundg f
                case measure => omega
                case rel => exact ⟨kk + 1, r + 1, cs.set kk [x0, x1, x2, x3, x4, x5, x6], by go_num, by go_num, by omega, by omega, by omega, hst.out _, hp1h, hp2h, hst3.out _, hst2.out _⟩
            · have hrN : r + 1 = N2 := by omega
              have hfz : ∀ j, wr.frozen? ⟨g, j, none⟩ = false := fun j => hO.frozen j
              have hcs : ∀ j, j < (n - kk) * 7 → (wr.cell? ⟨g, kk * 7 + j, none⟩).isSome = true := fun j hj => by
                have hq : kk + j / 7 < n := by
                  have : j / 7 < n - kk := by rw [Nat.div_lt_iff_lt_mul (by decide)]; exact hj
                  omega
                obtain ⟨k7, kc⟩ := hO.intCells hq
                have hm : j % 7 < 7 := Nat.mod_lt _ (by decide)
                have h1 := kc (j % 7) (by rw [k7]; exact hm)
                rw [show (kk + j / 7) * 7 + j % 7 = kk * 7 + j by rw [Nat.add_mul, Nat.add_assoc, Nat.mul_comm (j / 7) 7, Nat.div_add_mod]] at h1
                rw [h1]; rfl
              have hcl7 := fun ty => run_clear_rds wr ty g (kk * 7) (n - kk) (cap - kk) (by omega) hcs (fun j _ => hfz _)
              obtain ⟨Z, hZ⟩ : ∃ Z, (Builtin.zeroCells (Value.agg #[.int .i64 0, .int .i64 0, .int .i64 0, .int .i64 0, .int .i64 0, .int .i64 0, .int .i64 0]).cells (n - kk)).toList = Z := ⟨_, rfl⟩
              simp only [hZ] at hcl7
              obtain ⟨t1, t2, t3⟩ := hO.setTail (m := kk) (by omega) Z
              rw [htkk.out, List.take_of_length_le (by rw [hlh.out]; omega)] at t1
              obtain ⟨W2, hW2⟩ : ∃ W2, wr.setCells g (kk * 7) Z = W2 := ⟨_, rfl⟩
              rw [hW2] at t1 t2 t3
              simp only [hW2] at hcl7
              have hfin := Lib.hid t1
              have hkf := Lib.hid (hkx.out.trans t3)
              have hbf := hbw.trans t2
              have hk1 : (kk : Int) ≤ (n : Int) := by omega
              have hkn : kk < n := by omega
              have hkc : kk < cap := by omega
              have hk2 : (kk : Int) ≤ (cap : Int) := by omega
              have hge : decide ((r : Int) + 1 < (N2 : Int)) = false := decide_eq_false (by omega)
              clear t1 t2 t3 hO hOh hfz hcs hZ hW2 htkk hkx hsm
              replace hnn := Lib.hid hnn
              replace hcl := Lib.hid hcl
              replace hrN := Lib.hid hrN
              go_wp2
              go_ret
              exact ⟨kk, rfl, hfin.out, hbf, hkf.out⟩
        · have hE : eqL [x0, x1, x2, x3, x4, x5, x6] [y0, y1, y2, y3, y4, y5, y6] = false := eqL_false.2 he
          rw [if_neg (fun h => he h.symm), hc.out] at htk
          have htk2 : Hid (cmpc (xs.take (p + 1 + 1)) = xs.take (p + 1 + 1)) := by show _ = _; rw [htk, ← hxt]; exact (take_snoc (by rw [hlh.out]; exact hlt) []).symm
          clear he hc hty htk hxt
          go_wp2_with fail
          go_quiet (fail)
          go_wp2_with fail
          go_roundg f
          case measure => omega
          case rel => exact ⟨p + 1, _, by go_num, by omega, by omega, (by first | exact rfl | exact World.drewN_drewN _ _ _), htk2⟩
      · obtain rfl : n = p + 1 := by omega
        have hfin := Lib.hid (hfin0.out q hc.out)
        obtain ⟨b1, b2⟩ := hBw.out q
        have b2h := Lib.hid b2
        clear hc b2
        go_wp2_with fail
        go_ret
        exact ⟨p + 1, by first | rfl | (congr 2; done), hfin.out, b1, b2h.out⟩
end Go.Proofs.YtiiiegflobihjaaGreat

/-
  DERIVED: THE SHELF's CONTRACTS AT THIS DUMP, IN PLAIN WORDS (tools/lay-plain.mjs out of 'YtiiiegflobihjaaGreatShScratch.lean', which tools/lay-shelf.mjs wrote): THE SAME DECLARATIONS UNDER THE SAME NAMES: 'import', 'namespace', 'open', 'def', 'theorem' AND NOTHING ELSE: no command of the shelf's: FOR A HAND-IN. Each laying: the table of numbers ('.._ren') and one theorem, a field a fact of the dump's own or the kernel's comparison; each contract: ONE APPLICATION.
-/
namespace Go.Proofs
open Go.Shelf
def Tryz.sortRd_ren : Go.Shelf.Ren := ⟨fun | 6 => 94 | 15 => 89 | 14 => 123 | 28 => 116 | 29 => 117 | 20 => 147 | 21 => 148 | 22 => 149 | 23 => 150 | 24 => 151 | 25 => 152 | 26 => 153 | 27 => 154 | 46 => 162 | 47 => 140 | 48 => 141 | 49 => 163 | 50 => 164 | 57 => 166 | n => n, fun | 22 => 44 | 24 => 51 | 25 => 133 | 3 => 3 | 39 => 132 | 0 => 0 | 53 => 156 | 55 => 158 | 4 => 4 | 46 => 150 | 45 => 149 | 50 => 111 | 5 => 5 | 9 => 9 | 66 => 173 | 70 => 177 | 76 => 189 | 77 => 190 | n => n, fun | n => n⟩
theorem Tryz.sortRd : Go.Proofs.SlLaysF0.n6 Tryz.prog Tryz.sortRd_ren := {
  mixed := by kernel_rfl
  f6 := ⟨Tryz.f94.name, by decide, Tryz.func94.trans (congrArg some (by kernel_rfl))⟩
  f14 := ⟨Tryz.f123.name, by decide, Tryz.func123.trans (congrArg some (by kernel_rfl))⟩
  f15 := Tryz.func89.trans (congrArg some (by kernel_rfl))
  f20 := ⟨Tryz.f147.name, by decide, Tryz.func147.trans (congrArg some (by kernel_rfl))⟩
  f21 := ⟨Tryz.f148.name, by decide, Tryz.func148.trans (congrArg some (by kernel_rfl))⟩
  f22 := ⟨Tryz.f149.name, by decide, Tryz.func149.trans (congrArg some (by kernel_rfl))⟩
  f23 := ⟨Tryz.f150.name, by decide, Tryz.func150.trans (congrArg some (by kernel_rfl))⟩
  f24 := ⟨Tryz.f151.name, by decide, Tryz.func151.trans (congrArg some (by kernel_rfl))⟩
  f25 := ⟨Tryz.f152.name, by decide, Tryz.func152.trans (congrArg some (by kernel_rfl))⟩
  f26 := ⟨Tryz.f153.name, by decide, Tryz.func153.trans (congrArg some (by kernel_rfl))⟩
  f27 := ⟨Tryz.f154.name, by decide, Tryz.func154.trans (congrArg some (by kernel_rfl))⟩
  f28 := Tryz.func116.trans (congrArg some (by kernel_rfl))
  f29 := Tryz.func117.trans (congrArg some (by kernel_rfl))
  f46 := ⟨Tryz.f162.name, by decide, Tryz.func162.trans (congrArg some (by kernel_rfl))⟩
  f47 := Tryz.func140.trans (congrArg some (by kernel_rfl))
  f48 := Tryz.func141.trans (congrArg some (by kernel_rfl))
  f49 := ⟨Tryz.f163.name, by decide, Tryz.func163.trans (congrArg some (by kernel_rfl))⟩
  f50 := ⟨Tryz.f164.name, by decide, Tryz.func164.trans (congrArg some (by kernel_rfl))⟩
  f57 := ⟨Tryz.f166.name, by decide, Tryz.func166.trans (congrArg some (by kernel_rfl))⟩
  t0 := Tryz.underlying0
  a0 := Tryz.isAgg0
  z0 := Tryz.sizeOf0
  v0 := Tryz.zeroValue0
  t3 := Tryz.underlying3
  a3 := Tryz.isAgg3
  z3 := Tryz.sizeOf3
  v3 := Tryz.zeroValue3
  t4 := Tryz.underlying4
  a4 := Tryz.isAgg4
  z4 := Tryz.sizeOf4
  v4 := Tryz.zeroValue4
  t5 := Tryz.underlying5
  a5 := Tryz.isAgg5
  z5 := Tryz.sizeOf5
  v5 := Tryz.zeroValue5
  t9 := Tryz.underlying9
  a9 := Tryz.isAgg9
  z9 := Tryz.sizeOf9
  v9 := Tryz.zeroValue9
  t22 := Tryz.underlying44
  a22 := Tryz.isAgg44
  z22 := Tryz.sizeOf44
  v22 := Tryz.zeroValue44
  t25 := Tryz.underlying133
  a25 := Tryz.isAgg133
  z25 := Tryz.sizeOf133
  v25 := Tryz.zeroValue133
  t39 := Tryz.underlying132
  a39 := Tryz.isAgg132
  z39 := Tryz.sizeOf132
  v39 := Tryz.zeroValue132
  t45 := Tryz.underlying149
  a45 := Tryz.isAgg149
  z45 := Tryz.sizeOf149
  v45 := Tryz.zeroValue149
  t46 := Tryz.underlying150
  a46 := Tryz.isAgg150
  z46 := Tryz.sizeOf150
  v46 := Tryz.zeroValue150
  t50 := Tryz.underlying111
  a50 := Tryz.isAgg111
  z50 := Tryz.sizeOf111
  v50 := Tryz.zeroValue111
  t53 := Tryz.underlying156
  a53 := Tryz.isAgg156
  z53 := Tryz.sizeOf156
  v53 := Tryz.zeroValue156
  t55 := Tryz.underlying158
  a55 := Tryz.isAgg158
  z55 := Tryz.sizeOf158
  v55 := Tryz.zeroValue158
  t66 := Tryz.underlying173
  a66 := Tryz.isAgg173
  z66 := Tryz.sizeOf173
  v66 := Tryz.zeroValue173
  t70 := Tryz.underlying177
  a70 := Tryz.isAgg177
  z70 := Tryz.sizeOf177
  v70 := Tryz.zeroValue177
  t76 := Tryz.underlying189
  a76 := Tryz.isAgg189
  z76 := Tryz.sizeOf189
  v76 := Tryz.zeroValue189
  t77 := Tryz.underlying190
  a77 := Tryz.isAgg190
  z77 := Tryz.sizeOf190
  v77 := Tryz.zeroValue190 }
def Tryz.sortWd_ren : Go.Shelf.Ren := ⟨fun | 6 => 55 | 15 => 89 | 14 => 88 | 28 => 116 | 29 => 117 | 20 => 108 | 21 => 109 | 22 => 110 | 23 => 111 | 24 => 112 | 25 => 113 | 26 => 114 | 27 => 115 | 46 => 139 | 47 => 140 | 48 => 141 | 49 => 142 | 50 => 143 | 57 => 161 | n => n, fun | 22 => 38 | 24 => 44 | 25 => 95 | 3 => 3 | 39 => 132 | 0 => 0 | 53 => 156 | 55 => 158 | 4 => 4 | 46 => 150 | 45 => 149 | 50 => 111 | 5 => 5 | 9 => 9 | 66 => 173 | 70 => 177 | 76 => 189 | 77 => 190 | n => n, fun | n => n⟩
theorem Tryz.sortWd : Go.Proofs.SlLaysF.n6 Tryz.prog Tryz.sortWd_ren := {
  mixed := by kernel_rfl
  f6 := ⟨Tryz.f55.name, by decide, Tryz.func55.trans (congrArg some (by kernel_rfl))⟩
  f14 := ⟨Tryz.f88.name, by decide, Tryz.func88.trans (congrArg some (by kernel_rfl))⟩
  f15 := Tryz.func89.trans (congrArg some (by kernel_rfl))
  f20 := ⟨Tryz.f108.name, by decide, Tryz.func108.trans (congrArg some (by kernel_rfl))⟩
  f21 := ⟨Tryz.f109.name, by decide, Tryz.func109.trans (congrArg some (by kernel_rfl))⟩
  f22 := ⟨Tryz.f110.name, by decide, Tryz.func110.trans (congrArg some (by kernel_rfl))⟩
  f23 := ⟨Tryz.f111.name, by decide, Tryz.func111.trans (congrArg some (by kernel_rfl))⟩
  f24 := ⟨Tryz.f112.name, by decide, Tryz.func112.trans (congrArg some (by kernel_rfl))⟩
  f25 := ⟨Tryz.f113.name, by decide, Tryz.func113.trans (congrArg some (by kernel_rfl))⟩
  f26 := ⟨Tryz.f114.name, by decide, Tryz.func114.trans (congrArg some (by kernel_rfl))⟩
  f27 := ⟨Tryz.f115.name, by decide, Tryz.func115.trans (congrArg some (by kernel_rfl))⟩
  f28 := Tryz.func116.trans (congrArg some (by kernel_rfl))
  f29 := Tryz.func117.trans (congrArg some (by kernel_rfl))
  f46 := ⟨Tryz.f139.name, by decide, Tryz.func139.trans (congrArg some (by kernel_rfl))⟩
  f47 := Tryz.func140.trans (congrArg some (by kernel_rfl))
  f48 := Tryz.func141.trans (congrArg some (by kernel_rfl))
  f49 := ⟨Tryz.f142.name, by decide, Tryz.func142.trans (congrArg some (by kernel_rfl))⟩
  f50 := ⟨Tryz.f143.name, by decide, Tryz.func143.trans (congrArg some (by kernel_rfl))⟩
  f57 := ⟨Tryz.f161.name, by decide, Tryz.func161.trans (congrArg some (by kernel_rfl))⟩
  t0 := Tryz.underlying0
  a0 := Tryz.isAgg0
  z0 := Tryz.sizeOf0
  v0 := Tryz.zeroValue0
  t3 := Tryz.underlying3
  a3 := Tryz.isAgg3
  z3 := Tryz.sizeOf3
  v3 := Tryz.zeroValue3
  t4 := Tryz.underlying4
  a4 := Tryz.isAgg4
  z4 := Tryz.sizeOf4
  v4 := Tryz.zeroValue4
  t5 := Tryz.underlying5
  a5 := Tryz.isAgg5
  z5 := Tryz.sizeOf5
  v5 := Tryz.zeroValue5
  t9 := Tryz.underlying9
  a9 := Tryz.isAgg9
  z9 := Tryz.sizeOf9
  v9 := Tryz.zeroValue9
  t22 := Tryz.underlying38
  a22 := Tryz.isAgg38
  z22 := Tryz.sizeOf38
  v22 := Tryz.zeroValue38
  a24 := Tryz.isAgg44
  z24 := Tryz.sizeOf44
  t25 := Tryz.underlying95
  a25 := Tryz.isAgg95
  z25 := Tryz.sizeOf95
  v25 := Tryz.zeroValue95
  t39 := Tryz.underlying132
  a39 := Tryz.isAgg132
  z39 := Tryz.sizeOf132
  v39 := Tryz.zeroValue132
  t45 := Tryz.underlying149
  a45 := Tryz.isAgg149
  z45 := Tryz.sizeOf149
  v45 := Tryz.zeroValue149
  t46 := Tryz.underlying150
  a46 := Tryz.isAgg150
  z46 := Tryz.sizeOf150
  v46 := Tryz.zeroValue150
  t50 := Tryz.underlying111
  a50 := Tryz.isAgg111
  z50 := Tryz.sizeOf111
  v50 := Tryz.zeroValue111
  t53 := Tryz.underlying156
  a53 := Tryz.isAgg156
  z53 := Tryz.sizeOf156
  v53 := Tryz.zeroValue156
  t55 := Tryz.underlying158
  a55 := Tryz.isAgg158
  z55 := Tryz.sizeOf158
  v55 := Tryz.zeroValue158
  t66 := Tryz.underlying173
  a66 := Tryz.isAgg173
  z66 := Tryz.sizeOf173
  v66 := Tryz.zeroValue173
  t70 := Tryz.underlying177
  a70 := Tryz.isAgg177
  z70 := Tryz.sizeOf177
  v70 := Tryz.zeroValue177
  t76 := Tryz.underlying189
  a76 := Tryz.isAgg189
  z76 := Tryz.sizeOf189
  v76 := Tryz.zeroValue189
  t77 := Tryz.underlying190
  a77 := Tryz.isAgg190
  z77 := Tryz.sizeOf190
  v77 := Tryz.zeroValue190 }
def Tryz.sortI_ren : Go.Shelf.Ren := ⟨fun | 5 => 76 | 8 => 89 | 7 => 101 | 19 => 116 | 20 => 117 | 10 => 126 | 11 => 127 | 12 => 128 | 13 => 129 | 14 => 130 | 15 => 131 | 16 => 132 | 17 => 133 | 18 => 134 | 30 => 155 | 31 => 140 | 32 => 141 | 33 => 156 | 34 => 157 | 35 => 146 | 40 => 165 | n => n, fun | 23 => 78 | 25 => 3 | 3 => 3 | 32 => 132 | 22 => 78 | 0 => 0 | 44 => 156 | 46 => 158 | 4 => 4 | 36 => 150 | 35 => 149 | 41 => 111 | 5 => 5 | 9 => 9 | 53 => 173 | 57 => 177 | 63 => 189 | 64 => 190 | n => n, fun | n => n⟩
theorem Tryz.sortI : Go.Proofs.SlLaysM.n5 Tryz.prog Tryz.sortI_ren := {
  mixed := by kernel_rfl
  f5 := ⟨Tryz.f76.name, by decide, Tryz.func76.trans (congrArg some (by kernel_rfl))⟩
  f7 := ⟨Tryz.f101.name, by decide, Tryz.func101.trans (congrArg some (by kernel_rfl))⟩
  f8 := Tryz.func89.trans (congrArg some (by kernel_rfl))
  f10 := ⟨Tryz.f126.name, by decide, Tryz.func126.trans (congrArg some (by kernel_rfl))⟩
  f11 := ⟨Tryz.f127.name, by decide, Tryz.func127.trans (congrArg some (by kernel_rfl))⟩
  f12 := ⟨Tryz.f128.name, by decide, Tryz.func128.trans (congrArg some (by kernel_rfl))⟩
  f13 := ⟨Tryz.f129.name, by decide, Tryz.func129.trans (congrArg some (by kernel_rfl))⟩
  f14 := ⟨Tryz.f130.name, by decide, Tryz.func130.trans (congrArg some (by kernel_rfl))⟩
  f15 := ⟨Tryz.f131.name, by decide, Tryz.func131.trans (congrArg some (by kernel_rfl))⟩
  f16 := ⟨Tryz.f132.name, by decide, Tryz.func132.trans (congrArg some (by kernel_rfl))⟩
  f17 := ⟨Tryz.f133.name, by decide, Tryz.func133.trans (congrArg some (by kernel_rfl))⟩
  f18 := ⟨Tryz.f134.name, by decide, Tryz.func134.trans (congrArg some (by kernel_rfl))⟩
  f19 := Tryz.func116.trans (congrArg some (by kernel_rfl))
  f20 := Tryz.func117.trans (congrArg some (by kernel_rfl))
  f30 := ⟨Tryz.f155.name, by decide, Tryz.func155.trans (congrArg some (by kernel_rfl))⟩
  f31 := Tryz.func140.trans (congrArg some (by kernel_rfl))
  f32 := Tryz.func141.trans (congrArg some (by kernel_rfl))
  f33 := ⟨Tryz.f156.name, by decide, Tryz.func156.trans (congrArg some (by kernel_rfl))⟩
  f34 := ⟨Tryz.f157.name, by decide, Tryz.func157.trans (congrArg some (by kernel_rfl))⟩
  f35 := ⟨Tryz.f146.name, by decide, Tryz.func146.trans (congrArg some (by kernel_rfl))⟩
  f40 := ⟨Tryz.f165.name, by decide, Tryz.func165.trans (congrArg some (by kernel_rfl))⟩
  t0 := Tryz.underlying0
  a0 := Tryz.isAgg0
  z0 := Tryz.sizeOf0
  v0 := Tryz.zeroValue0
  t3 := Tryz.underlying3
  a3 := Tryz.isAgg3
  z3 := Tryz.sizeOf3
  v3 := Tryz.zeroValue3
  t4 := Tryz.underlying4
  a4 := Tryz.isAgg4
  z4 := Tryz.sizeOf4
  v4 := Tryz.zeroValue4
  t5 := Tryz.underlying5
  a5 := Tryz.isAgg5
  z5 := Tryz.sizeOf5
  v5 := Tryz.zeroValue5
  t9 := Tryz.underlying9
  a9 := Tryz.isAgg9
  z9 := Tryz.sizeOf9
  v9 := Tryz.zeroValue9
  t22 := Tryz.underlying78
  a22 := Tryz.isAgg78
  z22 := Tryz.sizeOf78
  v22 := Tryz.zeroValue78
  t23 := Tryz.underlying78
  a23 := Tryz.isAgg78
  z23 := Tryz.sizeOf78
  v23 := Tryz.zeroValue78
  t25 := Tryz.underlying3
  a25 := Tryz.isAgg3
  z25 := Tryz.sizeOf3
  v25 := Tryz.zeroValue3
  t32 := Tryz.underlying132
  a32 := Tryz.isAgg132
  z32 := Tryz.sizeOf132
  v32 := Tryz.zeroValue132
  t35 := Tryz.underlying149
  a35 := Tryz.isAgg149
  z35 := Tryz.sizeOf149
  v35 := Tryz.zeroValue149
  t36 := Tryz.underlying150
  a36 := Tryz.isAgg150
  z36 := Tryz.sizeOf150
  v36 := Tryz.zeroValue150
  t41 := Tryz.underlying111
  a41 := Tryz.isAgg111
  z41 := Tryz.sizeOf111
  v41 := Tryz.zeroValue111
  t44 := Tryz.underlying156
  a44 := Tryz.isAgg156
  z44 := Tryz.sizeOf156
  v44 := Tryz.zeroValue156
  t46 := Tryz.underlying158
  a46 := Tryz.isAgg158
  z46 := Tryz.sizeOf158
  v46 := Tryz.zeroValue158
  t53 := Tryz.underlying173
  a53 := Tryz.isAgg173
  z53 := Tryz.sizeOf173
  v53 := Tryz.zeroValue173
  t57 := Tryz.underlying177
  a57 := Tryz.isAgg177
  z57 := Tryz.sizeOf177
  v57 := Tryz.zeroValue177
  t63 := Tryz.underlying189
  a63 := Tryz.isAgg189
  z63 := Tryz.sizeOf189
  v63 := Tryz.zeroValue189
  t64 := Tryz.underlying190
  a64 := Tryz.isAgg190
  z64 := Tryz.sizeOf190
  v64 := Tryz.zeroValue190 }
end Go.Proofs

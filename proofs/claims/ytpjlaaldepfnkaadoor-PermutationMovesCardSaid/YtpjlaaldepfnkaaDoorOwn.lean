/- Rows that a call makes itself: one-cell elements, made whole, stored into, appended to; no program in sight but for two element types' rows. -/
import Derived.Test.YtpjlaaldepfnkaaDoorLib
import Derived.Maps.AppendAt
namespace Go.Proofs.YtpjlaaldepfnkaaDoor
open Go.RowKit

/-- T is a slice of E; E takes one cell and some bytes. -/
def ElemOK (P : Program) (T E : TypeId) (z : Value) (bytes : Nat) : Prop :=
  P.underlying T = some (.slice E) ∧ (P.info? E).map (fun i => (i.zero, i.size, i.bytes)) = some (some z, 1, bytes) ∧ z.cells = #[z]

theorem elemInt : ElemOK Tryd.prog 22 3 (.int .i64 0) 8 := ⟨by kernel_rfl, by kernel_rfl, rfl⟩
theorem elemSl : ElemOK Tryd.prog 46 22 (.slice none 0 0) 24 := ⟨by kernel_rfl, by kernel_rfl, rfl⟩

theorem grownBy_alloc_trans {w w' : World} {o : Obj} {row : Option Nat} (h : (w.alloc o).grownBy w' row) : w.grownBy w' row :=
  (World.grownBy_alloc w o row).trans h

/-- append(s, y), y in a new box. -/
theorem wpApp1 {P : Program} {T E : TypeId} {z : Value} {bytes : Nat} (hE : ElemOK P T E z bytes) (hby : bytes ≤ 64) {w0 : World} {y : Value} {t : TypeId}
    {ops : Array Oper} {rest : List Oper} {o : Oper} {a : Act} {Q : Exit → Act → World → Prop} (hgd : o.guard = none) (s x : Operand)
    (ho : o.op = .call { callee := .builtin .append, args := #[s, x], argTypes := #[T, T] })
    {B : Nat} {v : Value} {n : Nat} {xs : List Value} (hs : a.eval s = v) (hown : w0.ownsRow B E 1 v n xs) (hx : a.eval x = .slice (some ⟨w0.heap.size, 0, none⟩) 1 1)
    (hy : y.oneCell' = true) (hn : n ≤ 1000000000000) (hB : B ≤ w0.heap.size)
    (h : ∀ v' w', w'.ownsRow B E 1 v' (n + 1) (xs ++ [y]) → w0.grownBy w' v.ownBlock → Below B w0 w' → wpList P ops Q rest (a.put o.dst v') w') :
    wpList P ops Q (o :: rest) a (w0.alloc (.cells #[y] t)) := by
  obtain ⟨i0, hi, hz0, hz1, hz2⟩ := info_parts hE.2.1
  refine wpList_append_own (w0.alloc (.cells #[y] t)) hgd s x T ho B E i0 z 1 bytes hE.1 hi hz0 hz1 hz2 (by rw [hE.2.2]; rfl) (by decide) v n xs hs (hown.alloc _) ⟨w0.heap.size, 0, none⟩ 1 1 [y] hx rfl (cell_one_new _ _ _) (by simpa using hy) (by unfold maxLen; omega) ?_ (by simp; omega) fun v' w' h1 h2 _ => ?_
  · have : (n + 1) * bytes ≤ 1000000000001 * 64 := Nat.mul_le_mul (by omega) hby
    omega
  · refine h v' w' h1 (grownBy_alloc_trans h2) ?_
    exact ((Below.refl B w0).alloc hB _).grown h2 (by simp; omega) (fun k hk => (hown.lt k hk).1)

/-- make([]T, n). -/
theorem wpMake {P : Program} {T E : TypeId} {z : Value} {bytes : Nat} (hE : ElemOK P T E z bytes) (hby : bytes ≤ 64) {w : World}
    {ops : Array Oper} {rest : List Oper} {o : Oper} {a : Act} {Q : Exit → Act → World → Prop} (hgd : o.guard = none) (l c : Operand)
    (ho : o.op = .makeSlice T l c) (n : Nat) (hl : a.eval l = .int .i64 (n : Int)) (hc : a.eval c = .int .i64 (n : Int)) (hn : n ≤ 1000000000000) {B : Nat} (hB : B ≤ w.heap.size)
    (h : ∀ w', w'.ownsRow B E 1 (.slice (some ⟨w.heap.size, 0, none⟩) n n) n (List.replicate n z) → w.grownBy w' none → Below w.heap.size w w' → wpList P ops Q rest (a.put o.dst (.slice (some ⟨w.heap.size, 0, none⟩) n n)) w') :
    wpList P ops Q (o :: rest) a w := by
  obtain ⟨i0, hi, hz0, hz1, hz2⟩ := info_parts hE.2.1
  have hmul : bytes * n ≤ 64 * 1000000000000 := Nat.mul_le_mul hby hn
  refine wpList_make_full w hgd l c T ho B E i0 z 1 hE.1 hi hz0 hz1 .i64 .i64 _ _ n hl hc rfl rfl (by rw [hz2]; omega) (by unfold maxLen; omega) hB fun w' h1 h2 => ?_
  rw [hE.2.2, Nat.mul_one, toList_madeCells_one] at h1
  exact h w' h1 h2 ((Below.refl w.heap.size w).grown h2 (Nat.le_refl _) (fun k hk => by cases hk))

/-- A row of ints that was made since block B. -/
def OI (w : World) (B : Nat) (v : Value) (n : Nat) (xs : List Int) : Prop := w.ownsRow B 3 1 v n (xs.map (Value.int .i64))
theorem OI.length {w : World} {B : Nat} {v : Value} {n : Nat} {xs : List Int} (h : OI w B v n xs) : xs.length = n := by have := h.1; simpa using this
theorem OI.keep {w w' : World} {B : Nat} {v : Value} {n : Nat} {xs : List Int} (h : OI w B v n xs) (hb : Below w.heap.size w w') : OI w' B v n xs := by
  refine ⟨h.1, ?_⟩
  rcases h.2 with h' | ⟨g, cap, cur, h1, h2, h3, h4⟩
  · exact .inl h'
  · exact .inr ⟨g, cap, cur, h1, h2, (hb.block g (Array.getElem?_eq_some_iff.1 h3).1).trans h3, h4⟩
theorem OI.base {w : World} {B B' : Nat} {v : Value} {n : Nat} {xs : List Int} (h : OI w B v n xs) (hb : B' ≤ B) : OI w B' v n xs := by
  refine ⟨h.1, ?_⟩
  rcases h.2 with h' | ⟨g, cap, cur, h1, h2, h3⟩
  · exact .inl h'
  · exact .inr ⟨g, cap, cur, h1, by omega, h3⟩
theorem OI.shape {w : World} {B : Nat} {v : Value} {n : Nat} {xs : List Int} (h : OI w B v n xs) : ∃ a c, v = .slice a n c := by
  rcases h.2 with ⟨rfl, rfl⟩ | ⟨g, cap, cur, rfl, _⟩
  · exact ⟨_, _, rfl⟩
  · exact ⟨_, _, rfl⟩
theorem OI.own {w : World} {B n : Nat} {v : Value} {xs : List Int} (h : OI w B v n xs) : OI w 0 v xs.length xs := by obtain rfl := h.length; exact h.base (Nat.zero_le _)
theorem OI.nil (w : World) (B : Nat) : OI w B (.slice none 0 0) 0 [] := World.ownsRow_nil w B 3 1
theorem OI.ints {w : World} {B : Nat} {v : Value} {n : Nat} {xs : List Int} (h : OI w B v n xs) (hn : n ≤ 17592186044416) : Ints w v xs := by
  obtain rfl := h.length
  rcases h.2 with ⟨rfl, h'⟩ | ⟨g, cap, cur, rfl, h2, h3, h4, h5, h6, h7⟩
  · obtain rfl : xs = [] := List.length_eq_zero_iff.1 h'
    exact Ints.nil _ _ _
  · refine ⟨_, cap, g, 0, rfl, fun _ => rfl, fun j hj => ?_, hn⟩
    rw [Nat.zero_add, cell_of_row w g j cur 3 (0, 0) h3]
    have : (cur.toList.take (xs.length * 1))[j]? = some (Value.int .i64 (xs.getD j 0)) := by rw [h7]; simp [hj]
    rw [List.getElem?_take, if_pos (by omega)] at this
    simpa using this
/-- A store into it. -/
theorem OI.store {w : World} {B g n cap : Nat} {xs : List Int} (h : OI w B (.slice (some ⟨g, 0, none⟩) n cap) n xs) (j : Nat) (y : Int) :
    OI (w.setCell ⟨g, j, none⟩ (.int .i64 y)) B (.slice (some ⟨g, 0, none⟩) n cap) n (xs.set j y) ∧ w.grownBy (w.setCell ⟨g, j, none⟩ (.int .i64 y)) (some g) := by
  have := World.ownsRow.stored h j (.int .i64 y)
  unfold OI
  rw [List.map_set]
  exact this
theorem OI.cell {w : World} {B g n cap : Nat} {xs : List Int} (h : OI w B (.slice (some ⟨g, 0, none⟩) n cap) n xs) {j : Nat} (hj : j < n) : w.cell? ⟨g, j, none⟩ = some (.int .i64 (xs.getD j 0)) := by
  have hl := h.length
  rw [World.ownsRow.cellAt h j (by omega)]
  simp [show j < xs.length by omega]
theorem OI.free {w : World} {B g n cap : Nat} {xs : List Int} (h : OI w B (.slice (some ⟨g, 0, none⟩) n cap) n xs) (j : Nat) : w.frozen? ⟨g, j, none⟩ = false := World.ownsRow.frozenAt h j
theorem OI.ge {w : World} {B g n cap : Nat} {xs : List Int} (h : OI w B (.slice (some ⟨g, 0, none⟩) n cap) n xs) : B ≤ g := (h.lt g rfl).1

/-- append(s, y) of ints. -/
theorem wpAppI {w0 : World} {y : Int} {t : TypeId} {ops : Array Oper} {rest : List Oper} {o : Oper} {a : Act} {Q : Exit → Act → World → Prop} (hgd : o.guard = none) (s x : Operand)
    (ho : o.op = .call { callee := .builtin .append, args := #[s, x], argTypes := #[22, 22] })
    {B : Nat} {v : Value} {n : Nat} {xs : List Int} (hs : a.eval s = v) (hown : OI w0 B v n xs) (hx : a.eval x = .slice (some ⟨w0.heap.size, 0, none⟩) 1 1)
    (hn : n ≤ 1000000000000) (hB : B ≤ w0.heap.size)
    (h : ∀ v' w', OI w' B v' (n + 1) (xs ++ [y]) → w0.grownBy w' v.ownBlock → Below B w0 w' → wpList Tryd.prog ops Q rest (a.put o.dst v') w') :
    wpList Tryd.prog ops Q (o :: rest) a (w0.alloc (.cells #[.int .i64 y] t)) :=
  wpApp1 elemInt (by decide) hgd s x ho hs hown hx rfl hn hB fun v' w' h1 h2 h3 => h v' w' (by unfold OI; rw [List.map_append]; exact h1) h2 h3

theorem wpAppI' {w0 : World} {y : Int} {t : TypeId} {ops : Array Oper} {rest : List Oper} {o : Oper} {a : Act} {Q : Exit → Act → World → Prop} (hgd : o.guard = none) (s x : Operand)
    (ho : o.op = .call { callee := .builtin .append, args := #[s, x], argTypes := #[22, 22] })
    {B : Nat} {v : Value} {n sz : Nat} {xs : List Int} (hs : a.eval s = v) (hown : OI w0 B v n xs) (hx : a.eval x = .slice (some ⟨sz, 0, none⟩) 1 1) (hsz : sz = w0.heap.size)
    (hn : n ≤ 1000000000000) (hB : B ≤ w0.heap.size)
    (h : ∀ v' w', OI w' B v' (n + 1) (xs ++ [y]) → w0.grownBy w' v.ownBlock → Below B w0 w' → wpList Tryd.prog ops Q rest (a.put o.dst v') w') :
    wpList Tryd.prog ops Q (o :: rest) a (w0.alloc (.cells #[.int .i64 y] t)) :=
  wpAppI hgd s x ho hs hown (by rw [hx, hsz]) hn hB h

theorem wpMakeI {w : World} {ops : Array Oper} {rest : List Oper} {o : Oper} {a : Act} {Q : Exit → Act → World → Prop} (hgd : o.guard = none) (l c : Operand)
    (ho : o.op = .makeSlice 22 l c) (n : Nat) (hl : a.eval l = .int .i64 (n : Int)) (hc : a.eval c = .int .i64 (n : Int)) (hn : n ≤ 1000000000000) {B : Nat} (hB : B ≤ w.heap.size)
    (h : ∀ w', OI w' B (.slice (some ⟨w.heap.size, 0, none⟩) n n) n (List.replicate n 0) → w.grownBy w' none → Below w.heap.size w w' → wpList Tryd.prog ops Q rest (a.put o.dst (.slice (some ⟨w.heap.size, 0, none⟩) n n)) w') :
    wpList Tryd.prog ops Q (o :: rest) a w :=
  wpMake elemInt (by decide) hgd l c ho n hl hc hn hB fun w' h1 h2 h3 => h w' (by unfold OI; rw [List.map_replicate]; exact h1) h2 h3

end Go.Proofs.YtpjlaaldepfnkaaDoor

/- The map of permutations beside the rows: each keeps the other. -/
import Derived.Test.YtpjlaaldepfnkaaDoorKb
namespace Go.Proofs.YtpjlaaldepfnkaaDoor
open Go.RowKit Go.ChangeMaps Go.MapKept Go.WideMaps

theorem MG.keep {w w' : World} {b : Nat} {g : List (List Int)} (h : MG w b g) (hb : Below w.heap.size w w') : MG w' b g := by
  obtain ⟨es, c, h1, h2⟩ := h
  exact ⟨es, c, (hb.block b (Array.getElem?_eq_some_iff.1 h1).1).trans h1, h2⟩
theorem MG.lt {w : World} {b : Nat} {g : List (List Int)} (h : MG w b g) : b < w.heap.size := by
  obtain ⟨es, c, h1, h2⟩ := h
  exact (Array.getElem?_eq_some_iff.1 h1).1
theorem ownsRow_map {w : World} {B b : Nat} {E : TypeId} {v : Value} {n : Nat} {xs : List Value} {g : List (List Int)} (h : w.ownsRow B E 1 v n xs) (hm : MG w b g) (o : Obj) : (setBlock w b o).ownsRow B E 1 v n xs := by
  refine ⟨h.1, ?_⟩
  rcases h.2 with h' | ⟨k, cap, cur, h1, h2, h3, h4⟩
  · exact .inl h'
  · refine .inr ⟨k, cap, cur, h1, h2, ?_, h4⟩
    obtain ⟨es, c, hb, _⟩ := hm
    have hne : b ≠ k := by rintro rfl; rw [hb] at h3; cases h3
    rw [setBlock, Array.getElem?_setIfInBounds_ne hne]
    exact h3
theorem OI.map {w : World} {B b : Nat} {v : Value} {n : Nat} {xs : List Int} {g : List (List Int)} (h : OI w B v n xs) (hm : MG w b g) (o : Obj) : OI (setBlock w b o) B v n xs := ownsRow_map h hm o
theorem OII.map {w : World} {B b : Nat} {v : Value} {n : Nat} {xss : List (List Int)} {g : List (List Int)} (h : OII w B v n xss) (hm : MG w b g) (o : Obj) : OII (setBlock w b o) B v n xss := by
  obtain ⟨vs, h1, h2, h4, h3⟩ := h
  exact ⟨vs, ownsRow_map h1 hm o, h2, h4, fun j hj => (h3 j hj).map hm o⟩
theorem below_set {w W : World} {B b : Nat} (h : Below B w W) (hb : B ≤ b) (o : Obj) : Below B w (setBlock W b o) :=
  h.trans ⟨rfl, rfl, rfl, by simp [setBlock], fun k hk => by simp only [setBlock]; rw [Array.getElem?_setIfInBounds_ne (by omega)]⟩

/-- append(out, x), beside a map. -/
theorem wpApp1SM {w0 : World} {u : Value} {x : List Int} {t : TypeId} {ops : Array Oper} {rest : List Oper} {o : Oper} {a : Act} {Q : Exit → Act → World → Prop} (hgd : o.guard = none) (s y : Operand)
    (ho : o.op = .call { callee := .builtin .append, args := #[s, y], argTypes := #[46, 46] })
    {B : Nat} {v : Value} {n : Nat} {xss : List (List Int)} (hs : a.eval s = v) (hown : OII w0 B v n xss) (hx : a.eval y = .slice (some ⟨w0.heap.size, 0, none⟩) 1 1)
    (hu : OI w0 0 u x.length x) (hu1 : u.oneCell' = true) {b : Nat} {g : List (List Int)} (hm : MG w0 b g) (hn : n ≤ 1000000000000) (hB : B ≤ w0.heap.size)
    (h : ∀ v' w', OII w' B v' (n + 1) (xss ++ [x]) → Below B w0 w' → MG w' b g → wpList Tryd.prog ops Q rest (a.put o.dst v') w') :
    wpList Tryd.prog ops Q (o :: rest) a (w0.alloc (.cells #[u] t)) := by
  obtain ⟨vs, h1, h2, h4, h3⟩ := hown
  have hvl : vs.length = n := by have := h1.1; omega
  refine wpApp1 elemSl (by decide) hgd s y ho hs h1 hx hu1 hn hB fun v' w' k1 k2 k3 => ?_
  have ki : ∀ B' u' n' x', OI w0 B' u' n' x' → OI w' B' u' n' x' := fun B' u' n' x' hh => hh.other h1 k2
  refine h v' w' ⟨vs ++ [u], k1, by simp [h2], ?_, fun j hj => ?_⟩ k3 ?_
  · intro y hy
    rcases List.mem_append.1 hy with hy | hy
    · exact h4 y hy
    · rw [List.mem_singleton.1 hy]; exact hu1
  · by_cases hjn : j < n
    · rw [getD_append_left' (by omega), getD_append_left' (by omega)]
      exact ki _ _ _ _ (h3 j hjn)
    · obtain rfl : j = n := by omega
      rw [getD_append_right' (by omega), getD_append_right' (by omega), hvl, h2, Nat.sub_self]
      exact ki _ _ _ _ hu
  · obtain ⟨es, c, hb, hr⟩ := hm
    refine ⟨es, c, (k2.block b (Array.getElem?_eq_some_iff.1 hb).1 ?_).trans hb, hr⟩
    rcases h1.2 with ⟨rfl, _⟩ | ⟨k, cap, cur, rfl, _, h5, _⟩
    · intro e; cases e
    · intro e
      simp only [Value.ownBlock, Option.some.injEq] at e
      subst e
      rw [h5] at hb; cases hb
theorem IsP.small {n : Nat} (hn : n ≤ 5) {x : List Int} (h : IsP n x) : SmallN x := by
  intro k
  by_cases hk : k < x.length
  · have := h.2.1 _ (List.getElem_mem hk)
    rw [getD_eq hk]; omega
  · simp [List.getElem?_eq_none (Nat.le_of_not_lt hk)]
end Go.Proofs.YtpjlaaldepfnkaaDoor

/- Texts of this claim, put together: J6 J4 U2 U3 U4 U5 M1 W0 N0 VA DD. -/
import Derived.Test.YtiiiegflobihjaaGreatKChainsw
import Derived.Test.YtiiiegflobihjaaGreatKChainsk
import Derived.Test.YtiiiegflobihjaaGreatKChainsr
import Derived.Test.YtiiiegflobihjaaGreatKChainsj
import Derived.Test.YtiiiegflobihjaaGreatKChainsh
import Derived.Test.YtiiiegflobihjaaGreatKChainsb
import Derived.Lib.Builder
import Derived.Lib.AppendStr
import Derived.Lib.UnsafeStr
import Derived.Lib.Strings
import Derived.Lib.Slices
import Derived.Lib.Walk
import Derived.Laws.Externs
import Derived.Laws.IdiomCopy
import Derived.OwnWalkIn
import Derived.RangeFuncBox
import Derived.Test.YtiiiegflobihjaaGreatKChainsl
import Derived.Deep.OwnRows
import Derived.Test.YtiiiegflobihjaaGreatKChainsn

/- canonical.distinguish: a pair is put into the queue: what stands behind it. -/
namespace Go.Proofs.YtiiiegflobihjaaGreat
open Go.RowKit Go.ChangeMaps Go.MapKept Go.WideMaps

theorem SNP.ne {w : World} {b g : Nat} {K : List (Nat × Nat)} (h : SNP w b K) {cs : Array Value} {t : TypeId} (hg : w.heap[g]? = some (.cells cs t)) : b ≠ g := fun e => by
  obtain ⟨es, clock, hb, _⟩ := h
  rw [e, hg] at hb
  cases hb
end Go.Proofs.YtiiiegflobihjaaGreat

/- canonical.distinguish. -/
namespace Go.Proofs.YtiiiegflobihjaaGreat
open Go.RowKit Go.ChangeMaps Go.MapKept Go.WideMaps

theorem QB.one {ss : List (List (List Int))} {s t : Nat} (hs : s < ss.length) (ht : t < ss.length) : QB ss [((s, t), [])] := ⟨⟨by simp, by simp [hs, ht]⟩, fun j => by
  match j with
  | 0 => simp
  | _ + 1 => simp⟩
end Go.Proofs.YtiiiegflobihjaaGreat

/- What the search for a distinguishing word finds: plain lists. -/
namespace Go.Proofs.YtiiiegflobihjaaGreat

theorem afterI_app {ss : List (List (List Int))} {v : List (List Int)} : ∀ {u : List (List Int)} {s : Nat}, afterI ss (u ++ v) s = if afterI ss u s < 0 then -1 else afterI ss v (afterI ss u s).toNat
  | [], s => by
    rw [List.nil_append, afterI, if_neg (by omega), Int.toNat_natCast]
  | r :: u, s => by
    rw [List.cons_append, afterI, afterI]
    by_cases h : toI r (ss.getD s []) < 0
    · rw [if_pos h, if_pos h, if_pos (by decide)]
    · rw [if_neg h, if_neg h, afterI_app]
theorem afterI_one {ss : List (List (List Int))} {r : List Int} {s : Nat} : afterI ss [r] s = if toI r (ss.getD s []) < 0 then -1 else toI r (ss.getD s []) := by
  rw [afterI]
  by_cases h : toI r (ss.getD s []) < 0
  · rw [if_pos h, if_pos h]
  · rw [if_neg h, if_neg h, afterI]; omega
theorem alw_snoc {ss : List (List (List Int))} {u : List (List Int)} {r : List Int} {s p : Nat} (h : afterI ss u s = (p : Int)) : alw ss (u ++ [r]) s ↔ 0 ≤ toI r (ss.getD p []) := by
  rw [alw_after, afterI_app, h, if_neg (by omega), Int.toNat_natCast, afterI_one]
  split
  · constructor
    · intro h; exact absurd h (by decide)
    · intro h; omega
  · rfl
theorem alw_pre {ss : List (List (List Int))} {u v : List (List Int)} {s : Nat} (h : alw ss (u ++ v) s) : alw ss u s := by
  rw [alw_after] at h ⊢
  rw [afterI_app] at h
  by_cases hu : afterI ss u s < 0
  · rw [if_pos hu] at h; exact absurd h (by decide)
  · omega

section
variable (ss : List (List (List Int))) (s t : Nat)
/-- The queue so far: the first m items were searched, and of item m the rounds D. -/
structure BfsInv (m : Nat) (D : List (List Int)) (Q : List It) : Prop where
  zero : 0 < Q.length ∧ Q.getD 0 ((0, 0), []) = ((s, t), [])
  run : ∀ j, j < Q.length → afterI ss (Q.getD j ((0, 0), [])).2 s = ((Q.getD j ((0, 0), [])).1.1 : Int) ∧ afterI ss (Q.getD j ((0, 0), [])).2 t = ((Q.getD j ((0, 0), [])).1.2 : Int)
  up : ∀ i j, i ≤ j → j < Q.length → (Q.getD i ((0, 0), [])).2.length ≤ (Q.getD j ((0, 0), [])).2.length
  top : m < Q.length → ∀ j, j < Q.length → (Q.getD j ((0, 0), [])).2.length ≤ (Q.getD m ((0, 0), [])).2.length + 1
  old : ∀ i, i < Q.length → ∀ r, (i < m ∧ r ∈ ltr ss (Q.getD i ((0, 0), [])).1.1 (Q.getD i ((0, 0), [])).1.2) ∨ (i = m ∧ r ∈ D) →
    0 ≤ toI r (ss.getD (Q.getD i ((0, 0), [])).1.1 []) ∧ 0 ≤ toI r (ss.getD (Q.getD i ((0, 0), [])).1.2 []) ∧ ∃ y ∈ Q, y.1 = dP ss r (Q.getD i ((0, 0), [])).1 ∧ y.2.length ≤ (Q.getD i ((0, 0), [])).2.length + 1
end
section
variable {ss : List (List (List Int))} {s t : Nat}
theorem ltr_mem (hM : LeadOK ss) {p q : Nat} {r : List Int} : r ∈ ltr ss p q ↔ 0 ≤ toI r (ss.getD p []) ∨ 0 ≤ toI r (ss.getD q []) := by
  rw [ltr, mg_mem, toI_in (lead_mem hM p), toI_in (lead_mem hM q)]
/-- Words that are no longer than what was searched tell nothing apart. -/
theorem BfsInv.reach (hM : LeadOK ss) {m : Nat} {D : List (List Int)} {Q : List It} (h : BfsInv ss s t m D Q) {L : Nat} (hL : ∀ j, j < Q.length → (Q.getD j ((0, 0), [])).2.length < L → j < m) :
    ∀ (N : Nat) (u : List (List Int)), u.length = N → N ≤ L → (∃ y ∈ Q, afterI ss u s = (y.1.1 : Int) ∧ afterI ss u t = (y.1.2 : Int) ∧ y.2.length ≤ u.length) ∨ (¬ alw ss u s ∧ ¬ alw ss u t)
  | 0, u, hu, _ => by
    obtain rfl := List.length_eq_zero_iff.1 hu
    left
    refine ⟨((s, t), []), ?_, rfl, rfl, Nat.le_refl _⟩
    rw [← h.zero.2, getD_eq h.zero.1]
    exact List.getElem_mem _
  | N + 1, u, hu, hN => by
    have hne : u ≠ [] := fun e => by rw [e] at hu; simp at hu
    obtain ⟨u', r, rfl⟩ : ∃ u' r, u = u' ++ [r] := ⟨u.dropLast, u.getLast hne, (List.dropLast_concat_getLast hne).symm⟩
    rw [List.length_append] at hu
    have hu' : u'.length = N := by simpa using hu
    rcases BfsInv.reach hM h hL N u' hu' (by omega) with ⟨y, hy, h1, h2, h3⟩ | ⟨h1, h2⟩
    · obtain ⟨i, hi, hiy⟩ := List.getElem_of_mem hy
      have hgi : Q.getD i ((0, 0), []) = y := by rw [getD_eq hi]; exact hiy
      have him : i < m := hL i hi (by rw [hgi]; omega)
      by_cases hr : r ∈ ltr ss y.1.1 y.1.2
      · obtain ⟨a1, a2, z, hz, a3, a4⟩ := h.old i hi r (.inl ⟨him, by rw [hgi]; exact hr⟩)
        rw [hgi] at a1 a2 a3 a4
        left
        refine ⟨z, hz, ?_, ?_, by rw [List.length_append]; simp; omega⟩
        · rw [afterI_app, h1, if_neg (by omega), Int.toNat_natCast, afterI_one, if_neg (by omega), a3]
          show _ = (((toI r (ss.getD y.1.1 [])).toNat : Nat) : Int)
          omega
        · rw [afterI_app, h2, if_neg (by omega), Int.toNat_natCast, afterI_one, if_neg (by omega), a3]
          show _ = (((toI r (ss.getD y.1.2 [])).toNat : Nat) : Int)
          omega
      · right
        rw [ltr_mem hM, not_or] at hr
        rw [alw_snoc h1, alw_snoc h2]
        exact hr
    · right
      exact ⟨fun hh => h1 (alw_pre hh), fun hh => h2 (alw_pre hh)⟩
theorem BfsInv.same (hM : LeadOK ss) {m : Nat} {D : List (List Int)} {Q : List It} (h : BfsInv ss s t m D Q) {L : Nat} (hL : ∀ j, j < Q.length → (Q.getD j ((0, 0), [])).2.length < L → j < m) {u : List (List Int)} (hu : u.length ≤ L) : alw ss u s ↔ alw ss u t := by
  rcases h.reach hM hL _ u rfl hu with ⟨y, _, h1, h2, _⟩ | ⟨h1, h2⟩
  · rw [alw_after, alw_after, h1, h2]
    exact ⟨fun _ => by omega, fun _ => by omega⟩
  · exact ⟨fun h => absurd h h1, fun h => absurd h h2⟩
end
end Go.Proofs.YtiiiegflobihjaaGreat

/- The canonical form: it is well-formed, has the same words, is minimal and its own form. Plain lists. -/
namespace Go.Proofs.YtiiiegflobihjaaGreat

section
/-- A small, well-formed adversary. -/
def SmA (n : Int) (ss : List (List (List Int))) : Prop := (∀ s ∈ ss, ∀ m ∈ s, m.length = 8) ∧ chkA n ss = 0 ∧ ss.length ≤ 90 ∧ movesN ss ≤ 90
variable {n : Int} {ss : List (List (List Int))}
end
end Go.Proofs.YtiiiegflobihjaaGreat

/- Two adversaries side by side in one: they have the same canonical form exactly if no word tells their first states apart. Plain lists. -/
namespace Go.Proofs.YtiiiegflobihjaaGreat

section
variable {xs ys : List (List (List Int))}
/-- Two small, well-formed adversaries of as many processes. -/
def TwoA (n : Int) (xs ys : List (List (List Int))) : Prop := ((∀ s ∈ xs, ∀ m ∈ s, m.length = 8) ∧ chkA n xs = 0) ∧ ((∀ s ∈ ys, ∀ m ∈ s, m.length = 8) ∧ chkA n ys = 0) ∧ xs.length + ys.length ≤ 90 ∧ movesN xs + movesN ys ≤ 90
variable {n : Int} (hW : TwoA n xs ys)
theorem SmA.cls {ss : List (List (List Int))} (h : SmA n ss) : ClsOK ss := clsOK_of h.1 h.2.1 h.2.2.1 h.2.2.2
theorem SmA.pos {ss : List (List (List Int))} (h : SmA n ss) : 0 < ss.length := h.cls.2.2.1
end
end Go.Proofs.YtiiiegflobihjaaGreat

/- Minimal adversaries and their proofs. Plain lists. -/
namespace Go.Proofs.YtiiiegflobihjaaGreat

/-- The words that lead to the states. -/
def wds (n : Nat) (fs : List (Nat × List Int)) : List (List (List Int)) := fs.foldl (fun W f => W.set (mvTo f.2) (W.getD f.1 [] ++ [rdOf f.2])) (List.replicate n [])
end Go.Proofs.YtiiiegflobihjaaGreat

/- canonical.Prove: the words of the search, and its second function. -/
namespace Go.Proofs.YtiiiegflobihjaaGreat
open Go.RowKit Go.ChangeMaps Go.MapKept

/-- A word in a cell. -/
def EWd (w : World) (cs : List Value) (x : List (List Int)) : Prop := ∃ u, cs = [u] ∧ OwX 51 7 EI w 0 u x.length x
theorem EWd.stab {E : TypeId} (h : 51 ≠ E) : Stab E EWd := fun _ _ _ _ ⟨u, h1, h2⟩ hx => ⟨u, h1, h2.other (EI.stab _) h hx⟩
theorem OwX.same {E : TypeId} {k : Nat} {w w' : World} {B n : Nat} {v : Value} {xs : List (List Int)} (h : OwX E k EI w B v n xs) (hk : ∀ g, v.ownBlock = some g → w'.heap[g]? = w.heap[g]?) : OwX E k EI w' B v n xs := by
  obtain ⟨vs, h1, h2, h3, h4⟩ := h
  refine ⟨vs, ⟨h1.1, ?_⟩, h2, h3, h4⟩
  rcases h1.2 with h' | ⟨g, cap, cur, k1, k2, k3, k4⟩
  · exact .inl h'
  · exact .inr ⟨g, cap, cur, k1, k2, (hk g (by rw [k1]; rfl)).trans k3, k4⟩
/-- What Prove asks of the words. -/
def JP (n bw gw : Nat) (fs : List (Nat × List Int)) (D : Nat → Prop) (W : World) : Prop :=
  D bw ∧ D gw ∧ bw ≠ gw ∧ W.heap[bw]? = some (.cells #[.slice (some ⟨gw, 0, none⟩) n n] 38) ∧
  (∃ cs, W.heap[gw]? = some (.cells cs 44) ∧ cs.size = n ∧ ∀ i, i < n → ∃ u, cs[i]? = some u ∧ OwX 51 7 EI W 0 u ((wds n fs).getD i []).length ((wds n fs).getD i []) ∧ ∀ k, u.ownBlock = some k → D k) ∧
  (0 :: fs.map fun f => mvTo f.2).Nodup ∧ ∀ x ∈ fs.map (fun f => mvTo f.2), x < n
theorem JP.len {n bw gw : Nat} {fs : List (Nat × List Int)} {D : Nat → Prop} {W : World} (h : JP n bw gw fs D W) : fs.length ≤ n := by
  obtain ⟨_, _, _, _, _, h1, h2⟩ := h
  have := nodup_lt_le (List.nodup_cons.1 h1).2 h2
  rwa [List.length_map] at this

end Go.Proofs.YtiiiegflobihjaaGreat

/- The chapter's examples. -/
namespace Go.Proofs.YtiiiegflobihjaaGreat
open Go.RowKit

/-- A row in a block of its own. -/
theorem KSC.row {k : Nat} {w : World} {b : Nat} {cs : Array Value} {t : TypeId} {xs : List (List Int)} (h : w.heap[b]? = some (.cells cs t)) (hl : ∀ x ∈ xs, x.length = k) (hc : cs.toList = xs.flatten.map (Value.int .i64)) (hn : xs.length ≤ 2199023255552) :
    KSC k w (.slice (some ⟨b, 0, none⟩) xs.length xs.length) xs := by
  refine ⟨_, _, b, 0, rfl, fun _ => rfl, fun j hj => ?_, hn, Nat.le_refl _⟩
  have hx : (xs.getD j []).length = k := hl _ (by rw [getD_eq hj]; exact List.getElem_mem hj)
  refine ⟨hx, fun i hi => ?_⟩
  have hi' : i < k := by omega
  have hf := flat_get hl (j := j) (x := xs.getD j []) (by rw [getD_eq hj]; exact List.getElem?_eq_some_iff.2 ⟨hj, rfl⟩)
  rw [cell_of_row _ _ _ _ _ _ h, ← Array.getElem?_toList, hc, List.getElem?_map, Nat.zero_add]
  have h2 : (xs.flatten)[j * k + i]? = some ((xs.getD j []).getD i 0) := by
    have h3 : ((xs.flatten.drop (j * k)).take k)[i]? = some ((xs.getD j []).getD i 0) := by
      rw [hf, List.getElem?_eq_getElem hi, getD_eq hi]
    rw [List.getElem?_take, if_pos hi', List.getElem?_drop] at h3
    exact h3
  rw [h2]; rfl
theorem ha_new {w : World} {o : Obj} {k : Nat} (h : k = w.heap.size) : (w.alloc o).heap[k]? = some o := by rw [h]; exact heap_alloc_new w o
theorem ha_old {w : World} {o o' : Obj} {k : Nat} (h : k < w.heap.size) (hk : w.heap[k]? = some o') : (w.alloc o).heap[k]? = some o' := (Below.heap_alloc w o k h).trans hk
end Go.Proofs.YtiiiegflobihjaaGreat

/- The law's own function split. -/
namespace Go.Proofs.YtiiiegflobihjaaGreat
open Go.RowKit

/-- A slice value of bytes. -/
def U8s (w : World) (v : Value) (ps : List Int) : Prop :=
  ∃ a c b off, v = .slice a ps.length c ∧ (0 < ps.length → a = some ⟨b, off, none⟩) ∧ (∀ j, j < ps.length → w.cell? ⟨b, off + j, none⟩ = some (.int .u8 (ps.getD j 0))) ∧ (∀ x ∈ ps, 0 ≤ x ∧ x ≤ 255) ∧ ps.length ≤ 140737488355328
theorem U8s.keep {w w' : World} {v : Value} {ps : List Int} (h : U8s w v ps) (hb : Below w.heap.size w w') : U8s w' v ps := by
  obtain ⟨a, c, b, off, hv, ha, hc, hl⟩ := h
  exact ⟨a, c, b, off, hv, ha, fun j hj => cell_kept hb (hc j hj), hl⟩
/-- A store of a one-cell element. -/
theorem OwX.store1 {α : Type} {E : TypeId} {El : World → List Value → α → Prop} (hS : Stab E El) {w : World} {B g n cap : Nat} {xs : List α} (h : OwX E 1 El w B (.slice (some ⟨g, 0, none⟩) n cap) n xs) {j : Nat} (hj : j < n) {u : Value} (hu : u.oneCell' = true) {x : α} (hEl : El w [u] x) :
    OwX E 1 El (w.setCell ⟨g, j, none⟩ u) B (.slice (some ⟨g, 0, none⟩) n cap) n (xs.set j x) ∧ w.grownBy (w.setCell ⟨g, j, none⟩ u) (some g) := by
  obtain ⟨vs, h1, h2, h3, h4⟩ := h
  obtain ⟨k1, k2⟩ := World.ownsRow.stored h1 j u
  have hX := KeepX.grown k2 (ownsRow_ty h1)
  have hvl : vs.length = n := by have := h1.1; simpa using this
  refine ⟨⟨vs.set j u, k1, by rw [List.length_set]; exact h2, fun y hy => ?_, fun i y hi => ?_⟩, k2⟩
  · rcases List.mem_or_eq_of_mem_set hy with hy | rfl
    · exact h3 y hy
    · exact hu
  · have hil : i < xs.length := by
      have := (List.getElem?_eq_some_iff.1 hi).1
      rwa [List.length_set] at this
    rw [Nat.mul_one]
    have e1 : ((vs.set j u).drop i).take 1 = [(vs.set j u)[i]'(by rw [List.length_set]; omega)] := by
      rw [List.drop_eq_getElem_cons (by rw [List.length_set]; omega), List.take_succ_cons, List.take_zero]
    rw [e1]
    by_cases e : i = j
    · subst e
      rw [List.getElem?_set_self (by omega)] at hi
      injection hi with hi
      subst hi
      rw [List.getElem_set_self]
      exact hS _ _ _ _ hEl hX
    · rw [List.getElem?_set_ne (fun h => e h.symm)] at hi
      rw [List.getElem_set_ne (fun h => e h.symm)]
      have h5 := h4 i y hi
      rw [Nat.mul_one, List.drop_eq_getElem_cons (by omega), List.take_succ_cons, List.take_zero] at h5
      exact hS _ _ _ _ h5 hX
end Go.Proofs.YtiiiegflobihjaaGreat

/- slices.Compact at rows of ints (as lists of one number). -/
namespace Go.Proofs.YtiiiegflobihjaaGreat
open Go.RowKit

theorem one1 {x : List Int} (h : x.length = 1) : ∃ a, x = [a] := by
  match x, h with
  | [a], _ => exact ⟨a, rfl⟩
theorem CI.all1 {w : World} {b o : Nat} {x0 : Int} (h : CI w b o [x0]) : w.cell? ⟨b, o, none⟩ = some (.int .i64 x0) := h 0 (by simp)
/-- The head of a row, when its tail is set to something else. -/
theorem OwX.setTail1 {w : World} {B g n cap m : Nat} {xs : List (List Int)} (h : OwX 3 1 EI w B (.slice (some ⟨g, 0, none⟩) n cap) n xs) (hm : m ≤ n) (vs : List Value) :
    OwX 3 1 EI (w.setCells g (m * 1) vs) B (.slice (some ⟨g, 0, none⟩) m cap) m (xs.take m) ∧ Below B w (w.setCells g (m * 1) vs) ∧ KeepX 3 w (w.setCells g (m * 1) vs) := by
  have hl := h.length
  obtain ⟨ws, h1, h2, h3, h4⟩ := h
  rcases h1.2 with ⟨h0, _⟩ | ⟨g', cap', cur, he, hB, hg, hc1, hc2, hc3, hc4⟩
  · cases h0
  · injection he with he1 he2 he3
    injection he1 with he1
    injection he1 with he1
    subst he1 he3
    obtain ⟨cur', k1, k2, k3, k4, k5, k6, k7, k8⟩ := setCells_row vs (m * 1) w cur hg
    have hmn : m * 1 ≤ n * 1 := Nat.mul_le_mul_right _ hm
    have hwl : ws.length = n * 1 := h1.1
    have hws : cur'.toList.take (m * 1) = ws.take (m * 1) := by
      rw [k3, ← hc4, List.take_take, Nat.min_eq_left hmn]
    refine ⟨⟨ws.take (m * 1), ⟨by rw [List.length_take]; omega, .inr ⟨g, cap, cur', rfl, hB, k1, by omega, hc2, by rw [k2]; exact hc3, hws⟩⟩, by rw [List.length_take]; omega, fun u hu => h3 u (List.mem_of_mem_take hu), fun j x hj => ?_⟩, ⟨k6, k7, k8, by rw [k5]; exact Nat.le_refl _, fun k hk => k4 k (by omega)⟩, fun k cs t hk ht => k4 k fun e => ?_⟩
    · rw [List.getElem?_take] at hj
      split at hj
      · rename_i hjm
        have := h4 j x hj
        have hjm7 : j * 1 + 1 ≤ m * 1 := by rw [← Nat.succ_mul]; exact Nat.mul_le_mul_right _ hjm
        show _ = _
        rw [List.drop_take, List.take_take, Nat.min_eq_left (by omega)]
        exact this
      · cases hj
    · subst e
      rw [hg] at hk
      injection hk with hk
      injection hk with _ hk
      exact ht hk.symm
end Go.Proofs.YtiiiegflobihjaaGreat

/- slices.Compact of ints: it writes into its own block alone. -/
namespace Go.Proofs.YtiiiegflobihjaaGreat
open Go.RowKit

/-- Nothing changes but block g. -/
def GrG (g : Nat) (w w' : World) : Prop := w.grownBy w' (some g)
theorem GrG.below {g : Nat} {w w' : World} (h : Below w.heap.size w w') : GrG g w w' := ⟨h.os, h.tape, h.output, h.size, fun k hk _ => h.block k hk⟩
theorem GrG.trans {g : Nat} {a b c : World} (h : GrG g a b) (k : GrG g b c) : GrG g a c := World.grownBy.trans h k
theorem GrG.setCell {g : Nat} {w : World} {p : Addr} (hp : p.block = g) (v : Value) : GrG g w (w.setCell p v) := by
  have h := Below.setCell (p := p) (Below.refl 0 w) (Nat.zero_le _) v
  exact ⟨h.os, h.tape, h.output, h.size, fun k hk hne => Below.heap_setCell w p v k (fun e => hne (by rw [e, hp]))⟩
theorem OwX.setTail1G {w : World} {B g n cap m : Nat} {xs : List (List Int)} (h : OwX 3 1 EI w B (.slice (some ⟨g, 0, none⟩) n cap) n xs) (hm : m ≤ n) (vs : List Value) :
    OwX 3 1 EI (w.setCells g (m * 1) vs) B (.slice (some ⟨g, 0, none⟩) m cap) m (xs.take m) ∧ Below B w (w.setCells g (m * 1) vs) ∧ GrG g w (w.setCells g (m * 1) vs) := by
  obtain ⟨h1, h2, _⟩ := OwX.setTail1 h hm vs
  refine ⟨h1, h2, ?_⟩
  obtain ⟨ws, k1, _⟩ := h
  rcases k1.2 with ⟨h0, _⟩ | ⟨g', cap', cur, he, hB, hg, hc1, hc2, hc3, hc4⟩
  · cases h0
  · injection he with he1 he2 he3
    injection he1 with he1
    injection he1 with he1
    subst he1 he3
    obtain ⟨cur', k1, k2, k3, k4, k5, k6, k7, k8⟩ := setCells_row vs (m * 1) w cur hg
    exact ⟨k6, k7, k8, by rw [k5]; exact Nat.le_refl _, fun k _ hk => k4 k (fun e => hk (by rw [e]))⟩
set_option maxRecDepth 100000 in
set_option maxHeartbeats 3200000 in
theorem compactIntG {w : World} {B g n cap : Nat} {xs : List (List Int)} (h : OwX 3 1 EI w B (.slice (some ⟨g, 0, none⟩) n cap) n xs) (hn : n ≤ 1000) :
    Calls Tryz.prog 77 #[.slice (some ⟨g, 0, none⟩) n cap] w fun e w' => ∃ m, e = .returned (.slice (some ⟨g, 0, none⟩) m cap) ∧ OwX 3 1 EI w' B (.slice (some ⟨g, 0, none⟩) m cap) m (cmpc xs) ∧ Below B w w' ∧ GrG g w w' := by
  have hl := h.length
  have hB : B ≤ g := by
    obtain ⟨_, h1, _⟩ := h
    exact (World.ownsRow.lt h1 g rfl).1
  have hnc : n ≤ cap ∧ (cap : Int) ≤ 9223372036854775807 := by
    obtain ⟨_, h1, _⟩ := h
    rcases h1.2 with ⟨h0, _⟩ | ⟨g', cap', cur, he, _, _, hc1, hc2, _⟩
    · cases h0
    · injection he with _ _ he3
      subst he3
      unfold maxLen at hc2
      exact ⟨hc1, by omega⟩
  obtain ⟨hnc1, hnc2⟩ := hnc
  have hxl : ∀ j, j < n → (xs.getD j []).length = 1 := fun j hj => (h.intCells hj).1
  have hcells := Lib.hid (fun j (hj : j < n) => OwX.intCells h hj)
  have hh := Lib.hid h
  have hlh := Lib.hid hl
  have hxlh := Lib.hid hxl
  clear h hl hxl
  have hfin0 : Hid (∀ q, cmpc (xs.take n) = xs.take n → OwX 3 1 EI (w.drewN q) B (.slice (some ⟨g, 0, none⟩) n cap) n (cmpc xs)) := fun q hq => by
    rw [List.take_of_length_le (by rw [hlh.out]; exact Nat.le_refl _)] at hq
    rw [hq]
    exact hh.out.keep (EI.stab _) (below_drewN (Below.refl _ w) q)
  have hBw : Hid (∀ q, Below B w (w.drewN q) ∧ GrG g w (w.drewN q)) := fun q => ⟨below_drewN (Below.refl _ w) q, GrG.below (below_drewN (Below.refl _ w) q)⟩
  by_cases h2 : n < 2
  · have hall : Hid (cmpc (xs.take n) = xs.take n) := by
      show _ = _
      have : n = 0 ∨ n = 1 := by omega
      rcases this with rfl | rfl
      · simp [cmpc]
      · match xs, hlh.out with
        | [x], _ => simp [cmpc]
    have hd : decide ((n : Int) < 2) = true := decide_eq_true (by omega)
    go_enter Tryz.func77, Tryz.ntmps77
    go_wp2
    go_ret
    exact ⟨n, rfl, hfin0.out 0 hall.out, (hBw.out 0).1, (hBw.out 0).2⟩
  · have hd : decide ((n : Int) < 2) = false := decide_eq_false (by omega)
    have h1 : Hid (cmpc (xs.take (0 + 1)) = xs.take (0 + 1)) := by
      show _ = _
      match xs, hlh.out with
      | x :: r, _ => simp [cmpc]
      | [], h => simp at h; omega
    go_enter Tryz.func77, Tryz.ntmps77
    go_wp2_with fail
    go_loopg [3] n (fun f kv wr => ∃ p q : Nat, kv = .int .i64 ((p : Int) + 1) ∧ p + 1 ≤ n ∧ n ≤ p + 1 + f ∧ wr = w.drewN q ∧ Hid (cmpc (xs.take (p + 1)) = xs.take (p + 1)))
    case atStart => exact ⟨0, 0, rfl, by omega, by omega, rfl, h1⟩
    case round =>
      clear h1
      obtain ⟨p, q, rfl, hp, hpf, rfl, hc⟩ := hrel
      by_cases hlt : p + 1 < n
      · obtain ⟨f, rfl⟩ : ∃ f, gk = f + 1 := ⟨gk - 1, by omega⟩
        obtain ⟨hx7, hxc⟩ := hcells.out (p + 1) hlt
        obtain ⟨hy7, hyc⟩ := hcells.out p (by omega)
        rw [Nat.mul_one] at hxc hyc
        obtain ⟨x, hx⟩ : ∃ x, xs.getD (p + 1) [] = x := ⟨_, rfl⟩
        obtain ⟨y, hy⟩ : ∃ y, xs.getD p [] = y := ⟨_, rfl⟩
        have htk := cmpc_take (xs := xs) (m := p) (by rw [hlh.out]; exact hlt)
        rw [hx, hy] at htk
        rw [hx] at hx7 hxc
        rw [hy] at hy7 hyc
        obtain ⟨x0, rfl⟩ := one1 hx7
        obtain ⟨y0, rfl⟩ := one1 hy7
        have c0 := hxc.all1
        have d0 := hyc.all1
        have hix1 : (p : Int) + 1 < (n : Int) := by omega
        have hix0 : (0 : Int) ≤ (p : Int) := by omega
        have hix2 : (0 : Int) ≤ (p : Int) + 1 := by omega
        have hix3 : (p : Int) < (n : Int) := by omega
        have hwr : IntKind.i64.wrap ((p : Int) + 1 - 1) = (p : Int) := by rw [show (p : Int) + 1 - 1 = (p : Int) by omega]; exact IntWalk.i64_in _ (by omega)
        have htn : ((p : Int) + 1).toNat = p + 1 := by omega
        have hty := hy
        have hxt := hx
        clear hxc hyc hx7 hy7 hx hy
        by_cases he : [x0] = [y0]
        · have hE : (x0 == y0) = true := by simpa using he
          have hE2 : (x0 != y0) = false := by simpa using he
          rw [if_pos he.symm, hc.out] at htk
          have htk := Lib.hid htk
          replace hty := Lib.hid hty
          clear he hc hxt
          go_wp2_with fail
          go_quiet (fail)
          go_wp2_with fail
          obtain ⟨N2, hN2⟩ : ∃ N2, n - (p + 1) = N2 := ⟨_, rfl⟩
          obtain ⟨C2, hC2⟩ : ∃ C2, cap - (p + 1) = C2 := ⟨_, rfl⟩
          rw [hN2, hC2]
          have hnN : n = p + 1 + N2 := by omega
          replace hC2 := Lib.hid hC2
          replace hN2 := Lib.hid hN2
          have hnNh := Lib.hid hnN
          have hN2i : (1 : Int) ≤ (N2 : Int) := by omega
          have hs0 : Hid (xs.take (p + 1) = cmpc (xs.take (p + 1 + (0 + 1)))) := htk.out.symm
          have hO0 : OwX 3 1 EI (w.drewN (q + nq)) B (.slice (some ⟨g, 0, none⟩) n cap) n xs := hh.out
          have hb0 : Below B w (w.drewN (q + nq)) := below_drewN (Below.refl _ w) _
          have hk0 : GrG g w (w.drewN (q + nq)) := GrG.below (below_drewN (Below.refl _ w) _)
          have hk0h := Lib.hid hk0
          have hsame : Hid (∀ j, p + 1 ≤ j → xs.getD j [] = xs.getD j []) := fun _ _ => rfl
          clear hnN c0 d0 hE hE2 hix1 hix2 htn hwr hk0
          go_loopg [3, 5] N2 (fun f kv rv wr => ∃ (kk r : Nat) (cs : List (List Int)), kv = .int .i64 ((kk : Nat) : Int) ∧ rv = .int .i64 ((r : Int) + 1) ∧ r + 1 ≤ N2 ∧ N2 ≤ r + 1 + f ∧ kk < p + 1 + (r + 1) ∧ OwX 3 1 EI wr B (.slice (some ⟨g, 0, none⟩) n cap) n cs ∧ Hid (cs.take kk = cmpc (xs.take (p + 1 + (r + 1)))) ∧ Hid (∀ j, kk ≤ j → cs.getD j [] = xs.getD j []) ∧ Below B w wr ∧ Hid (GrG g w wr))
          case atStart => exact ⟨p + 1, 0, xs, by go_num, rfl, by omega, by omega, by omega, hO0, hs0, hsame, hb0, hk0h⟩
          case round =>
            clear hO0 hs0 hsame hb0 hk0h
            obtain ⟨kk, r, cs, rfl, rfl, hr, hrf, hkk, hO, htkk, hsm, hbw, hkx⟩ := hrel
            have hcl := hO.length
            have hOh := Lib.hid hO
            have hnn := hnNh.out
            by_cases hltr : r + 1 < N2
            · obtain ⟨f, rfl⟩ : ∃ f, gk = f + 1 := ⟨gk - 1, by omega⟩
              obtain ⟨hx7, hxc⟩ := hO.intCells (j := p + 1 + (r + 1)) (by omega)
              obtain ⟨hy7, hyc⟩ := hO.intCells (j := p + 1 + r) (by omega)
              obtain ⟨hz7, hzc⟩ := hO.intCells (j := kk) (by omega)
              rw [hsm.out _ (by omega)] at hx7 hxc
              rw [hsm.out _ (by omega)] at hy7 hyc
              rw [Nat.mul_one] at hxc
              rw [Nat.mul_one] at hyc
              rw [Nat.mul_one] at hzc
              obtain ⟨x, hx⟩ : ∃ x, xs.getD (p + 1 + (r + 1)) [] = x := ⟨_, rfl⟩
              obtain ⟨y, hy⟩ : ∃ y, xs.getD (p + 1 + r) [] = y := ⟨_, rfl⟩
              obtain ⟨z, hz⟩ : ∃ z, cs.getD kk [] = z := ⟨_, rfl⟩
              have htt := cmpc_take (xs := xs) (m := p + 1 + r) (by rw [hlh.out]; omega)
              have hput := compact_put (xs := xs) (cs := cs) (m := p + 1 + (r + 1)) (kk := kk) (x := x) (by rw [hcl, hlh.out]) hkk (by rw [hlh.out]; omega) htkk.out hsm.out hx
              rw [show p + 1 + r + 1 = p + 1 + (r + 1) by omega, hx, hy] at htt
              rw [show p + 1 + (r + 1) - 1 = p + 1 + r by omega, hy] at hput
              rw [hx] at hx7 hxc
              rw [hy] at hy7 hyc
              rw [hz] at hz7 hzc
              obtain ⟨x0, rfl⟩ := one1 hx7
              obtain ⟨y0, rfl⟩ := one1 hy7
              obtain ⟨z0, rfl⟩ := one1 hz7
              have c0 := hxc.all1
              have d0 := hyc.all1
              have e0 := hzc.all1
              have hi1 : (r : Int) + 1 < (N2 : Int) := by omega
              have hi2 : (0 : Int) ≤ (r : Int) + 1 := by omega
              have hi3 : (0 : Int) ≤ (r : Int) := by omega
              have hi4 : (r : Int) < (N2 : Int) := by omega
              have hi5 : (kk : Int) < (n : Int) := by omega
              have hN2b : (N2 : Int) ≤ 1000 := by omega
              have hkkb : (kk : Int) ≤ 1000 := by omega
              have htn : ((r : Int) + 1).toNat = r + 1 := by omega
              have hwr : IntKind.i64.wrap ((r : Int) + 1 - 1) = (r : Int) := by rw [show (r : Int) + 1 - 1 = (r : Int) by omega]; exact IntWalk.i64_in _ (by omega)
              have hwr2 : IntKind.i64.wrap (r : Int) = (r : Int) := IntWalk.i64_in _ (by omega)
              clear hxc hyc hzc hx7 hy7 hz7 hx hy hz hO
              by_cases he : [x0] = [y0]
              · have hE : (x0 == y0) = true := by simpa using he
                have hE2 : (x0 != y0) = false := by simpa using he
                rw [if_pos he.symm] at htt
                have htt2 : Hid (cs.take kk = cmpc (xs.take (p + 1 + (r + 1 + 1)))) := htkk.out.trans htt.symm
                clear he htt hput
                replace hnn := Lib.hid hnn
                replace hcl := Lib.hid hcl
                go_wp2_with fail
                go_quiet (fail)
                clear hwr hwr2 htn
                go_wp2_with fail
                go_roundg f
                case measure => omega
                case rel => exact ⟨kk, r + 1, cs, rfl, by go_num, by omega, by omega, by omega, hOh.out, htt2, hsm, below_drewN hbw _, hkx.out.trans (GrG.below (below_drewN (Below.refl _ _) _))⟩
              · have hE : (x0 == y0) = false := by simpa using he
                have hE2 : (x0 != y0) = true := by simpa using he
                obtain ⟨hp1, hp2⟩ := hput (fun h => he h.symm)
                have hp1h := Lib.hid hp1
                have hp2h := Lib.hid hp2
                have hst : Hid (∀ d, OwX 3 1 EI ((wr.drewN d).setCell ⟨g, kk, none⟩ (.int .i64 x0)) B (.slice (some ⟨g, 0, none⟩) n cap) n (cs.set kk [x0])) := fun d => (OwX.store1 (EI.stab _) (OwX.keep (EI.stab _) hOh.out (below_drewN (Below.refl _ _) d)) (by omega) (u := .int .i64 x0) rfl (x := [x0]) rfl).1
                have hst3 : Hid (∀ d, Below B w ((wr.drewN d).setCell ⟨g, kk, none⟩ (.int .i64 x0))) := fun d => Below.setCell (p := ⟨g, kk, none⟩) (below_drewN hbw d) hB _
                have hst2 : Hid (∀ d, GrG g w ((wr.drewN d).setCell ⟨g, kk, none⟩ (.int .i64 x0))) := fun d => by
                  exact (hkx.out.trans (GrG.below (below_drewN (Below.refl _ _) d))).trans (GrG.setCell (by rfl) _)
                have hfz : ∀ j, wr.frozen? ⟨g, j, none⟩ = false := fun j => hOh.out.frozen j
                have f0 := hfz kk
                clear he htt hput hp1 hp2 hfz
                replace hnn := Lib.hid hnn
                replace hcl := Lib.hid hcl
                go_wp2_with fail
                go_quiet (fail)
                clear hwr hwr2 htn
                go_wp2_with fail
                go_roundg f
                case measure => omega
                case rel => exact ⟨kk + 1, r + 1, cs.set kk [x0], by go_num, by go_num, by omega, by omega, by omega, hst.out _, hp1h, hp2h, hst3.out _, hst2.out _⟩
            · have hrN : r + 1 = N2 := by omega
              have hfz : ∀ j, wr.frozen? ⟨g, j, none⟩ = false := fun j => hO.frozen j
              have hcs : ∀ j, j < n - kk → (wr.cell? ⟨g, kk + j, none⟩).isSome = true := fun j hj => by
                obtain ⟨k7, kc⟩ := hO.intCells (j := kk + j) (by omega)
                have h1 := kc 0 (by rw [k7]; decide)
                rw [Nat.mul_one, Nat.add_zero] at h1
                rw [h1]; rfl
              have hcl7 := fun ty => Lib.run_clear_slice (P := Tryz.prog) wr 78 3 ty (.int .i64 0) (by kernel_rfl) (fun w => by kernel_rfl) rfl rfl g kk (n - kk) (cap - kk) (by omega) hcs (fun j _ => hfz _)
              obtain ⟨Z, hZ⟩ : ∃ Z, List.replicate (n - kk) (Value.int .i64 0) = Z := ⟨_, rfl⟩
              simp only [hZ] at hcl7
              obtain ⟨t1, t2, t3⟩ := OwX.setTail1G hO (m := kk) (by omega) Z
              rw [htkk.out, List.take_of_length_le (by rw [hlh.out]; omega)] at t1
              rw [Nat.mul_one] at t1 t2 t3
              obtain ⟨W2, hW2⟩ : ∃ W2, wr.setCells g kk Z = W2 := ⟨_, rfl⟩
              rw [hW2] at t1 t2 t3
              simp only [hW2] at hcl7
              have hfin := Lib.hid t1
              have hkf := Lib.hid (hkx.out.trans t3)
              have hbf := hbw.trans t2
              have hk1 : (kk : Int) ≤ (n : Int) := by omega
              have hkn : kk < n := by omega
              have hkc : kk < cap := by omega
              have hk2 : (kk : Int) ≤ (cap : Int) := by omega
              have hge : decide ((r : Int) + 1 < (N2 : Int)) = false := decide_eq_false (by omega)
              clear t1 t2 t3 hO hOh hfz hcs hZ hW2 htkk hkx hsm
              replace hnn := Lib.hid hnn
              replace hcl := Lib.hid hcl
              replace hrN := Lib.hid hrN
              go_wp2
              go_ret
              exact ⟨kk, rfl, hfin.out, hbf, hkf.out⟩
        · have hE : (x0 == y0) = false := by simpa using he
          have hE2 : (x0 != y0) = true := by simpa using he
          rw [if_neg (fun h => he h.symm), hc.out] at htk
          have htk2 : Hid (cmpc (xs.take (p + 1 + 1)) = xs.take (p + 1 + 1)) := by show _ = _; rw [htk, ← hxt]; exact (take_snoc (by rw [hlh.out]; exact hlt) []).symm
          clear he hc hty htk hxt
          go_wp2_with fail
          go_quiet (fail)
          go_wp2_with fail
          go_roundg f
          case measure => omega
          case rel => exact ⟨p + 1, _, by go_num, by omega, by omega, (by first | exact rfl | exact World.drewN_drewN _ _ _), htk2⟩
      · obtain rfl : n = p + 1 := by omega
        have hfin := Lib.hid (hfin0.out q hc.out)
        obtain ⟨b1, b2⟩ := hBw.out q
        have b2h := Lib.hid b2
        clear hc b2
        go_wp2_with fail
        go_ret
        exact ⟨p + 1, by first | rfl | (congr 2; done), hfin.out, b1, b2h.out⟩
end Go.Proofs.YtiiiegflobihjaaGreat

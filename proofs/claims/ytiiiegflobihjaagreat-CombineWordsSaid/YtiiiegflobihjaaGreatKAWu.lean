/- Texts of this claim, put together: EC L0 J3 J6 J4 U1 U2 U3 U4 U5 M1 M2 W0 DB. -/
import Derived.Test.YtiiiegflobihjaaGreatKAWp
import Derived.Test.YtiiiegflobihjaaGreatKAWt
import Derived.Test.YtiiiegflobihjaaGreatKAWj
import Derived.Test.YtiiiegflobihjaaGreatKAWk
import Derived.Test.YtiiiegflobihjaaGreatKAWl
import Derived.Test.YtiiiegflobihjaaGreatKAWn
import Derived.Test.YtiiiegflobihjaaGreatKAWm
import Derived.Test.YtiiiegflobihjaaGreatKAWh
import Derived.Test.YtiiiegflobihjaaGreatKAWb
import Derived.Lib.Builder
import Derived.Lib.AppendStr
import Derived.Lib.UnsafeStr
import Derived.Lib.Strings
import Derived.Lib.Slices
import Derived.Lib.Walk
import Derived.Laws.Externs
import Derived.Laws.IdiomCopy
import Derived.OwnWalkIn
import Derived.RangeFuncBox
import Derived.Test.YtiiiegflobihjaaGreatKAWa
import Derived.WideKeyEntry

/- The reference's stages: same, place. -/
namespace Go.Proofs.YtiiiegflobihjaaGreat
open Go.RowKit

theorem box4 {w : World} {b : Nat} {u0 u1 u2 u3 : Value} {t : TypeId} (h : w.heap[b]? = some (.cells #[u0, u1, u2, u3] t)) : w.cell? ⟨b, 0, none⟩ = some u0 ∧ w.cell? ⟨b, 1, none⟩ = some u1 ∧ w.cell? ⟨b, 2, none⟩ = some u2 ∧ w.cell? ⟨b, 3, none⟩ = some u3 := ⟨box_cell h rfl, box_cell h rfl, box_cell h rfl, box_cell h rfl⟩

end Go.Proofs.YtiiiegflobihjaaGreat

/- The reference: letters. -/
namespace Go.Proofs.YtiiiegflobihjaaGreat
open Go.RowKit

/-- A slice of structs of k ints, within its capacity. -/
def KSC (k : Nat) (w : World) (v : Value) (xs : List (List Int)) : Prop :=
  ∃ a c b off, v = .slice a xs.length c ∧ (0 < xs.length → a = some ⟨b, off, none⟩) ∧ CK k w b off xs ∧ xs.length ≤ 2199023255552 ∧ xs.length ≤ c
theorem KSC.ks {k : Nat} {w : World} {v : Value} {xs : List (List Int)} (h : KSC k w v xs) : KS k w v xs := by
  obtain ⟨a, c, b, off, h1, h2, h3, h4, _⟩ := h
  exact ⟨a, c, b, off, h1, h2, h3, h4⟩
theorem KSC.keep {k : Nat} {w w' : World} {v : Value} {xs : List (List Int)} (h : KSC k w v xs) (hb : Below w.heap.size w w') : KSC k w' v xs := by
  obtain ⟨a, c, b, off, h1, h2, h3, h4⟩ := h
  exact ⟨a, c, b, off, h1, h2, h3.keep hb, h4⟩
/-- An adversary whose rows are within their capacities. -/
def AdvC (w : World) (v : Value) (n : Int) (ss : List (List (List Int))) : Prop :=
  ∃ a c b off, v = .agg #[.int .i64 n, .slice a ss.length c] ∧ (0 < ss.length → a = some ⟨b, off, none⟩) ∧ (∀ j, j < ss.length → ∃ u, w.cell? ⟨b, off + j, none⟩ = some u ∧ KSC 8 w u (ss.getD j [])) ∧ ss.length ≤ 5864062014805
theorem AdvC.adv {w : World} {v : Value} {n : Int} {ss : List (List (List Int))} (h : AdvC w v n ss) : AdvV w v n ss := by
  obtain ⟨a, c, b, off, h1, h2, h3, h4⟩ := h
  exact ⟨_, h1, a, c, b, off, rfl, h2, fun j hj => let ⟨u, k1, k2⟩ := h3 j hj; ⟨u, k1, k2.ks⟩, h4⟩
theorem AdvC.keep {w w' : World} {v : Value} {n : Int} {ss : List (List (List Int))} (h : AdvC w v n ss) (hb : Below w.heap.size w w') : AdvC w' v n ss := by
  obtain ⟨a, c, b, off, h1, h2, h3, h4⟩ := h
  exact ⟨a, c, b, off, h1, h2, fun j hj => let ⟨u, k1, k2⟩ := h3 j hj; ⟨u, cell_kept hb k1, k2.keep hb⟩, h4⟩
end Go.Proofs.YtiiiegflobihjaaGreat

/- canonical.distinguish: pairs of states as keys, items of the queue. -/
namespace Go.Proofs.YtiiiegflobihjaaGreat
open Go.RowKit Go.ChangeMaps Go.MapKept Go.WideMaps

def prV (p : Nat × Nat) : Value := .agg #[.int .i64 (p.1 : Int), .int .i64 (p.2 : Int)]
def SmP (p : Nat × Nat) : Prop := p.1 ≤ 1000000 ∧ p.2 ≤ 1000000
/-- The pairs that were seen. -/
def SNP (w : World) (b : Nat) (o : List (Nat × Nat)) : Prop := MX prV Value.bool w b (o.map fun x => (x, true))
theorem SNP.keep {w w' : World} {b : Nat} {o : List (Nat × Nat)} (h : SNP w b o) (hb : w'.heap[b]? = w.heap[b]?) : SNP w' b o := MX.keep h hb
theorem SNP.lt {w : World} {b : Nat} {o : List (Nat × Nat)} (h : SNP w b o) : b < w.heap.size := MX.lt h
/-- An item of the queue: a pair and the word that leads to it. -/
def EIt (w : World) (cs : List Value) (x : It) : Prop := ∃ u, cs = [.int .i64 (x.1.1 : Int), .int .i64 (x.1.2 : Int), u] ∧ OwX 51 7 EI w 0 u x.2.length x.2
theorem EIt.stab {E : TypeId} (h : 51 ≠ E) : Stab E EIt := fun _ _ _ _ ⟨u, h1, h2⟩ hx => ⟨u, h1, h2.other (EI.stab _) h hx⟩
/-- The bounds of the queue. -/
def QB (ss : List (List (List Int))) (Q : List It) : Prop := QOK ss Q ∧ ∀ j, (Q.getD j ((0, 0), [])).2.length ≤ j
theorem QB.len {ss : List (List (List Int))} {Q : List It} (h : QB ss Q) (hl : ss.length ≤ 90) : Q.length ≤ 8100 := by
  have := pairs_le h.1.1 fun p hp => by
    obtain ⟨t, ht, rfl⟩ := List.mem_map.1 hp
    exact h.1.2 t ht
  rw [List.length_map] at this
  have h2 : ss.length * ss.length ≤ 90 * 90 := Nat.mul_le_mul hl hl
  omega
theorem QB.sm {ss : List (List (List Int))} {Q : List It} (h : QB ss Q) (hl : ss.length ≤ 90) : ∀ y ∈ Q.map Prod.fst, SmP y := fun y hy => by
  obtain ⟨t, ht, rfl⟩ := List.mem_map.1 hy
  obtain ⟨h1, h2⟩ := h.1.2 t ht
  exact ⟨by omega, by omega⟩

end Go.Proofs.YtiiiegflobihjaaGreat

/- canonical.distinguish: a pair is put into the queue: what stands behind it. -/
namespace Go.Proofs.YtiiiegflobihjaaGreat
open Go.RowKit Go.ChangeMaps Go.MapKept Go.WideMaps

theorem SNP.ne {w : World} {b g : Nat} {K : List (Nat × Nat)} (h : SNP w b K) {cs : Array Value} {t : TypeId} (hg : w.heap[g]? = some (.cells cs t)) : b ≠ g := fun e => by
  obtain ⟨es, clock, hb, _⟩ := h
  rw [e, hg] at hb
  cases hb
end Go.Proofs.YtiiiegflobihjaaGreat

/- canonical.distinguish. -/
namespace Go.Proofs.YtiiiegflobihjaaGreat
open Go.RowKit Go.ChangeMaps Go.MapKept Go.WideMaps

theorem QB.one {ss : List (List (List Int))} {s t : Nat} (hs : s < ss.length) (ht : t < ss.length) : QB ss [((s, t), [])] := ⟨⟨by simp, by simp [hs, ht]⟩, fun j => by
  match j with
  | 0 => simp
  | _ + 1 => simp⟩
end Go.Proofs.YtiiiegflobihjaaGreat

/- Well-formed adversaries state by state; an adversary whose states were split. Plain lists. -/
namespace Go.Proofs.YtiiiegflobihjaaGreat

/-- What is asked of one state. -/
def StW (n : Int) (ss : List (List (List Int))) (s : Nat) : Prop :=
  0 < (ss.getD s []).length ∧ AscL ((ss.getD s []).map rdOf) ∧ ∀ m ∈ ss.getD s [], chkRd (rdOf m) = 0 ∧ (rdOf m).getD 0 0 = n ∧ ∀ k ∈ ss.getD (mvTo m) [], insideB ((rdOf m).getD 6 0) ((rdOf k).getD 6 0) = true
theorem rdOf_at {m : List Int} {j : Nat} (h : j < 7) : (rdOf m).getD j 0 = m.getD j 0 := getD_take7 h
theorem grows_iff {ss : List (List (List Int))} : growsB ss = true ↔ ∀ s ∈ ss, ∀ m ∈ s, ∀ k ∈ ss.getD (mvTo m) [], insideB ((rdOf m).getD 6 0) ((rdOf k).getD 6 0) = true := by
  simp only [growsB, gr2, gr3, List.all_eq_true, rdOf_at (show 6 < 7 by decide)]
  exact Iff.rfl
theorem mvGo_of {n : Int} {len : Nat} {ms : List (List Int)} : ∀ {k i : Nat}, (∀ j, i ≤ j → j < i + k → mvErr n len ms j = 0) → mvGo n len ms i k = 0
  | 0, _, _ => rfl
  | k + 1, i, h => by
    rw [mvGo_step (h i (Nat.le_refl _) (by omega))]
    exact mvGo_of fun j h1 h2 => h j (by omega) (by omega)
theorem ssGo_of {n : Int} {len : Nat} : ∀ {ss : List (List (List Int))}, (∀ s ∈ ss, stErr n len s = 0) → ssGo n len ss = 0
  | [], _ => rfl
  | s :: r, h => by
    rw [ssGo, if_neg (fun k => k (h s (by simp)))]
    exact ssGo_of fun x hx => h x (by simp [hx])
theorem chkA_of {n : Int} {ss : List (List (List Int))} (hn : 1 ≤ n ∧ n ≤ 5) (hl : 1 ≤ ss.length ∧ ss.length ≤ 256) (hm : movesN ss ≤ 4096) (hM : LeadOK ss) (hs : ∀ s, s < ss.length → StW n ss s) : chkA n ss = 0 := by
  have hss : ∀ s ∈ ss, ∃ i, i < ss.length ∧ ss.getD i [] = s := fun s hs => by
    obtain ⟨i, hi, rfl⟩ := List.getElem_of_mem hs
    exact ⟨i, hi, getD_eq hi _⟩
  have h1 : ssGo n ss.length ss = 0 := ssGo_of fun s hsm => by
    obtain ⟨i, hi, e⟩ := hss s hsm
    obtain ⟨a1, a2, a3⟩ := hs i hi
    rw [e] at a1 a2 a3
    unfold stErr
    rw [if_neg (by omega)]
    refine mvGo_of fun j _ hj => ?_
    have hj : j < s.length := by omega
    have hm : s.getD j [] ∈ s := by rw [getD_eq hj]; exact List.getElem_mem hj
    obtain ⟨b1, b2, _⟩ := a3 _ hm
    obtain ⟨c1, c2⟩ := hM s hsm _ hm
    refine mvErr_5 rfl b1 (by rw [← rdOf_at (by decide)]; exact b2) (fun hh => ?_) (by omega)
    have hp := List.pairwise_iff_getElem.1 a2 (j - 1) j (by rw [List.length_map]; omega) (by rw [List.length_map]; exact hj) (by omega)
    rw [List.getElem_map, List.getElem_map] at hp
    rw [getD_eq hj, getD_eq (show j - 1 < s.length by omega)] at hh
    have := hh.2
    unfold rdOf at hp
    omega
  have h2 : growsB ss = true := grows_iff.2 fun s hsm m hmm k hk => by
    obtain ⟨i, hi, e⟩ := hss s hsm
    obtain ⟨_, _, a3⟩ := hs i hi
    rw [e] at a3
    exact (a3 m hmm).2.2 k hk
  unfold chkA
  rw [if_neg (by omega), if_neg (by omega), if_neg (fun k => k h1), if_pos h2]
theorem stW_of {n : Int} {ss : List (List (List Int))} (h : chkA n ss = 0) (s : Nat) (hs : s < ss.length) : StW n ss s := by
  obtain ⟨_, _, h3, h4⟩ := chkA_facts h
  have hsm : ss.getD s [] ∈ ss := by rw [getD_eq hs]; exact List.getElem_mem hs
  have h5 := ssGo_zero h3 _ hsm
  unfold stErr at h5
  by_cases he : (ss.getD s []).length = 0
  · rw [if_pos he] at h5; cases h5
  rw [if_neg he] at h5
  refine ⟨by omega, ascL_of h _ hsm, fun m hm => ?_⟩
  obtain ⟨j, hj, e⟩ := List.getElem_of_mem hm
  obtain ⟨c1, c2, _, _, _⟩ := mvErr_zero (mvGo_zero h5 j (by omega) (by omega))
  rw [getD_eq hj, e] at c1 c2
  exact ⟨c1, by rw [rdOf_at (by decide)]; exact c2, fun k hk => grows_iff.1 h4 _ hsm m hm k hk⟩
section
variable {ss : List (List (List Int))} {bt : Nat → Int}
end
end Go.Proofs.YtiiiegflobihjaaGreat

/- What the search for a distinguishing word finds: plain lists. -/
namespace Go.Proofs.YtiiiegflobihjaaGreat

theorem afterI_app {ss : List (List (List Int))} {v : List (List Int)} : ∀ {u : List (List Int)} {s : Nat}, afterI ss (u ++ v) s = if afterI ss u s < 0 then -1 else afterI ss v (afterI ss u s).toNat
  | [], s => by
    rw [List.nil_append, afterI, if_neg (by omega), Int.toNat_natCast]
  | r :: u, s => by
    rw [List.cons_append, afterI, afterI]
    by_cases h : toI r (ss.getD s []) < 0
    · rw [if_pos h, if_pos h, if_pos (by decide)]
    · rw [if_neg h, if_neg h, afterI_app]
theorem afterI_one {ss : List (List (List Int))} {r : List Int} {s : Nat} : afterI ss [r] s = if toI r (ss.getD s []) < 0 then -1 else toI r (ss.getD s []) := by
  rw [afterI]
  by_cases h : toI r (ss.getD s []) < 0
  · rw [if_pos h, if_pos h]
  · rw [if_neg h, if_neg h, afterI]; omega
theorem alw_snoc {ss : List (List (List Int))} {u : List (List Int)} {r : List Int} {s p : Nat} (h : afterI ss u s = (p : Int)) : alw ss (u ++ [r]) s ↔ 0 ≤ toI r (ss.getD p []) := by
  rw [alw_after, afterI_app, h, if_neg (by omega), Int.toNat_natCast, afterI_one]
  split
  · constructor
    · intro h; exact absurd h (by decide)
    · intro h; omega
  · rfl
theorem alw_pre {ss : List (List (List Int))} {u v : List (List Int)} {s : Nat} (h : alw ss (u ++ v) s) : alw ss u s := by
  rw [alw_after] at h ⊢
  rw [afterI_app] at h
  by_cases hu : afterI ss u s < 0
  · rw [if_pos hu] at h; exact absurd h (by decide)
  · omega

section
variable (ss : List (List (List Int))) (s t : Nat)
/-- The queue so far: the first m items were searched, and of item m the rounds D. -/
structure BfsInv (m : Nat) (D : List (List Int)) (Q : List It) : Prop where
  zero : 0 < Q.length ∧ Q.getD 0 ((0, 0), []) = ((s, t), [])
  run : ∀ j, j < Q.length → afterI ss (Q.getD j ((0, 0), [])).2 s = ((Q.getD j ((0, 0), [])).1.1 : Int) ∧ afterI ss (Q.getD j ((0, 0), [])).2 t = ((Q.getD j ((0, 0), [])).1.2 : Int)
  up : ∀ i j, i ≤ j → j < Q.length → (Q.getD i ((0, 0), [])).2.length ≤ (Q.getD j ((0, 0), [])).2.length
  top : m < Q.length → ∀ j, j < Q.length → (Q.getD j ((0, 0), [])).2.length ≤ (Q.getD m ((0, 0), [])).2.length + 1
  old : ∀ i, i < Q.length → ∀ r, (i < m ∧ r ∈ ltr ss (Q.getD i ((0, 0), [])).1.1 (Q.getD i ((0, 0), [])).1.2) ∨ (i = m ∧ r ∈ D) →
    0 ≤ toI r (ss.getD (Q.getD i ((0, 0), [])).1.1 []) ∧ 0 ≤ toI r (ss.getD (Q.getD i ((0, 0), [])).1.2 []) ∧ ∃ y ∈ Q, y.1 = dP ss r (Q.getD i ((0, 0), [])).1 ∧ y.2.length ≤ (Q.getD i ((0, 0), [])).2.length + 1
end
section
variable {ss : List (List (List Int))} {s t : Nat}
theorem ltr_mem (hM : LeadOK ss) {p q : Nat} {r : List Int} : r ∈ ltr ss p q ↔ 0 ≤ toI r (ss.getD p []) ∨ 0 ≤ toI r (ss.getD q []) := by
  rw [ltr, mg_mem, toI_in (lead_mem hM p), toI_in (lead_mem hM q)]
/-- Words that are no longer than what was searched tell nothing apart. -/
theorem BfsInv.reach (hM : LeadOK ss) {m : Nat} {D : List (List Int)} {Q : List It} (h : BfsInv ss s t m D Q) {L : Nat} (hL : ∀ j, j < Q.length → (Q.getD j ((0, 0), [])).2.length < L → j < m) :
    ∀ (N : Nat) (u : List (List Int)), u.length = N → N ≤ L → (∃ y ∈ Q, afterI ss u s = (y.1.1 : Int) ∧ afterI ss u t = (y.1.2 : Int) ∧ y.2.length ≤ u.length) ∨ (¬ alw ss u s ∧ ¬ alw ss u t)
  | 0, u, hu, _ => by
    obtain rfl := List.length_eq_zero_iff.1 hu
    left
    refine ⟨((s, t), []), ?_, rfl, rfl, Nat.le_refl _⟩
    rw [← h.zero.2, getD_eq h.zero.1]
    exact List.getElem_mem _
  | N + 1, u, hu, hN => by
    have hne : u ≠ [] := fun e => by rw [e] at hu; simp at hu
    obtain ⟨u', r, rfl⟩ : ∃ u' r, u = u' ++ [r] := ⟨u.dropLast, u.getLast hne, (List.dropLast_concat_getLast hne).symm⟩
    rw [List.length_append] at hu
    have hu' : u'.length = N := by simpa using hu
    rcases BfsInv.reach hM h hL N u' hu' (by omega) with ⟨y, hy, h1, h2, h3⟩ | ⟨h1, h2⟩
    · obtain ⟨i, hi, hiy⟩ := List.getElem_of_mem hy
      have hgi : Q.getD i ((0, 0), []) = y := by rw [getD_eq hi]; exact hiy
      have him : i < m := hL i hi (by rw [hgi]; omega)
      by_cases hr : r ∈ ltr ss y.1.1 y.1.2
      · obtain ⟨a1, a2, z, hz, a3, a4⟩ := h.old i hi r (.inl ⟨him, by rw [hgi]; exact hr⟩)
        rw [hgi] at a1 a2 a3 a4
        left
        refine ⟨z, hz, ?_, ?_, by rw [List.length_append]; simp; omega⟩
        · rw [afterI_app, h1, if_neg (by omega), Int.toNat_natCast, afterI_one, if_neg (by omega), a3]
          show _ = (((toI r (ss.getD y.1.1 [])).toNat : Nat) : Int)
          omega
        · rw [afterI_app, h2, if_neg (by omega), Int.toNat_natCast, afterI_one, if_neg (by omega), a3]
          show _ = (((toI r (ss.getD y.1.2 [])).toNat : Nat) : Int)
          omega
      · right
        rw [ltr_mem hM, not_or] at hr
        rw [alw_snoc h1, alw_snoc h2]
        exact hr
    · right
      exact ⟨fun hh => h1 (alw_pre hh), fun hh => h2 (alw_pre hh)⟩
theorem BfsInv.same (hM : LeadOK ss) {m : Nat} {D : List (List Int)} {Q : List It} (h : BfsInv ss s t m D Q) {L : Nat} (hL : ∀ j, j < Q.length → (Q.getD j ((0, 0), [])).2.length < L → j < m) {u : List (List Int)} (hu : u.length ≤ L) : alw ss u s ↔ alw ss u t := by
  rcases h.reach hM hL _ u rfl hu with ⟨y, _, h1, h2, _⟩ | ⟨h1, h2⟩
  · rw [alw_after, alw_after, h1, h2]
    exact ⟨fun _ => by omega, fun _ => by omega⟩
  · exact ⟨fun h => absurd h h1, fun h => absurd h h2⟩
end
end Go.Proofs.YtiiiegflobihjaaGreat

/- The canonical form: it is well-formed, has the same words, is minimal and its own form. Plain lists. -/
namespace Go.Proofs.YtiiiegflobihjaaGreat

section
/-- A small, well-formed adversary. -/
def SmA (n : Int) (ss : List (List (List Int))) : Prop := (∀ s ∈ ss, ∀ m ∈ s, m.length = 8) ∧ chkA n ss = 0 ∧ ss.length ≤ 90 ∧ movesN ss ≤ 90
variable {n : Int} {ss : List (List (List Int))}
end
end Go.Proofs.YtiiiegflobihjaaGreat

/- Two adversaries side by side in one: they have the same canonical form exactly if no word tells their first states apart. Plain lists. -/
namespace Go.Proofs.YtiiiegflobihjaaGreat

section
variable {xs ys : List (List (List Int))}
/-- Two small, well-formed adversaries of as many processes. -/
def TwoA (n : Int) (xs ys : List (List (List Int))) : Prop := ((∀ s ∈ xs, ∀ m ∈ s, m.length = 8) ∧ chkA n xs = 0) ∧ ((∀ s ∈ ys, ∀ m ∈ s, m.length = 8) ∧ chkA n ys = 0) ∧ xs.length + ys.length ≤ 90 ∧ movesN xs + movesN ys ≤ 90
variable {n : Int} (hW : TwoA n xs ys)
theorem SmA.cls {ss : List (List (List Int))} (h : SmA n ss) : ClsOK ss := clsOK_of h.1 h.2.1 h.2.2.1 h.2.2.2
theorem SmA.lead {ss : List (List (List Int))} (h : SmA n ss) : LeadOK ss := LeadOK.ofCls h.cls
theorem SmA.asc {ss : List (List (List Int))} (h : SmA n ss) : ∀ s ∈ ss, AscL (s.map rdOf) := ascL_of h.2.1
theorem SmA.pos {ss : List (List (List Int))} (h : SmA n ss) : 0 < ss.length := h.cls.2.2.1
end
end Go.Proofs.YtiiiegflobihjaaGreat

/- Minimal adversaries and their proofs. Plain lists. -/
namespace Go.Proofs.YtiiiegflobihjaaGreat

/-- The words that lead to the states. -/
def wds (n : Nat) (fs : List (Nat × List Int)) : List (List (List Int)) := fs.foldl (fun W f => W.set (mvTo f.2) (W.getD f.1 [] ++ [rdOf f.2])) (List.replicate n [])
end Go.Proofs.YtiiiegflobihjaaGreat

/- canonical.Prove: the words of the search, and its second function. -/
namespace Go.Proofs.YtiiiegflobihjaaGreat
open Go.RowKit Go.ChangeMaps Go.MapKept

/-- A word in a cell. -/
def EWd (w : World) (cs : List Value) (x : List (List Int)) : Prop := ∃ u, cs = [u] ∧ OwX 51 7 EI w 0 u x.length x
theorem EWd.stab {E : TypeId} (h : 51 ≠ E) : Stab E EWd := fun _ _ _ _ ⟨u, h1, h2⟩ hx => ⟨u, h1, h2.other (EI.stab _) h hx⟩
theorem OwX.same {E : TypeId} {k : Nat} {w w' : World} {B n : Nat} {v : Value} {xs : List (List Int)} (h : OwX E k EI w B v n xs) (hk : ∀ g, v.ownBlock = some g → w'.heap[g]? = w.heap[g]?) : OwX E k EI w' B v n xs := by
  obtain ⟨vs, h1, h2, h3, h4⟩ := h
  refine ⟨vs, ⟨h1.1, ?_⟩, h2, h3, h4⟩
  rcases h1.2 with h' | ⟨g, cap, cur, k1, k2, k3, k4⟩
  · exact .inl h'
  · exact .inr ⟨g, cap, cur, k1, k2, (hk g (by rw [k1]; rfl)).trans k3, k4⟩
/-- What Prove asks of the words. -/
def JP (n bw gw : Nat) (fs : List (Nat × List Int)) (D : Nat → Prop) (W : World) : Prop :=
  D bw ∧ D gw ∧ bw ≠ gw ∧ W.heap[bw]? = some (.cells #[.slice (some ⟨gw, 0, none⟩) n n] 38) ∧
  (∃ cs, W.heap[gw]? = some (.cells cs 44) ∧ cs.size = n ∧ ∀ i, i < n → ∃ u, cs[i]? = some u ∧ OwX 51 7 EI W 0 u ((wds n fs).getD i []).length ((wds n fs).getD i []) ∧ ∀ k, u.ownBlock = some k → D k) ∧
  (0 :: fs.map fun f => mvTo f.2).Nodup ∧ ∀ x ∈ fs.map (fun f => mvTo f.2), x < n
theorem JP.len {n bw gw : Nat} {fs : List (Nat × List Int)} {D : Nat → Prop} {W : World} (h : JP n bw gw fs D W) : fs.length ≤ n := by
  obtain ⟨_, _, _, _, _, h1, h2⟩ := h
  have := nodup_lt_le (List.nodup_cons.1 h1).2 h2
  rwa [List.length_map] at this

end Go.Proofs.YtiiiegflobihjaaGreat

/- canonical.Prove. -/
namespace Go.Proofs.YtiiiegflobihjaaGreat
open Go.RowKit Go.ChangeMaps Go.MapKept

theorem OwX.kss7 {E : TypeId} {w : World} {B n : Nat} {v : Value} {xs : List (List (List Int))} (h : OwX E 1 EWd w B v n xs) (hn : n ≤ 5864062014805) (hl : ∀ x ∈ xs, x.length ≤ 2199023255552) : KSS 7 w v xs := by
  obtain ⟨vs, h1, h2, h3, h4⟩ := h
  have hvl : vs.length = n := by have := h1.1; simpa using this
  have key : ∀ g cap, v = .slice (some ⟨g, 0, none⟩) n cap → CKK 7 w g 0 xs := fun g cap hv j hj => by
    subst hv
    have hc := fun j (hj : j < vs.length) => World.ownsRow.cellAt h1 j (by omega)
    have hjn : j < n := by omega
    have hx : xs[j]? = some (xs.getD j []) := by rw [getD_eq hj]; exact List.getElem?_eq_some_iff.2 ⟨hj, rfl⟩
    obtain ⟨u, hu, ho⟩ := h4 j _ hx
    rw [Nat.mul_one] at hu
    have hvj : vs[j]? = some u := by
      have h5 : (vs.drop j).take 1 = [u] := hu
      rw [List.drop_eq_getElem_cons (by omega), List.take_succ_cons, List.take_zero] at h5
      rw [List.getElem?_eq_getElem (by omega)]
      exact congrArg some (List.cons.inj h5).1
    exact ⟨u, by rw [Nat.zero_add, hc j (by omega)]; exact hvj, ho.ks (hl _ (by rw [getD_eq hj]; exact List.getElem_mem hj))⟩
  rcases h1.2 with ⟨h5, h6⟩ | ⟨g, cap, cur, k1, _⟩
  · subst h5 h6
    obtain rfl := List.length_eq_zero_iff.1 h2
    exact ⟨none, 0, 0, 0, rfl, by simp, by intro j hj; simp at hj, by simp⟩
  · subst k1
    exact ⟨some ⟨g, 0, none⟩, cap, g, 0, by rw [h2], fun _ => rfl, key g cap rfl, by omega⟩

end Go.Proofs.YtiiiegflobihjaaGreat

/- The chapter's examples. -/
namespace Go.Proofs.YtiiiegflobihjaaGreat
open Go.RowKit

/-- A row in a block of its own. -/
theorem KSC.row {k : Nat} {w : World} {b : Nat} {cs : Array Value} {t : TypeId} {xs : List (List Int)} (h : w.heap[b]? = some (.cells cs t)) (hl : ∀ x ∈ xs, x.length = k) (hc : cs.toList = xs.flatten.map (Value.int .i64)) (hn : xs.length ≤ 2199023255552) :
    KSC k w (.slice (some ⟨b, 0, none⟩) xs.length xs.length) xs := by
  refine ⟨_, _, b, 0, rfl, fun _ => rfl, fun j hj => ?_, hn, Nat.le_refl _⟩
  have hx : (xs.getD j []).length = k := hl _ (by rw [getD_eq hj]; exact List.getElem_mem hj)
  refine ⟨hx, fun i hi => ?_⟩
  have hi' : i < k := by omega
  have hf := flat_get hl (j := j) (x := xs.getD j []) (by rw [getD_eq hj]; exact List.getElem?_eq_some_iff.2 ⟨hj, rfl⟩)
  rw [cell_of_row _ _ _ _ _ _ h, ← Array.getElem?_toList, hc, List.getElem?_map, Nat.zero_add]
  have h2 : (xs.flatten)[j * k + i]? = some ((xs.getD j []).getD i 0) := by
    have h3 : ((xs.flatten.drop (j * k)).take k)[i]? = some ((xs.getD j []).getD i 0) := by
      rw [hf, List.getElem?_eq_getElem hi, getD_eq hi]
    rw [List.getElem?_take, if_pos hi', List.getElem?_drop] at h3
    exact h3
  rw [h2]; rfl
theorem ha_new {w : World} {o : Obj} {k : Nat} (h : k = w.heap.size) : (w.alloc o).heap[k]? = some o := by rw [h]; exact heap_alloc_new w o
theorem ha_old {w : World} {o o' : Obj} {k : Nat} (h : k < w.heap.size) (hk : w.heap[k]? = some o') : (w.alloc o).heap[k]? = some o' := (Below.heap_alloc w o k h).trans hk
end Go.Proofs.YtiiiegflobihjaaGreat

/- Maps whose entries are rows of numbers: an entry is read and stored in one statement; the table of rows of combine.sequel. -/
namespace Go.Proofs.YtiiiegflobihjaaGreat
open Go.RowKit Go.ChangeMaps Go.MapKept Go.WideMaps

section
variable {κ : Type}
/-- Block b is the map that holds the pairs of m; its entries have stamps of their own. -/
def MS (kv : κ → Value) (w : World) (b : Nat) (m : List (κ × Value)) : Prop :=
  ∃ es clock, w.heap[b]? = some (.map es clock) ∧ es.toList.map (fun e => (e.key, e.val)) = m.map (fun p => (kv p.1, p.2)) ∧ (es.toList.map (·.born)).Nodup ∧ ∀ e ∈ es.toList, e.born < clock
variable {P : Program} {K E M : TypeId} {kv : κ → Value} {S : κ → Prop} {m : List (κ × Value)} {x : κ} {w : World} {b : Nat}
theorem MS.mx (h : MS kv w b m) : MX kv (id : Value → Value) w b m := by
  obtain ⟨es, c, h1, h2, _⟩ := h; exact ⟨es, c, h1, h2⟩
theorem MS.lt (h : MS kv w b m) : b < w.heap.size := h.mx.lt
theorem MS.keep {w' : World} (h : MS kv w b m) (hb : w'.heap[b]? = w.heap[b]?) : MS kv w' b m := by
  obtain ⟨es, clock, h1, h2⟩ := h; exact ⟨es, clock, hb.trans h1, h2⟩
theorem MS.made (w : World) : MS kv (w.alloc (.map #[] 0)) w.heap.size [] := ⟨#[], 0, heap_alloc_new w _, rfl, by simp, by simp⟩
/-- m[x] = f(m[x]). -/
theorem MS.entry {z : Value} (hX : KeyX P K kv S) (hM : P.underlying M = some (.map K E)) (hz : ∀ u : World, (zeroValue E).run P u = .ok z u) (h : MS kv w b m) (hm : ∀ p ∈ m, S p.1) (hx : S x) :
    ∃ (v0 : Value) (st : Nat) (es1 : Array MapEntry) (c1 : Nat), (Instr.mapEntry M (.map (some b)) (kv x)).run P w = .ok (.tuple #[v0, goInt st]) (setBlock w b (.map es1 c1)) ∧
      ((x ∉ m.map Prod.fst ∧ v0 = z ∧ ∀ (w2 : World) (val : Value), w2.heap[b]? = some (.map es1 c1) → ∃ es2 c2, (Instr.entryStore M (.map (some b)) (goInt st) val).run P w2 = .ok () (setBlock w2 b (.map es2 c2)) ∧ MS kv (setBlock w2 b (.map es2 c2)) b (m ++ [(x, val)])) ∨
       (∃ j, m[j]? = some (x, v0) ∧ ∀ (w2 : World) (val : Value), w2.heap[b]? = some (.map es1 c1) → ∃ es2 c2, (Instr.entryStore M (.map (some b)) (goInt st) val).run P w2 = .ok () (setBlock w2 b (.map es2 c2)) ∧ MS kv (setBlock w2 b (.map es2 c2)) b (m.set j (x, val)))) := by
  obtain ⟨es, clock, hb, hk, s2, s1⟩ := h
  obtain ⟨lx, hlx⟩ := hX.has x hx
  have hc := hX.law.check w false hlx
  have hfi := MX.find (vv := (id : Value → Value)) hX hm hx hk w
  rcases hfi with ⟨h1, h2⟩ | ⟨j, v, h1, h2, h3⟩
  · refine ⟨z, clock, es.push ⟨kv x, z, clock⟩, clock + 1, ?_, .inl ⟨h1, rfl, fun w2 val hw2 => ⟨es.push ⟨kv x, val, clock⟩, clock + 1, ?_, _, _, heap_setBlock_same hw2 _, ?_, ?_, ?_⟩⟩⟩
    · simp [Instr.mapEntry, run_underlying hM, MapKept.run_getObj_map hb, hc, h2, hz, MapKept.run_setObj_map _ hb, Result.andThen, setBlock]
    · have hidx : (es.push ⟨kv x, z, clock⟩).findIdx? (fun e => ((e.born : Nat) : Int) == ((clock : Nat) : Int)) = some es.size := by
        rw [Go.WideElems.findIdx_arr]
        exact Go.WideElems.findIdx_born (l := (es.push ⟨kv x, z, clock⟩).toList) (j := es.size) (e0 := ⟨kv x, z, clock⟩) (by
          simp only [Array.toList_push, List.map_append, List.map_cons, List.map_nil]
          refine List.nodup_append.2 ⟨s2, by simp, fun a ha c hc e1 => ?_⟩
          simp only [List.mem_singleton] at hc
          obtain ⟨y, hy, rfl⟩ := List.mem_map.1 ha
          have := s1 y hy
          omega) (by simp)
      have hmod : (es.push ⟨kv x, z, clock⟩).modify es.size (fun e => { e with val := val }) = es.push ⟨kv x, val, clock⟩ := by
        apply Array.ext'
        rw [Array.toList_modify, Array.toList_push, Array.toList_push, ← Array.length_toList, Go.WideElems.modify_last]
      simp [Instr.entryStore, MapKept.run_getObj_map hw2, asInt, asIntOf, goInt, hidx, hmod, MapKept.run_setObj_map _ hw2, Result.andThen, setBlock]
    · rw [Array.toList_push, List.map_append, hk, List.map_append]; rfl
    · rw [Array.toList_push, List.map_append]
      refine List.nodup_append.2 ⟨s2, by simp, fun a ha c hc e1 => ?_⟩
      simp only [List.map_cons, List.map_nil, List.mem_singleton] at hc
      obtain ⟨y, hy, rfl⟩ := List.mem_map.1 ha
      have := s1 y hy
      omega
    · intro e he
      rw [Array.toList_push] at he
      rcases List.mem_append.1 he with he | he
      · have := s1 e he; omega
      · obtain rfl := List.mem_singleton.1 he
        exact Nat.lt_succ_self _
  · have hl : (es.toList.map (fun e : MapEntry => (e.key, e.val)))[j]? = some (kv x, v) := by rw [hk, List.getElem?_map, h3]; rfl
    rw [List.getElem?_map] at hl
    obtain ⟨e0, h4, h5⟩ : ∃ e0, es.toList[j]? = some e0 ∧ (e0.key, e0.val) = (kv x, v) := by
      cases he : es.toList[j]? with
      | none => rw [he] at hl; cases hl
      | some e0 => rw [he] at hl; exact ⟨e0, rfl, Option.some.inj hl⟩
    injection h5 with h5 h6
    have hj : es[j]? = some e0 := by simpa using h4
    have hsame : es.modify j (fun e => { e with key := kv x }) = es := by
      apply Array.ext'
      rw [Array.toList_modify, modify_eq_set _ _ _ _ h4]
      have : ({ e0 with key := kv x } : MapEntry) = e0 := by rw [← h5]
      rw [this]
      exact Go.WideElems.set_self _ _ _ h4
    have htl : ∀ val, (es.modify j (fun e' => { e' with key := kv x, val := val })).toList = es.toList.set j { e0 with key := kv x, val := val } := fun val => by
      rw [Array.toList_modify, modify_eq_set _ _ _ _ h4]
    refine ⟨v, e0.born, es, clock, ?_, .inr ⟨j, h3, fun w2 val hw2 => ⟨es.modify j (fun e' => { e' with key := kv x, val := val }), clock, ?_, _, _, heap_setBlock_same hw2 _, ?_, ?_, ?_⟩⟩⟩
    · have h2' : (Instr.findKey K (kv x) es.toList).run P w = .ok (some (j, v)) w := h2
      simp [Instr.mapEntry, run_underlying hM, MapKept.run_getObj_map hb, hc, h2', hj, h5, hX.law.stays w hlx, hsame, MapKept.run_setObj_map _ hb, Result.andThen, setBlock]
    · have hidx : es.findIdx? (fun e => ((e.born : Nat) : Int) == ((e0.born : Nat) : Int)) = some j := by
        rw [Go.WideElems.findIdx_arr]
        exact Go.WideElems.findIdx_born s2 h4
      have hmod : es.modify j (fun e => { e with val := val }) = es.modify j (fun e' => { e' with key := kv x, val := val }) := by
        apply Array.ext'
        rw [Array.toList_modify, Array.toList_modify, modify_eq_set _ _ _ _ h4, modify_eq_set _ _ _ _ h4, ← h5]
      simp [Instr.entryStore, MapKept.run_getObj_map hw2, asInt, asIntOf, goInt, hidx, hmod, MapKept.run_setObj_map _ hw2, Result.andThen, setBlock]
    · rw [htl, List.map_set, hk, List.map_set]
    · rw [htl, List.map_set]
      have : (es.toList.map (·.born)).set j e0.born = es.toList.map (·.born) := Go.WideElems.set_self _ _ _ (by rw [List.getElem?_map, h4]; rfl)
      rw [this]
      exact s2
    · intro e he
      rw [htl] at he
      rcases List.mem_or_eq_of_mem_set he with he | rfl
      · exact s1 e he
      · exact s1 e0 (List.mem_of_getElem? h4)
end

theorem thTo_snoc (f : Int) (ms : List (List Int)) (a r : List Int) : thTo f (ms ++ [a]) r = thTo f ms r ++ (if unM f a = r then [mvTo a] else []) := by
  rw [thTo, thTo, List.filter_append, List.map_append]
  by_cases h : unM f a = r <;> simp [h]
theorem thTo_none {f : Int} {ms : List (List Int)} {r : List Int} (h : ∀ x ∈ ms, unM f x ≠ r) : thTo f ms r = [] := by
  rw [thTo, List.filter_eq_nil_iff.2 (fun x hx => by simpa using h x hx)]; rfl
theorem natI_appD (a b : List Nat) : natI (a ++ b) = natI a ++ natI b := List.map_append
/-- The rows of the table: for each round the states to which the moves with it lead. -/
structure RowT (w : World) (B : Nat) (f : Int) (ms : List (List Int)) (m : List (List Int × Value)) : Prop where
  one : ∀ (i j : Nat) (p q : List Int × Value), m[i]? = some p → m[j]? = some q → p.1 = q.1 → i = j
  has : ∀ x ∈ ms, unM f x ∈ m.map Prod.fst
  row : ∀ (i : Nat) (p : List Int × Value), m[i]? = some p → p.1 ∈ ms.map (unM f) ∧ OI w B p.2 (thTo f ms p.1).length (natI (thTo f ms p.1))
  apart : ∀ (i j : Nat) (p q : List Int × Value), i ≠ j → m[i]? = some p → m[j]? = some q → Apart p.2 q.2
variable {w w' : World} {B : Nat} {f : Int} {ms : List (List Int)} {m : List (List Int × Value)}
theorem RowT.nil (w : World) (B : Nat) (f : Int) : RowT w B f [] [] := ⟨by simp, by simp, by simp, by simp⟩
theorem RowT.keep (h : RowT w B f ms m) (hb : Below w.heap.size w w') : RowT w' B f ms m := ⟨h.one, h.has, fun i p hp => ⟨(h.row i p hp).1, (h.row i p hp).2.keep hb⟩, h.apart⟩
theorem RowT.other {E : TypeId} (h : RowT w B f ms m) (hne : 3 ≠ E) (hx : KeepX E w w') : RowT w' B f ms m := ⟨h.one, h.has, fun i p hp => ⟨(h.row i p hp).1, (h.row i p hp).2.other hne hx⟩, h.apart⟩
theorem RowT.new {a : List Int} {v' : Value} (h : RowT w B f ms m) (hx : unM f a ∉ m.map Prod.fst) (hg : w.grownBy w' (Value.slice none 0 0).ownBlock) (hn : NewAt w (.slice none 0 0) v') (hv : OI w' B v' 1 [(mvTo a : Int)]) :
    RowT w' B f (ms ++ [a]) (m ++ [(unM f a, v')]) := by
  have hkey : ∀ (i : Nat) (p : List Int × Value), m[i]? = some p → unM f a ≠ p.1 := fun i p hp e => hx (e ▸ List.mem_map_of_mem (f := Prod.fst) (List.mem_of_getElem? hp))
  have hsp : ∀ (i : Nat) (p : List Int × Value), (m ++ [(unM f a, v')])[i]? = some p → m[i]? = some p ∨ (i = m.length ∧ p = (unM f a, v')) := fun i p hp => by
    by_cases hi : i < m.length
    · rw [List.getElem?_append_left hi] at hp; exact .inl hp
    · rw [List.getElem?_append_right (by omega)] at hp
      have h0 : i - m.length = 0 := by have := (List.getElem?_eq_some_iff.1 hp).1; simpa using this
      rw [h0] at hp
      simp only [List.getElem?_cons_zero, Option.some.injEq] at hp
      exact .inr ⟨by omega, hp.symm⟩
  have hlen : ∀ (i : Nat) (p : List Int × Value), m[i]? = some p → i < m.length := fun i p hp => (List.getElem?_eq_some_iff.1 hp).1
  have hap : ∀ (i : Nat) (p : List Int × Value), m[i]? = some p → Apart p.2 v' := fun i p hp b c hb hc e => by
    have hl := World.ownsRow.lt (h.row i p hp).2 b hb
    rcases hn with hn | hn
    · rw [hn] at hc; cases hc
    · rw [hn] at hc
      simp only [Option.some.injEq] at hc
      omega
  refine ⟨fun i j p q hp hq hpq => ?_, fun x hxm => ?_, fun i p hp => ?_, fun i j p q hij hp hq => ?_⟩
  · rcases hsp i p hp with hp | ⟨rfl, rfl⟩
    · rcases hsp j q hq with hq | ⟨rfl, rfl⟩
      · exact h.one i j p q hp hq hpq
      · exact absurd hpq.symm (hkey i p hp)
    · rcases hsp j q hq with hq | ⟨rfl, rfl⟩
      · exact absurd hpq (hkey j q hq)
      · rfl
  · rw [List.map_append, List.mem_append]
    rcases List.mem_append.1 hxm with hxm | hxm
    · exact .inl (h.has x hxm)
    · obtain rfl := List.mem_singleton.1 hxm
      exact .inr (by simp)
  · rcases hsp i p hp with hp | ⟨rfl, rfl⟩
    · obtain ⟨h1, h2⟩ := h.row i p hp
      refine ⟨by rw [List.map_append]; exact List.mem_append_left _ h1, ?_⟩
      rw [thTo_snoc, if_neg (hkey i p hp), List.append_nil]
      refine h2.kept hg ?_
      by_cases hnn : p.2.ownBlock = none
      · exact .inl hnn
      · exact .inr hnn
    · refine ⟨by rw [List.map_append]; exact List.mem_append_right _ (by simp), ?_⟩
      rw [thTo_snoc, if_pos rfl, thTo_none (r := unM f a) (fun x hxm e => by have h3 := h.has x hxm; rw [e] at h3; exact hx h3)]
      exact hv
  · rcases hsp i p hp with hp | ⟨rfl, rfl⟩
    · rcases hsp j q hq with hq | ⟨rfl, rfl⟩
      · exact h.apart i j p q hij hp hq
      · exact hap i p hp
    · rcases hsp j q hq with hq | ⟨rfl, rfl⟩
      · exact (hap j q hq).symm
      · exact absurd rfl hij
theorem RowT.old {a : List Int} {v v' : Value} {j : Nat} (h : RowT w B f ms m) (hj : m[j]? = some (unM f a, v)) (hg : w.grownBy w' v.ownBlock) (hn : NewAt w v v')
    (hv : OI w' B v' ((thTo f ms (unM f a)).length + 1) (natI (thTo f ms (unM f a)) ++ [(mvTo a : Int)])) : RowT w' B f (ms ++ [a]) (m.set j (unM f a, v')) := by
  have hjl : j < m.length := (List.getElem?_eq_some_iff.1 hj).1
  have hsp : ∀ (i : Nat) (p : List Int × Value), (m.set j (unM f a, v'))[i]? = some p → (i ≠ j ∧ m[i]? = some p) ∨ (i = j ∧ p = (unM f a, v')) := fun i p hp => by
    rw [List.getElem?_set] at hp
    split at hp
    · rename_i e
      subst e
      first | rw [if_pos hjl] at hp | skip
      exact .inr ⟨rfl, (Option.some.inj hp).symm⟩
    · rename_i e
      exact .inl ⟨fun e2 => e e2.symm, hp⟩
  have hkey : ∀ (i : Nat) (p : List Int × Value), i ≠ j → m[i]? = some p → unM f a ≠ p.1 := fun i p hi hp e => hi (h.one i j p _ hp hj e.symm)
  have hap : ∀ (i : Nat) (p : List Int × Value), i ≠ j → m[i]? = some p → Apart p.2 v' := fun i p hi hp b c hb hc e => by
    have hl := World.ownsRow.lt (h.row i p hp).2 b hb
    rcases hn with hn | hn
    · rw [hn] at hc; exact h.apart i j p _ hi hp hj b c hb hc e
    · rw [hn] at hc
      simp only [Option.some.injEq] at hc
      omega
  refine ⟨fun i k p q hp hq hpq => ?_, fun x hxm => ?_, fun i p hp => ?_, fun i k p q hik hp hq => ?_⟩
  · rcases hsp i p hp with ⟨hi, hp'⟩ | ⟨hi, hp'⟩
    · rcases hsp k q hq with ⟨hk, hq'⟩ | ⟨hk, hq'⟩
      · exact h.one i k p q hp' hq' hpq
      · rw [hq'] at hpq; exact absurd hpq.symm (hkey i p hi hp')
    · rcases hsp k q hq with ⟨hk, hq'⟩ | ⟨hk, hq'⟩
      · rw [hp'] at hpq; exact absurd hpq (hkey k q hk hq')
      · rw [hi, hk]
  · have hmem : ∀ y, y ∈ m.map Prod.fst → y ∈ (m.set j (unM f a, v')).map Prod.fst := fun y hy => by
      rw [List.map_set, Go.WideElems.set_self _ _ _ (by rw [List.getElem?_map, hj]; rfl)]; exact hy
    rcases List.mem_append.1 hxm with hxm | hxm
    · exact hmem _ (h.has x hxm)
    · obtain rfl := List.mem_singleton.1 hxm
      exact hmem _ (List.mem_map_of_mem (f := Prod.fst) (List.mem_of_getElem? hj))
  · rcases hsp i p hp with ⟨hi, hp⟩ | ⟨rfl, rfl⟩
    · obtain ⟨h1, h2⟩ := h.row i p hp
      refine ⟨by rw [List.map_append]; exact List.mem_append_left _ h1, ?_⟩
      rw [thTo_snoc, if_neg (hkey i p hi hp), List.append_nil]
      exact h2.kept hg (h.apart i j p _ hi hp hj).ne
    · refine ⟨by rw [List.map_append]; exact List.mem_append_right _ (by simp), ?_⟩
      simp only
      rw [thTo_snoc, if_pos rfl, natI_appD, List.length_append]
      exact hv
  · rcases hsp i p hp with ⟨hi, hp'⟩ | ⟨hi, hp'⟩
    · rcases hsp k q hq with ⟨hk, hq'⟩ | ⟨hk, hq'⟩
      · exact h.apart i k p q hik hp' hq'
      · rw [hq']; exact hap i p hi hp'
    · rcases hsp k q hq with ⟨hk, hq'⟩ | ⟨hk, hq'⟩
      · rw [hp']; exact (hap k q hk hq').symm
      · exact absurd (hi.trans hk.symm) hik
end Go.Proofs.YtiiiegflobihjaaGreat

/- The sort of rows of ints. -/
import Derived.Test.YtpjlaaldepfnkaaDoorSa
namespace Go.Proofs.YtpjlaaldepfnkaaDoor
open Go.Shelf Go.RowKit Go.Lib Go.Sort
def SortOut (w : World) (B : Nat) (v : Value) (n : Nat) (xss : List (List Int)) (e : Ending) (w' : World) : Prop :=
  e = .returned (.tuple #[]) ∧ ∃ yss, yss.Perm xss ∧ yss.Pairwise (fun a b => ¬ cmpL b a < 0) ∧ OII w' B v n yss ∧ Go.RowKit.Below B w w'
theorem OI.heap {w w' : World} {B : Nat} {v : Value} {n : Nat} {xs : List Int} (h : OI w B v n xs) (hb : ∀ g, v.ownBlock = some g → g < w.heap.size → w'.heap[g]? = w.heap[g]?) : OI w' B v n xs := by
  refine ⟨h.1, ?_⟩
  rcases h.2 with h' | ⟨g, cap, cur, h1, h2, h3, h4⟩
  · exact .inl h'
  · exact .inr ⟨g, cap, cur, h1, h2, (hb g (by rw [h1]; rfl) (Array.getElem?_eq_some_iff.1 h3).1).trans h3, h4⟩
theorem putCells_take {α : Type} [Inhabited α] (enc : α → Value) (d : Array α) (cs : Array Value) (hd : d.size ≤ cs.size) : (putCells enc 0 d cs).toList.take d.size = d.toList.map enc := by
  apply List.ext_getElem?
  intro k
  rw [List.getElem?_take]
  by_cases hk : k < d.size
  · rw [if_pos hk, Array.getElem?_toList]
    simp only [putCells, Array.getElem?_mapIdx]
    rw [Array.getElem?_eq_getElem (by omega : k < cs.size)]
    simp [hk, getElem!_pos d k hk]
  · rw [if_neg hk, List.getElem?_eq_none (by simp; omega)]
theorem sortOut {w : World} {B n : Nat} {v : Value} {xss : List (List Int)} (h : OII w B v n xss) (hn : 0 < n) (hn2 : n ≤ 1000000) (hl : ∀ x ∈ xss, x.length ≤ 17592186044416) :
    Calls Tryd.prog 59 #[v, .func (.func 37) #[] #[]] w (SortOut w B v n xss) := by
  obtain ⟨vs, h1, h2, h4, h3⟩ := h
  have hvl : vs.length = n := by have := h1.1; omega
  rcases h1.2 with ⟨rfl, h0⟩ | ⟨g, cap, cur, rfl, hB, hg, hc1, hc2, hc3, hc4⟩
  · omega
  let mk : Fin n → Elt w g := fun j => ⟨(vs.getD j undef, xss.getD j []), h3 j j.2, (show (xss.getD j []).length ≤ _ by rw [getD_eq (by omega)]; exact hl _ (List.getElem_mem _)), fun b hb he => by
    subst he
    rcases (h3 j j.2).2 with ⟨k1, _⟩ | ⟨g', cap', cur', k1, _, k3, _⟩
    · simp only at hb; rw [k1] at hb; cases hb
    · simp only at hb; rw [k1] at hb
      simp only [Value.ownBlock, Option.some.injEq] at hb
      subst hb
      rw [hg] at k3
      simp at k3⟩
  haveI : Inhabited (Elt w g) := ⟨mk ⟨0, hn⟩⟩
  obtain ⟨d, hd⟩ : ∃ d, d = Array.ofFn mk := ⟨_, rfl⟩
  have hds : d.size = n := by rw [hd]; simp
  have hdj : ∀ j (hj : j < n), d[j]! = mk ⟨j, hj⟩ := fun j hj => by rw [getElem!_pos d j (by omega)]; simp [hd]
  have hH : Holds Elt.enc w g 0 d := by
    intro j hj
    rw [hds] at hj
    rw [hdj j hj]
    constructor
    · rw [Nat.zero_add, cell_of_row w g j cur 22 (0, 0) hg]
      have : (cur.toList.take (n * 1))[j]? = some (vs.getD j undef) := by rw [hc4]; simp [show j < vs.length by omega]
      rw [List.getElem?_take, if_pos (by omega)] at this
      show cur[j]? = some (vs.getD j undef)
      simpa using this
    · rw [Nat.zero_add]; exact World.ownsRow.frozenAt h1 j
  have hgl := (Array.getElem?_eq_some_iff.1 hg).1
  have hS := sortRows g 0 cap d hH hgl (by omega)
  rw [hds] at hS
  refine hS.mono ?_
  rintro e w' ⟨rfl, d', m, os, hp, hs, rfl⟩
  obtain ⟨hp1, _, hp2⟩ := hp
  rw [hds] at hp1
  have e1 : d'.extract 0 n = d' := by rw [← hp1]; simp
  have e2 : d.extract 0 n = d := by rw [← hds]; simp
  rw [e1, e2] at hp2
  have ex : d.toList.map (fun x : Elt w g => x.1.2) = xss := by
    apply List.ext_getElem
    · simp [hds, h2]
    · intro j hj1 hj2
      simp only [List.getElem_map, Array.getElem_toList]
      have := hdj j (by omega)
      rw [getElem!_pos d j (by omega)] at this
      rw [this]
      exact getD_eq hj2 []
  refine ⟨rfl, d'.toList.map (fun x : Elt w g => x.1.2), ?_, ?_, ?_, below_sortWorld m d' os hB hgl⟩
  · rw [← ex]; exact hp2.map _
  · rw [List.pairwise_map, List.pairwise_iff_getElem]
    intro i j hi hj hij
    simp only [Array.length_toList] at hi hj
    have := hs i j (Nat.zero_le _) hij (by omega)
    rw [getElem!_pos d' i hi, getElem!_pos d' j hj] at this
    exact of_decide_eq_false this
  · refine ⟨d'.toList.map (fun x : Elt w g => x.1.1), ⟨by simp [hp1], .inr ⟨g, cap, putCells Elt.enc 0 d' cur, rfl, hB, heap_sortWorld_same 0 m d' os hg, hc1, hc2, by simpa [putCells] using hc3, ?_⟩⟩, by simp [hp1], ?_, fun j hj => ?_⟩
    · rw [Nat.mul_one]
      have := putCells_take Elt.enc d' cur (by omega)
      rwa [hp1] at this
    · intro x hx
      obtain ⟨y, _, rfl⟩ := List.mem_map.1 hx
      exact oneCell_slice y.2.1
    · have hj' : j < d'.size := by omega
      rw [getD_eq (by simpa using hj'), getD_eq (by simpa using hj')]
      simp only [List.getElem_map, Array.getElem_toList]
      exact d'[j].2.1.heap fun b hb hlt => heap_sortWorld_other _ _ _ _ (d'[j].2.2.2 b hb) hlt
end Go.Proofs.YtpjlaaldepfnkaaDoor

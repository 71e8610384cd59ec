/- The set of permutations seen: a map keyed by five numbers. -/
import Derived.Test.YtpjlaaldepfnkaaDoorKa
import Derived.WideKeyArr2
namespace Go.Proofs.YtpjlaaldepfnkaaDoor
open Go.RowKit Go.ChangeMaps Go.MapKept Go.WideMaps

theorem arr89 : ArrKey Tryd.prog 89 3 5 := ⟨und89, by kernel_rfl, by kernel_rfl, by kernel_rfl⟩
theorem law89 : Maps.Keyed Tryd.prog 89 := Maps.Keyed.of_law arr89.law
theorem und91 : Tryd.prog.underlying 91 = some (.map 89 4) := by kernel_rfl
theorem und3 : Tryd.prog.underlying 3 = some (.int .i64) := by kernel_rfl
theorem cells3 : Tryd.prog.cellsOf 3 = 1 := by kernel_rfl
theorem typesSize : ∃ m, Tryd.prog.types.size = m + 1 := ⟨Tryd.prog.types.size - 1, by
  have : decide (0 < Tryd.prog.types.size) = true := by kernel_rfl
  have := of_decide_eq_true this
  omega⟩
def SmallN (a : List Int) : Prop := ∀ k, 0 ≤ a.getD k 0 ∧ a.getD k 0 < 10
theorem wf_small {x : Int} (h : 0 ≤ x ∧ x < 10) : (Lit.int .i64 x).wf = true := WalkArith.wf_i64 (by omega)

theorem lit1 {x : Int} (m : Nat) (h : 0 ≤ x ∧ x < 10) : Tryd.prog.keyLits (m + 1) 3 [.int .i64 x] = some [.int .i64 x] := by
  unfold Program.keyLits
  simp only [und3]
  rw [if_pos ⟨trivial, wf_small h⟩]
set_option maxRecDepth 100000 in
theorem hasKey {a : List Int} (h : SmallN a) : ∃ l, keyOf Tryd.prog 89 (.agg (keyA a)) = some l := by
  have hkt := arr89.keyType typesSize
  obtain ⟨m0, hm0⟩ := typesSize
  refine ⟨.string (keyBytes [.int .i64 (a.getD 0 0), .int .i64 (a.getD 1 0), .int .i64 (a.getD 2 0), .int .i64 (a.getD 3 0), .int .i64 (a.getD 4 0)]), ?_⟩
  unfold keyOf
  simp only [und89]
  rw [if_pos (by simp [hkt, Value.formed, und89, arr89.size, keyA]), hm0]
  unfold Program.keyLits
  simp only [und89, Value.cells]
  rw [if_pos (by rw [arr89.size]; rfl)]
  have hl : ((List.range 5).mapM fun i => Tryd.prog.keyLits (m0 + 1) 3 (((keyA a).toList.drop (i * Tryd.prog.cellsOf 3)).take (Tryd.prog.cellsOf 3))) = some [[.int .i64 (a.getD 0 0)], [.int .i64 (a.getD 1 0)], [.int .i64 (a.getD 2 0)], [.int .i64 (a.getD 3 0)], [.int .i64 (a.getD 4 0)]] := by
    rw [cells3, show List.range 5 = [0, 1, 2, 3, 4] from rfl]
    simp only [List.mapM_cons, List.mapM_nil, keyA, List.drop, List.take, Nat.mul_one, Nat.reduceAdd]
    rw [lit1 m0 (h 0), lit1 m0 (h 1), lit1 m0 (h 2), lit1 m0 (h 3), lit1 m0 (h 4)]
    rfl
  rw [hl]
  rfl
theorem keyA_inj {a b : List Int} {n : Nat} (ha : a.length = n) (hb : b.length = n) (h5 : n ≤ 5) (h : keyA a = keyA b) : a = b := by
  simp only [keyA, Array.mk.injEq, List.cons.injEq, Value.int.injEq, true_and, and_true] at h
  obtain ⟨h0, h1, h2, h3, h4⟩ := h
  refine List.ext_getElem (by omega) fun k hk hk2 => ?_
  have : a.getD k 0 = b.getD k 0 := by
    have : k = 0 ∨ k = 1 ∨ k = 2 ∨ k = 3 ∨ k = 4 := by omega
    rcases this with rfl | rfl | rfl | rfl | rfl <;> assumption
  simpa [List.getD_eq_getElem?_getD, List.getElem?_eq_getElem hk, List.getElem?_eq_getElem hk2] using this

/-- Block b is the map that holds the permutations of g. -/
def MG (w : World) (b : Nat) (g : List (List Int)) : Prop :=
  ∃ es clock, w.heap[b]? = some (.map es clock) ∧ es.toList.map (·.key) = g.map (fun x => Value.agg (keyA x)) ∧ ∀ e ∈ es.toList, e.val = .bool true

theorem MG.keys {g : List (List Int)} (hg : ∀ y ∈ g, SmallN y) {l : List MapEntry} (h : l.map (·.key) = g.map (fun x => Value.agg (keyA x))) : ∀ e ∈ l, ∃ k, keyOf Tryd.prog 89 e.key = some k := by
  intro e he
  have : e.key ∈ g.map (fun x => Value.agg (keyA x)) := h ▸ List.mem_map_of_mem he
  obtain ⟨y, hy, hye⟩ := List.mem_map.1 this
  rw [← hye]
  exact hasKey (hg y hy)
theorem MG.find {w : World} {g : List (List Int)} {x : List Int} (hg : ∀ y ∈ g, SmallN y) (hx : SmallN x) (hi : ∀ y ∈ g, keyA y = keyA x → y = x) {l : List MapEntry} (h : l.map (·.key) = g.map (fun x => Value.agg (keyA x))) :
    (x ∉ g ∧ (Instr.findKey 89 (.agg (keyA x)) l).run Tryd.prog w = .ok none w) ∨ (x ∈ g ∧ ∃ j e, (Instr.findKey 89 (.agg (keyA x)) l).run Tryd.prog w = .ok (some (j, e.val)) w ∧ e ∈ l) := by
  obtain ⟨lx, hlx⟩ := hasKey hx
  rcases law89.find w hlx l (MG.keys hg h) with ⟨h1, h2⟩ | ⟨j, e, h1, h2, h3⟩
  · refine .inl ⟨fun hm => ?_, h1⟩
    have : Value.agg (keyA x) ∈ l.map (·.key) := h ▸ List.mem_map_of_mem (f := fun x => Value.agg (keyA x)) hm
    obtain ⟨e, he, hek⟩ := List.mem_map.1 this
    exact h2 e he hek
  · have hel : e ∈ l := List.mem_of_getElem? h2
    refine .inr ⟨?_, j, e, h1, hel⟩
    have : e.key ∈ g.map (fun x => Value.agg (keyA x)) := h ▸ List.mem_map_of_mem hel
    obtain ⟨y, hy, hye⟩ := List.mem_map.1 this
    rw [h3] at hye
    rw [← hi y hy (by injection hye)]
    exact hy

theorem MG.has {w : World} {b : Nat} {g : List (List Int)} {x : List Int} (h : MG w b g) (hg : ∀ y ∈ g, SmallN y) (hx : SmallN x) (hi : ∀ y ∈ g, keyA y = keyA x → y = x) :
    (Instr.lookup 91 (.map (some b)) (.agg (keyA x)) false).run Tryd.prog w = .ok (.bool (decide (x ∈ g))) w := by
  obtain ⟨es, clock, hb, hk, hv⟩ := h
  obtain ⟨lx, hlx⟩ := hasKey hx
  have hc := fun e => law89.check w e hlx
  have hz : (zeroValue 4).run Tryd.prog w = .ok (.bool false) w := by kernel_rfl
  rcases MG.find (w := w) hg hx hi hk with ⟨h1, h2⟩ | ⟨h1, j, e, h2, h3⟩
  · simp [Instr.lookup, run_underlying und91, MapKept.run_getObj_map hb, hc, h2, Result.andThen, hz, h1]
  · simp [Instr.lookup, run_underlying und91, MapKept.run_getObj_map hb, hc, h2, Result.andThen, hv e h3, h1]

theorem MG.put {w : World} {b : Nat} {g : List (List Int)} {x : List Int} (h : MG w b g) (hg : ∀ y ∈ g, SmallN y) (hx : SmallN x) (hi : ∀ y ∈ g, keyA y = keyA x → y = x) (hn : x ∉ g) :
    ∃ o, (Instr.mapUpdate 91 (.map (some b)) (.agg (keyA x)) (.bool true)).run Tryd.prog w = .ok () (setBlock w b o) ∧ MG (setBlock w b o) b (g ++ [x]) := by
  obtain ⟨es, clock, hb, hk, hv⟩ := h
  obtain ⟨lx, hlx⟩ := hasKey hx
  have hc := law89.check w false hlx
  rcases MG.find (w := w) hg hx hi hk with ⟨h1, h2⟩ | ⟨h1, _⟩
  · refine ⟨.map (es.push ⟨.agg (keyA x), .bool true, clock⟩) (clock + 1), ?_, _, _, heap_setBlock_same hb _, ?_, ?_⟩
    · simp [Instr.mapUpdate, run_underlying und91, MapKept.run_getObj_map hb, hc, h2, MapKept.run_setObj_map _ hb, Result.andThen, setBlock]
    · rw [Array.toList_push, List.map_append, hk, List.map_append]; rfl
    · intro e he
      rw [Array.toList_push, List.mem_append] at he
      rcases he with he | he
      · exact hv e he
      · rw [List.mem_singleton.1 he]
  · exact absurd h1 hn
theorem MG.made (w : World) : MG (w.alloc (.map #[] 0)) w.heap.size [] := ⟨#[], 0, World.alloc_heap_new w _, rfl, by simp⟩
end Go.Proofs.YtpjlaaldepfnkaaDoor

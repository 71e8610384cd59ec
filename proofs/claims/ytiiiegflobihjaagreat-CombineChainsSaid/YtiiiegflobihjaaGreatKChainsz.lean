/- Texts of this claim, put together: DB EF. -/
import Derived.Test.YtiiiegflobihjaaGreatKChainsr
import Derived.Test.YtiiiegflobihjaaGreatKChainsk
import Derived.Test.YtiiiegflobihjaaGreatKChainsa
import Derived.WideKeyEntry
import Derived.Test.YtiiiegflobihjaaGreatKChainsw
import Derived.Test.YtiiiegflobihjaaGreatKChainsy

/- Maps whose entries are rows of numbers: an entry is read and stored in one statement; the table of rows of combine.sequel. -/
namespace Go.Proofs.YtiiiegflobihjaaGreat
open Go.RowKit Go.ChangeMaps Go.MapKept Go.WideMaps

section
variable {κ : Type}
/-- Block b is the map that holds the pairs of m; its entries have stamps of their own. -/
def MS (kv : κ → Value) (w : World) (b : Nat) (m : List (κ × Value)) : Prop :=
  ∃ es clock, w.heap[b]? = some (.map es clock) ∧ es.toList.map (fun e => (e.key, e.val)) = m.map (fun p => (kv p.1, p.2)) ∧ (es.toList.map (·.born)).Nodup ∧ ∀ e ∈ es.toList, e.born < clock
variable {P : Program} {K E M : TypeId} {kv : κ → Value} {S : κ → Prop} {m : List (κ × Value)} {x : κ} {w : World} {b : Nat}
theorem MS.mx (h : MS kv w b m) : MX kv (id : Value → Value) w b m := by
  obtain ⟨es, c, h1, h2, _⟩ := h; exact ⟨es, c, h1, h2⟩
theorem MS.lt (h : MS kv w b m) : b < w.heap.size := h.mx.lt
theorem MS.keep {w' : World} (h : MS kv w b m) (hb : w'.heap[b]? = w.heap[b]?) : MS kv w' b m := by
  obtain ⟨es, clock, h1, h2⟩ := h; exact ⟨es, clock, hb.trans h1, h2⟩
theorem MS.made (w : World) : MS kv (w.alloc (.map #[] 0)) w.heap.size [] := ⟨#[], 0, heap_alloc_new w _, rfl, by simp, by simp⟩
/-- m[x] = f(m[x]). -/
theorem MS.entry {z : Value} (hX : KeyX P K kv S) (hM : P.underlying M = some (.map K E)) (hz : ∀ u : World, (zeroValue E).run P u = .ok z u) (h : MS kv w b m) (hm : ∀ p ∈ m, S p.1) (hx : S x) :
    ∃ (v0 : Value) (st : Nat) (es1 : Array MapEntry) (c1 : Nat), (Instr.mapEntry M (.map (some b)) (kv x)).run P w = .ok (.tuple #[v0, goInt st]) (setBlock w b (.map es1 c1)) ∧
      ((x ∉ m.map Prod.fst ∧ v0 = z ∧ ∀ (w2 : World) (val : Value), w2.heap[b]? = some (.map es1 c1) → ∃ es2 c2, (Instr.entryStore M (.map (some b)) (goInt st) val).run P w2 = .ok () (setBlock w2 b (.map es2 c2)) ∧ MS kv (setBlock w2 b (.map es2 c2)) b (m ++ [(x, val)])) ∨
       (∃ j, m[j]? = some (x, v0) ∧ ∀ (w2 : World) (val : Value), w2.heap[b]? = some (.map es1 c1) → ∃ es2 c2, (Instr.entryStore M (.map (some b)) (goInt st) val).run P w2 = .ok () (setBlock w2 b (.map es2 c2)) ∧ MS kv (setBlock w2 b (.map es2 c2)) b (m.set j (x, val)))) := by
  obtain ⟨es, clock, hb, hk, s2, s1⟩ := h
  obtain ⟨lx, hlx⟩ := hX.has x hx
  have hc := hX.law.check w false hlx
  have hfi := MX.find (vv := (id : Value → Value)) hX hm hx hk w
  rcases hfi with ⟨h1, h2⟩ | ⟨j, v, h1, h2, h3⟩
  · refine ⟨z, clock, es.push ⟨kv x, z, clock⟩, clock + 1, ?_, .inl ⟨h1, rfl, fun w2 val hw2 => ⟨es.push ⟨kv x, val, clock⟩, clock + 1, ?_, _, _, heap_setBlock_same hw2 _, ?_, ?_, ?_⟩⟩⟩
    · simp [Instr.mapEntry, run_underlying hM, MapKept.run_getObj_map hb, hc, h2, hz, MapKept.run_setObj_map _ hb, Result.andThen, setBlock]
    · have hidx : (es.push ⟨kv x, z, clock⟩).findIdx? (fun e => ((e.born : Nat) : Int) == ((clock : Nat) : Int)) = some es.size := by
        rw [Go.WideElems.findIdx_arr]
        exact Go.WideElems.findIdx_born (l := (es.push ⟨kv x, z, clock⟩).toList) (j := es.size) (e0 := ⟨kv x, z, clock⟩) (by
          simp only [Array.toList_push, List.map_append, List.map_cons, List.map_nil]
          refine List.nodup_append.2 ⟨s2, by simp, fun a ha c hc e1 => ?_⟩
          simp only [List.mem_singleton] at hc
          obtain ⟨y, hy, rfl⟩ := List.mem_map.1 ha
          have := s1 y hy
          omega) (by simp)
      have hmod : (es.push ⟨kv x, z, clock⟩).modify es.size (fun e => { e with val := val }) = es.push ⟨kv x, val, clock⟩ := by
        apply Array.ext'
        rw [Array.toList_modify, Array.toList_push, Array.toList_push, ← Array.length_toList, Go.WideElems.modify_last]
      simp [Instr.entryStore, MapKept.run_getObj_map hw2, asInt, asIntOf, goInt, hidx, hmod, MapKept.run_setObj_map _ hw2, Result.andThen, setBlock]
    · rw [Array.toList_push, List.map_append, hk, List.map_append]; rfl
    · rw [Array.toList_push, List.map_append]
      refine List.nodup_append.2 ⟨s2, by simp, fun a ha c hc e1 => ?_⟩
      simp only [List.map_cons, List.map_nil, List.mem_singleton] at hc
      obtain ⟨y, hy, rfl⟩ := List.mem_map.1 ha
      have := s1 y hy
      omega
    · intro e he
      rw [Array.toList_push] at he
      rcases List.mem_append.1 he with he | he
      · have := s1 e he; omega
      · obtain rfl := List.mem_singleton.1 he
        exact Nat.lt_succ_self _
  · have hl : (es.toList.map (fun e : MapEntry => (e.key, e.val)))[j]? = some (kv x, v) := by rw [hk, List.getElem?_map, h3]; rfl
    rw [List.getElem?_map] at hl
    obtain ⟨e0, h4, h5⟩ : ∃ e0, es.toList[j]? = some e0 ∧ (e0.key, e0.val) = (kv x, v) := by
      cases he : es.toList[j]? with
      | none => rw [he] at hl; cases hl
      | some e0 => rw [he] at hl; exact ⟨e0, rfl, Option.some.inj hl⟩
    injection h5 with h5 h6
    have hj : es[j]? = some e0 := by simpa using h4
    have hsame : es.modify j (fun e => { e with key := kv x }) = es := by
      apply Array.ext'
      rw [Array.toList_modify, modify_eq_set _ _ _ _ h4]
      have : ({ e0 with key := kv x } : MapEntry) = e0 := by rw [← h5]
      rw [this]
      exact Go.WideElems.set_self _ _ _ h4
    have htl : ∀ val, (es.modify j (fun e' => { e' with key := kv x, val := val })).toList = es.toList.set j { e0 with key := kv x, val := val } := fun val => by
      rw [Array.toList_modify, modify_eq_set _ _ _ _ h4]
    refine ⟨v, e0.born, es, clock, ?_, .inr ⟨j, h3, fun w2 val hw2 => ⟨es.modify j (fun e' => { e' with key := kv x, val := val }), clock, ?_, _, _, heap_setBlock_same hw2 _, ?_, ?_, ?_⟩⟩⟩
    · have h2' : (Instr.findKey K (kv x) es.toList).run P w = .ok (some (j, v)) w := h2
      simp [Instr.mapEntry, run_underlying hM, MapKept.run_getObj_map hb, hc, h2', hj, h5, hX.law.stays w hlx, hsame, MapKept.run_setObj_map _ hb, Result.andThen, setBlock]
    · have hidx : es.findIdx? (fun e => ((e.born : Nat) : Int) == ((e0.born : Nat) : Int)) = some j := by
        rw [Go.WideElems.findIdx_arr]
        exact Go.WideElems.findIdx_born s2 h4
      have hmod : es.modify j (fun e => { e with val := val }) = es.modify j (fun e' => { e' with key := kv x, val := val }) := by
        apply Array.ext'
        rw [Array.toList_modify, Array.toList_modify, modify_eq_set _ _ _ _ h4, modify_eq_set _ _ _ _ h4, ← h5]
      simp [Instr.entryStore, MapKept.run_getObj_map hw2, asInt, asIntOf, goInt, hidx, hmod, MapKept.run_setObj_map _ hw2, Result.andThen, setBlock]
    · rw [htl, List.map_set, hk, List.map_set]
    · rw [htl, List.map_set]
      have : (es.toList.map (·.born)).set j e0.born = es.toList.map (·.born) := Go.WideElems.set_self _ _ _ (by rw [List.getElem?_map, h4]; rfl)
      rw [this]
      exact s2
    · intro e he
      rw [htl] at he
      rcases List.mem_or_eq_of_mem_set he with he | rfl
      · exact s1 e he
      · exact s1 e0 (List.mem_of_getElem? h4)
end

theorem thTo_snoc (f : Int) (ms : List (List Int)) (a r : List Int) : thTo f (ms ++ [a]) r = thTo f ms r ++ (if unM f a = r then [mvTo a] else []) := by
  rw [thTo, thTo, List.filter_append, List.map_append]
  by_cases h : unM f a = r <;> simp [h]
theorem thTo_none {f : Int} {ms : List (List Int)} {r : List Int} (h : ∀ x ∈ ms, unM f x ≠ r) : thTo f ms r = [] := by
  rw [thTo, List.filter_eq_nil_iff.2 (fun x hx => by simpa using h x hx)]; rfl
theorem natI_appD (a b : List Nat) : natI (a ++ b) = natI a ++ natI b := List.map_append
/-- The rows of the table: for each round the states to which the moves with it lead. -/
structure RowT (w : World) (B : Nat) (f : Int) (ms : List (List Int)) (m : List (List Int × Value)) : Prop where
  one : ∀ (i j : Nat) (p q : List Int × Value), m[i]? = some p → m[j]? = some q → p.1 = q.1 → i = j
  has : ∀ x ∈ ms, unM f x ∈ m.map Prod.fst
  row : ∀ (i : Nat) (p : List Int × Value), m[i]? = some p → p.1 ∈ ms.map (unM f) ∧ OI w B p.2 (thTo f ms p.1).length (natI (thTo f ms p.1))
  apart : ∀ (i j : Nat) (p q : List Int × Value), i ≠ j → m[i]? = some p → m[j]? = some q → Apart p.2 q.2
variable {w w' : World} {B : Nat} {f : Int} {ms : List (List Int)} {m : List (List Int × Value)}
theorem RowT.nil (w : World) (B : Nat) (f : Int) : RowT w B f [] [] := ⟨by simp, by simp, by simp, by simp⟩
theorem RowT.keep (h : RowT w B f ms m) (hb : Below w.heap.size w w') : RowT w' B f ms m := ⟨h.one, h.has, fun i p hp => ⟨(h.row i p hp).1, (h.row i p hp).2.keep hb⟩, h.apart⟩
theorem RowT.other {E : TypeId} (h : RowT w B f ms m) (hne : 3 ≠ E) (hx : KeepX E w w') : RowT w' B f ms m := ⟨h.one, h.has, fun i p hp => ⟨(h.row i p hp).1, (h.row i p hp).2.other hne hx⟩, h.apart⟩
theorem RowT.new {a : List Int} {v' : Value} (h : RowT w B f ms m) (hx : unM f a ∉ m.map Prod.fst) (hg : w.grownBy w' (Value.slice none 0 0).ownBlock) (hn : NewAt w (.slice none 0 0) v') (hv : OI w' B v' 1 [(mvTo a : Int)]) :
    RowT w' B f (ms ++ [a]) (m ++ [(unM f a, v')]) := by
  have hkey : ∀ (i : Nat) (p : List Int × Value), m[i]? = some p → unM f a ≠ p.1 := fun i p hp e => hx (e ▸ List.mem_map_of_mem (f := Prod.fst) (List.mem_of_getElem? hp))
  have hsp : ∀ (i : Nat) (p : List Int × Value), (m ++ [(unM f a, v')])[i]? = some p → m[i]? = some p ∨ (i = m.length ∧ p = (unM f a, v')) := fun i p hp => by
    by_cases hi : i < m.length
    · rw [List.getElem?_append_left hi] at hp; exact .inl hp
    · rw [List.getElem?_append_right (by omega)] at hp
      have h0 : i - m.length = 0 := by have := (List.getElem?_eq_some_iff.1 hp).1; simpa using this
      rw [h0] at hp
      simp only [List.getElem?_cons_zero, Option.some.injEq] at hp
      exact .inr ⟨by omega, hp.symm⟩
  have hlen : ∀ (i : Nat) (p : List Int × Value), m[i]? = some p → i < m.length := fun i p hp => (List.getElem?_eq_some_iff.1 hp).1
  have hap : ∀ (i : Nat) (p : List Int × Value), m[i]? = some p → Apart p.2 v' := fun i p hp b c hb hc e => by
    have hl := World.ownsRow.lt (h.row i p hp).2 b hb
    rcases hn with hn | hn
    · rw [hn] at hc; cases hc
    · rw [hn] at hc
      simp only [Option.some.injEq] at hc
      omega
  refine ⟨fun i j p q hp hq hpq => ?_, fun x hxm => ?_, fun i p hp => ?_, fun i j p q hij hp hq => ?_⟩
  · rcases hsp i p hp with hp | ⟨rfl, rfl⟩
    · rcases hsp j q hq with hq | ⟨rfl, rfl⟩
      · exact h.one i j p q hp hq hpq
      · exact absurd hpq.symm (hkey i p hp)
    · rcases hsp j q hq with hq | ⟨rfl, rfl⟩
      · exact absurd hpq (hkey j q hq)
      · rfl
  · rw [List.map_append, List.mem_append]
    rcases List.mem_append.1 hxm with hxm | hxm
    · exact .inl (h.has x hxm)
    · obtain rfl := List.mem_singleton.1 hxm
      exact .inr (by simp)
  · rcases hsp i p hp with hp | ⟨rfl, rfl⟩
    · obtain ⟨h1, h2⟩ := h.row i p hp
      refine ⟨by rw [List.map_append]; exact List.mem_append_left _ h1, ?_⟩
      rw [thTo_snoc, if_neg (hkey i p hp), List.append_nil]
      refine h2.kept hg ?_
      by_cases hnn : p.2.ownBlock = none
      · exact .inl hnn
      · exact .inr hnn
    · refine ⟨by rw [List.map_append]; exact List.mem_append_right _ (by simp), ?_⟩
      rw [thTo_snoc, if_pos rfl, thTo_none (r := unM f a) (fun x hxm e => by have h3 := h.has x hxm; rw [e] at h3; exact hx h3)]
      exact hv
  · rcases hsp i p hp with hp | ⟨rfl, rfl⟩
    · rcases hsp j q hq with hq | ⟨rfl, rfl⟩
      · exact h.apart i j p q hij hp hq
      · exact hap i p hp
    · rcases hsp j q hq with hq | ⟨rfl, rfl⟩
      · exact (hap j q hq).symm
      · exact absurd rfl hij
theorem RowT.old {a : List Int} {v v' : Value} {j : Nat} (h : RowT w B f ms m) (hj : m[j]? = some (unM f a, v)) (hg : w.grownBy w' v.ownBlock) (hn : NewAt w v v')
    (hv : OI w' B v' ((thTo f ms (unM f a)).length + 1) (natI (thTo f ms (unM f a)) ++ [(mvTo a : Int)])) : RowT w' B f (ms ++ [a]) (m.set j (unM f a, v')) := by
  have hjl : j < m.length := (List.getElem?_eq_some_iff.1 hj).1
  have hsp : ∀ (i : Nat) (p : List Int × Value), (m.set j (unM f a, v'))[i]? = some p → (i ≠ j ∧ m[i]? = some p) ∨ (i = j ∧ p = (unM f a, v')) := fun i p hp => by
    rw [List.getElem?_set] at hp
    split at hp
    · rename_i e
      subst e
      first | rw [if_pos hjl] at hp | skip
      exact .inr ⟨rfl, (Option.some.inj hp).symm⟩
    · rename_i e
      exact .inl ⟨fun e2 => e e2.symm, hp⟩
  have hkey : ∀ (i : Nat) (p : List Int × Value), i ≠ j → m[i]? = some p → unM f a ≠ p.1 := fun i p hi hp e => hi (h.one i j p _ hp hj e.symm)
  have hap : ∀ (i : Nat) (p : List Int × Value), i ≠ j → m[i]? = some p → Apart p.2 v' := fun i p hi hp b c hb hc e => by
    have hl := World.ownsRow.lt (h.row i p hp).2 b hb
    rcases hn with hn | hn
    · rw [hn] at hc; exact h.apart i j p _ hi hp hj b c hb hc e
    · rw [hn] at hc
      simp only [Option.some.injEq] at hc
      omega
  refine ⟨fun i k p q hp hq hpq => ?_, fun x hxm => ?_, fun i p hp => ?_, fun i k p q hik hp hq => ?_⟩
  · rcases hsp i p hp with ⟨hi, hp'⟩ | ⟨hi, hp'⟩
    · rcases hsp k q hq with ⟨hk, hq'⟩ | ⟨hk, hq'⟩
      · exact h.one i k p q hp' hq' hpq
      · rw [hq'] at hpq; exact absurd hpq.symm (hkey i p hi hp')
    · rcases hsp k q hq with ⟨hk, hq'⟩ | ⟨hk, hq'⟩
      · rw [hp'] at hpq; exact absurd hpq (hkey k q hk hq')
      · rw [hi, hk]
  · have hmem : ∀ y, y ∈ m.map Prod.fst → y ∈ (m.set j (unM f a, v')).map Prod.fst := fun y hy => by
      rw [List.map_set, Go.WideElems.set_self _ _ _ (by rw [List.getElem?_map, hj]; rfl)]; exact hy
    rcases List.mem_append.1 hxm with hxm | hxm
    · exact hmem _ (h.has x hxm)
    · obtain rfl := List.mem_singleton.1 hxm
      exact hmem _ (List.mem_map_of_mem (f := Prod.fst) (List.mem_of_getElem? hj))
  · rcases hsp i p hp with ⟨hi, hp⟩ | ⟨rfl, rfl⟩
    · obtain ⟨h1, h2⟩ := h.row i p hp
      refine ⟨by rw [List.map_append]; exact List.mem_append_left _ h1, ?_⟩
      rw [thTo_snoc, if_neg (hkey i p hi hp), List.append_nil]
      exact h2.kept hg (h.apart i j p _ hi hp hj).ne
    · refine ⟨by rw [List.map_append]; exact List.mem_append_right _ (by simp), ?_⟩
      simp only
      rw [thTo_snoc, if_pos rfl, natI_appD, List.length_append]
      exact hv
  · rcases hsp i p hp with ⟨hi, hp'⟩ | ⟨hi, hp'⟩
    · rcases hsp k q hq with ⟨hk, hq'⟩ | ⟨hk, hq'⟩
      · exact h.apart i k p q hik hp' hq'
      · rw [hq']; exact hap i p hi hp'
    · rcases hsp k q hq with ⟨hk, hq'⟩ | ⟨hk, hq'⟩
      · rw [hp']; exact (hap k q hk hq').symm
      · exact absurd (hi.trans hk.symm) hik
end Go.Proofs.YtiiiegflobihjaaGreat

/- The reference: leads. -/
namespace Go.Proofs.YtiiiegflobihjaaGreat
open Go.RowKit

theorem ldBox {w W1 : World} {m n : Int} {aa ba : Option Addr} {al bl ac bc : Nat} {y0 y1 y2 v z0 z1 z2 z3 : Value} {r0 r1 r2 r3 r4 r5 r6 : Int} (hW1 : W1 = ((((w.alloc (.cells #[.int .i64 m, .slice aa al ac] 24)).alloc (.cells #[.int .i64 n, .slice ba bl bc] 24)).alloc (.cells #[y0, y1, y2, v] 82)).alloc (.cells #[.int .i64 r0, .int .i64 r1, .int .i64 r2, .int .i64 r3, .int .i64 r4, .int .i64 r5, .int .i64 r6] 51)).alloc (.cells #[z0, z1, z2, z3] 82)) :
    Below w.heap.size w W1 ∧ W1.heap[w.heap.size]? = some (.cells #[.int .i64 m, .slice aa al ac] 24) ∧ W1.heap[w.heap.size + 1]? = some (.cells #[.int .i64 n, .slice ba bl bc] 24) ∧ W1.heap[w.heap.size + 1 + 1]? = some (.cells #[y0, y1, y2, v] 82) ∧
      W1.heap[w.heap.size + 1 + 1 + 1]? = some (.cells #[.int .i64 r0, .int .i64 r1, .int .i64 r2, .int .i64 r3, .int .i64 r4, .int .i64 r5, .int .i64 r6] 51) ∧ W1.heap[w.heap.size + 1 + 1 + 1 + 1]? = some (.cells #[z0, z1, z2, z3] 82) ∧ W1.heap.size = w.heap.size + 1 + 1 + 1 + 1 + 1 := by
  obtain ⟨W0, hW0⟩ : ∃ W0, W0 = ((w.alloc (.cells #[.int .i64 m, .slice aa al ac] 24)).alloc (.cells #[.int .i64 n, .slice ba bl bc] 24)).alloc (.cells #[y0, y1, y2, v] 82) := ⟨_, rfl⟩
  obtain ⟨h1, h2, h3, h4⟩ := stBox hW0
  have hz : W0.heap.size = w.heap.size + 1 + 1 + 1 := by rw [hW0]; simp
  rw [← hW0] at hW1
  have hb : Below W0.heap.size W0 W1 := by rw [hW1]; exact ((Below.refl _ _).alloc (Nat.le_refl _) _).alloc (by simp) _
  refine ⟨bt h1 hb h1.size, kept hb h2, kept hb h3, kept hb h4, ?_, ?_, by rw [hW1]; simp [hz]⟩
  · rw [hW1, ← hz]; exact (Below.heap_alloc _ _ _ (by simp)).trans (heap_alloc_new W0 _)
  · rw [hW1, ← hz]
    have := heap_alloc_new (W0.alloc (.cells #[.int .i64 r0, .int .i64 r1, .int .i64 r2, .int .i64 r3, .int .i64 r4, .int .i64 r5, .int .i64 r6] 51)) (.cells #[z0, z1, z2, z3] 82)
    rwa [World.size_alloc] at this
theorem boxSet4 {w : World} {g : Nat} {x0 x1 x2 x3 u0 u1 u2 u3 : Value} {t : TypeId} (h : w.heap[g]? = some (.cells #[x0, x1, x2, x3] t)) : ((((w.setCell ⟨g, 0, none⟩ u0).setCell ⟨g, 1, none⟩ u1).setCell ⟨g, 2, none⟩ u2).setCell ⟨g, 3, none⟩ u3).heap[g]? = some (.cells #[u0, u1, u2, u3] t) := by
  have h0 : (w.setCell ⟨g, 0, none⟩ u0).heap[g]? = some (.cells #[u0, x1, x2, x3] t) := heap_setCell_same _ g 0 _ t u0 h
  have h1 : ((w.setCell ⟨g, 0, none⟩ u0).setCell ⟨g, 1, none⟩ u1).heap[g]? = some (.cells #[u0, u1, x2, x3] t) := heap_setCell_same _ g 1 _ t u1 h0
  have h2 : (((w.setCell ⟨g, 0, none⟩ u0).setCell ⟨g, 1, none⟩ u1).setCell ⟨g, 2, none⟩ u2).heap[g]? = some (.cells #[u0, u1, u2, x3] t) := heap_setCell_same _ g 2 _ t u2 h1
  have h3 : ((((w.setCell ⟨g, 0, none⟩ u0).setCell ⟨g, 1, none⟩ u1).setCell ⟨g, 2, none⟩ u2).setCell ⟨g, 3, none⟩ u3).heap[g]? = some (.cells #[u0, u1, u2, u3] t) := heap_setCell_same _ g 3 _ t u3 h2
  exact h3
theorem keep4 {w : World} {g k : Nat} (hk : k ≠ g) (u0 u1 u2 u3 : Value) : ((((w.setCell ⟨g, 0, none⟩ u0).setCell ⟨g, 1, none⟩ u1).setCell ⟨g, 2, none⟩ u2).setCell ⟨g, 3, none⟩ u3).heap[k]? = w.heap[k]? :=
  (Below.heap_setCell _ _ _ _ hk).trans ((Below.heap_setCell _ _ _ _ hk).trans ((Below.heap_setCell _ _ _ _ hk).trans (Below.heap_setCell _ _ _ _ hk)))
theorem below4 {w W : World} {B g : Nat} (h : Below B w W) (hg : B ≤ g) (u0 u1 u2 u3 : Value) : Below B w ((((W.setCell ⟨g, 0, none⟩ u0).setCell ⟨g, 1, none⟩ u1).setCell ⟨g, 2, none⟩ u2).setCell ⟨g, 3, none⟩ u3) :=
  (((h.setCell (p := ⟨g, 0, none⟩) hg u0).setCell (p := ⟨g, 1, none⟩) hg u1).setCell (p := ⟨g, 2, none⟩) hg u2).setCell (p := ⟨g, 3, none⟩) hg u3
theorem kep11 {a b c d e f g h i j k : Prop} (z : a ∧ b ∧ c ∧ d ∧ e ∧ f ∧ g ∧ h ∧ i ∧ j ∧ k) : a ∧ b ∧ c ∧ d ∧ e ∧ f ∧ g ∧ h ∧ i ∧ j ∧ k := z
/-- What leads hands back. -/
def LdOut (w : World) (y : Nd) (e : Ending) (w' : World) : Prop := ∃ v, e = .returned (sgV y v) ∧ OI w' 0 v y.2.2.length (natI y.2.2) ∧ Below w.heap.size w w'

set_option maxRecDepth 100000 in
set_option maxHeartbeats 1600000 in
theorem refLeadsA {w : World} {u v xv : Value} {m n k : Int} {az bz : List (List (List Int))} (hA : AdvV w u m az) (hB : AdvV w v n bz) (hk : k ≤ 1000) {x : Nd} (h0 : x.2.2 = []) (hx0 : 0 ≤ x.1 ∧ x.1 < k - 1) (hx1 : 0 ≤ x.2.1 ∧ x.2.1 < (az.length : Int)) (r0 r1 r2 r3 r4 r5 r6 : Int) :
    Calls Tryz.prog 45 #[u, v, .int .i64 k, sgV x xv, .agg #[.int .i64 r0, .int .i64 r1, .int .i64 r2, .int .i64 r3, .int .i64 r4, .int .i64 r5, .int .i64 r6]] w (LdOut w (rfTo az bz k x [r0, r1, r2, r3, r4, r5, r6])) := by
  obtain ⟨x0, x1, x2⟩ := x
  simp only at h0 hx0 hx1
  subst h0
  obtain ⟨s, rfl⟩ : ∃ s : Nat, x1 = (s : Int) := ⟨x1.toNat, by omega⟩
  have hs : s < az.length := by omega
  have hr : rfTo az bz k (x0, (s : Int), []) [r0, r1, r2, r3, r4, r5, r6] = (x0 + 1, toI [r0, r1, r2, r3, r4, r5, r6] (az.getD s []), []) := by rw [rfTo, if_pos hx0.2]; rfl
  rw [hr]
  obtain ⟨aa, ac, hu⟩ := advShape' hA
  obtain ⟨ba, bc, hv⟩ := advShape' hB
  subst hu hv
  have hV : sgV (x0, (s : Int), []) xv = .agg #[.int .i64 x0, .int .i64 (s : Int), .int .i64 0, xv] := rfl
  rw [hV]
  obtain ⟨W1, hW1⟩ : ∃ W1, W1 = ((((w.alloc (.cells #[.int .i64 m, .slice aa az.length ac] 24)).alloc (.cells #[.int .i64 n, .slice ba bz.length bc] 24)).alloc (.cells #[.int .i64 x0, .int .i64 (s : Int), .int .i64 0, xv] 82)).alloc (.cells #[.int .i64 r0, .int .i64 r1, .int .i64 r2, .int .i64 r3, .int .i64 r4, .int .i64 r5, .int .i64 r6] 51)).alloc (.cells #[.int .i64 0, .int .i64 0, .int .i64 0, .slice none 0 0] 82) := ⟨_, rfl⟩
  obtain ⟨hb1, kA, kB, kX, kR, kO, hz1⟩ := ldBox hW1
  have HT := Lib.hid (fun W (hb : Below W1.heap.size W1 W) => refTo ((hA.keep hb1).keep hb) hs r0 r1 r2 r3 r4 r5 r6)
  obtain ⟨t, ht⟩ : ∃ t, toI [r0, r1, r2, r3, r4, r5, r6] (az.getD s []) = t := ⟨_, rfl⟩
  rw [ht] at HT ⊢
  have hfin : sgV (x0 + 1, t, []) (.slice none 0 0) = .agg #[.int .i64 (x0 + 1), .int .i64 t, .int .i64 0, .slice none 0 0] := rfl
  have hf := Lib.hid (fun (W : World) (hb : (W.heap[w.heap.size]? = some (.cells #[.int .i64 m, .slice aa az.length ac] 24) ∧ W.heap[w.heap.size + 1 + 1]? = some (.cells #[.int .i64 x0, .int .i64 (s : Int), .int .i64 0, xv] 82) ∧ W.heap[w.heap.size + 1 + 1 + 1]? = some (.cells #[.int .i64 r0, .int .i64 r1, .int .i64 r2, .int .i64 r3, .int .i64 r4, .int .i64 r5, .int .i64 r6] 51))) => show (W.cell? ⟨w.heap.size, 0, none⟩ = some (.int .i64 m) ∧ W.cell? ⟨w.heap.size, 1, none⟩ = some (.slice aa az.length ac) ∧ W.cell? ⟨w.heap.size + 1 + 1, 0, none⟩ = some (.int .i64 x0) ∧ W.cell? ⟨w.heap.size + 1 + 1, 1, none⟩ = some (.int .i64 (s : Int)) ∧
    W.cell? ⟨w.heap.size + 1 + 1 + 1, 0, none⟩ = some (.int .i64 r0) ∧ W.cell? ⟨w.heap.size + 1 + 1 + 1, 1, none⟩ = some (.int .i64 r1) ∧ W.cell? ⟨w.heap.size + 1 + 1 + 1, 2, none⟩ = some (.int .i64 r2) ∧ W.cell? ⟨w.heap.size + 1 + 1 + 1, 3, none⟩ = some (.int .i64 r3) ∧ W.cell? ⟨w.heap.size + 1 + 1 + 1, 4, none⟩ = some (.int .i64 r4) ∧ W.cell? ⟨w.heap.size + 1 + 1 + 1, 5, none⟩ = some (.int .i64 r5) ∧ W.cell? ⟨w.heap.size + 1 + 1 + 1, 6, none⟩ = some (.int .i64 r6)) from
    ⟨box_cell (j := 0) hb.1 rfl, box_cell (j := 1) hb.1 rfl, box_cell (j := 0) hb.2.1 rfl, box_cell (j := 1) hb.2.1 rfl, box_cell (j := 0) hb.2.2 rfl, box_cell (j := 1) hb.2.2 rfl, box_cell (j := 2) hb.2.2 rfl, box_cell (j := 3) hb.2.2 rfl, box_cell (j := 4) hb.2.2 rfl, box_cell (j := 5) hb.2.2 rfl, box_cell (j := 6) hb.2.2 rfl⟩)
  have hG := Lib.hid (fun (W : World) (hb : Below W1.heap.size W1 W) => show (W.heap[w.heap.size]? = some (.cells #[.int .i64 m, .slice aa az.length ac] 24) ∧ W.heap[w.heap.size + 1 + 1]? = some (.cells #[.int .i64 x0, .int .i64 (s : Int), .int .i64 0, xv] 82) ∧ W.heap[w.heap.size + 1 + 1 + 1]? = some (.cells #[.int .i64 r0, .int .i64 r1, .int .i64 r2, .int .i64 r3, .int .i64 r4, .int .i64 r5, .int .i64 r6] 51)) from ⟨kept hb kA, kept hb kX, kept hb kR⟩)
  have hG4 := Lib.hid (fun (W : World) u0 u1 u2 u3 (hb : Below W1.heap.size W1 W) => show (((((W.setCell ⟨w.heap.size + 1 + 1 + 1 + 1, 0, none⟩ u0).setCell ⟨w.heap.size + 1 + 1 + 1 + 1, 1, none⟩ u1).setCell ⟨w.heap.size + 1 + 1 + 1 + 1, 2, none⟩ u2).setCell ⟨w.heap.size + 1 + 1 + 1 + 1, 3, none⟩ u3).heap[w.heap.size]? = some (.cells #[.int .i64 m, .slice aa az.length ac] 24) ∧ ((((W.setCell ⟨w.heap.size + 1 + 1 + 1 + 1, 0, none⟩ u0).setCell ⟨w.heap.size + 1 + 1 + 1 + 1, 1, none⟩ u1).setCell ⟨w.heap.size + 1 + 1 + 1 + 1, 2, none⟩ u2).setCell ⟨w.heap.size + 1 + 1 + 1 + 1, 3, none⟩ u3).heap[w.heap.size + 1 + 1]? = some (.cells #[.int .i64 x0, .int .i64 (s : Int), .int .i64 0, xv] 82) ∧ ((((W.setCell ⟨w.heap.size + 1 + 1 + 1 + 1, 0, none⟩ u0).setCell ⟨w.heap.size + 1 + 1 + 1 + 1, 1, none⟩ u1).setCell ⟨w.heap.size + 1 + 1 + 1 + 1, 2, none⟩ u2).setCell ⟨w.heap.size + 1 + 1 + 1 + 1, 3, none⟩ u3).heap[w.heap.size + 1 + 1 + 1]? = some (.cells #[.int .i64 r0, .int .i64 r1, .int .i64 r2, .int .i64 r3, .int .i64 r4, .int .i64 r5, .int .i64 r6] 51)) from
    ⟨(keep4 (by omega) u0 u1 u2 u3).trans (kept hb kA), (keep4 (by omega) u0 u1 u2 u3).trans (kept hb kX), (keep4 (by omega) u0 u1 u2 u3).trans (kept hb kR)⟩)
  have hO := Lib.hid (fun W (hb : Below W1.heap.size W1 W) => And.intro (kept hb kO) (bt hb1 hb hb1.size))
  have hkd := hf.out W1.drew (hG.out _ (Qt.mk1 W1).below)
  have p0 : W1.cell? ⟨w.heap.size + 1 + 1, 0, none⟩ = some (.int .i64 x0) := box_cell (j := 0) kX rfl
  have hx0k := hx0.2
  have hx00 := hx0.1
  have hw1 : IntKind.i64.wrap (x0 + 1) = x0 + 1 := IntWalk.i64_in _ (by omega)
  have hwk : IntKind.i64.wrap (k - 1) = k - 1 := IntWalk.i64_in _ (by omega)
  replace hz1 := Lib.hid hz1
  replace hfin := Lib.hid hfin
  replace ht := Lib.hid ht
  rw [hW1] at p0
  clear kA kB kX kR kO hr hV hA hB
  go_enter Tryz.func45, Tryz.ntmps45
  go_wp2_with fail
  rw [← hW1]
  replace hW1 := Lib.hid hW1
  clear p0
  go_region_held3 (fun w' => w'.cell? ⟨w.heap.size, 0, none⟩ = some (.int .i64 m) ∧ w'.cell? ⟨w.heap.size, 1, none⟩ = some (.slice aa az.length ac) ∧ w'.cell? ⟨w.heap.size + 1 + 1, 0, none⟩ = some (.int .i64 x0) ∧ w'.cell? ⟨w.heap.size + 1 + 1, 1, none⟩ = some (.int .i64 (s : Int)) ∧
    w'.cell? ⟨w.heap.size + 1 + 1 + 1, 0, none⟩ = some (.int .i64 r0) ∧ w'.cell? ⟨w.heap.size + 1 + 1 + 1, 1, none⟩ = some (.int .i64 r1) ∧ w'.cell? ⟨w.heap.size + 1 + 1 + 1, 2, none⟩ = some (.int .i64 r2) ∧ w'.cell? ⟨w.heap.size + 1 + 1 + 1, 3, none⟩ = some (.int .i64 r3) ∧ w'.cell? ⟨w.heap.size + 1 + 1 + 1, 4, none⟩ = some (.int .i64 r4) ∧ w'.cell? ⟨w.heap.size + 1 + 1 + 1, 5, none⟩ = some (.int .i64 r5) ∧ w'.cell? ⟨w.heap.size + 1 + 1 + 1, 6, none⟩ = some (.int .i64 r6))
    (first
      | (exact kep11 hkd)
      | (exact kep11 (hf.out _ (hG.out _ hbr5)))
      | (exact kep11 (hf.out _ (hG4.out _ _ _ _ _ hbr5)))
      | go_keep)
    (first
      | (go_at_call 81; (with_reducible refine (HT.out _ (Qt.mk1 W1).below).mono ?_); rintro e w5 ⟨rfl, hb5⟩; have hbr5 := btt (Qt.mk1 W1).below hb5; have hA := hO.out w5 hbr5; obtain ⟨y0, y1, y2, y3⟩ := box4 hA.1; have yf := row_free hA.1))
  have kN8 := boxSet4 (u0 := .int .i64 (x0 + 1)) (u1 := .int .i64 t) (u2 := .int .i64 0) (u3 := .slice none 0 0) hA.1
  have hb8 := below4 hA.2 (show w.heap.size ≤ w.heap.size + 1 + 1 + 1 + 1 by omega) (.int .i64 (x0 + 1)) (.int .i64 t) (.int .i64 0) (.slice none 0 0)
  obtain ⟨W8, hW8⟩ : ∃ W8, W8 = ((((w5.setCell ⟨w.heap.size + 1 + 1 + 1 + 1, 0, none⟩ (.int .i64 (x0 + 1))).setCell ⟨w.heap.size + 1 + 1 + 1 + 1, 1, none⟩ (.int .i64 t)).setCell ⟨w.heap.size + 1 + 1 + 1 + 1, 2, none⟩ (.int .i64 0)).setCell ⟨w.heap.size + 1 + 1 + 1 + 1, 3, none⟩ (.slice none 0 0)) := ⟨_, rfl⟩
  rw [← hW8] at kN8 hb8 ⊢
  clear hW8
  obtain ⟨z0, z1, z2, z3⟩ := box4 kN8
  go_wp2
  refine bodyPost_ret (v := .agg #[.int .i64 (x0 + 1), .int .i64 t, .int .i64 0, .slice none 0 0]) (by simp [results, Tryz.results45, go_sem, z0, z1, z2, z3]) rfl ?_
  exact ⟨.slice none 0 0, by rw [hfin.out], OI.nil _ _, hb8⟩
set_option maxRecDepth 100000 in
set_option maxHeartbeats 1600000 in
theorem refLeadsM {w : World} {u v xv : Value} {m n k : Int} {az bz : List (List (List Int))} (hA : AdvV w u m az) (hB : AdvV w v n bz) (hk : k ≤ 1000) {x : Nd} (h0 : x.2.2 = []) (hx0 : 0 ≤ x.1 ∧ x.1 = k - 1) (r0 r1 r2 r3 r4 r5 r6 : Int) :
    Calls Tryz.prog 45 #[u, v, .int .i64 k, sgV x xv, .agg #[.int .i64 r0, .int .i64 r1, .int .i64 r2, .int .i64 r3, .int .i64 r4, .int .i64 r5, .int .i64 r6]] w (LdOut w (rfTo az bz k x [r0, r1, r2, r3, r4, r5, r6])) := by
  obtain ⟨x0, x1, x2⟩ := x
  simp only at h0 hx0
  subst h0
  have hr : rfTo az bz k (x0, x1, []) [r0, r1, r2, r3, r4, r5, r6] = (k, r6, [0]) := by rw [rfTo, if_neg (by simp only; omega), if_pos (by simp only; omega)]; rfl
  rw [hr]
  obtain ⟨aa, ac, hu⟩ := advShape' hA
  obtain ⟨ba, bc, hv⟩ := advShape' hB
  subst hu hv
  have hV : sgV (x0, x1, []) xv = .agg #[.int .i64 x0, .int .i64 x1, .int .i64 0, xv] := rfl
  rw [hV]
  obtain ⟨W1, hW1⟩ : ∃ W1, W1 = ((((w.alloc (.cells #[.int .i64 m, .slice aa az.length ac] 24)).alloc (.cells #[.int .i64 n, .slice ba bz.length bc] 24)).alloc (.cells #[.int .i64 x0, .int .i64 x1, .int .i64 0, xv] 82)).alloc (.cells #[.int .i64 r0, .int .i64 r1, .int .i64 r2, .int .i64 r3, .int .i64 r4, .int .i64 r5, .int .i64 r6] 51)).alloc (.cells #[.int .i64 0, .int .i64 0, .int .i64 0, .slice none 0 0] 82) := ⟨_, rfl⟩
  obtain ⟨hb1, kA, kB, kX, kR, kO, hz1⟩ := ldBox hW1
  have hfin : sgV (k, r6, [0]) (.slice (some ⟨W1.heap.size, 0, none⟩) 1 1) = .agg #[.int .i64 k, .int .i64 0, .int .i64 r6, .slice (some ⟨W1.heap.size, 0, none⟩) 1 1] := rfl
  have p0 : W1.cell? ⟨w.heap.size + 1 + 1, 0, none⟩ = some (.int .i64 x0) := box_cell (j := 0) kX rfl
  have p6 : W1.cell? ⟨w.heap.size + 1 + 1 + 1, 6, none⟩ = some (.int .i64 r6) := box_cell (j := 6) kR rfl
  obtain ⟨WF, hWF⟩ : ∃ WF, WF = ((((w.alloc (.cells #[.int .i64 m, .slice aa az.length ac] 24)).alloc (.cells #[.int .i64 n, .slice ba bz.length bc] 24)).alloc (.cells #[.int .i64 x0, .int .i64 x1, .int .i64 0, xv] 82)).alloc (.cells #[.int .i64 r0, .int .i64 r1, .int .i64 r2, .int .i64 r3, .int .i64 r4, .int .i64 r5, .int .i64 r6] 51)).alloc (.cells #[.int .i64 k, .int .i64 0, .int .i64 r6, .slice (some ⟨w.heap.size + 1 + 1 + 1 + 1 + 1, 0, none⟩) 1 1] 82) := ⟨_, rfl⟩
  obtain ⟨hbF, _, _, _, _, kF, hzF⟩ := ldBox hWF
  obtain ⟨W2, hW2⟩ : ∃ W2, W2 = WF.alloc (.cells #[.int .i64 0] 3) := ⟨_, rfl⟩
  have hb2 : Below WF.heap.size WF W2 := by rw [hW2]; exact (Below.refl _ _).alloc (Nat.le_refl _) _
  have hrow : W2.heap[WF.heap.size]? = some (.cells #[.int .i64 0] 3) := by rw [hW2]; exact heap_alloc_new _ _
  rw [hzF] at hrow
  obtain ⟨z0, z1, z2, z3⟩ := box4 (kept hb2 kF)
  have hOI : OI W2 0 (.slice (some ⟨w.heap.size + 1 + 1 + 1 + 1 + 1, 0, none⟩) 1 1) 1 (natI [0]) := ⟨rfl, .inr ⟨_, 1, _, rfl, Nat.zero_le _, hrow, Nat.le_refl _, by unfold maxLen; omega, rfl, rfl⟩⟩
  have hbf := bt hbF hb2 hbF.size
  have hx0k := hx0.2
  have hx00 := hx0.1
  have hwk : IntKind.i64.wrap (k - 1) = k - 1 := IntWalk.i64_in _ (by omega)
  have hlt1 : k - 1 ≤ x0 := by omega
  have hlt2 : x0 < k := by omega
  rw [hz1] at hfin
  replace hz1 := Lib.hid hz1
  replace hzF := Lib.hid hzF
  replace hfin := Lib.hid hfin
  replace hx0k := Lib.hid hx0k
  replace hWF := Lib.hid hWF
  replace hW2 := Lib.hid hW2
  rw [hW1] at p0 p6
  clear kA kB kX kR kO hr hV hA hB hx0 hrow kF hb2
  go_enter Tryz.func45, Tryz.ntmps45
  go_wp2_with fail
  rw [← hWF.out, ← hW2.out]
  refine bodyPost_ret (v := .agg #[.int .i64 k, .int .i64 0, .int .i64 r6, .slice (some ⟨w.heap.size + 1 + 1 + 1 + 1 + 1, 0, none⟩) 1 1]) (by simp [results, Tryz.results45, go_sem, z0, z1, z2, z3]) rfl ?_
  exact ⟨_, by rw [hfin.out], hOI, hbf⟩
end Go.Proofs.YtiiiegflobihjaaGreat

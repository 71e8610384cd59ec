/- Texts of this claim, put together: DB N0 VA DD. -/
import Derived.Test.YtiiiegflobihjaaGreatKMeetsv
import Derived.Test.YtiiiegflobihjaaGreatKMeetsk
import Derived.Test.YtiiiegflobihjaaGreatKMeetsa
import Derived.WideKeyEntry
import Derived.Test.YtiiiegflobihjaaGreatKMeetsq
import Derived.Test.YtiiiegflobihjaaGreatKMeetsw
import Derived.Test.YtiiiegflobihjaaGreatKMeetsl
import Derived.Deep.OwnRows
import Derived.Test.YtiiiegflobihjaaGreatKMeetsm

/- Maps whose entries are rows of numbers: an entry is read and stored in one statement; the table of rows of combine.sequel. -/
namespace Go.Proofs.YtiiiegflobihjaaGreat
open Go.RowKit Go.ChangeMaps Go.MapKept Go.WideMaps

section
variable {κ : Type}
/-- Block b is the map that holds the pairs of m; its entries have stamps of their own. -/
def MS (kv : κ → Value) (w : World) (b : Nat) (m : List (κ × Value)) : Prop :=
  ∃ es clock, w.heap[b]? = some (.map es clock) ∧ es.toList.map (fun e => (e.key, e.val)) = m.map (fun p => (kv p.1, p.2)) ∧ (es.toList.map (·.born)).Nodup ∧ ∀ e ∈ es.toList, e.born < clock
variable {P : Program} {K E M : TypeId} {kv : κ → Value} {S : κ → Prop} {m : List (κ × Value)} {x : κ} {w : World} {b : Nat}
theorem MS.mx (h : MS kv w b m) : MX kv (id : Value → Value) w b m := by
  obtain ⟨es, c, h1, h2, _⟩ := h; exact ⟨es, c, h1, h2⟩
theorem MS.lt (h : MS kv w b m) : b < w.heap.size := h.mx.lt
theorem MS.keep {w' : World} (h : MS kv w b m) (hb : w'.heap[b]? = w.heap[b]?) : MS kv w' b m := by
  obtain ⟨es, clock, h1, h2⟩ := h; exact ⟨es, clock, hb.trans h1, h2⟩
theorem MS.made (w : World) : MS kv (w.alloc (.map #[] 0)) w.heap.size [] := ⟨#[], 0, heap_alloc_new w _, rfl, by simp, by simp⟩
/-- m[x] = f(m[x]). -/
theorem MS.entry {z : Value} (hX : KeyX P K kv S) (hM : P.underlying M = some (.map K E)) (hz : ∀ u : World, (zeroValue E).run P u = .ok z u) (h : MS kv w b m) (hm : ∀ p ∈ m, S p.1) (hx : S x) :
    ∃ (v0 : Value) (st : Nat) (es1 : Array MapEntry) (c1 : Nat), (Instr.mapEntry M (.map (some b)) (kv x)).run P w = .ok (.tuple #[v0, goInt st]) (setBlock w b (.map es1 c1)) ∧
      ((x ∉ m.map Prod.fst ∧ v0 = z ∧ ∀ (w2 : World) (val : Value), w2.heap[b]? = some (.map es1 c1) → ∃ es2 c2, (Instr.entryStore M (.map (some b)) (goInt st) val).run P w2 = .ok () (setBlock w2 b (.map es2 c2)) ∧ MS kv (setBlock w2 b (.map es2 c2)) b (m ++ [(x, val)])) ∨
       (∃ j, m[j]? = some (x, v0) ∧ ∀ (w2 : World) (val : Value), w2.heap[b]? = some (.map es1 c1) → ∃ es2 c2, (Instr.entryStore M (.map (some b)) (goInt st) val).run P w2 = .ok () (setBlock w2 b (.map es2 c2)) ∧ MS kv (setBlock w2 b (.map es2 c2)) b (m.set j (x, val)))) := by
  obtain ⟨es, clock, hb, hk, s2, s1⟩ := h
  obtain ⟨lx, hlx⟩ := hX.has x hx
  have hc := hX.law.check w false hlx
  have hfi := MX.find (vv := (id : Value → Value)) hX hm hx hk w
  rcases hfi with ⟨h1, h2⟩ | ⟨j, v, h1, h2, h3⟩
  · refine ⟨z, clock, es.push ⟨kv x, z, clock⟩, clock + 1, ?_, .inl ⟨h1, rfl, fun w2 val hw2 => ⟨es.push ⟨kv x, val, clock⟩, clock + 1, ?_, _, _, heap_setBlock_same hw2 _, ?_, ?_, ?_⟩⟩⟩
    · simp [Instr.mapEntry, run_underlying hM, MapKept.run_getObj_map hb, hc, h2, hz, MapKept.run_setObj_map _ hb, Result.andThen, setBlock]
    · have hidx : (es.push ⟨kv x, z, clock⟩).findIdx? (fun e => ((e.born : Nat) : Int) == ((clock : Nat) : Int)) = some es.size := by
        rw [Go.WideElems.findIdx_arr]
        exact Go.WideElems.findIdx_born (l := (es.push ⟨kv x, z, clock⟩).toList) (j := es.size) (e0 := ⟨kv x, z, clock⟩) (by
          simp only [Array.toList_push, List.map_append, List.map_cons, List.map_nil]
          refine List.nodup_append.2 ⟨s2, by simp, fun a ha c hc e1 => ?_⟩
          simp only [List.mem_singleton] at hc
          obtain ⟨y, hy, rfl⟩ := List.mem_map.1 ha
          have := s1 y hy
          omega) (by simp)
      have hmod : (es.push ⟨kv x, z, clock⟩).modify es.size (fun e => { e with val := val }) = es.push ⟨kv x, val, clock⟩ := by
        apply Array.ext'
        rw [Array.toList_modify, Array.toList_push, Array.toList_push, ← Array.length_toList, Go.WideElems.modify_last]
      simp [Instr.entryStore, MapKept.run_getObj_map hw2, asInt, asIntOf, goInt, hidx, hmod, MapKept.run_setObj_map _ hw2, Result.andThen, setBlock]
    · rw [Array.toList_push, List.map_append, hk, List.map_append]; rfl
    · rw [Array.toList_push, List.map_append]
      refine List.nodup_append.2 ⟨s2, by simp, fun a ha c hc e1 => ?_⟩
      simp only [List.map_cons, List.map_nil, List.mem_singleton] at hc
      obtain ⟨y, hy, rfl⟩ := List.mem_map.1 ha
      have := s1 y hy
      omega
    · intro e he
      rw [Array.toList_push] at he
      rcases List.mem_append.1 he with he | he
      · have := s1 e he; omega
      · obtain rfl := List.mem_singleton.1 he
        exact Nat.lt_succ_self _
  · have hl : (es.toList.map (fun e : MapEntry => (e.key, e.val)))[j]? = some (kv x, v) := by rw [hk, List.getElem?_map, h3]; rfl
    rw [List.getElem?_map] at hl
    obtain ⟨e0, h4, h5⟩ : ∃ e0, es.toList[j]? = some e0 ∧ (e0.key, e0.val) = (kv x, v) := by
      cases he : es.toList[j]? with
      | none => rw [he] at hl; cases hl
      | some e0 => rw [he] at hl; exact ⟨e0, rfl, Option.some.inj hl⟩
    injection h5 with h5 h6
    have hj : es[j]? = some e0 := by simpa using h4
    have hsame : es.modify j (fun e => { e with key := kv x }) = es := by
      apply Array.ext'
      rw [Array.toList_modify, modify_eq_set _ _ _ _ h4]
      have : ({ e0 with key := kv x } : MapEntry) = e0 := by rw [← h5]
      rw [this]
      exact Go.WideElems.set_self _ _ _ h4
    have htl : ∀ val, (es.modify j (fun e' => { e' with key := kv x, val := val })).toList = es.toList.set j { e0 with key := kv x, val := val } := fun val => by
      rw [Array.toList_modify, modify_eq_set _ _ _ _ h4]
    refine ⟨v, e0.born, es, clock, ?_, .inr ⟨j, h3, fun w2 val hw2 => ⟨es.modify j (fun e' => { e' with key := kv x, val := val }), clock, ?_, _, _, heap_setBlock_same hw2 _, ?_, ?_, ?_⟩⟩⟩
    · have h2' : (Instr.findKey K (kv x) es.toList).run P w = .ok (some (j, v)) w := h2
      simp [Instr.mapEntry, run_underlying hM, MapKept.run_getObj_map hb, hc, h2', hj, h5, hX.law.stays w hlx, hsame, MapKept.run_setObj_map _ hb, Result.andThen, setBlock]
    · have hidx : es.findIdx? (fun e => ((e.born : Nat) : Int) == ((e0.born : Nat) : Int)) = some j := by
        rw [Go.WideElems.findIdx_arr]
        exact Go.WideElems.findIdx_born s2 h4
      have hmod : es.modify j (fun e => { e with val := val }) = es.modify j (fun e' => { e' with key := kv x, val := val }) := by
        apply Array.ext'
        rw [Array.toList_modify, Array.toList_modify, modify_eq_set _ _ _ _ h4, modify_eq_set _ _ _ _ h4, ← h5]
      simp [Instr.entryStore, MapKept.run_getObj_map hw2, asInt, asIntOf, goInt, hidx, hmod, MapKept.run_setObj_map _ hw2, Result.andThen, setBlock]
    · rw [htl, List.map_set, hk, List.map_set]
    · rw [htl, List.map_set]
      have : (es.toList.map (·.born)).set j e0.born = es.toList.map (·.born) := Go.WideElems.set_self _ _ _ (by rw [List.getElem?_map, h4]; rfl)
      rw [this]
      exact s2
    · intro e he
      rw [htl] at he
      rcases List.mem_or_eq_of_mem_set he with he | rfl
      · exact s1 e he
      · exact s1 e0 (List.mem_of_getElem? h4)
end

theorem thTo_snoc (f : Int) (ms : List (List Int)) (a r : List Int) : thTo f (ms ++ [a]) r = thTo f ms r ++ (if unM f a = r then [mvTo a] else []) := by
  rw [thTo, thTo, List.filter_append, List.map_append]
  by_cases h : unM f a = r <;> simp [h]
theorem thTo_none {f : Int} {ms : List (List Int)} {r : List Int} (h : ∀ x ∈ ms, unM f x ≠ r) : thTo f ms r = [] := by
  rw [thTo, List.filter_eq_nil_iff.2 (fun x hx => by simpa using h x hx)]; rfl
theorem natI_appD (a b : List Nat) : natI (a ++ b) = natI a ++ natI b := List.map_append
/-- The rows of the table: for each round the states to which the moves with it lead. -/
structure RowT (w : World) (B : Nat) (f : Int) (ms : List (List Int)) (m : List (List Int × Value)) : Prop where
  one : ∀ (i j : Nat) (p q : List Int × Value), m[i]? = some p → m[j]? = some q → p.1 = q.1 → i = j
  has : ∀ x ∈ ms, unM f x ∈ m.map Prod.fst
  row : ∀ (i : Nat) (p : List Int × Value), m[i]? = some p → p.1 ∈ ms.map (unM f) ∧ OI w B p.2 (thTo f ms p.1).length (natI (thTo f ms p.1))
  apart : ∀ (i j : Nat) (p q : List Int × Value), i ≠ j → m[i]? = some p → m[j]? = some q → Apart p.2 q.2
variable {w w' : World} {B : Nat} {f : Int} {ms : List (List Int)} {m : List (List Int × Value)}
theorem RowT.nil (w : World) (B : Nat) (f : Int) : RowT w B f [] [] := ⟨by simp, by simp, by simp, by simp⟩
theorem RowT.keep (h : RowT w B f ms m) (hb : Below w.heap.size w w') : RowT w' B f ms m := ⟨h.one, h.has, fun i p hp => ⟨(h.row i p hp).1, (h.row i p hp).2.keep hb⟩, h.apart⟩
theorem RowT.other {E : TypeId} (h : RowT w B f ms m) (hne : 3 ≠ E) (hx : KeepX E w w') : RowT w' B f ms m := ⟨h.one, h.has, fun i p hp => ⟨(h.row i p hp).1, (h.row i p hp).2.other hne hx⟩, h.apart⟩
theorem RowT.new {a : List Int} {v' : Value} (h : RowT w B f ms m) (hx : unM f a ∉ m.map Prod.fst) (hg : w.grownBy w' (Value.slice none 0 0).ownBlock) (hn : NewAt w (.slice none 0 0) v') (hv : OI w' B v' 1 [(mvTo a : Int)]) :
    RowT w' B f (ms ++ [a]) (m ++ [(unM f a, v')]) := by
  have hkey : ∀ (i : Nat) (p : List Int × Value), m[i]? = some p → unM f a ≠ p.1 := fun i p hp e => hx (e ▸ List.mem_map_of_mem (f := Prod.fst) (List.mem_of_getElem? hp))
  have hsp : ∀ (i : Nat) (p : List Int × Value), (m ++ [(unM f a, v')])[i]? = some p → m[i]? = some p ∨ (i = m.length ∧ p = (unM f a, v')) := fun i p hp => by
    by_cases hi : i < m.length
    · rw [List.getElem?_append_left hi] at hp; exact .inl hp
    · rw [List.getElem?_append_right (by omega)] at hp
      have h0 : i - m.length = 0 := by have := (List.getElem?_eq_some_iff.1 hp).1; simpa using this
      rw [h0] at hp
      simp only [List.getElem?_cons_zero, Option.some.injEq] at hp
      exact .inr ⟨by omega, hp.symm⟩
  have hlen : ∀ (i : Nat) (p : List Int × Value), m[i]? = some p → i < m.length := fun i p hp => (List.getElem?_eq_some_iff.1 hp).1
  have hap : ∀ (i : Nat) (p : List Int × Value), m[i]? = some p → Apart p.2 v' := fun i p hp b c hb hc e => by
    have hl := World.ownsRow.lt (h.row i p hp).2 b hb
    rcases hn with hn | hn
    · rw [hn] at hc; cases hc
    · rw [hn] at hc
      simp only [Option.some.injEq] at hc
      omega
  refine ⟨fun i j p q hp hq hpq => ?_, fun x hxm => ?_, fun i p hp => ?_, fun i j p q hij hp hq => ?_⟩
  · rcases hsp i p hp with hp | ⟨rfl, rfl⟩
    · rcases hsp j q hq with hq | ⟨rfl, rfl⟩
      · exact h.one i j p q hp hq hpq
      · exact absurd hpq.symm (hkey i p hp)
    · rcases hsp j q hq with hq | ⟨rfl, rfl⟩
      · exact absurd hpq (hkey j q hq)
      · rfl
  · rw [List.map_append, List.mem_append]
    rcases List.mem_append.1 hxm with hxm | hxm
    · exact .inl (h.has x hxm)
    · obtain rfl := List.mem_singleton.1 hxm
      exact .inr (by simp)
  · rcases hsp i p hp with hp | ⟨rfl, rfl⟩
    · obtain ⟨h1, h2⟩ := h.row i p hp
      refine ⟨by rw [List.map_append]; exact List.mem_append_left _ h1, ?_⟩
      rw [thTo_snoc, if_neg (hkey i p hp), List.append_nil]
      refine h2.kept hg ?_
      by_cases hnn : p.2.ownBlock = none
      · exact .inl hnn
      · exact .inr hnn
    · refine ⟨by rw [List.map_append]; exact List.mem_append_right _ (by simp), ?_⟩
      rw [thTo_snoc, if_pos rfl, thTo_none (r := unM f a) (fun x hxm e => by have h3 := h.has x hxm; rw [e] at h3; exact hx h3)]
      exact hv
  · rcases hsp i p hp with hp | ⟨rfl, rfl⟩
    · rcases hsp j q hq with hq | ⟨rfl, rfl⟩
      · exact h.apart i j p q hij hp hq
      · exact hap i p hp
    · rcases hsp j q hq with hq | ⟨rfl, rfl⟩
      · exact (hap j q hq).symm
      · exact absurd rfl hij
theorem RowT.old {a : List Int} {v v' : Value} {j : Nat} (h : RowT w B f ms m) (hj : m[j]? = some (unM f a, v)) (hg : w.grownBy w' v.ownBlock) (hn : NewAt w v v')
    (hv : OI w' B v' ((thTo f ms (unM f a)).length + 1) (natI (thTo f ms (unM f a)) ++ [(mvTo a : Int)])) : RowT w' B f (ms ++ [a]) (m.set j (unM f a, v')) := by
  have hjl : j < m.length := (List.getElem?_eq_some_iff.1 hj).1
  have hsp : ∀ (i : Nat) (p : List Int × Value), (m.set j (unM f a, v'))[i]? = some p → (i ≠ j ∧ m[i]? = some p) ∨ (i = j ∧ p = (unM f a, v')) := fun i p hp => by
    rw [List.getElem?_set] at hp
    split at hp
    · rename_i e
      subst e
      first | rw [if_pos hjl] at hp | skip
      exact .inr ⟨rfl, (Option.some.inj hp).symm⟩
    · rename_i e
      exact .inl ⟨fun e2 => e e2.symm, hp⟩
  have hkey : ∀ (i : Nat) (p : List Int × Value), i ≠ j → m[i]? = some p → unM f a ≠ p.1 := fun i p hi hp e => hi (h.one i j p _ hp hj e.symm)
  have hap : ∀ (i : Nat) (p : List Int × Value), i ≠ j → m[i]? = some p → Apart p.2 v' := fun i p hi hp b c hb hc e => by
    have hl := World.ownsRow.lt (h.row i p hp).2 b hb
    rcases hn with hn | hn
    · rw [hn] at hc; exact h.apart i j p _ hi hp hj b c hb hc e
    · rw [hn] at hc
      simp only [Option.some.injEq] at hc
      omega
  refine ⟨fun i k p q hp hq hpq => ?_, fun x hxm => ?_, fun i p hp => ?_, fun i k p q hik hp hq => ?_⟩
  · rcases hsp i p hp with ⟨hi, hp'⟩ | ⟨hi, hp'⟩
    · rcases hsp k q hq with ⟨hk, hq'⟩ | ⟨hk, hq'⟩
      · exact h.one i k p q hp' hq' hpq
      · rw [hq'] at hpq; exact absurd hpq.symm (hkey i p hi hp')
    · rcases hsp k q hq with ⟨hk, hq'⟩ | ⟨hk, hq'⟩
      · rw [hp'] at hpq; exact absurd hpq (hkey k q hk hq')
      · rw [hi, hk]
  · have hmem : ∀ y, y ∈ m.map Prod.fst → y ∈ (m.set j (unM f a, v')).map Prod.fst := fun y hy => by
      rw [List.map_set, Go.WideElems.set_self _ _ _ (by rw [List.getElem?_map, hj]; rfl)]; exact hy
    rcases List.mem_append.1 hxm with hxm | hxm
    · exact hmem _ (h.has x hxm)
    · obtain rfl := List.mem_singleton.1 hxm
      exact hmem _ (List.mem_map_of_mem (f := Prod.fst) (List.mem_of_getElem? hj))
  · rcases hsp i p hp with ⟨hi, hp⟩ | ⟨rfl, rfl⟩
    · obtain ⟨h1, h2⟩ := h.row i p hp
      refine ⟨by rw [List.map_append]; exact List.mem_append_left _ h1, ?_⟩
      rw [thTo_snoc, if_neg (hkey i p hi hp), List.append_nil]
      exact h2.kept hg (h.apart i j p _ hi hp hj).ne
    · refine ⟨by rw [List.map_append]; exact List.mem_append_right _ (by simp), ?_⟩
      simp only
      rw [thTo_snoc, if_pos rfl, natI_appD, List.length_append]
      exact hv
  · rcases hsp i p hp with ⟨hi, hp'⟩ | ⟨hi, hp'⟩
    · rcases hsp k q hq with ⟨hk, hq'⟩ | ⟨hk, hq'⟩
      · exact h.apart i k p q hik hp' hq'
      · rw [hq']; exact hap i p hi hp'
    · rcases hsp k q hq with ⟨hk, hq'⟩ | ⟨hk, hq'⟩
      · rw [hp']; exact (hap k q hk hq').symm
      · exact absurd (hi.trans hk.symm) hik
end Go.Proofs.YtiiiegflobihjaaGreat

/- The law's own function split. -/
namespace Go.Proofs.YtiiiegflobihjaaGreat
open Go.RowKit

/-- A slice value of bytes. -/
def U8s (w : World) (v : Value) (ps : List Int) : Prop :=
  ∃ a c b off, v = .slice a ps.length c ∧ (0 < ps.length → a = some ⟨b, off, none⟩) ∧ (∀ j, j < ps.length → w.cell? ⟨b, off + j, none⟩ = some (.int .u8 (ps.getD j 0))) ∧ (∀ x ∈ ps, 0 ≤ x ∧ x ≤ 255) ∧ ps.length ≤ 140737488355328
theorem U8s.keep {w w' : World} {v : Value} {ps : List Int} (h : U8s w v ps) (hb : Below w.heap.size w w') : U8s w' v ps := by
  obtain ⟨a, c, b, off, hv, ha, hc, hl⟩ := h
  exact ⟨a, c, b, off, hv, ha, fun j hj => cell_kept hb (hc j hj), hl⟩
/-- A store of a one-cell element. -/
theorem OwX.store1 {α : Type} {E : TypeId} {El : World → List Value → α → Prop} (hS : Stab E El) {w : World} {B g n cap : Nat} {xs : List α} (h : OwX E 1 El w B (.slice (some ⟨g, 0, none⟩) n cap) n xs) {j : Nat} (hj : j < n) {u : Value} (hu : u.oneCell' = true) {x : α} (hEl : El w [u] x) :
    OwX E 1 El (w.setCell ⟨g, j, none⟩ u) B (.slice (some ⟨g, 0, none⟩) n cap) n (xs.set j x) ∧ w.grownBy (w.setCell ⟨g, j, none⟩ u) (some g) := by
  obtain ⟨vs, h1, h2, h3, h4⟩ := h
  obtain ⟨k1, k2⟩ := World.ownsRow.stored h1 j u
  have hX := KeepX.grown k2 (ownsRow_ty h1)
  have hvl : vs.length = n := by have := h1.1; simpa using this
  refine ⟨⟨vs.set j u, k1, by rw [List.length_set]; exact h2, fun y hy => ?_, fun i y hi => ?_⟩, k2⟩
  · rcases List.mem_or_eq_of_mem_set hy with hy | rfl
    · exact h3 y hy
    · exact hu
  · have hil : i < xs.length := by
      have := (List.getElem?_eq_some_iff.1 hi).1
      rwa [List.length_set] at this
    rw [Nat.mul_one]
    have e1 : ((vs.set j u).drop i).take 1 = [(vs.set j u)[i]'(by rw [List.length_set]; omega)] := by
      rw [List.drop_eq_getElem_cons (by rw [List.length_set]; omega), List.take_succ_cons, List.take_zero]
    rw [e1]
    by_cases e : i = j
    · subst e
      rw [List.getElem?_set_self (by omega)] at hi
      injection hi with hi
      subst hi
      rw [List.getElem_set_self]
      exact hS _ _ _ _ hEl hX
    · rw [List.getElem?_set_ne (fun h => e h.symm)] at hi
      rw [List.getElem_set_ne (fun h => e h.symm)]
      have h5 := h4 i y hi
      rw [Nat.mul_one, List.drop_eq_getElem_cons (by omega), List.take_succ_cons, List.take_zero] at h5
      exact hS _ _ _ _ h5 hX
end Go.Proofs.YtiiiegflobihjaaGreat

/- slices.Compact at rows of ints (as lists of one number). -/
namespace Go.Proofs.YtiiiegflobihjaaGreat
open Go.RowKit

theorem one1 {x : List Int} (h : x.length = 1) : ∃ a, x = [a] := by
  match x, h with
  | [a], _ => exact ⟨a, rfl⟩
theorem CI.all1 {w : World} {b o : Nat} {x0 : Int} (h : CI w b o [x0]) : w.cell? ⟨b, o, none⟩ = some (.int .i64 x0) := h 0 (by simp)
/-- The head of a row, when its tail is set to something else. -/
theorem OwX.setTail1 {w : World} {B g n cap m : Nat} {xs : List (List Int)} (h : OwX 3 1 EI w B (.slice (some ⟨g, 0, none⟩) n cap) n xs) (hm : m ≤ n) (vs : List Value) :
    OwX 3 1 EI (w.setCells g (m * 1) vs) B (.slice (some ⟨g, 0, none⟩) m cap) m (xs.take m) ∧ Below B w (w.setCells g (m * 1) vs) ∧ KeepX 3 w (w.setCells g (m * 1) vs) := by
  have hl := h.length
  obtain ⟨ws, h1, h2, h3, h4⟩ := h
  rcases h1.2 with ⟨h0, _⟩ | ⟨g', cap', cur, he, hB, hg, hc1, hc2, hc3, hc4⟩
  · cases h0
  · injection he with he1 he2 he3
    injection he1 with he1
    injection he1 with he1
    subst he1 he3
    obtain ⟨cur', k1, k2, k3, k4, k5, k6, k7, k8⟩ := setCells_row vs (m * 1) w cur hg
    have hmn : m * 1 ≤ n * 1 := Nat.mul_le_mul_right _ hm
    have hwl : ws.length = n * 1 := h1.1
    have hws : cur'.toList.take (m * 1) = ws.take (m * 1) := by
      rw [k3, ← hc4, List.take_take, Nat.min_eq_left hmn]
    refine ⟨⟨ws.take (m * 1), ⟨by rw [List.length_take]; omega, .inr ⟨g, cap, cur', rfl, hB, k1, by omega, hc2, by rw [k2]; exact hc3, hws⟩⟩, by rw [List.length_take]; omega, fun u hu => h3 u (List.mem_of_mem_take hu), fun j x hj => ?_⟩, ⟨k6, k7, k8, by rw [k5]; exact Nat.le_refl _, fun k hk => k4 k (by omega)⟩, fun k cs t hk ht => k4 k fun e => ?_⟩
    · rw [List.getElem?_take] at hj
      split at hj
      · rename_i hjm
        have := h4 j x hj
        have hjm7 : j * 1 + 1 ≤ m * 1 := by rw [← Nat.succ_mul]; exact Nat.mul_le_mul_right _ hjm
        show _ = _
        rw [List.drop_take, List.take_take, Nat.min_eq_left (by omega)]
        exact this
      · cases hj
    · subst e
      rw [hg] at hk
      injection hk with hk
      injection hk with _ hk
      exact ht hk.symm
end Go.Proofs.YtiiiegflobihjaaGreat

/- slices.Compact of ints: it writes into its own block alone. -/
namespace Go.Proofs.YtiiiegflobihjaaGreat
open Go.RowKit

/-- Nothing changes but block g. -/
def GrG (g : Nat) (w w' : World) : Prop := w.grownBy w' (some g)
theorem GrG.below {g : Nat} {w w' : World} (h : Below w.heap.size w w') : GrG g w w' := ⟨h.os, h.tape, h.output, h.size, fun k hk _ => h.block k hk⟩
theorem GrG.trans {g : Nat} {a b c : World} (h : GrG g a b) (k : GrG g b c) : GrG g a c := World.grownBy.trans h k
theorem GrG.setCell {g : Nat} {w : World} {p : Addr} (hp : p.block = g) (v : Value) : GrG g w (w.setCell p v) := by
  have h := Below.setCell (p := p) (Below.refl 0 w) (Nat.zero_le _) v
  exact ⟨h.os, h.tape, h.output, h.size, fun k hk hne => Below.heap_setCell w p v k (fun e => hne (by rw [e, hp]))⟩
theorem OwX.setTail1G {w : World} {B g n cap m : Nat} {xs : List (List Int)} (h : OwX 3 1 EI w B (.slice (some ⟨g, 0, none⟩) n cap) n xs) (hm : m ≤ n) (vs : List Value) :
    OwX 3 1 EI (w.setCells g (m * 1) vs) B (.slice (some ⟨g, 0, none⟩) m cap) m (xs.take m) ∧ Below B w (w.setCells g (m * 1) vs) ∧ GrG g w (w.setCells g (m * 1) vs) := by
  obtain ⟨h1, h2, _⟩ := OwX.setTail1 h hm vs
  refine ⟨h1, h2, ?_⟩
  obtain ⟨ws, k1, _⟩ := h
  rcases k1.2 with ⟨h0, _⟩ | ⟨g', cap', cur, he, hB, hg, hc1, hc2, hc3, hc4⟩
  · cases h0
  · injection he with he1 he2 he3
    injection he1 with he1
    injection he1 with he1
    subst he1 he3
    obtain ⟨cur', k1, k2, k3, k4, k5, k6, k7, k8⟩ := setCells_row vs (m * 1) w cur hg
    exact ⟨k6, k7, k8, by rw [k5]; exact Nat.le_refl _, fun k _ hk => k4 k (fun e => hk (by rw [e]))⟩
set_option maxRecDepth 100000 in
set_option maxHeartbeats 3200000 in
theorem compactIntG {w : World} {B g n cap : Nat} {xs : List (List Int)} (h : OwX 3 1 EI w B (.slice (some ⟨g, 0, none⟩) n cap) n xs) (hn : n ≤ 1000) :
    Calls Tryz.prog 77 #[.slice (some ⟨g, 0, none⟩) n cap] w fun e w' => ∃ m, e = .returned (.slice (some ⟨g, 0, none⟩) m cap) ∧ OwX 3 1 EI w' B (.slice (some ⟨g, 0, none⟩) m cap) m (cmpc xs) ∧ Below B w w' ∧ GrG g w w' := by
  have hl := h.length
  have hB : B ≤ g := by
    obtain ⟨_, h1, _⟩ := h
    exact (World.ownsRow.lt h1 g rfl).1
  have hnc : n ≤ cap ∧ (cap : Int) ≤ 9223372036854775807 := by
    obtain ⟨_, h1, _⟩ := h
    rcases h1.2 with ⟨h0, _⟩ | ⟨g', cap', cur, he, _, _, hc1, hc2, _⟩
    · cases h0
    · injection he with _ _ he3
      subst he3
      unfold maxLen at hc2
      exact ⟨hc1, by omega⟩
  obtain ⟨hnc1, hnc2⟩ := hnc
  have hxl : ∀ j, j < n → (xs.getD j []).length = 1 := fun j hj => (h.intCells hj).1
  have hcells := Lib.hid (fun j (hj : j < n) => OwX.intCells h hj)
  have hh := Lib.hid h
  have hlh := Lib.hid hl
  have hxlh := Lib.hid hxl
  clear h hl hxl
  have hfin0 : Hid (∀ q, cmpc (xs.take n) = xs.take n → OwX 3 1 EI (w.drewN q) B (.slice (some ⟨g, 0, none⟩) n cap) n (cmpc xs)) := fun q hq => by
    rw [List.take_of_length_le (by rw [hlh.out]; exact Nat.le_refl _)] at hq
    rw [hq]
    exact hh.out.keep (EI.stab _) (below_drewN (Below.refl _ w) q)
  have hBw : Hid (∀ q, Below B w (w.drewN q) ∧ GrG g w (w.drewN q)) := fun q => ⟨below_drewN (Below.refl _ w) q, GrG.below (below_drewN (Below.refl _ w) q)⟩
  by_cases h2 : n < 2
  · have hall : Hid (cmpc (xs.take n) = xs.take n) := by
      show _ = _
      have : n = 0 ∨ n = 1 := by omega
      rcases this with rfl | rfl
      · simp [cmpc]
      · match xs, hlh.out with
        | [x], _ => simp [cmpc]
    have hd : decide ((n : Int) < 2) = true := decide_eq_true (by omega)
    go_enter Tryz.func77, Tryz.ntmps77
    go_wp2
    go_ret
    exact ⟨n, rfl, hfin0.out 0 hall.out, (hBw.out 0).1, (hBw.out 0).2⟩
  · have hd : decide ((n : Int) < 2) = false := decide_eq_false (by omega)
    have h1 : Hid (cmpc (xs.take (0 + 1)) = xs.take (0 + 1)) := by
      show _ = _
      match xs, hlh.out with
      | x :: r, _ => simp [cmpc]
      | [], h => simp at h; omega
    go_enter Tryz.func77, Tryz.ntmps77
    go_wp2_with fail
    go_loopg [3] n (fun f kv wr => ∃ p q : Nat, kv = .int .i64 ((p : Int) + 1) ∧ p + 1 ≤ n ∧ n ≤ p + 1 + f ∧ wr = w.drewN q ∧ Hid (cmpc (xs.take (p + 1)) = xs.take (p + 1)))
    case atStart => exact ⟨0, 0, rfl, by omega, by omega, rfl, h1⟩
    case round =>
      clear h1
      obtain ⟨p, q, rfl, hp, hpf, rfl, hc⟩ := hrel
      by_cases hlt : p + 1 < n
      · obtain ⟨f, rfl⟩ : ∃ f, gk = f + 1 := ⟨gk - 1, by omega⟩
        obtain ⟨hx7, hxc⟩ := hcells.out (p + 1) hlt
        obtain ⟨hy7, hyc⟩ := hcells.out p (by omega)
        rw [Nat.mul_one] at hxc hyc
        obtain ⟨x, hx⟩ : ∃ x, xs.getD (p + 1) [] = x := ⟨_, rfl⟩
        obtain ⟨y, hy⟩ : ∃ y, xs.getD p [] = y := ⟨_, rfl⟩
        have htk := cmpc_take (xs := xs) (m := p) (by rw [hlh.out]; exact hlt)
        rw [hx, hy] at htk
        rw [hx] at hx7 hxc
        rw [hy] at hy7 hyc
        obtain ⟨x0, rfl⟩ := one1 hx7
        obtain ⟨y0, rfl⟩ := one1 hy7
        have c0 := hxc.all1
        have d0 := hyc.all1
        have hix1 : (p : Int) + 1 < (n : Int) := by omega
        have hix0 : (0 : Int) ≤ (p : Int) := by omega
        have hix2 : (0 : Int) ≤ (p : Int) + 1 := by omega
        have hix3 : (p : Int) < (n : Int) := by omega
        have hwr : IntKind.i64.wrap ((p : Int) + 1 - 1) = (p : Int) := by rw [show (p : Int) + 1 - 1 = (p : Int) by omega]; exact IntWalk.i64_in _ (by omega)
        have htn : ((p : Int) + 1).toNat = p + 1 := by omega
        have hty := hy
        have hxt := hx
        clear hxc hyc hx7 hy7 hx hy
        by_cases he : [x0] = [y0]
        · have hE : (x0 == y0) = true := by simpa using he
          have hE2 : (x0 != y0) = false := by simpa using he
          rw [if_pos he.symm, hc.out] at htk
          have htk := Lib.hid htk
          replace hty := Lib.hid hty
          clear he hc hxt
          go_wp2_with fail
          go_quiet (fail)
          go_wp2_with fail
          obtain ⟨N2, hN2⟩ : ∃ N2, n - (p + 1) = N2 := ⟨_, rfl⟩
          obtain ⟨C2, hC2⟩ : ∃ C2, cap - (p + 1) = C2 := ⟨_, rfl⟩
          rw [hN2, hC2]
          have hnN : n = p + 1 + N2 := by omega
          replace hC2 := Lib.hid hC2
          replace hN2 := Lib.hid hN2
          have hnNh := Lib.hid hnN
          have hN2i : (1 : Int) ≤ (N2 : Int) := by omega
          have hs0 : Hid (xs.take (p + 1) = cmpc (xs.take (p + 1 + (0 + 1)))) := htk.out.symm
          have hO0 : OwX 3 1 EI (w.drewN (q + nq)) B (.slice (some ⟨g, 0, none⟩) n cap) n xs := hh.out
          have hb0 : Below B w (w.drewN (q + nq)) := below_drewN (Below.refl _ w) _
          have hk0 : GrG g w (w.drewN (q + nq)) := GrG.below (below_drewN (Below.refl _ w) _)
          have hk0h := Lib.hid hk0
          have hsame : Hid (∀ j, p + 1 ≤ j → xs.getD j [] = xs.getD j []) := fun _ _ => rfl
          clear hnN c0 d0 hE hE2 hix1 hix2 htn hwr hk0
          go_loopg [3, 5] N2 (fun f kv rv wr => ∃ (kk r : Nat) (cs : List (List Int)), kv = .int .i64 ((kk : Nat) : Int) ∧ rv = .int .i64 ((r : Int) + 1) ∧ r + 1 ≤ N2 ∧ N2 ≤ r + 1 + f ∧ kk < p + 1 + (r + 1) ∧ OwX 3 1 EI wr B (.slice (some ⟨g, 0, none⟩) n cap) n cs ∧ Hid (cs.take kk = cmpc (xs.take (p + 1 + (r + 1)))) ∧ Hid (∀ j, kk ≤ j → cs.getD j [] = xs.getD j []) ∧ Below B w wr ∧ Hid (GrG g w wr))
          case atStart => exact ⟨p + 1, 0, xs, by go_num, rfl, by omega, by omega, by omega, hO0, hs0, hsame, hb0, hk0h⟩
          case round =>
            clear hO0 hs0 hsame hb0 hk0h
            obtain ⟨kk, r, cs, rfl, rfl, hr, hrf, hkk, hO, htkk, hsm, hbw, hkx⟩ := hrel
            have hcl := hO.length
            have hOh := Lib.hid hO
            have hnn := hnNh.out
            by_cases hltr : r + 1 < N2
            · obtain ⟨f, rfl⟩ : ∃ f, gk = f + 1 := ⟨gk - 1, by omega⟩
              obtain ⟨hx7, hxc⟩ := hO.intCells (j := p + 1 + (r + 1)) (by omega)
              obtain ⟨hy7, hyc⟩ := hO.intCells (j := p + 1 + r) (by omega)
              obtain ⟨hz7, hzc⟩ := hO.intCells (j := kk) (by omega)
              rw [hsm.out _ (by omega)] at hx7 hxc
              rw [hsm.out _ (by omega)] at hy7 hyc
              rw [Nat.mul_one] at hxc
              rw [Nat.mul_one] at hyc
              rw [Nat.mul_one] at hzc
              obtain ⟨x, hx⟩ : ∃ x, xs.getD (p + 1 + (r + 1)) [] = x := ⟨_, rfl⟩
              obtain ⟨y, hy⟩ : ∃ y, xs.getD (p + 1 + r) [] = y := ⟨_, rfl⟩
              obtain ⟨z, hz⟩ : ∃ z, cs.getD kk [] = z := ⟨_, rfl⟩
              have htt := cmpc_take (xs := xs) (m := p + 1 + r) (by rw [hlh.out]; omega)
              have hput := compact_put (xs := xs) (cs := cs) (m := p + 1 + (r + 1)) (kk := kk) (x := x) (by rw [hcl, hlh.out]) hkk (by rw [hlh.out]; omega) htkk.out hsm.out hx
              rw [show p + 1 + r + 1 = p + 1 + (r + 1) by omega, hx, hy] at htt
              rw [show p + 1 + (r + 1) - 1 = p + 1 + r by omega, hy] at hput
              rw [hx] at hx7 hxc
              rw [hy] at hy7 hyc
              rw [hz] at hz7 hzc
              obtain ⟨x0, rfl⟩ := one1 hx7
              obtain ⟨y0, rfl⟩ := one1 hy7
              obtain ⟨z0, rfl⟩ := one1 hz7
              have c0 := hxc.all1
              have d0 := hyc.all1
              have e0 := hzc.all1
              have hi1 : (r : Int) + 1 < (N2 : Int) := by omega
              have hi2 : (0 : Int) ≤ (r : Int) + 1 := by omega
              have hi3 : (0 : Int) ≤ (r : Int) := by omega
              have hi4 : (r : Int) < (N2 : Int) := by omega
              have hi5 : (kk : Int) < (n : Int) := by omega
              have hN2b : (N2 : Int) ≤ 1000 := by omega
              have hkkb : (kk : Int) ≤ 1000 := by omega
              have htn : ((r : Int) + 1).toNat = r + 1 := by omega
              have hwr : IntKind.i64.wrap ((r : Int) + 1 - 1) = (r : Int) := by rw [show (r : Int) + 1 - 1 = (r : Int) by omega]; exact IntWalk.i64_in _ (by omega)
              have hwr2 : IntKind.i64.wrap (r : Int) = (r : Int) := IntWalk.i64_in _ (by omega)
              clear hxc hyc hzc hx7 hy7 hz7 hx hy hz hO
              by_cases he : [x0] = [y0]
              · have hE : (x0 == y0) = true := by simpa using he
                have hE2 : (x0 != y0) = false := by simpa using he
                rw [if_pos he.symm] at htt
                have htt2 : Hid (cs.take kk = cmpc (xs.take (p + 1 + (r + 1 + 1)))) := htkk.out.trans htt.symm
                clear he htt hput
                replace hnn := Lib.hid hnn
                replace hcl := Lib.hid hcl
                go_wp2_with fail
                go_quiet (fail)
                clear hwr hwr2 htn
                go_wp2_with fail
                go_roundg f
                case measure => omega
                case rel => exact ⟨kk, r + 1, cs, rfl, by go_num, by omega, by omega, by omega, hOh.out, htt2, hsm, below_drewN hbw _, hkx.out.trans (GrG.below (below_drewN (Below.refl _ _) _))⟩
              · have hE : (x0 == y0) = false := by simpa using he
                have hE2 : (x0 != y0) = true := by simpa using he
                obtain ⟨hp1, hp2⟩ := hput (fun h => he h.symm)
                have hp1h := Lib.hid hp1
                have hp2h := Lib.hid hp2
                have hst : Hid (∀ d, OwX 3 1 EI ((wr.drewN d).setCell ⟨g, kk, none⟩ (.int .i64 x0)) B (.slice (some ⟨g, 0, none⟩) n cap) n (cs.set kk [x0])) := fun d => (OwX.store1 (EI.stab _) (OwX.keep (EI.stab _) hOh.out (below_drewN (Below.refl _ _) d)) (by omega) (u := .int .i64 x0) rfl (x := [x0]) rfl).1
                have hst3 : Hid (∀ d, Below B w ((wr.drewN d).setCell ⟨g, kk, none⟩ (.int .i64 x0))) := fun d => Below.setCell (p := ⟨g, kk, none⟩) (below_drewN hbw d) hB _
                have hst2 : Hid (∀ d, GrG g w ((wr.drewN d).setCell ⟨g, kk, none⟩ (.int .i64 x0))) := fun d => by
                  exact (hkx.out.trans (GrG.below (below_drewN (Below.refl _ _) d))).trans (GrG.setCell (by rfl) _)
                have hfz : ∀ j, wr.frozen? ⟨g, j, none⟩ = false := fun j => hOh.out.frozen j
                have f0 := hfz kk
                clear he htt hput hp1 hp2 hfz
                replace hnn := Lib.hid hnn
                replace hcl := Lib.hid hcl
                go_wp2_with fail
                go_quiet (fail)
                clear hwr hwr2 htn
                go_wp2_with fail
                go_roundg f
                case measure => omega
                case rel => exact ⟨kk + 1, r + 1, cs.set kk [x0], by go_num, by go_num, by omega, by omega, by omega, hst.out _, hp1h, hp2h, hst3.out _, hst2.out _⟩
            · have hrN : r + 1 = N2 := by omega
              have hfz : ∀ j, wr.frozen? ⟨g, j, none⟩ = false := fun j => hO.frozen j
              have hcs : ∀ j, j < n - kk → (wr.cell? ⟨g, kk + j, none⟩).isSome = true := fun j hj => by
                obtain ⟨k7, kc⟩ := hO.intCells (j := kk + j) (by omega)
                have h1 := kc 0 (by rw [k7]; decide)
                rw [Nat.mul_one, Nat.add_zero] at h1
                rw [h1]; rfl
              have hcl7 := fun ty => Lib.run_clear_slice (P := Tryz.prog) wr 78 3 ty (.int .i64 0) (by kernel_rfl) (fun w => by kernel_rfl) rfl rfl g kk (n - kk) (cap - kk) (by omega) hcs (fun j _ => hfz _)
              obtain ⟨Z, hZ⟩ : ∃ Z, List.replicate (n - kk) (Value.int .i64 0) = Z := ⟨_, rfl⟩
              simp only [hZ] at hcl7
              obtain ⟨t1, t2, t3⟩ := OwX.setTail1G hO (m := kk) (by omega) Z
              rw [htkk.out, List.take_of_length_le (by rw [hlh.out]; omega)] at t1
              rw [Nat.mul_one] at t1 t2 t3
              obtain ⟨W2, hW2⟩ : ∃ W2, wr.setCells g kk Z = W2 := ⟨_, rfl⟩
              rw [hW2] at t1 t2 t3
              simp only [hW2] at hcl7
              have hfin := Lib.hid t1
              have hkf := Lib.hid (hkx.out.trans t3)
              have hbf := hbw.trans t2
              have hk1 : (kk : Int) ≤ (n : Int) := by omega
              have hkn : kk < n := by omega
              have hkc : kk < cap := by omega
              have hk2 : (kk : Int) ≤ (cap : Int) := by omega
              have hge : decide ((r : Int) + 1 < (N2 : Int)) = false := decide_eq_false (by omega)
              clear t1 t2 t3 hO hOh hfz hcs hZ hW2 htkk hkx hsm
              replace hnn := Lib.hid hnn
              replace hcl := Lib.hid hcl
              replace hrN := Lib.hid hrN
              go_wp2
              go_ret
              exact ⟨kk, rfl, hfin.out, hbf, hkf.out⟩
        · have hE : (x0 == y0) = false := by simpa using he
          have hE2 : (x0 != y0) = true := by simpa using he
          rw [if_neg (fun h => he h.symm), hc.out] at htk
          have htk2 : Hid (cmpc (xs.take (p + 1 + 1)) = xs.take (p + 1 + 1)) := by show _ = _; rw [htk, ← hxt]; exact (take_snoc (by rw [hlh.out]; exact hlt) []).symm
          clear he hc hty htk hxt
          go_wp2_with fail
          go_quiet (fail)
          go_wp2_with fail
          go_roundg f
          case measure => omega
          case rel => exact ⟨p + 1, _, by go_num, by omega, by omega, (by first | exact rfl | exact World.drewN_drewN _ _ _), htk2⟩
      · obtain rfl : n = p + 1 := by omega
        have hfin := Lib.hid (hfin0.out q hc.out)
        obtain ⟨b1, b2⟩ := hBw.out q
        have b2h := Lib.hid b2
        clear hc b2
        go_wp2_with fail
        go_ret
        exact ⟨p + 1, by first | rfl | (congr 2; done), hfin.out, b1, b2h.out⟩
end Go.Proofs.YtiiiegflobihjaaGreat

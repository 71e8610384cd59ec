/- Texts of this claim, put together: Lib Rl QA MX KL RK Own. -/
import Derived.Test.YtiiiegflobihjaaGreatProg
import Derived.WalkKit
import Derived.WalkSpells
import Derived.WalkLawsBesides
import Derived.Deep.QuietTactic
import Derived.BigQuiet
import Derived.Lib.Hide
import Derived.ProofKit
import Derived.OpenShut
import Derived.Deep.DeepHandedRow
import Derived.Deep.Slices
import Derived.SizedLaws
import Derived.WideKeyArgs
import Derived.OpenVars
import Derived.ChangeCalls
import Derived.Maps.Own
import Derived.DeepKeys5
import Derived.StringKeys
import Derived.Maps.AppendAt

/- What a slice value reads as: plain predicates on worlds, and how they are kept; no program in sight. -/
namespace Go.Proofs.YtiiiegflobihjaaGreat
open Go.RowKit

/-- Draws alone. -/
def Qt (w w' : World) : Prop := ∃ n, w' = w.drewN n
theorem Qt.refl (w : World) : Qt w w := ⟨0, rfl⟩
theorem Qt.mk' (w : World) (n : Nat) : Qt w (w.drewN n) := ⟨n, rfl⟩
theorem Qt.trans {a b c : World} (h : Qt a b) (k : Qt b c) : Qt a c := by
  obtain ⟨n, rfl⟩ := h; obtain ⟨m, rfl⟩ := k; exact ⟨n + m, by simp⟩
theorem Qt.below {a b : World} (h : Qt a b) : Below a.heap.size a b := by
  obtain ⟨n, rfl⟩ := h; exact below_drewN (Below.refl _ _) n
/-- The frame of every call: what was there stands. -/
theorem bt {a b c : World} {B : Nat} (h : Below B a b) (k : Below b.heap.size b c) (hB : B ≤ b.heap.size) : Below B a c := h.trans (k.mono hB)
theorem btt {a b c : World} (h : Below a.heap.size a b) (k : Below b.heap.size b c) : Below a.heap.size a c := h.trans (k.mono h.size)

theorem cell_kept {w w' : World} (h : Below w.heap.size w w') {p : Addr} {v : Value} (hc : w.cell? p = some v) : w'.cell? p = some v :=
  (h.cell (World.block_lt_of_cell? w p hc)).trans hc

/-- The cells of ints. -/
def CI (w : World) (b off : Nat) (xs : List Int) : Prop := ∀ j, j < xs.length → w.cell? ⟨b, off + j, none⟩ = some (.int .i64 (xs.getD j 0))
theorem CI.keep {w w' : World} {b off : Nat} {xs : List Int} (h : CI w b off xs) (hb : Below w.heap.size w w') : CI w' b off xs := fun j hj => cell_kept hb (h j hj)
/-- A slice value of ints. -/
def Ints (w : World) (v : Value) (xs : List Int) : Prop :=
  ∃ a c b off, v = .slice a xs.length c ∧ (0 < xs.length → a = some ⟨b, off, none⟩) ∧ CI w b off xs ∧ xs.length ≤ 17592186044416

theorem Ints.keep {w w' : World} {v : Value} {xs : List Int} (h : Ints w v xs) (hb : Below w.heap.size w w') : Ints w' v xs := by
  obtain ⟨a, c, b, off, hv, ha, hc, hl⟩ := h
  exact ⟨a, c, b, off, hv, ha, hc.keep hb, hl⟩
theorem Ints.drew {w : World} {v : Value} {xs : List Int} (h : Ints w v xs) (n : Nat) : Ints (w.drewN n) v xs := h
theorem Ints.len {w : World} {v : Value} {xs : List Int} (h : Ints w v xs) : xs.length ≤ 17592186044416 := h.choose_spec.choose_spec.choose_spec.choose_spec.2.2.2
theorem Ints.nil (w : World) (a : Option Addr) (c : Nat) : Ints w (.slice a 0 c) [] := ⟨a, c, 0, 0, rfl, by simp, by intro j hj; simp at hj, by simp⟩

/-- The cells of slices of ints. -/
def CII (w : World) (b off : Nat) (xs : List (List Int)) : Prop := ∀ j, j < xs.length → ∃ u, w.cell? ⟨b, off + j, none⟩ = some u ∧ Ints w u (xs.getD j [])
theorem CII.keep {w w' : World} {b off : Nat} {xs : List (List Int)} (h : CII w b off xs) (hb : Below w.heap.size w w') : CII w' b off xs :=
  fun j hj => let ⟨u, h1, h2⟩ := h j hj; ⟨u, cell_kept hb h1, h2.keep hb⟩
/-- A slice value of slices of ints. -/
def Intss (w : World) (v : Value) (xs : List (List Int)) : Prop :=
  ∃ a c b off, v = .slice a xs.length c ∧ (0 < xs.length → a = some ⟨b, off, none⟩) ∧ CII w b off xs ∧ xs.length ≤ 5864062014805

theorem Intss.keep {w w' : World} {v : Value} {xs : List (List Int)} (h : Intss w v xs) (hb : Below w.heap.size w w') : Intss w' v xs := by
  obtain ⟨a, c, b, off, hv, ha, hc, hl⟩ := h
  exact ⟨a, c, b, off, hv, ha, hc.keep hb, hl⟩
theorem Intss.len {w : World} {v : Value} {xs : List (List Int)} (h : Intss w v xs) : xs.length ≤ 5864062014805 := h.choose_spec.choose_spec.choose_spec.choose_spec.2.2.2

theorem getD_eq {α : Type} {xs : List α} {k : Nat} (h : k < xs.length) (d : α) : xs.getD k d = xs[k] := by simp [h]
theorem take_snoc {α : Type} {xs : List α} {k : Nat} (h : k < xs.length) (d : α) : xs.take (k + 1) = xs.take k ++ [xs.getD k d] := by
  rw [List.take_succ_eq_append_getElem h, getD_eq h]
theorem drop_cons {α : Type} {xs : List α} {k : Nat} (h : k < xs.length) (d : α) : xs.drop k = xs.getD k d :: xs.drop (k + 1) := by
  rw [getD_eq h, List.drop_eq_getElem_cons h]
theorem ret_bool {a b : Bool} (h : a = b) : Ending.returned (.bool a) = .returned (.bool b) := by rw [h]
theorem ret_int {k : IntKind} {a b : Int} (h : a = b) : Ending.returned (.int k a) = .returned (.int k b) := by rw [h]
end Go.Proofs.YtiiiegflobihjaaGreat

/- What every row of this seat needs: arguments opened as lists, the row's last step for a law that returns true and leaves the memory alone. -/
namespace Go.Proofs.YtiiiegflobihjaaGreat
open Go.RowKit Go.ChangeShapes Go.WideShapes Go.ChangeAt Go.Deep Go.WideElems

section
variable {H : Type} {enc : TypeId × Value → H} {P : Program}

theorem trodAll_stays (hl : laidOutB P = true) {W W' : World} {sp' : Nat → Bool} : ∀ {ts : List TypeId} {vs : List Value} {ds : List (DataW H)} {ps : List MemPlace},
    (∀ t ∈ ts, P.readableRec t = true ∧ t < P.types.size) → DataW.TrodAll enc P W 0 (fun _ => true) true ts vs ds ps → (∀ p ∈ ps, W.sameAt W' p) → (∀ p ∈ ps, sp' p.block = true) → DataW.TrodAll enc P W' 0 sp' true ts vs ds ps
  | [], [], [], _, _, h, _, _ => h
  | [], [], _ :: _, _, _, h, _, _ => h.elim
  | [], _ :: _, _, _, _, h, _, _ => h.elim
  | _ :: _, [], _, _, _, h, _, _ => h.elim
  | _ :: _, _ :: _, [], _, _, h, _, _ => h.elim
  | t :: ts, v :: vs, d :: ds, ps, hr, h, hsame, hs => by
    obtain ⟨p, q, h1, h2, rfl⟩ := h
    have ht := hr t (by simp)
    exact ⟨p, q, Trod_stays hl ht.1 ht.2 h1 (fun x hx => hsame x (by simp [hx])) (fun x hx => hs x (by simp [hx])),
      trodAll_stays hl (fun t ht => hr t (by simp [ht])) h2 (fun x hx => hsame x (by simp [hx])) (fun x hx => hs x (by simp [hx])), rfl⟩

theorem law_post {f : Func} {s : ChangeSpec} {W W' : World} {args : Array Value} {ds gs : List (DataW H)} {before : List MemPlace} (hl : laidOutB P = true) (tb : TypeId) (htb : P.underlying tb = some .bool) (hrt : f.resultTypes = #[tb]) (hv : s.vars = [])
    (hr : f.params.toList.all (fun t => P.readableRec t && decide (t < P.types.size)) = true)
    (hs : ∀ ds : List (DataW H), ds.length = f.params.size → s.fn H ds = { results := [.lit (.bool true)], args := ds })
    (hW : DataW.Whole enc P f.params.toList s.vars false W args.toList ds gs before) (hb : Below W.heap.size W W') :
    s.post enc P f false true false false W args (.bool true) W' := by
  have hlt : ∀ p ∈ before, p.block < W.heap.size := fun p hp => hW.lt p hp
  have hold : ∀ p ∈ before, (fun b => decide (b < W.heap.size)) p.block = true := fun p hp => by simpa using hlt p hp
  have hW0 := hW
  obtain ⟨p, q, hA, hV, hpq, hz, hn⟩ := hW
  have hg : gs = [] ∧ q = [] := by
    rw [hv] at hV
    cases gs with
    | nil => exact ⟨rfl, hV⟩
    | cons => exact hV.elim
  obtain ⟨rfl, rfl⟩ := hg
  rw [List.append_nil] at hpq
  subst hpq
  have hdl : ds.length = f.params.size := by
    have := (Go.trodAll_length hA).2
    simpa using this
  have hfn := hs (ds ++ []) (by simpa using hdl)
  rw [List.append_nil] at hfn
  have hr' : ∀ t ∈ f.params.toList, P.readableRec t = true ∧ t < P.types.size := fun t ht => by
    have := List.all_eq_true.1 hr t ht
    simpa using this
  have hres : ∀ (b : Nat) (sp : Nat → Bool) (hd : Bool), DataW.TrodAll enc P W' b sp hd [tb] [.bool true] [.lit (.bool true)] [] := fun b sp hd => trodAll_cons_mk (shut_bool htb _) trodAll_mk0
  have hargs : ∀ sp : Nat → Bool, (∀ x ∈ before, sp x.block = true) → DataW.TrodAll enc P W' 0 sp true f.params.toList args.toList ds before := fun sp hsp =>
    trodAll_stays hl hr' hA (fun x hx => hb.same (hlt x hx)) hsp
  refine ⟨ds, [], before, [], before, [], hW0, ?_, ?_, ?_, ?_, fun h => by cases h⟩
  · rw [hrt, List.append_nil, hfn]
    exact hres _ _ _
  · rw [List.append_nil, hfn]
    exact hargs _ hold
  · rw [List.append_nil, hfn, hv]
    exact rfl
  · exact World.keptBut_mono (fun x hx => ⟨hx, .inr (.inl hx)⟩) (hb.frame (· ∈ before))

theorem addr_spot {w : World} {a : Addr} {v : Value} (h : w.cell? a = some v) : a = ⟨a.block, a.off, none⟩ := by
  unfold World.cell? at h
  split at h
  · split at h
    · cases h
    · rename_i hs
      cases a with
      | mk b o s =>
        cases s with
        | none => rfl
        | some x => simp at hs
  · cases h

end
end Go.Proofs.YtiiiegflobihjaaGreat

/- Labels by first occurrence: plain lists. -/
namespace Go.Proofs.YtiiiegflobihjaaGreat
section
variable {κ : Type} [DecidableEq κ]

/-- The different keys, in the order of their first occurrence, behind those that were seen. -/
def dd : List κ → List κ → List κ
  | seen, [] => seen
  | seen, k :: r => dd (if k ∈ seen then seen else seen ++ [k]) r
theorem dd_sub : ∀ {ks seen : List κ} {x : κ}, x ∈ seen → x ∈ dd seen ks
  | [], _, _, h => h
  | k :: r, seen, x, h => by rw [dd]; exact dd_sub (by split; exact h; exact List.mem_append_left _ h)
theorem dd_mem : ∀ {ks seen : List κ} {x : κ}, x ∈ ks → x ∈ dd seen ks
  | k :: r, seen, x, h => by
    rw [dd]
    rcases List.mem_cons.1 h with rfl | h
    · exact dd_sub (by split; assumption; simp)
    · exact dd_mem h
theorem mem_dd : ∀ {ks seen : List κ} {x : κ}, x ∈ dd seen ks → x ∈ seen ∨ x ∈ ks
  | [], _, _, h => .inl h
  | k :: r, seen, x, h => by
    rw [dd] at h
    rcases mem_dd h with h | h
    · split at h
      · exact .inl h
      · rcases List.mem_append.1 h with h | h
        · exact .inl h
        · exact .inr (by rw [List.mem_singleton.1 h]; simp)
    · exact .inr (by simp [h])
theorem dd_nodup : ∀ {ks seen : List κ}, seen.Nodup → (dd seen ks).Nodup
  | [], _, h => h
  | k :: r, seen, h => by
    rw [dd]
    refine dd_nodup ?_
    split
    · exact h
    · rename_i hk
      rw [List.nodup_append]
      refine ⟨h, by simp, fun a ha b hb => ?_⟩
      rw [List.mem_singleton.1 hb]
      rintro rfl
      exact hk ha
theorem dd_pre : ∀ (ks seen : List κ), ∃ t, dd seen ks = seen ++ t
  | [], seen => ⟨[], by simp [dd]⟩
  | k :: r, seen => by
    rw [dd]
    split
    · exact dd_pre r seen
    · obtain ⟨t, ht⟩ := dd_pre r (seen ++ [k])
      exact ⟨[k] ++ t, by rw [ht, List.append_assoc]⟩
theorem dd_app : ∀ (ks ks' seen : List κ), dd seen (ks ++ ks') = dd (dd seen ks) ks'
  | [], _, _ => rfl
  | k :: r, ks', seen => by rw [List.cons_append, dd, dd, dd_app r]
theorem dd_le : ∀ (ks seen : List κ), (dd seen ks).length ≤ seen.length + ks.length
  | [], seen => by simp [dd]
  | k :: r, seen => by
    rw [dd]
    refine Nat.le_trans (dd_le r _) ?_
    split <;> simp <;> omega
theorem idxOf_pre {seen t : List κ} {k : κ} (h : k ∈ seen) : (seen ++ t).idxOf k = seen.idxOf k := by
  rw [List.idxOf_append, if_pos h]
end

section
variable {κ κ' : Type} [DecidableEq κ] [DecidableEq κ']
end
end Go.Proofs.YtiiiegflobihjaaGreat

/- Maps as lists of pairs. -/
namespace Go.Proofs.YtiiiegflobihjaaGreat
open Go.RowKit Go.ChangeMaps Go.MapKept Go.WideMaps

section
variable {κ ν : Type}
/-- Block b is the map that holds the pairs of m, in the order in which they came. -/
def MX (kv : κ → Value) (vv : ν → Value) (w : World) (b : Nat) (m : List (κ × ν)) : Prop :=
  ∃ es clock, w.heap[b]? = some (.map es clock) ∧ es.toList.map (fun e => (e.key, e.val)) = m.map (fun p => (kv p.1, vv p.2))
/-- Keys of type K. -/
structure KeyX (P : Program) (K : TypeId) (kv : κ → Value) (S : κ → Prop) : Prop where
  law : Maps.Keyed P K
  has : ∀ x, S x → ∃ l, keyOf P K (kv x) = some l
  inj : ∀ x y, S x → S y → kv x = kv y → x = y
variable {P : Program} {K E M : TypeId} {kv : κ → Value} {vv : ν → Value} {S : κ → Prop} {m : List (κ × ν)} {x : κ} {w : World} {b : Nat}

theorem MX.lt (h : MX kv vv w b m) : b < w.heap.size := by
  obtain ⟨es, clock, hb, _⟩ := h; exact (Array.getElem?_eq_some_iff.1 hb).1
theorem MX.keep {w' : World} (h : MX kv vv w b m) (hb : w'.heap[b]? = w.heap[b]?) : MX kv vv w' b m := by
  obtain ⟨es, clock, h1, h2⟩ := h; exact ⟨es, clock, hb.trans h1, h2⟩
theorem MX.made (w : World) : MX kv vv (w.alloc (.map #[] 0)) w.heap.size [] := ⟨#[], 0, heap_alloc_new w _, rfl⟩
theorem MX.find (hX : KeyX P K kv S) (hm : ∀ p ∈ m, S p.1) (hx : S x) {l : List MapEntry} (h : l.map (fun e => (e.key, e.val)) = m.map (fun p => (kv p.1, vv p.2))) (w : World) :
    (x ∉ m.map Prod.fst ∧ (Instr.findKey K (kv x) l).run P w = .ok none w) ∨ (∃ j v, (x, v) ∈ m ∧ (Instr.findKey K (kv x) l).run P w = .ok (some (j, vv v)) w ∧ m[j]? = some (x, v)) := by
  obtain ⟨lx, hlx⟩ := hX.has x hx
  have hk : ∀ (j : Nat) (e : MapEntry), l[j]? = some e → ∃ p : κ × ν, m[j]? = some p ∧ e.key = kv p.1 ∧ e.val = vv p.2 := by
    intro j e he
    have h1 : (l.map (fun e : MapEntry => (e.key, e.val)))[j]? = some (e.key, e.val) := by rw [List.getElem?_map, he]; rfl
    rw [h, List.getElem?_map] at h1
    cases hp : m[j]? with
    | none => rw [hp] at h1; cases h1
    | some p =>
      rw [hp] at h1
      simp only [Option.map_some, Option.some.injEq, Prod.mk.injEq] at h1
      exact ⟨p, rfl, h1.1.symm, h1.2.symm⟩
  have hks : ∀ e ∈ l, ∃ k, keyOf P K e.key = some k := fun e he => by
    obtain ⟨j, hj⟩ := List.mem_iff_getElem?.1 he
    obtain ⟨p, hp, h1, _⟩ := hk j e hj
    rw [h1]; exact hX.has _ (hm p (List.mem_of_getElem? hp))
  rcases hX.law.find w hlx l hks with ⟨h1, h2⟩ | ⟨j, e, h1, h2, h3⟩
  · refine .inl ⟨fun hin => ?_, h1⟩
    obtain ⟨p, hp, rfl⟩ := List.mem_map.1 hin
    have : (kv p.1, vv p.2) ∈ l.map (fun e : MapEntry => (e.key, e.val)) := h ▸ List.mem_map_of_mem (f := fun p : κ × ν => (kv p.1, vv p.2)) hp
    obtain ⟨e, he, hek⟩ := List.mem_map.1 this
    injection hek with h3 _
    exact h2 e he h3
  · obtain ⟨q, hq, hq1, hq2⟩ := hk j e h2
    have hqx : q.1 = x := hX.inj _ _ (hm q (List.mem_of_getElem? hq)) hx (by rw [← hq1, h3])
    refine .inr ⟨j, q.2, ?_, by rw [h1, hq2], ?_⟩
    · rw [← hqx]; exact List.mem_of_getElem? hq
    · rw [hq, ← hqx]

/-- v, ok := m[x] and m[x]. -/
theorem MX.look {z : Value} (hX : KeyX P K kv S) (hM : P.underlying M = some (.map K E)) (hz : (zeroValue E).run P w = .ok z w) (h : MX kv vv w b m) (hm : ∀ p ∈ m, S p.1) (hx : S x) :
    (x ∉ m.map Prod.fst ∧ (Instr.lookup M (.map (some b)) (kv x) false).run P w = .ok z w ∧ (Instr.lookup M (.map (some b)) (kv x) true).run P w = .ok (.tuple #[z, .bool false]) w) ∨
    (∃ v, (x, v) ∈ m ∧ (Instr.lookup M (.map (some b)) (kv x) false).run P w = .ok (vv v) w ∧ (Instr.lookup M (.map (some b)) (kv x) true).run P w = .ok (.tuple #[vv v, .bool true]) w) := by
  obtain ⟨es, clock, hb, hk⟩ := h
  obtain ⟨lx, hlx⟩ := hX.has x hx
  have hc := fun e => hX.law.check w e hlx
  rcases MX.find hX hm hx hk w with ⟨h1, h2⟩ | ⟨j, v, h1, h2, _⟩
  · refine .inl ⟨h1, ?_, ?_⟩ <;> simp [Instr.lookup, run_underlying hM, MapKept.run_getObj_map hb, hc, h2, Result.andThen, hz]
  · refine .inr ⟨v, h1, ?_, ?_⟩ <;> simp [Instr.lookup, run_underlying hM, MapKept.run_getObj_map hb, hc, h2, Result.andThen]

/-- m[x] = v, x new. -/
theorem MX.put (hX : KeyX P K kv S) (hM : P.underlying M = some (.map K E)) (h : MX kv vv w b m) (hm : ∀ p ∈ m, S p.1) (hx : S x) (hn : x ∉ m.map Prod.fst) (v : ν) :
    ∃ o, (Instr.mapUpdate M (.map (some b)) (kv x) (vv v)).run P w = .ok () (setBlock w b o) ∧ MX kv vv (setBlock w b o) b (m ++ [(x, v)]) := by
  obtain ⟨es, clock, hb, hk⟩ := h
  obtain ⟨lx, hlx⟩ := hX.has x hx
  have hc := hX.law.check w false hlx
  rcases MX.find hX hm hx hk w with ⟨h1, h2⟩ | ⟨j, v', h1, _⟩
  · refine ⟨.map (es.push ⟨kv x, vv v, clock⟩) (clock + 1), ?_, _, _, heap_setBlock_same hb _, ?_⟩
    · simp [Instr.mapUpdate, run_underlying hM, MapKept.run_getObj_map hb, hc, h2, MapKept.run_setObj_map _ hb, Result.andThen, setBlock]
    · rw [Array.toList_push, List.map_append, hk, List.map_append]; rfl
  · exact absurd (List.mem_map.2 ⟨_, h1, rfl⟩) hn

/-- len(m). -/
theorem MX.len {ty : TypeId} (hM : P.underlying M = some (.map K E)) (h : MX kv vv w b m) : (Builtin.len_ #[M] ty #[.map (some b)]).run P w = .ok (.int .i64 (m.length : Int)) w := by
  obtain ⟨es, clock, hb, hk⟩ := h
  have hl : es.size = m.length := by have := congrArg List.length hk; simpa using this
  simp [Builtin.len_, run_underlying hM, MapKept.run_getObj_map hb, Result.andThen, goInt, hl]
end
/-- A turned block. -/
theorem setBlock_keep {w : World} {b k : Nat} (o : Obj) (h : k ≠ b) : (setBlock w b o).heap[k]? = w.heap[k]? := by
  simp only [setBlock]
  rw [Array.getElem?_setIfInBounds_ne (by omega)]
theorem setBlock_below {w0 w : World} {B b : Nat} (h : Below B w0 w) (hB : B ≤ b) (o : Obj) : Below B w0 (setBlock w b o) :=
  h.trans ⟨rfl, rfl, rfl, by simp [setBlock], fun k hk => setBlock_keep o (by omega)⟩
end Go.Proofs.YtiiiegflobihjaaGreat

/- Flat structs of ints, and slices of them: plain predicates on worlds; no program in sight. -/
namespace Go.Proofs.YtiiiegflobihjaaGreat
open Go.RowKit

/-- Elements of k ints each, from some cell on. -/
def CK (k : Nat) (w : World) (b off : Nat) (xs : List (List Int)) : Prop := ∀ j, j < xs.length → (xs.getD j []).length = k ∧ CI w b (off + j * k) (xs.getD j [])
theorem CK.keep {k : Nat} {w w' : World} {b off : Nat} {xs : List (List Int)} (h : CK k w b off xs) (hb : Below w.heap.size w w') : CK k w' b off xs :=
  fun j hj => ⟨(h j hj).1, (h j hj).2.keep hb⟩

/-- A slice of structs of k ints. -/
def KS (k : Nat) (w : World) (v : Value) (xs : List (List Int)) : Prop :=
  ∃ a c b off, v = .slice a xs.length c ∧ (0 < xs.length → a = some ⟨b, off, none⟩) ∧ CK k w b off xs ∧ xs.length ≤ 2199023255552
theorem KS.keep {k : Nat} {w w' : World} {v : Value} {xs : List (List Int)} (h : KS k w v xs) (hb : Below w.heap.size w w') : KS k w' v xs := by
  obtain ⟨a, c, b, off, hv, ha, hc, hl⟩ := h
  exact ⟨a, c, b, off, hv, ha, hc.keep hb, hl⟩
theorem KS.shape {k : Nat} {w : World} {v : Value} {xs : List (List Int)} (h : KS k w v xs) : ∃ a c, v = .slice a xs.length c := by
  obtain ⟨a, c, _, _, hv, _⟩ := h; exact ⟨a, c, hv⟩
theorem KS.nil (k : Nat) (w : World) (a : Option Addr) (c : Nat) : KS k w (.slice a 0 c) [] := ⟨a, c, 0, 0, rfl, by simp, by intro j hj; simp at hj, by simp⟩

/-- Slices of structs of k ints, in cells. -/
def CKK (k : Nat) (w : World) (b off : Nat) (xs : List (List (List Int))) : Prop := ∀ j, j < xs.length → ∃ u, w.cell? ⟨b, off + j, none⟩ = some u ∧ KS k w u (xs.getD j [])
theorem CKK.keep {k : Nat} {w w' : World} {b off : Nat} {xs : List (List (List Int))} (h : CKK k w b off xs) (hb : Below w.heap.size w w') : CKK k w' b off xs :=
  fun j hj => let ⟨u, h1, h2⟩ := h j hj; ⟨u, cell_kept hb h1, h2.keep hb⟩
/-- A slice of slices of structs of k ints. -/
def KSS (k : Nat) (w : World) (v : Value) (xs : List (List (List Int))) : Prop :=
  ∃ a c b off, v = .slice a xs.length c ∧ (0 < xs.length → a = some ⟨b, off, none⟩) ∧ CKK k w b off xs ∧ xs.length ≤ 5864062014805
theorem KSS.keep {k : Nat} {w w' : World} {v : Value} {xs : List (List (List Int))} (h : KSS k w v xs) (hb : Below w.heap.size w w') : KSS k w' v xs := by
  obtain ⟨a, c, b, off, hv, ha, hc, hl⟩ := h
  exact ⟨a, c, b, off, hv, ha, hc.keep hb, hl⟩
theorem KSS.shape {k : Nat} {w : World} {v : Value} {xs : List (List (List Int))} (h : KSS k w v xs) : ∃ a c, v = .slice a xs.length c := by
  obtain ⟨a, c, _, _, hv, _⟩ := h; exact ⟨a, c, hv⟩

/-- A list of eight, of seven, of six ints in full. -/
theorem eight {x : List Int} (h : x.length = 8) : ∃ a b c d e f g i, x = [a, b, c, d, e, f, g, i] := by
  match x, h with
  | [a, b, c, d, e, f, g, i], _ => exact ⟨a, b, c, d, e, f, g, i, rfl⟩
theorem seven {x : List Int} (h : x.length = 7) : ∃ a b c d e f g, x = [a, b, c, d, e, f, g] := by
  match x, h with
  | [a, b, c, d, e, f, g], _ => exact ⟨a, b, c, d, e, f, g, rfl⟩
theorem six {x : List Int} (h : x.length = 6) : ∃ a b c d e f, x = [a, b, c, d, e, f] := by
  match x, h with
  | [a, b, c, d, e, f], _ => exact ⟨a, b, c, d, e, f, rfl⟩
/-- Its cells. -/
theorem CI.all8 {w : World} {b o : Nat} {x0 x1 x2 x3 x4 x5 x6 x7 : Int} (h : CI w b o [x0, x1, x2, x3, x4, x5, x6, x7]) :
    w.cell? ⟨b, o, none⟩ = some (.int .i64 x0) ∧ w.cell? ⟨b, o + 1, none⟩ = some (.int .i64 x1) ∧ w.cell? ⟨b, o + 2, none⟩ = some (.int .i64 x2) ∧ w.cell? ⟨b, o + 3, none⟩ = some (.int .i64 x3) ∧
    w.cell? ⟨b, o + 4, none⟩ = some (.int .i64 x4) ∧ w.cell? ⟨b, o + 5, none⟩ = some (.int .i64 x5) ∧ w.cell? ⟨b, o + 6, none⟩ = some (.int .i64 x6) ∧ w.cell? ⟨b, o + 7, none⟩ = some (.int .i64 x7) :=
  ⟨h 0 (by simp), h 1 (by simp), h 2 (by simp), h 3 (by simp), h 4 (by simp), h 5 (by simp), h 6 (by simp), h 7 (by simp)⟩
theorem CI.all7 {w : World} {b o : Nat} {x0 x1 x2 x3 x4 x5 x6 : Int} (h : CI w b o [x0, x1, x2, x3, x4, x5, x6]) :
    w.cell? ⟨b, o, none⟩ = some (.int .i64 x0) ∧ w.cell? ⟨b, o + 1, none⟩ = some (.int .i64 x1) ∧ w.cell? ⟨b, o + 2, none⟩ = some (.int .i64 x2) ∧ w.cell? ⟨b, o + 3, none⟩ = some (.int .i64 x3) ∧
    w.cell? ⟨b, o + 4, none⟩ = some (.int .i64 x4) ∧ w.cell? ⟨b, o + 5, none⟩ = some (.int .i64 x5) ∧ w.cell? ⟨b, o + 6, none⟩ = some (.int .i64 x6) :=
  ⟨h 0 (by simp), h 1 (by simp), h 2 (by simp), h 3 (by simp), h 4 (by simp), h 5 (by simp), h 6 (by simp)⟩
end Go.Proofs.YtiiiegflobihjaaGreat

/- Rounds as keys of maps; ints, texts as keys. -/
namespace Go.Proofs.YtiiiegflobihjaaGreat
open Go.RowKit Go.ChangeMaps Go.MapKept Go.WideMaps

def rdV (r : List Int) : Value := .agg (r.map (Value.int .i64)).toArray
def WfR (r : List Int) : Prop := r.length = 7 ∧ ∀ x ∈ r, 0 ≤ x ∧ x ≤ 1000000
theorem und_int : Tryz.prog.underlying 3 = some (.int .i64) := by kernel_rfl
theorem typesSize : ∃ m, Tryz.prog.types.size = m + 3 := ⟨Tryz.prog.types.size - 3, by
  have : decide (2 < Tryz.prog.types.size) = true := by kernel_rfl
  have := of_decide_eq_true this
  omega⟩
theorem litI {x : Int} (m : Nat) (h : 0 ≤ x ∧ x ≤ 1000000) : Tryz.prog.keyLits (m + 1) 3 [.int .i64 x] = some [.int .i64 x] := by
  unfold Program.keyLits
  simp only [und_int]
  rw [if_pos ⟨trivial, WalkArith.wf_i64 (by omega)⟩]
theorem lawRd : Maps.Keyed Tryz.prog 51 := Maps.Keyed.of_law (deep_law_gate (by kernel_rfl) (of_decide_eq_true (by kernel_rfl)) (of_decide_eq_true (by kernel_rfl)) (by kernel_rfl) (by kernel_rfl))
theorem litA {h0 h1 h2 h3 h4 : Int} (m : Nat) (g0 : 0 ≤ h0 ∧ h0 ≤ 1000000) (g1 : 0 ≤ h1 ∧ h1 ≤ 1000000) (g2 : 0 ≤ h2 ∧ h2 ≤ 1000000) (g3 : 0 ≤ h3 ∧ h3 ≤ 1000000) (g4 : 0 ≤ h4 ∧ h4 ≤ 1000000) :
    Tryz.prog.keyLits (m + 2) 47 [.int .i64 h0, .int .i64 h1, .int .i64 h2, .int .i64 h3, .int .i64 h4] = some [.int .i64 h0, .int .i64 h1, .int .i64 h2, .int .i64 h3, .int .i64 h4] := by
  have u5 : Tryz.prog.underlying 47 = some (.array 5 3) := by kernel_rfl
  have c5 : Tryz.prog.cellsOf 47 = 5 := by kernel_rfl
  have c1 : Tryz.prog.cellsOf 3 = 1 := by kernel_rfl
  rw [show m + 2 = (m + 1) + 1 from rfl]
  conv => lhs; unfold Program.keyLits
  simp only [u5, c5, c1, show List.range 5 = [0, 1, 2, 3, 4] from rfl]
  rw [if_pos (by rfl)]
  simp only [List.mapM_cons, List.mapM_nil, List.drop, List.take, Nat.mul_one]
  rw [litI m g0, litI m g1, litI m g2, litI m g3, litI m g4]
  rfl
theorem keyRd {n h0 h1 h2 h3 h4 f : Int} (g : 0 ≤ n ∧ n ≤ 1000000) (g0 : 0 ≤ h0 ∧ h0 ≤ 1000000) (g1 : 0 ≤ h1 ∧ h1 ≤ 1000000) (g2 : 0 ≤ h2 ∧ h2 ≤ 1000000) (g3 : 0 ≤ h3 ∧ h3 ≤ 1000000) (g4 : 0 ≤ h4 ∧ h4 ≤ 1000000) (gf : 0 ≤ f ∧ f ≤ 1000000) :
    ∃ l, keyOf Tryz.prog 51 (.agg #[.int .i64 n, .int .i64 h0, .int .i64 h1, .int .i64 h2, .int .i64 h3, .int .i64 h4, .int .i64 f]) = some l := by
  obtain ⟨m, hm⟩ := typesSize
  have c7 : Tryz.prog.cellsOf 51 = 7 := by kernel_rfl
  have c6 : Tryz.prog.cellsOf 49 = 6 := by kernel_rfl
  have c5 : Tryz.prog.cellsOf 47 = 5 := by kernel_rfl
  have c1 : Tryz.prog.cellsOf 3 = 1 := by kernel_rfl
  have hk : Tryz.prog.keyType 51 = true := by kernel_rfl
  have uR := Tryz.underlying51
  have uG := Tryz.underlying49
  have hA := litA (m + 0) g0 g1 g2 g3 g4
  have hG : Tryz.prog.keyLits (m + 3) 49 [.int .i64 n, .int .i64 h0, .int .i64 h1, .int .i64 h2, .int .i64 h3, .int .i64 h4] = some [.int .i64 n, .int .i64 h0, .int .i64 h1, .int .i64 h2, .int .i64 h3, .int .i64 h4] := by
    rw [show m + 3 = (m + 2) + 1 from rfl]
    conv => lhs; unfold Program.keyLits
    simp only [uG, c6]
    rw [if_pos (by exact ⟨rfl, by kernel_rfl⟩)]
    simp only [List.mapM_cons, List.mapM_nil, List.drop, List.take, c5, c1]
    rw [litI (m + 1) g, hA]
    rfl
  refine ⟨.string (keyBytes [.int .i64 n, .int .i64 h0, .int .i64 h1, .int .i64 h2, .int .i64 h3, .int .i64 h4, .int .i64 f]), ?_⟩
  unfold keyOf
  simp only [uR]
  rw [if_pos (by simp [hk, Value.formed, uR, c7]), hm]
  conv => lhs; unfold Program.keyLits
  simp only [uR, c7, Value.cells]
  rw [if_pos (by exact ⟨rfl, by kernel_rfl⟩)]
  simp only [List.mapM_cons, List.mapM_nil, List.drop, List.take, c6, c1]
  rw [hG, litI (m + 2) gf]
  rfl
theorem keyX_round : KeyX Tryz.prog 51 rdV WfR where
  law := lawRd
  has := fun r ⟨h7, hw⟩ => by
    obtain ⟨a, b, c, d, e, f, g, rfl⟩ := seven h7
    exact keyRd (hw _ (by simp)) (hw _ (by simp)) (hw _ (by simp)) (hw _ (by simp)) (hw _ (by simp)) (hw _ (by simp)) (hw _ (by simp))
  inj := fun x y _ _ h => by
    simp only [rdV, Value.agg.injEq, Array.mk.injEq] at h
    exact (List.map_inj_right (fun a b hab => by injection hab)).1 h
end Go.Proofs.YtiiiegflobihjaaGreat

/- Rows that a call makes itself: one-cell elements, made whole, stored into, appended to; no program in sight but for two element types' rows. -/
namespace Go.Proofs.YtiiiegflobihjaaGreat
open Go.RowKit

/-- T is a slice of E; E takes one cell and some bytes. -/
def ElemOK (P : Program) (T E : TypeId) (z : Value) (bytes : Nat) : Prop :=
  P.underlying T = some (.slice E) ∧ (P.info? E).map (fun i => (i.zero, i.size, i.bytes)) = some (some z, 1, bytes) ∧ z.cells = #[z]

theorem elemInt : ElemOK Tryz.prog 78 3 (.int .i64 0) 8 := ⟨by kernel_rfl, by kernel_rfl, rfl⟩

theorem grownBy_alloc_trans {w w' : World} {o : Obj} {row : Option Nat} (h : (w.alloc o).grownBy w' row) : w.grownBy w' row :=
  (World.grownBy_alloc w o row).trans h

/-- append(s, y), y in a new box. -/
theorem wpApp1 {P : Program} {T E : TypeId} {z : Value} {bytes : Nat} (hE : ElemOK P T E z bytes) (hby : bytes ≤ 64) {w0 : World} {y : Value} {t : TypeId}
    {ops : Array Oper} {rest : List Oper} {o : Oper} {a : Act} {Q : Exit → Act → World → Prop} (hgd : o.guard = none) (s x : Operand)
    (ho : o.op = .call { callee := .builtin .append, args := #[s, x], argTypes := #[T, T] })
    {B : Nat} {v : Value} {n : Nat} {xs : List Value} (hs : a.eval s = v) (hown : w0.ownsRow B E 1 v n xs) (hx : a.eval x = .slice (some ⟨w0.heap.size, 0, none⟩) 1 1)
    (hy : y.oneCell' = true) (hn : n ≤ 1000000000000) (hB : B ≤ w0.heap.size)
    (h : ∀ v' w', w'.ownsRow B E 1 v' (n + 1) (xs ++ [y]) → w0.grownBy w' v.ownBlock → Below B w0 w' → wpList P ops Q rest (a.put o.dst v') w') :
    wpList P ops Q (o :: rest) a (w0.alloc (.cells #[y] t)) := by
  obtain ⟨i0, hi, hz0, hz1, hz2⟩ := info_parts hE.2.1
  refine wpList_append_own (w0.alloc (.cells #[y] t)) hgd s x T ho B E i0 z 1 bytes hE.1 hi hz0 hz1 hz2 (by rw [hE.2.2]; rfl) (by decide) v n xs hs (hown.alloc _) ⟨w0.heap.size, 0, none⟩ 1 1 [y] hx rfl (cell_one_new _ _ _) (by simpa using hy) (by unfold maxLen; omega) ?_ (by simp; omega) fun v' w' h1 h2 _ => ?_
  · have : (n + 1) * bytes ≤ 1000000000001 * 64 := Nat.mul_le_mul (by omega) hby
    omega
  · refine h v' w' h1 (grownBy_alloc_trans h2) ?_
    exact ((Below.refl B w0).alloc hB _).grown h2 (by simp; omega) (fun k hk => (hown.lt k hk).1)

/-- make([]T, n). -/
theorem wpMake {P : Program} {T E : TypeId} {z : Value} {bytes : Nat} (hE : ElemOK P T E z bytes) (hby : bytes ≤ 64) {w : World}
    {ops : Array Oper} {rest : List Oper} {o : Oper} {a : Act} {Q : Exit → Act → World → Prop} (hgd : o.guard = none) (l c : Operand)
    (ho : o.op = .makeSlice T l c) (n : Nat) (hl : a.eval l = .int .i64 (n : Int)) (hc : a.eval c = .int .i64 (n : Int)) (hn : n ≤ 1000000000000) {B : Nat} (hB : B ≤ w.heap.size)
    (h : ∀ w', w'.ownsRow B E 1 (.slice (some ⟨w.heap.size, 0, none⟩) n n) n (List.replicate n z) → w.grownBy w' none → Below w.heap.size w w' → wpList P ops Q rest (a.put o.dst (.slice (some ⟨w.heap.size, 0, none⟩) n n)) w') :
    wpList P ops Q (o :: rest) a w := by
  obtain ⟨i0, hi, hz0, hz1, hz2⟩ := info_parts hE.2.1
  have hmul : bytes * n ≤ 64 * 1000000000000 := Nat.mul_le_mul hby hn
  refine wpList_make_full w hgd l c T ho B E i0 z 1 hE.1 hi hz0 hz1 .i64 .i64 _ _ n hl hc rfl rfl (by rw [hz2]; omega) (by unfold maxLen; omega) hB fun w' h1 h2 => ?_
  rw [hE.2.2, Nat.mul_one, toList_madeCells_one] at h1
  exact h w' h1 h2 ((Below.refl w.heap.size w).grown h2 (Nat.le_refl _) (fun k hk => by cases hk))

/-- A row of ints that was made since block B. -/
def OI (w : World) (B : Nat) (v : Value) (n : Nat) (xs : List Int) : Prop := w.ownsRow B 3 1 v n (xs.map (Value.int .i64))
theorem OI.length {w : World} {B : Nat} {v : Value} {n : Nat} {xs : List Int} (h : OI w B v n xs) : xs.length = n := by have := h.1; simpa using this
theorem OI.keep {w w' : World} {B : Nat} {v : Value} {n : Nat} {xs : List Int} (h : OI w B v n xs) (hb : Below w.heap.size w w') : OI w' B v n xs := by
  refine ⟨h.1, ?_⟩
  rcases h.2 with h' | ⟨g, cap, cur, h1, h2, h3, h4⟩
  · exact .inl h'
  · exact .inr ⟨g, cap, cur, h1, h2, (hb.block g (Array.getElem?_eq_some_iff.1 h3).1).trans h3, h4⟩
theorem OI.base {w : World} {B B' : Nat} {v : Value} {n : Nat} {xs : List Int} (h : OI w B v n xs) (hb : B' ≤ B) : OI w B' v n xs := by
  refine ⟨h.1, ?_⟩
  rcases h.2 with h' | ⟨g, cap, cur, h1, h2, h3⟩
  · exact .inl h'
  · exact .inr ⟨g, cap, cur, h1, by omega, h3⟩
theorem OI.shape {w : World} {B : Nat} {v : Value} {n : Nat} {xs : List Int} (h : OI w B v n xs) : ∃ a c, v = .slice a n c := by
  rcases h.2 with ⟨rfl, rfl⟩ | ⟨g, cap, cur, rfl, _⟩
  · exact ⟨_, _, rfl⟩
  · exact ⟨_, _, rfl⟩
theorem OI.own {w : World} {B n : Nat} {v : Value} {xs : List Int} (h : OI w B v n xs) : OI w 0 v xs.length xs := by obtain rfl := h.length; exact h.base (Nat.zero_le _)
theorem OI.nil (w : World) (B : Nat) : OI w B (.slice none 0 0) 0 [] := World.ownsRow_nil w B 3 1
/-- A store into it. -/
theorem OI.store {w : World} {B g n cap : Nat} {xs : List Int} (h : OI w B (.slice (some ⟨g, 0, none⟩) n cap) n xs) (j : Nat) (y : Int) :
    OI (w.setCell ⟨g, j, none⟩ (.int .i64 y)) B (.slice (some ⟨g, 0, none⟩) n cap) n (xs.set j y) ∧ w.grownBy (w.setCell ⟨g, j, none⟩ (.int .i64 y)) (some g) := by
  have := World.ownsRow.stored h j (.int .i64 y)
  unfold OI
  rw [List.map_set]
  exact this
theorem OI.cell {w : World} {B g n cap : Nat} {xs : List Int} (h : OI w B (.slice (some ⟨g, 0, none⟩) n cap) n xs) {j : Nat} (hj : j < n) : w.cell? ⟨g, j, none⟩ = some (.int .i64 (xs.getD j 0)) := by
  have hl := h.length
  rw [World.ownsRow.cellAt h j (by omega)]
  simp [show j < xs.length by omega]
theorem OI.free {w : World} {B g n cap : Nat} {xs : List Int} (h : OI w B (.slice (some ⟨g, 0, none⟩) n cap) n xs) (j : Nat) : w.frozen? ⟨g, j, none⟩ = false := World.ownsRow.frozenAt h j
/-- append(s, y) of ints. -/
theorem wpAppI {w0 : World} {y : Int} {t : TypeId} {ops : Array Oper} {rest : List Oper} {o : Oper} {a : Act} {Q : Exit → Act → World → Prop} (hgd : o.guard = none) (s x : Operand)
    (ho : o.op = .call { callee := .builtin .append, args := #[s, x], argTypes := #[78, 78] })
    {B : Nat} {v : Value} {n : Nat} {xs : List Int} (hs : a.eval s = v) (hown : OI w0 B v n xs) (hx : a.eval x = .slice (some ⟨w0.heap.size, 0, none⟩) 1 1)
    (hn : n ≤ 1000000000000) (hB : B ≤ w0.heap.size)
    (h : ∀ v' w', OI w' B v' (n + 1) (xs ++ [y]) → w0.grownBy w' v.ownBlock → Below B w0 w' → wpList Tryz.prog ops Q rest (a.put o.dst v') w') :
    wpList Tryz.prog ops Q (o :: rest) a (w0.alloc (.cells #[.int .i64 y] t)) :=
  wpApp1 elemInt (by decide) hgd s x ho hs hown hx rfl hn hB fun v' w' h1 h2 h3 => h v' w' (by unfold OI; rw [List.map_append]; exact h1) h2 h3

theorem wpMakeI {w : World} {ops : Array Oper} {rest : List Oper} {o : Oper} {a : Act} {Q : Exit → Act → World → Prop} (hgd : o.guard = none) (l c : Operand)
    (ho : o.op = .makeSlice 78 l c) (n : Nat) (hl : a.eval l = .int .i64 (n : Int)) (hc : a.eval c = .int .i64 (n : Int)) (hn : n ≤ 1000000000000) {B : Nat} (hB : B ≤ w.heap.size)
    (h : ∀ w', OI w' B (.slice (some ⟨w.heap.size, 0, none⟩) n n) n (List.replicate n 0) → w.grownBy w' none → Below w.heap.size w w' → wpList Tryz.prog ops Q rest (a.put o.dst (.slice (some ⟨w.heap.size, 0, none⟩) n n)) w') :
    wpList Tryz.prog ops Q (o :: rest) a w :=
  wpMake elemInt (by decide) hgd l c ho n hl hc hn hB fun w' h1 h2 h3 => h w' (by unfold OI; rw [List.map_replicate]; exact h1) h2 h3

end Go.Proofs.YtiiiegflobihjaaGreat

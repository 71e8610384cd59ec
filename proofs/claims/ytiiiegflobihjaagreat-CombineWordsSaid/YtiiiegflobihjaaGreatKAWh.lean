/- Texts of this claim, put together: C3 E1 E2 E3 E4 P0 B0 B1. -/
import Derived.Test.YtiiiegflobihjaaGreatKAWb
import Derived.Lib.Builder
import Derived.Lib.AppendStr
import Derived.Lib.UnsafeStr
import Derived.Lib.Strings
import Derived.Lib.Slices
import Derived.Lib.Walk
import Derived.Laws.Externs
import Derived.Laws.IdiomCopy
import Derived.Shelf.Strings.Builder1
import Derived.Test.YtiiiegflobihjaaGreatKAWf
import Derived.Test.YtiiiegflobihjaaGreatKAWg
import Derived.Deep.LoopGhost
import Derived.Lib.LazyBuf
import Derived.OwnWalkIn
import Derived.RangeFuncBox
import Derived.Sort.LoopGhostIn
import Derived.TacticsInMore
import Derived.LoopNIn
import Derived.LoopIn
import Derived.Shelf.RegionOpen

/- The classes of the program. -/
namespace Go.Proofs.YtiiiegflobihjaaGreat
open Go.RowKit Go.ChangeMaps Go.MapKept

theorem natI_getD (l : List Nat) (j : Nat) : (natI l).getD j 0 = ((l.getD j 0 : Nat) : Int) := by
  simp only [natI, List.getD_eq_getElem?_getD, List.getElem?_map]
  cases l[j]? <;> simp
/-- What is asked of the states. -/
def ClsOK (ss : List (List (List Int))) : Prop := ss.length ≤ 90 ∧ movesN ss ≤ 90 ∧ 0 < ss.length ∧ ∀ s ∈ ss, 0 < s.length ∧ ∀ m ∈ s, WfR (rdOf m) ∧ m.length = 8 ∧ 0 ≤ m.getD 7 0 ∧ m.getD 7 0 < (ss.length : Int)

end Go.Proofs.YtiiiegflobihjaaGreat

/- slices.Clone at the program's types; rows of structs of ints that a call made. -/
namespace Go.Proofs.YtiiiegflobihjaaGreat
open Go.RowKit

/-- The cells of a struct of ints. -/
def EI (_ : World) (cs : List Value) (x : List Int) : Prop := cs = x.map (Value.int .i64)
theorem EI.stab (E : TypeId) : Stab E EI := fun _ _ _ _ h _ => h
theorem flat_get {k : Nat} : ∀ {xs : List (List Int)}, (∀ x ∈ xs, x.length = k) → ∀ {j : Nat} {x : List Int}, xs[j]? = some x → (xs.flatten.drop (j * k)).take k = x
  | [], _, j, x, h => by simp at h
  | a :: r, hl, 0, x, h => by
    simp only [List.getElem?_cons_zero, Option.some.injEq] at h
    subst h
    rw [Nat.zero_mul, List.drop_zero, List.flatten_cons, ← hl a (by simp), List.take_left]
  | a :: r, hl, j + 1, x, h => by
    rw [List.getElem?_cons_succ] at h
    rw [List.flatten_cons, Nat.succ_mul, Nat.add_comm, ← List.drop_drop]
    have : (a ++ r.flatten).drop k = r.flatten := by rw [← hl a (by simp), List.drop_left]
    rw [this]
    exact flat_get (fun y hy => hl y (by simp [hy])) h
theorem flat_len {k : Nat} : ∀ {xs : List (List Int)}, (∀ x ∈ xs, x.length = k) → xs.flatten.length = xs.length * k
  | [], _ => by simp
  | a :: r, hl => by
    rw [List.flatten_cons, List.length_append, hl a (by simp), flat_len (fun y hy => hl y (by simp [hy])), List.length_cons, Nat.succ_mul, Nat.add_comm]
theorem OwX.ofFlat {E : TypeId} {k : Nat} {w : World} {B n : Nat} {v : Value} {xs : List (List Int)} (h : w.ownsRow B E k v n (xs.flatten.map (Value.int .i64))) (hl : ∀ x ∈ xs, x.length = k) (hn : xs.length = n) : OwX E k EI w B v n xs := by
  refine ⟨_, h, hn, fun u hu => ?_, fun j x hj => ?_⟩
  · obtain ⟨i, _, rfl⟩ := List.mem_map.1 hu; rfl
  · show _ = _
    rw [← List.map_drop, ← List.map_take, flat_get hl hj]
theorem KS.flat {k : Nat} {w : World} {b off : Nat} {xs : List (List Int)} (h : CK k w b off xs) : ∀ j u, (xs.flatten.map (Value.int .i64))[j]? = some u → w.cell? ⟨b, off + j, none⟩ = some u := by
  have hl : ∀ x ∈ xs, x.length = k := fun x hx => by
    obtain ⟨i, hi, rfl⟩ := List.getElem_of_mem hx
    have := (h i hi).1
    rwa [getD_eq hi] at this
  intro j u hj
  obtain ⟨y, hy, rfl⟩ : ∃ y, xs.flatten[j]? = some y ∧ Value.int .i64 y = u := by
    rw [List.getElem?_map] at hj
    cases hx : xs.flatten[j]? with
    | none => rw [hx] at hj; cases hj
    | some y => rw [hx] at hj; simp only [Option.map_some, Option.some.injEq] at hj; exact ⟨y, rfl, hj⟩
  have hjl := (List.getElem?_eq_some_iff.1 hy).1
  rw [flat_len hl] at hjl
  have hk : 0 < k := by
    rcases Nat.eq_zero_or_pos k with rfl | h'
    · simp at hjl
    · exact h'
  have hq : j / k < xs.length := Nat.div_lt_of_lt_mul (by rw [Nat.mul_comm]; exact hjl)
  obtain ⟨x, hx⟩ : ∃ x, xs[j / k]? = some x := ⟨_, List.getElem?_eq_some_iff.2 ⟨hq, rfl⟩⟩
  have h1 := flat_get hl hx
  obtain ⟨h2, h3⟩ := h _ hq
  have hxd : xs.getD (j / k) [] = x := by rw [List.getD_eq_getElem?_getD, hx]; rfl
  rw [hxd] at h2 h3
  have hm : j % k < k := Nat.mod_lt _ hk
  have h4 := h3 (j % k) (by omega)
  have hdm : j / k * k + j % k = j := by rw [Nat.mul_comm]; exact Nat.div_add_mod j k
  have h5 : x.getD (j % k) 0 = y := by
    rw [← h1, List.getD_eq_getElem?_getD, List.getElem?_take, if_pos hm, List.getElem?_drop, hdm, hy]; rfl
  rw [h5, Nat.add_assoc, hdm] at h4
  exact h4
theorem KS.lens {k : Nat} {w : World} {b off : Nat} {xs : List (List Int)} (h : CK k w b off xs) : ∀ x ∈ xs, x.length = k := fun x hx => by
  obtain ⟨i, hi, rfl⟩ := List.getElem_of_mem hx
  have := (h i hi).1
  rwa [getD_eq hi] at this
theorem elemMv : ElemK Tryz.prog 59 58 (.agg #[.int .i64 0, .int .i64 0, .int .i64 0, .int .i64 0, .int .i64 0, .int .i64 0, .int .i64 0, .int .i64 0]) 8 64 := ⟨by kernel_rfl, by kernel_rfl, rfl⟩
theorem elemRd : ElemK Tryz.prog 44 51 (.agg #[.int .i64 0, .int .i64 0, .int .i64 0, .int .i64 0, .int .i64 0, .int .i64 0, .int .i64 0]) 7 56 := ⟨by kernel_rfl, by kernel_rfl, rfl⟩
theorem elemRs : ElemK Tryz.prog 38 44 (.slice none 0 0) 1 24 := ⟨by kernel_rfl, by kernel_rfl, rfl⟩

set_option maxRecDepth 100000 in
set_option maxHeartbeats 1600000 in
theorem cloneRd {w : World} (ad : Addr) (n c : Nat) (news : List Value) (hl : news.length = n * 7) (hn : n ≤ 1000000) (hc : ∀ j u, news[j]? = some u → w.cell? (ad.add j) = some u) (h1 : ∀ u ∈ news, u.oneCell' = true) :
    Calls Tryz.prog 53 #[.slice (some ad) n c] w fun e w' => ∃ v', e = .returned v' ∧ w'.ownsRow w.heap.size 51 7 v' n news ∧ Below w.heap.size w w' := by
  have q22 := fun (w : World) => Lib.run_eql_slice_nil (P := Tryz.prog) w 44 51 (some ad) n c 0 0 elemRd.1
  obtain ⟨i0, hi, hz0, hz1, hz2⟩ := info_parts elemRd.2.1
  have A : Hid (∀ j u, news[j]? = some u → w.cell? (ad.add j) = some u) := hc
  clear hc
  have hn' : n * 56 ≤ 140737488355328 := by omega
  go_enter Tryz.func53, Tryz.ntmps53
  go_wp2_with (at_builtin; refine wpList_append_own _ rfl _ _ 44 rfl w.heap.size 51 i0 _ 7 56 elemRd.1 hi hz0 hz1 hz2 elemRd.2.2 (by decide) _ _ _ rfl (World.ownsRow_made w #[] 0 (Nat.le_refl _) (Nat.zero_le _) (by simp)) ad n c news rfl ?qc1 ?qc2 ?qc3 ?qc4 ?qc5 ?qc6 ?_)
  case qc1 => exact hl
  case qc2 =>
    intro j u hj
    exact Lib.cell?_alloc_some _ (A.out j u hj)
  case qc3 => exact h1
  case qc4 => unfold maxLen; omega
  case qc5 => rw [Nat.zero_add]; exact hn'
  case qc6 => simp
  intro v' w1 hown hgrow hnil
  go_wp2
  go_ret
  refine ⟨v', rfl, by simpa using hown, ?_⟩
  exact ((Below.refl _ w).alloc (Nat.le_refl _) _).grown hgrow (by simp) (by intro k hk; simp [Value.ownBlock] at hk; omega)
set_option maxRecDepth 100000 in
set_option maxHeartbeats 400000 in
theorem cloneRdNil {w : World} (n c : Nat) : Calls Tryz.prog 53 #[.slice none n c] w fun e w' => e = .returned (.slice none 0 0) ∧ w' = w := by
  have q22 := fun (w : World) => Lib.run_eql_slice_nil (P := Tryz.prog) w 44 51 none n c 0 0 elemRd.1
  go_enter Tryz.func53, Tryz.ntmps53
  go_wp2
  go_ret
  exact ⟨rfl, rfl⟩
theorem cloneRdK {w : World} {v : Value} {xs : List (List Int)} (h : KS 7 w v xs) (hn : xs.length ≤ 1000000) :
    Calls Tryz.prog 53 #[v] w fun e w' => ∃ u, e = .returned u ∧ OwX 51 7 EI w' w.heap.size u xs.length xs ∧ Below w.heap.size w w' := by
  obtain ⟨a, c, b, off, rfl, ha, hc, _⟩ := h
  have hlens := KS.lens hc
  cases a with
  | none =>
    have h0 : xs.length = 0 := by
      rcases Nat.eq_zero_or_pos xs.length with h' | h'
      · exact h'
      · cases ha h'
    obtain rfl := List.length_eq_zero_iff.1 h0
    refine (cloneRdNil 0 c).mono ?_
    rintro e w' ⟨rfl, rfl⟩
    exact ⟨_, rfl, OwX.nil _ _, Below.refl _ _⟩
  | some ad =>
    refine (cloneRd ad xs.length c (xs.flatten.map (Value.int .i64)) (by rw [List.length_map, flat_len hlens]) hn ?_ ?_).mono ?_
    · intro j u hj
      have hpos : 0 < xs.length := by
        rcases Nat.eq_zero_or_pos xs.length with h' | h'
        · rw [List.length_eq_zero_iff.1 h'] at hj; simp at hj
        · exact h'
      have := ha hpos
      injection this with this
      subst this
      rw [Addr.add_lit]
      exact KS.flat hc j u hj
    · intro u hu
      obtain ⟨i, _, rfl⟩ := List.mem_map.1 hu; rfl
    · rintro e w' ⟨u, rfl, h1, h2⟩
      exact ⟨u, rfl, OwX.ofFlat h1 hlens rfl, h2⟩

end Go.Proofs.YtiiiegflobihjaaGreat

/- The canonical form: plain lists, and the rows that hold it. -/
namespace Go.Proofs.YtiiiegflobihjaaGreat
open Go.RowKit Go.ChangeMaps Go.MapKept

/-- A store into an element. -/
theorem OwX.storeI {E : TypeId} {k : Nat} {w : World} {B g n cap : Nat} {xs : List (List Int)} (h : OwX E k EI w B (.slice (some ⟨g, 0, none⟩) n cap) n xs) {j i : Nat} (hj : j < n) (hi : i < k) (y : Int) :
    OwX E k EI (w.setCell ⟨g, j * k + i, none⟩ (.int .i64 y)) B (.slice (some ⟨g, 0, none⟩) n cap) n (xs.set j ((xs.getD j []).set i y)) ∧ w.grownBy (w.setCell ⟨g, j * k + i, none⟩ (.int .i64 y)) (some g) := by
  obtain ⟨vs, h1, h2, h3, h4⟩ := h
  obtain ⟨s1, s2⟩ := World.ownsRow.stored h1 (j * k + i) (.int .i64 y)
  refine ⟨⟨_, s1, by simp [h2], fun u hu => ?_, fun j' x hj' => ?_⟩, s2⟩
  · rcases List.mem_or_eq_of_mem_set hu with hu | rfl
    · exact h3 u hu
    · rfl
  · show _ = _
    have hjx : xs[j]? = some (xs.getD j []) := by rw [getD_eq (by omega)]; exact List.getElem?_eq_some_iff.2 ⟨by omega, rfl⟩
    have hjl : j' < xs.length := by have := (List.getElem?_eq_some_iff.1 hj').1; simpa using this
    rw [List.drop_set]
    by_cases hjj : j' = j
    · subst hjj
      rw [List.getElem?_set_self (by omega)] at hj'
      simp only [Option.some.injEq] at hj'
      rw [if_neg (by omega), show j' * k + i - j' * k = i by omega, List.take_set, h4 j' _ hjx, ← hj', List.map_set]
    · rw [List.getElem?_set_ne (by omega)] at hj'
      rw [← h4 j' x hj']
      by_cases hlt : j * k + i < j' * k
      · rw [if_pos hlt]
      · rw [if_neg hlt, List.take_set, List.set_eq_of_length_le]
        rw [List.length_take]
        have : k ≤ j * k + i - j' * k := by
          have hle : j' < j := by
            rcases Nat.lt_or_ge j' j with h | h
            · exact h
            · have h5 : j < j' := by omega
              have h6 : (j + 1) * k ≤ j' * k := Nat.mul_le_mul_right _ h5
              rw [Nat.succ_mul] at h6
              omega
          have h6 : (j' + 1) * k ≤ j * k := Nat.mul_le_mul_right _ hle
          rw [Nat.succ_mul] at h6
          omega
        omega
/-- The cells of an element of ints. -/
theorem OwX.intCells {E : TypeId} {k : Nat} {w : World} {B g n cap : Nat} {xs : List (List Int)} (h : OwX E k EI w B (.slice (some ⟨g, 0, none⟩) n cap) n xs) {j : Nat} (hj : j < n) : (xs.getD j []).length = k ∧ CI w g (j * k) (xs.getD j []) := by
  have hl := h.length
  obtain ⟨cs, h1, h2, h3⟩ := h.cells (x := xs.getD j []) (j := j) (by rw [getD_eq (by omega)]; exact List.getElem?_eq_some_iff.2 ⟨by omega, rfl⟩)
  have h2 : cs = (xs.getD j []).map (Value.int .i64) := h2
  have h1' := h1
  rw [h2, List.length_map] at h1'
  refine ⟨h1', fun i hi => h3 i _ ?_⟩
  rw [h2, List.getElem?_map, List.getElem?_eq_some_iff.2 ⟨hi, rfl⟩, getD_eq hi]; rfl
theorem OwX.frozen {α : Type} {E : TypeId} {k : Nat} {El : World → List Value → α → Prop} {w : World} {B g n cap : Nat} {xs : List α} (h : OwX E k El w B (.slice (some ⟨g, 0, none⟩) n cap) n xs) (j : Nat) : w.frozen? ⟨g, j, none⟩ = false := by
  obtain ⟨vs, h1, _⟩ := h
  exact World.ownsRow.frozenAt h1 j
theorem OwX.ks {E : TypeId} {k : Nat} {w : World} {B n : Nat} {v : Value} {xs : List (List Int)} (h : OwX E k EI w B v n xs) (hn : n ≤ 2199023255552) : KS k w v xs := by
  obtain rfl := h.length
  rcases Nat.eq_zero_or_pos xs.length with h0 | h0
  · obtain ⟨a, c, rfl⟩ := h.shape
    obtain rfl := List.length_eq_zero_iff.1 h0
    exact KS.nil k w a c
  · obtain ⟨g, cap, rfl, _⟩ := h.form h0
    refine ⟨_, cap, g, 0, rfl, fun _ => rfl, fun j hj => ?_, hn⟩
    rw [Nat.zero_add]
    exact h.intCells hj

/-- A state: a row of moves that a call made. -/
def ESt (w : World) (cs : List Value) (x : List (List Int)) : Prop := ∃ u, cs = [u] ∧ OwX 58 8 EI w 0 u x.length x
theorem ESt.stab {E : TypeId} (h : 58 ≠ E) : Stab E ESt := fun _ _ _ _ ⟨u, h1, h2⟩ hx => ⟨u, h1, h2.other (EI.stab _) h hx⟩
theorem elemSt : ElemK Tryz.prog 22 59 (.slice none 0 0) 1 24 := ⟨by kernel_rfl, by kernel_rfl, rfl⟩
theorem OwX.kss {E : TypeId} {w : World} {B n : Nat} {v : Value} {xs : List (List (List Int))} (h : OwX E 1 ESt w B v n xs) (hn : n ≤ 5864062014805) (hl : ∀ x ∈ xs, x.length ≤ 2199023255552) : KSS 8 w v xs := by
  obtain rfl := h.length
  rcases Nat.eq_zero_or_pos xs.length with h0 | h0
  · obtain ⟨a, c, rfl⟩ := h.shape
    obtain rfl := List.length_eq_zero_iff.1 h0
    exact ⟨a, c, 0, 0, rfl, by simp, by intro j hj; simp at hj, by simp⟩
  · obtain ⟨g, cap, rfl, _⟩ := h.form h0
    refine ⟨_, cap, g, 0, rfl, fun _ => rfl, fun j hj => ?_, hn⟩
    have hx : xs[j]? = some (xs.getD j []) := by rw [getD_eq hj]; exact List.getElem?_eq_some_iff.2 ⟨hj, rfl⟩
    obtain ⟨cs, h1, ⟨u, h2, h3⟩, h4⟩ := h.cells hx
    refine ⟨u, ?_, h3.ks (hl _ (List.mem_of_getElem? hx))⟩
    have := h4 0 u (by rw [h2]; rfl)
    rw [Nat.mul_one, Nat.add_zero] at this
    rw [Nat.zero_add]; exact this
/-- An adversary that a call made. -/
def OwAdv (w : World) (v : Value) (n : Int) (ss : List (List (List Int))) : Prop :=
  ∃ sv, v = .agg #[.int .i64 n, sv] ∧ OwX 59 1 ESt w 0 sv ss.length ss ∧ ss.length ≤ 5864062014805 ∧ ∀ x ∈ ss, x.length ≤ 2199023255552
theorem OwAdv.adv {w : World} {v : Value} {n : Int} {ss : List (List (List Int))} (h : OwAdv w v n ss) : AdvV w v n ss := by
  obtain ⟨sv, h1, h2, h3, h4⟩ := h; exact ⟨sv, h1, h2.kss h3 h4⟩
theorem OwAdv.keep {w w' : World} {v : Value} {n : Int} {ss : List (List (List Int))} (h : OwAdv w v n ss) (hb : Below w.heap.size w w') : OwAdv w' v n ss := by
  obtain ⟨sv, h1, h2, h3⟩ := h; exact ⟨sv, h1, h2.keep (ESt.stab (by decide)) hb, h3⟩
theorem OwAdv.other {w w' : World} {v : Value} {n : Int} {ss : List (List (List Int))} (h : OwAdv w v n ss) (hx : KeepX 24 w w') : OwAdv w' v n ss := by
  obtain ⟨sv, h1, h2, h3⟩ := h; exact ⟨sv, h1, h2.other (ESt.stab (by decide)) (by decide) hx, h3⟩
theorem KeepX.setCell {E : TypeId} {w : World} {p : Addr} {cs : Array Value} (h : w.heap[p.block]? = some (.cells cs E)) (v : Value) : KeepX E w (w.setCell p v) := fun k cs' t hk ht => by
  refine Below.heap_setCell _ _ _ _ fun e => ?_
  subst e
  rw [h] at hk
  injection hk with hk
  injection hk with _ hk
  exact ht hk.symm

theorem mem_movesN {ss : List (List (List Int))} {ms : List (List Int)} (h : ms ∈ ss) : ms.length ≤ movesN ss := by
  obtain ⟨a, b, rfl⟩ := List.append_of_mem h
  rw [movesN_app, show ms :: b = [ms] ++ b from rfl, movesN_app]
  have : movesN [ms] = ms.length := by simp [movesN]
  omega
end Go.Proofs.YtiiiegflobihjaaGreat

/- canonical.canonical. -/
namespace Go.Proofs.YtiiiegflobihjaaGreat
open Go.RowKit Go.ChangeMaps Go.MapKept

theorem row_free {w : World} {b : Nat} {cs : Array Value} {t : TypeId} (h : w.heap[b]? = some (.cells cs t)) (j : Nat) : w.frozen? ⟨b, j, none⟩ = false := by simp [World.frozen?, h]
theorem two_setCell {w : World} {b : Nat} {x y u : Value} {t : TypeId} (h : w.heap[b]? = some (.cells #[x, y] t)) : (w.setCell ⟨b, 1, none⟩ u).heap[b]? = some (.cells #[x, u] t) := by
  rw [heap_setCell_same w b 1 _ t u h]; rfl
end Go.Proofs.YtiiiegflobihjaaGreat

/- Equality of adversaries. -/
namespace Go.Proofs.YtiiiegflobihjaaGreat
open Go.RowKit

theorem takes_next {α : Type} {xs ys : List α} {i : Nat} (h : xs.take i = ys.take i) (hx : i < xs.length) (hy : i < ys.length) {d : α} (he : xs.getD i d = ys.getD i d) : xs.take (i + 1) = ys.take (i + 1) := by
  rw [take_snoc hx d, take_snoc hy d, h, he]
theorem takes_all {α : Type} {xs ys : List α} {i : Nat} (h : xs.take i = ys.take i) (hx : i = xs.length) (hy : i = ys.length) : xs = ys := by
  have h1 : xs.take i = xs := List.take_of_length_le (by omega)
  have h2 : ys.take i = ys := List.take_of_length_le (by omega)
  rw [← h1, ← h2, h]
theorem Qt.step {a b : World} (h : Qt a b) (n : Nat) : Qt a (b.drewN n) := h.trans (Qt.mk' b n)

end Go.Proofs.YtiiiegflobihjaaGreat

/- The classes are the reference's partition: plain lists. -/
namespace Go.Proofs.YtiiiegflobihjaaGreat

section
variable {κ κ' : Type} [DecidableEq κ] [DecidableEq κ']
theorem nodup_sub_le : ∀ {a b : List κ}, a.Nodup → (∀ x ∈ a, x ∈ b) → a.length ≤ b.length
  | [], _, _, _ => Nat.zero_le _
  | x :: r, b, hn, hs => by
    rw [List.nodup_cons] at hn
    have hx : x ∈ b := hs x (by simp)
    have h1 : ∀ y ∈ r, y ∈ b.erase x := fun y hy => by
      have hne : y ≠ x := fun e => hn.1 (e ▸ hy)
      exact (List.mem_erase_of_ne hne).2 (hs y (by simp [hy]))
    have h2 := nodup_sub_le hn.2 h1
    rw [List.length_erase_of_mem hx] at h2
    have h3 : 0 < b.length := List.length_pos_of_mem hx
    rw [List.length_cons]; omega
end

end Go.Proofs.YtiiiegflobihjaaGreat

/- The iterator over all moves with their states. -/
namespace Go.Proofs.YtiiiegflobihjaaGreat
open Go.RowKit
attribute [local go_sem] Oper.semAt_some

/-- All moves with their states. -/
def mvs : Nat → List (List (List Int)) → List (Nat × List Int)
  | _, [] => []
  | s, l :: r => l.map (fun m => (s, m)) ++ mvs (s + 1) r
def mvEnc (x : Nat × List Int) : Array Value := #[.int .i64 (x.1 : Int), .agg (x.2.map (Value.int .i64)).toArray]
def mvR (L pre : List (Nat × List Int)) (x : Nat × List Int) (_ : World) : Prop := ∃ r, pre ++ x :: r = L
theorem mvs_step {ss : List (List (List Int))} {k : Nat} (h : k < ss.length) {ms : List (List Int)} (hm : ss.getD k [] = ms) : mvs k (ss.drop k) = (ms.drop 0).map (fun m => (k, m)) ++ mvs (k + 1) (ss.drop (k + 1)) := by
  rw [drop_cons h [], hm, mvs, List.drop_zero]
theorem mvs_in {ms : List (List Int)} {i k : Nat} (h : i < ms.length) {m : List Int} (hm : ms.getD i [] = m) : (ms.drop i).map (fun m => (k, m)) = (k, m) :: (ms.drop (i + 1)).map (fun m => (k, m)) := by
  rw [drop_cons h [], hm, List.map_cons]

set_option maxRecDepth 100000 in
set_option maxHeartbeats 6400000 in
theorem mvSeq {wA w0 : World} {sv : Value} {ss : List (List (List Int))} {Bx : Nat} (hK : KSS 8 wA sv ss) (hbA : Below wA.heap.size wA w0) (hc0 : w0.cell? ⟨Bx, 1, none⟩ = some sv) :
    SeqOK Tryz.prog 93 #[.pointer (some ⟨Bx, 0, none⟩)] mvEnc (mvR (mvs 0 ss)) (fun xs => xs = mvs 0 ss) (fun _ => True) (mvs 0 ss).length (fun k => k = Bx ∨ k < wA.heap.size) w0 := by
  intro l J Jx D W hb hBd hDC hJ hJx hY h0
  have hBx : ¬ D Bx := fun h => hDC _ h (.inl rfl)
  have hAn : ∀ k, k < wA.heap.size → ¬ D k := fun k hk h => hDC _ h (.inr hk)
  have hcW := cell_kept hb hc0
  have hbW : Below wA.heap.size wA W := bt hbA hb hbA.size
  obtain ⟨sa, sc, sb, so, rfl, hsa, hsc, hsl⟩ := hK
  clear hDC hc0 hb hbA
  replace hJ := Lib.hid hJ
  replace hJx := Lib.hid hJx
  replace hY := Lib.hid hY
  show CallsIn Fence.wide 0 Tryz.prog 93 #[.func (.yield l) #[] #[], .pointer (some ⟨Bx, 0, none⟩)] W _
  refine callsIn_of_wp Tryz.func93 rfl trivial ?_
  simp only [Tryz.ntmps93, List.size_toArray, List.length_cons, List.length_nil, Nat.reduceAdd, Nat.reduceSub, Array.replicate_succ,
     Array.replicate_zero, List.push_toArray, List.append_toArray, List.nil_append, List.cons_append]
  gi_wp2
  have hOn0 : Only D W W := Only.refl _ _
  have hGr0 : Gr D W D := Gr.refl _ _
  replace hsc := Lib.hid hsc
  replace hcW := Lib.hid hcW
  obtain ⟨L, hL⟩ : ∃ L, mvs 0 ss = L := ⟨_, rfl⟩
  rw [hL] at hY
  have hL0 : Hid ([] ++ mvs 0 (ss.drop 0) = L) := by show _ = _; rw [List.drop_zero, List.nil_append]; exact hL
  replace hL := Lib.hid hL
  obtain ⟨wo, hwo⟩ : ∃ wo, wo = W := ⟨_, rfl⟩
  have h00 : J [] D wo := by rw [hwo]; exact h0
  have hBd0 : Bd D wo := by rw [hwo]; exact hBd
  have hOn0 : Only D W wo := by rw [hwo]; exact hOn0
  rw [← hwo]
  clear hwo h0 hBd
  gi_loopw [10] (fun kv wr => ∃ (k : Nat) (pre : List (Nat × List Int)) (D1 : Nat → Prop), kv = .int .i64 k ∧ k ≤ ss.length ∧ J pre D1 wr ∧ Bd D1 wr ∧ Only D W wr ∧ Gr D W D1 ∧ Hid (pre ++ mvs k (ss.drop k) = L)) (fun kv _ => ss.length - (intOf kv).toNat)
  case atStart => exact ⟨0, [], D, rfl, by omega, h00, hBd0, hOn0, hGr0, hL0⟩
  case round =>
    clear h00 hBd0 hOn0 hGr0 hL0
    obtain ⟨k, pre, D1, rfl, hk, hJk, hBk, hOn, hGr, hp⟩ := hrel
    by_cases hlt : k < ss.length
    · obtain rfl := hsa (by omega)
      obtain ⟨u, hcu, hu⟩ := hsc.out k hlt
      have hlu := World.block_lt_of_cell? wA _ hcu
      have hcu2 : wr.cell? ⟨sb, so + k, none⟩ = some u := hOn.cell (p := ⟨sb, so + k, none⟩) (hAn _ hlu) (cell_kept hbW hcu)
      obtain ⟨ms, hms⟩ : ∃ ms, ss.getD k [] = ms := ⟨_, rfl⟩
      rw [hms] at hu
      have hp1 : Hid (pre ++ ((ms.drop 0).map (fun m => (k, m)) ++ mvs (k + 1) (ss.drop (k + 1))) = L) := by show _ = _; rw [← mvs_step hlt hms]; exact hp
      obtain ⟨ma, mc, mb, mo, rfl, hma, hmc, hml⟩ := hu
      clear hp hms hcu hlu
      replace hmc := Lib.hid hmc
      gi_wp2
      gi_loopw [17] (fun iv wr => ∃ (i : Nat) (pre : List (Nat × List Int)) (D1 : Nat → Prop), iv = .int .i64 i ∧ i ≤ ms.length ∧ J pre D1 wr ∧ Bd D1 wr ∧ Only D W wr ∧ Gr D W D1 ∧ Hid (pre ++ ((ms.drop i).map (fun m => (k, m)) ++ mvs (k + 1) (ss.drop (k + 1))) = L)) (fun iv _ => ms.length - (intOf iv).toNat)
      case atStart => exact ⟨0, pre, D1, rfl, by omega, hJk, hBk, hOn, hGr, hp1⟩
      case round =>
        clear hp1 hJk hBk hOn hGr hcu2
        obtain ⟨i, pre, D1, rfl, hi, hJk, hBk, hOn, hGr, hp⟩ := hrel
        by_cases hlti : i < ms.length
        · obtain rfl := hma (by omega)
          obtain ⟨hx8, hxc⟩ := hmc.out i hlti
          obtain ⟨x, hx⟩ : ∃ x, ms.getD i [] = x := ⟨_, rfl⟩
          have hp1 : Hid (pre ++ ((k, x) :: ((ms.drop (i + 1)).map (fun m => (k, m)) ++ mvs (k + 1) (ss.drop (k + 1)))) = L) := by show _ = _; rw [← List.cons_append, ← mvs_in hlti hx]; exact hp
          rw [hx] at hx8 hxc
          obtain ⟨y0, y1, y2, y3, y4, y5, y6, y7, rfl⟩ := eight hx8
          obtain ⟨c0, c1, c2, c3, c4, c5, c6, c7⟩ := hxc.all8
          have hmn : ¬ D mb := hAn _ (World.block_lt_of_cell? wA _ c0)
          have e0 := hOn.cell (p := ⟨mb, _, none⟩) hmn (cell_kept hbW c0)
          have e1 := hOn.cell (p := ⟨mb, _, none⟩) hmn (cell_kept hbW c1)
          have e2 := hOn.cell (p := ⟨mb, _, none⟩) hmn (cell_kept hbW c2)
          have e3 := hOn.cell (p := ⟨mb, _, none⟩) hmn (cell_kept hbW c3)
          have e4 := hOn.cell (p := ⟨mb, _, none⟩) hmn (cell_kept hbW c4)
          have e5 := hOn.cell (p := ⟨mb, _, none⟩) hmn (cell_kept hbW c5)
          have e6 := hOn.cell (p := ⟨mb, _, none⟩) hmn (cell_kept hbW c6)
          have e7 := hOn.cell (p := ⟨mb, _, none⟩) hmn (cell_kept hbW c7)
          clear c0 c1 c2 c3 c4 c5 c6 c7 hxc hx8 hx hp
          have hbn := (Below.refl wr.heap.size wr).alloc (Nat.le_refl _) (.cells #[.int .i64 y0, .int .i64 y1, .int .i64 y2, .int .i64 y3, .int .i64 y4, .int .i64 y5, .int .i64 y6, .int .i64 y7] 58)
          have hOn2 := hOn.thenBelow (hbn.mono (by have := hOn.size; omega))
          have hBk2 : Bd D1 (wr.alloc (.cells #[.int .i64 y0, .int .i64 y1, .int .i64 y2, .int .i64 y3, .int .i64 y4, .int .i64 y5, .int .i64 y6, .int .i64 y7] 58)) := fun q hq => Nat.lt_of_lt_of_le (hBk q hq) hbn.size
          have hJk2 := hJ.out _ _ _ _ hJk hbn.size (fun q hq => hbn.block q (hBk q hq))
          have hlen : pre.length < L.length := by rw [← hp1.out]; simp
          have hRx : mvR L pre (k, [y0, y1, y2, y3, y4, y5, y6, y7]) (wr.alloc (.cells #[.int .i64 y0, .int .i64 y1, .int .i64 y2, .int .i64 y3, .int .i64 y4, .int .i64 y5, .int .i64 y6, .int .i64 y7] 58)) := ⟨_, hp1.out⟩
          obtain ⟨fn, tmps, assign, body, hy, hR⟩ := hY.out pre (k, [y0, y1, y2, y3, y4, y5, y6, y7]) D1 _ hJk2 hBk2 hOn2 hGr hRx hlen
          simp only [mvEnc, List.map] at hy hR
          replace hR := Lib.hid hR
          clear hJk hlen hRx hBk
          gi_wp2
          refine ⟨rfl, hR.out.mono ?_⟩
          rintro e W' ⟨D', hO', hG', hB', (⟨rfl, hJ'⟩ | ⟨rfl, hJ'⟩)⟩
          · clear e0 e1 e2 e3 e4 e5 e6 e7 hy hR
            have hOn3 := hOn2.trans hO' hGr
            have hGr3 := hGr.trans hG' hOn2.size
            gi_wp2
            go_roundw
            case rel => exact ⟨i + 1, _, D', by go_num, hlti, hJ', hB', hOn3, hGr3, by show _ = _; rw [List.append_assoc]; exact hp1.out⟩
            case measure => simp [intOf]; omega
          · gi_wp2
            refine bodyPost_ret (results_none rfl _ _ _) rfl ?_
            exact ⟨⟨_, rfl⟩, D', hOn2.trans hO' hGr, hGr.trans hG' hOn2.size, hB', .inr ⟨_, trivial, hJ'⟩⟩
        · obtain rfl : i = ms.length := by omega
          have hp1 : Hid (pre ++ mvs (k + 1) (ss.drop (k + 1)) = L) := by show _ = _; rw [← hp.out, List.drop_length]; rfl
          clear hp
          gi_wp2
          go_roundw
          case rel => exact ⟨k + 1, pre, D1, by go_num, hlt, hJk, hBk, hOn, hGr, hp1⟩
          case measure => simp [intOf]; omega
    · obtain rfl : k = ss.length := by omega
      have hpe : pre = L := by rw [← hp.out, List.drop_length, mvs, List.append_nil]
      have hpf := Lib.hid (hpe.trans hL.out.symm)
      clear hJ hJx hY hpe hp hL
      gi_wp2
      first | refine bodyPost_end (results_none rfl _ _ _) rfl ?_ | refine bodyPost_ret (results_none rfl _ _ _) rfl ?_
      exact ⟨⟨_, rfl⟩, D1, hOn, hGr, hBk, .inl ⟨_, hpf.out, hJk⟩⟩
end Go.Proofs.YtiiiegflobihjaaGreat

/- The numbers of states and moves. -/
namespace Go.Proofs.YtiiiegflobihjaaGreat
open Go.RowKit
attribute [local go_sem] Oper.semAt_some

def Box1 (Bn : Nat) (D : Nat → Prop) (W : World) (n : Int) : Prop := (∀ k, D k ↔ k = Bn) ∧ W.heap[Bn]? = some (.cells #[.int .i64 n] 3 (0, 0))
theorem Box1.stable {α : Type} (Bn : Nat) (f : List α → Int) : Stable (fun pre D W => Box1 Bn D W (f pre)) := fun _ _ _ _ h _ hk => ⟨h.1, (hk Bn ((h.1 Bn).2 rfl)).trans h.2⟩
theorem mvs_length : ∀ (ss : List (List (List Int))) (k : Nat), (mvs k ss).length = movesN ss
  | [], _ => rfl
  | l :: r, k => by rw [mvs, List.length_append, List.length_map, mvs_length r]; rfl
theorem mvR_put {L : List (Nat × List Int)} (pre : List (Nat × List Int)) (x : Nat × List Int) (W : World) (k : Nat) (r : Loop) (o : Obj) (h : mvR L pre x W) (_ : W.heap[k]? = some (.loop r)) : mvR L pre x (W.putObj k o) := h
/-- The error of the numbers of states and moves. -/
def szE (ss : List (List (List Int))) : Int := if ss.length < 1 ∨ 256 < ss.length ∨ 4096 < movesN ss then 5 else 0

theorem movesCall (n : Int) (sa : Option Addr) (l c : Nat) (w : World) : Calls Tryz.prog 61 #[.agg #[.int .i64 n, .slice sa l c]] w fun e w' =>
    e = .returned (.func (.func 93) #[] #[.pointer (some ⟨w.heap.size, 0, none⟩)]) ∧ w' = w.alloc (.cells #[.int .i64 n, .slice sa l c] 24) := by
  go_enter Tryz.func61, Tryz.ntmps61
  go_wp2
  go_ret
  exact ⟨rfl, rfl⟩

set_option maxRecDepth 100000 in
set_option maxHeartbeats 1600000 in
theorem sized {w : World} {v : Value} {n : Int} {ss : List (List (List Int))} (hA : AdvV w v n ss) (hN : movesN ss ≤ 1000000000) :
    Calls Tryz.prog 59 #[v] w fun e w' => e = .returned (.int .i64 (szE ss)) ∧ Below w.heap.size w w' := by
  obtain ⟨sv, rfl, hK⟩ := hA
  obtain ⟨sa, sc, hsv⟩ := hK.shape
  have hsl : ss.length ≤ 5864062014805 := by obtain ⟨_, _, _, _, _, _, _, h⟩ := hK; exact h
  refine callsIn_wide.1 (callsIn_of_wp_marks (n := 0) Tryz.func59 rfl trivial ?_)
  simp only [Tryz.ntmps59, List.size_toArray, List.length_cons, List.length_nil, Nat.reduceAdd, Nat.reduceSub, Array.replicate_succ, Array.replicate_zero, List.push_toArray, List.append_toArray, List.nil_append, List.cons_append]
  subst hsv
  refine wpIn_wide.2 ?_
  go_wp2_with (go_at_call 61; refine (movesCall _ _ _ _ _).mono ?_; rintro e w2 ⟨rfl, rfl⟩)
  obtain ⟨wL, hwL⟩ : ∃ wL, wL = ((w.alloc (.cells #[.int .i64 n, .slice sa ss.length sc] 24)).alloc (.cells #[.int .i64 0] 3)).alloc (.cells #[.int .i64 n, .slice sa ss.length sc] 24) := ⟨_, rfl⟩
  obtain ⟨N, hNe⟩ : ∃ N, N = w.heap.size := ⟨_, rfl⟩
  have hsL : wL.heap.size = N + 3 := by rw [hwL, hNe]; simp
  have hbW : Below w.heap.size w wL := by rw [hwL]; exact (((Below.refl _ w).alloc (Nat.le_refl _) _).alloc (by simp) _).alloc (by simp; omega) _
  have hBa : wL.heap[N]? = some (.cells #[.int .i64 n, .slice sa ss.length sc] 24) := by
    rw [hwL, hNe]; exact (Below.heap_alloc _ _ _ (by simp; omega)).trans ((Below.heap_alloc _ _ _ (by simp)).trans (World.alloc_heap_new w _))
  have hBn : wL.heap[N + 1]? = some (.cells #[.int .i64 0] 3 (0, 0)) := by
    rw [hwL, hNe]
    refine (Below.heap_alloc _ _ _ (by simp)).trans ?_
    have := World.alloc_heap_new (w.alloc (.cells #[.int .i64 n, .slice sa ss.length sc] 24)) (.cells #[.int .i64 0] 3)
    rwa [World.size_alloc] at this
  have hBx : wL.heap[N + 2]? = some (.cells #[.int .i64 n, .slice sa ss.length sc] 24) := by
    rw [hwL, hNe]
    have := World.alloc_heap_new ((w.alloc (.cells #[.int .i64 n, .slice sa ss.length sc] 24)).alloc (.cells #[.int .i64 0] 3)) (.cells #[.int .i64 n, .slice sa ss.length sc] 24)
    simpa only [World.size_alloc] using this
  have hcx : wL.cell? ⟨N + 2, 1, none⟩ = some (.slice sa ss.length sc) := box_cell hBx rfl
  rw [← hwL, ← hNe]
  have hbWN : Below N w wL := hNe ▸ hbW
  have hwN : w.heap.size = N := hNe.symm
  clear hwL hNe
  have hML := mvs_length ss 0
  refine wpIn_wide.1 (wpIn_rf (gf := 93) (lb := #[.pointer (some ⟨N + 2, 0, none⟩)]) rfl (enters_of Tryz.func93 (by kernel_rfl) rfl) (mvSeq hK hbW hcx) (Below.refl _ _) (fun _ => rfl) mvR_put
    (fun pre D W => Box1 (N + 1) D W pre.length) (fun _ _ _ _ => False) (Box1.stable (N + 1) (fun pre : List (Nat × List Int) => (pre.length : Int))) (fun _ _ _ _ _ h _ _ => h)
    (fun k => k = N + 1) (fun k hk => by rw [hk]; omega) (fun k hk => by omega) (fun k hk => by omega) ⟨fun _ => Iff.rfl, hBn⟩
    (fun x => { tmps := #[.agg #[.int .i64 n, .slice sa ss.length sc], .pointer (some ⟨N, 0, none⟩), .int .i64 0, .pointer (some ⟨N + 1, 0, none⟩), .agg #[.int .i64 n, .slice sa ss.length sc], .func (.func 93) #[] #[.pointer (some ⟨N + 1 + 1, 0, none⟩)], .int .i64 x.1, .agg (x.2.map (Value.int .i64)).toArray, undef, undef, undef, undef, undef, undef, undef, undef, undef, undef, undef, undef, undef, undef, undef, undef], defers := [] }) ?assign ?body ?done ?stop)
  case assign =>
    intro l x W K hK
    unfold mvEnc
    gi_wp2
    simp only [List.zip_toArray, List.zip_cons_cons, List.zip_nil_right, List.foldl_toArray, List.foldl_cons, List.foldl_nil, List.setIfInBounds_toArray, List.set_cons_succ, List.set_cons_zero]
    exact hK
  case body =>
    rintro l pre ⟨s, m⟩ D W ⟨hD, hbox⟩ hBd hOn hGr ⟨r, hr⟩ hlen
    have hcn := cell_of_one hbox
    have hfn := free_of_one hbox
    have hset := one_setCell (u := .int .i64 (↑pre.length + 1)) hbox
    have hle : pre.length ≤ 1000000000 := by omega
    clear hr hOn hGr hBn hBx hcx hBa hlen hML
    gi_wp2
    refine ⟨D, (Only.refl D W).setCell (p := ⟨N + 1, 0, none⟩) ((hD (N + 1)).2 rfl) _, Gr.refl _ _, fun i hi => by have := hBd i hi; simpa [World.setCell] using this, ⟨hD, ?_⟩⟩
    rw [List.length_append, List.length_singleton]
    exact hset
  case done =>
    intro d xs D W hS hI hOn hGr hd hnd hdef
    obtain ⟨hD, hbox⟩ := hI
    have hcn := cell_of_one hbox
    rw [hS, hML] at hcn
    have hbE : Below w.heap.size w (W.putObj d (.deferred none)) := below_putObj (hbW.trans (hOn.below hbW.size (fun i hi => by omega))) (by omega) _
    have kA : W.heap[N]? = some (.cells #[.int .i64 n, .slice sa ss.length sc] 24) := (hOn.same N (by omega) (by omega)).trans hBa
    have k1 : W.cell? ⟨N, 1, none⟩ = some (.slice sa ss.length sc) := box_cell kA rfl
    clear hbox hBx hBn hcx hBa kA hK hOn hGr hML
    obtain ⟨M, hM⟩ : ∃ M, movesN ss = M := ⟨_, rfl⟩
    obtain ⟨q, hq⟩ : ∃ q, ss.length = q := ⟨_, rfl⟩
    have hE : szE ss = if q < 1 ∨ 256 < q ∨ 4096 < M then 5 else 0 := by rw [szE, hM, hq]
    rw [hM] at hcn hN
    rw [hq] at k1 hsl
    replace hE := Lib.hid hE
    replace hbE := Lib.hid hbE
    clear hM
    by_cases h1 : q < 1
    · have h1' : decide ((q : Int) < 1) = true := decide_eq_true (by omega)
      have hE2 := Lib.hid (show szE ss = 5 by rw [hE.out, if_pos (.inl h1)])
      go_wp2
      refine ⟨by simp, .inl ⟨_, _, rfl, run_takeDeferred hdef, ?_⟩⟩
      exact ⟨_, results_tmp rfl _ _ _, by rw [hE2.out]; rfl, hbE.out⟩
    · have h1' : decide ((q : Int) < 1) = false := decide_eq_false (by omega)
      by_cases h2 : 256 < q
      · have h2' : decide ((256 : Int) < (q : Int)) = true := decide_eq_true (by omega)
        have hE2 := Lib.hid (show szE ss = 5 by rw [hE.out, if_pos (.inr (.inl h2))])
        go_wp2
        refine ⟨by simp, .inl ⟨_, _, rfl, run_takeDeferred hdef, ?_⟩⟩
        exact ⟨_, results_tmp rfl _ _ _, by rw [hE2.out]; rfl, hbE.out⟩
      · have h2' : decide ((256 : Int) < (q : Int)) = false := decide_eq_false (by omega)
        by_cases h3 : 4096 < M
        · have h3' : decide ((4096 : Int) < (M : Int)) = true := decide_eq_true (by omega)
          have hE2 := Lib.hid (show szE ss = 5 by rw [hE.out, if_pos (.inr (.inr h3))])
          go_wp2
          refine ⟨by simp, .inl ⟨_, _, rfl, run_takeDeferred hdef, ?_⟩⟩
          exact ⟨_, results_tmp rfl _ _ _, by rw [hE2.out]; rfl, hbE.out⟩
        · have h3' : decide ((4096 : Int) < (M : Int)) = false := decide_eq_false (by omega)
          have hE2 := Lib.hid (show szE ss = 0 by rw [hE.out, if_neg (by omega)])
          go_wp2
          refine ⟨by simp, .inl ⟨_, _, rfl, run_takeDeferred hdef, ?_⟩⟩
          exact ⟨_, results_tmp rfl _ _ _, by rw [hE2.out]; rfl, hbE.out⟩
  case stop =>
    intro d c pre D W _ h
    exact h.elim
end Go.Proofs.YtiiiegflobihjaaGreat

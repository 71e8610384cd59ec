/- Texts of this claim, put together: E2 NB D2a. -/
import Derived.Test.YtfihpofdoffclaaGreatDoorKj
import Derived.Test.YtfihpofdoffclaaGreatDoorKg
import Derived.Test.YtfihpofdoffclaaGreatDoorKb
import Derived.OwnWalkIn
import Derived.RangeFuncBox

/- The canonical form: plain lists, and the rows that hold it. -/
namespace Go.Proofs.YtfihpofdoffclaaGreatDoor
open Go.RowKit Go.ChangeMaps Go.MapKept

/-- A store into an element. -/
theorem OwX.storeI {E : TypeId} {k : Nat} {w : World} {B g n cap : Nat} {xs : List (List Int)} (h : OwX E k EI w B (.slice (some ⟨g, 0, none⟩) n cap) n xs) {j i : Nat} (hj : j < n) (hi : i < k) (y : Int) :
    OwX E k EI (w.setCell ⟨g, j * k + i, none⟩ (.int .i64 y)) B (.slice (some ⟨g, 0, none⟩) n cap) n (xs.set j ((xs.getD j []).set i y)) ∧ w.grownBy (w.setCell ⟨g, j * k + i, none⟩ (.int .i64 y)) (some g) := by
  obtain ⟨vs, h1, h2, h3, h4⟩ := h
  obtain ⟨s1, s2⟩ := World.ownsRow.stored h1 (j * k + i) (.int .i64 y)
  refine ⟨⟨_, s1, by simp [h2], fun u hu => ?_, fun j' x hj' => ?_⟩, s2⟩
  · rcases List.mem_or_eq_of_mem_set hu with hu | rfl
    · exact h3 u hu
    · rfl
  · show _ = _
    have hjx : xs[j]? = some (xs.getD j []) := by rw [getD_eq (by omega)]; exact List.getElem?_eq_some_iff.2 ⟨by omega, rfl⟩
    have hjl : j' < xs.length := by have := (List.getElem?_eq_some_iff.1 hj').1; simpa using this
    rw [List.drop_set]
    by_cases hjj : j' = j
    · subst hjj
      rw [List.getElem?_set_self (by omega)] at hj'
      simp only [Option.some.injEq] at hj'
      rw [if_neg (by omega), show j' * k + i - j' * k = i by omega, List.take_set, h4 j' _ hjx, ← hj', List.map_set]
    · rw [List.getElem?_set_ne (by omega)] at hj'
      rw [← h4 j' x hj']
      by_cases hlt : j * k + i < j' * k
      · rw [if_pos hlt]
      · rw [if_neg hlt, List.take_set, List.set_eq_of_length_le]
        rw [List.length_take]
        have : k ≤ j * k + i - j' * k := by
          have hle : j' < j := by
            rcases Nat.lt_or_ge j' j with h | h
            · exact h
            · have h5 : j < j' := by omega
              have h6 : (j + 1) * k ≤ j' * k := Nat.mul_le_mul_right _ h5
              rw [Nat.succ_mul] at h6
              omega
          have h6 : (j' + 1) * k ≤ j * k := Nat.mul_le_mul_right _ hle
          rw [Nat.succ_mul] at h6
          omega
        omega
/-- The cells of an element of ints. -/
theorem OwX.intCells {E : TypeId} {k : Nat} {w : World} {B g n cap : Nat} {xs : List (List Int)} (h : OwX E k EI w B (.slice (some ⟨g, 0, none⟩) n cap) n xs) {j : Nat} (hj : j < n) : (xs.getD j []).length = k ∧ CI w g (j * k) (xs.getD j []) := by
  have hl := h.length
  obtain ⟨cs, h1, h2, h3⟩ := h.cells (x := xs.getD j []) (j := j) (by rw [getD_eq (by omega)]; exact List.getElem?_eq_some_iff.2 ⟨by omega, rfl⟩)
  have h2 : cs = (xs.getD j []).map (Value.int .i64) := h2
  have h1' := h1
  rw [h2, List.length_map] at h1'
  refine ⟨h1', fun i hi => h3 i _ ?_⟩
  rw [h2, List.getElem?_map, List.getElem?_eq_some_iff.2 ⟨hi, rfl⟩, getD_eq hi]; rfl
theorem OwX.frozen {α : Type} {E : TypeId} {k : Nat} {El : World → List Value → α → Prop} {w : World} {B g n cap : Nat} {xs : List α} (h : OwX E k El w B (.slice (some ⟨g, 0, none⟩) n cap) n xs) (j : Nat) : w.frozen? ⟨g, j, none⟩ = false := by
  obtain ⟨vs, h1, _⟩ := h
  exact World.ownsRow.frozenAt h1 j
theorem OwX.ks {E : TypeId} {k : Nat} {w : World} {B n : Nat} {v : Value} {xs : List (List Int)} (h : OwX E k EI w B v n xs) (hn : n ≤ 2199023255552) : KS k w v xs := by
  obtain rfl := h.length
  rcases Nat.eq_zero_or_pos xs.length with h0 | h0
  · obtain ⟨a, c, rfl⟩ := h.shape
    obtain rfl := List.length_eq_zero_iff.1 h0
    exact KS.nil k w a c
  · obtain ⟨g, cap, rfl, _⟩ := h.form h0
    refine ⟨_, cap, g, 0, rfl, fun _ => rfl, fun j hj => ?_, hn⟩
    rw [Nat.zero_add]
    exact h.intCells hj

/-- A state: a row of moves that a call made. -/
def ESt (w : World) (cs : List Value) (x : List (List Int)) : Prop := ∃ u, cs = [u] ∧ OwX 84 8 EI w 0 u x.length x
theorem ESt.stab {E : TypeId} (h : 84 ≠ E) : Stab E ESt := fun _ _ _ _ ⟨u, h1, h2⟩ hx => ⟨u, h1, h2.other (EI.stab _) h hx⟩
theorem elemSt : ElemK Tryz.prog 22 82 (.slice none 0 0) 1 24 := ⟨by kernel_rfl, by kernel_rfl, rfl⟩
theorem OwX.kss {E : TypeId} {w : World} {B n : Nat} {v : Value} {xs : List (List (List Int))} (h : OwX E 1 ESt w B v n xs) (hn : n ≤ 5864062014805) (hl : ∀ x ∈ xs, x.length ≤ 2199023255552) : KSS 8 w v xs := by
  obtain rfl := h.length
  rcases Nat.eq_zero_or_pos xs.length with h0 | h0
  · obtain ⟨a, c, rfl⟩ := h.shape
    obtain rfl := List.length_eq_zero_iff.1 h0
    exact ⟨a, c, 0, 0, rfl, by simp, by intro j hj; simp at hj, by simp⟩
  · obtain ⟨g, cap, rfl, _⟩ := h.form h0
    refine ⟨_, cap, g, 0, rfl, fun _ => rfl, fun j hj => ?_, hn⟩
    have hx : xs[j]? = some (xs.getD j []) := by rw [getD_eq hj]; exact List.getElem?_eq_some_iff.2 ⟨hj, rfl⟩
    obtain ⟨cs, h1, ⟨u, h2, h3⟩, h4⟩ := h.cells hx
    refine ⟨u, ?_, h3.ks (hl _ (List.mem_of_getElem? hx))⟩
    have := h4 0 u (by rw [h2]; rfl)
    rw [Nat.mul_one, Nat.add_zero] at this
    rw [Nat.zero_add]; exact this
/-- An adversary that a call made. -/
def OwAdv (w : World) (v : Value) (n : Int) (ss : List (List (List Int))) : Prop :=
  ∃ sv, v = .agg #[.int .i64 n, sv] ∧ OwX 82 1 ESt w 0 sv ss.length ss ∧ ss.length ≤ 5864062014805 ∧ ∀ x ∈ ss, x.length ≤ 2199023255552
theorem OwAdv.adv {w : World} {v : Value} {n : Int} {ss : List (List (List Int))} (h : OwAdv w v n ss) : AdvV w v n ss := by
  obtain ⟨sv, h1, h2, h3, h4⟩ := h; exact ⟨sv, h1, h2.kss h3 h4⟩
theorem OwAdv.keep {w w' : World} {v : Value} {n : Int} {ss : List (List (List Int))} (h : OwAdv w v n ss) (hb : Below w.heap.size w w') : OwAdv w' v n ss := by
  obtain ⟨sv, h1, h2, h3⟩ := h; exact ⟨sv, h1, h2.keep (ESt.stab (by decide)) hb, h3⟩
theorem OwAdv.other {w w' : World} {v : Value} {n : Int} {ss : List (List (List Int))} (h : OwAdv w v n ss) (hx : KeepX 24 w w') : OwAdv w' v n ss := by
  obtain ⟨sv, h1, h2, h3⟩ := h; exact ⟨sv, h1, h2.other (ESt.stab (by decide)) (by decide) hx, h3⟩
theorem KeepX.setCell {E : TypeId} {w : World} {p : Addr} {cs : Array Value} (h : w.heap[p.block]? = some (.cells cs E)) (v : Value) : KeepX E w (w.setCell p v) := fun k cs' t hk ht => by
  refine Below.heap_setCell _ _ _ _ fun e => ?_
  subst e
  rw [h] at hk
  injection hk with hk
  injection hk with _ hk
  exact ht hk.symm

/-- The number of a key among those that were met; 0 where it was not. -/
def numK (K : List Nat) (x : Nat) : Nat := if x ∈ K then ixOf K x else 0
def formMv (L K : List Nat) (m : List Int) : List Int := m.set 7 ((numK K (L.getD (mvTo m) 0) : Nat) : Int)
def formSt (ss : List (List (List Int))) (L K : List Nat) (i : Nat) : List (List Int) := (ss.getD i []).map (formMv L K)
def keyL (L : List Nat) (i : Nat) : Nat := L.getD i 0
/-- The states of the canonical form, for labels L and the order o in which states are met. -/
def formC (ss : List (List (List Int))) (L o : List Nat) : List (List (List Int)) := o.map (formSt ss L (o.map (keyL L)))
/-- The first moves renamed. -/
def mvPart (L K : List Nat) (ms : List (List Int)) (k : Nat) : List (List Int) := (ms.take k).map (formMv L K) ++ ms.drop k
theorem mvPart_zero (L K : List Nat) (ms : List (List Int)) : mvPart L K ms 0 = ms := by simp [mvPart]
theorem mvPart_all (L K : List Nat) (ms : List (List Int)) : mvPart L K ms ms.length = ms.map (formMv L K) := by simp [mvPart]
theorem mvPart_at {L K : List Nat} {ms : List (List Int)} {k : Nat} (h : k < ms.length) : (mvPart L K ms k).getD k [] = ms.getD k [] := by
  have h1 : ((ms.take k).map (formMv L K)).length = k := by simp; omega
  rw [mvPart, List.getD_eq_getElem?_getD, List.getElem?_append_right (by omega), h1, Nat.sub_self, List.getElem?_drop, Nat.add_zero, List.getD_eq_getElem?_getD]
theorem mvPart_step {L K : List Nat} {ms : List (List Int)} {k : Nat} (h : k < ms.length) {x : List Int} (hx : ms.getD k [] = x) : (mvPart L K ms k).set k (formMv L K x) = mvPart L K ms (k + 1) := by
  have h1 : ((ms.take k).map (formMv L K)).length = k := by simp; omega
  rw [mvPart, mvPart, List.set_append_right _ _ (by omega), h1, Nat.sub_self, drop_cons h ([] : List Int), hx, List.set_cons_zero, take_snoc h ([] : List Int), hx, List.map_append, List.append_assoc]; rfl
theorem srch_ord {kf : Nat → Nat} {ss : List (List (List Int))} : ∀ {f i : Nat} {st R : List Nat × List (Nat × List Int)}, srch kf ss f i st = some R → (st.1 = 0 :: st.2.map fun f => mvTo f.2) → R.1 = 0 :: R.2.map fun f => mvTo f.2
  | 0, _, _, _, h, _ => by cases h
  | f + 1, i, st, R, h, hs => by
    rw [srch] at h
    split at h
    · refine srch_ord h ?_
      have : ∀ (s : Nat) (ms : List (List Int)) (st : List Nat × List (Nat × List Int)), (st.1 = 0 :: st.2.map fun f => mvTo f.2) → (exts kf s ms st).1 = 0 :: (exts kf s ms st).2.map fun f => mvTo f.2 := by
        intro s ms
        induction ms with
        | nil => intro st h; exact h
        | cons m r ih =>
          intro st h
          rw [exts]
          refine ih _ ?_
          split
          · exact h
          · show st.1 ++ [mvTo m] = 0 :: (st.2 ++ [(s, m)]).map _
            rw [h]; simp
      exact this _ _ _ hs
    · injection h with h; subst h; exact hs
theorem exts_nodup {kf : Nat → Nat} {s : Nat} : ∀ {ms : List (List Int)} {st : List Nat × List (Nat × List Int)}, (st.1.map kf).Nodup → ((exts kf s ms st).1.map kf).Nodup
  | [], _, h => h
  | m :: r, st, h => by
    rw [exts]
    refine exts_nodup ?_
    split
    · exact h
    · rename_i hn
      show ((st.1 ++ [mvTo m]).map kf).Nodup
      rw [List.map_append, List.nodup_append]
      refine ⟨h, by simp, fun a ha b hb e => ?_⟩
      simp only [List.map_cons, List.map_nil, List.mem_singleton] at hb
      exact hn (by rw [← hb, ← e]; exact ha)
theorem srch_nodup {kf : Nat → Nat} {ss : List (List (List Int))} : ∀ {f i : Nat} {st R : List Nat × List (Nat × List Int)}, srch kf ss f i st = some R → (st.1.map kf).Nodup → (R.1.map kf).Nodup
  | 0, _, _, _, h, _ => by cases h
  | f + 1, i, st, R, h, hs => by
    rw [srch] at h
    split at h
    · exact srch_nodup h (exts_nodup hs)
    · injection h with h; subst h; exact hs
theorem mem_movesN {ss : List (List (List Int))} {ms : List (List Int)} (h : ms ∈ ss) : ms.length ≤ movesN ss := by
  obtain ⟨a, b, rfl⟩ := List.append_of_mem h
  rw [movesN_app, show ms :: b = [ms] ++ b from rfl, movesN_app]
  have : movesN [ms] = ms.length := by simp [movesN]
  omega
end Go.Proofs.YtfihpofdoffclaaGreatDoor

/- Appends that tell where the new row lies. -/
namespace Go.Proofs.YtfihpofdoffclaaGreatDoor
open Go.RowKit

theorem run_app1G {P : Program} {T E : TypeId} {z : Value} {bytes : Nat} (hE : ElemOK P T E z bytes) (hby : bytes ≤ 64) (w : World) (ty : TypeId) (v : Value) (n : Nat) (xs : List Value) (hown : w.ownsRow 0 E 1 v n xs) (ad : Addr) (c : Nat) (y : Value) (hy : w.cell? ad = some y) (hy1 : y.oneCell' = true) (hb : n + 1 ≤ 1000000000) :
    ∃ v' w', (Builtin.append_ #[T, T] ty #[v, .slice (some ad) 1 c]).run P w = .ok v' w' ∧ w'.ownsRow 0 E 1 v' (n + 1) (xs ++ [y]) ∧ w.grownBy w' v.ownBlock ∧ NewBlk w v v' := by
  obtain ⟨i0, hi, hz0, hz1, hz2⟩ := info_parts hE.2.1
  have hzs : z.cells.size = 1 := by rw [hE.2.2]; rfl
  have hmul : (n + 1) * bytes ≤ 1000000000 * 64 := Nat.mul_le_mul hb hby
  have hnews : ∀ j u, [y][j]? = some u → w.cell? (ad.add j) = some u := by
    intro j u hj
    match j, hj with
    | 0, hj => simp at hj; subst hj; simpa [Addr.add] using hy
  have h1c : ∀ u ∈ [y], u.oneCell' = true := fun u hu => by rw [List.mem_singleton.1 hu]; exact hy1
  obtain ⟨v', w', hr, h1, h2, _⟩ := run_append_own (P := P) w 0 T ty E i0 z 1 bytes hE.1 hi hz0 hz1 hz2 hzs (by decide) v n xs hown ad 1 c [y] rfl hnews h1c (by unfold maxLen; omega) (by omega) (Nat.zero_le _)
  refine ⟨v', w', hr, h1, h2, ?_⟩
  rcases hown.2 with ⟨rfl, rfl⟩ | ⟨g, cap, cur, rfl, hbg, hg, hnc, hcm, hcs, htake⟩
  · have hx : xs = [] := List.length_eq_zero_iff.1 (by simpa using hown.1)
    subst hx
    obtain ⟨v2, w2, hr2, h3, _, _⟩ := run_append_own (P := P) w w.heap.size T ty E i0 z 1 bytes hE.1 hi hz0 hz1 hz2 hzs (by decide) (.slice none 0 0) 0 [] (World.ownsRow_nil _ _ _ _) ad 1 c [y] rfl hnews h1c (by unfold maxLen; omega) (by omega) (Nat.le_refl _)
    rw [hr] at hr2
    injection hr2 with e1 e2
    subst e1
    exact .inr (ownBlock_ge h3)
  · by_cases hroom : n + 1 ≤ cap
    · obtain ⟨w2, hr2, _, _⟩ := run_append_fits (P := P) w 0 T ty E i0 1 hE.1 hi hz1 g n cap xs hown ad 1 c [y] rfl hnews h1c hroom
      rw [hr] at hr2
      injection hr2 with e1 e2
      subst e1
      exact .inl rfl
    · have holds : ∀ j u, xs[j]? = some u → w.cell? ((⟨g, 0, none⟩ : Addr).add j) = some u := hown.cells (g := g) rfl
      have hr2 := run_append_grow (P := P) w T ty E i0 z hE.1 hi hz0 ⟨g, 0, none⟩ n cap xs (by rw [hz1]; simpa using hown.1) holds ad 1 c [y] (by rw [hz1]; rfl) hnews (by omega) (by omega) (growslice_fits (by omega) (by rw [hz2]; omega))
      rw [hr] at hr2
      injection hr2 with e1 e2
      subst e1
      right
      intro k hk
      simp only [Value.ownBlock, Option.some.injEq] at hk
      omega
theorem wpList_app1 {P : Program} {T E : TypeId} {z : Value} {bytes : Nat} (hE : ElemOK P T E z bytes) (hby : bytes ≤ 64) (w : World) {ops : Array Oper} {rest : List Oper} {o : Oper} {a : Act} {Q : Exit → Act → World → Prop}
    (hg : o.guard = none) (s x : Operand) (hop : o.op = Op.call { callee := Callee.builtin Builtin.append, args := #[s, x], argTypes := #[T, T] })
    (v : Value) (n : Nat) (xs : List Value) (hs : a.eval s = v) (hown : w.ownsRow 0 E 1 v n xs) (ad : Addr) (c : Nat) (y : Value) (hx : a.eval x = .slice (some ad) 1 c) (hy : w.cell? ad = some y) (hy1 : y.oneCell' = true) (hb : n + 1 ≤ 1000000000)
    (hK : ∀ v' w', w'.ownsRow 0 E 1 v' (n + 1) (xs ++ [y]) → w.grownBy w' v.ownBlock → NewBlk w v v' → wpList P ops Q rest (a.put o.dst v') w') :
    wpList P ops Q (o :: rest) a w := by
  refine wpList_plain hg fun K hK' => ?_
  obtain ⟨v', w', hrun, r1, r2, r3⟩ := run_app1G hE hby w o.type v n xs hown ad c y hy hy1 hb
  unfold Oper.wp
  simp [execOp, hop, resolve, invoke, builtin, hs, hx, hrun, Result.andThen]
  exact hK' _ _ (hK v' w' r1 r2 r3)
/-- append(s, y) of ints; where the new row lies is told. -/
theorem wpApp1I {w0 : World} {y : Int} {t : TypeId} {ops : Array Oper} {rest : List Oper} {o : Oper} {a : Act} {Q : Exit → Act → World → Prop} (hgd : o.guard = none) (s x : Operand)
    (ho : o.op = .call { callee := .builtin .append, args := #[s, x], argTypes := #[27, 27] })
    {B : Nat} {v : Value} {n : Nat} {xs : List Int} (hs : a.eval s = v) (hown : OI w0 B v n xs) (hx : a.eval x = .slice (some ⟨w0.heap.size, 0, none⟩) 1 1)
    (hn : n ≤ 1000000) (hB : B ≤ w0.heap.size)
    (h : ∀ v' w', OI w' B v' (n + 1) (xs ++ [y]) → w0.grownBy w' v.ownBlock → (v'.ownBlock = v.ownBlock ∨ ∀ k, v'.ownBlock = some k → w0.heap.size ≤ k) → Below B w0 w' → wpList Tryz.prog ops Q rest (a.put o.dst v') w') :
    wpList Tryz.prog ops Q (o :: rest) a (w0.alloc (.cells #[.int .i64 y] t)) := by
  refine wpList_app1 elemInt (by decide) _ hgd s x ho v n (xs.map (Value.int .i64)) hs ((hown.base (Nat.zero_le _)).alloc _) ⟨w0.heap.size, 0, none⟩ 1 (.int .i64 y) hx (cell_of_one (heap_alloc_new _ _)) rfl (by omega) fun v' w' h1 h2 h3 => ?_
  have h2' : w0.grownBy w' v.ownBlock := grownBy_alloc_trans h2
  have hnb : v'.ownBlock = v.ownBlock ∨ ∀ k, v'.ownBlock = some k → w0.heap.size ≤ k := by
    rcases h3 with e | e
    · exact .inl e
    · exact .inr fun k hk => by have := e k hk; simp at this; omega
  have hge : ∀ k, v.ownBlock = some k → B ≤ k := fun k hk => (hown.lt k hk).1
  refine h v' w' ⟨by rw [List.map_append]; exact h1.1, ?_⟩ h2' hnb ((Below.refl B w0).grown h2' hB (fun k hk => hge k hk))
  rcases h1.2 with h' | ⟨g, cap, cur, k1, k2, k3⟩
  · exact .inl h'
  · refine .inr ⟨g, cap, cur, k1, ?_, by rw [List.map_append]; exact k3⟩
    have hg : v'.ownBlock = some g := by rw [k1]; rfl
    rcases hnb with e | e
    · rw [e] at hg; exact hge g hg
    · exact Nat.le_trans hB (e g hg)
end Go.Proofs.YtfihpofdoffclaaGreatDoor

/- The walk of the search, with one pair of functions. -/
namespace Go.Proofs.YtfihpofdoffclaaGreatDoor
open Go.RowKit Go.ChangeMaps Go.MapKept

set_option maxRecDepth 100000 in
set_option maxHeartbeats 6400000 in
theorem searchA {w : World} {v : Value} {ss : List (List (List Int))} {D0 : Nat → Prop} {kf : Nat → Nat} {J : List (Nat × List Int) → (Nat → Prop) → World → Prop} {bl bn : Nat}
    {wA : World} (hK : KSS 8 wA v ss) (hbA : Below wA.heap.size wA w) (hDA : ∀ k, D0 k → wA.heap.size ≤ k) (hl : 0 < ss.length ∧ ss.length ≤ 1000) (hkf : ∀ i, i < ss.length → kf i ≤ 1000000) (hto : ∀ s ∈ ss, ∀ m ∈ s, m.length = 8 ∧ 0 ≤ m.getD 7 0 ∧ m.getD 7 0 < (ss.length : Int))
    (hkey : ∀ W (i : Nat), Only D0 w W → i < ss.length → Calls Tryz.prog 85 #[.int .i64 (i : Int), .pointer (some ⟨bl, 0, none⟩)] W fun e W' => e = .returned (.int .i64 (kf i : Nat)) ∧ W' = W)
    (hJ : Stable J) (hD0 : Bd D0 w) (h0 : J [] D0 w)
    (hfound : ∀ W fs D (s : Nat) y0 y1 y2 y3 y4 y5 y6 y7, J fs D W → Bd D W → Only D0 w W → Gr D0 w D → s < ss.length → [y0, y1, y2, y3, y4, y5, y6, y7] ∈ ss.getD s [] → kf (mvTo [y0, y1, y2, y3, y4, y5, y6, y7]) ∉ (0 :: fs.map fun f => mvTo f.2).map kf →
      Calls Tryz.prog 86 #[.int .i64 (s : Int), .agg #[.int .i64 y0, .int .i64 y1, .int .i64 y2, .int .i64 y3, .int .i64 y4, .int .i64 y5, .int .i64 y6, .int .i64 y7], .pointer (some ⟨bn, 0, none⟩), .pointer (some ⟨bl, 0, none⟩)] W fun e W' => e = .returned (.tuple #[]) ∧
        ∃ D', Only D W W' ∧ Gr D W D' ∧ Bd D' W' ∧ J (fs ++ [(s, [y0, y1, y2, y3, y4, y5, y6, y7])]) D' W')
    {F : Nat} {R : List Nat × List (Nat × List Int)} (hR : srch kf ss F 0 ([0], []) = some R) (hRl : R.1.length ≤ 1000) :
    Calls Tryz.prog 59 #[v, .func (.func 85) #[] #[.pointer (some ⟨bl, 0, none⟩)], .func (.func 86) #[] #[.pointer (some ⟨bn, 0, none⟩), .pointer (some ⟨bl, 0, none⟩)]] w fun e W' =>
      ∃ u D', e = .returned u ∧ OI W' w.heap.size u R.1.length (natI R.1) ∧ J R.2 D' W' ∧ Bd D' W' ∧ Only D0 w W' ∧ Gr D0 w D' ∧ (∀ k, u.ownBlock = some k → ¬ D' k) := by
  obtain ⟨hl0, hl1⟩ := hl
  obtain ⟨sa, sc, sb, so, rfl, hsa, hsc, _⟩ := hK
  obtain rfl := hsa hl0
  clear hsa
  have hmm := @run_makeMap Tryz.prog
  replace hsc := Lib.hid hsc
  replace hkey := Lib.hid hkey
  replace hfound := Lib.hid hfound
  replace hkf := Lib.hid hkf
  replace hto := Lib.hid hto
  replace hJ := Lib.hid hJ
  obtain ⟨W0, hW0⟩ : ∃ W0, W0 = (w.alloc (.cells #[.int .i64 0] 3)).alloc (.map #[] 0) := ⟨_, rfl⟩
  have hbw : Below w.heap.size w W0 := by rw [hW0]; exact ((Below.refl _ w).alloc (Nat.le_refl _) _).alloc (by simp) _
  have hs0 : W0.heap.size = w.heap.size + 2 := by rw [hW0]; simp
  have hO0 : Only D0 w W0 := Only.of_below hbw
  have hrow0 : W0.heap[w.heap.size]? = some (.cells #[.int .i64 0] 3) := by rw [hW0]; exact (Below.heap_alloc _ _ _ (by simp)).trans (heap_alloc_new _ _)
  have hmade : SN kf W0 (w.heap.size + 1) [] := by
    have h := MX.made (kv := intV) (vv := Value.bool) (w.alloc (.cells #[.int .i64 0] 3))
    rw [World.size_alloc] at h
    rw [hW0]; exact h
  have hk0b := hkf.out 0 hl0
  obtain ⟨ob, hput, hSN1⟩ := SN.put hmade (by simp) hk0b (by simp)
  have hkc := hkey.out W0 0 hO0 hl0
  obtain ⟨q0, hq0⟩ : ∃ q, kf 0 = q := ⟨_, rfl⟩
  rw [hq0] at hput hkc
  obtain ⟨W1, hW1⟩ : ∃ W1, W1 = setBlock W0 (w.heap.size + 1) ob := ⟨_, rfl⟩
  rw [← hW1] at hput hSN1
  have hs1 : W1.heap.size = w.heap.size + 2 := by rw [hW1]; simpa [setBlock] using hs0
  have hO1 : Only D0 w W1 := ⟨by rw [hW1]; exact hO0.os, by rw [hW1]; exact hO0.tape, by rw [hW1]; exact hO0.output, by omega, fun k hk hd => by rw [hW1]; exact (setBlock_keep ob (by omega)).trans (hO0.same k hk hd)⟩
  have hrow1 : W1.heap[w.heap.size]? = some (.cells #[.int .i64 0] 3) := by rw [hW1]; exact (setBlock_keep ob (by omega)).trans hrow0
  have hOI1 : OI W1 w.heap.size (.slice (some ⟨w.heap.size, 0, none⟩) 1 1) ([0] : List Nat).length (natI [0]) := ⟨rfl, .inr ⟨w.heap.size, 1, _, rfl, Nat.le_refl _, hrow1, Nat.le_refl _, by unfold maxLen; omega, rfl, rfl⟩⟩
  have hJ1 : J [] D0 W1 := hJ.out _ _ _ _ h0 (by omega) (fun k hk => by
    have h1 := hD0 k hk
    rw [hW1]
    exact (setBlock_keep ob (by omega)).trans (hbw.block k h1))
  have hBd1 : Bd D0 W1 := fun k hk => by have := hD0 k hk; omega
  have hnS : ¬ D0 (w.heap.size + 1) := fun h => by have := hD0 _ h; omega
  have hnR : ∀ k, (Value.slice (some ⟨w.heap.size, 0, none⟩) 1 1).ownBlock = some k → ¬ D0 k := fun k hk h => by
    simp only [Value.ownBlock, Option.some.injEq] at hk
    have := hD0 _ h; omega
  have hb0 : Hid (∀ x ∈ ([0] : List Nat), x < ss.length) := fun x hx => by simp at hx; omega
  have hR0 : Hid (srch kf ss F 0 ([0], []) = some R) := hR
  replace hW0 := Lib.hid hW0
  replace hW1 := Lib.hid hW1
  replace hq0 := Lib.hid hq0
  replace hkc := Lib.hid hkc
  go_enter Tryz.func59, Tryz.ntmps59
  go_wp2_with fail
  rw [← hW0.out]
  refine (show Calls _ _ _ _ _ from hkc.out).mono ?_
  rintro e w' ⟨rfl, rfl⟩
  go_wp2_with fail
  clear hput hkc hmade hrow0 hrow1 hW0 hW1 hq0 hO0 hbw hR h0
  go_loopg [7, 9] F (fun f ov iv wr => ∃ (i : Nat) (o : List Nat) (fs : List (Nat × List Int)) (D : Nat → Prop), iv = .int .i64 i ∧ OI wr w.heap.size ov o.length (natI o) ∧ SN kf wr (w.heap.size + 1) o ∧ J fs D wr ∧ Bd D wr ∧ Only D0 w wr ∧ Gr D0 w D ∧
    (∀ k, ov.ownBlock = some k → ¬ D k) ∧ ¬ D (w.heap.size + 1) ∧ Hid (∀ x ∈ o, x < ss.length) ∧ Hid (srch kf ss f i (o, fs) = some R) ∧ i ≤ o.length ∧ Hid (o = 0 :: fs.map fun f => mvTo f.2))
  case atStart => exact ⟨0, [0], [], D0, rfl, hOI1, hSN1, hJ1, hBd1, hO1, Gr.refl _ _, hnR, hnS, hb0, hR0, by simp, rfl⟩
  case round =>
    clear hOI1 hSN1 hJ1 hBd1 hO1 hnR hnS hb0 hR0
    obtain ⟨i, o, fs, D, rfl, hOI, hSN, hJr, hBd, hO, hGr, hnR, hnS, hob, hg, hio, hofs⟩ := hrel
    obtain ⟨f, rfl⟩ : ∃ f, gk = f + 1 := by
      cases gk with
      | zero => exact absurd hg (by intro h; simp [Hid, srch] at h)
      | succ f => exact ⟨f, rfl⟩
    have hol : o.length ≤ 1000 := Nat.le_trans (srch_le hg.out) hRl
    obtain ⟨ga, gc, hov⟩ := hOI.shape
    subst hov
    by_cases hlt : i < o.length
    · obtain ⟨g, hg2⟩ : ∃ g, ga = some ⟨g, 0, none⟩ := by
        rcases hOI.2 with ⟨h1, h2⟩ | ⟨g, cap, cur, h1, _⟩
        · omega
        · injection h1 with h1; exact ⟨g, h1⟩
      subst hg2
      have hci := hOI.cell hlt
      rw [natI_getD] at hci
      obtain ⟨s, hs⟩ : ∃ s, o.getD i 0 = s := ⟨_, rfl⟩
      have hs' := hs
      have hsl : s < ss.length := hob.out s (by rw [← hs, getD_eq hlt]; exact List.getElem_mem hlt)
      have hg3 : Hid (srch kf ss f (i + 1) (exts kf s (ss.getD s []) (o, fs)) = some R) := by
        have h1 := hg.out
        rw [srch, if_pos hlt] at h1
        rw [← hs]; exact h1
      rw [hs] at hci
      have hbW : Below wA.heap.size wA wr := hbA.trans (hO.below hbA.size hDA)
      obtain ⟨u, hcu, hu⟩ := hsc.out s hsl
      replace hcu := cell_kept hbW hcu
      obtain ⟨ms, hms⟩ : ∃ ms, ss.getD s [] = ms := ⟨_, rfl⟩
      have hmem : ms ∈ ss := by rw [← hms, getD_eq hsl]; exact List.getElem_mem hsl
      have hmv := Lib.hid (hto.out ms hmem)
      rw [hms] at hu hg3
      obtain ⟨E, hE⟩ : ∃ E, exts kf s ms (o, fs) = E := ⟨_, rfl⟩
      have hE0 : Hid (exts kf s (ms.drop 0) (o, fs) = E) := by show _ = _; rw [List.drop_zero]; exact hE
      rw [hE] at hg3
      have hEl : E.1.length ≤ 1000 := Nat.le_trans (srch_le hg3.out) hRl
      obtain ⟨ma, mc, mb, mo, rfl, hma, hmc, hml⟩ := hu
      replace hmc := Lib.hid hmc
      replace hms := Lib.hid hms
      clear hs hg hE
      go_wp2
      go_loopw [7, 31] (fun ov jv wr => ∃ (j : Nat) (o : List Nat) (fs : List (Nat × List Int)) (D : Nat → Prop), jv = .int .i64 j ∧ j ≤ ms.length ∧ OI wr w.heap.size ov o.length (natI o) ∧ SN kf wr (w.heap.size + 1) o ∧ J fs D wr ∧ Bd D wr ∧ Only D0 w wr ∧ Gr D0 w D ∧
        (∀ k, ov.ownBlock = some k → ¬ D k) ∧ ¬ D (w.heap.size + 1) ∧ Hid (∀ x ∈ o, x < ss.length) ∧ Hid (exts kf s (ms.drop j) (o, fs) = E) ∧ i < o.length ∧ o.getD i 0 = s ∧ Hid (o = 0 :: fs.map fun f => mvTo f.2)) (fun _ jv _ => ms.length - (intOf jv).toNat)
      case atStart => exact ⟨0, o, fs, D, rfl, by omega, hOI, hSN, hJr, hBd, hO, hGr, hnR, hnS, hob, hE0, hlt, hs', hofs⟩
      case round =>
        clear hOI hSN hJr hBd hO hGr hnR hnS hob hE0 hlt hs' hofs hci hcu hio hol hbW
        obtain ⟨j, o, fs, D, rfl, hj, hOI, hSN, hJr, hBd, hO, hGr, hnR, hnS, hob, hg, hio, his, hofs⟩ := hrel
        have hol : o.length ≤ 1000 := by
          have h1 := exts_le kf s (ms.drop j) (o, fs)
          rw [hg.out] at h1
          exact Nat.le_trans h1 hEl
        obtain ⟨g, gc, hov⟩ : ∃ g gc, u7 = .slice (some ⟨g, 0, none⟩) o.length gc := by
          rcases hOI.2 with ⟨h1, h2⟩ | ⟨g, cap, cur, h1, _⟩
          · omega
          · exact ⟨g, cap, h1⟩
        subst hov
        by_cases hltj : j < ms.length
        · obtain rfl := hma (by omega)
          have hbW : Below wA.heap.size wA wr := hbA.trans (hO.below hbA.size hDA)
          obtain ⟨hx8, hxc⟩ := hmc.out j hltj
          obtain ⟨x, hx⟩ : ∃ x, ms.getD j [] = x := ⟨_, rfl⟩
          have hxm : x ∈ ms := by rw [← hx, getD_eq hltj]; exact List.getElem_mem hltj
          obtain ⟨_, ht0, ht1⟩ := hmv.out x hxm
          have hdr := drop_cons hltj ([] : List Int)
          rw [hx] at hx8 hxc hdr
          obtain ⟨y0, y1, y2, y3, y4, y5, y6, y7, rfl⟩ := eight hx8
          replace ht0 : 0 ≤ y7 := ht0
          replace ht1 : y7 < (ss.length : Int) := ht1
          obtain ⟨q, rfl⟩ : ∃ q : Nat, y7 = (q : Int) := ⟨y7.toNat, by omega⟩
          have hq : q < ss.length := by omega
          obtain ⟨c0, c1, c2, c3, c4, c5, c6, c7⟩ := (hxc.keep hbW).all8
          have hmq : mvTo [y0, y1, y2, y3, y4, y5, y6, (q : Int)] = q := by show ((q : Int)).toNat = q; omega
          have hxm2 : Hid ([y0, y1, y2, y3, y4, y5, y6, (q : Int)] ∈ ss.getD s []) := by show _ ∈ _; rw [hms.out]; exact hxm
          rw [hdr] at hg
          obtain ⟨W2, hW2⟩ : ∃ W2, W2 = wr.alloc (.cells #[.int .i64 y0, .int .i64 y1, .int .i64 y2, .int .i64 y3, .int .i64 y4, .int .i64 y5, .int .i64 y6, .int .i64 (q : Int)] 84) := ⟨_, rfl⟩
          have hb2 : Below wr.heap.size wr W2 := by rw [hW2]; exact (Below.refl _ _).alloc (Nat.le_refl _) _
          have m2 : W2.heap[wr.heap.size]? = some (.cells #[.int .i64 y0, .int .i64 y1, .int .i64 y2, .int .i64 y3, .int .i64 y4, .int .i64 y5, .int .i64 y6, .int .i64 (q : Int)] 84) := by rw [hW2]; exact heap_alloc_new _ _
          have hs2a : W2.heap.size ≤ wr.heap.size + 1 := by rw [hW2]; simp
          have hs2b : wr.heap.size + 1 ≤ W2.heap.size := by rw [hW2]; simp
          have hO2 := hO.thenBelow (hb2.mono hO.size)
          have hJ2 := hJ.out _ _ _ _ hJr hb2.size (fun k hk => hb2.block k (hBd k hk))
          have hBd2 : Bd D W2 := fun k hk => Nat.lt_of_lt_of_le (hBd k hk) hb2.size
          have hOI2 := hOI.keep hb2
          have hSN2 : SN kf W2 (w.heap.size + 1) o := MX.keep hSN (hb2.block _ (MX.lt hSN))
          have hkc := hkey.out W2 q hO2 hq
          have hkq := hkf.out q hq
          have hkall : ∀ y ∈ o, kf y ≤ 1000000 := fun y hy => hkf.out y (hob.out y hy)
          have hlk := hSN2.look hkall hkq
          have hbSw : w.heap.size + 1 < wr.heap.size := MX.lt hSN
          have hgw : g < wr.heap.size := by
            rcases hOI.2 with ⟨h1, _⟩ | ⟨g', cap, cur, h1, _, h3, _⟩
            · cases h1
            · injection h1 with h1; injection h1 with h1; injection h1 with h1
              rw [h1]; exact (Array.getElem?_eq_some_iff.1 h3).1
          obtain ⟨p0, p1, p2, p3, p4, p5, p6, p7⟩ := box8 m2
          replace hW2 := Lib.hid hW2
          clear hx8 hxc hxm hdr hOI hSN hJr hBd hO hx
          by_cases hin : kf q ∈ o.map kf
          · rw [decide_eq_true hin] at hlk
            have hg2 : Hid (exts kf s (ms.drop (j + 1)) (o, fs) = E) := by
              show _ = _; rw [← hg.out]; exact (exts_in (by rw [hmq]; exact hin)).symm
            obtain ⟨qk, hqk⟩ : ∃ qk, kf q = qk := ⟨_, rfl⟩
            rw [hqk] at hlk hkc
            replace hkc := Lib.hid hkc
            clear hin hqk hg
            go_wp2_with fail
            rw [← hW2.out]
            refine (show Calls _ _ _ _ _ from hkc.out).mono ?_
            rintro e w' ⟨rfl, rfl⟩
            go_wp2_with fail
            go_roundw
            case rel => exact ⟨j + 1, o, fs, D, by go_num, hltj, hOI2, hSN2, hJ2, hBd2, hO2, hGr, hnR, hnS, hob, hg2, hio, his, hofs⟩
            case measure => simp [intOf]; omega
          · rw [decide_eq_false hin] at hlk
            have hg2 : Hid (exts kf s (ms.drop (j + 1)) (o ++ [q], fs ++ [(s, [y0, y1, y2, y3, y4, y5, y6, (q : Int)])]) = E) := by
              show _ = _; rw [← hg.out]
              have h1 := exts_out (kf := kf) (s := s) (m := [y0, y1, y2, y3, y4, y5, y6, (q : Int)]) (r := ms.drop (j + 1)) (o := o) (fs := fs) (by rw [hmq]; exact hin)
              rw [hmq] at h1; exact h1.symm
            obtain ⟨ob, hput, hSN3⟩ := hSN2.put hkall hkq hin
            obtain ⟨qk, hqk⟩ : ∃ qk, kf q = qk := ⟨_, rfl⟩
            rw [hqk] at hlk hkc hput
            replace hkc := Lib.hid hkc
            obtain ⟨W3, hW3⟩ : ∃ W3, W3 = setBlock W2 (w.heap.size + 1) ob := ⟨_, rfl⟩
            rw [← hW3] at hput hSN3
            have hkp : ∀ k, k ≠ w.heap.size + 1 → W3.heap[k]? = W2.heap[k]? := fun k hk => by rw [hW3]; exact setBlock_keep ob hk
            have hs3a : W3.heap.size ≤ W2.heap.size := by rw [hW3]; simp [setBlock]
            have hs3b : W2.heap.size ≤ W3.heap.size := by rw [hW3]; simp [setBlock]
            have hb3 : Below w.heap.size W2 W3 := by rw [hW3]; exact setBlock_below (Below.refl _ _) (by omega) ob
            have hOI3 : OI W3 w.heap.size (.slice (some ⟨g, 0, none⟩) o.length gc) o.length (natI o) := by
              refine ⟨hOI2.1, ?_⟩
              rcases hOI2.2 with h' | ⟨g', cap, cur, h1, h2, h3, h4⟩
              · exact .inl h'
              · refine .inr ⟨g', cap, cur, h1, h2, Eq.trans (hkp g' ?_) h3, h4⟩
                rintro rfl
                obtain ⟨es, cl, hm, _⟩ := hSN2
                rw [hm] at h3; cases h3
            have hgS : g ≠ w.heap.size + 1 := by
              rintro rfl
              obtain ⟨es, cl, hm, _⟩ := hSN2
              rcases hOI2.2 with ⟨h1, _⟩ | ⟨g', cap, cur, h1, _, h3, _⟩
              · cases h1
              · injection h1 with h1; injection h1 with h1; injection h1 with h1
                rw [← h1, hm] at h3; cases h3
            have hgB : w.heap.size ≤ g := hOI2.ge
            have hnG : ¬ D g := hnR g rfl
            have m3 := (hkp wr.heap.size (by omega)).trans m2
            have hF := fun W h1 h2 h3 => hfound.out W fs D s y0 y1 y2 y3 y4 y5 y6 (q : Int) h1 h2 h3 hGr hsl hxm2.out (by rw [hmq, ← hofs.out]; exact hin)
            replace hF := Lib.hid hF
            have hbnd : w.heap.size ≤ W3.heap.size := by omega
            have p0' := box8 m3
            obtain ⟨r0, r1, r2, r3, r4, r5, r6, r7⟩ := p0'
            have hofs5 : Hid (o ++ [q] = 0 :: (fs ++ [(s, [y0, y1, y2, y3, y4, y5, y6, (q : Int)])]).map fun f => mvTo f.2) := by
              show _ = _
              rw [List.map_append, ← List.cons_append, ← hofs.out]
              show _ = o ++ [mvTo [y0, y1, y2, y3, y4, y5, y6, (q : Int)]]
              rw [hmq]
            replace hW3 := Lib.hid hW3
            clear hqk hg hin
            go_wp2_with fail
            rw [← hW2.out]
            refine (show Calls _ _ _ _ _ from hkc.out).mono ?_
            rintro e w' ⟨rfl, hw'⟩
            replace hw' := hw'.symm
            subst hw'
            go_wp2_with fail
            refine (show Calls _ _ _ _ _ from hkc.out).mono ?_
            rintro e w' ⟨rfl, hw'⟩
            replace hw' := hw'.symm
            subst hw'
            clear p0 p1 p2 p3 p4 p5 p6 p7
            go_wp2_with (at_builtin; refine wpApp1I rfl _ _ rfl rfl hOI3 rfl (by omega) hbnd ?_; intro v' w4 ho4 hgr4 hnb4 hb4; obtain ⟨g', cap', rfl⟩ := ownsRow_succ ho4)
            obtain ⟨N, hN⟩ : ∃ N, N = o.length + 1 := ⟨_, rfl⟩
            rw [← hN] at ho4 hnb4 ⊢
            have hb24 : Below w.heap.size W2 w4 := hb3.trans hb4
            have hO4 := hO2.thenBelow hb24
            have hgr4' : W3.grownBy w4 (some g) := hgr4
            have hne4 : ∀ k, k < W3.heap.size → k ≠ g → k ≠ w.heap.size + 1 → w4.heap[k]? = W2.heap[k]? := fun k hk h1 h2 => (hgr4'.block k hk (fun e => h1 (by injection e))).trans (hkp k h2)
            have hJ4 : J fs D w4 := hJ.out _ _ _ _ hJ2 (by have := hgr4'.size; omega) (fun k hk => hne4 k (by have := hBd2 k hk; omega) (fun e => hnG (e ▸ hk)) (fun e => hnS (e ▸ hk)))
            have hBd4 : Bd D w4 := fun k hk => by have := hBd2 k hk; have := hgr4'.size; omega
            have m4 := (hgr4'.block wr.heap.size (by omega) (fun e => by injection e; omega)).trans m3
            have hSN4 : SN kf w4 (w.heap.size + 1) (o ++ [q]) := MX.keep hSN3 (hgr4'.block _ (by omega) (fun e => by injection e with e; exact hgS e.symm))
            have hio4 : i < N := by omega
            replace hN := Lib.hid hN
            have hci4 := ho4.cell hio4
            have hnat : natI o ++ [(q : Int)] = natI (o ++ [q]) := by simp [natI]
            have his4 : (o ++ [q]).getD i 0 = s := by rw [List.getD_eq_getElem?_getD, List.getElem?_append_left hio, ← List.getD_eq_getElem?_getD]; exact his
            rw [hnat] at ho4 hci4
            rw [natI_getD, his4] at hci4
            obtain ⟨r0, r1, r2, r3, r4, r5, r6, r7⟩ := box8 m4
            have hg'4 : g' < w4.heap.size := by
              rcases ho4.2 with ⟨h1, _⟩ | ⟨g2, cap, cur, h1, _, h3, _⟩
              · cases h1
              · injection h1 with h1; injection h1 with h1; injection h1 with h1
                rw [h1]; exact (Array.getElem?_eq_some_iff.1 h3).1
            have hg'D : ¬ D g' := by
              rcases hnb4 with e | e
              · have : some g' = some g := e
                injection this with this
                rw [this]; exact hnG
              · have h1 := e g' rfl
                intro h; have := hBd2 g' h; omega
            have hg'S : g' ≠ w.heap.size + 1 := by
              rcases hnb4 with e | e
              · have : some g' = some g := e
                injection this with this
                rw [this]; exact hgS
              · have h1 := e g' rfl
                omega
            have hmx : Tryz.prog.follows .mixedOrders = true := by kernel_rfl
            clear hput hlk hOI3 hOI2 hSN2 hSN3 hJ2 hgr4 hgr4' hO2 m2 m3 hb2 hb3 hb4 hkp hne4 hkc c0 c1 c2 c3 c4 c5 c6 c7
            refine wp_region_qtail 6 hmx (by kernel_rfl) (by kernel_rfl) ?_ ?_
            · rintro ⟨a, wx, h⟩
              obtain ⟨_, _, h, _⟩ := h
              cases h
            · intro ops'
              simp only [List.take_succ_cons, List.take_zero, List.drop_succ_cons, List.drop_zero]
              repeat (quiet_step (fail))
              refine wpQuiet_nil ?_
              intro k
              have hOk : Only D0 w (w4.drewN k) := hO4.drewN k
              go_wp2_with fail
              have hJk : J fs D (w4.drewN k) := hJ.out _ _ _ _ hJ4 (Nat.le_refl _) (fun _ _ => rfl)
              refine (show Calls _ _ _ _ _ from hF.out (w4.drewN k) hJk (fun x hx => hBd4 x hx) hOk).mono ?_
              rintro e W5 ⟨rfl, D5, hO5, hGr5, hBd5, hJ5⟩
              have hOn5 : Only D0 w W5 := hOk.trans hO5 hGr
              have hGrn5 := hGr.trans hGr5 hOk.size
              have hSN5 : SN kf W5 (w.heap.size + 1) (o ++ [q]) := MX.keep hSN4 (hO5.same _ (MX.lt hSN4) hnS)
              have ho5 : OI W5 w.heap.size (.slice (some ⟨g', 0, none⟩) N cap') N (natI (o ++ [q])) := by
                refine ⟨ho4.1, ?_⟩
                rcases ho4.2 with h' | ⟨g2, cap, cur, h1, h2, h3, h4⟩
                · exact .inl h'
                · have hg2 : g2 = g' := by injection h1 with h1; injection h1 with h1; injection h1 with h1; exact h1.symm
                  refine .inr ⟨g2, cap, cur, h1, h2, Eq.trans (hO5.same g2 (Array.getElem?_eq_some_iff.1 h3).1 (by rw [hg2]; exact hg'D)) h3, h4⟩
              have hnew : ∀ k, D5 k → D k ∨ w4.heap.size ≤ k := hGr5
              have hnR5 : ∀ k, (Value.slice (some ⟨g', 0, none⟩) N cap').ownBlock = some k → ¬ D5 k := fun k hk h => by
                simp only [Value.ownBlock, Option.some.injEq] at hk
                subst hk
                rcases hnew _ h with h' | h'
                · exact hg'D h'
                · omega
              have hnS5 : ¬ D5 (w.heap.size + 1) := fun h => by
                rcases hnew _ h with h' | h'
                · exact hnS h'
                · have := MX.lt hSN4; omega
              have hob5 : Hid (∀ x ∈ o ++ [q], x < ss.length) := fun x hx => by
                rcases List.mem_append.1 hx with h | h
                · exact hob.out x h
                · rw [List.mem_singleton.1 h]; exact hq
              have hl1' : (o ++ [q]).length = N := by rw [hN.out]; simp
              have ho6 : OI W5 w.heap.size (.slice (some ⟨g', 0, none⟩) N cap') (o ++ [q]).length (natI (o ++ [q])) := by rw [hl1']; exact ho5
              have hi5 : i < (o ++ [q]).length := by rw [hl1']; exact hio4
              clear hF hl1'
              go_wp2
              go_roundw
              case rel => exact ⟨j + 1, o ++ [q], _, D5, by go_num, hltj, ho6, hSN5, hJ5, hBd5, hOn5, hGrn5, hnR5, hnS5, hob5, hg2, hi5, his4, hofs5⟩
              case measure => simp [intOf]; omega
        · obtain rfl : j = ms.length := by omega
          have hE1 : Hid (srch kf ss f (i + 1) (o, fs) = some R) := by
            show _ = _
            have h1 := hg.out
            rw [List.drop_length, exts] at h1
            rw [h1]; exact hg3.out
          clear hg hg3
          go_wp2
          go_roundg f
          case measure => omega
          case rel => exact ⟨i + 1, o, fs, D, by go_num, hOI, hSN, hJr, hBd, hO, hGr, hnR, hnS, hob, hE1, by omega, hofs⟩
    · have hRe : R = (o, fs) := by
        have h1 := hg.out
        rw [srch, if_neg hlt] at h1
        exact (Option.some.inj h1).symm
      subst hRe
      clear hg
      go_wp2
      go_ret
      exact ⟨_, rfl, hOI, D, hJr, hBd, hO, hGr, hnR⟩
end Go.Proofs.YtfihpofdoffclaaGreatDoor

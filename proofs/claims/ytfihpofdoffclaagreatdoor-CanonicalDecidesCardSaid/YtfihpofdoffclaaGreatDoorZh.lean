/- Texts of this claim, put together: D1 E0 E1 E2 NB. -/
import Derived.Test.YtfihpofdoffclaaGreatDoorZg
import Derived.Test.YtfihpofdoffclaaGreatDoorZa
import Derived.Test.YtfihpofdoffclaaGreatDoorZb
import Derived.Lib.LazyBuf
import Derived.Test.YtfihpofdoffclaaGreatDoorZe
import Derived.OwnWalkIn

/- The search for new states: plain lists. -/
namespace Go.Proofs.YtfihpofdoffclaaGreatDoor
open Go.RowKit Go.ChangeMaps Go.MapKept

/-- The moves of state s: those that lead to a new key. -/
def exts (kf : Nat → Nat) (s : Nat) : List (List Int) → List Nat × List (Nat × List Int) → List Nat × List (Nat × List Int)
  | [], st => st
  | m :: r, st => exts kf s r (if kf (mvTo m) ∈ st.1.map kf then st else (st.1 ++ [mvTo m], st.2 ++ [(s, m)]))
def srch (kf : Nat → Nat) (ss : List (List (List Int))) : Nat → Nat → List Nat × List (Nat × List Int) → Option (List Nat × List (Nat × List Int))
  | 0, _, _ => none
  | f + 1, i, st => if i < st.1.length then srch kf ss f (i + 1) (exts kf (st.1.getD i 0) (ss.getD (st.1.getD i 0) []) st) else some st
theorem exts_in {kf : Nat → Nat} {s : Nat} {m : List Int} {r : List (List Int)} {o : List Nat} {fs : List (Nat × List Int)} (h : kf (mvTo m) ∈ o.map kf) : exts kf s (m :: r) (o, fs) = exts kf s r (o, fs) := by rw [exts, if_pos h]
theorem exts_out {kf : Nat → Nat} {s : Nat} {m : List Int} {r : List (List Int)} {o : List Nat} {fs : List (Nat × List Int)} (h : kf (mvTo m) ∉ o.map kf) : exts kf s (m :: r) (o, fs) = exts kf s r (o ++ [mvTo m], fs ++ [(s, m)]) := by rw [exts, if_neg h]
theorem exts_le (kf : Nat → Nat) (s : Nat) : ∀ (ms : List (List Int)) (st : List Nat × List (Nat × List Int)), st.1.length ≤ (exts kf s ms st).1.length
  | [], _ => Nat.le_refl _
  | m :: r, st => by
    rw [exts]
    refine Nat.le_trans ?_ (exts_le kf s r _)
    split
    · exact Nat.le_refl _
    · simp
theorem srch_le {kf : Nat → Nat} {ss : List (List (List Int))} : ∀ {f i : Nat} {st R : List Nat × List (Nat × List Int)}, srch kf ss f i st = some R → st.1.length ≤ R.1.length
  | 0, _, _, _, h => by cases h
  | f + 1, i, st, R, h => by
    rw [srch] at h
    split at h
    · exact Nat.le_trans (exts_le _ _ _ _) (srch_le h)
    · injection h with h; subst h; exact Nat.le_refl _
/-- The keys that were seen. -/
def SN (kf : Nat → Nat) (w : World) (b : Nat) (o : List Nat) : Prop := MX intV Value.bool w b (o.map fun x => (kf x, true))
theorem umSeen : Tryz.prog.underlying 150 = some (.map 3 4) := by kernel_rfl
theorem zBool : ∀ w, (zeroValue 4).run Tryz.prog w = .ok (.bool false) w := fun w => by kernel_rfl
set_option maxRecDepth 100000 in
theorem SN.look {kf : Nat → Nat} {w : World} {b : Nat} {o : List Nat} (h : SN kf w b o) (hs : ∀ y ∈ o, kf y ≤ 1000000) {x : Nat} (hx : x ≤ 1000000) :
    (Instr.lookup 150 (.map (some b)) (.int .i64 (x : Int)) false).run Tryz.prog w = .ok (.bool (decide (x ∈ o.map kf))) w := by
  have hm : ∀ p ∈ o.map (fun y => (kf y, true)), p.1 ≤ 1000000 := fun p hp => by
    obtain ⟨y, hy, rfl⟩ := List.mem_map.1 hp; exact hs y hy
  have hf : (o.map fun y => (kf y, true)).map Prod.fst = o.map kf := by simp
  rcases MX.look keyX_int umSeen (zBool w) h hm hx with ⟨h1, h2, _⟩ | ⟨v, h1, h2, _⟩
  · rw [hf] at h1
    rw [decide_eq_false h1]; exact h2
  · obtain ⟨y, hy, e⟩ := List.mem_map.1 h1
    injection e with e1 e2
    have : x ∈ o.map kf := by rw [← e1]; exact List.mem_map_of_mem hy
    rw [decide_eq_true this, e2]; exact h2
set_option maxRecDepth 100000 in
theorem SN.put {kf : Nat → Nat} {w : World} {b : Nat} {o : List Nat} (h : SN kf w b o) (hs : ∀ y ∈ o, kf y ≤ 1000000) {x : Nat} (hx : kf x ≤ 1000000) (hn : kf x ∉ o.map kf) :
    ∃ ob, (Instr.mapUpdate 150 (.map (some b)) (.int .i64 (kf x : Int)) (.bool true)).run Tryz.prog w = .ok () (setBlock w b ob) ∧ SN kf (setBlock w b ob) b (o ++ [x]) := by
  have hm : ∀ p ∈ o.map (fun y => (kf y, true)), p.1 ≤ 1000000 := fun p hp => by
    obtain ⟨y, hy, rfl⟩ := List.mem_map.1 hp; exact hs y hy
  have hf : (o.map fun y => (kf y, true)).map Prod.fst = o.map kf := by simp
  obtain ⟨ob, h1, h2⟩ := MX.put keyX_int umSeen h hm hx (by rw [hf]; exact hn) true
  refine ⟨ob, h1, ?_⟩
  unfold SN
  rw [List.map_append]; exact h2
end Go.Proofs.YtfihpofdoffclaaGreatDoor

/- The two functions that canonical hands to the search. -/
namespace Go.Proofs.YtfihpofdoffclaaGreatDoor
open Go.RowKit Go.ChangeMaps Go.MapKept

set_option maxRecDepth 100000 in
set_option maxHeartbeats 400000 in
theorem keyCanon {W : World} {bl : Nat} {v : Value} {L : List Nat} (hb : W.heap[bl]? = some (.cells #[v] 27)) (hL : Ints W v (natI L)) {i : Nat} (hi : i < L.length) :
    Calls Tryz.prog 85 #[.int .i64 (i : Int), .pointer (some ⟨bl, 0, none⟩)] W fun e W' => e = .returned (.int .i64 (L.getD i 0 : Nat)) ∧ W' = W := by
  obtain ⟨aa, ac, ab, off, rfl, ha, hc, hl⟩ := hL
  rw [natI_len] at ha hl hb
  have ha := ha (by omega)
  subst ha
  have hci := hc i (by rw [natI_len]; exact hi)
  rw [natI_getD] at hci
  have hcb := cell_of_one hb
  obtain ⟨q, hq⟩ : ∃ q, L.getD i 0 = q := ⟨_, rfl⟩
  rw [hq] at hci ⊢
  clear hc hq hb
  go_enter Tryz.func85, Tryz.ntmps85
  go_wp2
  go_ret
  exact ⟨rfl, rfl⟩

/-- What canonical asks of the map of numbers: block bM holds the keys that were met, in order. -/
def JC (kf : Nat → Nat) (bM : Nat) (fs : List (Nat × List Int)) (D : Nat → Prop) (W : World) : Prop :=
  (∀ k, D k ↔ k = bM) ∧ IM intV W bM ((0 :: fs.map fun f => mvTo f.2).map kf)
theorem JC.stable (kf : Nat → Nat) (bM : Nat) : Stable (JC kf bM) := by
  intro fs D W W' h hs hk
  exact ⟨h.1, h.2.keep (hk bM ((h.1 bM).2 rfl))⟩

set_option maxRecDepth 100000 in
set_option maxHeartbeats 800000 in
theorem foundCanon {W : World} {bl bn bM : Nat} {v : Value} {L : List Nat} {fs : List (Nat × List Int)} {D : Nat → Prop} (hJ : JC (fun i => L.getD i 0) bM fs D W)
    (hb : W.heap[bl]? = some (.cells #[v] 27)) (hL : Ints W v (natI L)) (hbn : W.heap[bn]? = some (.cells #[.map (some bM)] 127)) (hLb : ∀ x ∈ L, x ≤ 1000000)
    {s : Nat} {y0 y1 y2 y3 y4 y5 y6 : Int} {q : Nat} (hq : q < L.length) (hn : L.getD q 0 ∉ (0 :: fs.map fun f => mvTo f.2).map (fun i => L.getD i 0)) :
    Calls Tryz.prog 86 #[.int .i64 (s : Int), .agg #[.int .i64 y0, .int .i64 y1, .int .i64 y2, .int .i64 y3, .int .i64 y4, .int .i64 y5, .int .i64 y6, .int .i64 (q : Int)], .pointer (some ⟨bn, 0, none⟩), .pointer (some ⟨bl, 0, none⟩)] W fun e W' =>
      e = .returned (.tuple #[]) ∧ ∃ D', Only D W W' ∧ Gr D W D' ∧ Bd D' W' ∧ JC (fun i => L.getD i 0) bM (fs ++ [(s, [y0, y1, y2, y3, y4, y5, y6, (q : Int)])]) D' W' := by
  obtain ⟨hD, hIM⟩ := hJ
  have hmq : mvTo [y0, y1, y2, y3, y4, y5, y6, (q : Int)] = q := by show ((q : Int)).toNat = q; omega
  have hgb : ∀ j, L.getD j 0 ≤ 1000000 := fun j => by
    by_cases h : j < L.length
    · rw [getD_eq h]; exact hLb _ (List.getElem_mem h)
    · simp [List.getD_eq_getElem?_getD, List.getElem?_eq_none (by omega : L.length ≤ j)]
  have hks : ∀ y ∈ (0 :: fs.map fun f => mvTo f.2).map (fun i => L.getD i 0), y ≤ 1000000 := fun y hy => by
    obtain ⟨j, _, rfl⟩ := List.mem_map.1 hy; exact hgb j
  have hsz : bM < W.heap.size := hIM.lt
  obtain ⟨W1, hW1⟩ : ∃ W1, W1 = W.alloc (.cells #[.int .i64 y0, .int .i64 y1, .int .i64 y2, .int .i64 y3, .int .i64 y4, .int .i64 y5, .int .i64 y6, .int .i64 (q : Int)] 84) := ⟨_, rfl⟩
  have hb1 : Below W.heap.size W W1 := by rw [hW1]; exact (Below.refl _ _).alloc (Nat.le_refl _) _
  have m1 : W1.heap[W.heap.size]? = some (.cells #[.int .i64 y0, .int .i64 y1, .int .i64 y2, .int .i64 y3, .int .i64 y4, .int .i64 y5, .int .i64 y6, .int .i64 (q : Int)] 84) := by rw [hW1]; exact heap_alloc_new _ _
  have hIM1 := hIM.keep (hb1.block _ hsz)
  have hL1 := hL.keep hb1
  have hbn1 := cell_of_one ((hb1.block _ (Array.getElem?_eq_some_iff.1 hbn).1).trans hbn)
  have hbl1 := (hb1.block _ (Array.getElem?_eq_some_iff.1 hb).1).trans hb
  obtain ⟨aa, ac, ab, off, rfl, ha, hc, hl⟩ := hL1
  rw [natI_len] at ha hl hbl1
  have ha := ha (by omega)
  subst ha
  have hci := hc q (by rw [natI_len]; exact hq)
  rw [natI_getD] at hci
  have hbl2 := cell_of_one hbl1
  have hqb := hgb q
  have hmx : Tryz.prog.follows .mixedOrders = true := by kernel_rfl
  have hlen : ∀ (ty : TypeId) (k : Nat), (Builtin.len_ #[127] ty #[.map (some bM)]).run Tryz.prog (W1.drewN k) = .ok (.int .i64 ((fs.length + 1 : Nat) : Int)) (W1.drewN k) := fun ty k => by
    have h := IM.len (ty := ty) umInt (hIM1.keep (w' := W1.drewN k) rfl)
    rw [List.length_map, List.length_cons, List.length_map] at h
    exact h
  have hput : ∀ k, Hid (∃ o, (Instr.mapUpdate 127 (.map (some bM)) (.int .i64 (L.getD q 0 : Nat)) (.int .i64 ((fs.length + 1 : Nat) : Int))).run Tryz.prog (W1.drewN k) = .ok () (setBlock (W1.drewN k) bM o) ∧
      IM intV (setBlock (W1.drewN k) bM o) bM ((0 :: (fs ++ [(s, [y0, y1, y2, y3, y4, y5, y6, (q : Int)])]).map fun f => mvTo f.2).map (fun i => L.getD i 0)) ∧ Only D W (setBlock (W1.drewN k) bM o)) := fun k => by
    obtain ⟨o, hput, hIM2⟩ := IM.put keyX_int umInt (hIM1.keep (w' := W1.drewN k) rfl) hks hqb hn
    rw [List.length_map, List.length_cons, List.length_map] at hput
    refine ⟨o, hput, ?_, ((Only.of_below hb1).drewN k).setBlk ((hD bM).2 rfl) o⟩
    rw [List.map_append, ← List.cons_append, List.map_append, List.map_singleton, List.map_singleton, hmq]; exact hIM2
  obtain ⟨x, hx⟩ : ∃ x, L.getD q 0 = x := ⟨_, rfl⟩
  obtain ⟨N, hN⟩ : ∃ N, fs.length + 1 = N := ⟨_, rfl⟩
  rw [hx] at hci
  simp only [hx, hN] at hput hlen
  obtain ⟨p0, p1, p2, p3, p4, p5, p6, p7⟩ := box8 m1
  clear hc hx hIM hIM1 hn hks hLb hgb hL hb hbn hbl1 hb1 m1 hN
  go_enter Tryz.func86, Tryz.ntmps86
  go_wp2_with fail
  rw [← hW1]
  clear hW1
  refine wp_region_qtail 8 hmx (by kernel_rfl) (by kernel_rfl) ?_ ?_
  · rintro ⟨a, wx, h⟩
    first
      | exact h
      | (obtain ⟨h, _⟩ := h; cases h)
      | (obtain ⟨_, h, _⟩ := h; cases h)
      | (obtain ⟨_, _, h, _⟩ := h; cases h)
      | (unfold bodyPost at h; cases h)
  · intro ops'
    simp only [List.take_succ_cons, List.take_zero, List.drop_succ_cons, List.drop_zero]
    repeat (quiet_step (fail))
    refine wpQuiet_nil ?_
    intro k
    obtain ⟨o, hput, hfin, hOf⟩ := hput k
    replace hfin := Lib.hid hfin
    replace hOf := Lib.hid hOf
    obtain ⟨W2, hW2⟩ : ∃ W2, W2 = setBlock (W1.drewN k) bM o := ⟨_, rfl⟩
    rw [← hW2] at hput hfin hOf
    clear hW2
    go_wp2
    go_end0
    exact ⟨rfl, D, hOf.out, Gr.refl _ _, fun k hk => by rw [(hD k).1 hk]; exact hfin.out.lt, hD, hfin.out⟩
end Go.Proofs.YtfihpofdoffclaaGreatDoor

/- slices.Clone at the program's types; rows of structs of ints that a call made. -/
namespace Go.Proofs.YtfihpofdoffclaaGreatDoor
open Go.RowKit

/-- The cells of a struct of ints. -/
def EI (_ : World) (cs : List Value) (x : List Int) : Prop := cs = x.map (Value.int .i64)
theorem EI.stab (E : TypeId) : Stab E EI := fun _ _ _ _ h _ => h
theorem flat_get {k : Nat} : ∀ {xs : List (List Int)}, (∀ x ∈ xs, x.length = k) → ∀ {j : Nat} {x : List Int}, xs[j]? = some x → (xs.flatten.drop (j * k)).take k = x
  | [], _, j, x, h => by simp at h
  | a :: r, hl, 0, x, h => by
    simp only [List.getElem?_cons_zero, Option.some.injEq] at h
    subst h
    rw [Nat.zero_mul, List.drop_zero, List.flatten_cons, ← hl a (by simp), List.take_left]
  | a :: r, hl, j + 1, x, h => by
    rw [List.getElem?_cons_succ] at h
    rw [List.flatten_cons, Nat.succ_mul, Nat.add_comm, ← List.drop_drop]
    have : (a ++ r.flatten).drop k = r.flatten := by rw [← hl a (by simp), List.drop_left]
    rw [this]
    exact flat_get (fun y hy => hl y (by simp [hy])) h
theorem flat_len {k : Nat} : ∀ {xs : List (List Int)}, (∀ x ∈ xs, x.length = k) → xs.flatten.length = xs.length * k
  | [], _ => by simp
  | a :: r, hl => by
    rw [List.flatten_cons, List.length_append, hl a (by simp), flat_len (fun y hy => hl y (by simp [hy])), List.length_cons, Nat.succ_mul, Nat.add_comm]
theorem OwX.ofFlat {E : TypeId} {k : Nat} {w : World} {B n : Nat} {v : Value} {xs : List (List Int)} (h : w.ownsRow B E k v n (xs.flatten.map (Value.int .i64))) (hl : ∀ x ∈ xs, x.length = k) (hn : xs.length = n) : OwX E k EI w B v n xs := by
  refine ⟨_, h, hn, fun u hu => ?_, fun j x hj => ?_⟩
  · obtain ⟨i, _, rfl⟩ := List.mem_map.1 hu; rfl
  · show _ = _
    rw [← List.map_drop, ← List.map_take, flat_get hl hj]
theorem KS.flat {k : Nat} {w : World} {b off : Nat} {xs : List (List Int)} (h : CK k w b off xs) : ∀ j u, (xs.flatten.map (Value.int .i64))[j]? = some u → w.cell? ⟨b, off + j, none⟩ = some u := by
  have hl : ∀ x ∈ xs, x.length = k := fun x hx => by
    obtain ⟨i, hi, rfl⟩ := List.getElem_of_mem hx
    have := (h i hi).1
    rwa [getD_eq hi] at this
  intro j u hj
  obtain ⟨y, hy, rfl⟩ : ∃ y, xs.flatten[j]? = some y ∧ Value.int .i64 y = u := by
    rw [List.getElem?_map] at hj
    cases hx : xs.flatten[j]? with
    | none => rw [hx] at hj; cases hj
    | some y => rw [hx] at hj; simp only [Option.map_some, Option.some.injEq] at hj; exact ⟨y, rfl, hj⟩
  have hjl := (List.getElem?_eq_some_iff.1 hy).1
  rw [flat_len hl] at hjl
  have hk : 0 < k := by
    rcases Nat.eq_zero_or_pos k with rfl | h'
    · simp at hjl
    · exact h'
  have hq : j / k < xs.length := Nat.div_lt_of_lt_mul (by rw [Nat.mul_comm]; exact hjl)
  obtain ⟨x, hx⟩ : ∃ x, xs[j / k]? = some x := ⟨_, List.getElem?_eq_some_iff.2 ⟨hq, rfl⟩⟩
  have h1 := flat_get hl hx
  obtain ⟨h2, h3⟩ := h _ hq
  have hxd : xs.getD (j / k) [] = x := by rw [List.getD_eq_getElem?_getD, hx]; rfl
  rw [hxd] at h2 h3
  have hm : j % k < k := Nat.mod_lt _ hk
  have h4 := h3 (j % k) (by omega)
  have hdm : j / k * k + j % k = j := by rw [Nat.mul_comm]; exact Nat.div_add_mod j k
  have h5 : x.getD (j % k) 0 = y := by
    rw [← h1, List.getD_eq_getElem?_getD, List.getElem?_take, if_pos hm, List.getElem?_drop, hdm, hy]; rfl
  rw [h5, Nat.add_assoc, hdm] at h4
  exact h4
theorem KS.lens {k : Nat} {w : World} {b off : Nat} {xs : List (List Int)} (h : CK k w b off xs) : ∀ x ∈ xs, x.length = k := fun x hx => by
  obtain ⟨i, hi, rfl⟩ := List.getElem_of_mem hx
  have := (h i hi).1
  rwa [getD_eq hi] at this
theorem elemMv : ElemK Tryz.prog 82 84 (.agg #[.int .i64 0, .int .i64 0, .int .i64 0, .int .i64 0, .int .i64 0, .int .i64 0, .int .i64 0, .int .i64 0]) 8 64 := ⟨by kernel_rfl, by kernel_rfl, rfl⟩
theorem elemRd : ElemK Tryz.prog 45 79 (.agg #[.int .i64 0, .int .i64 0, .int .i64 0, .int .i64 0, .int .i64 0, .int .i64 0, .int .i64 0]) 7 56 := ⟨by kernel_rfl, by kernel_rfl, rfl⟩
theorem elemRs : ElemK Tryz.prog 56 45 (.slice none 0 0) 1 24 := ⟨by kernel_rfl, by kernel_rfl, rfl⟩

set_option maxRecDepth 100000 in
set_option maxHeartbeats 1600000 in
theorem cloneMv {w : World} (ad : Addr) (n c : Nat) (news : List Value) (hl : news.length = n * 8) (hn : n ≤ 1000000) (hc : ∀ j u, news[j]? = some u → w.cell? (ad.add j) = some u) (h1 : ∀ u ∈ news, u.oneCell' = true) :
    Calls Tryz.prog 87 #[.slice (some ad) n c] w fun e w' => ∃ v', e = .returned v' ∧ w'.ownsRow w.heap.size 84 8 v' n news ∧ Below w.heap.size w w' := by
  have q22 := fun (w : World) => Lib.run_eql_slice_nil (P := Tryz.prog) w 82 84 (some ad) n c 0 0 elemMv.1
  obtain ⟨i0, hi, hz0, hz1, hz2⟩ := info_parts elemMv.2.1
  have A : Hid (∀ j u, news[j]? = some u → w.cell? (ad.add j) = some u) := hc
  clear hc
  have hn' : n * 64 ≤ 140737488355328 := by omega
  go_enter Tryz.func87, Tryz.ntmps87
  go_wp2_with (at_builtin; refine wpList_append_own _ rfl _ _ 82 rfl w.heap.size 84 i0 _ 8 64 elemMv.1 hi hz0 hz1 hz2 elemMv.2.2 (by decide) _ _ _ rfl (World.ownsRow_made w #[] 0 (Nat.le_refl _) (Nat.zero_le _) (by simp)) ad n c news rfl ?qc1 ?qc2 ?qc3 ?qc4 ?qc5 ?qc6 ?_)
  case qc1 => exact hl
  case qc2 =>
    intro j u hj
    exact Lib.cell?_alloc_some _ (A.out j u hj)
  case qc3 => exact h1
  case qc4 => unfold maxLen; omega
  case qc5 => rw [Nat.zero_add]; exact hn'
  case qc6 => simp
  intro v' w1 hown hgrow hnil
  go_wp2
  go_ret
  refine ⟨v', rfl, by simpa using hown, ?_⟩
  exact ((Below.refl _ w).alloc (Nat.le_refl _) _).grown hgrow (by simp) (by intro k hk; simp [Value.ownBlock] at hk; omega)
set_option maxRecDepth 100000 in
set_option maxHeartbeats 400000 in
theorem cloneMvNil {w : World} (n c : Nat) : Calls Tryz.prog 87 #[.slice none n c] w fun e w' => e = .returned (.slice none 0 0) ∧ w' = w := by
  have q22 := fun (w : World) => Lib.run_eql_slice_nil (P := Tryz.prog) w 82 84 none n c 0 0 elemMv.1
  go_enter Tryz.func87, Tryz.ntmps87
  go_wp2
  go_ret
  exact ⟨rfl, rfl⟩
theorem cloneMvK {w : World} {v : Value} {xs : List (List Int)} (h : KS 8 w v xs) (hn : xs.length ≤ 1000000) :
    Calls Tryz.prog 87 #[v] w fun e w' => ∃ u, e = .returned u ∧ OwX 84 8 EI w' w.heap.size u xs.length xs ∧ Below w.heap.size w w' := by
  obtain ⟨a, c, b, off, rfl, ha, hc, _⟩ := h
  have hlens := KS.lens hc
  cases a with
  | none =>
    have h0 : xs.length = 0 := by
      rcases Nat.eq_zero_or_pos xs.length with h' | h'
      · exact h'
      · cases ha h'
    obtain rfl := List.length_eq_zero_iff.1 h0
    refine (cloneMvNil 0 c).mono ?_
    rintro e w' ⟨rfl, rfl⟩
    exact ⟨_, rfl, OwX.nil _ _, Below.refl _ _⟩
  | some ad =>
    refine (cloneMv ad xs.length c (xs.flatten.map (Value.int .i64)) (by rw [List.length_map, flat_len hlens]) hn ?_ ?_).mono ?_
    · intro j u hj
      have hpos : 0 < xs.length := by
        rcases Nat.eq_zero_or_pos xs.length with h' | h'
        · rw [List.length_eq_zero_iff.1 h'] at hj; simp at hj
        · exact h'
      have := ha hpos
      injection this with this
      subst this
      rw [Addr.add_lit]
      exact KS.flat hc j u hj
    · intro u hu
      obtain ⟨i, _, rfl⟩ := List.mem_map.1 hu; rfl
    · rintro e w' ⟨u, rfl, h1, h2⟩
      exact ⟨u, rfl, OwX.ofFlat h1 hlens rfl, h2⟩

set_option maxRecDepth 100000 in
set_option maxHeartbeats 1600000 in
theorem cloneRd {w : World} (ad : Addr) (n c : Nat) (news : List Value) (hl : news.length = n * 7) (hn : n ≤ 1000000) (hc : ∀ j u, news[j]? = some u → w.cell? (ad.add j) = some u) (h1 : ∀ u ∈ news, u.oneCell' = true) :
    Calls Tryz.prog 62 #[.slice (some ad) n c] w fun e w' => ∃ v', e = .returned v' ∧ w'.ownsRow w.heap.size 79 7 v' n news ∧ Below w.heap.size w w' := by
  have q22 := fun (w : World) => Lib.run_eql_slice_nil (P := Tryz.prog) w 45 79 (some ad) n c 0 0 elemRd.1
  obtain ⟨i0, hi, hz0, hz1, hz2⟩ := info_parts elemRd.2.1
  have A : Hid (∀ j u, news[j]? = some u → w.cell? (ad.add j) = some u) := hc
  clear hc
  have hn' : n * 56 ≤ 140737488355328 := by omega
  go_enter Tryz.func62, Tryz.ntmps62
  go_wp2_with (at_builtin; refine wpList_append_own _ rfl _ _ 45 rfl w.heap.size 79 i0 _ 7 56 elemRd.1 hi hz0 hz1 hz2 elemRd.2.2 (by decide) _ _ _ rfl (World.ownsRow_made w #[] 0 (Nat.le_refl _) (Nat.zero_le _) (by simp)) ad n c news rfl ?qc1 ?qc2 ?qc3 ?qc4 ?qc5 ?qc6 ?_)
  case qc1 => exact hl
  case qc2 =>
    intro j u hj
    exact Lib.cell?_alloc_some _ (A.out j u hj)
  case qc3 => exact h1
  case qc4 => unfold maxLen; omega
  case qc5 => rw [Nat.zero_add]; exact hn'
  case qc6 => simp
  intro v' w1 hown hgrow hnil
  go_wp2
  go_ret
  refine ⟨v', rfl, by simpa using hown, ?_⟩
  exact ((Below.refl _ w).alloc (Nat.le_refl _) _).grown hgrow (by simp) (by intro k hk; simp [Value.ownBlock] at hk; omega)
set_option maxRecDepth 100000 in
set_option maxHeartbeats 400000 in
theorem cloneRdNil {w : World} (n c : Nat) : Calls Tryz.prog 62 #[.slice none n c] w fun e w' => e = .returned (.slice none 0 0) ∧ w' = w := by
  have q22 := fun (w : World) => Lib.run_eql_slice_nil (P := Tryz.prog) w 45 79 none n c 0 0 elemRd.1
  go_enter Tryz.func62, Tryz.ntmps62
  go_wp2
  go_ret
  exact ⟨rfl, rfl⟩
theorem cloneRdK {w : World} {v : Value} {xs : List (List Int)} (h : KS 7 w v xs) (hn : xs.length ≤ 1000000) :
    Calls Tryz.prog 62 #[v] w fun e w' => ∃ u, e = .returned u ∧ OwX 79 7 EI w' w.heap.size u xs.length xs ∧ Below w.heap.size w w' := by
  obtain ⟨a, c, b, off, rfl, ha, hc, _⟩ := h
  have hlens := KS.lens hc
  cases a with
  | none =>
    have h0 : xs.length = 0 := by
      rcases Nat.eq_zero_or_pos xs.length with h' | h'
      · exact h'
      · cases ha h'
    obtain rfl := List.length_eq_zero_iff.1 h0
    refine (cloneRdNil 0 c).mono ?_
    rintro e w' ⟨rfl, rfl⟩
    exact ⟨_, rfl, OwX.nil _ _, Below.refl _ _⟩
  | some ad =>
    refine (cloneRd ad xs.length c (xs.flatten.map (Value.int .i64)) (by rw [List.length_map, flat_len hlens]) hn ?_ ?_).mono ?_
    · intro j u hj
      have hpos : 0 < xs.length := by
        rcases Nat.eq_zero_or_pos xs.length with h' | h'
        · rw [List.length_eq_zero_iff.1 h'] at hj; simp at hj
        · exact h'
      have := ha hpos
      injection this with this
      subst this
      rw [Addr.add_lit]
      exact KS.flat hc j u hj
    · intro u hu
      obtain ⟨i, _, rfl⟩ := List.mem_map.1 hu; rfl
    · rintro e w' ⟨u, rfl, h1, h2⟩
      exact ⟨u, rfl, OwX.ofFlat h1 hlens rfl, h2⟩

set_option maxRecDepth 100000 in
set_option maxHeartbeats 1600000 in
theorem cloneRs {w : World} (ad : Addr) (n c : Nat) (news : List Value) (hl : news.length = n * 1) (hn : n ≤ 1000000) (hc : ∀ j u, news[j]? = some u → w.cell? (ad.add j) = some u) (h1 : ∀ u ∈ news, u.oneCell' = true) :
    Calls Tryz.prog 30 #[.slice (some ad) n c] w fun e w' => ∃ v', e = .returned v' ∧ w'.ownsRow w.heap.size 45 1 v' n news ∧ Below w.heap.size w w' := by
  have q22 := fun (w : World) => Lib.run_eql_slice_nil (P := Tryz.prog) w 56 45 (some ad) n c 0 0 elemRs.1
  obtain ⟨i0, hi, hz0, hz1, hz2⟩ := info_parts elemRs.2.1
  have A : Hid (∀ j u, news[j]? = some u → w.cell? (ad.add j) = some u) := hc
  clear hc
  have hn' : n * 24 ≤ 140737488355328 := by omega
  go_enter Tryz.func30, Tryz.ntmps30
  go_wp2_with (at_builtin; refine wpList_append_own _ rfl _ _ 56 rfl w.heap.size 45 i0 _ 1 24 elemRs.1 hi hz0 hz1 hz2 elemRs.2.2 (by decide) _ _ _ rfl (World.ownsRow_made w #[] 0 (Nat.le_refl _) (Nat.zero_le _) (by simp)) ad n c news rfl ?qc1 ?qc2 ?qc3 ?qc4 ?qc5 ?qc6 ?_)
  case qc1 => exact hl
  case qc2 =>
    intro j u hj
    exact Lib.cell?_alloc_some _ (A.out j u hj)
  case qc3 => exact h1
  case qc4 => unfold maxLen; omega
  case qc5 => rw [Nat.zero_add]; exact hn'
  case qc6 => simp
  intro v' w1 hown hgrow hnil
  go_wp2
  go_ret
  refine ⟨v', rfl, by simpa using hown, ?_⟩
  exact ((Below.refl _ w).alloc (Nat.le_refl _) _).grown hgrow (by simp) (by intro k hk; simp [Value.ownBlock] at hk; omega)
set_option maxRecDepth 100000 in
set_option maxHeartbeats 400000 in
theorem cloneRsNil {w : World} (n c : Nat) : Calls Tryz.prog 30 #[.slice none n c] w fun e w' => e = .returned (.slice none 0 0) ∧ w' = w := by
  have q22 := fun (w : World) => Lib.run_eql_slice_nil (P := Tryz.prog) w 56 45 none n c 0 0 elemRs.1
  go_enter Tryz.func30, Tryz.ntmps30
  go_wp2
  go_ret
  exact ⟨rfl, rfl⟩
end Go.Proofs.YtfihpofdoffclaaGreatDoor

/- The canonical form: plain lists, and the rows that hold it. -/
namespace Go.Proofs.YtfihpofdoffclaaGreatDoor
open Go.RowKit Go.ChangeMaps Go.MapKept

/-- A store into an element. -/
theorem OwX.storeI {E : TypeId} {k : Nat} {w : World} {B g n cap : Nat} {xs : List (List Int)} (h : OwX E k EI w B (.slice (some ⟨g, 0, none⟩) n cap) n xs) {j i : Nat} (hj : j < n) (hi : i < k) (y : Int) :
    OwX E k EI (w.setCell ⟨g, j * k + i, none⟩ (.int .i64 y)) B (.slice (some ⟨g, 0, none⟩) n cap) n (xs.set j ((xs.getD j []).set i y)) ∧ w.grownBy (w.setCell ⟨g, j * k + i, none⟩ (.int .i64 y)) (some g) := by
  obtain ⟨vs, h1, h2, h3, h4⟩ := h
  obtain ⟨s1, s2⟩ := World.ownsRow.stored h1 (j * k + i) (.int .i64 y)
  refine ⟨⟨_, s1, by simp [h2], fun u hu => ?_, fun j' x hj' => ?_⟩, s2⟩
  · rcases List.mem_or_eq_of_mem_set hu with hu | rfl
    · exact h3 u hu
    · rfl
  · show _ = _
    have hjx : xs[j]? = some (xs.getD j []) := by rw [getD_eq (by omega)]; exact List.getElem?_eq_some_iff.2 ⟨by omega, rfl⟩
    have hjl : j' < xs.length := by have := (List.getElem?_eq_some_iff.1 hj').1; simpa using this
    rw [List.drop_set]
    by_cases hjj : j' = j
    · subst hjj
      rw [List.getElem?_set_self (by omega)] at hj'
      simp only [Option.some.injEq] at hj'
      rw [if_neg (by omega), show j' * k + i - j' * k = i by omega, List.take_set, h4 j' _ hjx, ← hj', List.map_set]
    · rw [List.getElem?_set_ne (by omega)] at hj'
      rw [← h4 j' x hj']
      by_cases hlt : j * k + i < j' * k
      · rw [if_pos hlt]
      · rw [if_neg hlt, List.take_set, List.set_eq_of_length_le]
        rw [List.length_take]
        have : k ≤ j * k + i - j' * k := by
          have hle : j' < j := by
            rcases Nat.lt_or_ge j' j with h | h
            · exact h
            · have h5 : j < j' := by omega
              have h6 : (j + 1) * k ≤ j' * k := Nat.mul_le_mul_right _ h5
              rw [Nat.succ_mul] at h6
              omega
          have h6 : (j' + 1) * k ≤ j * k := Nat.mul_le_mul_right _ hle
          rw [Nat.succ_mul] at h6
          omega
        omega
/-- The cells of an element of ints. -/
theorem OwX.intCells {E : TypeId} {k : Nat} {w : World} {B g n cap : Nat} {xs : List (List Int)} (h : OwX E k EI w B (.slice (some ⟨g, 0, none⟩) n cap) n xs) {j : Nat} (hj : j < n) : (xs.getD j []).length = k ∧ CI w g (j * k) (xs.getD j []) := by
  have hl := h.length
  obtain ⟨cs, h1, h2, h3⟩ := h.cells (x := xs.getD j []) (j := j) (by rw [getD_eq (by omega)]; exact List.getElem?_eq_some_iff.2 ⟨by omega, rfl⟩)
  have h2 : cs = (xs.getD j []).map (Value.int .i64) := h2
  have h1' := h1
  rw [h2, List.length_map] at h1'
  refine ⟨h1', fun i hi => h3 i _ ?_⟩
  rw [h2, List.getElem?_map, List.getElem?_eq_some_iff.2 ⟨hi, rfl⟩, getD_eq hi]; rfl
theorem OwX.frozen {α : Type} {E : TypeId} {k : Nat} {El : World → List Value → α → Prop} {w : World} {B g n cap : Nat} {xs : List α} (h : OwX E k El w B (.slice (some ⟨g, 0, none⟩) n cap) n xs) (j : Nat) : w.frozen? ⟨g, j, none⟩ = false := by
  obtain ⟨vs, h1, _⟩ := h
  exact World.ownsRow.frozenAt h1 j
theorem OwX.ks {E : TypeId} {k : Nat} {w : World} {B n : Nat} {v : Value} {xs : List (List Int)} (h : OwX E k EI w B v n xs) (hn : n ≤ 2199023255552) : KS k w v xs := by
  obtain rfl := h.length
  rcases Nat.eq_zero_or_pos xs.length with h0 | h0
  · obtain ⟨a, c, rfl⟩ := h.shape
    obtain rfl := List.length_eq_zero_iff.1 h0
    exact KS.nil k w a c
  · obtain ⟨g, cap, rfl, _⟩ := h.form h0
    refine ⟨_, cap, g, 0, rfl, fun _ => rfl, fun j hj => ?_, hn⟩
    rw [Nat.zero_add]
    exact h.intCells hj

/-- A state: a row of moves that a call made. -/
def ESt (w : World) (cs : List Value) (x : List (List Int)) : Prop := ∃ u, cs = [u] ∧ OwX 84 8 EI w 0 u x.length x
theorem ESt.stab {E : TypeId} (h : 84 ≠ E) : Stab E ESt := fun _ _ _ _ ⟨u, h1, h2⟩ hx => ⟨u, h1, h2.other (EI.stab _) h hx⟩
theorem elemSt : ElemK Tryz.prog 22 82 (.slice none 0 0) 1 24 := ⟨by kernel_rfl, by kernel_rfl, rfl⟩
theorem OwX.kss {E : TypeId} {w : World} {B n : Nat} {v : Value} {xs : List (List (List Int))} (h : OwX E 1 ESt w B v n xs) (hn : n ≤ 5864062014805) (hl : ∀ x ∈ xs, x.length ≤ 2199023255552) : KSS 8 w v xs := by
  obtain rfl := h.length
  rcases Nat.eq_zero_or_pos xs.length with h0 | h0
  · obtain ⟨a, c, rfl⟩ := h.shape
    obtain rfl := List.length_eq_zero_iff.1 h0
    exact ⟨a, c, 0, 0, rfl, by simp, by intro j hj; simp at hj, by simp⟩
  · obtain ⟨g, cap, rfl, _⟩ := h.form h0
    refine ⟨_, cap, g, 0, rfl, fun _ => rfl, fun j hj => ?_, hn⟩
    have hx : xs[j]? = some (xs.getD j []) := by rw [getD_eq hj]; exact List.getElem?_eq_some_iff.2 ⟨hj, rfl⟩
    obtain ⟨cs, h1, ⟨u, h2, h3⟩, h4⟩ := h.cells hx
    refine ⟨u, ?_, h3.ks (hl _ (List.mem_of_getElem? hx))⟩
    have := h4 0 u (by rw [h2]; rfl)
    rw [Nat.mul_one, Nat.add_zero] at this
    rw [Nat.zero_add]; exact this
/-- An adversary that a call made. -/
def OwAdv (w : World) (v : Value) (n : Int) (ss : List (List (List Int))) : Prop :=
  ∃ sv, v = .agg #[.int .i64 n, sv] ∧ OwX 82 1 ESt w 0 sv ss.length ss ∧ ss.length ≤ 5864062014805 ∧ ∀ x ∈ ss, x.length ≤ 2199023255552
theorem OwAdv.adv {w : World} {v : Value} {n : Int} {ss : List (List (List Int))} (h : OwAdv w v n ss) : AdvV w v n ss := by
  obtain ⟨sv, h1, h2, h3, h4⟩ := h; exact ⟨sv, h1, h2.kss h3 h4⟩
theorem OwAdv.keep {w w' : World} {v : Value} {n : Int} {ss : List (List (List Int))} (h : OwAdv w v n ss) (hb : Below w.heap.size w w') : OwAdv w' v n ss := by
  obtain ⟨sv, h1, h2, h3⟩ := h; exact ⟨sv, h1, h2.keep (ESt.stab (by decide)) hb, h3⟩
theorem OwAdv.other {w w' : World} {v : Value} {n : Int} {ss : List (List (List Int))} (h : OwAdv w v n ss) (hx : KeepX 24 w w') : OwAdv w' v n ss := by
  obtain ⟨sv, h1, h2, h3⟩ := h; exact ⟨sv, h1, h2.other (ESt.stab (by decide)) (by decide) hx, h3⟩
theorem KeepX.setCell {E : TypeId} {w : World} {p : Addr} {cs : Array Value} (h : w.heap[p.block]? = some (.cells cs E)) (v : Value) : KeepX E w (w.setCell p v) := fun k cs' t hk ht => by
  refine Below.heap_setCell _ _ _ _ fun e => ?_
  subst e
  rw [h] at hk
  injection hk with hk
  injection hk with _ hk
  exact ht hk.symm

/-- The number of a key among those that were met; 0 where it was not. -/
def numK (K : List Nat) (x : Nat) : Nat := if x ∈ K then ixOf K x else 0
def formMv (L K : List Nat) (m : List Int) : List Int := m.set 7 ((numK K (L.getD (mvTo m) 0) : Nat) : Int)
def formSt (ss : List (List (List Int))) (L K : List Nat) (i : Nat) : List (List Int) := (ss.getD i []).map (formMv L K)
def keyL (L : List Nat) (i : Nat) : Nat := L.getD i 0
/-- The states of the canonical form, for labels L and the order o in which states are met. -/
def formC (ss : List (List (List Int))) (L o : List Nat) : List (List (List Int)) := o.map (formSt ss L (o.map (keyL L)))
/-- The first moves renamed. -/
def mvPart (L K : List Nat) (ms : List (List Int)) (k : Nat) : List (List Int) := (ms.take k).map (formMv L K) ++ ms.drop k
theorem mvPart_zero (L K : List Nat) (ms : List (List Int)) : mvPart L K ms 0 = ms := by simp [mvPart]
theorem mvPart_all (L K : List Nat) (ms : List (List Int)) : mvPart L K ms ms.length = ms.map (formMv L K) := by simp [mvPart]
theorem mvPart_len (L K : List Nat) (ms : List (List Int)) (k : Nat) : (mvPart L K ms k).length = ms.length := by simp [mvPart]; omega
theorem mvPart_at {L K : List Nat} {ms : List (List Int)} {k : Nat} (h : k < ms.length) : (mvPart L K ms k).getD k [] = ms.getD k [] := by
  have h1 : ((ms.take k).map (formMv L K)).length = k := by simp; omega
  rw [mvPart, List.getD_eq_getElem?_getD, List.getElem?_append_right (by omega), h1, Nat.sub_self, List.getElem?_drop, Nat.add_zero, List.getD_eq_getElem?_getD]
theorem mvPart_step {L K : List Nat} {ms : List (List Int)} {k : Nat} (h : k < ms.length) {x : List Int} (hx : ms.getD k [] = x) : (mvPart L K ms k).set k (formMv L K x) = mvPart L K ms (k + 1) := by
  have h1 : ((ms.take k).map (formMv L K)).length = k := by simp; omega
  rw [mvPart, mvPart, List.set_append_right _ _ (by omega), h1, Nat.sub_self, drop_cons h ([] : List Int), hx, List.set_cons_zero, take_snoc h ([] : List Int), hx, List.map_append, List.append_assoc]; rfl
theorem srch_ord {kf : Nat → Nat} {ss : List (List (List Int))} : ∀ {f i : Nat} {st R : List Nat × List (Nat × List Int)}, srch kf ss f i st = some R → (st.1 = 0 :: st.2.map fun f => mvTo f.2) → R.1 = 0 :: R.2.map fun f => mvTo f.2
  | 0, _, _, _, h, _ => by cases h
  | f + 1, i, st, R, h, hs => by
    rw [srch] at h
    split at h
    · refine srch_ord h ?_
      have : ∀ (s : Nat) (ms : List (List Int)) (st : List Nat × List (Nat × List Int)), (st.1 = 0 :: st.2.map fun f => mvTo f.2) → (exts kf s ms st).1 = 0 :: (exts kf s ms st).2.map fun f => mvTo f.2 := by
        intro s ms
        induction ms with
        | nil => intro st h; exact h
        | cons m r ih =>
          intro st h
          rw [exts]
          refine ih _ ?_
          split
          · exact h
          · show st.1 ++ [mvTo m] = 0 :: (st.2 ++ [(s, m)]).map _
            rw [h]; simp
      exact this _ _ _ hs
    · injection h with h; subst h; exact hs
theorem exts_nodup {kf : Nat → Nat} {s : Nat} : ∀ {ms : List (List Int)} {st : List Nat × List (Nat × List Int)}, (st.1.map kf).Nodup → ((exts kf s ms st).1.map kf).Nodup
  | [], _, h => h
  | m :: r, st, h => by
    rw [exts]
    refine exts_nodup ?_
    split
    · exact h
    · rename_i hn
      show ((st.1 ++ [mvTo m]).map kf).Nodup
      rw [List.map_append, List.nodup_append]
      refine ⟨h, by simp, fun a ha b hb e => ?_⟩
      simp only [List.map_cons, List.map_nil, List.mem_singleton] at hb
      exact hn (by rw [← hb, ← e]; exact ha)
theorem srch_nodup {kf : Nat → Nat} {ss : List (List (List Int))} : ∀ {f i : Nat} {st R : List Nat × List (Nat × List Int)}, srch kf ss f i st = some R → (st.1.map kf).Nodup → (R.1.map kf).Nodup
  | 0, _, _, _, h, _ => by cases h
  | f + 1, i, st, R, h, hs => by
    rw [srch] at h
    split at h
    · exact srch_nodup h (exts_nodup hs)
    · injection h with h; subst h; exact hs
theorem mem_movesN {ss : List (List (List Int))} {ms : List (List Int)} (h : ms ∈ ss) : ms.length ≤ movesN ss := by
  obtain ⟨a, b, rfl⟩ := List.append_of_mem h
  rw [movesN_app, show ms :: b = [ms] ++ b from rfl, movesN_app]
  have : movesN [ms] = ms.length := by simp [movesN]
  omega
end Go.Proofs.YtfihpofdoffclaaGreatDoor

/- Appends that tell where the new row lies. -/
namespace Go.Proofs.YtfihpofdoffclaaGreatDoor
open Go.RowKit

theorem run_app1G {P : Program} {T E : TypeId} {z : Value} {bytes : Nat} (hE : ElemOK P T E z bytes) (hby : bytes ≤ 64) (w : World) (ty : TypeId) (v : Value) (n : Nat) (xs : List Value) (hown : w.ownsRow 0 E 1 v n xs) (ad : Addr) (c : Nat) (y : Value) (hy : w.cell? ad = some y) (hy1 : y.oneCell' = true) (hb : n + 1 ≤ 1000000000) :
    ∃ v' w', (Builtin.append_ #[T, T] ty #[v, .slice (some ad) 1 c]).run P w = .ok v' w' ∧ w'.ownsRow 0 E 1 v' (n + 1) (xs ++ [y]) ∧ w.grownBy w' v.ownBlock ∧ NewBlk w v v' := by
  obtain ⟨i0, hi, hz0, hz1, hz2⟩ := info_parts hE.2.1
  have hzs : z.cells.size = 1 := by rw [hE.2.2]; rfl
  have hmul : (n + 1) * bytes ≤ 1000000000 * 64 := Nat.mul_le_mul hb hby
  have hnews : ∀ j u, [y][j]? = some u → w.cell? (ad.add j) = some u := by
    intro j u hj
    match j, hj with
    | 0, hj => simp at hj; subst hj; simpa [Addr.add] using hy
  have h1c : ∀ u ∈ [y], u.oneCell' = true := fun u hu => by rw [List.mem_singleton.1 hu]; exact hy1
  obtain ⟨v', w', hr, h1, h2, _⟩ := run_append_own (P := P) w 0 T ty E i0 z 1 bytes hE.1 hi hz0 hz1 hz2 hzs (by decide) v n xs hown ad 1 c [y] rfl hnews h1c (by unfold maxLen; omega) (by omega) (Nat.zero_le _)
  refine ⟨v', w', hr, h1, h2, ?_⟩
  rcases hown.2 with ⟨rfl, rfl⟩ | ⟨g, cap, cur, rfl, hbg, hg, hnc, hcm, hcs, htake⟩
  · have hx : xs = [] := List.length_eq_zero_iff.1 (by simpa using hown.1)
    subst hx
    obtain ⟨v2, w2, hr2, h3, _, _⟩ := run_append_own (P := P) w w.heap.size T ty E i0 z 1 bytes hE.1 hi hz0 hz1 hz2 hzs (by decide) (.slice none 0 0) 0 [] (World.ownsRow_nil _ _ _ _) ad 1 c [y] rfl hnews h1c (by unfold maxLen; omega) (by omega) (Nat.le_refl _)
    rw [hr] at hr2
    injection hr2 with e1 e2
    subst e1
    exact .inr (ownBlock_ge h3)
  · by_cases hroom : n + 1 ≤ cap
    · obtain ⟨w2, hr2, _, _⟩ := run_append_fits (P := P) w 0 T ty E i0 1 hE.1 hi hz1 g n cap xs hown ad 1 c [y] rfl hnews h1c hroom
      rw [hr] at hr2
      injection hr2 with e1 e2
      subst e1
      exact .inl rfl
    · have holds : ∀ j u, xs[j]? = some u → w.cell? ((⟨g, 0, none⟩ : Addr).add j) = some u := hown.cells (g := g) rfl
      have hr2 := run_append_grow (P := P) w T ty E i0 z hE.1 hi hz0 ⟨g, 0, none⟩ n cap xs (by rw [hz1]; simpa using hown.1) holds ad 1 c [y] (by rw [hz1]; rfl) hnews (by omega) (by omega) (growslice_fits (by omega) (by rw [hz2]; omega))
      rw [hr] at hr2
      injection hr2 with e1 e2
      subst e1
      right
      intro k hk
      simp only [Value.ownBlock, Option.some.injEq] at hk
      omega
theorem wpListIn_app1 {F : Fence} {d : Nat} {P : Program} {T E : TypeId} {z : Value} {bytes : Nat} (hE : ElemOK P T E z bytes) (hby : bytes ≤ 64) (w : World) {ops : Array Oper} {rest : List Oper} {o : Oper} {a : Act} {Q : Exit → Act → World → Prop}
    (hg : o.guard = none) (s x : Operand) (hop : o.op = Op.call { callee := Callee.builtin Builtin.append, args := #[s, x], argTypes := #[T, T] })
    (v : Value) (n : Nat) (xs : List Value) (hs : a.eval s = v) (hown : w.ownsRow 0 E 1 v n xs) (ad : Addr) (c : Nat) (y : Value) (hx : a.eval x = .slice (some ad) 1 c) (hy : w.cell? ad = some y) (hy1 : y.oneCell' = true) (hb : n + 1 ≤ 1000000000)
    (hK : ∀ v' w', w'.ownsRow 0 E 1 v' (n + 1) (xs ++ [y]) → w.grownBy w' v.ownBlock → NewBlk w v v' → wpListIn F d P ops Q rest (a.put o.dst v') w') :
    wpListIn F d P ops Q (o :: rest) a w := by
  refine wpListIn_plain hg fun K hK' => ?_
  obtain ⟨v', w', hrun, r1, r2, r3⟩ := run_app1G hE hby w o.type v n xs hown ad c y hy hy1 hb
  unfold Oper.wpIn
  refine ⟨?_, ?_⟩
  · simp [Oper.about, hop, resolve, Target.leads, Sem.run_pure]
  · rw [Oper.semAt_plain F _ _ (by rw [hop]; intro c hc'; cases hc')]
    simp [execOp, hop, resolve, invoke, builtin, hs, hx, hrun, Result.andThen]
    exact hK' _ _ (hK v' w' r1 r2 r3)
theorem wpList_app1 {P : Program} {T E : TypeId} {z : Value} {bytes : Nat} (hE : ElemOK P T E z bytes) (hby : bytes ≤ 64) (w : World) {ops : Array Oper} {rest : List Oper} {o : Oper} {a : Act} {Q : Exit → Act → World → Prop}
    (hg : o.guard = none) (s x : Operand) (hop : o.op = Op.call { callee := Callee.builtin Builtin.append, args := #[s, x], argTypes := #[T, T] })
    (v : Value) (n : Nat) (xs : List Value) (hs : a.eval s = v) (hown : w.ownsRow 0 E 1 v n xs) (ad : Addr) (c : Nat) (y : Value) (hx : a.eval x = .slice (some ad) 1 c) (hy : w.cell? ad = some y) (hy1 : y.oneCell' = true) (hb : n + 1 ≤ 1000000000)
    (hK : ∀ v' w', w'.ownsRow 0 E 1 v' (n + 1) (xs ++ [y]) → w.grownBy w' v.ownBlock → NewBlk w v v' → wpList P ops Q rest (a.put o.dst v') w') :
    wpList P ops Q (o :: rest) a w := by
  refine wpList_plain hg fun K hK' => ?_
  obtain ⟨v', w', hrun, r1, r2, r3⟩ := run_app1G hE hby w o.type v n xs hown ad c y hy hy1 hb
  unfold Oper.wp
  simp [execOp, hop, resolve, invoke, builtin, hs, hx, hrun, Result.andThen]
  exact hK' _ _ (hK v' w' r1 r2 r3)
/-- append(s, y) of ints; where the new row lies is told. -/
theorem wpApp1I {w0 : World} {y : Int} {t : TypeId} {ops : Array Oper} {rest : List Oper} {o : Oper} {a : Act} {Q : Exit → Act → World → Prop} (hgd : o.guard = none) (s x : Operand)
    (ho : o.op = .call { callee := .builtin .append, args := #[s, x], argTypes := #[27, 27] })
    {B : Nat} {v : Value} {n : Nat} {xs : List Int} (hs : a.eval s = v) (hown : OI w0 B v n xs) (hx : a.eval x = .slice (some ⟨w0.heap.size, 0, none⟩) 1 1)
    (hn : n ≤ 1000000) (hB : B ≤ w0.heap.size)
    (h : ∀ v' w', OI w' B v' (n + 1) (xs ++ [y]) → w0.grownBy w' v.ownBlock → (v'.ownBlock = v.ownBlock ∨ ∀ k, v'.ownBlock = some k → w0.heap.size ≤ k) → Below B w0 w' → wpList Tryz.prog ops Q rest (a.put o.dst v') w') :
    wpList Tryz.prog ops Q (o :: rest) a (w0.alloc (.cells #[.int .i64 y] t)) := by
  refine wpList_app1 elemInt (by decide) _ hgd s x ho v n (xs.map (Value.int .i64)) hs ((hown.base (Nat.zero_le _)).alloc _) ⟨w0.heap.size, 0, none⟩ 1 (.int .i64 y) hx (cell_of_one (heap_alloc_new _ _)) rfl (by omega) fun v' w' h1 h2 h3 => ?_
  have h2' : w0.grownBy w' v.ownBlock := grownBy_alloc_trans h2
  have hnb : v'.ownBlock = v.ownBlock ∨ ∀ k, v'.ownBlock = some k → w0.heap.size ≤ k := by
    rcases h3 with e | e
    · exact .inl e
    · exact .inr fun k hk => by have := e k hk; simp at this; omega
  have hge : ∀ k, v.ownBlock = some k → B ≤ k := fun k hk => (hown.lt k hk).1
  refine h v' w' ⟨by rw [List.map_append]; exact h1.1, ?_⟩ h2' hnb ((Below.refl B w0).grown h2' hB (fun k hk => hge k hk))
  rcases h1.2 with h' | ⟨g, cap, cur, k1, k2, k3⟩
  · exact .inl h'
  · refine .inr ⟨g, cap, cur, k1, ?_, by rw [List.map_append]; exact k3⟩
    have hg : v'.ownBlock = some g := by rw [k1]; rfl
    rcases hnb with e | e
    · rw [e] at hg; exact hge g hg
    · exact Nat.le_trans hB (e g hg)
end Go.Proofs.YtfihpofdoffclaaGreatDoor

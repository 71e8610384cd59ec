/- Texts of this claim, put together: CL CM CN. -/
import Derived.Test.YtiiiegflobihjaaGreatKChainsk
import Derived.Test.YtiiiegflobihjaaGreatKChainsh
import Derived.Laws.AppendOwnNone
import Derived.Test.YtiiiegflobihjaaGreatKChainsl

/- append of a whole slice of structs of ints onto a row that a call made. -/
namespace Go.Proofs.YtiiiegflobihjaaGreat
open Go.RowKit

theorem chunks_eq {α : Type} {k : Nat} : ∀ (n : Nat) (a b : List α), a.length = n * k → b.length = n * k → (∀ j, j < n → (a.drop (j * k)).take k = (b.drop (j * k)).take k) → a = b
  | 0, a, b, ha, hb, _ => by
    rw [Nat.zero_mul] at ha hb
    rw [List.length_eq_zero_iff.1 ha, List.length_eq_zero_iff.1 hb]
  | n + 1, a, b, ha, hb, h => by
    rw [Nat.succ_mul] at ha hb
    rw [← List.take_append_drop k a, ← List.take_append_drop k b]
    have h0 := h 0 (by omega)
    rw [Nat.zero_mul, List.drop_zero, List.drop_zero] at h0
    rw [h0, chunks_eq (k := k) n (a.drop k) (b.drop k) (by rw [List.length_drop]; omega) (by rw [List.length_drop]; omega) fun j hj => ?_]
    have := h (j + 1) (by omega)
    rw [Nat.succ_mul, Nat.add_comm (j * k) k] at this
    rwa [List.drop_drop, List.drop_drop]
theorem OwX.lens {E : TypeId} {k : Nat} {w : World} {B n : Nat} {v : Value} {xs : List (List Int)} (h : OwX E k EI w B v n xs) : ∀ x ∈ xs, x.length = k := fun x hx => by
  obtain ⟨vs, h1, h2, h3, h4⟩ := h
  obtain ⟨j, hj, rfl⟩ := List.getElem_of_mem hx
  have he : (vs.drop (j * k)).take k = xs[j].map (Value.int .i64) := h4 j _ (List.getElem?_eq_getElem hj)
  have hvl : vs.length = n * k := h1.1
  have hle : j * k + k ≤ n * k := by rw [← Nat.succ_mul]; exact Nat.mul_le_mul_right _ (by omega)
  have := congrArg List.length he
  rw [List.length_take, List.length_drop, List.length_map] at this
  omega
theorem OwX.flatV {E : TypeId} {k : Nat} {w : World} {B n : Nat} {v : Value} {xs : List (List Int)} (h : OwX E k EI w B v n xs) : w.ownsRow B E k v n (xs.flatten.map (Value.int .i64)) := by
  have hl := h.lens
  obtain ⟨vs, h1, h2, h3, h4⟩ := h
  have hvl : vs.length = n * k := h1.1
  have : vs = xs.flatten.map (Value.int .i64) := by
    refine chunks_eq n _ _ hvl (by rw [List.length_map, flat_len hl, h2]) fun j hj => ?_
    have hx : xs[j]? = some xs[j] := List.getElem?_eq_getElem (by omega)
    have he : (vs.drop (j * k)).take k = xs[j].map (Value.int .i64) := h4 j _ hx
    rw [he, ← List.map_drop, ← List.map_take, flat_get hl hx]
  rw [← this]; exact h1
theorem run_appXs {P : Program} {T E ty : TypeId} {z : Value} {k bytes : Nat} (hE : ElemK P T E z k bytes) (hby : bytes ≤ 128) (hk : 0 < k) {w : World} {B n : Nat} {v : Value} {xs ys : List (List Int)}
    (hown : OwX E k EI w B v n xs) {ya : Option Addr} {yc : Nat} (hy : KS k w (.slice ya ys.length yc) ys) (hz : ya = none → yc = 0) (hn : n + ys.length ≤ 1000000) (hB : B ≤ w.heap.size) :
    ∃ v' w', (Builtin.append_ #[T, T] ty #[v, .slice ya ys.length yc]).run P w = .ok v' w' ∧ OwX E k EI w' B v' (n + ys.length) (xs ++ ys) ∧ w.grownBy w' v.ownBlock ∧ Below B w w' ∧ KeepX E w w' := by
  obtain ⟨i0, hi, hz0, hz1, hz2⟩ := info_parts hE.2.1
  have hfl := hown.flatV
  have hlx := hown.lens
  have hxn := hown.length
  obtain ⟨a', c', b, off, he, ha, hc, _⟩ := hy
  injection he with he1 he2 he3
  subst he1 he3
  have hly := KS.lens hc
  have hlens : ∀ x ∈ xs ++ ys, x.length = k := fun x hx => by
    rcases List.mem_append.1 hx with h | h
    · exact hlx x h
    · exact hly x h
  cases ya with
  | none =>
    obtain rfl := hz rfl
    have h0 : ys.length = 0 := by
      rcases Nat.eq_zero_or_pos ys.length with h | h
      · exact h
      · cases ha h
    obtain rfl := List.length_eq_zero_iff.1 h0
    exact ⟨v, w, run_append_owned_none (P := P) (w := w) B T ty E i0 k hE.1 hi v n _ hfl, by rw [List.append_nil]; exact hown, ⟨rfl, rfl, rfl, Nat.le_refl _, fun _ _ _ => rfl⟩, Below.refl _ _, KeepX.below (Below.refl _ _)⟩
  | some ad =>
    have hnews : ∀ j u, (ys.flatten.map (Value.int .i64))[j]? = some u → w.cell? (ad.add j) = some u := fun j u hj => by
      have hpos : 0 < ys.length := by
        rcases Nat.eq_zero_or_pos ys.length with h | h
        · rw [List.length_eq_zero_iff.1 h] at hj; simp at hj
        · exact h
      have := ha hpos
      injection this with this
      subst this
      rw [Addr.add_lit]
      exact KS.flat hc j u hj
    have hone : ∀ u ∈ ys.flatten.map (Value.int .i64), u.oneCell' = true := fun u hu => by
      obtain ⟨i, _, rfl⟩ := List.mem_map.1 hu; rfl
    have hbd : (n + ys.length) * bytes ≤ 140737488355328 := by
      have : (n + ys.length) * bytes ≤ 1000000 * 128 := Nat.mul_le_mul hn hby
      omega
    obtain ⟨v', w', hr, h1, hg, _, _⟩ := run_append_own_at (P := P) w B T ty E i0 z k bytes hE.1 hi hz0 hz1 hz2 hE.2.2 hk v n _ hfl ad ys.length yc (ys.flatten.map (Value.int .i64)) (by rw [List.length_map, flat_len hly]) hnews hone (by unfold maxLen; omega) hbd hB
    refine ⟨v', w', hr, OwX.ofFlat (by rw [List.flatten_append, List.map_append]; exact h1) hlens (by rw [List.length_append, hxn]), hg, (Below.refl B w).grown hg hB (fun k hk => (hfl.lt k hk).1), KeepX.own hfl hg⟩
/-- At the list of a plain region's operations. -/
theorem wpList_appXs {P : Program} {T E : TypeId} {z : Value} {k bytes : Nat} (hE : ElemK P T E z k bytes) (hby : bytes ≤ 128) (hk : 0 < k) {w : World} {ops : Array Oper} {rest : List Oper} {o : Oper} {a : Act} {Q : Exit → Act → World → Prop} (hgd : o.guard = none) (s y : Operand)
    (ho : o.op = .call { callee := .builtin .append, args := #[s, y], argTypes := #[T, T] }) {B n : Nat} {v : Value} {xs ys : List (List Int)} (hs : a.eval s = v)
    (hown : OwX E k EI w B v n xs) {ya : Option Addr} {yc m : Nat} (hx : a.eval y = .slice ya m yc) (hm : m = ys.length) (hy : KS k w (.slice ya ys.length yc) ys) (hz : ya = none → yc = 0) (hn : n + ys.length ≤ 1000000) (hB : B ≤ w.heap.size)
    (h : ∀ v' w', OwX E k EI w' B v' (n + ys.length) (xs ++ ys) → w.grownBy w' v.ownBlock → Below B w w' → KeepX E w w' → wpList P ops Q rest (a.put o.dst v') w') : wpList P ops Q (o :: rest) a w := by
  subst hm
  refine wpList_plain hgd fun K hK => ?_
  obtain ⟨v', w', hr, h2, h3, h4, h5⟩ := run_appXs (P := P) (ty := o.type) hE hby hk hown hy hz hn hB
  unfold Oper.wp execOp
  simp only [ho, resolve, invoke, builtin, Sem.run_bind, Sem.run_pure, Result.andThen_ok, List.map_toArray, List.map_cons, List.map_nil, hs, hx, hr]
  exact hK _ _ (h v' w' h2 h3 h4 h5)
theorem OwX.cap {α : Type} {E : TypeId} {k : Nat} {El : World → List Value → α → Prop} {w : World} {B n m c : Nat} {a : Option Addr} {xs : List α} (h : OwX E k El w B (.slice a m c) n xs) : n ≤ c := by
  obtain ⟨vs, h1, _⟩ := h
  rcases h1.2 with ⟨he, h0⟩ | ⟨g, cap, cur, he, _, _, hc, _⟩
  · omega
  · injection he with _ _ e3
    subst e3; exact hc
theorem OwX.nilc {α : Type} {E : TypeId} {k : Nat} {El : World → List Value → α → Prop} {w : World} {B n m c : Nat} {a : Option Addr} {xs : List α} (h : OwX E k El w B (.slice a m c) n xs) : a = none → c = 0 ∧ xs.length = 0 := fun ha => by
  obtain ⟨vs, h1, h2, _⟩ := h
  rcases h1.2 with ⟨he, h0⟩ | ⟨g, cap, cur, he, _⟩
  · injection he with _ e2 e3
    exact ⟨e3, by omega⟩
  · injection he with e1 _ _
    rw [ha] at e1; cases e1
/-- The first elements; the others. -/
theorem KS.front {k : Nat} {w : World} {a : Option Addr} {c : Nat} {xs : List (List Int)} (h : KS k w (.slice a xs.length c) xs) (m : Nat) (hm : m ≤ xs.length) : KS k w (.slice a (xs.take m).length c) (xs.take m) := by
  obtain ⟨a', c', b, off, he, ha, hc, hl⟩ := h
  injection he with he1 _ he3
  subst he1 he3
  refine ⟨a, c, b, off, rfl, fun h => ha (by rw [List.length_take] at h; omega), fun j hj => ?_, by rw [List.length_take]; omega⟩
  rw [List.length_take] at hj
  have := hc j (by omega)
  rwa [show (xs.take m).getD j [] = xs.getD j [] by rw [List.getD_eq_getElem?_getD, List.getElem?_take, if_pos (by omega), ← List.getD_eq_getElem?_getD]]
theorem KS.back {k : Nat} {w : World} {b off c : Nat} {xs : List (List Int)} (h : KS k w (.slice (some ⟨b, off, none⟩) xs.length c) xs) (m : Nat) (hm : m ≤ xs.length) (c' : Nat) (ad : Option Addr) (had : m < xs.length → ad = some ⟨b, off + m * k, none⟩) : KS k w (.slice ad (xs.drop m).length c') (xs.drop m) := by
  obtain ⟨a', c1, b', off', he, ha, hc, hl⟩ := h
  injection he with he1 _ he3
  refine ⟨ad, c', b, off + m * k, rfl, fun h => had (by rw [List.length_drop] at h; omega), fun j hj => ?_, by rw [List.length_drop]; omega⟩
  rw [List.length_drop] at hj
  have h2 := ha (by omega)
  rw [← he1] at h2
  injection h2 with h2
  injection h2 with hb ho
  subst hb ho
  have := hc (m + j) (by omega)
  rw [show (xs.drop m).getD j [] = xs.getD (m + j) [] by rw [List.getD_eq_getElem?_getD, List.getElem?_drop, ← List.getD_eq_getElem?_getD], show off + m * k + j * k = off + (m + j) * k by rw [Nat.add_mul]; omega]
  exact this
/-- What slicing from the front leaves. -/
theorem OwX.rest {E : TypeId} {k : Nat} {w : World} {B n c : Nat} {a : Option Addr} {xs : List (List Int)} (h : OwX E k EI w B (.slice a n c) n xs) (hn : n ≤ 2199023255552) {m : Nat} (hm : m ≤ n) :
    KS k w (.slice (if c = m then a else a.map (fun p : Addr => p.add (m * k))) (xs.drop m).length (c - m)) (xs.drop m) ∧ ((if c = m then a else a.map (fun p : Addr => p.add (m * k))) = none → c - m = 0) := by
  have hc := h.cap
  have hz := h.nilc
  have hl := h.length
  subst hl
  have hks := h.ks hn
  constructor
  · cases a with
    | none =>
      obtain ⟨_, h0⟩ := hz rfl
      obtain rfl := List.length_eq_zero_iff.1 h0
      rw [List.drop_nil]
      exact KS.nil _ _ _ _
    | some ad =>
      obtain ⟨a', c', b, off, he, ha, hcs, _⟩ := id hks
      injection he with he1 _ he3
      rcases Nat.eq_zero_or_pos xs.length with h0 | h0
      · obtain rfl := List.length_eq_zero_iff.1 h0
        rw [List.drop_nil]
        exact KS.nil _ _ _ _
      · have := ha h0
        rw [← he1] at this
        injection this with this
        subst this
        refine hks.back m hm _ _ fun hlt => ?_
        rw [if_neg (by omega)]
        show some (Addr.add _ _) = _
        rw [Addr.add_lit]
  · intro h1
    cases a with
    | none => obtain ⟨h2, _⟩ := hz rfl; omega
    | some ad =>
      split at h1
      · cases h1
      · cases h1
end Go.Proofs.YtiiiegflobihjaaGreat

/- The reference: moves, step, has. -/
namespace Go.Proofs.YtiiiegflobihjaaGreat
open Go.RowKit

set_option maxRecDepth 100000 in
set_option maxHeartbeats 1600000 in
theorem refHasR {w : World} {v : Value} {xs : List (List Int)} (hK : KS 7 w v xs) (hl : xs.length ≤ 1000000) (r0 r1 r2 r3 r4 r5 r6 : Int) :
    Calls Tryz.prog 102 #[v, .agg #[.int .i64 r0, .int .i64 r1, .int .i64 r2, .int .i64 r3, .int .i64 r4, .int .i64 r5, .int .i64 r6]] w
      fun e w' => e = .returned (.bool (decide ([r0, r1, r2, r3, r4, r5, r6] ∈ xs))) ∧ Below w.heap.size w w' := by
  obtain ⟨a, c, b, off, rfl, hae, hc, _⟩ := hK
  obtain ⟨W1, hW1⟩ : ∃ W1, W1 = w.alloc (.cells #[.int .i64 r0, .int .i64 r1, .int .i64 r2, .int .i64 r3, .int .i64 r4, .int .i64 r5, .int .i64 r6] 51) := ⟨_, rfl⟩
  have hb1 : Below w.heap.size w W1 := by rw [hW1]; exact (Below.refl _ w).alloc (Nat.le_refl _) _
  have k1 : W1.heap[w.heap.size]? = some (.cells #[.int .i64 r0, .int .i64 r1, .int .i64 r2, .int .i64 r3, .int .i64 r4, .int .i64 r5, .int .i64 r6] 51) := by rw [hW1]; exact heap_alloc_new _ _
  have hcm := Lib.hid (fun j (hj : j < xs.length) => And.intro (hc j hj).1 ((hc j hj).2.keep hb1))
  have hbx := box7CI k1
  obtain ⟨d0, d1, d2, d3, d4, d5, d6⟩ := hbx.all7
  simp only [Nat.zero_add] at d0 d1 d2 d3 d4 d5 d6
  obtain ⟨z, hz⟩ : ∃ z, decide ([r0, r1, r2, r3, r4, r5, r6] ∈ xs) = z := ⟨_, rfl⟩
  have hz0 : Hid (decide ([r0, r1, r2, r3, r4, r5, r6] ∈ xs.drop 0) = z) := by show _ = _; rw [List.drop_zero]; exact hz
  rw [hz]
  clear hc hz k1 hbx
  go_enter Tryz.func102, Tryz.ntmps102
  go_wp2_with fail
  rw [← hW1]
  replace hW1 := Lib.hid hW1
  go_loopw [5] (fun jv wr => ∃ k : Nat, jv = .int .i64 k ∧ k ≤ xs.length ∧ Hid (decide ([r0, r1, r2, r3, r4, r5, r6] ∈ xs.drop k) = z) ∧ Qt W1 wr) (fun jv _ => xs.length - (intOf jv).toNat)
  case atStart => exact ⟨0, rfl, by omega, hz0, Qt.refl _⟩
  case round =>
    clear hz0
    obtain ⟨k, rfl, hk, hzk, nd, rfl⟩ := hrel
    by_cases hlt : k < xs.length
    · have hki : (k : Int) < (xs.length : Int) := by omega
      obtain rfl := hae (by omega)
      obtain ⟨hx7, hxi⟩ := hcm.out k hlt
      obtain ⟨x, hx⟩ : ∃ x, xs.getD k [] = x := ⟨_, rfl⟩
      have hdr := drop_cons hlt ([] : List Int)
      rw [hx] at hx7 hxi hdr
      rw [hdr] at hzk
      obtain ⟨x0, x1, x2, x3, x4, x5, x6, rfl⟩ := seven hx7
      obtain ⟨c0, c1, c2, c3, c4, c5, c6⟩ := hxi.all7
      clear hxi hx7 hx hdr
      by_cases he : [x0, x1, x2, x3, x4, x5, x6] = [r0, r1, r2, r3, r4, r5, r6]
      · have hE : eqL [x0, x1, x2, x3, x4, x5, x6] [r0, r1, r2, r3, r4, r5, r6] = true := eqL_true.2 he
        obtain rfl : z = true := by rw [← hzk.out]; exact decide_eq_true (by rw [he]; simp)
        clear he hzk
        go_wp2
        go_quiet (fail)
        go_wp2
        go_ret
        exact ⟨rfl, by first | exact below_drewN hb1 _ | exact below_drewN (below_drewN hb1 _) _⟩
      · have hE : eqL [x0, x1, x2, x3, x4, x5, x6] [r0, r1, r2, r3, r4, r5, r6] = false := eqL_false.2 he
        have hz2 : Hid (decide ([r0, r1, r2, r3, r4, r5, r6] ∈ xs.drop (k + 1)) = z) := by
          show _ = _
          rw [← hzk.out]
          congr 1
          rw [List.mem_cons]
          exact propext ⟨.inr, fun h => by rcases h with h | h; exact absurd h.symm he; exact h⟩
        clear he hzk
        go_wp2
        go_quiet (fail)
        go_wp2
        go_roundw
        case rel => exact ⟨k + 1, by go_num, hlt, hz2, by first | exact Qt.mk' _ _ | exact Qt.mk2 _ _ _⟩
        case measure => simp [intOf]; omega
    · obtain rfl : z = false := by rw [← hzk.out, List.drop_eq_nil_of_le (by omega)]; simp
      have hge : ¬ ((k : Int) < (xs.length : Int)) := by omega
      clear hzk
      go_wp2
      go_ret
      exact ⟨rfl, by first | exact below_drewN hb1 _ | exact below_drewN (below_drewN hb1 _) _⟩
end Go.Proofs.YtiiiegflobihjaaGreat

/- The reference: insert, letters. -/
namespace Go.Proofs.YtiiiegflobihjaaGreat
open Go.RowKit

set_option maxRecDepth 100000 in
set_option maxHeartbeats 3200000 in
theorem refIns {w : World} {B : Nat} {v : Value} {xs : List (List Int)} (hO : OwX 51 7 EI w B v xs.length xs) (hl : xs.length ≤ 1000) (hB : B ≤ w.heap.size) (r0 r1 r2 r3 r4 r5 r6 : Int) :
    Calls Tryz.prog 79 #[v, .agg #[.int .i64 r0, .int .i64 r1, .int .i64 r2, .int .i64 r3, .int .i64 r4, .int .i64 r5, .int .i64 r6]] w
      fun e w' => ∃ u, e = .returned u ∧ OwX 51 7 EI w' B u (insR [r0, r1, r2, r3, r4, r5, r6] xs).length (insR [r0, r1, r2, r3, r4, r5, r6] xs) ∧ Below w.heap.size w w' := by
  have hmx : Tryz.prog.follows .mixedOrders = true := by kernel_rfl
  obtain ⟨R, hR⟩ : ∃ R, [r0, r1, r2, r3, r4, r5, r6] = R := ⟨_, rfl⟩
  obtain ⟨W1, hW1⟩ : ∃ W1, W1 = w.alloc (.cells #[.int .i64 r0, .int .i64 r1, .int .i64 r2, .int .i64 r3, .int .i64 r4, .int .i64 r5, .int .i64 r6] 51) := ⟨_, rfl⟩
  have hb1 : Below w.heap.size w W1 := by rw [hW1]; exact (Below.refl _ w).alloc (Nat.le_refl _) _
  have k1 : W1.heap[w.heap.size]? = some (.cells #[.int .i64 r0, .int .i64 r1, .int .i64 r2, .int .i64 r3, .int .i64 r4, .int .i64 r5, .int .i64 r6] 51) := by rw [hW1]; exact heap_alloc_new _ _
  have hbx := box7CI k1
  have hO1 := hO.keep (EI.stab _) hb1
  have HH := Lib.hid (refHasR (hO1.ks (by omega)) (by omega) r0 r1 r2 r3 r4 r5 r6)
  rw [hR] at HH ⊢
  obtain ⟨va, vc, hv⟩ := hO.shape
  subst hv
  have hrc := Lib.hid (fun W (hb : Below W1.heap.size W1 W) => (hbx.keep hb).all7)
  obtain ⟨d0, d1, d2, d3, d4, d5, d6⟩ := hbx.all7
  simp only [Nat.zero_add] at d0 d1 d2 d3 d4 d5 d6
  by_cases hin : R ∈ xs
  · have hres : insR R xs = xs := if_pos hin
    rw [decide_eq_true hin] at HH
    rw [hres]
    have hOh := Lib.hid hO1
    clear hO hO1
    go_enter Tryz.func79, Tryz.ntmps79
    go_wp2_with fail
    rw [← hW1]
    refine HH.out.mono ?_
    rintro e W2 ⟨rfl, hb2⟩
    have hfin := Lib.hid (hOh.out.keep (EI.stab _) hb2)
    go_wp2
    go_ret
    exact ⟨_, rfl, hfin.out, bt hb1 hb2 hb1.size⟩
  · have hres : insR R xs = xs.take (insK R xs xs.length) ++ [R] ++ xs.drop (insK R xs xs.length) := if_neg hin
    rw [decide_eq_false hin] at HH
    rw [hres]
    obtain ⟨K, hK⟩ : ∃ K, insK R xs xs.length = K := ⟨_, rfl⟩
    have hKl : K ≤ xs.length := by rw [← hK]; exact insK_le _ _ _
    have hK0 : Hid (insK R xs xs.length = K) := hK
    rw [hK]
    replace hK := Lib.hid hK
    replace hres := Lib.hid hres
    replace hin := Lib.hid hin
    go_enter Tryz.func79, Tryz.ntmps79
    go_wp2_with fail
    rw [← hW1]
    refine HH.out.mono ?_
    rintro e W2 ⟨rfl, hb2⟩
    have hO2 := hO1.keep (EI.stab _) hb2
    have hrc2 := Lib.hid (fun W (hb : Below W2.heap.size W2 W) => hrc.out W (bt hb2 hb hb2.size))
    have hb02 := bt hb1 hb2 hb1.size
    clear d0 d1 d2 d3 d4 d5 d6 hO hO1
    go_wp2_with fail
    go_loopg [5] xs.length (fun f kv wr => ∃ k : Nat, kv = .int .i64 k ∧ k ≤ f ∧ k ≤ xs.length ∧ Hid (insK R xs k = K) ∧ Below W2.heap.size W2 wr)
    case atStart => exact ⟨xs.length, rfl, Nat.le_refl _, Nat.le_refl _, hK0, Below.refl _ _⟩
    case round =>
      clear hK0
      obtain ⟨k, rfl, hkf, hk, hKk, hbr⟩ := hrel
      have HKS := Lib.hid (fun W (hb : Below W2.heap.size W2 W) => (hO2.ks (by omega)).keep hb)
      have hbk := hbr.size
      by_cases hc : 0 < k ∧ cmpL R (xs.getD (k - 1) []) < 0
      · obtain ⟨h0, hcz⟩ := hc
        obtain ⟨g, cap, hve, _⟩ := hO2.form (by omega)
        obtain ⟨rfl, rfl⟩ : va = some ⟨g, 0, none⟩ ∧ vc = cap := by injection hve with h1 h2 h3; exact ⟨h1, h3⟩
        obtain ⟨hx7, hxi⟩ := hO2.intCells (j := k - 1) (by omega)
        obtain ⟨x, hx⟩ : ∃ x, xs.getD (k - 1) [] = x := ⟨_, rfl⟩
        have hK2 : Hid (insK R xs (k - 1) = K) := by
          have h := hKk.out
          rw [show k = (k - 1) + 1 by omega, insK, if_pos (by rw [hx]; rw [hx] at hcz; exact hcz)] at h
          exact h
        rw [hx] at hx7 hxi hcz
        obtain ⟨x0, x1, x2, x3, x4, x5, x6, rfl⟩ := seven hx7
        have hf := Lib.hid (fun wq (hC : Below wr.heap.size wr wq) => And.intro (hrc2.out wq (hbr.trans (hC.mono hbk))) ((hxi.keep hbr).keep hC).all7)
        have HC := Lib.hid (fun W => refRoundCompare r0 r1 r2 r3 r4 r5 r6 x0 x1 x2 x3 x4 x5 x6 W)
        rw [hR] at HC
        obtain ⟨z, hz⟩ : ∃ z, cmpL R [x0, x1, x2, x3, x4, x5, x6] = z := ⟨_, rfl⟩
        rw [hz] at HC hcz
        have hw1 : IntKind.i64.wrap ((k : Int) - 1) = (k : Int) - 1 := IntWalk.i64_in _ (by omega)
        have hi0 : 0 ≤ (k : Int) - 1 := by omega
        have hi1 : (k : Int) - 1 < (xs.length : Int) := by omega
        have hin2 : ((k : Int) - 1).toNat = k - 1 := by omega
        have hd : decide ((0 : Int) < (k : Int)) = true := decide_eq_true (by omega)
        have h1k : (1 : Int) ≤ (k : Int) := by omega
        replace hx := Lib.hid hx
        replace hz := Lib.hid hz
        replace hR := Lib.hid hR
        clear hxi hx7 hO2 hve
        go_wp2_with fail
        refine wp_region_bw hmx (by kernel_rfl) ?_
        repeat (refine WQ.step (fun K hK => ?_)
                go_simp
                first
                  | (refine hK _ ?_; clear hK K)
                  | (apply Exists.intro
                     refine ⟨fun wq hC => ?_, hK _ ?_⟩
                     · (first | with_reducible rfl | (obtain ⟨⟨d0, d1, d2, d3, d4, d5, d6⟩, e0, e1, e2, e3, e4, e5, e6⟩ := hf.out wq hC; simp only [Nat.zero_add] at d0 d1 d2 d3 d4 d5 d6; go_simp; first | done | with_reducible rfl | with_reducible exact ⟨rfl, rfl⟩))
                     clear hK K))
        (refine WQ.step (fun K hK => ?_)
         go_simp
         first
           | (refine hK _ ?_; clear hK K)
           | (apply Exists.intro
              refine ⟨fun wq hC => ?_, hK _ ?_⟩
              · (refine (HC.out wq).mono ?_; rintro e w' ⟨rfl, hb⟩; exact ⟨rfl, bt hC hb hC.size⟩)
              clear hK K))
        repeat (refine WQ.step (fun K hK => ?_)
                go_simp
                first
                  | (refine hK _ ?_; clear hK K)
                  | (apply Exists.intro
                     refine ⟨fun wq hC => ?_, hK _ ?_⟩
                     · (first | with_reducible rfl | (go_simp; first | done | with_reducible rfl | with_reducible exact ⟨rfl, rfl⟩))
                     clear hK K))
        refine WQ.nil ?_
        intro w4 hb4
        have hbf := hbr.trans (hb4.mono hbk)
        clear hw1 hin2
        go_wp2_with fail
        go_roundg (gk - 1)
        case measure => omega
        case rel => exact ⟨k - 1, by rw [show ((k - 1 : Nat) : Int) = (k : Int) - 1 by omega], by omega, by omega, hK2, hbf⟩
      · obtain rfl : K = k := by
          have h := hKk.out
          rcases Nat.eq_zero_or_pos k with h0 | h0
          · subst h0; exact h.symm
          · rw [show k = (k - 1) + 1 by omega, insK, if_neg (fun h => hc ⟨h0, h⟩)] at h
            omega
        have hcap := OwX.cap hO2
        have hzc : va = none → vc = 0 ∧ xs.length = 0 := OwX.nilc hO2
        have hRl : (xs.take K).length = K := by rw [List.length_take]; omega
        have hDl : (xs.drop K).length = xs.length - K := List.length_drop ..
        have hEI : ∀ W, EI W [.int .i64 r0, .int .i64 r1, .int .i64 r2, .int .i64 r3, .int .i64 r4, .int .i64 r5, .int .i64 r6] R := fun W => by rw [← hR]; rfl
        have hc7 : ∀ u ∈ (#[.int .i64 r0, .int .i64 r1, .int .i64 r2, .int .i64 r3, .int .i64 r4, .int .i64 r5, .int .i64 r6] : Array Value).toList, u.oneCell' = true := fun u hu => by
          simp only [List.mem_cons, List.not_mem_nil, or_false] at hu
          rcases hu with rfl | rfl | rfl | rfl | rfl | rfl | rfl <;> rfl
        replace hEI := Lib.hid hEI
        replace hc7 := Lib.hid hc7
        replace hRl := Lib.hid hRl
        replace hDl := Lib.hid hDl
        have hKc : (K : Int) ≤ (vc : Int) := by omega
        have hKx : (K : Int) ≤ (xs.length : Int) := by omega
        by_cases h0 : 0 < K
        case' pos =>
          obtain ⟨g, cap, hve, _⟩ := hO2.form (by omega)
          obtain ⟨rfl, rfl⟩ : va = some ⟨g, 0, none⟩ ∧ vc = cap := by injection hve with h1 h2 h3; exact ⟨h1, h3⟩
          obtain ⟨hx7, hxi⟩ := hO2.intCells (j := K - 1) (by omega)
          obtain ⟨x, hx⟩ : ∃ x, xs.getD (K - 1) [] = x := ⟨_, rfl⟩
          have hcz : 0 ≤ cmpL R x := by
            rw [← hx]
            rcases Int.lt_or_le (cmpL R (xs.getD (K - 1) [])) 0 with h | h
            · exact absurd ⟨h0, h⟩ hc
            · exact h
          rw [hx] at hx7 hxi
          obtain ⟨x0, x1, x2, x3, x4, x5, x6, rfl⟩ := seven hx7
          have hf := Lib.hid (fun wq (hC : Below wr.heap.size wr wq) => And.intro (hrc2.out wq (hbr.trans (hC.mono hbk))) ((hxi.keep hbr).keep hC).all7)
          have HC := Lib.hid (fun W => refRoundCompare r0 r1 r2 r3 r4 r5 r6 x0 x1 x2 x3 x4 x5 x6 W)
          rw [hR] at HC
          obtain ⟨z, hz⟩ : ∃ z, cmpL R [x0, x1, x2, x3, x4, x5, x6] = z := ⟨_, rfl⟩
          rw [hz] at HC hcz
          have hw1 : IntKind.i64.wrap ((K : Int) - 1) = (K : Int) - 1 := IntWalk.i64_in _ (by omega)
          have hi0 : 0 ≤ (K : Int) - 1 := by omega
          have hi1 : (K : Int) - 1 < (xs.length : Int) := by omega
          have hin2 : ((K : Int) - 1).toNat = K - 1 := by omega
          have hd : decide ((0 : Int) < (K : Int)) = true := decide_eq_true (by omega)
          have hd2 : decide (z < 0) = false := decide_eq_false (by omega)
          have h1k : (1 : Int) ≤ (K : Int) := by omega
          replace hx := Lib.hid hx
          replace hz := Lib.hid hz
          replace hR := Lib.hid hR
          clear hxi hx7 hve hc
          go_wp2_with fail
          refine wp_region_bw hmx (by kernel_rfl) ?_
          repeat (refine WQ.step (fun K hK => ?_)
                  go_simp
                  first
                    | (refine hK _ ?_; clear hK K)
                    | (apply Exists.intro
                       refine ⟨fun wq hC => ?_, hK _ ?_⟩
                       · (first | with_reducible rfl | (obtain ⟨⟨d0, d1, d2, d3, d4, d5, d6⟩, e0, e1, e2, e3, e4, e5, e6⟩ := hf.out wq hC; simp only [Nat.zero_add] at d0 d1 d2 d3 d4 d5 d6; go_simp; first | done | with_reducible rfl | with_reducible exact ⟨rfl, rfl⟩))
                       clear hK K))
          (refine WQ.step (fun K hK => ?_)
           go_simp
           first
             | (refine hK _ ?_; clear hK K)
             | (apply Exists.intro
                refine ⟨fun wq hC => ?_, hK _ ?_⟩
                · (refine (HC.out wq).mono ?_; rintro e w' ⟨rfl, hb⟩; exact ⟨rfl, bt hC hb hC.size⟩)
                clear hK K))
          repeat (refine WQ.step (fun K hK => ?_)
                  go_simp
                  first
                    | (refine hK _ ?_; clear hK K)
                    | (apply Exists.intro
                       refine ⟨fun wq hC => ?_, hK _ ?_⟩
                       · (first | with_reducible rfl | (go_simp; first | done | with_reducible rfl | with_reducible exact ⟨rfl, rfl⟩))
                       clear hK K))
          refine WQ.nil ?_
          intro w4 hb4
          clear hw1 hin2 hd2 hf HC
        case' neg =>
          have hd : decide ((0 : Int) < (K : Int)) = false := decide_eq_false (by omega)
          replace hR := Lib.hid hR
          clear hc
          go_wp2_with fail
          refine wp_region_bw hmx (by kernel_rfl) ?_
          repeat (refine WQ.step (fun K hK => ?_)
                  go_simp
                  first
                    | (refine hK _ ?_; clear hK K)
                    | (apply Exists.intro
                       refine ⟨fun wq hC => ?_, hK _ ?_⟩
                       · (first | with_reducible rfl | (go_simp; first | done | with_reducible rfl | with_reducible exact ⟨rfl, rfl⟩))
                       clear hK K))
          refine WQ.nil ?_
          intro w4 hb4
        all_goals
          have hbf := hbr.trans (hb4.mono hbk)
          have hK4 := HKS.out w4 hbf
          have hB4 : W2.heap.size ≤ w4.heap.size := hbf.size
          have hn9 : 0 + (xs.take K).length ≤ 1000000 := by rw [hRl.out]; omega
          have hO0 : OwX 51 7 EI w4 W2.heap.size (.slice none 0 0) 0 [] := OwX.nil _ _
          clear hd
          go_wp2_with (at_builtin; refine wpList_appXs (ys := xs.take K) elemRd (by decide) (by decide) rfl _ _ rfl rfl hO0 rfl hRl.out.symm (hK4.front K (by omega)) (fun h => (hzc h).1) hn9 hB4 ?_)
          intro v5 w5 ho5 hg5 hb5 hx5
          have ho5 : OwX 51 7 EI w5 W2.heap.size v5 K (xs.take K) := by simpa only [Nat.zero_add, List.nil_append, hRl.out] using ho5
          obtain ⟨a5, c5, hv5⟩ := ho5.shape
          subst hv5
          have hb25 := hbf.trans hb5
          obtain ⟨d0, d1, d2, d3, d4, d5, d6⟩ := hrc2.out w5 hb25
          simp only [Nat.zero_add] at d0 d1 d2 d3 d4 d5 d6
          have hB5 : W2.heap.size ≤ w5.heap.size := hb25.size
          have hK9 : K ≤ 1000000000000 := by omega
          go_wp2_with (at_builtin; refine wpAppX (x := R) elemRd (by decide) (by decide) (EI.stab _) rfl _ _ rfl rfl ho5 rfl rfl rfl hc7.out (hEI.out _) hK9 hB5 ?_)
          intro v6 w6 ho6 hg6 hb6 hx6
          obtain ⟨a6, c6, hv6⟩ := ho6.shape
          subst hv6
          have hb26 := hb25.trans hb6
          have hK6 := HKS.out w6 hb26
          have hB6 : W2.heap.size ≤ w6.heap.size := hb26.size
          have hn10 : K + 1 + (xs.drop K).length ≤ 1000000 := by rw [hDl.out]; omega
          have hlen : Hid (K + 1 + (xs.drop K).length = (xs.take K ++ [R] ++ xs.drop K).length) := by
            show _ = _
            rw [List.length_append, List.length_append, hRl.out]; rfl
          clear d0 d1 d2 d3 d4 d5 d6 ho5
          have hKS6 := OwX.rest (hO2.keep (EI.stab _) hb26) (by omega) (m := K) (by omega)
          rcases Nat.lt_or_ge K vc with hcv | hcv
          case' inl =>
            have hne : ¬ vc = K := by omega
            rw [if_neg hne] at hKS6
            try simp only [Option.map_some, Addr.add_lit, Nat.zero_add] at hKS6
            have hks6 := Lib.hid hKS6
            clear hKS6
            go_wp2_with (at_builtin; refine wpList_appXs (ys := xs.drop K) elemRd (by decide) (by decide) rfl _ _ rfl rfl ho6 rfl hDl.out.symm hks6.out.1 hks6.out.2 hn10 hB6 ?_)
            intro v7 w7 ho7 hg7 hb7 hx7
            have ho7 : OwX 51 7 EI w7 W2.heap.size v7 (K + 1 + (xs.drop K).length) (xs.take K ++ [R] ++ xs.drop K) := by
              first
                | exact ho7
                | (rw [hDl.out, List.append_assoc]; exact ho7)
          case' inr =>
            have hd0 : Hid (xs.drop K = []) := List.drop_eq_nil_of_le (by omega)
            clear hKS6 hn10
            have hn10 : K + 1 + ([] : List (List Int)).length ≤ 1000000 := by simp only [List.length_nil]; omega
            have hne : K = vc := by omega
            subst hne
            go_wp2_with (at_builtin; refine wpList_appXs (ys := []) elemRd (by decide) (by decide) rfl _ _ rfl rfl ho6 rfl rfl (KS.nil _ _ _ _) (fun _ => rfl) hn10 hB6 ?_)
            intro v7 w7 ho7 hg7 hb7 hx7
            have ho7 : OwX 51 7 EI w7 W2.heap.size v7 (K + 1 + (xs.drop K).length) (xs.take K ++ [R] ++ xs.drop K) := by
              rw [hd0.out]
              first
                | exact ho7
                | (simpa using ho7)
          all_goals
            have hfin : OwX 51 7 EI w7 B v7 (xs.take K ++ [R] ++ xs.drop K).length (xs.take K ++ [R] ++ xs.drop K) := by
              rw [hlen.out] at ho7
              exact ho7.base (Nat.le_trans hB hb02.size)
            have hbe := bt hb02 (hb26.trans hb7) hb02.size
            replace hfin := Lib.hid hfin
            clear ho7 ho6
            go_wp2
            go_ret
            exact ⟨_, rfl, hfin.out, hbe⟩
end Go.Proofs.YtiiiegflobihjaaGreat

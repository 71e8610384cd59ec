/- Texts of this claim, put together: RW F3 CF CG. -/
import Derived.Test.YtiiiegflobihjaaGreatKChainsk
import Derived.Test.YtiiiegflobihjaaGreatKChainsj
import Derived.Test.YtiiiegflobihjaaGreatKChainse
import Derived.Deep.LoopGhost
import Derived.IntWalk
import Derived.Test.YtiiiegflobihjaaGreatKChainsi

/- Regions that draw their order, whose calls make new memory: the walk's goal as a structure, which nothing lays open. -/
namespace Go.Proofs.YtiiiegflobihjaaGreat
open Go.RowKit

structure WQ (P : Program) (ops : Array Oper) (C : World → Prop) (Q : Act → Prop) (l : List Oper) (a : Act) : Prop where
  out : wpQuiet P ops C Q l a
theorem WQ.nil {P : Program} {ops : Array Oper} {C : World → Prop} {Q : Act → Prop} {a : Act} (h : Q a) : WQ P ops C Q [] a := ⟨wpQuiet_nil h⟩
theorem WQ.step {P : Program} {ops : Array Oper} {C : World → Prop} {Q : Act → Prop} {a : Act} {o : Oper} {rest : List Oper}
    (h : ∀ K : Act → Prop, (∀ a, WQ P ops C Q rest a → K a) → if Region.wanted o (yielded ops a.tmps) then o.quiet P a C K else K (a.put o.dst undef)) : WQ P ops C Q (o :: rest) a :=
  ⟨wpQuiet_step fun K hK => h K fun a hq => hK a hq.out⟩
/-- All operations read, or call what makes new memory only. -/
theorem wp_region_bw {P : Program} {id : Nat} {Q : Exit → Act → World → Prop} {a : Act} {w : World} {l : List Oper} (hm : P.follows .mixedOrders = true) (hB : Region.lexB .any l.toArray = true)
    (h : WQ P l.toArray (Below w.heap.size w) (fun a' => ∀ w', Below w.heap.size w w' → Q .normal a' w') l a) :
    (Code.region id l.toArray true).wp P Q a w := wp_region_ball hm hB h.out
end Go.Proofs.YtiiiegflobihjaaGreat

/- The reference: To. -/
namespace Go.Proofs.YtiiiegflobihjaaGreat
open Go.RowKit

set_option maxRecDepth 100000 in
set_option maxHeartbeats 1600000 in
theorem refTo {w : World} {v : Value} {n : Int} {ss : List (List (List Int))} (hA : AdvV w v n ss) {i : Nat} (hi : i < ss.length) (r0 r1 r2 r3 r4 r5 r6 : Int) :
    Calls Tryz.prog 81 #[v, .int .i64 (i : Int), .agg #[.int .i64 r0, .int .i64 r1, .int .i64 r2, .int .i64 r3, .int .i64 r4, .int .i64 r5, .int .i64 r6]] w fun e w' =>
      e = .returned (.int .i64 (toI [r0, r1, r2, r3, r4, r5, r6] (ss.getD i []))) ∧ Below w.heap.size w w' := by
  obtain ⟨sv, rfl, hK⟩ := hA
  obtain ⟨sa, sc, sb, so, rfl, hsa, hsc, _⟩ := hK
  obtain rfl := hsa (by omega)
  obtain ⟨W1, hW1⟩ : ∃ W1, W1 = w.alloc (.cells #[.int .i64 n, .slice (some ⟨sb, so, none⟩) ss.length sc] 24) := ⟨_, rfl⟩
  obtain ⟨hb1, p0, p1, _⟩ := boxAdv hW1
  have hs1 : W1.heap.size = w.heap.size + 1 := by rw [hW1]; simp
  obtain ⟨W2, hW2⟩ : ∃ W2, W2 = W1.alloc (.cells #[.int .i64 r0, .int .i64 r1, .int .i64 r2, .int .i64 r3, .int .i64 r4, .int .i64 r5, .int .i64 r6] 51) := ⟨_, rfl⟩
  have hb2 : Below W1.heap.size W1 W2 := by rw [hW2]; exact (Below.refl _ _).alloc (Nat.le_refl _) _
  have m2 : W2.heap[W1.heap.size]? = some (.cells #[.int .i64 r0, .int .i64 r1, .int .i64 r2, .int .i64 r3, .int .i64 r4, .int .i64 r5, .int .i64 r6] 51) := by rw [hW2]; exact heap_alloc_new _ _
  have hc2 := box7CI m2
  rw [hs1] at hc2
  have hb02 := bt hb1 hb2 hb1.size
  have q1 := cell_kept hb2 p1
  obtain ⟨u, hcu, hu⟩ := hsc i hi
  have hcu := cell_kept hb02 hcu
  have hu := hu.keep hb02
  obtain ⟨ms, hms⟩ : ∃ ms, ss.getD i [] = ms := ⟨_, rfl⟩
  rw [hms] at hu ⊢
  obtain ⟨ma, mc, mb, mo, rfl, hma, hmc, _⟩ := hu
  replace hmc := Lib.hid hmc
  replace hc2 := Lib.hid hc2
  obtain ⟨z, hz⟩ : ∃ z, toI [r0, r1, r2, r3, r4, r5, r6] ms = z := ⟨_, rfl⟩
  have hz0 : Hid (toI [r0, r1, r2, r3, r4, r5, r6] (ms.drop 0) = z) := by show _ = _; rw [List.drop_zero]; exact hz
  rw [hz]
  have hs2a : W2.heap.size ≤ w.heap.size + 2 := by rw [hW2]; simp; omega
  have hs2b : w.heap.size + 2 ≤ W2.heap.size := by rw [hW2]; simp; omega
  rw [hW1] at hW2
  clear hsc hms hz m2 p0 p1 hb1
  have q1' := q1
  have hcu' := hcu
  rw [hW2] at q1' hcu'
  go_enter Tryz.func81, Tryz.ntmps81
  go_wp2
  rw [← hW2]
  replace hW2 := Lib.hid hW2
  obtain ⟨d0, d1, d2, d3, d4, d5, d6⟩ := hc2.out.all7
  simp only [Nat.zero_add] at d0 d1 d2 d3 d4 d5 d6
  go_loopw [8] (fun jv wr => ∃ k : Nat, jv = .int .i64 k ∧ k ≤ ms.length ∧ Hid (toI [r0, r1, r2, r3, r4, r5, r6] (ms.drop k) = z) ∧ Qt W2 wr) (fun jv _ => ms.length - (intOf jv).toNat)
  case atStart => exact ⟨0, rfl, by omega, hz0, Qt.refl _⟩
  case round =>
    clear hz0
    obtain ⟨k, rfl, hk, hzk, nd, rfl⟩ := hrel
    by_cases hlt : k < ms.length
    · obtain rfl := hma (by omega)
      obtain ⟨hx8, hxi⟩ := hmc.out k hlt
      obtain ⟨x, hx⟩ : ∃ x, ms.getD k [] = x := ⟨_, rfl⟩
      have hdr := drop_cons hlt ([] : List Int)
      rw [hx] at hx8 hxi hdr
      rw [hdr] at hzk
      obtain ⟨x0, x1, x2, x3, x4, x5, x6, x7, rfl⟩ := eight hx8
      obtain ⟨c0, c1, c2, c3, c4, c5, c6, c7⟩ := hxi.all8
      clear hxi hx8 hx hdr
      by_cases he : [x0, x1, x2, x3, x4, x5, x6] = [r0, r1, r2, r3, r4, r5, r6]
      · have hE : eqL [x0, x1, x2, x3, x4, x5, x6] [r0, r1, r2, r3, r4, r5, r6] = true := eqL_true.2 he
        have hzx : x7 = z := by
          have h := hzk.out
          rw [toI, if_pos (show rdOf [x0, x1, x2, x3, x4, x5, x6, x7] = _ from he)] at h
          exact h
        subst hzx
        clear he hzk
        go_wp2
        go_quiet (fail)
        go_wp2
        go_ret
        exact ⟨rfl, below_drewN hb02 _⟩
      · have hE : eqL [x0, x1, x2, x3, x4, x5, x6] [r0, r1, r2, r3, r4, r5, r6] = false := eqL_false.2 he
        have hz2 : Hid (toI [r0, r1, r2, r3, r4, r5, r6] (ms.drop (k + 1)) = z) := by
          have h := hzk.out
          rwa [toI, if_neg (show ¬ rdOf [x0, x1, x2, x3, x4, x5, x6, x7] = _ from he)] at h
        clear he hzk
        go_wp2
        go_quiet (fail)
        go_wp2
        go_roundw
        case rel => exact ⟨k + 1, by go_num, hlt, hz2, Qt.mk' _ _⟩
        case measure => simp [intOf]; omega
    · have hzx : -1 = z := by
        have h := hzk.out
        rw [List.drop_eq_nil_of_le (by omega), toI] at h
        exact h
      subst hzx
      clear hzk
      go_wp2
      go_ret
      exact ⟨rfl, below_drewN hb02 _⟩
end Go.Proofs.YtiiiegflobihjaaGreat

/- combine: of, target. -/
namespace Go.Proofs.YtiiiegflobihjaaGreat
open Go.RowKit

set_option maxRecDepth 100000 in
set_option maxHeartbeats 800000 in
/-- The moves of a state; none for -1. -/
theorem ofCall {w : World} {v : Value} {n : Int} {ss : List (List (List Int))} (hA : AdvV w v n ss) (hp : ∀ s ∈ ss, 0 < s.length) {s : Int} (hs : -1 ≤ s ∧ s < (ss.length : Int)) :
    ∃ u, KS 8 w u (ndM ss s) ∧ (∀ W, Below w.heap.size w W → Calls Tryz.prog 63 #[v, .int .i64 s] W fun e W' => e = .returned u ∧ Below W.heap.size W W') ∧ ((ndM ss s).length = 0 → u = .slice none 0 0) := by
  obtain ⟨sv, rfl, sa, sc, sb, so, rfl, hsa, hsc, _⟩ := hA
  by_cases h0 : s < 0
  · refine ⟨.slice none 0 0, by rw [ndM, if_pos h0]; exact KS.nil _ _ _ _, fun W hW => ?_, fun _ => rfl⟩
    go_enter Tryz.func63, Tryz.ntmps63
    go_wp2
    go_ret
    exact ⟨rfl, (Below.refl _ _).alloc (Nat.le_refl _) _⟩
  · obtain ⟨k, rfl⟩ : ∃ k : Nat, s = (k : Int) := ⟨s.toNat, by omega⟩
    have hk : k < ss.length := by omega
    obtain rfl := hsa (by omega)
    obtain ⟨u, hu, hks⟩ := hsc k hk
    have hm : ndM ss (k : Int) = ss.getD k [] := by rw [ndM, if_neg h0]; rfl
    refine ⟨u, by rw [hm]; exact hks, fun W hW => ?_, fun h => by
      have := hp _ (by rw [getD_eq hk]; exact List.getElem_mem hk : ss.getD k [] ∈ ss)
      rw [hm] at h; omega⟩
    have hc := cell_kept hW hu
    have hki : (k : Int) < (ss.length : Int) := by omega
    obtain ⟨a, c, hus⟩ := hks.shape
    subst hus
    have hc1 := cell_kept ((Below.refl W.heap.size W).alloc (Nat.le_refl _) (.cells #[.int .i64 n, .slice (some ⟨sb, so, none⟩) ss.length sc] 24)) hc
    clear hsc hks hm hu hc
    go_enter Tryz.func63, Tryz.ntmps63
    go_wp2
    go_ret
    exact ⟨rfl, (Below.refl _ _).alloc (Nat.le_refl _) _⟩

set_option maxRecDepth 100000 in
set_option maxHeartbeats 800000 in
theorem cmpMv (m0 m1 m2 m3 m4 m5 m6 m7 r0 r1 r2 r3 r4 r5 r6 : Int) (w : World) :
    Calls Tryz.prog 98 #[.agg #[.int .i64 m0, .int .i64 m1, .int .i64 m2, .int .i64 m3, .int .i64 m4, .int .i64 m5, .int .i64 m6, .int .i64 m7], .agg #[.int .i64 r0, .int .i64 r1, .int .i64 r2, .int .i64 r3, .int .i64 r4, .int .i64 r5, .int .i64 r6]] w
      fun e w' => e = .returned (.int .i64 (cmpL [m0, m1, m2, m3, m4, m5, m6] [r0, r1, r2, r3, r4, r5, r6])) ∧ Below w.heap.size w w' := by
  obtain ⟨W1, hW1⟩ : ∃ W1, W1 = (w.alloc (.cells #[.int .i64 m0, .int .i64 m1, .int .i64 m2, .int .i64 m3, .int .i64 m4, .int .i64 m5, .int .i64 m6, .int .i64 m7] 58)).alloc (.cells #[.int .i64 r0, .int .i64 r1, .int .i64 r2, .int .i64 r3, .int .i64 r4, .int .i64 r5, .int .i64 r6] 51) := ⟨_, rfl⟩
  have hb1 : Below w.heap.size w W1 := by rw [hW1]; exact ((Below.refl _ w).alloc (Nat.le_refl _) _).alloc (by simp) _
  have HC := Lib.hid (roundCompare m0 m1 m2 m3 m4 m5 m6 r0 r1 r2 r3 r4 r5 r6 W1)
  obtain ⟨z, hz⟩ : ∃ z, cmpL [m0, m1, m2, m3, m4, m5, m6] [r0, r1, r2, r3, r4, r5, r6] = z := ⟨_, rfl⟩
  rw [hz] at HC ⊢
  go_enter Tryz.func98, Tryz.ntmps98
  go_wp2_with fail
  rw [← hW1]
  refine HC.out.mono ?_
  rintro e w2 ⟨rfl, hb2⟩
  go_wp2
  go_ret
  exact ⟨rfl, bt hb1 hb2 hb1.size⟩
/-- The first of an ascending list that do not lie ahead of a round. -/
theorem ahead_at {l : List (List Int)} {r : List Int} {i : Nat} (hi : i ≤ l.length) (h1 : ∀ t, t < i → cmpL (l.getD t []) r < 0) (h2 : ∀ t, i ≤ t → t < l.length → 0 ≤ cmpL (l.getD t []) r) : ahead l r = i := by
  rw [ahead]
  conv => lhs; rw [← List.take_append_drop i l, List.countP_append]
  have e1 : (l.take i).countP (fun x => decide (cmpL x r < 0)) = i := by
    rw [List.countP_eq_length.2]
    · rw [List.length_take]; omega
    · intro x hx
      obtain ⟨t, ht, rfl⟩ := List.mem_iff_getElem.1 hx
      rw [List.length_take] at ht
      rw [List.getElem_take]
      have := h1 t (by omega)
      rw [getD_eq (by omega : t < l.length)] at this
      simpa using this
  have e2 : (l.drop i).countP (fun x => decide (cmpL x r < 0)) = 0 := by
    rw [List.countP_eq_zero]
    intro x hx
    obtain ⟨t, ht, rfl⟩ := List.mem_iff_getElem.1 hx
    rw [List.length_drop] at ht
    rw [List.getElem_drop]
    have := h2 (i + t) (by omega) (by omega)
    rw [getD_eq (by omega : i + t < l.length)] at this
    rw [decide_eq_true_eq]; omega
  rw [e1, e2]; rfl
theorem mem_ahead {l : List (List Int)} (hl : AscL l) {r : List Int} {i : Nat} (hi : i ≤ l.length) (h1 : ∀ t, t < i → cmpL (l.getD t []) r < 0) (h2 : ∀ t, i ≤ t → t < l.length → 0 ≤ cmpL (l.getD t []) r) : r ∈ l ↔ i < l.length ∧ l.getD i [] = r := by
  constructor
  · intro h
    obtain ⟨t, ht, rfl⟩ := List.mem_iff_getElem.1 h
    have hti : i ≤ t := by
      rcases Nat.lt_or_ge t i with h3 | h3
      · have := h1 t h3
        rw [getD_eq ht] at this
        have h4 : cmpL l[t] l[t] = 0 := cmpL_zero.2 rfl
        omega
      · exact h3
    rcases Nat.eq_or_lt_of_le hti with h3 | h3
    · subst h3; exact ⟨ht, getD_eq ht []⟩
    · have := asc_lt hl h3 ht
      rw [getD_eq ht] at this
      have h5 := h2 i (Nat.le_refl _) (by omega)
      omega
  · rintro ⟨h3, rfl⟩
    rw [getD_eq h3]; exact List.getElem_mem h3

set_option maxRecDepth 100000 in
set_option maxHeartbeats 3200000 in
theorem bsearch {w : World} {u : Value} {ms : List (List Int)} (hK : KS 8 w u ms) (ha : AscL (ms.map rdOf)) (hl : ms.length ≤ 1000000) (r0 r1 r2 r3 r4 r5 r6 : Int) :
    Calls Tryz.prog 97 #[u, .agg #[.int .i64 r0, .int .i64 r1, .int .i64 r2, .int .i64 r3, .int .i64 r4, .int .i64 r5, .int .i64 r6], .func (.func 98) #[] #[]] w
      fun e w' => e = .returned (.tuple #[.int .i64 (ahead (ms.map rdOf) [r0, r1, r2, r3, r4, r5, r6] : Nat), .bool (decide ([r0, r1, r2, r3, r4, r5, r6] ∈ ms.map rdOf))]) ∧ Below w.heap.size w w' := by
  have hmx : Tryz.prog.follows .mixedOrders = true := by kernel_rfl
  obtain ⟨a, c, b, off, rfl, hae, hc, _⟩ := hK
  obtain ⟨W1, hW1⟩ : ∃ W1, W1 = w.alloc (.cells #[.int .i64 r0, .int .i64 r1, .int .i64 r2, .int .i64 r3, .int .i64 r4, .int .i64 r5, .int .i64 r6] 51) := ⟨_, rfl⟩
  have hb1 : Below w.heap.size w W1 := by rw [hW1]; exact (Below.refl _ w).alloc (Nat.le_refl _) _
  have m1 : W1.heap[w.heap.size]? = some (.cells #[.int .i64 r0, .int .i64 r1, .int .i64 r2, .int .i64 r3, .int .i64 r4, .int .i64 r5, .int .i64 r6] 51) := by rw [hW1]; exact heap_alloc_new _ _
  have hbx := box7CI m1
  have hcm := Lib.hid (fun W (hb : Below W1.heap.size W1 W) j (hj : j < ms.length) => And.intro (hc j hj).1 (((hc j hj).2.keep hb1).keep hb))
  have hbw := Lib.hid (fun W (hb : Below W1.heap.size W1 W) => hbx.keep hb)
  obtain ⟨R, hR⟩ : ∃ R, [r0, r1, r2, r3, r4, r5, r6] = R := ⟨_, rfl⟩
  have hml : (ms.map rdOf).length = ms.length := List.length_map ..
  have hmg : Hid (∀ j, j < ms.length → (ms.map rdOf).getD j [] = rdOf (ms.getD j [])) := fun j hj => by
    rw [getD_eq (by rw [hml]; exact hj), getD_eq hj, List.getElem_map]
  obtain ⟨L, hL⟩ : ∃ L, ms.map rdOf = L := ⟨_, rfl⟩
  rw [hL] at ha hml hmg
  rw [hR, hL]
  obtain ⟨A, hA⟩ : ∃ A, ahead L R = A := ⟨_, rfl⟩
  obtain ⟨Z, hZ⟩ : ∃ Z, decide (R ∈ L) = Z := ⟨_, rfl⟩
  rw [hA, hZ]
  replace hA := Lib.hid hA
  replace hZ := Lib.hid hZ
  have hasc := Lib.hid ha
  replace hml := Lib.hid hml
  replace hL := Lib.hid hL
  clear ha hbx m1 hc
  go_enter Tryz.func97, Tryz.ntmps97
  go_wp2_with fail
  rw [← hW1]
  replace hW1 := Lib.hid hW1
  go_loopg [9, 10] ms.length (fun f lv hv wr => ∃ lo hi : Nat, lv = .int .i64 lo ∧ hv = .int .i64 hi ∧ lo ≤ hi ∧ hi ≤ ms.length ∧ hi - lo ≤ f ∧ Below W1.heap.size W1 wr ∧ Hid ((∀ t, t < lo → cmpL (L.getD t []) R < 0) ∧ (∀ t, hi ≤ t → t < L.length → 0 ≤ cmpL (L.getD t []) R)))
  case atStart => exact ⟨0, ms.length, rfl, rfl, Nat.zero_le _, Nat.le_refl _, by omega, Below.refl _ _, ⟨fun t ht => absurd ht (Nat.not_lt_zero _), fun t h1 h2 => absurd h2 (by rw [hml.out]; omega)⟩⟩
  case round =>
    obtain ⟨lo, hi, rfl, rfl, hlh, hin, hf, hbr, hI⟩ := hrel
    by_cases hlt : lo < hi
    · have hlti : (lo : Int) < (hi : Int) := by omega
      have hk : (lo + hi) / 2 < ms.length := by omega
      obtain rfl := hae (by omega)
      obtain ⟨hm8, hmc⟩ := hcm.out wr hbr _ hk
      have hmR := hmg.out _ hk
      obtain ⟨m, hm⟩ : ∃ m, ms.getD ((lo + hi) / 2) [] = m := ⟨_, rfl⟩
      rw [hm] at hm8 hmc hmR
      obtain ⟨m0, m1, m2, m3, m4, m5, m6, m7, rfl⟩ := eight hm8
      have hmR : L.getD ((lo + hi) / 2) [] = [m0, m1, m2, m3, m4, m5, m6] := hmR
      have hrc := hbw.out wr hbr
      have hf := Lib.hid (fun wq (hC : Below wr.heap.size wr wq) => And.intro (hmc.keep hC).all8 (hrc.keep hC).all7)
      have HC := Lib.hid (fun W => cmpMv m0 m1 m2 m3 m4 m5 m6 m7 r0 r1 r2 r3 r4 r5 r6 W)
      rw [hR] at HC
      rw [← hmR] at HC
      obtain ⟨z, hz⟩ : ∃ z, cmpL (L.getD ((lo + hi) / 2) []) R = z := ⟨_, rfl⟩
      rw [hz] at HC
      have hk0 : (0 : Int) ≤ ((lo : Int) + (hi : Int)) / 2 := by omega
      have hk1 : ((lo : Int) + (hi : Int)) / 2 < (ms.length : Int) := by omega
      have hkn : (((lo : Int) + (hi : Int)) / 2).toNat = (lo + hi) / 2 := by omega
      replace hm := Lib.hid hm
      replace hmR := Lib.hid hmR
      replace hz := Lib.hid hz
      replace hR := Lib.hid hR
      clear hmc hrc hm8
      by_cases hz0 : z < 0
      · go_wp2_with fail
        refine wp_region_bw hmx (by kernel_rfl) ?_
        repeat (refine WQ.step (fun K hK => ?_)
                go_simp
                first
                  | (refine hK _ ?_; clear hK K)
                  | (apply Exists.intro
                     refine ⟨fun wq hC => ?_, hK _ ?_⟩
                     · (first | with_reducible rfl | (obtain ⟨⟨f0, f1, f2, f3, f4, f5, f6, f7⟩, d0, d1, d2, d3, d4, d5, d6⟩ := hf.out wq hC; simp only [Nat.zero_add] at d0 d1 d2 d3 d4 d5 d6; go_simp; first | done | with_reducible rfl | with_reducible exact ⟨rfl, rfl⟩))
                     clear hK K))
        (refine WQ.step (fun K hK => ?_)
         go_simp
         first
           | (refine hK _ ?_; clear hK K)
           | (apply Exists.intro
              refine ⟨fun wq hC => ?_, hK _ ?_⟩
              · (refine (HC.out wq).mono ?_; rintro e w' ⟨rfl, hb⟩; exact ⟨rfl, bt hC hb hC.size⟩)
              clear hK K))
        repeat (refine WQ.step (fun K hK => ?_)
                go_simp
                first
                  | (refine hK _ ?_; clear hK K)
                  | (apply Exists.intro
                     refine ⟨fun wq hC => ?_, hK _ ?_⟩
                     · (first | with_reducible rfl | (go_simp; first | done | with_reducible rfl | with_reducible exact ⟨rfl, rfl⟩))
                     clear hK K))
        refine WQ.nil ?_
        intro w4 hb4
        have hbf := hbr.trans (hb4.mono hbr.size)
        have hI2 : Hid ((∀ t, t < (lo + hi) / 2 + 1 → cmpL (L.getD t []) R < 0) ∧ (∀ t, hi ≤ t → t < L.length → 0 ≤ cmpL (L.getD t []) R)) := ⟨fun t ht => by
          rcases Nat.eq_or_lt_of_le (Nat.le_of_lt_succ ht) with h | h
          · rw [h, hz.out]; exact hz0
          · exact cmpL_trans _ _ _ (asc_lt hasc.out h (by rw [hml.out]; exact hk)) (by rw [hz.out]; exact hz0), hI.out.2⟩
        go_wp2_with fail
        go_roundg (hi - ((lo + hi) / 2 + 1))
        case measure => omega
        case rel => exact ⟨(lo + hi) / 2 + 1, hi, by rw [show ((lo : Int) + (hi : Int)) / 2 + 1 = (((lo + hi) / 2 + 1 : Nat) : Int) by omega], rfl, by omega, hin, Nat.le_refl _, hbf, hI2⟩
      · have hz1 : 0 ≤ z := by omega
        clear hz0
        go_wp2_with fail
        refine wp_region_bw hmx (by kernel_rfl) ?_
        repeat (refine WQ.step (fun K hK => ?_)
                go_simp
                first
                  | (refine hK _ ?_; clear hK K)
                  | (apply Exists.intro
                     refine ⟨fun wq hC => ?_, hK _ ?_⟩
                     · (first | with_reducible rfl | (obtain ⟨⟨f0, f1, f2, f3, f4, f5, f6, f7⟩, d0, d1, d2, d3, d4, d5, d6⟩ := hf.out wq hC; simp only [Nat.zero_add] at d0 d1 d2 d3 d4 d5 d6; go_simp; first | done | with_reducible rfl | with_reducible exact ⟨rfl, rfl⟩))
                     clear hK K))
        (refine WQ.step (fun K hK => ?_)
         go_simp
         first
           | (refine hK _ ?_; clear hK K)
           | (apply Exists.intro
              refine ⟨fun wq hC => ?_, hK _ ?_⟩
              · (refine (HC.out wq).mono ?_; rintro e w' ⟨rfl, hb⟩; exact ⟨rfl, bt hC hb hC.size⟩)
              clear hK K))
        repeat (refine WQ.step (fun K hK => ?_)
                go_simp
                first
                  | (refine hK _ ?_; clear hK K)
                  | (apply Exists.intro
                     refine ⟨fun wq hC => ?_, hK _ ?_⟩
                     · (first | with_reducible rfl | (go_simp; first | done | with_reducible rfl | with_reducible exact ⟨rfl, rfl⟩))
                     clear hK K))
        refine WQ.nil ?_
        intro w4 hb4
        have hbf := hbr.trans (hb4.mono hbr.size)
        have hI2 : Hid ((∀ t, t < lo → cmpL (L.getD t []) R < 0) ∧ (∀ t, (lo + hi) / 2 ≤ t → t < L.length → 0 ≤ cmpL (L.getD t []) R)) := ⟨hI.out.1, fun t ht htn => by
          rcases Nat.eq_or_lt_of_le ht with h | h
          · rw [← h, hz.out]; exact hz1
          · rcases Int.lt_or_le (cmpL (L.getD t []) R) 0 with hc | hc
            · have h2 := cmpL_trans _ _ _ (asc_lt hasc.out h htn) hc
              rw [hz.out] at h2; omega
            · exact hc⟩
        go_wp2_with fail
        go_roundg ((lo + hi) / 2 - lo)
        case measure => omega
        case rel => exact ⟨lo, (lo + hi) / 2, rfl, by rw [show ((lo : Int) + (hi : Int)) / 2 = (((lo + hi) / 2 : Nat) : Int) by omega], by omega, by omega, Nat.le_refl _, hbf, hI2⟩
    · obtain rfl : lo = hi := by omega
      have hge : ¬ ((lo : Int) < (lo : Int)) := by omega
      have ha1 := ahead_at (l := L) (r := R) (i := lo) (by rw [hml.out]; exact hin) hI.out.1 hI.out.2
      have hm1 := mem_ahead hasc.out (by rw [hml.out]; exact hin) hI.out.1 hI.out.2
      rw [hml.out] at hm1
      by_cases hn : lo < ms.length
      · have hni : decide ((lo : Int) < (ms.length : Int)) = true := decide_eq_true (by omega)
        have hnn : decide (lo < ms.length) = true := decide_eq_true hn
        obtain rfl := hae (by omega)
        obtain ⟨hm8, hmc⟩ := hcm.out wr hbr _ hn
        have hmR := hmg.out _ hn
        obtain ⟨m, hm⟩ : ∃ m, ms.getD lo [] = m := ⟨_, rfl⟩
        rw [hm] at hm8 hmc hmR
        obtain ⟨m0, m1, m2, m3, m4, m5, m6, m7, rfl⟩ := eight hm8
        have hmR : L.getD lo [] = [m0, m1, m2, m3, m4, m5, m6] := hmR
        have hrc := hbw.out wr hbr
        have hf := Lib.hid (fun wq (hC : Below wr.heap.size wr wq) => And.intro (hmc.keep hC).all8 (hrc.keep hC).all7)
        have HC := Lib.hid (fun W => cmpMv m0 m1 m2 m3 m4 m5 m6 m7 r0 r1 r2 r3 r4 r5 r6 W)
        rw [hR] at HC
        rw [← hmR] at HC
        have hdm : decide (R ∈ L) = (cmpL (L.getD lo []) R == 0) := by
          rw [Bool.eq_iff_iff, decide_eq_true_eq, beq_iff_eq, hm1, cmpL_zero]
          exact ⟨fun h => h.2, fun h => ⟨hn, h⟩⟩
        obtain ⟨z, hz⟩ : ∃ z, cmpL (L.getD lo []) R = z := ⟨_, rfl⟩
        rw [hz] at HC hdm
        have hlo1 : (lo : Int) < (ms.length : Int) := by omega
        obtain rfl : A = lo := by rw [← hA.out, ha1]
        have hzz : (z == 0) = Z := by rw [← hdm, hZ.out]
        replace hdm := Lib.hid hdm
        replace hm := Lib.hid hm
        replace hmR := Lib.hid hmR
        replace hz := Lib.hid hz
        replace hR := Lib.hid hR
        clear hmc hrc hm8 hm1 ha1
        go_wp2_with fail
        refine wp_region_bw hmx (by kernel_rfl) ?_
        repeat (refine WQ.step (fun K hK => ?_)
                go_simp
                first
                  | (refine hK _ ?_; clear hK K)
                  | (apply Exists.intro
                     refine ⟨fun wq hC => ?_, hK _ ?_⟩
                     · (first | with_reducible rfl | (obtain ⟨⟨f0, f1, f2, f3, f4, f5, f6, f7⟩, d0, d1, d2, d3, d4, d5, d6⟩ := hf.out wq hC; simp only [Nat.zero_add] at d0 d1 d2 d3 d4 d5 d6; go_simp; first | done | with_reducible rfl | with_reducible exact ⟨rfl, rfl⟩))
                     clear hK K))
        (refine WQ.step (fun K hK => ?_)
         go_simp
         first
           | (refine hK _ ?_; clear hK K)
           | (apply Exists.intro
              refine ⟨fun wq hC => ?_, hK _ ?_⟩
              · (refine (HC.out wq).mono ?_; rintro e w' ⟨rfl, hb⟩; exact ⟨rfl, bt hC hb hC.size⟩)
              clear hK K))
        repeat (refine WQ.step (fun K hK => ?_)
                go_simp
                first
                  | (refine hK _ ?_; clear hK K)
                  | (apply Exists.intro
                     refine ⟨fun wq hC => ?_, hK _ ?_⟩
                     · (first | with_reducible rfl | (go_simp; first | done | with_reducible rfl | with_reducible exact ⟨rfl, rfl⟩))
                     clear hK K))
        refine WQ.nil ?_
        intro w4 hb4
        have hbf := bt hb1 (hbr.trans (hb4.mono hbr.size)) hb1.size
        go_wp2_with fail
        go_ret2
        exact ⟨rfl, hbf⟩
      · have hni : decide ((lo : Int) < (ms.length : Int)) = false := decide_eq_false (by omega)
        have hnn : decide (lo < ms.length) = false := decide_eq_false hn
        obtain rfl : A = lo := by rw [← hA.out, ha1]
        obtain rfl : Z = false := by rw [← hZ.out]; exact decide_eq_false fun h => hn (hm1.1 h).1
        clear hm1 ha1 hA hZ
        go_wp2_with fail
        refine wp_region_bw hmx (by kernel_rfl) ?_
        repeat (refine WQ.step (fun K hK => ?_)
                go_simp
                first
                  | (refine hK _ ?_; clear hK K)
                  | (apply Exists.intro
                     refine ⟨fun wq hC => ?_, hK _ ?_⟩
                     · (first | with_reducible rfl | (go_simp; first | done | with_reducible rfl | with_reducible exact ⟨rfl, rfl⟩))
                     clear hK K))
        refine WQ.nil ?_
        intro w4 hb4
        have hbf := bt hb1 (hbr.trans (hb4.mono hbr.size)) hb1.size
        go_wp2_with fail
        go_ret2
        exact ⟨rfl, hbf⟩
end Go.Proofs.YtiiiegflobihjaaGreat

/- combine: target, check; the reference: moves, step, find, has, both. -/
namespace Go.Proofs.YtiiiegflobihjaaGreat
open Go.RowKit

theorem ahead_mem {ms : List (List Int)} (ha : AscL (ms.map rdOf)) {r : List Int} (h : r ∈ ms.map rdOf) : ahead (ms.map rdOf) r < ms.length ∧ toI r ms = (ms.getD (ahead (ms.map rdOf) r) []).getD 7 0 := by
  obtain ⟨i, hi, he⟩ := List.mem_iff_getElem.1 h
  have hil : i < ms.length := by simpa using hi
  have hai : ahead (ms.map rdOf) r = i := by
    refine ahead_at (by omega) (fun t ht => ?_) (fun t ht htn => ?_)
    · have := asc_lt ha ht hi
      rwa [getD_eq hi, he] at this
    · rcases Nat.eq_or_lt_of_le ht with h1 | h1
      · rw [← h1, getD_eq hi, he, cmpL_zero.2 rfl]; exact Int.le_refl _
      · have := asc_lt ha h1 htn
        rw [getD_eq hi, he] at this
        have h2 := cmpL_asymm _ _ this
        omega
  rw [hai]
  refine ⟨hil, ?_⟩
  rw [getD_eq hil]
  exact toI_at (asc_nodup' ha) hil (by rw [List.getElem_map] at he; exact he)

set_option maxRecDepth 100000 in
set_option maxHeartbeats 1600000 in
theorem targetA {w : World} {v : Value} {n : Int} {ss : List (List (List Int))} (hA : AdvV w v n ss) (hasc : ∀ s ∈ ss, AscL (s.map rdOf)) (hml : ∀ s ∈ ss, s.length ≤ 1000000) {s : Int} (hs : -1 ≤ s ∧ s < (ss.length : Int)) (r0 r1 r2 r3 r4 r5 r6 : Int) :
    Calls Tryz.prog 68 #[v, .int .i64 s, .agg #[.int .i64 r0, .int .i64 r1, .int .i64 r2, .int .i64 r3, .int .i64 r4, .int .i64 r5, .int .i64 r6]] w
      fun e w' => e = .returned (.int .i64 (ndT ss s [r0, r1, r2, r3, r4, r5, r6])) ∧ Below w.heap.size w w' := by
  have hmx : Tryz.prog.follows .mixedOrders = true := by kernel_rfl
  have hA' := hA
  obtain ⟨sv, rfl, sa, sc, sb, so, rfl, hsa, hsc, _⟩ := hA'
  obtain ⟨R, hR⟩ : ∃ R, [r0, r1, r2, r3, r4, r5, r6] = R := ⟨_, rfl⟩
  rw [hR]
  obtain ⟨W1, hW1⟩ : ∃ W1, W1 = (w.alloc (.cells #[.int .i64 n, .slice sa ss.length sc] 24)).alloc (.cells #[.int .i64 r0, .int .i64 r1, .int .i64 r2, .int .i64 r3, .int .i64 r4, .int .i64 r5, .int .i64 r6] 51) := ⟨_, rfl⟩
  have hb1 : Below w.heap.size w W1 := by rw [hW1]; exact ((Below.refl _ w).alloc (Nat.le_refl _) _).alloc (by simp) _
  by_cases h0 : s < 0
  · have hz : ndT ss s R = -1 := by rw [ndT, if_pos h0]
    rw [hz]
    go_enter Tryz.func68, Tryz.ntmps68
    go_wp2_with fail
    rw [← hW1]
    go_ret
    exact ⟨rfl, hb1⟩
  · obtain ⟨k, rfl⟩ : ∃ k : Nat, s = (k : Int) := ⟨s.toNat, by omega⟩
    have hk : k < ss.length := by omega
    have hd0 : decide ((k : Int) < 0) = false := decide_eq_false h0
    obtain rfl := hsa (by omega)
    obtain ⟨u, hu, hks⟩ := hsc k hk
    have hz : ndT ss (k : Int) R = toI R (ss.getD k []) := by rw [ndT, if_neg h0]; rfl
    have hmem : ss.getD k [] ∈ ss := by rw [getD_eq hk]; exact List.getElem_mem hk
    have ha := hasc _ hmem
    have hl := hml _ hmem
    obtain ⟨ms, hms⟩ : ∃ ms, ss.getD k [] = ms := ⟨_, rfl⟩
    rw [hms] at hks hz ha hl
    rw [hz]
    have hk1 := hks.keep hb1
    have hc := cell_kept hb1 hu
    have k1 : W1.heap[w.heap.size]? = some (.cells #[.int .i64 n, .slice (some ⟨sb, so, none⟩) ss.length sc] 24) := by rw [hW1]; exact (Below.heap_alloc _ _ _ (by simp)).trans (heap_alloc_new w _)
    have k2 : W1.heap[w.heap.size + 1]? = some (.cells #[.int .i64 r0, .int .i64 r1, .int .i64 r2, .int .i64 r3, .int .i64 r4, .int .i64 r5, .int .i64 r6] 51) := by
      rw [hW1]
      have := heap_alloc_new (w.alloc (.cells #[.int .i64 n, .slice (some ⟨sb, so, none⟩) ss.length sc] 24)) (.cells #[.int .i64 r0, .int .i64 r1, .int .i64 r2, .int .i64 r3, .int .i64 r4, .int .i64 r5, .int .i64 r6] 51)
      rwa [World.size_alloc] at this
    have hp := box_cell (j := 1) k1 rfl
    have hr := box7CI k2
    have hf := Lib.hid (fun wq (hC : Below W1.heap.size W1 wq) => And.intro (cell_kept hC hp) (And.intro (cell_kept hC hc) (hr.keep hC).all7))
    have HB := Lib.hid (fun W (hb : Below W1.heap.size W1 W) => bsearch (hk1.keep hb) ha hl r0 r1 r2 r3 r4 r5 r6)
    rw [hR] at HB
    obtain ⟨ua, uc, hus⟩ := hks.shape
    subst hus
    have hki : (k : Int) < (ss.length : Int) := by omega
    by_cases hin : R ∈ ms.map rdOf
    · obtain ⟨hil, hto⟩ := ahead_mem ha hin
      rw [hto]
      have hbb : decide (R ∈ ms.map rdOf) = true := decide_eq_true hin
      rw [hbb] at HB
      obtain ⟨i, hi⟩ : ∃ i, ahead (ms.map rdOf) R = i := ⟨_, rfl⟩
      simp only [hi] at HB hil ⊢
      obtain ⟨_, _, mb, mo, hue, hma, hmc, _⟩ := hk1
      obtain ⟨rfl, rfl⟩ : ua = _ ∧ uc = _ := by injection hue with h1 h2 h3; exact ⟨h1, h3⟩
      obtain rfl := hma (by omega)
      obtain ⟨hm8, hmm⟩ := hmc i hil
      obtain ⟨m, hm⟩ : ∃ m, ms.getD i [] = m := ⟨_, rfl⟩
      rw [hm] at hm8 hmm ⊢
      obtain ⟨m0, m1, m2, m3, m4, m5, m6, m7, rfl⟩ := eight hm8
      have hmw := Lib.hid (fun wq (hC : Below W1.heap.size W1 wq) => (hmm.keep hC).all8)
      have hii : (i : Int) < (ms.length : Int) := by omega
      show Calls _ _ _ _ fun e w' => e = .returned (.int .i64 m7) ∧ _
      clear hsc hks hmc hmm hue hsa hu hp hr hc hA hasc hml hto hin hbb hma k1 k2
      replace hR := Lib.hid hR
      replace hm := Lib.hid hm
      replace hi := Lib.hid hi
      replace hms := Lib.hid hms
      go_enter Tryz.func68, Tryz.ntmps68
      go_wp2_with fail
      rw [← hW1]
      replace hW1 := Lib.hid hW1
      refine wp_region_bw hmx (by kernel_rfl) ?_
      repeat (refine WQ.step (fun K hK => ?_)
              go_simp
              first
                | (refine hK _ ?_; clear hK K)
                | (apply Exists.intro
                   refine ⟨fun wq hC => ?_, hK _ ?_⟩
                   · (first | with_reducible rfl | (obtain ⟨f0, f1, f2, f3, f4, f5, f6, f7, f8⟩ := hf.out wq hC; simp only [Nat.zero_add] at f2 f3 f4 f5 f6 f7 f8; go_simp; first | done | with_reducible rfl | with_reducible exact ⟨rfl, rfl⟩))
                   clear hK K))
      (refine WQ.step (fun K hK => ?_)
       go_simp
       first
         | (refine hK _ ?_; clear hK K)
         | (apply Exists.intro
            refine ⟨fun wq hC => ?_, hK _ ?_⟩
            · (refine (HB.out wq hC).mono ?_; rintro e w' ⟨rfl, hb⟩; exact ⟨rfl, bt hC hb hC.size⟩)
            clear hK K))
      repeat (refine WQ.step (fun K hK => ?_)
              go_simp
              first
                | (refine hK _ ?_; clear hK K)
                | (apply Exists.intro
                   refine ⟨fun wq hC => ?_, hK _ ?_⟩
                   · (first | with_reducible rfl | (go_simp; first | done | with_reducible rfl | with_reducible exact ⟨rfl, rfl⟩))
                   clear hK K))
      refine WQ.nil ?_
      intro w4 hb4
      have hbf := bt hb1 hb4 hb1.size
      obtain ⟨f0, f1, _⟩ := hf.out w4 hb4
      obtain ⟨_, _, _, _, _, _, _, g7⟩ := hmw.out w4 hb4
      go_wp2
      go_ret
      exact ⟨rfl, hbf⟩
    · have hto := toI_none hin
      rw [hto]
      have hbb : decide (R ∈ ms.map rdOf) = false := decide_eq_false hin
      rw [hbb] at HB
      clear hsc hks hsa hu hp hr hc hA hasc hml hto hin hbb k1 k2
      replace hR := Lib.hid hR
      replace hms := Lib.hid hms
      go_enter Tryz.func68, Tryz.ntmps68
      go_wp2_with fail
      rw [← hW1]
      replace hW1 := Lib.hid hW1
      refine wp_region_bw hmx (by kernel_rfl) ?_
      repeat (refine WQ.step (fun K hK => ?_)
              go_simp
              first
                | (refine hK _ ?_; clear hK K)
                | (apply Exists.intro
                   refine ⟨fun wq hC => ?_, hK _ ?_⟩
                   · (first | with_reducible rfl | (obtain ⟨f0, f1, f2, f3, f4, f5, f6, f7, f8⟩ := hf.out wq hC; simp only [Nat.zero_add] at f2 f3 f4 f5 f6 f7 f8; go_simp; first | done | with_reducible rfl | with_reducible exact ⟨rfl, rfl⟩))
                   clear hK K))
      (refine WQ.step (fun K hK => ?_)
       go_simp
       first
         | (refine hK _ ?_; clear hK K)
         | (apply Exists.intro
            refine ⟨fun wq hC => ?_, hK _ ?_⟩
            · (refine (HB.out wq hC).mono ?_; rintro e w' ⟨rfl, hb⟩; exact ⟨rfl, bt hC hb hC.size⟩)
            clear hK K))
      repeat (refine WQ.step (fun K hK => ?_)
              go_simp
              first
                | (refine hK _ ?_; clear hK K)
                | (apply Exists.intro
                   refine ⟨fun wq hC => ?_, hK _ ?_⟩
                   · (first | with_reducible rfl | (go_simp; first | done | with_reducible rfl | with_reducible exact ⟨rfl, rfl⟩))
                   clear hK K))
      refine WQ.nil ?_
      intro w4 hb4
      have hbf := bt hb1 hb4 hb1.size
      go_wp2
      go_ret
      exact ⟨rfl, hbf⟩
end Go.Proofs.YtiiiegflobihjaaGreat

/- Texts of this claim, put together: RW CF CG J1. -/
import Derived.Test.YtiiiegflobihjaaGreatKAWk
import Derived.Test.YtiiiegflobihjaaGreatKAWe
import Derived.Test.YtiiiegflobihjaaGreatKAWj
import Derived.Deep.LoopGhost
import Derived.IntWalk
import Derived.Test.YtiiiegflobihjaaGreatKAWi
import Derived.Test.YtiiiegflobihjaaGreatKAWh
import Derived.Lib.SliceRun
import Derived.Laws.IdiomCopy

/- Regions that draw their order, whose calls make new memory: the walk's goal as a structure, which nothing lays open. -/
namespace Go.Proofs.YtiiiegflobihjaaGreat
open Go.RowKit

structure WQ (P : Program) (ops : Array Oper) (C : World → Prop) (Q : Act → Prop) (l : List Oper) (a : Act) : Prop where
  out : wpQuiet P ops C Q l a
theorem WQ.nil {P : Program} {ops : Array Oper} {C : World → Prop} {Q : Act → Prop} {a : Act} (h : Q a) : WQ P ops C Q [] a := ⟨wpQuiet_nil h⟩
theorem WQ.step {P : Program} {ops : Array Oper} {C : World → Prop} {Q : Act → Prop} {a : Act} {o : Oper} {rest : List Oper}
    (h : ∀ K : Act → Prop, (∀ a, WQ P ops C Q rest a → K a) → if Region.wanted o (yielded ops a.tmps) then o.quiet P a C K else K (a.put o.dst undef)) : WQ P ops C Q (o :: rest) a :=
  ⟨wpQuiet_step fun K hK => h K fun a hq => hK a hq.out⟩
/-- All operations read, or call what makes new memory only. -/
theorem wp_region_bw {P : Program} {id : Nat} {Q : Exit → Act → World → Prop} {a : Act} {w : World} {l : List Oper} (hm : P.follows .mixedOrders = true) (hB : Region.lexB .any l.toArray = true)
    (h : WQ P l.toArray (Below w.heap.size w) (fun a' => ∀ w', Below w.heap.size w w' → Q .normal a' w') l a) :
    (Code.region id l.toArray true).wp P Q a w := wp_region_ball hm hB h.out
end Go.Proofs.YtiiiegflobihjaaGreat

/- combine: of, target. -/
namespace Go.Proofs.YtiiiegflobihjaaGreat
open Go.RowKit

set_option maxRecDepth 100000 in
set_option maxHeartbeats 800000 in
/-- The moves of a state; none for -1. -/
theorem ofCall {w : World} {v : Value} {n : Int} {ss : List (List (List Int))} (hA : AdvV w v n ss) (hp : ∀ s ∈ ss, 0 < s.length) {s : Int} (hs : -1 ≤ s ∧ s < (ss.length : Int)) :
    ∃ u, KS 8 w u (ndM ss s) ∧ (∀ W, Below w.heap.size w W → Calls Tryz.prog 63 #[v, .int .i64 s] W fun e W' => e = .returned u ∧ Below W.heap.size W W') ∧ ((ndM ss s).length = 0 → u = .slice none 0 0) := by
  obtain ⟨sv, rfl, sa, sc, sb, so, rfl, hsa, hsc, _⟩ := hA
  by_cases h0 : s < 0
  · refine ⟨.slice none 0 0, by rw [ndM, if_pos h0]; exact KS.nil _ _ _ _, fun W hW => ?_, fun _ => rfl⟩
    go_enter Tryz.func63, Tryz.ntmps63
    go_wp2
    go_ret
    exact ⟨rfl, (Below.refl _ _).alloc (Nat.le_refl _) _⟩
  · obtain ⟨k, rfl⟩ : ∃ k : Nat, s = (k : Int) := ⟨s.toNat, by omega⟩
    have hk : k < ss.length := by omega
    obtain rfl := hsa (by omega)
    obtain ⟨u, hu, hks⟩ := hsc k hk
    have hm : ndM ss (k : Int) = ss.getD k [] := by rw [ndM, if_neg h0]; rfl
    refine ⟨u, by rw [hm]; exact hks, fun W hW => ?_, fun h => by
      have := hp _ (by rw [getD_eq hk]; exact List.getElem_mem hk : ss.getD k [] ∈ ss)
      rw [hm] at h; omega⟩
    have hc := cell_kept hW hu
    have hki : (k : Int) < (ss.length : Int) := by omega
    obtain ⟨a, c, hus⟩ := hks.shape
    subst hus
    have hc1 := cell_kept ((Below.refl W.heap.size W).alloc (Nat.le_refl _) (.cells #[.int .i64 n, .slice (some ⟨sb, so, none⟩) ss.length sc] 24)) hc
    clear hsc hks hm hu hc
    go_enter Tryz.func63, Tryz.ntmps63
    go_wp2
    go_ret
    exact ⟨rfl, (Below.refl _ _).alloc (Nat.le_refl _) _⟩

set_option maxRecDepth 100000 in
set_option maxHeartbeats 800000 in
theorem cmpMv (m0 m1 m2 m3 m4 m5 m6 m7 r0 r1 r2 r3 r4 r5 r6 : Int) (w : World) :
    Calls Tryz.prog 98 #[.agg #[.int .i64 m0, .int .i64 m1, .int .i64 m2, .int .i64 m3, .int .i64 m4, .int .i64 m5, .int .i64 m6, .int .i64 m7], .agg #[.int .i64 r0, .int .i64 r1, .int .i64 r2, .int .i64 r3, .int .i64 r4, .int .i64 r5, .int .i64 r6]] w
      fun e w' => e = .returned (.int .i64 (cmpL [m0, m1, m2, m3, m4, m5, m6] [r0, r1, r2, r3, r4, r5, r6])) ∧ Below w.heap.size w w' := by
  obtain ⟨W1, hW1⟩ : ∃ W1, W1 = (w.alloc (.cells #[.int .i64 m0, .int .i64 m1, .int .i64 m2, .int .i64 m3, .int .i64 m4, .int .i64 m5, .int .i64 m6, .int .i64 m7] 58)).alloc (.cells #[.int .i64 r0, .int .i64 r1, .int .i64 r2, .int .i64 r3, .int .i64 r4, .int .i64 r5, .int .i64 r6] 51) := ⟨_, rfl⟩
  have hb1 : Below w.heap.size w W1 := by rw [hW1]; exact ((Below.refl _ w).alloc (Nat.le_refl _) _).alloc (by simp) _
  have HC := Lib.hid (roundCompare m0 m1 m2 m3 m4 m5 m6 r0 r1 r2 r3 r4 r5 r6 W1)
  obtain ⟨z, hz⟩ : ∃ z, cmpL [m0, m1, m2, m3, m4, m5, m6] [r0, r1, r2, r3, r4, r5, r6] = z := ⟨_, rfl⟩
  rw [hz] at HC ⊢
  go_enter Tryz.func98, Tryz.ntmps98
  go_wp2_with fail
  rw [← hW1]
  refine HC.out.mono ?_
  rintro e w2 ⟨rfl, hb2⟩
  go_wp2
  go_ret
  exact ⟨rfl, bt hb1 hb2 hb1.size⟩
/-- The first of an ascending list that do not lie ahead of a round. -/
theorem ahead_at {l : List (List Int)} {r : List Int} {i : Nat} (hi : i ≤ l.length) (h1 : ∀ t, t < i → cmpL (l.getD t []) r < 0) (h2 : ∀ t, i ≤ t → t < l.length → 0 ≤ cmpL (l.getD t []) r) : ahead l r = i := by
  rw [ahead]
  conv => lhs; rw [← List.take_append_drop i l, List.countP_append]
  have e1 : (l.take i).countP (fun x => decide (cmpL x r < 0)) = i := by
    rw [List.countP_eq_length.2]
    · rw [List.length_take]; omega
    · intro x hx
      obtain ⟨t, ht, rfl⟩ := List.mem_iff_getElem.1 hx
      rw [List.length_take] at ht
      rw [List.getElem_take]
      have := h1 t (by omega)
      rw [getD_eq (by omega : t < l.length)] at this
      simpa using this
  have e2 : (l.drop i).countP (fun x => decide (cmpL x r < 0)) = 0 := by
    rw [List.countP_eq_zero]
    intro x hx
    obtain ⟨t, ht, rfl⟩ := List.mem_iff_getElem.1 hx
    rw [List.length_drop] at ht
    rw [List.getElem_drop]
    have := h2 (i + t) (by omega) (by omega)
    rw [getD_eq (by omega : i + t < l.length)] at this
    rw [decide_eq_true_eq]; omega
  rw [e1, e2]; rfl
theorem mem_ahead {l : List (List Int)} (hl : AscL l) {r : List Int} {i : Nat} (hi : i ≤ l.length) (h1 : ∀ t, t < i → cmpL (l.getD t []) r < 0) (h2 : ∀ t, i ≤ t → t < l.length → 0 ≤ cmpL (l.getD t []) r) : r ∈ l ↔ i < l.length ∧ l.getD i [] = r := by
  constructor
  · intro h
    obtain ⟨t, ht, rfl⟩ := List.mem_iff_getElem.1 h
    have hti : i ≤ t := by
      rcases Nat.lt_or_ge t i with h3 | h3
      · have := h1 t h3
        rw [getD_eq ht] at this
        have h4 : cmpL l[t] l[t] = 0 := cmpL_zero.2 rfl
        omega
      · exact h3
    rcases Nat.eq_or_lt_of_le hti with h3 | h3
    · subst h3; exact ⟨ht, getD_eq ht []⟩
    · have := asc_lt hl h3 ht
      rw [getD_eq ht] at this
      have h5 := h2 i (Nat.le_refl _) (by omega)
      omega
  · rintro ⟨h3, rfl⟩
    rw [getD_eq h3]; exact List.getElem_mem h3

set_option maxRecDepth 100000 in
set_option maxHeartbeats 3200000 in
theorem bsearch {w : World} {u : Value} {ms : List (List Int)} (hK : KS 8 w u ms) (ha : AscL (ms.map rdOf)) (hl : ms.length ≤ 1000000) (r0 r1 r2 r3 r4 r5 r6 : Int) :
    Calls Tryz.prog 97 #[u, .agg #[.int .i64 r0, .int .i64 r1, .int .i64 r2, .int .i64 r3, .int .i64 r4, .int .i64 r5, .int .i64 r6], .func (.func 98) #[] #[]] w
      fun e w' => e = .returned (.tuple #[.int .i64 (ahead (ms.map rdOf) [r0, r1, r2, r3, r4, r5, r6] : Nat), .bool (decide ([r0, r1, r2, r3, r4, r5, r6] ∈ ms.map rdOf))]) ∧ Below w.heap.size w w' := by
  have hmx : Tryz.prog.follows .mixedOrders = true := by kernel_rfl
  obtain ⟨a, c, b, off, rfl, hae, hc, _⟩ := hK
  obtain ⟨W1, hW1⟩ : ∃ W1, W1 = w.alloc (.cells #[.int .i64 r0, .int .i64 r1, .int .i64 r2, .int .i64 r3, .int .i64 r4, .int .i64 r5, .int .i64 r6] 51) := ⟨_, rfl⟩
  have hb1 : Below w.heap.size w W1 := by rw [hW1]; exact (Below.refl _ w).alloc (Nat.le_refl _) _
  have m1 : W1.heap[w.heap.size]? = some (.cells #[.int .i64 r0, .int .i64 r1, .int .i64 r2, .int .i64 r3, .int .i64 r4, .int .i64 r5, .int .i64 r6] 51) := by rw [hW1]; exact heap_alloc_new _ _
  have hbx := box7CI m1
  have hcm := Lib.hid (fun W (hb : Below W1.heap.size W1 W) j (hj : j < ms.length) => And.intro (hc j hj).1 (((hc j hj).2.keep hb1).keep hb))
  have hbw := Lib.hid (fun W (hb : Below W1.heap.size W1 W) => hbx.keep hb)
  obtain ⟨R, hR⟩ : ∃ R, [r0, r1, r2, r3, r4, r5, r6] = R := ⟨_, rfl⟩
  have hml : (ms.map rdOf).length = ms.length := List.length_map ..
  have hmg : Hid (∀ j, j < ms.length → (ms.map rdOf).getD j [] = rdOf (ms.getD j [])) := fun j hj => by
    rw [getD_eq (by rw [hml]; exact hj), getD_eq hj, List.getElem_map]
  obtain ⟨L, hL⟩ : ∃ L, ms.map rdOf = L := ⟨_, rfl⟩
  rw [hL] at ha hml hmg
  rw [hR, hL]
  obtain ⟨A, hA⟩ : ∃ A, ahead L R = A := ⟨_, rfl⟩
  obtain ⟨Z, hZ⟩ : ∃ Z, decide (R ∈ L) = Z := ⟨_, rfl⟩
  rw [hA, hZ]
  replace hA := Lib.hid hA
  replace hZ := Lib.hid hZ
  have hasc := Lib.hid ha
  replace hml := Lib.hid hml
  replace hL := Lib.hid hL
  clear ha hbx m1 hc
  go_enter Tryz.func97, Tryz.ntmps97
  go_wp2_with fail
  rw [← hW1]
  replace hW1 := Lib.hid hW1
  go_loopg [9, 10] ms.length (fun f lv hv wr => ∃ lo hi : Nat, lv = .int .i64 lo ∧ hv = .int .i64 hi ∧ lo ≤ hi ∧ hi ≤ ms.length ∧ hi - lo ≤ f ∧ Below W1.heap.size W1 wr ∧ Hid ((∀ t, t < lo → cmpL (L.getD t []) R < 0) ∧ (∀ t, hi ≤ t → t < L.length → 0 ≤ cmpL (L.getD t []) R)))
  case atStart => exact ⟨0, ms.length, rfl, rfl, Nat.zero_le _, Nat.le_refl _, by omega, Below.refl _ _, ⟨fun t ht => absurd ht (Nat.not_lt_zero _), fun t h1 h2 => absurd h2 (by rw [hml.out]; omega)⟩⟩
  case round =>
    obtain ⟨lo, hi, rfl, rfl, hlh, hin, hf, hbr, hI⟩ := hrel
    by_cases hlt : lo < hi
    · have hlti : (lo : Int) < (hi : Int) := by omega
      have hk : (lo + hi) / 2 < ms.length := by omega
      obtain rfl := hae (by omega)
      obtain ⟨hm8, hmc⟩ := hcm.out wr hbr _ hk
      have hmR := hmg.out _ hk
      obtain ⟨m, hm⟩ : ∃ m, ms.getD ((lo + hi) / 2) [] = m := ⟨_, rfl⟩
      rw [hm] at hm8 hmc hmR
      obtain ⟨m0, m1, m2, m3, m4, m5, m6, m7, rfl⟩ := eight hm8
      have hmR : L.getD ((lo + hi) / 2) [] = [m0, m1, m2, m3, m4, m5, m6] := hmR
      have hrc := hbw.out wr hbr
      have hf := Lib.hid (fun wq (hC : Below wr.heap.size wr wq) => And.intro (hmc.keep hC).all8 (hrc.keep hC).all7)
      have HC := Lib.hid (fun W => cmpMv m0 m1 m2 m3 m4 m5 m6 m7 r0 r1 r2 r3 r4 r5 r6 W)
      rw [hR] at HC
      rw [← hmR] at HC
      obtain ⟨z, hz⟩ : ∃ z, cmpL (L.getD ((lo + hi) / 2) []) R = z := ⟨_, rfl⟩
      rw [hz] at HC
      have hk0 : (0 : Int) ≤ ((lo : Int) + (hi : Int)) / 2 := by omega
      have hk1 : ((lo : Int) + (hi : Int)) / 2 < (ms.length : Int) := by omega
      have hkn : (((lo : Int) + (hi : Int)) / 2).toNat = (lo + hi) / 2 := by omega
      replace hm := Lib.hid hm
      replace hmR := Lib.hid hmR
      replace hz := Lib.hid hz
      replace hR := Lib.hid hR
      clear hmc hrc hm8
      by_cases hz0 : z < 0
      · go_wp2_with fail
        refine wp_region_bw hmx (by kernel_rfl) ?_
        repeat (refine WQ.step (fun K hK => ?_)
                go_simp
                first
                  | (refine hK _ ?_; clear hK K)
                  | (apply Exists.intro
                     refine ⟨fun wq hC => ?_, hK _ ?_⟩
                     · (first | with_reducible rfl | (obtain ⟨⟨f0, f1, f2, f3, f4, f5, f6, f7⟩, d0, d1, d2, d3, d4, d5, d6⟩ := hf.out wq hC; simp only [Nat.zero_add] at d0 d1 d2 d3 d4 d5 d6; go_simp; first | done | with_reducible rfl | with_reducible exact ⟨rfl, rfl⟩))
                     clear hK K))
        (refine WQ.step (fun K hK => ?_)
         go_simp
         first
           | (refine hK _ ?_; clear hK K)
           | (apply Exists.intro
              refine ⟨fun wq hC => ?_, hK _ ?_⟩
              · (refine (HC.out wq).mono ?_; rintro e w' ⟨rfl, hb⟩; exact ⟨rfl, bt hC hb hC.size⟩)
              clear hK K))
        repeat (refine WQ.step (fun K hK => ?_)
                go_simp
                first
                  | (refine hK _ ?_; clear hK K)
                  | (apply Exists.intro
                     refine ⟨fun wq hC => ?_, hK _ ?_⟩
                     · (first | with_reducible rfl | (go_simp; first | done | with_reducible rfl | with_reducible exact ⟨rfl, rfl⟩))
                     clear hK K))
        refine WQ.nil ?_
        intro w4 hb4
        have hbf := hbr.trans (hb4.mono hbr.size)
        have hI2 : Hid ((∀ t, t < (lo + hi) / 2 + 1 → cmpL (L.getD t []) R < 0) ∧ (∀ t, hi ≤ t → t < L.length → 0 ≤ cmpL (L.getD t []) R)) := ⟨fun t ht => by
          rcases Nat.eq_or_lt_of_le (Nat.le_of_lt_succ ht) with h | h
          · rw [h, hz.out]; exact hz0
          · exact cmpL_trans _ _ _ (asc_lt hasc.out h (by rw [hml.out]; exact hk)) (by rw [hz.out]; exact hz0), hI.out.2⟩
        go_wp2_with fail
        go_roundg (hi - ((lo + hi) / 2 + 1))
        case measure => omega
        case rel => exact ⟨(lo + hi) / 2 + 1, hi, by rw [show ((lo : Int) + (hi : Int)) / 2 + 1 = (((lo + hi) / 2 + 1 : Nat) : Int) by omega], rfl, by omega, hin, Nat.le_refl _, hbf, hI2⟩
      · have hz1 : 0 ≤ z := by omega
        clear hz0
        go_wp2_with fail
        refine wp_region_bw hmx (by kernel_rfl) ?_
        repeat (refine WQ.step (fun K hK => ?_)
                go_simp
                first
                  | (refine hK _ ?_; clear hK K)
                  | (apply Exists.intro
                     refine ⟨fun wq hC => ?_, hK _ ?_⟩
                     · (first | with_reducible rfl | (obtain ⟨⟨f0, f1, f2, f3, f4, f5, f6, f7⟩, d0, d1, d2, d3, d4, d5, d6⟩ := hf.out wq hC; simp only [Nat.zero_add] at d0 d1 d2 d3 d4 d5 d6; go_simp; first | done | with_reducible rfl | with_reducible exact ⟨rfl, rfl⟩))
                     clear hK K))
        (refine WQ.step (fun K hK => ?_)
         go_simp
         first
           | (refine hK _ ?_; clear hK K)
           | (apply Exists.intro
              refine ⟨fun wq hC => ?_, hK _ ?_⟩
              · (refine (HC.out wq).mono ?_; rintro e w' ⟨rfl, hb⟩; exact ⟨rfl, bt hC hb hC.size⟩)
              clear hK K))
        repeat (refine WQ.step (fun K hK => ?_)
                go_simp
                first
                  | (refine hK _ ?_; clear hK K)
                  | (apply Exists.intro
                     refine ⟨fun wq hC => ?_, hK _ ?_⟩
                     · (first | with_reducible rfl | (go_simp; first | done | with_reducible rfl | with_reducible exact ⟨rfl, rfl⟩))
                     clear hK K))
        refine WQ.nil ?_
        intro w4 hb4
        have hbf := hbr.trans (hb4.mono hbr.size)
        have hI2 : Hid ((∀ t, t < lo → cmpL (L.getD t []) R < 0) ∧ (∀ t, (lo + hi) / 2 ≤ t → t < L.length → 0 ≤ cmpL (L.getD t []) R)) := ⟨hI.out.1, fun t ht htn => by
          rcases Nat.eq_or_lt_of_le ht with h | h
          · rw [← h, hz.out]; exact hz1
          · rcases Int.lt_or_le (cmpL (L.getD t []) R) 0 with hc | hc
            · have h2 := cmpL_trans _ _ _ (asc_lt hasc.out h htn) hc
              rw [hz.out] at h2; omega
            · exact hc⟩
        go_wp2_with fail
        go_roundg ((lo + hi) / 2 - lo)
        case measure => omega
        case rel => exact ⟨lo, (lo + hi) / 2, rfl, by rw [show ((lo : Int) + (hi : Int)) / 2 = (((lo + hi) / 2 : Nat) : Int) by omega], by omega, by omega, Nat.le_refl _, hbf, hI2⟩
    · obtain rfl : lo = hi := by omega
      have hge : ¬ ((lo : Int) < (lo : Int)) := by omega
      have ha1 := ahead_at (l := L) (r := R) (i := lo) (by rw [hml.out]; exact hin) hI.out.1 hI.out.2
      have hm1 := mem_ahead hasc.out (by rw [hml.out]; exact hin) hI.out.1 hI.out.2
      rw [hml.out] at hm1
      by_cases hn : lo < ms.length
      · have hni : decide ((lo : Int) < (ms.length : Int)) = true := decide_eq_true (by omega)
        have hnn : decide (lo < ms.length) = true := decide_eq_true hn
        obtain rfl := hae (by omega)
        obtain ⟨hm8, hmc⟩ := hcm.out wr hbr _ hn
        have hmR := hmg.out _ hn
        obtain ⟨m, hm⟩ : ∃ m, ms.getD lo [] = m := ⟨_, rfl⟩
        rw [hm] at hm8 hmc hmR
        obtain ⟨m0, m1, m2, m3, m4, m5, m6, m7, rfl⟩ := eight hm8
        have hmR : L.getD lo [] = [m0, m1, m2, m3, m4, m5, m6] := hmR
        have hrc := hbw.out wr hbr
        have hf := Lib.hid (fun wq (hC : Below wr.heap.size wr wq) => And.intro (hmc.keep hC).all8 (hrc.keep hC).all7)
        have HC := Lib.hid (fun W => cmpMv m0 m1 m2 m3 m4 m5 m6 m7 r0 r1 r2 r3 r4 r5 r6 W)
        rw [hR] at HC
        rw [← hmR] at HC
        have hdm : decide (R ∈ L) = (cmpL (L.getD lo []) R == 0) := by
          rw [Bool.eq_iff_iff, decide_eq_true_eq, beq_iff_eq, hm1, cmpL_zero]
          exact ⟨fun h => h.2, fun h => ⟨hn, h⟩⟩
        obtain ⟨z, hz⟩ : ∃ z, cmpL (L.getD lo []) R = z := ⟨_, rfl⟩
        rw [hz] at HC hdm
        have hlo1 : (lo : Int) < (ms.length : Int) := by omega
        obtain rfl : A = lo := by rw [← hA.out, ha1]
        have hzz : (z == 0) = Z := by rw [← hdm, hZ.out]
        replace hdm := Lib.hid hdm
        replace hm := Lib.hid hm
        replace hmR := Lib.hid hmR
        replace hz := Lib.hid hz
        replace hR := Lib.hid hR
        clear hmc hrc hm8 hm1 ha1
        go_wp2_with fail
        refine wp_region_bw hmx (by kernel_rfl) ?_
        repeat (refine WQ.step (fun K hK => ?_)
                go_simp
                first
                  | (refine hK _ ?_; clear hK K)
                  | (apply Exists.intro
                     refine ⟨fun wq hC => ?_, hK _ ?_⟩
                     · (first | with_reducible rfl | (obtain ⟨⟨f0, f1, f2, f3, f4, f5, f6, f7⟩, d0, d1, d2, d3, d4, d5, d6⟩ := hf.out wq hC; simp only [Nat.zero_add] at d0 d1 d2 d3 d4 d5 d6; go_simp; first | done | with_reducible rfl | with_reducible exact ⟨rfl, rfl⟩))
                     clear hK K))
        (refine WQ.step (fun K hK => ?_)
         go_simp
         first
           | (refine hK _ ?_; clear hK K)
           | (apply Exists.intro
              refine ⟨fun wq hC => ?_, hK _ ?_⟩
              · (refine (HC.out wq).mono ?_; rintro e w' ⟨rfl, hb⟩; exact ⟨rfl, bt hC hb hC.size⟩)
              clear hK K))
        repeat (refine WQ.step (fun K hK => ?_)
                go_simp
                first
                  | (refine hK _ ?_; clear hK K)
                  | (apply Exists.intro
                     refine ⟨fun wq hC => ?_, hK _ ?_⟩
                     · (first | with_reducible rfl | (go_simp; first | done | with_reducible rfl | with_reducible exact ⟨rfl, rfl⟩))
                     clear hK K))
        refine WQ.nil ?_
        intro w4 hb4
        have hbf := bt hb1 (hbr.trans (hb4.mono hbr.size)) hb1.size
        go_wp2_with fail
        go_ret2
        exact ⟨rfl, hbf⟩
      · have hni : decide ((lo : Int) < (ms.length : Int)) = false := decide_eq_false (by omega)
        have hnn : decide (lo < ms.length) = false := decide_eq_false hn
        obtain rfl : A = lo := by rw [← hA.out, ha1]
        obtain rfl : Z = false := by rw [← hZ.out]; exact decide_eq_false fun h => hn (hm1.1 h).1
        clear hm1 ha1 hA hZ
        go_wp2_with fail
        refine wp_region_bw hmx (by kernel_rfl) ?_
        repeat (refine WQ.step (fun K hK => ?_)
                go_simp
                first
                  | (refine hK _ ?_; clear hK K)
                  | (apply Exists.intro
                     refine ⟨fun wq hC => ?_, hK _ ?_⟩
                     · (first | with_reducible rfl | (go_simp; first | done | with_reducible rfl | with_reducible exact ⟨rfl, rfl⟩))
                     clear hK K))
        refine WQ.nil ?_
        intro w4 hb4
        have hbf := bt hb1 (hbr.trans (hb4.mono hbr.size)) hb1.size
        go_wp2_with fail
        go_ret2
        exact ⟨rfl, hbf⟩
end Go.Proofs.YtiiiegflobihjaaGreat

/- combine: target, check; the reference: moves, step, find, has, both. -/
namespace Go.Proofs.YtiiiegflobihjaaGreat
open Go.RowKit

theorem ahead_mem {ms : List (List Int)} (ha : AscL (ms.map rdOf)) {r : List Int} (h : r ∈ ms.map rdOf) : ahead (ms.map rdOf) r < ms.length ∧ toI r ms = (ms.getD (ahead (ms.map rdOf) r) []).getD 7 0 := by
  obtain ⟨i, hi, he⟩ := List.mem_iff_getElem.1 h
  have hil : i < ms.length := by simpa using hi
  have hai : ahead (ms.map rdOf) r = i := by
    refine ahead_at (by omega) (fun t ht => ?_) (fun t ht htn => ?_)
    · have := asc_lt ha ht hi
      rwa [getD_eq hi, he] at this
    · rcases Nat.eq_or_lt_of_le ht with h1 | h1
      · rw [← h1, getD_eq hi, he, cmpL_zero.2 rfl]; exact Int.le_refl _
      · have := asc_lt ha h1 htn
        rw [getD_eq hi, he] at this
        have h2 := cmpL_asymm _ _ this
        omega
  rw [hai]
  refine ⟨hil, ?_⟩
  rw [getD_eq hil]
  exact toI_at (asc_nodup' ha) hil (by rw [List.getElem_map] at he; exact he)

set_option maxRecDepth 100000 in
set_option maxHeartbeats 1600000 in
theorem targetA {w : World} {v : Value} {n : Int} {ss : List (List (List Int))} (hA : AdvV w v n ss) (hasc : ∀ s ∈ ss, AscL (s.map rdOf)) (hml : ∀ s ∈ ss, s.length ≤ 1000000) {s : Int} (hs : -1 ≤ s ∧ s < (ss.length : Int)) (r0 r1 r2 r3 r4 r5 r6 : Int) :
    Calls Tryz.prog 68 #[v, .int .i64 s, .agg #[.int .i64 r0, .int .i64 r1, .int .i64 r2, .int .i64 r3, .int .i64 r4, .int .i64 r5, .int .i64 r6]] w
      fun e w' => e = .returned (.int .i64 (ndT ss s [r0, r1, r2, r3, r4, r5, r6])) ∧ Below w.heap.size w w' := by
  have hmx : Tryz.prog.follows .mixedOrders = true := by kernel_rfl
  have hA' := hA
  obtain ⟨sv, rfl, sa, sc, sb, so, rfl, hsa, hsc, _⟩ := hA'
  obtain ⟨R, hR⟩ : ∃ R, [r0, r1, r2, r3, r4, r5, r6] = R := ⟨_, rfl⟩
  rw [hR]
  obtain ⟨W1, hW1⟩ : ∃ W1, W1 = (w.alloc (.cells #[.int .i64 n, .slice sa ss.length sc] 24)).alloc (.cells #[.int .i64 r0, .int .i64 r1, .int .i64 r2, .int .i64 r3, .int .i64 r4, .int .i64 r5, .int .i64 r6] 51) := ⟨_, rfl⟩
  have hb1 : Below w.heap.size w W1 := by rw [hW1]; exact ((Below.refl _ w).alloc (Nat.le_refl _) _).alloc (by simp) _
  by_cases h0 : s < 0
  · have hz : ndT ss s R = -1 := by rw [ndT, if_pos h0]
    rw [hz]
    go_enter Tryz.func68, Tryz.ntmps68
    go_wp2_with fail
    rw [← hW1]
    go_ret
    exact ⟨rfl, hb1⟩
  · obtain ⟨k, rfl⟩ : ∃ k : Nat, s = (k : Int) := ⟨s.toNat, by omega⟩
    have hk : k < ss.length := by omega
    have hd0 : decide ((k : Int) < 0) = false := decide_eq_false h0
    obtain rfl := hsa (by omega)
    obtain ⟨u, hu, hks⟩ := hsc k hk
    have hz : ndT ss (k : Int) R = toI R (ss.getD k []) := by rw [ndT, if_neg h0]; rfl
    have hmem : ss.getD k [] ∈ ss := by rw [getD_eq hk]; exact List.getElem_mem hk
    have ha := hasc _ hmem
    have hl := hml _ hmem
    obtain ⟨ms, hms⟩ : ∃ ms, ss.getD k [] = ms := ⟨_, rfl⟩
    rw [hms] at hks hz ha hl
    rw [hz]
    have hk1 := hks.keep hb1
    have hc := cell_kept hb1 hu
    have k1 : W1.heap[w.heap.size]? = some (.cells #[.int .i64 n, .slice (some ⟨sb, so, none⟩) ss.length sc] 24) := by rw [hW1]; exact (Below.heap_alloc _ _ _ (by simp)).trans (heap_alloc_new w _)
    have k2 : W1.heap[w.heap.size + 1]? = some (.cells #[.int .i64 r0, .int .i64 r1, .int .i64 r2, .int .i64 r3, .int .i64 r4, .int .i64 r5, .int .i64 r6] 51) := by
      rw [hW1]
      have := heap_alloc_new (w.alloc (.cells #[.int .i64 n, .slice (some ⟨sb, so, none⟩) ss.length sc] 24)) (.cells #[.int .i64 r0, .int .i64 r1, .int .i64 r2, .int .i64 r3, .int .i64 r4, .int .i64 r5, .int .i64 r6] 51)
      rwa [World.size_alloc] at this
    have hp := box_cell (j := 1) k1 rfl
    have hr := box7CI k2
    have hf := Lib.hid (fun wq (hC : Below W1.heap.size W1 wq) => And.intro (cell_kept hC hp) (And.intro (cell_kept hC hc) (hr.keep hC).all7))
    have HB := Lib.hid (fun W (hb : Below W1.heap.size W1 W) => bsearch (hk1.keep hb) ha hl r0 r1 r2 r3 r4 r5 r6)
    rw [hR] at HB
    obtain ⟨ua, uc, hus⟩ := hks.shape
    subst hus
    have hki : (k : Int) < (ss.length : Int) := by omega
    by_cases hin : R ∈ ms.map rdOf
    · obtain ⟨hil, hto⟩ := ahead_mem ha hin
      rw [hto]
      have hbb : decide (R ∈ ms.map rdOf) = true := decide_eq_true hin
      rw [hbb] at HB
      obtain ⟨i, hi⟩ : ∃ i, ahead (ms.map rdOf) R = i := ⟨_, rfl⟩
      simp only [hi] at HB hil ⊢
      obtain ⟨_, _, mb, mo, hue, hma, hmc, _⟩ := hk1
      obtain ⟨rfl, rfl⟩ : ua = _ ∧ uc = _ := by injection hue with h1 h2 h3; exact ⟨h1, h3⟩
      obtain rfl := hma (by omega)
      obtain ⟨hm8, hmm⟩ := hmc i hil
      obtain ⟨m, hm⟩ : ∃ m, ms.getD i [] = m := ⟨_, rfl⟩
      rw [hm] at hm8 hmm ⊢
      obtain ⟨m0, m1, m2, m3, m4, m5, m6, m7, rfl⟩ := eight hm8
      have hmw := Lib.hid (fun wq (hC : Below W1.heap.size W1 wq) => (hmm.keep hC).all8)
      have hii : (i : Int) < (ms.length : Int) := by omega
      show Calls _ _ _ _ fun e w' => e = .returned (.int .i64 m7) ∧ _
      clear hsc hks hmc hmm hue hsa hu hp hr hc hA hasc hml hto hin hbb hma k1 k2
      replace hR := Lib.hid hR
      replace hm := Lib.hid hm
      replace hi := Lib.hid hi
      replace hms := Lib.hid hms
      go_enter Tryz.func68, Tryz.ntmps68
      go_wp2_with fail
      rw [← hW1]
      replace hW1 := Lib.hid hW1
      refine wp_region_bw hmx (by kernel_rfl) ?_
      repeat (refine WQ.step (fun K hK => ?_)
              go_simp
              first
                | (refine hK _ ?_; clear hK K)
                | (apply Exists.intro
                   refine ⟨fun wq hC => ?_, hK _ ?_⟩
                   · (first | with_reducible rfl | (obtain ⟨f0, f1, f2, f3, f4, f5, f6, f7, f8⟩ := hf.out wq hC; simp only [Nat.zero_add] at f2 f3 f4 f5 f6 f7 f8; go_simp; first | done | with_reducible rfl | with_reducible exact ⟨rfl, rfl⟩))
                   clear hK K))
      (refine WQ.step (fun K hK => ?_)
       go_simp
       first
         | (refine hK _ ?_; clear hK K)
         | (apply Exists.intro
            refine ⟨fun wq hC => ?_, hK _ ?_⟩
            · (refine (HB.out wq hC).mono ?_; rintro e w' ⟨rfl, hb⟩; exact ⟨rfl, bt hC hb hC.size⟩)
            clear hK K))
      repeat (refine WQ.step (fun K hK => ?_)
              go_simp
              first
                | (refine hK _ ?_; clear hK K)
                | (apply Exists.intro
                   refine ⟨fun wq hC => ?_, hK _ ?_⟩
                   · (first | with_reducible rfl | (go_simp; first | done | with_reducible rfl | with_reducible exact ⟨rfl, rfl⟩))
                   clear hK K))
      refine WQ.nil ?_
      intro w4 hb4
      have hbf := bt hb1 hb4 hb1.size
      obtain ⟨f0, f1, _⟩ := hf.out w4 hb4
      obtain ⟨_, _, _, _, _, _, _, g7⟩ := hmw.out w4 hb4
      go_wp2
      go_ret
      exact ⟨rfl, hbf⟩
    · have hto := toI_none hin
      rw [hto]
      have hbb : decide (R ∈ ms.map rdOf) = false := decide_eq_false hin
      rw [hbb] at HB
      clear hsc hks hsa hu hp hr hc hA hasc hml hto hin hbb k1 k2
      replace hR := Lib.hid hR
      replace hms := Lib.hid hms
      go_enter Tryz.func68, Tryz.ntmps68
      go_wp2_with fail
      rw [← hW1]
      replace hW1 := Lib.hid hW1
      refine wp_region_bw hmx (by kernel_rfl) ?_
      repeat (refine WQ.step (fun K hK => ?_)
              go_simp
              first
                | (refine hK _ ?_; clear hK K)
                | (apply Exists.intro
                   refine ⟨fun wq hC => ?_, hK _ ?_⟩
                   · (first | with_reducible rfl | (obtain ⟨f0, f1, f2, f3, f4, f5, f6, f7, f8⟩ := hf.out wq hC; simp only [Nat.zero_add] at f2 f3 f4 f5 f6 f7 f8; go_simp; first | done | with_reducible rfl | with_reducible exact ⟨rfl, rfl⟩))
                   clear hK K))
      (refine WQ.step (fun K hK => ?_)
       go_simp
       first
         | (refine hK _ ?_; clear hK K)
         | (apply Exists.intro
            refine ⟨fun wq hC => ?_, hK _ ?_⟩
            · (refine (HB.out wq hC).mono ?_; rintro e w' ⟨rfl, hb⟩; exact ⟨rfl, bt hC hb hC.size⟩)
            clear hK K))
      repeat (refine WQ.step (fun K hK => ?_)
              go_simp
              first
                | (refine hK _ ?_; clear hK K)
                | (apply Exists.intro
                   refine ⟨fun wq hC => ?_, hK _ ?_⟩
                   · (first | with_reducible rfl | (go_simp; first | done | with_reducible rfl | with_reducible exact ⟨rfl, rfl⟩))
                   clear hK K))
      refine WQ.nil ?_
      intro w4 hb4
      have hbf := bt hb1 hb4 hb1.size
      go_wp2
      go_ret
      exact ⟨rfl, hbf⟩
end Go.Proofs.YtiiiegflobihjaaGreat

/- slices.Compact at rows of rounds. -/
namespace Go.Proofs.YtiiiegflobihjaaGreat
open Go.RowKit

theorem cmpc_snoc : ∀ {l : List (List Int)} {x y : List Int}, cmpc (l ++ [x] ++ [y]) = if x = y then cmpc (l ++ [x]) else cmpc (l ++ [x]) ++ [y]
  | [], x, y => by
    by_cases h : x = y
    · subst h; simp [cmpc]
    · simp [cmpc, h]
  | [a], x, y => by
    by_cases ha : a = x <;> by_cases h : x = y <;> simp [cmpc, ha, h]
  | a :: b :: l, x, y => by
    have ih := cmpc_snoc (l := b :: l) (x := x) (y := y)
    simp only [List.cons_append] at ih ⊢
    by_cases ha : a = b
    · rw [cmpc, if_pos ha, ih]
      by_cases h : x = y
      · rw [if_pos h, if_pos h, cmpc, if_pos ha]
      · rw [if_neg h, if_neg h, cmpc, if_pos ha]
    · rw [cmpc, if_neg ha, ih]
      by_cases h : x = y
      · rw [if_pos h, if_pos h, cmpc, if_neg ha]
      · rw [if_neg h, if_neg h, cmpc, if_neg ha]; rfl
theorem cmpc_take {xs : List (List Int)} {m : Nat} (h : m + 1 < xs.length) : cmpc (xs.take (m + 2)) = if xs.getD m [] = xs.getD (m + 1) [] then cmpc (xs.take (m + 1)) else cmpc (xs.take (m + 1)) ++ [xs.getD (m + 1) []] := by
  rw [take_snoc h [], take_snoc (show m < xs.length by omega) [], cmpc_snoc]
/-- A store of a whole round. -/
theorem OwX.store7 {w : World} {B g n cap : Nat} {xs : List (List Int)} (h : OwX 51 7 EI w B (.slice (some ⟨g, 0, none⟩) n cap) n xs) {j : Nat} (hj : j < n) (y0 y1 y2 y3 y4 y5 y6 : Int) :
    OwX 51 7 EI (((((((w.setCell ⟨g, j * 7, none⟩ (.int .i64 y0)).setCell ⟨g, j * 7 + 1, none⟩ (.int .i64 y1)).setCell ⟨g, j * 7 + 2, none⟩ (.int .i64 y2)).setCell ⟨g, j * 7 + 3, none⟩ (.int .i64 y3)).setCell ⟨g, j * 7 + 4, none⟩ (.int .i64 y4)).setCell ⟨g, j * 7 + 5, none⟩ (.int .i64 y5)).setCell ⟨g, j * 7 + 6, none⟩ (.int .i64 y6)) B (.slice (some ⟨g, 0, none⟩) n cap) n (xs.set j [y0, y1, y2, y3, y4, y5, y6]) := by
  have hl := h.length
  obtain ⟨h7, _⟩ := h.intCells hj
  have h0 := (h.storeI hj (i := 0) (by decide) y0).1
  have h1 := (h0.storeI hj (i := 1) (by decide) y1).1
  have h2 := (h1.storeI hj (i := 2) (by decide) y2).1
  have h3 := (h2.storeI hj (i := 3) (by decide) y3).1
  have h4 := (h3.storeI hj (i := 4) (by decide) y4).1
  have h5 := (h4.storeI hj (i := 5) (by decide) y5).1
  have h6 := (h5.storeI hj (i := 6) (by decide) y6).1
  have hg : ∀ (a : List Int), (xs.set j a).getD j [] = a := fun a => by
    rw [List.getD_eq_getElem?_getD, List.getElem?_set_self (by omega)]; rfl
  simp only [hg, List.set_set] at h6
  obtain ⟨a, b, c, d, e, f, i, hx⟩ := seven h7
  rw [hx] at h6
  exact h6
theorem below7 {w w' : World} {B g : Nat} {a b c d e f i : Nat} {va vb vc vd ve vf vi : Value} (h : Below B w w') (hg : B ≤ g) :
    Below B w (((((((w'.setCell ⟨g, a, none⟩ va).setCell ⟨g, b, none⟩ vb).setCell ⟨g, c, none⟩ vc).setCell ⟨g, d, none⟩ vd).setCell ⟨g, e, none⟩ ve).setCell ⟨g, f, none⟩ vf).setCell ⟨g, i, none⟩ vi) := by
  have h1 := h.setCell (p := ⟨g, a, none⟩) hg va
  have h2 := h1.setCell (p := ⟨g, b, none⟩) hg vb
  have h3 := h2.setCell (p := ⟨g, c, none⟩) hg vc
  have h4 := h3.setCell (p := ⟨g, d, none⟩) hg vd
  have h5 := h4.setCell (p := ⟨g, e, none⟩) hg ve
  have h6 := h5.setCell (p := ⟨g, f, none⟩) hg vf
  exact h6.setCell (p := ⟨g, i, none⟩) hg vi
theorem OwX.keep7 {w : World} {B g n cap : Nat} {xs : List (List Int)} (h : OwX 51 7 EI w B (.slice (some ⟨g, 0, none⟩) n cap) n xs) (j : Nat) (y0 y1 y2 y3 y4 y5 y6 : Int) :
    KeepX 51 w (((((((w.setCell ⟨g, j * 7, none⟩ (.int .i64 y0)).setCell ⟨g, j * 7 + 1, none⟩ (.int .i64 y1)).setCell ⟨g, j * 7 + 2, none⟩ (.int .i64 y2)).setCell ⟨g, j * 7 + 3, none⟩ (.int .i64 y3)).setCell ⟨g, j * 7 + 4, none⟩ (.int .i64 y4)).setCell ⟨g, j * 7 + 5, none⟩ (.int .i64 y5)).setCell ⟨g, j * 7 + 6, none⟩ (.int .i64 y6)) := by
  obtain ⟨_, h1, _⟩ := h
  obtain ⟨cs', g0⟩ := ownsRow_ty h1 g rfl
  have k0 := KeepX.setCell (p := ⟨g, j * 7, none⟩) g0 (.int .i64 y0)
  have g1 := heap_setCell_same _ g (j * 7) _ _ (.int .i64 y0) g0
  have k1 := KeepX.setCell (p := ⟨g, j * 7 + 1, none⟩) g1 (.int .i64 y1)
  have g2 := heap_setCell_same _ g (j * 7 + 1) _ _ (.int .i64 y1) g1
  have k2 := KeepX.setCell (p := ⟨g, j * 7 + 2, none⟩) g2 (.int .i64 y2)
  have g3 := heap_setCell_same _ g (j * 7 + 2) _ _ (.int .i64 y2) g2
  have k3 := KeepX.setCell (p := ⟨g, j * 7 + 3, none⟩) g3 (.int .i64 y3)
  have g4 := heap_setCell_same _ g (j * 7 + 3) _ _ (.int .i64 y3) g3
  have k4 := KeepX.setCell (p := ⟨g, j * 7 + 4, none⟩) g4 (.int .i64 y4)
  have g5 := heap_setCell_same _ g (j * 7 + 4) _ _ (.int .i64 y4) g4
  have k5 := KeepX.setCell (p := ⟨g, j * 7 + 5, none⟩) g5 (.int .i64 y5)
  have g6 := heap_setCell_same _ g (j * 7 + 5) _ _ (.int .i64 y5) g5
  have k6 := KeepX.setCell (p := ⟨g, j * 7 + 6, none⟩) g6 (.int .i64 y6)
  exact (((((k0.trans k1).trans k2).trans k3).trans k4).trans k5).trans k6
theorem heap_setCell_other {w : World} {p : Addr} {v : Value} {k : Nat} (h : k ≠ p.block) : (w.setCell p v).heap[k]? = w.heap[k]? := Below.heap_setCell w p v k h
theorem setCells_row {b : Nat} {E : TypeId} : ∀ (vs : List Value) (o : Nat) (w : World) (cur : Array Value), w.heap[b]? = some (.cells cur E) →
    ∃ cur', (w.setCells b o vs).heap[b]? = some (.cells cur' E) ∧ cur'.size = cur.size ∧ cur'.toList.take o = cur.toList.take o ∧ (∀ k, k ≠ b → (w.setCells b o vs).heap[k]? = w.heap[k]?) ∧
      (w.setCells b o vs).heap.size = w.heap.size ∧ (w.setCells b o vs).os = w.os ∧ (w.setCells b o vs).tape = w.tape ∧ (w.setCells b o vs).output = w.output
  | [], o, w, cur, h => ⟨cur, h, rfl, rfl, fun _ _ => rfl, rfl, rfl, rfl, rfl⟩
  | v :: vs, o, w, cur, h => by
    have h1 := heap_setCell_same w b o cur E v h
    obtain ⟨cur', k1, k2, k3, k4, k5, k6, k7, k8⟩ := setCells_row vs (o + 1) (w.setCell ⟨b, o, none⟩ v) _ h1
    refine ⟨cur', k1, by rw [k2]; simp, ?_, fun k hk => (k4 k hk).trans (heap_setCell_other hk), k5.trans (by simp [World.setCell]), k6, k7, k8⟩
    have := congrArg (List.take o) k3
    rw [List.take_take, List.take_take, Nat.min_eq_left (Nat.le_succ o)] at this
    rw [this, Array.toList_setIfInBounds, List.take_set, List.set_eq_of_length_le (by rw [List.length_take]; exact Nat.min_le_left _ _)]
/-- The head of a row, when its tail is set to something else. -/
theorem OwX.setTail {w : World} {B g n cap m : Nat} {xs : List (List Int)} (h : OwX 51 7 EI w B (.slice (some ⟨g, 0, none⟩) n cap) n xs) (hm : m ≤ n) (vs : List Value) :
    OwX 51 7 EI (w.setCells g (m * 7) vs) B (.slice (some ⟨g, 0, none⟩) m cap) m (xs.take m) ∧ Below B w (w.setCells g (m * 7) vs) ∧ KeepX 51 w (w.setCells g (m * 7) vs) := by
  have hl := h.length
  obtain ⟨ws, h1, h2, h3, h4⟩ := h
  rcases h1.2 with ⟨h0, _⟩ | ⟨g', cap', cur, he, hB, hg, hc1, hc2, hc3, hc4⟩
  · cases h0
  · injection he with he1 he2 he3
    injection he1 with he1
    injection he1 with he1
    subst he1 he3
    obtain ⟨cur', k1, k2, k3, k4, k5, k6, k7, k8⟩ := setCells_row vs (m * 7) w cur hg
    have hmn : m * 7 ≤ n * 7 := Nat.mul_le_mul_right _ hm
    have hwl : ws.length = n * 7 := h1.1
    have hws : cur'.toList.take (m * 7) = ws.take (m * 7) := by
      rw [k3, ← hc4, List.take_take, Nat.min_eq_left hmn]
    refine ⟨⟨ws.take (m * 7), ⟨by rw [List.length_take]; omega, .inr ⟨g, cap, cur', rfl, hB, k1, by omega, hc2, by rw [k2]; exact hc3, hws⟩⟩, by rw [List.length_take]; omega, fun u hu => h3 u (List.mem_of_mem_take hu), fun j x hj => ?_⟩, ⟨k6, k7, k8, by rw [k5]; exact Nat.le_refl _, fun k hk => k4 k (by omega)⟩, fun k cs t hk ht => k4 k fun e => ?_⟩
    · rw [List.getElem?_take] at hj
      split at hj
      · rename_i hjm
        have := h4 j x hj
        have hjm7 : j * 7 + 7 ≤ m * 7 := by rw [← Nat.succ_mul]; exact Nat.mul_le_mul_right _ hjm
        show _ = _
        rw [List.drop_take, List.take_take, Nat.min_eq_left (by omega)]
        exact this
      · cases hj
    · subst e
      rw [hg] at hk
      injection hk with hk
      injection hk with _ hk
      exact ht hk.symm
theorem run_clear_rds (w : World) (ty : TypeId) (b o m c : Nat) (hm : 0 < m) (hc : ∀ j, j < m * 7 → (w.cell? ⟨b, o + j, none⟩).isSome = true) (hf : ∀ j, j < m * 7 → w.frozen? ⟨b, o + j, none⟩ = false) :
    (Builtin.clear_ #[44] ty #[.slice (some ⟨b, o, none⟩) m c]).run Tryz.prog w = .ok (.tuple #[]) (w.setCells b o (Builtin.zeroCells (Value.agg #[.int .i64 0, .int .i64 0, .int .i64 0, .int .i64 0, .int .i64 0, .int .i64 0, .int .i64 0]).cells m).toList) := by
  have hzv : ∀ w, (zeroValue 51).run Tryz.prog w = .ok (Value.agg #[.int .i64 0, .int .i64 0, .int .i64 0, .int .i64 0, .int .i64 0, .int .i64 0, .int .i64 0]) w := fun w => by kernel_rfl
  have hcl : (Value.agg #[.int .i64 0, .int .i64 0, .int .i64 0, .int .i64 0, .int .i64 0, .int .i64 0, .int .i64 0]).cells = #[.int .i64 0, .int .i64 0, .int .i64 0, .int .i64 0, .int .i64 0, .int .i64 0, .int .i64 0] := by rfl
  have hsz : (Builtin.zeroCells (Value.agg #[.int .i64 0, .int .i64 0, .int .i64 0, .int .i64 0, .int .i64 0, .int .i64 0, .int .i64 0]).cells m).toList.length = m * 7 := by
    rw [Array.length_toList, size_zeroCells, hcl]; rfl
  have hone : ∀ v ∈ (Builtin.zeroCells (Value.agg #[.int .i64 0, .int .i64 0, .int .i64 0, .int .i64 0, .int .i64 0, .int .i64 0, .int .i64 0]).cells m).toList, v.oneCell' = true := by
    intro v hv
    rw [hcl] at hv
    simp only [Builtin.zeroCells, Array.toList_map, List.mem_map] at hv
    obtain ⟨i, _, rfl⟩ := hv
    have hi : i % 7 < 7 := Nat.mod_lt _ (by decide)
    have : ∀ k, k < 7 → ((#[.int .i64 0, .int .i64 0, .int .i64 0, .int .i64 0, .int .i64 0, .int .i64 0, .int .i64 0] : Array Value)[k]!).oneCell' = true := by
      intro k hk
      match k, hk with
      | 0, _ => rfl
      | 1, _ => rfl
      | 2, _ => rfl
      | 3, _ => rfl
      | 4, _ => rfl
      | 5, _ => rfl
      | 6, _ => rfl
    exact this _ hi
  have hst := run_storeCells_cells (P := Tryz.prog) b o _ 0 w (by rw [hsz]; simpa using hc) (by rw [hsz]; simpa using hf) hone
  simp only [Nat.add_zero] at hst
  obtain ⟨k, rfl⟩ : ∃ k, m = k + 1 := ⟨m - 1, by omega⟩
  simp [Builtin.clear_, run_underlying elemRd.1, hzv, hst]

/-- A step of the second loop. -/
theorem compact_put {xs cs : List (List Int)} {m kk : Nat} {x : List Int} (hcl : cs.length = xs.length) (hk : kk < m) (hm : m < xs.length) (h1 : cs.take kk = cmpc (xs.take m)) (h2 : ∀ j, kk ≤ j → cs.getD j [] = xs.getD j []) (hx : xs.getD m [] = x) (hne : ¬ xs.getD (m - 1) [] = x) :
    (cs.set kk x).take (kk + 1) = cmpc (xs.take (m + 1)) ∧ ∀ j, kk + 1 ≤ j → (cs.set kk x).getD j [] = xs.getD j [] := by
  obtain ⟨p, rfl⟩ : ∃ p, m = p + 1 := ⟨m - 1, by omega⟩
  refine ⟨?_, fun j hj => ?_⟩
  · rw [cmpc_take hm, if_neg (by rw [hx]; exact hne), ← h1, hx, List.take_set, take_snoc (show kk < cs.length by omega) [], List.set_append_right _ _ (by rw [List.length_take]; exact Nat.min_le_left _ _), List.length_take, Nat.min_eq_left (by omega), Nat.sub_self]; rfl
  · rw [List.getD_eq_getElem?_getD, List.getElem?_set_ne (by omega), ← List.getD_eq_getElem?_getD]; exact h2 j (by omega)
set_option maxRecDepth 100000 in
set_option maxHeartbeats 3200000 in
theorem compactRd {w : World} {B g n cap : Nat} {xs : List (List Int)} (h : OwX 51 7 EI w B (.slice (some ⟨g, 0, none⟩) n cap) n xs) (hn : n ≤ 1000) :
    Calls Tryz.prog 95 #[.slice (some ⟨g, 0, none⟩) n cap] w fun e w' => ∃ m, e = .returned (.slice (some ⟨g, 0, none⟩) m cap) ∧ OwX 51 7 EI w' B (.slice (some ⟨g, 0, none⟩) m cap) m (cmpc xs) ∧ Below B w w' ∧ KeepX 51 w w' := by
  have hl := h.length
  have hB : B ≤ g := by
    obtain ⟨_, h1, _⟩ := h
    exact (World.ownsRow.lt h1 g rfl).1
  have hnc : n ≤ cap ∧ (cap : Int) ≤ 9223372036854775807 := by
    obtain ⟨_, h1, _⟩ := h
    rcases h1.2 with ⟨h0, _⟩ | ⟨g', cap', cur, he, _, _, hc1, hc2, _⟩
    · cases h0
    · injection he with _ _ he3
      subst he3
      unfold maxLen at hc2
      exact ⟨hc1, by omega⟩
  obtain ⟨hnc1, hnc2⟩ := hnc
  have hxl : ∀ j, j < n → (xs.getD j []).length = 7 := fun j hj => (h.intCells hj).1
  have hcells := Lib.hid (fun j (hj : j < n) => OwX.intCells h hj)
  have hh := Lib.hid h
  have hlh := Lib.hid hl
  have hxlh := Lib.hid hxl
  clear h hl hxl
  have hfin0 : Hid (∀ q, cmpc (xs.take n) = xs.take n → OwX 51 7 EI (w.drewN q) B (.slice (some ⟨g, 0, none⟩) n cap) n (cmpc xs)) := fun q hq => by
    rw [List.take_of_length_le (by rw [hlh.out]; exact Nat.le_refl _)] at hq
    rw [hq]
    exact hh.out.keep (EI.stab _) (below_drewN (Below.refl _ w) q)
  have hBw : Hid (∀ q, Below B w (w.drewN q) ∧ KeepX 51 w (w.drewN q)) := fun q => ⟨below_drewN (Below.refl _ w) q, KeepX.below (below_drewN (Below.refl _ w) q)⟩
  by_cases h2 : n < 2
  · have hall : Hid (cmpc (xs.take n) = xs.take n) := by
      show _ = _
      have : n = 0 ∨ n = 1 := by omega
      rcases this with rfl | rfl
      · simp [cmpc]
      · match xs, hlh.out with
        | [x], _ => simp [cmpc]
    have hd : decide ((n : Int) < 2) = true := decide_eq_true (by omega)
    go_enter Tryz.func95, Tryz.ntmps95
    go_wp2
    go_ret
    exact ⟨n, rfl, hfin0.out 0 hall.out, (hBw.out 0).1, (hBw.out 0).2⟩
  · have hd : decide ((n : Int) < 2) = false := decide_eq_false (by omega)
    have h1 : Hid (cmpc (xs.take (0 + 1)) = xs.take (0 + 1)) := by
      show _ = _
      match xs, hlh.out with
      | x :: r, _ => simp [cmpc]
      | [], h => simp at h; omega
    go_enter Tryz.func95, Tryz.ntmps95
    go_wp2_with fail
    go_loopg [3] n (fun f kv wr => ∃ p q : Nat, kv = .int .i64 ((p : Int) + 1) ∧ p + 1 ≤ n ∧ n ≤ p + 1 + f ∧ wr = w.drewN q ∧ Hid (cmpc (xs.take (p + 1)) = xs.take (p + 1)))
    case atStart => exact ⟨0, 0, rfl, by omega, by omega, rfl, h1⟩
    case round =>
      clear h1
      obtain ⟨p, q, rfl, hp, hpf, rfl, hc⟩ := hrel
      by_cases hlt : p + 1 < n
      · obtain ⟨f, rfl⟩ : ∃ f, gk = f + 1 := ⟨gk - 1, by omega⟩
        obtain ⟨hx7, hxc⟩ := hcells.out (p + 1) hlt
        obtain ⟨hy7, hyc⟩ := hcells.out p (by omega)
        obtain ⟨x, hx⟩ : ∃ x, xs.getD (p + 1) [] = x := ⟨_, rfl⟩
        obtain ⟨y, hy⟩ : ∃ y, xs.getD p [] = y := ⟨_, rfl⟩
        have htk := cmpc_take (xs := xs) (m := p) (by rw [hlh.out]; exact hlt)
        rw [hx, hy] at htk
        rw [hx] at hx7 hxc
        rw [hy] at hy7 hyc
        obtain ⟨x0, x1, x2, x3, x4, x5, x6, rfl⟩ := seven hx7
        obtain ⟨y0, y1, y2, y3, y4, y5, y6, rfl⟩ := seven hy7
        obtain ⟨c0, c1, c2, c3, c4, c5, c6⟩ := hxc.all7
        obtain ⟨d0, d1, d2, d3, d4, d5, d6⟩ := hyc.all7
        have hix1 : (p : Int) + 1 < (n : Int) := by omega
        have hix0 : (0 : Int) ≤ (p : Int) := by omega
        have hix2 : (0 : Int) ≤ (p : Int) + 1 := by omega
        have hix3 : (p : Int) < (n : Int) := by omega
        have hwr : IntKind.i64.wrap ((p : Int) + 1 - 1) = (p : Int) := by rw [show (p : Int) + 1 - 1 = (p : Int) by omega]; exact IntWalk.i64_in _ (by omega)
        have htn : ((p : Int) + 1).toNat = p + 1 := by omega
        have hty := hy
        have hxt := hx
        clear hxc hyc hx7 hy7 hx hy
        by_cases he : [x0, x1, x2, x3, x4, x5, x6] = [y0, y1, y2, y3, y4, y5, y6]
        · have hE : eqL [x0, x1, x2, x3, x4, x5, x6] [y0, y1, y2, y3, y4, y5, y6] = true := eqL_true.2 he
          rw [if_pos he.symm, hc.out] at htk
          have htk := Lib.hid htk
          replace hty := Lib.hid hty
          clear he hc hxt
          go_wp2_with fail
          go_quiet (fail)
          go_wp2_with fail
          obtain ⟨N2, hN2⟩ : ∃ N2, n - (p + 1) = N2 := ⟨_, rfl⟩
          obtain ⟨C2, hC2⟩ : ∃ C2, cap - (p + 1) = C2 := ⟨_, rfl⟩
          rw [hN2, hC2]
          have hnN : n = p + 1 + N2 := by omega
          replace hC2 := Lib.hid hC2
          replace hN2 := Lib.hid hN2
          have hnNh := Lib.hid hnN
          have hN2i : (1 : Int) ≤ (N2 : Int) := by omega
          have hs0 : Hid (xs.take (p + 1) = cmpc (xs.take (p + 1 + (0 + 1)))) := htk.out.symm
          have hO0 : OwX 51 7 EI (w.drewN (q + nq)) B (.slice (some ⟨g, 0, none⟩) n cap) n xs := hh.out
          have hb0 : Below B w (w.drewN (q + nq)) := below_drewN (Below.refl _ w) _
          have hk0 : KeepX 51 w (w.drewN (q + nq)) := KeepX.below (below_drewN (Below.refl _ w) _)
          have hk0h := Lib.hid hk0
          have hsame : Hid (∀ j, p + 1 ≤ j → xs.getD j [] = xs.getD j []) := fun _ _ => rfl
          clear hnN c0 c1 c2 c3 c4 c5 c6 d0 d1 d2 d3 d4 d5 d6 hE hix1 hix2 htn hwr hk0
          go_loopg [3, 5] N2 (fun f kv rv wr => ∃ (kk r : Nat) (cs : List (List Int)), kv = .int .i64 ((kk : Nat) : Int) ∧ rv = .int .i64 ((r : Int) + 1) ∧ r + 1 ≤ N2 ∧ N2 ≤ r + 1 + f ∧ kk < p + 1 + (r + 1) ∧ OwX 51 7 EI wr B (.slice (some ⟨g, 0, none⟩) n cap) n cs ∧ Hid (cs.take kk = cmpc (xs.take (p + 1 + (r + 1)))) ∧ Hid (∀ j, kk ≤ j → cs.getD j [] = xs.getD j []) ∧ Below B w wr ∧ Hid (KeepX 51 w wr))
          case atStart => exact ⟨p + 1, 0, xs, by go_num, rfl, by omega, by omega, by omega, hO0, hs0, hsame, hb0, hk0h⟩
          case round =>
            clear hO0 hs0 hsame hb0 hk0h
            obtain ⟨kk, r, cs, rfl, rfl, hr, hrf, hkk, hO, htkk, hsm, hbw, hkx⟩ := hrel
            have hcl := hO.length
            have hOh := Lib.hid hO
            have hnn := hnNh.out
            by_cases hltr : r + 1 < N2
            · obtain ⟨f, rfl⟩ : ∃ f, gk = f + 1 := ⟨gk - 1, by omega⟩
              obtain ⟨hx7, hxc⟩ := hO.intCells (j := p + 1 + (r + 1)) (by omega)
              obtain ⟨hy7, hyc⟩ := hO.intCells (j := p + 1 + r) (by omega)
              obtain ⟨hz7, hzc⟩ := hO.intCells (j := kk) (by omega)
              rw [hsm.out _ (by omega)] at hx7 hxc
              rw [hsm.out _ (by omega)] at hy7 hyc
              rw [Nat.add_mul (p + 1) (r + 1)] at hxc
              rw [Nat.add_mul (p + 1) r] at hyc
              obtain ⟨x, hx⟩ : ∃ x, xs.getD (p + 1 + (r + 1)) [] = x := ⟨_, rfl⟩
              obtain ⟨y, hy⟩ : ∃ y, xs.getD (p + 1 + r) [] = y := ⟨_, rfl⟩
              obtain ⟨z, hz⟩ : ∃ z, cs.getD kk [] = z := ⟨_, rfl⟩
              have htt := cmpc_take (xs := xs) (m := p + 1 + r) (by rw [hlh.out]; omega)
              have hput := compact_put (xs := xs) (cs := cs) (m := p + 1 + (r + 1)) (kk := kk) (x := x) (by rw [hcl, hlh.out]) hkk (by rw [hlh.out]; omega) htkk.out hsm.out hx
              rw [show p + 1 + r + 1 = p + 1 + (r + 1) by omega, hx, hy] at htt
              rw [show p + 1 + (r + 1) - 1 = p + 1 + r by omega, hy] at hput
              rw [hx] at hx7 hxc
              rw [hy] at hy7 hyc
              rw [hz] at hz7 hzc
              obtain ⟨x0, x1, x2, x3, x4, x5, x6, rfl⟩ := seven hx7
              obtain ⟨y0, y1, y2, y3, y4, y5, y6, rfl⟩ := seven hy7
              obtain ⟨z0, z1, z2, z3, z4, z5, z6, rfl⟩ := seven hz7
              obtain ⟨c0, c1, c2, c3, c4, c5, c6⟩ := hxc.all7
              obtain ⟨d0, d1, d2, d3, d4, d5, d6⟩ := hyc.all7
              obtain ⟨e0, e1, e2, e3, e4, e5, e6⟩ := hzc.all7
              have hi1 : (r : Int) + 1 < (N2 : Int) := by omega
              have hi2 : (0 : Int) ≤ (r : Int) + 1 := by omega
              have hi3 : (0 : Int) ≤ (r : Int) := by omega
              have hi4 : (r : Int) < (N2 : Int) := by omega
              have hi5 : (kk : Int) < (n : Int) := by omega
              have hN2b : (N2 : Int) ≤ 1000 := by omega
              have hkkb : (kk : Int) ≤ 1000 := by omega
              have htn : ((r : Int) + 1).toNat = r + 1 := by omega
              have hwr : IntKind.i64.wrap ((r : Int) + 1 - 1) = (r : Int) := by rw [show (r : Int) + 1 - 1 = (r : Int) by omega]; exact IntWalk.i64_in _ (by omega)
              have hwr2 : IntKind.i64.wrap (r : Int) = (r : Int) := IntWalk.i64_in _ (by omega)
              clear hxc hyc hzc hx7 hy7 hz7 hx hy hz hO
              by_cases he : [x0, x1, x2, x3, x4, x5, x6] = [y0, y1, y2, y3, y4, y5, y6]
              · have hE : eqL [x0, x1, x2, x3, x4, x5, x6] [y0, y1, y2, y3, y4, y5, y6] = true := eqL_true.2 he
                rw [if_pos he.symm] at htt
                have htt2 : Hid (cs.take kk = cmpc (xs.take (p + 1 + (r + 1 + 1)))) := htkk.out.trans htt.symm
                clear he htt hput
                replace hnn := Lib.hid hnn
                replace hcl := Lib.hid hcl
                go_wp2_with fail
                go_quiet (fail)
                clear hwr hwr2 htn
                go_wp2_with fail
                go_roundg f
                case measure => omega
                case rel => exact ⟨kk, r + 1, cs, rfl, by go_num, by omega, by omega, by omega, hOh.out, htt2, hsm, below_drewN hbw _, hkx.out.trans (KeepX.below (below_drewN (Below.refl _ _) _))⟩
              · have hE : eqL [x0, x1, x2, x3, x4, x5, x6] [y0, y1, y2, y3, y4, y5, y6] = false := eqL_false.2 he
                obtain ⟨hp1, hp2⟩ := hput (fun h => he h.symm)
                have hp1h := Lib.hid hp1
                have hp2h := Lib.hid hp2
                have hst : Hid (∀ d, OwX 51 7 EI ((((((((wr.drewN d).setCell ⟨g, kk * 7, none⟩ (.int .i64 x0)).setCell ⟨g, kk * 7 + 1, none⟩ (.int .i64 x1)).setCell ⟨g, kk * 7 + 2, none⟩ (.int .i64 x2)).setCell ⟨g, kk * 7 + 3, none⟩ (.int .i64 x3)).setCell ⟨g, kk * 7 + 4, none⟩ (.int .i64 x4)).setCell ⟨g, kk * 7 + 5, none⟩ (.int .i64 x5)).setCell ⟨g, kk * 7 + 6, none⟩ (.int .i64 x6)) B (.slice (some ⟨g, 0, none⟩) n cap) n (cs.set kk [x0, x1, x2, x3, x4, x5, x6])) := fun d => OwX.store7 (OwX.keep (EI.stab _) hOh.out (below_drewN (Below.refl _ _) d)) (by omega) x0 x1 x2 x3 x4 x5 x6
                have hst3 : Hid (∀ d, Below B w ((((((((wr.drewN d).setCell ⟨g, kk * 7, none⟩ (.int .i64 x0)).setCell ⟨g, kk * 7 + 1, none⟩ (.int .i64 x1)).setCell ⟨g, kk * 7 + 2, none⟩ (.int .i64 x2)).setCell ⟨g, kk * 7 + 3, none⟩ (.int .i64 x3)).setCell ⟨g, kk * 7 + 4, none⟩ (.int .i64 x4)).setCell ⟨g, kk * 7 + 5, none⟩ (.int .i64 x5)).setCell ⟨g, kk * 7 + 6, none⟩ (.int .i64 x6))) := fun d => below7 (below_drewN hbw d) hB
                have hst2 : Hid (∀ d, KeepX 51 w ((((((((wr.drewN d).setCell ⟨g, kk * 7, none⟩ (.int .i64 x0)).setCell ⟨g, kk * 7 + 1, none⟩ (.int .i64 x1)).setCell ⟨g, kk * 7 + 2, none⟩ (.int .i64 x2)).setCell ⟨g, kk * 7 + 3, none⟩ (.int .i64 x3)).setCell ⟨g, kk * 7 + 4, none⟩ (.int .i64 x4)).setCell ⟨g, kk * 7 + 5, none⟩ (.int .i64 x5)).setCell ⟨g, kk * 7 + 6, none⟩ (.int .i64 x6))) := fun d => (hkx.out.trans (KeepX.below (below_drewN (Below.refl _ _) d))).trans (OwX.keep7 (OwX.keep (EI.stab _) hOh.out (below_drewN (Below.refl _ _) d)) kk x0 x1 x2 x3 x4 x5 x6)
                have hfz : ∀ j, wr.frozen? ⟨g, j, none⟩ = false := fun j => hOh.out.frozen j
                have f0 := hfz (kk * 7)
                have f1 := hfz (kk * 7 + 1)
                have f2 := hfz (kk * 7 + 2)
                have f3 := hfz (kk * 7 + 3)
                have f4 := hfz (kk * 7 + 4)
                have f5 := hfz (kk * 7 + 5)
                have f6 := hfz (kk * 7 + 6)
                clear he htt hput hp1 hp2 hfz
                replace hnn := Lib.hid hnn
                replace hcl := Lib.hid hcl
                go_wp2_with fail
                go_quiet (fail)
                clear hwr hwr2 htn
                go_wp2_with fail
                go_roundg f
                case measure => omega
                case rel => exact ⟨kk + 1, r + 1, cs.set kk [x0, x1, x2, x3, x4, x5, x6], by go_num, by go_num, by omega, by omega, by omega, hst.out _, hp1h, hp2h, hst3.out _, hst2.out _⟩
            · have hrN : r + 1 = N2 := by omega
              have hfz : ∀ j, wr.frozen? ⟨g, j, none⟩ = false := fun j => hO.frozen j
              have hcs : ∀ j, j < (n - kk) * 7 → (wr.cell? ⟨g, kk * 7 + j, none⟩).isSome = true := fun j hj => by
                have hq : kk + j / 7 < n := by
                  have : j / 7 < n - kk := by rw [Nat.div_lt_iff_lt_mul (by decide)]; exact hj
                  omega
                obtain ⟨k7, kc⟩ := hO.intCells hq
                have hm : j % 7 < 7 := Nat.mod_lt _ (by decide)
                have h1 := kc (j % 7) (by rw [k7]; exact hm)
                rw [show (kk + j / 7) * 7 + j % 7 = kk * 7 + j by rw [Nat.add_mul, Nat.add_assoc, Nat.mul_comm (j / 7) 7, Nat.div_add_mod]] at h1
                rw [h1]; rfl
              have hcl7 := fun ty => run_clear_rds wr ty g (kk * 7) (n - kk) (cap - kk) (by omega) hcs (fun j _ => hfz _)
              obtain ⟨Z, hZ⟩ : ∃ Z, (Builtin.zeroCells (Value.agg #[.int .i64 0, .int .i64 0, .int .i64 0, .int .i64 0, .int .i64 0, .int .i64 0, .int .i64 0]).cells (n - kk)).toList = Z := ⟨_, rfl⟩
              simp only [hZ] at hcl7
              obtain ⟨t1, t2, t3⟩ := hO.setTail (m := kk) (by omega) Z
              rw [htkk.out, List.take_of_length_le (by rw [hlh.out]; omega)] at t1
              obtain ⟨W2, hW2⟩ : ∃ W2, wr.setCells g (kk * 7) Z = W2 := ⟨_, rfl⟩
              rw [hW2] at t1 t2 t3
              simp only [hW2] at hcl7
              have hfin := Lib.hid t1
              have hkf := Lib.hid (hkx.out.trans t3)
              have hbf := hbw.trans t2
              have hk1 : (kk : Int) ≤ (n : Int) := by omega
              have hkn : kk < n := by omega
              have hkc : kk < cap := by omega
              have hk2 : (kk : Int) ≤ (cap : Int) := by omega
              have hge : decide ((r : Int) + 1 < (N2 : Int)) = false := decide_eq_false (by omega)
              clear t1 t2 t3 hO hOh hfz hcs hZ hW2 htkk hkx hsm
              replace hnn := Lib.hid hnn
              replace hcl := Lib.hid hcl
              replace hrN := Lib.hid hrN
              go_wp2
              go_ret
              exact ⟨kk, rfl, hfin.out, hbf, hkf.out⟩
        · have hE : eqL [x0, x1, x2, x3, x4, x5, x6] [y0, y1, y2, y3, y4, y5, y6] = false := eqL_false.2 he
          rw [if_neg (fun h => he h.symm), hc.out] at htk
          have htk2 : Hid (cmpc (xs.take (p + 1 + 1)) = xs.take (p + 1 + 1)) := by show _ = _; rw [htk, ← hxt]; exact (take_snoc (by rw [hlh.out]; exact hlt) []).symm
          clear he hc hty htk hxt
          go_wp2_with fail
          go_quiet (fail)
          go_wp2_with fail
          go_roundg f
          case measure => omega
          case rel => exact ⟨p + 1, _, by go_num, by omega, by omega, (by first | exact rfl | exact World.drewN_drewN _ _ _), htk2⟩
      · obtain rfl : n = p + 1 := by omega
        have hfin := Lib.hid (hfin0.out q hc.out)
        obtain ⟨b1, b2⟩ := hBw.out q
        have b2h := Lib.hid b2
        clear hc b2
        go_wp2_with fail
        go_ret
        exact ⟨p + 1, by first | rfl | (congr 2; done), hfin.out, b1, b2h.out⟩
end Go.Proofs.YtiiiegflobihjaaGreat

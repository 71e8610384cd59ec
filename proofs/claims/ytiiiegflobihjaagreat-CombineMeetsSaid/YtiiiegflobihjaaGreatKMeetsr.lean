/- Texts of this claim, put together: CM CN CO. -/
import Derived.Test.YtiiiegflobihjaaGreatKMeetsl
import Derived.Test.YtiiiegflobihjaaGreatKMeetsq

/- The reference: moves, step, has. -/
namespace Go.Proofs.YtiiiegflobihjaaGreat
open Go.RowKit

set_option maxRecDepth 100000 in
set_option maxHeartbeats 800000 in
theorem refMv {w : World} {v : Value} {n : Int} {ss : List (List (List Int))} (hA : AdvV w v n ss) (hp : ∀ s ∈ ss, 0 < s.length) {s : Int} (hs : -1 ≤ s ∧ s < (ss.length : Int)) :
    ∃ u, KS 8 w u (ndM ss s) ∧ (∀ W, Below w.heap.size w W → Calls Tryz.prog 69 #[v, .int .i64 s] W fun e W' => e = .returned u ∧ Below W.heap.size W W') ∧ ((ndM ss s).length = 0 → u = .slice none 0 0) := by
  obtain ⟨sv, rfl, sa, sc, sb, so, rfl, hsa, hsc, _⟩ := hA
  by_cases h0 : s < 0
  · refine ⟨.slice none 0 0, by rw [ndM, if_pos h0]; exact KS.nil _ _ _ _, fun W hW => ?_, fun _ => rfl⟩
    go_enter Tryz.func69, Tryz.ntmps69
    go_wp2
    go_ret
    exact ⟨rfl, (Below.refl _ _).alloc (Nat.le_refl _) _⟩
  · obtain ⟨k, rfl⟩ : ∃ k : Nat, s = (k : Int) := ⟨s.toNat, by omega⟩
    have hk : k < ss.length := by omega
    obtain rfl := hsa (by omega)
    obtain ⟨u, hu, hks⟩ := hsc k hk
    have hm : ndM ss (k : Int) = ss.getD k [] := by rw [ndM, if_neg h0]; rfl
    refine ⟨u, by rw [hm]; exact hks, fun W hW => ?_, fun h => by
      have := hp _ (by rw [getD_eq hk]; exact List.getElem_mem hk : ss.getD k [] ∈ ss)
      rw [hm] at h; omega⟩
    have hc := cell_kept hW hu
    have hki : (k : Int) < (ss.length : Int) := by omega
    obtain ⟨a, c, hus⟩ := hks.shape
    subst hus
    have hc1 := cell_kept ((Below.refl W.heap.size W).alloc (Nat.le_refl _) (.cells #[.int .i64 n, .slice (some ⟨sb, so, none⟩) ss.length sc] 24)) hc
    clear hsc hks hm hu hc
    go_enter Tryz.func69, Tryz.ntmps69
    go_wp2
    go_ret
    exact ⟨rfl, (Below.refl _ _).alloc (Nat.le_refl _) _⟩

set_option maxRecDepth 100000 in
set_option maxHeartbeats 800000 in
theorem refStep {w : World} {v : Value} {n : Int} {ss : List (List (List Int))} (hA : AdvV w v n ss) {s : Int} (hs : -1 ≤ s ∧ s < (ss.length : Int)) (r0 r1 r2 r3 r4 r5 r6 : Int) :
    Calls Tryz.prog 71 #[v, .int .i64 s, .agg #[.int .i64 r0, .int .i64 r1, .int .i64 r2, .int .i64 r3, .int .i64 r4, .int .i64 r5, .int .i64 r6]] w
      fun e w' => e = .returned (.int .i64 (ndT ss s [r0, r1, r2, r3, r4, r5, r6])) ∧ Below w.heap.size w w' := by
  obtain ⟨a, c, hv⟩ := advShape' hA
  subst hv
  obtain ⟨W1, hW1⟩ : ∃ W1, W1 = (w.alloc (.cells #[.int .i64 n, .slice a ss.length c] 24)).alloc (.cells #[.int .i64 r0, .int .i64 r1, .int .i64 r2, .int .i64 r3, .int .i64 r4, .int .i64 r5, .int .i64 r6] 51) := ⟨_, rfl⟩
  have hb1 : Below w.heap.size w W1 := by rw [hW1]; exact ((Below.refl _ w).alloc (Nat.le_refl _) _).alloc (by simp) _
  by_cases h0 : s < 0
  · have hz : ndT ss s [r0, r1, r2, r3, r4, r5, r6] = -1 := by rw [ndT, if_pos h0]
    rw [hz]
    go_enter Tryz.func71, Tryz.ntmps71
    go_wp2_with fail
    rw [← hW1]
    go_ret
    exact ⟨rfl, hb1⟩
  · obtain ⟨k, rfl⟩ : ∃ k : Nat, s = (k : Int) := ⟨s.toNat, by omega⟩
    have hk : k < ss.length := by omega
    have hd0 : decide ((k : Int) < 0) = false := decide_eq_false h0
    have hz : ndT ss (k : Int) [r0, r1, r2, r3, r4, r5, r6] = toI [r0, r1, r2, r3, r4, r5, r6] (ss.getD k []) := by rw [ndT, if_neg h0]; rfl
    have HT := Lib.hid (refTo (hA.keep hb1) hk r0 r1 r2 r3 r4 r5 r6)
    obtain ⟨z, hzz⟩ : ∃ z, toI [r0, r1, r2, r3, r4, r5, r6] (ss.getD k []) = z := ⟨_, rfl⟩
    rw [hzz] at HT hz
    rw [hz]
    clear hA hz hzz
    go_enter Tryz.func71, Tryz.ntmps71
    go_wp2_with fail
    rw [← hW1]
    refine HT.out.mono ?_
    rintro e w2 ⟨rfl, hb2⟩
    go_wp2
    go_ret
    exact ⟨rfl, bt hb1 hb2 hb1.size⟩

set_option maxRecDepth 100000 in
set_option maxHeartbeats 1600000 in
theorem refHasR {w : World} {v : Value} {xs : List (List Int)} (hK : KS 7 w v xs) (hl : xs.length ≤ 1000000) (r0 r1 r2 r3 r4 r5 r6 : Int) :
    Calls Tryz.prog 102 #[v, .agg #[.int .i64 r0, .int .i64 r1, .int .i64 r2, .int .i64 r3, .int .i64 r4, .int .i64 r5, .int .i64 r6]] w
      fun e w' => e = .returned (.bool (decide ([r0, r1, r2, r3, r4, r5, r6] ∈ xs))) ∧ Below w.heap.size w w' := by
  obtain ⟨a, c, b, off, rfl, hae, hc, _⟩ := hK
  obtain ⟨W1, hW1⟩ : ∃ W1, W1 = w.alloc (.cells #[.int .i64 r0, .int .i64 r1, .int .i64 r2, .int .i64 r3, .int .i64 r4, .int .i64 r5, .int .i64 r6] 51) := ⟨_, rfl⟩
  have hb1 : Below w.heap.size w W1 := by rw [hW1]; exact (Below.refl _ w).alloc (Nat.le_refl _) _
  have k1 : W1.heap[w.heap.size]? = some (.cells #[.int .i64 r0, .int .i64 r1, .int .i64 r2, .int .i64 r3, .int .i64 r4, .int .i64 r5, .int .i64 r6] 51) := by rw [hW1]; exact heap_alloc_new _ _
  have hcm := Lib.hid (fun j (hj : j < xs.length) => And.intro (hc j hj).1 ((hc j hj).2.keep hb1))
  have hbx := box7CI k1
  obtain ⟨d0, d1, d2, d3, d4, d5, d6⟩ := hbx.all7
  simp only [Nat.zero_add] at d0 d1 d2 d3 d4 d5 d6
  obtain ⟨z, hz⟩ : ∃ z, decide ([r0, r1, r2, r3, r4, r5, r6] ∈ xs) = z := ⟨_, rfl⟩
  have hz0 : Hid (decide ([r0, r1, r2, r3, r4, r5, r6] ∈ xs.drop 0) = z) := by show _ = _; rw [List.drop_zero]; exact hz
  rw [hz]
  clear hc hz k1 hbx
  go_enter Tryz.func102, Tryz.ntmps102
  go_wp2_with fail
  rw [← hW1]
  replace hW1 := Lib.hid hW1
  go_loopw [5] (fun jv wr => ∃ k : Nat, jv = .int .i64 k ∧ k ≤ xs.length ∧ Hid (decide ([r0, r1, r2, r3, r4, r5, r6] ∈ xs.drop k) = z) ∧ Qt W1 wr) (fun jv _ => xs.length - (intOf jv).toNat)
  case atStart => exact ⟨0, rfl, by omega, hz0, Qt.refl _⟩
  case round =>
    clear hz0
    obtain ⟨k, rfl, hk, hzk, nd, rfl⟩ := hrel
    by_cases hlt : k < xs.length
    · have hki : (k : Int) < (xs.length : Int) := by omega
      obtain rfl := hae (by omega)
      obtain ⟨hx7, hxi⟩ := hcm.out k hlt
      obtain ⟨x, hx⟩ : ∃ x, xs.getD k [] = x := ⟨_, rfl⟩
      have hdr := drop_cons hlt ([] : List Int)
      rw [hx] at hx7 hxi hdr
      rw [hdr] at hzk
      obtain ⟨x0, x1, x2, x3, x4, x5, x6, rfl⟩ := seven hx7
      obtain ⟨c0, c1, c2, c3, c4, c5, c6⟩ := hxi.all7
      clear hxi hx7 hx hdr
      by_cases he : [x0, x1, x2, x3, x4, x5, x6] = [r0, r1, r2, r3, r4, r5, r6]
      · have hE : eqL [x0, x1, x2, x3, x4, x5, x6] [r0, r1, r2, r3, r4, r5, r6] = true := eqL_true.2 he
        obtain rfl : z = true := by rw [← hzk.out]; exact decide_eq_true (by rw [he]; simp)
        clear he hzk
        go_wp2
        go_quiet (fail)
        go_wp2
        go_ret
        exact ⟨rfl, by first | exact below_drewN hb1 _ | exact below_drewN (below_drewN hb1 _) _⟩
      · have hE : eqL [x0, x1, x2, x3, x4, x5, x6] [r0, r1, r2, r3, r4, r5, r6] = false := eqL_false.2 he
        have hz2 : Hid (decide ([r0, r1, r2, r3, r4, r5, r6] ∈ xs.drop (k + 1)) = z) := by
          show _ = _
          rw [← hzk.out]
          congr 1
          rw [List.mem_cons]
          exact propext ⟨.inr, fun h => by rcases h with h | h; exact absurd h.symm he; exact h⟩
        clear he hzk
        go_wp2
        go_quiet (fail)
        go_wp2
        go_roundw
        case rel => exact ⟨k + 1, by go_num, hlt, hz2, by first | exact Qt.mk' _ _ | exact Qt.mk2 _ _ _⟩
        case measure => simp [intOf]; omega
    · obtain rfl : z = false := by rw [← hzk.out, List.drop_eq_nil_of_le (by omega)]; simp
      have hge : ¬ ((k : Int) < (xs.length : Int)) := by omega
      clear hzk
      go_wp2
      go_ret
      exact ⟨rfl, by first | exact below_drewN hb1 _ | exact below_drewN (below_drewN hb1 _) _⟩
end Go.Proofs.YtiiiegflobihjaaGreat

/- The reference: insert, letters. -/
namespace Go.Proofs.YtiiiegflobihjaaGreat
open Go.RowKit

set_option maxRecDepth 100000 in
set_option maxHeartbeats 3200000 in
theorem refIns {w : World} {B : Nat} {v : Value} {xs : List (List Int)} (hO : OwX 51 7 EI w B v xs.length xs) (hl : xs.length ≤ 1000) (hB : B ≤ w.heap.size) (r0 r1 r2 r3 r4 r5 r6 : Int) :
    Calls Tryz.prog 79 #[v, .agg #[.int .i64 r0, .int .i64 r1, .int .i64 r2, .int .i64 r3, .int .i64 r4, .int .i64 r5, .int .i64 r6]] w
      fun e w' => ∃ u, e = .returned u ∧ OwX 51 7 EI w' B u (insR [r0, r1, r2, r3, r4, r5, r6] xs).length (insR [r0, r1, r2, r3, r4, r5, r6] xs) ∧ Below w.heap.size w w' := by
  have hmx : Tryz.prog.follows .mixedOrders = true := by kernel_rfl
  obtain ⟨R, hR⟩ : ∃ R, [r0, r1, r2, r3, r4, r5, r6] = R := ⟨_, rfl⟩
  obtain ⟨W1, hW1⟩ : ∃ W1, W1 = w.alloc (.cells #[.int .i64 r0, .int .i64 r1, .int .i64 r2, .int .i64 r3, .int .i64 r4, .int .i64 r5, .int .i64 r6] 51) := ⟨_, rfl⟩
  have hb1 : Below w.heap.size w W1 := by rw [hW1]; exact (Below.refl _ w).alloc (Nat.le_refl _) _
  have k1 : W1.heap[w.heap.size]? = some (.cells #[.int .i64 r0, .int .i64 r1, .int .i64 r2, .int .i64 r3, .int .i64 r4, .int .i64 r5, .int .i64 r6] 51) := by rw [hW1]; exact heap_alloc_new _ _
  have hbx := box7CI k1
  have hO1 := hO.keep (EI.stab _) hb1
  have HH := Lib.hid (refHasR (hO1.ks (by omega)) (by omega) r0 r1 r2 r3 r4 r5 r6)
  rw [hR] at HH ⊢
  obtain ⟨va, vc, hv⟩ := hO.shape
  subst hv
  have hrc := Lib.hid (fun W (hb : Below W1.heap.size W1 W) => (hbx.keep hb).all7)
  obtain ⟨d0, d1, d2, d3, d4, d5, d6⟩ := hbx.all7
  simp only [Nat.zero_add] at d0 d1 d2 d3 d4 d5 d6
  by_cases hin : R ∈ xs
  · have hres : insR R xs = xs := if_pos hin
    rw [decide_eq_true hin] at HH
    rw [hres]
    have hOh := Lib.hid hO1
    clear hO hO1
    go_enter Tryz.func79, Tryz.ntmps79
    go_wp2_with fail
    rw [← hW1]
    refine HH.out.mono ?_
    rintro e W2 ⟨rfl, hb2⟩
    have hfin := Lib.hid (hOh.out.keep (EI.stab _) hb2)
    go_wp2
    go_ret
    exact ⟨_, rfl, hfin.out, bt hb1 hb2 hb1.size⟩
  · have hres : insR R xs = xs.take (insK R xs xs.length) ++ [R] ++ xs.drop (insK R xs xs.length) := if_neg hin
    rw [decide_eq_false hin] at HH
    rw [hres]
    obtain ⟨K, hK⟩ : ∃ K, insK R xs xs.length = K := ⟨_, rfl⟩
    have hKl : K ≤ xs.length := by rw [← hK]; exact insK_le _ _ _
    have hK0 : Hid (insK R xs xs.length = K) := hK
    rw [hK]
    replace hK := Lib.hid hK
    replace hres := Lib.hid hres
    replace hin := Lib.hid hin
    go_enter Tryz.func79, Tryz.ntmps79
    go_wp2_with fail
    rw [← hW1]
    refine HH.out.mono ?_
    rintro e W2 ⟨rfl, hb2⟩
    have hO2 := hO1.keep (EI.stab _) hb2
    have hrc2 := Lib.hid (fun W (hb : Below W2.heap.size W2 W) => hrc.out W (bt hb2 hb hb2.size))
    have hb02 := bt hb1 hb2 hb1.size
    clear d0 d1 d2 d3 d4 d5 d6 hO hO1
    go_wp2_with fail
    go_loopg [5] xs.length (fun f kv wr => ∃ k : Nat, kv = .int .i64 k ∧ k ≤ f ∧ k ≤ xs.length ∧ Hid (insK R xs k = K) ∧ Below W2.heap.size W2 wr)
    case atStart => exact ⟨xs.length, rfl, Nat.le_refl _, Nat.le_refl _, hK0, Below.refl _ _⟩
    case round =>
      clear hK0
      obtain ⟨k, rfl, hkf, hk, hKk, hbr⟩ := hrel
      have HKS := Lib.hid (fun W (hb : Below W2.heap.size W2 W) => (hO2.ks (by omega)).keep hb)
      have hbk := hbr.size
      by_cases hc : 0 < k ∧ cmpL R (xs.getD (k - 1) []) < 0
      · obtain ⟨h0, hcz⟩ := hc
        obtain ⟨g, cap, hve, _⟩ := hO2.form (by omega)
        obtain ⟨rfl, rfl⟩ : va = some ⟨g, 0, none⟩ ∧ vc = cap := by injection hve with h1 h2 h3; exact ⟨h1, h3⟩
        obtain ⟨hx7, hxi⟩ := hO2.intCells (j := k - 1) (by omega)
        obtain ⟨x, hx⟩ : ∃ x, xs.getD (k - 1) [] = x := ⟨_, rfl⟩
        have hK2 : Hid (insK R xs (k - 1) = K) := by
          have h := hKk.out
          rw [show k = (k - 1) + 1 by omega, insK, if_pos (by rw [hx]; rw [hx] at hcz; exact hcz)] at h
          exact h
        rw [hx] at hx7 hxi hcz
        obtain ⟨x0, x1, x2, x3, x4, x5, x6, rfl⟩ := seven hx7
        have hf := Lib.hid (fun wq (hC : Below wr.heap.size wr wq) => And.intro (hrc2.out wq (hbr.trans (hC.mono hbk))) ((hxi.keep hbr).keep hC).all7)
        have HC := Lib.hid (fun W => refRoundCompare r0 r1 r2 r3 r4 r5 r6 x0 x1 x2 x3 x4 x5 x6 W)
        rw [hR] at HC
        obtain ⟨z, hz⟩ : ∃ z, cmpL R [x0, x1, x2, x3, x4, x5, x6] = z := ⟨_, rfl⟩
        rw [hz] at HC hcz
        have hw1 : IntKind.i64.wrap ((k : Int) - 1) = (k : Int) - 1 := IntWalk.i64_in _ (by omega)
        have hi0 : 0 ≤ (k : Int) - 1 := by omega
        have hi1 : (k : Int) - 1 < (xs.length : Int) := by omega
        have hin2 : ((k : Int) - 1).toNat = k - 1 := by omega
        have hd : decide ((0 : Int) < (k : Int)) = true := decide_eq_true (by omega)
        have h1k : (1 : Int) ≤ (k : Int) := by omega
        replace hx := Lib.hid hx
        replace hz := Lib.hid hz
        replace hR := Lib.hid hR
        clear hxi hx7 hO2 hve
        go_wp2_with fail
        refine wp_region_bw hmx (by kernel_rfl) ?_
        repeat (refine WQ.step (fun K hK => ?_)
                go_simp
                first
                  | (refine hK _ ?_; clear hK K)
                  | (apply Exists.intro
                     refine ⟨fun wq hC => ?_, hK _ ?_⟩
                     · (first | with_reducible rfl | (obtain ⟨⟨d0, d1, d2, d3, d4, d5, d6⟩, e0, e1, e2, e3, e4, e5, e6⟩ := hf.out wq hC; simp only [Nat.zero_add] at d0 d1 d2 d3 d4 d5 d6; go_simp; first | done | with_reducible rfl | with_reducible exact ⟨rfl, rfl⟩))
                     clear hK K))
        (refine WQ.step (fun K hK => ?_)
         go_simp
         first
           | (refine hK _ ?_; clear hK K)
           | (apply Exists.intro
              refine ⟨fun wq hC => ?_, hK _ ?_⟩
              · (refine (HC.out wq).mono ?_; rintro e w' ⟨rfl, hb⟩; exact ⟨rfl, bt hC hb hC.size⟩)
              clear hK K))
        repeat (refine WQ.step (fun K hK => ?_)
                go_simp
                first
                  | (refine hK _ ?_; clear hK K)
                  | (apply Exists.intro
                     refine ⟨fun wq hC => ?_, hK _ ?_⟩
                     · (first | with_reducible rfl | (go_simp; first | done | with_reducible rfl | with_reducible exact ⟨rfl, rfl⟩))
                     clear hK K))
        refine WQ.nil ?_
        intro w4 hb4
        have hbf := hbr.trans (hb4.mono hbk)
        clear hw1 hin2
        go_wp2_with fail
        go_roundg (gk - 1)
        case measure => omega
        case rel => exact ⟨k - 1, by rw [show ((k - 1 : Nat) : Int) = (k : Int) - 1 by omega], by omega, by omega, hK2, hbf⟩
      · obtain rfl : K = k := by
          have h := hKk.out
          rcases Nat.eq_zero_or_pos k with h0 | h0
          · subst h0; exact h.symm
          · rw [show k = (k - 1) + 1 by omega, insK, if_neg (fun h => hc ⟨h0, h⟩)] at h
            omega
        have hcap := OwX.cap hO2
        have hzc : va = none → vc = 0 ∧ xs.length = 0 := OwX.nilc hO2
        have hRl : (xs.take K).length = K := by rw [List.length_take]; omega
        have hDl : (xs.drop K).length = xs.length - K := List.length_drop ..
        have hEI : ∀ W, EI W [.int .i64 r0, .int .i64 r1, .int .i64 r2, .int .i64 r3, .int .i64 r4, .int .i64 r5, .int .i64 r6] R := fun W => by rw [← hR]; rfl
        have hc7 : ∀ u ∈ (#[.int .i64 r0, .int .i64 r1, .int .i64 r2, .int .i64 r3, .int .i64 r4, .int .i64 r5, .int .i64 r6] : Array Value).toList, u.oneCell' = true := fun u hu => by
          simp only [List.mem_cons, List.not_mem_nil, or_false] at hu
          rcases hu with rfl | rfl | rfl | rfl | rfl | rfl | rfl <;> rfl
        replace hEI := Lib.hid hEI
        replace hc7 := Lib.hid hc7
        replace hRl := Lib.hid hRl
        replace hDl := Lib.hid hDl
        have hKc : (K : Int) ≤ (vc : Int) := by omega
        have hKx : (K : Int) ≤ (xs.length : Int) := by omega
        by_cases h0 : 0 < K
        case' pos =>
          obtain ⟨g, cap, hve, _⟩ := hO2.form (by omega)
          obtain ⟨rfl, rfl⟩ : va = some ⟨g, 0, none⟩ ∧ vc = cap := by injection hve with h1 h2 h3; exact ⟨h1, h3⟩
          obtain ⟨hx7, hxi⟩ := hO2.intCells (j := K - 1) (by omega)
          obtain ⟨x, hx⟩ : ∃ x, xs.getD (K - 1) [] = x := ⟨_, rfl⟩
          have hcz : 0 ≤ cmpL R x := by
            rw [← hx]
            rcases Int.lt_or_le (cmpL R (xs.getD (K - 1) [])) 0 with h | h
            · exact absurd ⟨h0, h⟩ hc
            · exact h
          rw [hx] at hx7 hxi
          obtain ⟨x0, x1, x2, x3, x4, x5, x6, rfl⟩ := seven hx7
          have hf := Lib.hid (fun wq (hC : Below wr.heap.size wr wq) => And.intro (hrc2.out wq (hbr.trans (hC.mono hbk))) ((hxi.keep hbr).keep hC).all7)
          have HC := Lib.hid (fun W => refRoundCompare r0 r1 r2 r3 r4 r5 r6 x0 x1 x2 x3 x4 x5 x6 W)
          rw [hR] at HC
          obtain ⟨z, hz⟩ : ∃ z, cmpL R [x0, x1, x2, x3, x4, x5, x6] = z := ⟨_, rfl⟩
          rw [hz] at HC hcz
          have hw1 : IntKind.i64.wrap ((K : Int) - 1) = (K : Int) - 1 := IntWalk.i64_in _ (by omega)
          have hi0 : 0 ≤ (K : Int) - 1 := by omega
          have hi1 : (K : Int) - 1 < (xs.length : Int) := by omega
          have hin2 : ((K : Int) - 1).toNat = K - 1 := by omega
          have hd : decide ((0 : Int) < (K : Int)) = true := decide_eq_true (by omega)
          have hd2 : decide (z < 0) = false := decide_eq_false (by omega)
          have h1k : (1 : Int) ≤ (K : Int) := by omega
          replace hx := Lib.hid hx
          replace hz := Lib.hid hz
          replace hR := Lib.hid hR
          clear hxi hx7 hve hc
          go_wp2_with fail
          refine wp_region_bw hmx (by kernel_rfl) ?_
          repeat (refine WQ.step (fun K hK => ?_)
                  go_simp
                  first
                    | (refine hK _ ?_; clear hK K)
                    | (apply Exists.intro
                       refine ⟨fun wq hC => ?_, hK _ ?_⟩
                       · (first | with_reducible rfl | (obtain ⟨⟨d0, d1, d2, d3, d4, d5, d6⟩, e0, e1, e2, e3, e4, e5, e6⟩ := hf.out wq hC; simp only [Nat.zero_add] at d0 d1 d2 d3 d4 d5 d6; go_simp; first | done | with_reducible rfl | with_reducible exact ⟨rfl, rfl⟩))
                       clear hK K))
          (refine WQ.step (fun K hK => ?_)
           go_simp
           first
             | (refine hK _ ?_; clear hK K)
             | (apply Exists.intro
                refine ⟨fun wq hC => ?_, hK _ ?_⟩
                · (refine (HC.out wq).mono ?_; rintro e w' ⟨rfl, hb⟩; exact ⟨rfl, bt hC hb hC.size⟩)
                clear hK K))
          repeat (refine WQ.step (fun K hK => ?_)
                  go_simp
                  first
                    | (refine hK _ ?_; clear hK K)
                    | (apply Exists.intro
                       refine ⟨fun wq hC => ?_, hK _ ?_⟩
                       · (first | with_reducible rfl | (go_simp; first | done | with_reducible rfl | with_reducible exact ⟨rfl, rfl⟩))
                       clear hK K))
          refine WQ.nil ?_
          intro w4 hb4
          clear hw1 hin2 hd2 hf HC
        case' neg =>
          have hd : decide ((0 : Int) < (K : Int)) = false := decide_eq_false (by omega)
          replace hR := Lib.hid hR
          clear hc
          go_wp2_with fail
          refine wp_region_bw hmx (by kernel_rfl) ?_
          repeat (refine WQ.step (fun K hK => ?_)
                  go_simp
                  first
                    | (refine hK _ ?_; clear hK K)
                    | (apply Exists.intro
                       refine ⟨fun wq hC => ?_, hK _ ?_⟩
                       · (first | with_reducible rfl | (go_simp; first | done | with_reducible rfl | with_reducible exact ⟨rfl, rfl⟩))
                       clear hK K))
          refine WQ.nil ?_
          intro w4 hb4
        all_goals
          have hbf := hbr.trans (hb4.mono hbk)
          have hK4 := HKS.out w4 hbf
          have hB4 : W2.heap.size ≤ w4.heap.size := hbf.size
          have hn9 : 0 + (xs.take K).length ≤ 1000000 := by rw [hRl.out]; omega
          have hO0 : OwX 51 7 EI w4 W2.heap.size (.slice none 0 0) 0 [] := OwX.nil _ _
          clear hd
          go_wp2_with (at_builtin; refine wpList_appXs (ys := xs.take K) elemRd (by decide) (by decide) rfl _ _ rfl rfl hO0 rfl hRl.out.symm (hK4.front K (by omega)) (fun h => (hzc h).1) hn9 hB4 ?_)
          intro v5 w5 ho5 hg5 hb5 hx5
          have ho5 : OwX 51 7 EI w5 W2.heap.size v5 K (xs.take K) := by simpa only [Nat.zero_add, List.nil_append, hRl.out] using ho5
          obtain ⟨a5, c5, hv5⟩ := ho5.shape
          subst hv5
          have hb25 := hbf.trans hb5
          obtain ⟨d0, d1, d2, d3, d4, d5, d6⟩ := hrc2.out w5 hb25
          simp only [Nat.zero_add] at d0 d1 d2 d3 d4 d5 d6
          have hB5 : W2.heap.size ≤ w5.heap.size := hb25.size
          have hK9 : K ≤ 1000000000000 := by omega
          go_wp2_with (at_builtin; refine wpAppX (x := R) elemRd (by decide) (by decide) (EI.stab _) rfl _ _ rfl rfl ho5 rfl rfl rfl hc7.out (hEI.out _) hK9 hB5 ?_)
          intro v6 w6 ho6 hg6 hb6 hx6
          obtain ⟨a6, c6, hv6⟩ := ho6.shape
          subst hv6
          have hb26 := hb25.trans hb6
          have hK6 := HKS.out w6 hb26
          have hB6 : W2.heap.size ≤ w6.heap.size := hb26.size
          have hn10 : K + 1 + (xs.drop K).length ≤ 1000000 := by rw [hDl.out]; omega
          have hlen : Hid (K + 1 + (xs.drop K).length = (xs.take K ++ [R] ++ xs.drop K).length) := by
            show _ = _
            rw [List.length_append, List.length_append, hRl.out]; rfl
          clear d0 d1 d2 d3 d4 d5 d6 ho5
          have hKS6 := OwX.rest (hO2.keep (EI.stab _) hb26) (by omega) (m := K) (by omega)
          rcases Nat.lt_or_ge K vc with hcv | hcv
          case' inl =>
            have hne : ¬ vc = K := by omega
            rw [if_neg hne] at hKS6
            try simp only [Option.map_some, Addr.add_lit, Nat.zero_add] at hKS6
            have hks6 := Lib.hid hKS6
            clear hKS6
            go_wp2_with (at_builtin; refine wpList_appXs (ys := xs.drop K) elemRd (by decide) (by decide) rfl _ _ rfl rfl ho6 rfl hDl.out.symm hks6.out.1 hks6.out.2 hn10 hB6 ?_)
            intro v7 w7 ho7 hg7 hb7 hx7
            have ho7 : OwX 51 7 EI w7 W2.heap.size v7 (K + 1 + (xs.drop K).length) (xs.take K ++ [R] ++ xs.drop K) := by
              first
                | exact ho7
                | (rw [hDl.out, List.append_assoc]; exact ho7)
          case' inr =>
            have hd0 : Hid (xs.drop K = []) := List.drop_eq_nil_of_le (by omega)
            clear hKS6 hn10
            have hn10 : K + 1 + ([] : List (List Int)).length ≤ 1000000 := by simp only [List.length_nil]; omega
            have hne : K = vc := by omega
            subst hne
            go_wp2_with (at_builtin; refine wpList_appXs (ys := []) elemRd (by decide) (by decide) rfl _ _ rfl rfl ho6 rfl rfl (KS.nil _ _ _ _) (fun _ => rfl) hn10 hB6 ?_)
            intro v7 w7 ho7 hg7 hb7 hx7
            have ho7 : OwX 51 7 EI w7 W2.heap.size v7 (K + 1 + (xs.drop K).length) (xs.take K ++ [R] ++ xs.drop K) := by
              rw [hd0.out]
              first
                | exact ho7
                | (simpa using ho7)
          all_goals
            have hfin : OwX 51 7 EI w7 B v7 (xs.take K ++ [R] ++ xs.drop K).length (xs.take K ++ [R] ++ xs.drop K) := by
              rw [hlen.out] at ho7
              exact ho7.base (Nat.le_trans hB hb02.size)
            have hbe := bt hb02 (hb26.trans hb7) hb02.size
            replace hfin := Lib.hid hfin
            clear ho7 ho6
            go_wp2
            go_ret
            exact ⟨_, rfl, hfin.out, hbe⟩
end Go.Proofs.YtiiiegflobihjaaGreat

/- The reference: letters, find, both. -/
namespace Go.Proofs.YtiiiegflobihjaaGreat
open Go.RowKit

set_option maxRecDepth 100000 in
set_option maxHeartbeats 1600000 in
theorem refLets {w : World} {u : Value} {ms : List (List Int)} (hK : KS 8 w u ms) (hl : ms.length ≤ 1000) :
    Calls Tryz.prog 70 #[u] w fun e w' => ∃ v, e = .returned v ∧ OwX 51 7 EI w' w.heap.size v (lets (ms.map rdOf)).length (lets (ms.map rdOf)) ∧ Below w.heap.size w w' := by
  obtain ⟨a, c, b, off, rfl, hae, hc, _⟩ := hK
  have hcm := Lib.hid (fun W (hb : Below w.heap.size w W) j (hj : j < ms.length) => And.intro (hc j hj).1 ((hc j hj).2.keep hb))
  have hll := Lib.hid (fun k => show (lets ((ms.take k).map rdOf)).length ≤ 1000 from Nat.le_trans (lets_len _) (by rw [List.length_map, List.length_take]; omega))
  have hO0 : OwX 51 7 EI w w.heap.size (.slice none 0 0) (lets ((ms.take 0).map rdOf)).length (lets ((ms.take 0).map rdOf)) := OwX.nil _ _
  clear hc
  go_enter Tryz.func70, Tryz.ntmps70
  go_wp2_with fail
  go_loopw [3, 4] (fun ov jv wr => ∃ j : Nat, jv = .int .i64 j ∧ j ≤ ms.length ∧ OwX 51 7 EI wr w.heap.size ov (lets ((ms.take j).map rdOf)).length (lets ((ms.take j).map rdOf)) ∧ Below w.heap.size w wr) (fun _ jv _ => ms.length - (intOf jv).toNat)
  case atStart => exact ⟨0, rfl, by omega, hO0, Below.refl _ _⟩
  case round =>
    clear hO0
    obtain ⟨j, rfl, hj, hO, hbr⟩ := hrel
    by_cases hlt : j < ms.length
    · have hji : (j : Int) < (ms.length : Int) := by omega
      obtain rfl := hae (by omega)
      obtain ⟨hm8, hmc⟩ := hcm.out wr hbr j hlt
      obtain ⟨m, hm⟩ : ∃ m, ms.getD j [] = m := ⟨_, rfl⟩
      have hsn : Hid (lets ((ms.take (j + 1)).map rdOf) = insR (rdOf m) (lets ((ms.take j).map rdOf))) := by
        show _ = _
        rw [take_snoc hlt ([] : List Int), hm, List.map_append, List.map_singleton, lets_snoc]
      rw [hm] at hm8 hmc
      obtain ⟨m0, m1, m2, m3, m4, m5, m6, m7, rfl⟩ := eight hm8
      obtain ⟨c0, c1, c2, c3, c4, c5, c6, c7⟩ := hmc.all8
      have hlj := hll.out j
      obtain ⟨L, hL⟩ : ∃ L, lets ((ms.take j).map rdOf) = L := ⟨_, rfl⟩
      rw [hL] at hO hlj hsn
      obtain ⟨oa, oc, hov⟩ := hO.shape
      subst hov
      have HI := Lib.hid (refIns hO hlj hbr.size m0 m1 m2 m3 m4 m5 m6)
      have hsn : Hid (lets ((ms.take (j + 1)).map rdOf) = insR [m0, m1, m2, m3, m4, m5, m6] L) := hsn
      replace hL := Lib.hid hL
      replace hm := Lib.hid hm
      clear hmc hm8 hO
      go_wp2_with fail
      refine HI.out.mono ?_
      rintro e w1 ⟨v1, rfl, ho1, hb1⟩
      have hbf := bt hbr hb1 hbr.size
      rw [← hsn.out] at ho1
      go_wp2
      go_roundw
      case rel => exact ⟨j + 1, by go_num, hlt, ho1, hbf⟩
      case measure => simp [intOf]; omega
    · obtain rfl : j = ms.length := by omega
      have hge : ¬ ((ms.length : Int) < (ms.length : Int)) := by omega
      rw [List.take_length] at hO
      replace hO := Lib.hid hO
      go_wp2
      go_ret
      exact ⟨_, rfl, hO.out, hbr⟩

/-- Pairs in rows of the reference. -/
def EPr (_ : World) (cs : List Value) (x : Nd) : Prop := cs = [.int .i64 x.1, .int .i64 x.2.1] ∧ x.2.2 = []
theorem EPr.stab (E : TypeId) : Stab E EPr := fun _ _ _ _ h _ => h
theorem elemPr : ElemK Tryz.prog 114 113 (.agg #[.int .i64 0, .int .i64 0]) 2 16 := ⟨by kernel_rfl, by kernel_rfl, rfl⟩
theorem prCells {w : World} {B g n cap : Nat} {xs : List Nd} (h : OwX 113 2 EPr w B (.slice (some ⟨g, 0, none⟩) n cap) n xs) {j : Nat} {x : Nd} (hj : xs[j]? = some x) :
    w.cell? ⟨g, j * 2, none⟩ = some (.int .i64 x.1) ∧ w.cell? ⟨g, j * 2 + 1, none⟩ = some (.int .i64 x.2.1) ∧ x.2.2 = [] := by
  obtain ⟨cs, _, ⟨h2, h4⟩, h3⟩ := h.cells hj
  subst h2
  exact ⟨h3 0 _ rfl, h3 1 _ rfl, h4⟩
/-- The place of a node, or -1. -/
def fndI (l : List Nd) (x : Nd) : Int := if x ∈ l then (ixOf l x : Int) else -1
theorem ixOf_at {κ : Type} [DecidableEq κ] : ∀ {l : List κ} {x : κ} {k : Nat}, (∀ j, j < k → l[j]? ≠ some x) → l[k]? = some x → ixOf l x = k
  | [], _, _, _, h => by simp at h
  | a :: l, x, 0, _, h => by
    simp only [List.getElem?_cons_zero, Option.some.injEq] at h
    subst h; simp [ixOf]
  | a :: l, x, k + 1, h1, h2 => by
    have ha : a ≠ x := fun e => h1 0 (by omega) (by simp [e])
    have ih := ixOf_at (l := l) (x := x) (k := k) (fun j hj h => h1 (j + 1) (by omega) (by simpa using h)) (by simpa using h2)
    rw [ixOf] at ih ⊢
    rw [List.idxOf_cons, ih, show (a == x) = false from beq_eq_false_iff_ne.2 ha]
    rfl
theorem eqPr (d : Nat) (a b a' b' : Int) (w : World) : (Op.equalIn (d + 2) 113 (.agg #[.int .i64 a, .int .i64 b]) (.agg #[.int .i64 a', .int .i64 b'])).run Tryz.prog w = .ok (eqL [a, b] [a', b']) w := by
  have u3 := Tryz.underlying3
  have a3 := Tryz.isAgg3
  have z3 := Tryz.sizeOf3
  have hS : Tryz.prog.underlying 113 = some (.struct (Tryz.prog.fieldsOf 113)) := by kernel_rfl
  have hp : Tryz.prog.stoodInHeld 113 = false := by kernel_rfl
  rw [show d + 2 = (d + 1) + 1 from rfl, run_equalIn_agg w (d + 1) 113 _ _ hS hp]
  simp only [Program.fieldsOf, Tryz.underlying113]
  go_simp
  by_cases h0 : a = a' <;> by_cases h1 : b = b' <;> simp_all [eqL]
@[go_sem high] theorem eqPr' (a b a' b' : Int) (w : World) : (Op.equalIn 10000 113 (.agg #[.int .i64 a, .int .i64 b]) (.agg #[.int .i64 a', .int .i64 b'])).run Tryz.prog w = .ok (eqL [a, b] [a', b']) w := eqPr 9998 a b a' b' w

set_option maxRecDepth 100000 in
set_option maxHeartbeats 1600000 in
theorem refFind {w : World} {B : Nat} {v : Value} {xs : List Nd} (hO : OwX 113 2 EPr w B v xs.length xs) (hl : xs.length ≤ 1000000) (y0 y1 : Int) :
    Calls Tryz.prog 72 #[v, .agg #[.int .i64 y0, .int .i64 y1]] w fun e w' => e = .returned (.int .i64 (fndI xs (y0, y1, []))) ∧ Below w.heap.size w w' := by
  obtain ⟨W1, hW1⟩ : ∃ W1, W1 = w.alloc (.cells #[.int .i64 y0, .int .i64 y1] 113) := ⟨_, rfl⟩
  have hb1 : Below w.heap.size w W1 := by rw [hW1]; exact (Below.refl _ w).alloc (Nat.le_refl _) _
  have k1 : W1.heap[w.heap.size]? = some (.cells #[.int .i64 y0, .int .i64 y1] 113) := by rw [hW1]; exact heap_alloc_new _ _
  obtain ⟨d0, d1⟩ := box2 k1
  have hO1 := hO.keep (EPr.stab _) hb1
  obtain ⟨va, vc, hv⟩ := hO.shape
  subst hv
  have hcm := Lib.hid (fun g cap (hg : Value.slice va xs.length vc = .slice (some ⟨g, 0, none⟩) xs.length cap) j x (hj : xs[j]? = some x) => prCells (by rw [← hg]; exact hO1) hj)
  have hfm := Lib.hid (fun (h : 0 < xs.length) => hO1.form h)
  obtain ⟨z, hz⟩ : ∃ z, fndI xs (y0, y1, []) = z := ⟨_, rfl⟩
  rw [hz]
  replace hz := Lib.hid hz
  have hn0 : Hid (∀ j, j < 0 → xs[j]? ≠ some (y0, y1, [])) := fun j hj => absurd hj (by omega)
  clear k1 hO hO1
  go_enter Tryz.func72, Tryz.ntmps72
  go_wp2_with fail
  rw [← hW1]
  replace hW1 := Lib.hid hW1
  go_loopw [5] (fun jv wr => ∃ k : Nat, jv = .int .i64 k ∧ k ≤ xs.length ∧ Hid (∀ j, j < k → xs[j]? ≠ some (y0, y1, [])) ∧ Qt W1 wr) (fun jv _ => xs.length - (intOf jv).toNat)
  case atStart => exact ⟨0, rfl, by omega, hn0, Qt.refl _⟩
  case round =>
    clear hn0
    obtain ⟨k, rfl, hk, hnk, nd, rfl⟩ := hrel
    by_cases hlt : k < xs.length
    · have hki : (k : Int) < (xs.length : Int) := by omega
      obtain ⟨g, cap, hve, _⟩ := hfm.out (by omega)
      obtain ⟨x, hx⟩ : ∃ x, xs[k]? = some x := ⟨_, List.getElem?_eq_getElem hlt⟩
      obtain ⟨c0, c1, hx2⟩ := hcm.out g cap hve k x hx
      obtain ⟨rfl, rfl⟩ : va = some ⟨g, 0, none⟩ ∧ vc = cap := by injection hve with h1 h2 h3; exact ⟨h1, h3⟩
      obtain ⟨x0, x1, x2⟩ := x
      simp only at c0 c1 hx2
      subst hx2
      clear hve
      by_cases he : [x0, x1] = [y0, y1]
      · have hE : eqL [x0, x1] [y0, y1] = true := eqL_true.2 he
        obtain ⟨rfl, rfl⟩ : x0 = y0 ∧ x1 = y1 := by simpa using he
        have hm := List.mem_of_getElem? hx
        have hi := ixOf_at hnk.out hx
        obtain rfl : z = (k : Int) := by rw [← hz.out, fndI, if_pos hm, hi]
        clear he hnk hm hi hx
        go_wp2
        go_quiet (fail)
        go_wp2
        go_ret
        exact ⟨rfl, by first | exact below_drewN hb1 _ | exact below_drewN (below_drewN hb1 _) _⟩
      · have hE : eqL [x0, x1] [y0, y1] = false := eqL_false.2 he
        have hn2 : Hid (∀ j, j < k + 1 → xs[j]? ≠ some (y0, y1, [])) := fun j hj h => by
          rcases Nat.eq_or_lt_of_le (Nat.le_of_lt_succ hj) with h1 | h1
          · subst h1
            rw [hx] at h
            injection h with h
            injection h with h2 h3
            injection h3 with h3 _
            exact he (by rw [h2, h3])
          · exact hnk.out j h1 h
        clear he hnk hx
        go_wp2
        go_quiet (fail)
        go_wp2
        go_roundw
        case rel => exact ⟨k + 1, by go_num, hlt, hn2, by first | exact Qt.mk' _ _ | exact Qt.mk2 _ _ _⟩
        case measure => simp [intOf]; omega
    · obtain rfl : z = -1 := by
        rw [← hz.out, fndI, if_neg]
        intro h
        obtain ⟨j, hj, he⟩ := List.mem_iff_getElem.1 h
        exact hnk.out j (by omega) (by rw [List.getElem?_eq_getElem hj, he])
      have hge : ¬ ((k : Int) < (xs.length : Int)) := by omega
      clear hnk
      go_wp2
      go_ret
      exact ⟨rfl, by first | exact below_drewN hb1 _ | exact below_drewN (below_drewN hb1 _) _⟩

set_option maxRecDepth 100000 in
set_option maxHeartbeats 800000 in
theorem refBoth18 {w : World} {u v : Value} {m n : Int} {xs ys : List (List (List Int))} (hx : AdvV w u m xs) (hy : AdvV w v n ys) :
    Calls Tryz.prog 33 #[u, v] w fun e w' => e = .returned (.int .i64 (eqErr m n xs ys)) ∧ Below w.heap.size w w' := by
  obtain ⟨xa, xc, hu⟩ := advShape' hx
  obtain ⟨ya, yc, hv⟩ := advShape' hy
  subst hu hv
  obtain ⟨W1, hW1⟩ : ∃ W1, W1 = (w.alloc (.cells #[.int .i64 m, .slice xa xs.length xc] 24)).alloc (.cells #[.int .i64 n, .slice ya ys.length yc] 24) := ⟨_, rfl⟩
  obtain ⟨hb1, ⟨p0, p1⟩, ⟨q0, q1⟩, _, _⟩ := boxAdv2 hW1
  have HX := Lib.hid (refCheckA (hx.keep hb1))
  have HY := Lib.hid (fun W (hb : Below W1.heap.size W1 W) => refCheckA ((hy.keep hb1).keep hb))
  have hK := Lib.hid (fun W (hb : Below W1.heap.size W1 W) => And.intro (cell_kept hb p0) (And.intro (cell_kept hb p1) (And.intro (cell_kept hb q0) (cell_kept hb q1))))
  obtain ⟨E, hE⟩ : ∃ E, chkA m xs = E := ⟨_, rfl⟩
  obtain ⟨F, hF⟩ : ∃ F, chkA n ys = F := ⟨_, rfl⟩
  have hr : eqErr m n xs ys = if E ≠ 0 then E else if F ≠ 0 then F else if m ≠ n then 22 else 0 := by rw [eqErr, hE, hF]
  rw [hE] at HX
  rw [hF] at HY
  rw [hr]
  clear hr hE hF hx hy p0 p1 q0 q1
  by_cases h1 : E = 0
  · subst h1
    rw [if_neg (fun h => h rfl)]
    by_cases h2 : F = 0
    · subst h2
      rw [if_neg (fun h => h rfl)]
      by_cases h3 : m = n
      · subst h3
        rw [if_neg (fun h => h rfl)]
        have hmm : (m != m) = false := by simp
        go_enter Tryz.func33, Tryz.ntmps33
        go_wp2_with fail
        rw [← hW1]
        refine HX.out.mono ?_
        rintro e W2 ⟨rfl, hb2⟩
        obtain ⟨_, _, k2, k3⟩ := hK.out W2 hb2
        go_wp2_with fail
        clear k2 k3
        refine (HY.out W2 hb2).mono ?_
        rintro e W3 ⟨rfl, hb3⟩
        have B3 := btt hb2 hb3
        obtain ⟨k0, k1, k2, k3⟩ := hK.out W3 B3
        go_wp2
        go_ret
        exact ⟨rfl, bt hb1 B3 hb1.size⟩
      · rw [if_pos h3]
        have hmm : (m != n) = true := by simp [h3]
        go_enter Tryz.func33, Tryz.ntmps33
        go_wp2_with fail
        rw [← hW1]
        refine HX.out.mono ?_
        rintro e W2 ⟨rfl, hb2⟩
        obtain ⟨_, _, k2, k3⟩ := hK.out W2 hb2
        go_wp2_with fail
        clear k2 k3
        refine (HY.out W2 hb2).mono ?_
        rintro e W3 ⟨rfl, hb3⟩
        have B3 := btt hb2 hb3
        obtain ⟨k0, k1, k2, k3⟩ := hK.out W3 B3
        go_wp2
        go_ret
        exact ⟨rfl, bt hb1 B3 hb1.size⟩
    · rw [if_pos h2]
      have hf : (F != 0) = true := by simp [h2]
      have hf2 : (F == 0) = false := by simp [h2]
      go_enter Tryz.func33, Tryz.ntmps33
      go_wp2_with fail
      rw [← hW1]
      refine HX.out.mono ?_
      rintro e W2 ⟨rfl, hb2⟩
      obtain ⟨_, _, k2, k3⟩ := hK.out W2 hb2
      go_wp2_with fail
      clear k2 k3
      refine (HY.out W2 hb2).mono ?_
      rintro e W3 ⟨rfl, hb3⟩
      have B3 := btt hb2 hb3
      go_wp2
      go_ret
      exact ⟨rfl, bt hb1 B3 hb1.size⟩
  · rw [if_pos h1]
    have hf : (E != 0) = true := by simp [h1]
    have hf2 : (E == 0) = false := by simp [h1]
    go_enter Tryz.func33, Tryz.ntmps33
    go_wp2_with fail
    rw [← hW1]
    refine HX.out.mono ?_
    rintro e W2 ⟨rfl, hb2⟩
    go_wp2
    go_ret
    exact ⟨rfl, bt hb1 hb2 hb1.size⟩
end Go.Proofs.YtiiiegflobihjaaGreat

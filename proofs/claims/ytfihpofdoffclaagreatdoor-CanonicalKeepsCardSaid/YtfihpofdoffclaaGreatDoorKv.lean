/- Texts of this claim, put together: U4 F0 U5 M1. -/
import Derived.Test.YtfihpofdoffclaaGreatDoorKu
import Derived.Test.YtfihpofdoffclaaGreatDoorKo
import Derived.Test.YtfihpofdoffclaaGreatDoorKp
import Derived.Test.YtfihpofdoffclaaGreatDoorKt
import Derived.Test.YtfihpofdoffclaaGreatDoorKs

/- Two adversaries side by side in one: they have the same canonical form exactly if no word tells their first states apart. Plain lists. -/
namespace Go.Proofs.YtfihpofdoffclaaGreatDoor

section
variable {xs ys : List (List (List Int))}
/-- Two small, well-formed adversaries of as many processes. -/
def TwoA (n : Int) (xs ys : List (List (List Int))) : Prop := ((∀ s ∈ xs, ∀ m ∈ s, m.length = 8) ∧ chkA n xs = 0) ∧ ((∀ s ∈ ys, ∀ m ∈ s, m.length = 8) ∧ chkA n ys = 0) ∧ xs.length + ys.length ≤ 90 ∧ movesN xs + movesN ys ≤ 90
variable {n : Int} (hW : TwoA n xs ys)
theorem SmA.cls {ss : List (List (List Int))} (h : SmA n ss) : ClsOK ss := clsOK_of h.1 h.2.1 h.2.2.1 h.2.2.2
theorem SmA.lead {ss : List (List (List Int))} (h : SmA n ss) : LeadOK ss := LeadOK.ofCls h.cls
theorem SmA.pos {ss : List (List (List Int))} (h : SmA n ss) : 0 < ss.length := h.cls.2.2.1
end
end Go.Proofs.YtfihpofdoffclaaGreatDoor

/- canonical.Verify. -/
namespace Go.Proofs.YtfihpofdoffclaaGreatDoor
open Go.RowKit

/-- The first states: word number i - 1 leads to state i. -/
def verGo (ss : List (List (List Int))) (ps : List (List (List Int))) : Nat → Nat → Bool
  | _, 0 => true
  | i, c + 1 => if afterI ss (ps.getD (i - 1) []) 0 = (i : Int) then verGo ss ps (i + 1) c else false
/-- The row of state i: each further word tells i from k. -/
def verRow (ss : List (List (List Int))) (ps : List (List (List Int))) (i : Nat) : Nat → Nat → Nat → Bool
  | _, 0, _ => true
  | k, c + 1, at' => if decide (afterI ss (ps.getD at' []) i < 0) == decide (afterI ss (ps.getD at' []) k < 0) then false else verRow ss ps i (k + 1) c (at' + 1)
def verAll (ss : List (List (List Int))) (ps : List (List (List Int))) : Nat → Nat → Nat → Bool
  | _, 0, _ => true
  | i, c + 1, at' => verRow ss ps i (i + 1) c at' && verAll ss ps (i + 1) c (at' + c)
def tri : Nat → Nat
  | 0 => 0
  | m + 1 => m + tri m
theorem tri_eq : ∀ n, 2 * tri n = n * (n - 1)
  | 0 => rfl
  | n + 1 => by
    have := tri_eq n
    rw [tri, Nat.mul_add, this, Nat.add_sub_cancel]
    cases n with
    | zero => rfl
    | succ m => simp only [Nat.add_sub_cancel, Nat.add_mul, Nat.mul_add, Nat.one_mul, Nat.mul_one]; omega
theorem tri_le {n : Nat} (h : n ≤ 90) : tri n ≤ 4005 := by
  have := tri_eq n
  have h2 : n * (n - 1) ≤ 90 * 89 := Nat.mul_le_mul h (by omega)
  omega
/-- The error of a proof. -/
def verI (n : Int) (ss : List (List (List Int))) (ps : List (List (List Int))) : Int :=
  if chkA n ss ≠ 0 then chkA n ss else if ps.length ≠ ss.length - 1 + tri ss.length then 15
  else if verGo ss ps 1 (ss.length - 1) && verAll ss ps 0 ss.length (ss.length - 1) then 0 else 18
theorem verProd {m : Nat} (h : 0 < m) : (m : Int) * ((m : Int) - 1) = ((2 * tri m : Nat) : Int) := by
  rw [tri_eq, Int.natCast_mul]
  congr 1
  omega

set_option maxRecDepth 100000 in
set_option maxHeartbeats 3200000 in
theorem verifyA {w : World} {v pv : Value} {n : Int} {ss ps : List (List (List Int))} (hA : AdvV w v n ss) (hl : ss.length ≤ 90) (hm : movesN ss ≤ 90) (hP : KSS 7 w pv ps) (h0 : chkA n ss = 0) (hM : LeadOK ss) (hlen : ps.length = ss.length - 1 + tri ss.length) :
    Calls Tryz.prog 29 #[v, pv] w fun e w' => e = .returned (.int .i64 (verI n ss ps)) ∧ Below w.heap.size w w' := by
  obtain ⟨sa, sc, hv⟩ := advShape' hA
  subst hv
  obtain ⟨W1, hW1⟩ : ∃ W1, W1 = w.alloc (.cells #[.int .i64 n, .slice sa ss.length sc] 24) := ⟨_, rfl⟩
  obtain ⟨hb1, p0, p1, _⟩ := boxAdv hW1
  have HC := checkA (hA.keep hb1) (by omega)
  have hpos := (chkA_facts h0).2.1.1
  rw [h0] at HC
  have hz : Hid (verI n ss ps = if verGo ss ps 1 (ss.length - 1) && verAll ss ps 0 ss.length (ss.length - 1) then 0 else 18) := by
    show _ = _
    rw [verI, if_neg (fun k => k h0), if_neg (fun k => k hlen)]
  obtain ⟨z, hzz⟩ : ∃ z, verI n ss ps = z := ⟨_, rfl⟩
  rw [hzz] at hz ⊢
  obtain ⟨pa, pc, pb, po, rfl, hpa, hpc, _⟩ := hP
  have HT := Lib.hid (fun W (hb : Below w.heap.size w W) (j : Nat) (hj : j < ss.length) (k : Nat) (hk : k < ps.length) u (hu : KS 7 w u (ps.getD k [])) => afterA (hA.keep hb) hM hj (hu.keep hb))
  obtain ⟨N, hN⟩ : ∃ N, ss.length = N := ⟨_, rfl⟩
  have htl := tri_le (n := N) (by omega)
  have hmul := verProd (m := N) (by omega)
  obtain ⟨T, hT⟩ : ∃ T, tri N = T := ⟨_, rfl⟩
  rw [hN] at hlen hz p1 hpos hW1 HT HC ⊢
  rw [hT] at hlen htl hmul
  have hq : (((2 * T : Nat) : Int)).tdiv 2 = (T : Int) := by rw [Int.natCast_mul]; exact Int.mul_tdiv_cancel_left _ (by decide)
  have hNi : ((N - 1 : Nat) : Int) = (N : Int) - 1 := by omega
  have hpl : (ps.length : Int) = (N : Int) - 1 + (T : Int) := by rw [hlen]; omega
  replace hpc := Lib.hid hpc
  replace HC := Lib.hid HC
  replace hN := Lib.hid hN
  replace hT := Lib.hid hT
  clear hA h0 hzz
  go_enter Tryz.func29, Tryz.ntmps29
  go_wp2_with fail
  rw [← hW1]
  refine HC.out.mono ?_
  rintro e W2 ⟨rfl, hb2⟩
  have q0 := cell_kept hb2 p0
  have q1 := cell_kept hb2 p1
  have hb02 := bt hb1 hb2 hb1.size
  replace hW1 := Lib.hid hW1
  go_wp2_with fail
  have h10 : Hid (verGo ss ps 1 (N - 1) = verGo ss ps 1 (N - 1)) := rfl
  obtain ⟨G1, hG1⟩ : ∃ G1, verGo ss ps 1 (N - 1) = G1 := ⟨_, rfl⟩
  have hG1' : Hid (verGo ss ps 1 (N - 1) = G1) := hG1
  rw [hG1] at hz
  have hmx : Tryz.prog.follows .mixedOrders = true := by kernel_rfl
  clear hG1 h10
  go_loopw [7, 8] (fun av iv wr => ∃ i : Nat, 1 ≤ i ∧ i ≤ N ∧ av = .int .i64 ((i - 1 : Nat) : Int) ∧ iv = .int .i64 i ∧ Hid (verGo ss ps i (N - i) = G1) ∧ Below W2.heap.size W2 wr) (fun _ iv _ => N - (intOf iv).toNat)
  case atStart => exact ⟨1, Nat.le_refl _, hpos, rfl, rfl, hG1', Below.refl _ _⟩
  case round =>
    obtain ⟨i, hi1, hi, rfl, rfl, hg, hbr⟩ := hrel
    by_cases hlt : i < N
    · have hbw := bt hb02 hbr hb02.size
      have hat : i - 1 < ps.length := by omega
      obtain rfl := hpa (by omega)
      obtain ⟨u, hcu, hu⟩ := hpc.out (i - 1) hat
      have hcu := cell_kept hbw hcu
      have x0 := cell_kept hbr q0
      have x1 := cell_kept hbr q1
      have HT1 := fun wq (hC : Below wr.heap.size wr wq) => HT.out wq (bt hbw hC hbw.size) 0 (by omega) (i - 1) hat u hu
      obtain ⟨ua, uc, hus⟩ := hu.shape
      subst hus
      obtain ⟨m, hm1⟩ : ∃ m, i - 1 = m := ⟨_, rfl⟩
      have him : i = m + 1 := by omega
      subst him
      have hf := Lib.hid (fun wq (hC : Below wr.heap.size wr wq) => And.intro (cell_kept hC hcu) (And.intro (cell_kept hC x0) (cell_kept hC x1)))
      simp only [Nat.add_sub_cancel] at hf HT1 hat
      obtain ⟨t, ht⟩ : ∃ t, afterI ss (ps.getD m []) 0 = t := ⟨_, rfl⟩
      simp only [ht] at HT1
      replace HT1 := Lib.hid HT1
      have hg2 := hg.out
      rw [show N - (m + 1) = (N - (m + 1 + 1)) + 1 by omega, verGo, Nat.add_sub_cancel, ht] at hg2
      have hix : (m : Int) < (N : Int) - 1 + (T : Int) := by omega
      clear hcu hu ht hg hm1
      simp only [Nat.add_sub_cancel]
      go_wp2_with fail
      refine wp_region_ball hmx (by kernel_rfl) ?_
      repeat (refine wpQuiet_step (fun K hK => ?_)
              go_simp
              first
                | (refine hK _ ?_; clear hK K)
                | (apply Exists.intro
                   refine ⟨fun wq hC => ?_, hK _ ?_⟩
                   · (first | with_reducible rfl | (obtain ⟨f0, f1, f2⟩ := hf.out wq hC; go_simp; first | done | with_reducible rfl | with_reducible exact ⟨rfl, rfl⟩))
                   clear hK K))
      (refine wpQuiet_step (fun K hK => ?_)
       go_simp
       first
         | (refine hK _ ?_; clear hK K)
         | (apply Exists.intro
            refine ⟨fun wq hC => ?_, hK _ ?_⟩
            · (refine (HT1.out wq hC).mono ?_; rintro e w' ⟨rfl, hb⟩; exact ⟨rfl, bt hC hb hC.size⟩)
            clear hK K))
      repeat (refine wpQuiet_step (fun K hK => ?_)
              go_simp
              first
                | (refine hK _ ?_; clear hK K)
                | (apply Exists.intro
                   refine ⟨fun wq hC => ?_, hK _ ?_⟩
                   · (first | with_reducible rfl | (obtain ⟨f0, f1, f2⟩ := hf.out wq hC; go_simp; first | done | with_reducible rfl | with_reducible exact ⟨rfl, rfl⟩))
                   clear hK K))
      refine wpQuiet_nil ?_
      intro w4 hb4
      have hb4w := btt hbr hb4
      by_cases hti : t = (m : Int) + 1
      · rw [if_pos (by omega)] at hg2
        subst hti
        have hg3 : Hid (verGo ss ps (m + 1 + 1) (N - (m + 1 + 1)) = G1) := hg2
        clear hg2
        go_wp2
        go_roundw
        case rel => exact ⟨m + 1 + 1, by omega, by omega, by go_num, by go_num, hg3, hb4w⟩
        case measure => simp [intOf]; omega
      · have hne : (t == (m : Int) + 1) = false := by simp [hti]
        rw [if_neg (by omega)] at hg2
        have hz2 : Hid (z = 18) := by show _ = _; rw [hz.out, ← hg2]; rfl
        clear hg2 hti
        go_wp2
        go_ret
        exact ⟨by rw [hz2.out]; rfl, bt hb02 hb4w hb02.size⟩
    · obtain rfl : N = i := by omega
      have hG1t : G1 = true := by rw [← hg.out, Nat.sub_self]; rfl
      rw [hG1t, Bool.true_and] at hz
      obtain ⟨G2, hG2⟩ : ∃ G2, verAll ss ps 0 N (N - 1) = G2 := ⟨_, rfl⟩
      rw [hG2] at hz
      have hg0 : Hid (verAll ss ps 0 (N - 0) (N - 1) = G2) := hG2
      have hc0 : Hid (N - 1 + tri (N - 0) = N - 1 + T) := by show _ = _; rw [Nat.sub_zero, hT.out]
      clear hg hG1' hG2 hG1t hi1 hi hlt
      go_wp2_with fail
      go_loopw [7, 46] (fun av iv wr => ∃ i at' : Nat, av = .int .i64 at' ∧ iv = .int .i64 i ∧ i ≤ N ∧ Hid (at' + tri (N - i) = N - 1 + T) ∧ Hid (verAll ss ps i (N - i) at' = G2) ∧ Below W2.heap.size W2 wr) (fun _ iv _ => N - (intOf iv).toNat)
      case atStart => exact ⟨0, N - 1, by first | rfl | (congr 1; omega), rfl, by omega, hc0, hg0, hbr⟩
      case round =>
        clear hg0 hc0 hbr
        obtain ⟨i, at', rfl, rfl, hi, hc, hg, hbr⟩ := hrel
        by_cases hlt : i < N
        · have hg2 := hg.out
          have hc2 := hc.out
          rw [show N - i = (N - (i + 1)) + 1 by omega, verAll] at hg2
          rw [show N - i = (N - (i + 1)) + 1 by omega, tri] at hc2
          obtain ⟨A1, hA1⟩ : ∃ A1, verRow ss ps i (i + 1) (N - (i + 1)) at' = A1 := ⟨_, rfl⟩
          obtain ⟨A2, hA2⟩ : ∃ A2, verAll ss ps (i + 1) (N - (i + 1)) (at' + (N - (i + 1))) = A2 := ⟨_, rfl⟩
          rw [hA1, hA2] at hg2
          obtain ⟨R, hR⟩ : ∃ R, tri (N - (i + 1)) = R := ⟨_, rfl⟩
          rw [hR] at hc2
          replace hg2 := Lib.hid hg2
          replace hA1 := Lib.hid hA1
          replace hA2 := Lib.hid hA2
          replace hR := Lib.hid hR
          clear hg hc
          obtain ⟨wo, hwo⟩ : ∃ wo, wo = wr := ⟨_, rfl⟩
          subst hwo
          go_wp2_with fail
          go_loopw [7, 10] (fun av kv wr => ∃ k b : Nat, av = .int .i64 b ∧ kv = .int .i64 k ∧ i + 1 ≤ k ∧ k ≤ N ∧ b + (i + 1) = at' + k ∧ Hid (verRow ss ps i k (N - k) b = A1) ∧ Below W2.heap.size W2 wr) (fun _ kv _ => N - (intOf kv).toNat)
          case atStart => exact ⟨i + 1, at', rfl, by first | rfl | go_num, Nat.le_refl _, by omega, rfl, hA1, hbr⟩
          case round =>
            clear hA1 hbr
            obtain ⟨k, b, rfl, rfl, hik, hk, hbk, hgr, hbr⟩ := hrel
            by_cases hltk : k < N
            · have hbw := bt hb02 hbr hb02.size
              have hbl : b < ps.length := by omega
              obtain rfl := hpa (by omega)
              obtain ⟨u, hcu, hu⟩ := hpc.out b hbl
              have hcu := cell_kept hbw hcu
              have x0 := cell_kept hbr q0
              have x1 := cell_kept hbr q1
              have HT1 := fun wq (hC : Below wr.heap.size wr wq) => HT.out wq (bt hbw hC hbw.size) i hlt b hbl u hu
              have HT2 := fun wq (hC : Below wr.heap.size wr wq) => HT.out wq (bt hbw hC hbw.size) k hltk b hbl u hu
              obtain ⟨ua, uc, hus⟩ := hu.shape
              subst hus
              have hf := Lib.hid (fun wq (hC : Below wr.heap.size wr wq) => And.intro (cell_kept hC hcu) (And.intro (cell_kept hC x0) (cell_kept hC x1)))
              have hg3 := hgr.out
              rw [show N - k = (N - (k + 1)) + 1 by omega, verRow] at hg3
              obtain ⟨s, hs⟩ : ∃ s, afterI ss (ps.getD b []) i = s := ⟨_, rfl⟩
              obtain ⟨t, ht⟩ : ∃ t, afterI ss (ps.getD b []) k = t := ⟨_, rfl⟩
              rw [hs, ht] at hg3
              simp only [hs] at HT1
              simp only [ht] at HT2
              replace HT1 := Lib.hid HT1
              replace HT2 := Lib.hid HT2
              have hix : (b : Int) < (N : Int) - 1 + (T : Int) := by omega
              obtain ⟨S, hS⟩ : ∃ S, decide (s < 0) = S := ⟨_, rfl⟩
              obtain ⟨U, hU⟩ : ∃ U, decide (t < 0) = U := ⟨_, rfl⟩
              rw [hS, hU] at hg3
              replace hg3 := Lib.hid hg3
              clear hcu hu hs ht hgr
              go_wp2_with fail
              refine wp_region_ball hmx (by kernel_rfl) ?_
              repeat (refine wpQuiet_step (fun K hK => ?_)
                      go_simp
                      first
                        | (refine hK _ ?_; clear hK K)
                        | (apply Exists.intro
                           refine ⟨fun wq hC => ?_, hK _ ?_⟩
                           · (first | with_reducible rfl | (obtain ⟨f0, f1, f2⟩ := hf.out wq hC; go_simp; first | done | with_reducible rfl | with_reducible exact ⟨rfl, rfl⟩))
                           clear hK K))
              (refine wpQuiet_step (fun K hK => ?_)
               go_simp
               first
                 | (refine hK _ ?_; clear hK K)
                 | (apply Exists.intro
                    refine ⟨fun wq hC => ?_, hK _ ?_⟩
                    · (refine (HT1.out wq hC).mono ?_; rintro e w' ⟨rfl, hb⟩; exact ⟨rfl, bt hC hb hC.size⟩)
                    clear hK K))
              repeat (refine wpQuiet_step (fun K hK => ?_)
                      go_simp
                      first
                        | (refine hK _ ?_; clear hK K)
                        | (apply Exists.intro
                           refine ⟨fun wq hC => ?_, hK _ ?_⟩
                           · (first | with_reducible rfl | (obtain ⟨f0, f1, f2⟩ := hf.out wq hC; go_simp; first | done | with_reducible rfl | with_reducible exact ⟨rfl, rfl⟩))
                           clear hK K))
              (refine wpQuiet_step (fun K hK => ?_)
               go_simp
               first
                 | (refine hK _ ?_; clear hK K)
                 | (apply Exists.intro
                    refine ⟨fun wq hC => ?_, hK _ ?_⟩
                    · (refine (HT2.out wq hC).mono ?_; rintro e w' ⟨rfl, hb⟩; exact ⟨rfl, bt hC hb hC.size⟩)
                    clear hK K))
              repeat (refine wpQuiet_step (fun K hK => ?_)
                      go_simp
                      first
                        | (refine hK _ ?_; clear hK K)
                        | (apply Exists.intro
                           refine ⟨fun wq hC => ?_, hK _ ?_⟩
                           · (first | with_reducible rfl | (obtain ⟨f0, f1, f2⟩ := hf.out wq hC; go_simp; first | done | with_reducible rfl | with_reducible exact ⟨rfl, rfl⟩))
                           clear hK K))
              refine wpQuiet_nil ?_
              intro w4 hb4
              have hb4w := btt hbr hb4
              by_cases hSU : S = U
              · subst hSU
                have hA : A1 = false := by
                  rw [← hg3.out]; cases S <;> rfl
                have hz2 : Hid (z = 18) := by
                  show _ = _; rw [hz.out, ← hg2.out, hA]; rfl
                clear hA hg3
                cases S <;> (
                  go_wp2
                  go_ret
                  exact ⟨by rw [hz2.out]; rfl, bt hb02 hb4w hb02.size⟩)
              · have hg4 : Hid (verRow ss ps i (k + 1) (N - (k + 1)) (b + 1) = A1) := by
                  have h := hg3.out
                  rw [show (S == U) = false by cases S <;> cases U <;> simp_all] at h
                  exact h
                have hSU2 : (S = true ∧ U = false) ∨ (S = false ∧ U = true) := by cases S <;> cases U <;> simp_all
                clear hSU hg3
                rcases hSU2 with ⟨rfl, rfl⟩ | ⟨rfl, rfl⟩ <;> (
                  go_wp2
                  go_roundw
                  case rel => exact ⟨k + 1, b + 1, by go_num, by go_num, by omega, by omega, by omega, hg4, hb4w⟩
                  case measure => simp [intOf]; omega)
            · obtain rfl : N = k := by omega
              have hA : A1 = true := by rw [← hgr.out, Nat.sub_self]; rfl
              have hg5 : Hid (verAll ss ps (i + 1) (N - (i + 1)) b = G2) := by
                show _ = _
                rw [← hg2.out, hA, Bool.true_and, ← hA2.out]
                congr 1
                omega
              have hc5 : Hid (b + tri (N - (i + 1)) = N - 1 + T) := by show _ = _; rw [hR.out]; omega
              clear hA hg2 hA2 hgr
              go_wp2
              go_roundw
              case rel => exact ⟨i + 1, b, rfl, by go_num, hlt, hc5, hg5, hbr⟩
              case measure => simp [intOf]; omega
        · have hz2 : Hid (z = 0) := by
            show _ = _
            rw [hz.out, ← hg.out, show N - i = 0 by omega]; rfl
          clear hg hc
          go_wp2
          go_ret
          exact ⟨by rw [hz2.out]; rfl, bt hb02 hbr hb02.size⟩
end Go.Proofs.YtfihpofdoffclaaGreatDoor

/- Minimal adversaries and their proofs. Plain lists. -/
namespace Go.Proofs.YtfihpofdoffclaaGreatDoor

/-- The words that lead to the states. -/
def wds (n : Nat) (fs : List (Nat × List Int)) : List (List (List Int)) := fs.foldl (fun W f => W.set (mvTo f.2) (W.getD f.1 [] ++ [rdOf f.2])) (List.replicate n [])
theorem wds_snoc (n : Nat) (fs : List (Nat × List Int)) (f : Nat × List Int) : wds n (fs ++ [f]) = (wds n fs).set (mvTo f.2) ((wds n fs).getD f.1 [] ++ [rdOf f.2]) := by simp [wds]
theorem wds_fold_len (fs : List (Nat × List Int)) : ∀ W : List (List (List Int)), (fs.foldl (fun W f => W.set (mvTo f.2) (W.getD f.1 [] ++ [rdOf f.2])) W).length = W.length := by
  induction fs with
  | nil => intro W; rfl
  | cons f fs ih => intro W; rw [List.foldl_cons, ih, List.length_set]
theorem wds_len (n : Nat) (fs : List (Nat × List Int)) : (wds n fs).length = n := by rw [wds, wds_fold_len, List.length_replicate]
theorem wds_fold_le (fs : List (Nat × List Int)) : ∀ (W : List (List (List Int))) (b : Nat), (∀ i, (W.getD i []).length ≤ b) → ∀ i, ((fs.foldl (fun W f => W.set (mvTo f.2) (W.getD f.1 [] ++ [rdOf f.2])) W).getD i []).length ≤ b + fs.length := by
  induction fs with
  | nil => intro W b h i; simpa using h i
  | cons f fs ih =>
    intro W b h i
    rw [List.foldl_cons]
    refine Nat.le_trans (ih _ (b + 1) (fun j => ?_) i) (by simp only [List.length_cons]; omega)
    rw [List.getD_eq_getElem?_getD, List.getElem?_set]
    split
    · split
      · simp only [Option.getD_some, List.length_append, List.length_cons, List.length_nil]; have := h f.1; omega
      · simp
    · have := h j; rw [List.getD_eq_getElem?_getD] at this; omega
theorem wds_le (n : Nat) (fs : List (Nat × List Int)) (i : Nat) : ((wds n fs).getD i []).length ≤ fs.length := by
  have := wds_fold_le fs (List.replicate n []) 0 (fun i => by
    rw [List.getD_eq_getElem?_getD, List.getElem?_replicate]; split <;> simp) i
  rw [Nat.zero_add] at this; exact this

def minB (ss : List (List (List Int))) : Bool := decide ((ordI ss).1.length = ss.length) && decide (mxN (part ss) + 1 = ss.length)
def prRow (ss : List (List (List Int))) (i k : Nat) : Nat → List (List (List Int))
  | 0 => []
  | m + 1 => (dist ss i k).getD [] :: prRow ss i (k + 1) m
def prAll (ss : List (List (List Int))) (i : Nat) : Nat → List (List (List Int))
  | 0 => []
  | m + 1 => prRow ss i (i + 1) m ++ prAll ss (i + 1) m
def prvL (ss : List (List (List Int))) : List (List (List Int)) := (wds ss.length (ordI ss).2).drop 1 ++ prAll ss 0 ss.length
theorem prRow_len (ss : List (List (List Int))) (i : Nat) : ∀ m k, (prRow ss i k m).length = m
  | 0, _ => rfl
  | m + 1, k => by rw [prRow, List.length_cons, prRow_len ss i m]
theorem prAll_len (ss : List (List (List Int))) : ∀ m i, (prAll ss i m).length = tri m
  | 0, _ => rfl
  | m + 1, i => by rw [prAll, List.length_append, prRow_len, prAll_len ss m, tri]

/-- Of the search: each new state is met from one that was met, by one of its moves. -/
def FsOK (ss : List (List (List Int))) (st : List Nat × List (Nat × List Int)) : Prop :=
  st.1 = 0 :: st.2.map (fun f => mvTo f.2) ∧ st.1.Nodup ∧ (∀ x ∈ st.1, x < ss.length) ∧ (∀ f ∈ st.2, f.2 ∈ ss.getD f.1 []) ∧
  (∀ x ∈ st.1, afterI ss ((wds ss.length st.2).getD x []) 0 = (x : Int)) ∧ ∀ f ∈ st.2, f.1 ∈ st.1
theorem FsOK.step {ss : List (List (List Int))} (hM : LeadOK ss) (hA : ∀ s ∈ ss, AscL (s.map rdOf)) {st : List Nat × List (Nat × List Int)} (h : FsOK ss st) {s : Nat} {m : List Int} (hs : s ∈ st.1) (hm : m ∈ ss.getD s []) (hn : mvTo m ∉ st.1) :
    FsOK ss (st.1 ++ [mvTo m], st.2 ++ [(s, m)]) := by
  obtain ⟨h1, h2, h3, h4, h5, h6⟩ := h
  have hsl := h3 s hs
  have hsm : ss.getD s [] ∈ ss := by rw [getD_eq hsl]; exact List.getElem_mem hsl
  have hto := hM _ hsm m hm
  have hlt : mvTo m < ss.length := by unfold mvTo; omega
  have hwl := wds_len ss.length st.2
  refine ⟨?_, ?_, ?_, ?_, ?_, ?_⟩
  · show st.1 ++ [mvTo m] = 0 :: (st.2 ++ [(s, m)]).map _
    rw [h1]; simp
  · show (st.1 ++ [mvTo m]).Nodup
    rw [List.nodup_append]
    refine ⟨h2, by simp, fun a ha b hb e => ?_⟩
    rw [List.mem_singleton.1 hb] at e
    exact hn (e ▸ ha)
  · intro x hx
    rcases List.mem_append.1 hx with hx | hx
    · exact h3 x hx
    · rw [List.mem_singleton.1 hx]; exact hlt
  · intro f hf
    rcases List.mem_append.1 hf with hf | hf
    · exact h4 f hf
    · rw [List.mem_singleton.1 hf]; exact hm
  · intro x hx
    show afterI ss ((wds ss.length (st.2 ++ [(s, m)])).getD x []) 0 = _
    rw [wds_snoc]
    rcases List.mem_append.1 hx with hx | hx
    · have hne : mvTo m ≠ x := fun e => hn (e ▸ hx)
      rw [List.getD_eq_getElem?_getD, List.getElem?_set_ne hne, ← List.getD_eq_getElem?_getD]
      exact h5 x hx
    · rw [List.mem_singleton.1 hx, List.getD_eq_getElem?_getD, List.getElem?_set_self (by rw [hwl]; exact hlt), Option.getD_some]
      show afterI ss ((wds ss.length st.2).getD s [] ++ [rdOf m]) 0 = _
      rw [afterI_app, h5 s hs, if_neg (by omega), Int.toNat_natCast, afterI_one, toI_mem (hA _ hsm) hm, if_neg (by omega)]
      unfold mvTo; omega
  · intro f hf
    rcases List.mem_append.1 hf with hf | hf
    · exact List.mem_append_left _ (h6 f hf)
    · rw [List.mem_singleton.1 hf]; exact List.mem_append_left _ hs
end Go.Proofs.YtfihpofdoffclaaGreatDoor

/- canonical.Prove: the words of the search, and its second function. -/
namespace Go.Proofs.YtfihpofdoffclaaGreatDoor
open Go.RowKit Go.ChangeMaps Go.MapKept

/-- A word in a cell. -/
def EWd (w : World) (cs : List Value) (x : List (List Int)) : Prop := ∃ u, cs = [u] ∧ OwX 79 7 EI w 0 u x.length x
theorem EWd.stab {E : TypeId} (h : 79 ≠ E) : Stab E EWd := fun _ _ _ _ ⟨u, h1, h2⟩ hx => ⟨u, h1, h2.other (EI.stab _) h hx⟩
theorem OwX.same {E : TypeId} {k : Nat} {w w' : World} {B n : Nat} {v : Value} {xs : List (List Int)} (h : OwX E k EI w B v n xs) (hk : ∀ g, v.ownBlock = some g → w'.heap[g]? = w.heap[g]?) : OwX E k EI w' B v n xs := by
  obtain ⟨vs, h1, h2, h3, h4⟩ := h
  refine ⟨vs, ⟨h1.1, ?_⟩, h2, h3, h4⟩
  rcases h1.2 with h' | ⟨g, cap, cur, k1, k2, k3, k4⟩
  · exact .inl h'
  · exact .inr ⟨g, cap, cur, k1, k2, (hk g (by rw [k1]; rfl)).trans k3, k4⟩
theorem cell_same {w w' : World} {b : Nat} (h : w'.heap[b]? = w.heap[b]?) (o : Nat) : w'.cell? ⟨b, o, none⟩ = w.cell? ⟨b, o, none⟩ := by simp [World.cell?, h]
theorem row_set_other {w : World} {g q s : Nat} {v : Value} {cs : Array Value} {t : TypeId} (h : w.heap[g]? = some (.cells cs t)) (hne : s ≠ q) : (w.setCell ⟨g, q, none⟩ v).cell? ⟨g, s, none⟩ = w.cell? ⟨g, s, none⟩ := by
  rw [cell_of_row _ _ s _ _ _ (heap_setCell_same w g q _ t v h), cell_of_row _ _ s _ _ _ h, Array.getElem?_setIfInBounds_ne (Ne.symm hne)]

/-- What Prove asks of the words. -/
def JP (n bw gw : Nat) (fs : List (Nat × List Int)) (D : Nat → Prop) (W : World) : Prop :=
  D bw ∧ D gw ∧ bw ≠ gw ∧ W.heap[bw]? = some (.cells #[.slice (some ⟨gw, 0, none⟩) n n] 56) ∧
  (∃ cs, W.heap[gw]? = some (.cells cs 45) ∧ cs.size = n ∧ ∀ i, i < n → ∃ u, cs[i]? = some u ∧ OwX 79 7 EI W 0 u ((wds n fs).getD i []).length ((wds n fs).getD i []) ∧ ∀ k, u.ownBlock = some k → D k) ∧
  (0 :: fs.map fun f => mvTo f.2).Nodup ∧ ∀ x ∈ fs.map (fun f => mvTo f.2), x < n
theorem JP.stable (n bw gw : Nat) : Stable (JP n bw gw) := by
  intro fs D W W' ⟨h1, h2, h3, h4, ⟨cs, h5, h6, h7⟩, h8⟩ _ hk
  exact ⟨h1, h2, h3, (hk bw h1).trans h4, ⟨cs, (hk gw h2).trans h5, h6, fun i hi => let ⟨u, k1, k2, k3⟩ := h7 i hi; ⟨u, k1, k2.same fun g hg => hk g (k3 g hg), k3⟩⟩, h8⟩
theorem JP.len {n bw gw : Nat} {fs : List (Nat × List Int)} {D : Nat → Prop} {W : World} (h : JP n bw gw fs D W) : fs.length ≤ n := by
  obtain ⟨_, _, _, _, _, h1, h2⟩ := h
  have := nodup_lt_le (List.nodup_cons.1 h1).2 h2
  rwa [List.length_map] at this

set_option maxRecDepth 100000 in
set_option maxHeartbeats 1600000 in
theorem foundProve {W : World} {n bw gw : Nat} {fs : List (Nat × List Int)} {D : Nat → Prop} (hJ : JP n bw gw fs D W) (hBd : Bd D W) (hn : n ≤ 1000) {s : Nat} {y0 y1 y2 y3 y4 y5 y6 : Int} {q : Nat} (hs : s < n) (hq : q < n)
    (hsm : s ∈ 0 :: fs.map fun f => mvTo f.2) (hqm : q ∉ 0 :: fs.map fun f => mvTo f.2) :
    Calls Tryz.prog 61 #[.int .i64 (s : Int), .agg #[.int .i64 y0, .int .i64 y1, .int .i64 y2, .int .i64 y3, .int .i64 y4, .int .i64 y5, .int .i64 y6, .int .i64 (q : Int)], .pointer (some ⟨bw, 0, none⟩)] W fun e W' =>
      e = .returned (.tuple #[]) ∧ ∃ D', Only D W W' ∧ Gr D W D' ∧ Bd D' W' ∧ JP n bw gw (fs ++ [(s, [y0, y1, y2, y3, y4, y5, y6, (q : Int)])]) D' W' := by
  have hfl := hJ.len
  obtain ⟨hDb, hDg, hbg, hbox, ⟨cs, hrow, hcn, hel⟩, hnd, hlt⟩ := hJ
  have hsq : s ≠ q := fun e => hqm (e ▸ hsm)
  have hmq : mvTo [y0, y1, y2, y3, y4, y5, y6, (q : Int)] = q := by show ((q : Int)).toNat = q; omega
  obtain ⟨u, hcu, hu, hud⟩ := hel s hs
  obtain ⟨uq, hcq, _, _⟩ := hel q hq
  have hwl := wds_le n fs s
  have hws := wds_snoc n fs (s, [y0, y1, y2, y3, y4, y5, y6, (q : Int)])
  rw [hmq] at hws
  replace hws : wds n (fs ++ [(s, [y0, y1, y2, y3, y4, y5, y6, (q : Int)])]) = (wds n fs).set q ((wds n fs).getD s [] ++ [[y0, y1, y2, y3, y4, y5, y6]]) := hws
  obtain ⟨wd, hwd⟩ : ∃ wd, (wds n fs).getD s [] = wd := ⟨_, rfl⟩
  rw [hwd] at hu hwl hws
  obtain ⟨ua, uc, hus⟩ := hu.shape
  subst hus
  have hgl : gw < W.heap.size := hBd gw hDg
  have hbl : bw < W.heap.size := hBd bw hDb
  obtain ⟨W1, hW1⟩ : ∃ W1, W1 = W.alloc (.cells #[.int .i64 y0, .int .i64 y1, .int .i64 y2, .int .i64 y3, .int .i64 y4, .int .i64 y5, .int .i64 y6, .int .i64 (q : Int)] 84) := ⟨_, rfl⟩
  have hb1 : Below W.heap.size W W1 := by rw [hW1]; exact (Below.refl _ _).alloc (Nat.le_refl _) _
  have m1 : W1.heap[W.heap.size]? = some (.cells #[.int .i64 y0, .int .i64 y1, .int .i64 y2, .int .i64 y3, .int .i64 y4, .int .i64 y5, .int .i64 y6, .int .i64 (q : Int)] 84) := by rw [hW1]; exact heap_alloc_new _ _
  have hs1 : W.heap.size < W1.heap.size := by rw [hW1]; simp
  have hrow1 := (hb1.block _ hgl).trans hrow
  have hbox1 := (hb1.block _ hbl).trans hbox
  have cb := cell_of_one hbox1
  have cs1 : W1.cell? ⟨gw, s, none⟩ = some (.slice ua wd.length uc) := by rw [cell_of_row _ _ s _ _ _ hrow1]; exact hcu
  have cq1 : W1.cell? ⟨gw, q, none⟩ = some uq := by rw [cell_of_row _ _ q _ _ _ hrow1]; exact hcq
  obtain ⟨p0, p1, p2, p3, p4, p5, p6, p7⟩ := box8 m1
  have hu1 := OwX.keep (EI.stab _) hu hb1
  have KS2 : Hid (∀ X, Below W1.heap.size W1 X → X.cell? ⟨bw, 0, none⟩ = some (.slice (some ⟨gw, 0, none⟩) n n) ∧ X.cell? ⟨gw, s, none⟩ = some (.slice ua wd.length uc) ∧ X.cell? ⟨W.heap.size, 0, none⟩ = some (.int .i64 y0) ∧ X.cell? ⟨W.heap.size, 1, none⟩ = some (.int .i64 y1) ∧ X.cell? ⟨W.heap.size, 2, none⟩ = some (.int .i64 y2) ∧ X.cell? ⟨W.heap.size, 3, none⟩ = some (.int .i64 y3) ∧ X.cell? ⟨W.heap.size, 4, none⟩ = some (.int .i64 y4) ∧ X.cell? ⟨W.heap.size, 5, none⟩ = some (.int .i64 y5) ∧ X.cell? ⟨W.heap.size, 6, none⟩ = some (.int .i64 y6) ∧ X.cell? ⟨W.heap.size, 7, none⟩ = some (.int .i64 (q : Int))) :=
    fun X hX => ⟨cell_kept hX cb, cell_kept hX cs1, cell_kept hX p0, cell_kept hX p1, cell_kept hX p2, cell_kept hX p3, cell_kept hX p4, cell_kept hX p5, cell_kept hX p6, cell_kept hX p7⟩
  have KS3 : Hid (∀ X, Below W1.heap.size W1 X → ∀ v, (X.setCell ⟨gw, q, none⟩ v).cell? ⟨bw, 0, none⟩ = some (.slice (some ⟨gw, 0, none⟩) n n) ∧ (X.setCell ⟨gw, q, none⟩ v).cell? ⟨gw, s, none⟩ = some (.slice ua wd.length uc) ∧ (X.setCell ⟨gw, q, none⟩ v).cell? ⟨W.heap.size, 0, none⟩ = some (.int .i64 y0) ∧ (X.setCell ⟨gw, q, none⟩ v).cell? ⟨W.heap.size, 1, none⟩ = some (.int .i64 y1) ∧ (X.setCell ⟨gw, q, none⟩ v).cell? ⟨W.heap.size, 2, none⟩ = some (.int .i64 y2) ∧ (X.setCell ⟨gw, q, none⟩ v).cell? ⟨W.heap.size, 3, none⟩ = some (.int .i64 y3) ∧ (X.setCell ⟨gw, q, none⟩ v).cell? ⟨W.heap.size, 4, none⟩ = some (.int .i64 y4) ∧ (X.setCell ⟨gw, q, none⟩ v).cell? ⟨W.heap.size, 5, none⟩ = some (.int .i64 y5) ∧ (X.setCell ⟨gw, q, none⟩ v).cell? ⟨W.heap.size, 6, none⟩ = some (.int .i64 y6) ∧ (X.setCell ⟨gw, q, none⟩ v).cell? ⟨W.heap.size, 7, none⟩ = some (.int .i64 (q : Int))) := fun X hX v => by
    have hb : (X.setCell ⟨gw, q, none⟩ v).heap[bw]? = X.heap[bw]? := heap_setCell_other hbg
    have hm : (X.setCell ⟨gw, q, none⟩ v).heap[W.heap.size]? = X.heap[W.heap.size]? := heap_setCell_other (by show W.heap.size ≠ gw; omega)
    have hr := row_set_other (v := v) ((hX.block _ (by omega)).trans hrow1) hsq
    rw [cell_same hb, hr]
    simp only [cell_same hm]
    exact KS2.out X hX
  have HCl := Lib.hid (fun W' (hW : Below W1.heap.size W1 W') => cloneRdK (OwX.ks (OwX.keep (EI.stab _) hu1 hW) (by omega)) (by omega))
  have hc7 : ∀ u ∈ ([.int .i64 y0, .int .i64 y1, .int .i64 y2, .int .i64 y3, .int .i64 y4, .int .i64 y5, .int .i64 y6] : List Value), u.oneCell' = true := fun u hu => by
    simp only [List.mem_cons, List.not_mem_nil, or_false] at hu
    rcases hu with rfl | rfl | rfl | rfl | rfl | rfl | rfl <;> rfl
  have hw9 : wd.length ≤ 1000000000000 := by omega
  have hbA : Below W1.heap.size W1 W1.drew := (Below.refl _ W1).drew
  have hbB : Below W1.heap.size W1 (W1.alloc (.cells #[.int .i64 y0, .int .i64 y1, .int .i64 y2, .int .i64 y3, .int .i64 y4, .int .i64 y5, .int .i64 y6] 79)).drew := ((Below.refl _ W1).alloc (Nat.le_refl _) _).drew
  have his : (s : Int) < (n : Int) := by omega
  have hiq : (q : Int) < (n : Int) := by omega
  have hh := Lib.hid (And.intro hel (And.intro hws (And.intro hnd (And.intro hlt (And.intro hqm (And.intro hcn hrow))))))
  have hrow1h := Lib.hid hrow1
  have hboxh := Lib.hid hbox
  have hmx : Tryz.prog.follows .mixedOrders = true := by kernel_rfl
  clear hel hws hwd hnd hlt hsm hqm hcn hrow hrow1 hbox hbox1 hu hu1 m1 hcu hcq hud
  go_enter Tryz.func61, Tryz.ntmps61
  go_wp2_with fail
  rw [← hW1]
  replace hW1 := Lib.hid hW1
  go_region_held3 (fun w' => w'.cell? ⟨bw, 0, none⟩ = some (.slice (some ⟨gw, 0, none⟩) n n) ∧ w'.cell? ⟨gw, s, none⟩ = some (.slice ua wd.length uc) ∧ w'.cell? ⟨W.heap.size, 0, none⟩ = some (.int .i64 y0) ∧ w'.cell? ⟨W.heap.size, 1, none⟩ = some (.int .i64 y1) ∧ w'.cell? ⟨W.heap.size, 2, none⟩ = some (.int .i64 y2) ∧ w'.cell? ⟨W.heap.size, 3, none⟩ = some (.int .i64 y3) ∧ w'.cell? ⟨W.heap.size, 4, none⟩ = some (.int .i64 y4) ∧ w'.cell? ⟨W.heap.size, 5, none⟩ = some (.int .i64 y5) ∧ w'.cell? ⟨W.heap.size, 6, none⟩ = some (.int .i64 y6) ∧ w'.cell? ⟨W.heap.size, 7, none⟩ = some (.int .i64 (q : Int)))
    (first
      | go_keep
      | (refine KS3.out _ ?_ _; with_reducible exact hP7)
      | (refine KS2.out _ ?_; repeat (first | with_reducible exact hP7 | with_reducible exact hP6 | with_reducible exact Below.refl _ _ | refine Below.drew ?_ | refine Below.alloc ?_ (by first | exact hP6.size | (simp; done)) _)))
    (first
      | (go_at_call 62; (with_reducible refine (HCl.out W1.drew hbA).mono ?_); rintro e w6 ⟨u6, rfl, ho6, hb6⟩; obtain ⟨a6, c6, rfl⟩ := ho6.shape; have hP6 : Below W1.heap.size W1 w6 := below_of hbA hb6 (Nat.le_refl _); have ho6b := ho6.base (B' := W1.heap.size) hbA.size; have ho6A := OwX.keep (EI.stab _) ho6b ((Below.refl w6.heap.size w6).alloc (Nat.le_refl _) (.cells #[.int .i64 y0, .int .i64 y1, .int .i64 y2, .int .i64 y3, .int .i64 y4, .int .i64 y5, .int .i64 y6] 79)); have hnA := World.news_of_block (heap_alloc_new w6 (.cells #[.int .i64 y0, .int .i64 y1, .int .i64 y2, .int .i64 y3, .int .i64 y4, .int .i64 y5, .int .i64 y6] 79)); have hBA : W1.heap.size ≤ (w6.alloc (.cells #[.int .i64 y0, .int .i64 y1, .int .i64 y2, .int .i64 y3, .int .i64 y4, .int .i64 y5, .int .i64 y6] 79)).heap.size := (by rw [World.size_alloc]; exact Nat.le_succ_of_le hP6.size))
      | (go_at_call 62; (with_reducible refine (HCl.out (W1.alloc (.cells #[.int .i64 y0, .int .i64 y1, .int .i64 y2, .int .i64 y3, .int .i64 y4, .int .i64 y5, .int .i64 y6] 79)).drew hbB).mono ?_); rintro e w6 ⟨u6, rfl, ho6, hb6⟩; obtain ⟨a6, c6, rfl⟩ := ho6.shape; have hP6 : Below W1.heap.size W1 w6 := below_of hbB hb6 (Nat.le_refl _); have ho6b := ho6.base (B' := W1.heap.size) hbB.size; have ho6B := ho6b; have hnB := World.news_of_block (zkeep hb6); have hBB := hP6.size)
      | ((refine step_appX (B := W1.heap.size) (cs := [.int .i64 y0, .int .i64 y1, .int .i64 y2, .int .i64 y3, .int .i64 y4, .int .i64 y5, .int .i64 y6]) (x := [y0, y1, y2, y3, y4, y5, y6]) elemRd (by decide) (by decide) (EI.stab _) (by rfl) _ _ (by rfl) (by rfl) ho6B ⟨W1.heap.size, 0, none⟩ 1 (by rfl) rfl hnB hc7 rfl hw9 hBB ?_; intro v7 w7 ho7 hg7 hn7 hb7 hx7; have hP7 : Below W1.heap.size W1 w7 := hP6.trans hb7; have hr7 := (hP7.block gw (Nat.lt_trans hgl hs1)).trans hrow1h.out; have hf7 := row_free hr7 q; have hq7 := cell_kept hP7 cq1; obtain ⟨va7, vc7, rfl⟩ := ho7.shape; replace hr7 := Lib.hid hr7))
      | ((refine step_appX (B := W1.heap.size) (cs := [.int .i64 y0, .int .i64 y1, .int .i64 y2, .int .i64 y3, .int .i64 y4, .int .i64 y5, .int .i64 y6]) (x := [y0, y1, y2, y3, y4, y5, y6]) elemRd (by decide) (by decide) (EI.stab _) (by rfl) _ _ (by rfl) (by rfl) ho6A ⟨w6.heap.size, 0, none⟩ 1 (by rfl) rfl hnA hc7 rfl hw9 hBA ?_; intro v7 w7 ho7 hg7 hn7 hb7 hx7; have hP7 : Below W1.heap.size W1 w7 := (Below.alloc hP6 hP6.size _).trans hb7; have hr7 := (hP7.block gw (Nat.lt_trans hgl hs1)).trans hrow1h.out; have hf7 := row_free hr7 q; have hq7 := cell_kept hP7 cq1; obtain ⟨va7, vc7, rfl⟩ := ho7.shape; replace hr7 := Lib.hid hr7)))
  all_goals
    go_wp2
    go_end0
    obtain ⟨hel, hws, hnd, hlt, hqm, hcn, hrow⟩ := hh.out
    have hbW7 : Below W.heap.size W w7 := btt hb1 hP7
    have hs7 := hP7.size
    refine ⟨rfl, fun k => D k ∨ (W.heap.size ≤ k ∧ k < w7.heap.size), (Only.of_below hbW7).setCell hDg _, fun k hk => hk.imp id (·.1), fun k hk => ?_, .inl hDb, .inl hDg, hbg, ?_, ?_, ?_, ?_⟩
    · rw [World.size_setCell]
      rcases hk with h | h
      · have := hBd k h; omega
      · exact h.2
    · exact (heap_setCell_other hbg).trans ((hbW7.block _ hbl).trans hboxh.out)
    · refine ⟨_, heap_setCell_same w7 gw q _ _ _ hr7.out, by simp [hcn], fun i hi => ?_⟩
      rw [hws]
      by_cases hiq : i = q
      · subst hiq
        refine ⟨.slice va7 (wd.length + 1) vc7, by simp [hcn, hi], ?_, fun k hk => .inr ?_⟩
        · rw [List.getD_eq_getElem?_getD, List.getElem?_set_self (by rw [wds_len]; exact hi), Option.getD_some, List.length_append]
          exact (ho7.other (EI.stab _) (by decide) (KeepX.setCell hr7.out _)).base (Nat.zero_le _)
        · obtain ⟨vs, h1, _⟩ := ho7
          have := World.ownsRow.lt h1 k hk
          omega
      · obtain ⟨u, k1, k2, k3⟩ := hel i hi
        refine ⟨u, by rw [Array.getElem?_setIfInBounds_ne (Ne.symm hiq)]; exact k1, ?_, fun k hk => .inl (k3 k hk)⟩
        rw [List.getD_eq_getElem?_getD, List.getElem?_set_ne (Ne.symm hiq), ← List.getD_eq_getElem?_getD]
        exact (OwX.keep (EI.stab _) k2 hbW7).other (EI.stab _) (by decide) (KeepX.setCell hr7.out _)
    · rw [List.map_append, List.map_singleton, ← List.cons_append, List.nodup_append]
      refine ⟨hnd, by simp, fun a ha b hb e => ?_⟩
      rw [List.mem_singleton] at hb
      subst hb e
      exact hqm (hmq ▸ ha)
    · intro x hx
      rw [List.map_append, List.mem_append] at hx
      rcases hx with h | h
      · exact hlt x h
      · rw [List.map_singleton, List.mem_singleton] at h
        rw [h]; show mvTo _ < n; rw [hmq]; exact hq
end Go.Proofs.YtfihpofdoffclaaGreatDoor

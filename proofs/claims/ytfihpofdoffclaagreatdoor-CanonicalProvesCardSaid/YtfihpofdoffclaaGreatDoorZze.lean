/- Texts of this claim, put together: X5. -/
import Derived.Test.YtfihpofdoffclaaGreatDoorZzb
import Derived.Test.YtfihpofdoffclaaGreatDoorZzd

/- The law CanonicalProves. -/
namespace Go.Proofs.YtfihpofdoffclaaGreatDoor
open Go.RowKit

/-- What Prove answers. -/
def prvR (n : Int) (ss : List (List (List Int))) : List (List (List Int)) × Int := if chkA n ss ≠ 0 then ([], chkA n ss) else if minB ss then (prvL ss, 0) else ([], 3)
def PrvAny (w : World) (D : List (List (List Int)) × Int) (e : Ending) (w' : World) : Prop := ∃ u, e = .returned (.tuple #[u, .int .i64 D.2]) ∧ KSS 7 w' u D.1 ∧ Below w.heap.size w w'
theorem KSS.nil (k : Nat) (w : World) (a : Option Addr) (c : Nat) : KSS k w (.slice a 0 c) [] := ⟨a, c, 0, 0, rfl, by simp, by intro j hj; simp at hj, by simp⟩
theorem prv_kss {w : World} {B : Nat} {u : Value} {n : Int} {ss : List (List (List Int))} (hW : SmA n ss) (h : OwX 45 1 EWd w B u (prvL ss).length (prvL ss)) : KSS 7 w u (prvL ss) := by
  have h1 := prvL_len ss
  have h2 := tri_le hW.2.2.1
  have h3 := hW.2.2.1
  exact h.kss7 (by omega) fun x hx => by have := prv_word_le hW x hx; omega
theorem proveCall {w : World} {v : Value} {n : Int} {ss : List (List (List Int))} (hA : AdvV w v n ss) (hl : ss.length ≤ 40) (hm : movesN ss ≤ 90) : Calls Tryz.prog 28 #[v] w (PrvAny w (prvR n ss)) := by
  by_cases h0 : chkA n ss = 0
  · have hW : SmA n ss := ⟨hA.len8, h0, by omega, hm⟩
    refine (proveA hA hW.cls h0 hl).mono ?_
    rintro e w' ⟨u, rfl, hu, hb⟩
    rw [prvR, if_neg (fun k => k h0)]
    by_cases hB : minB ss = true
    · simp only [hB, if_true] at hu ⊢
      exact ⟨u, rfl, prv_kss hW hu, hb⟩
    · have hB : minB ss = false := by simpa using hB
      simp only [hB, if_false, Bool.false_eq_true] at hu ⊢
      exact ⟨u, rfl, hu.kss7 (by simp) (by simp), hb⟩
  · refine (proveErr hA (by omega) h0).mono ?_
    rintro e w' ⟨rfl, hb⟩
    rw [prvR, if_pos h0]
    exact ⟨_, rfl, KSS.nil _ _ _ _, hb⟩
theorem refProveCall {w : World} {v : Value} {n : Int} {ss : List (List (List Int))} (hA : AdvC w v n ss) (hl : ss.length ≤ 40) (hm : movesN ss ≤ 90) : Calls Tryz.prog 33 #[v] w (PrvAny w (prvR n ss)) := by
  by_cases h0 : chkA n ss = 0
  · have hW : SmA n ss := ⟨hA.adv.len8, h0, by omega, hm⟩
    rw [prvR, if_neg (fun k => k h0)]
    cases hB : minB ss with
    | true =>
      refine (refProveYes hA hW hl hB).mono ?_
      rintro e w' ⟨u, rfl, hu, hb⟩
      exact ⟨u, rfl, prv_kss hW hu, hb⟩
    | false =>
      refine (refProveNo hA.adv hW hB).mono ?_
      rintro e w' ⟨rfl, hb⟩
      exact ⟨_, rfl, KSS.nil _ _ _ _, hb⟩
  · refine (refProveErr hA.adv h0).mono ?_
    rintro e w' ⟨rfl, hb⟩
    rw [prvR, if_pos h0]
    exact ⟨_, rfl, KSS.nil _ _ _ _, hb⟩
set_option maxRecDepth 100000 in
set_option maxHeartbeats 3200000 in
theorem lawProves {w : World} {u pv : Value} {m : Int} {xs ps : List (List (List Int))} (hx : AdvC w u m xs) (hp : KSSN 7 w pv ps) :
    Calls Tryz.prog 8 #[u, pv] w fun e w' => e = .returned (.bool true) ∧ Below w.heap.size w w' := by
  obtain ⟨xa, xc, hu⟩ := advShape' hx.adv
  subst hu
  obtain ⟨pa, pc, hpv⟩ := hp.shape
  subst hpv
  obtain ⟨W1, hW1⟩ : ∃ W1, W1 = w.alloc (.cells #[.int .i64 m, .slice xa xs.length xc] 24) := ⟨_, rfl⟩
  obtain ⟨hb1, p0, p1, hs1⟩ := boxAdv hW1
  replace hs1 := Lib.hid hs1
  have HX := Lib.hid (fun W (hb : Below W1.heap.size W1 W) => (hx.keep hb1).keep hb)
  have HP := Lib.hid (fun W (hb : Below W1.heap.size W1 W) => (hp.keep hb1).keep hb)
  have HF := Lib.hid (refFew (HX.out W1 (Below.refl _ _)).adv)
  have HK := Lib.hid (fun W (hb : Below W1.heap.size W1 W) => And.intro (cell_kept hb p0) (cell_kept hb p1))
  have hfx : Hid (fewA xs = true → xs.length ≤ 40 ∧ movesN xs ≤ 90) := fun h => by simp [fewA] at h; omega
  obtain ⟨fx, hfx1⟩ : ∃ fx, fewA xs = fx := ⟨_, rfl⟩
  rw [hfx1] at HF hfx
  replace hfx1 := Lib.hid hfx1
  have hCn := Lib.hid (fun W (hb : Below W1.heap.size W1 W) => containsLong (HP.out W hb))
  obtain ⟨A, hA⟩ : ∃ A, ps.any (fun x => decide (20 < x.length)) = A := ⟨_, rfl⟩
  rw [hA] at hCn
  have hsh : Hid (A = false → ∀ x ∈ ps, x.length ≤ 2199023255552) := fun h x hx => by
    rw [h, List.any_eq_false] at hA
    have := hA x hx
    simp only [decide_eq_true_eq] at this
    omega
  replace hA := Lib.hid hA
  clear hx hp
  cases fx
  · go_enter Tryz.func8, Tryz.ntmps8
    go_wp2_with fail
    rw [← hW1]
    refine HF.out.mono ?_
    rintro e W2 ⟨rfl, hb2⟩
    go_wp2_with fail
    refine (awakeK W2 (bt hb1 hb2 hb1.size) (Nat.le_trans hb1.size hb2.size)).mono ?_
    rintro e W3 ⟨rfl, hb3⟩
    go_wp2
    go_ret
    exact ⟨rfl, hb3⟩
  · obtain ⟨x1, x2⟩ := hfx.out rfl
    by_cases hk : 40 < ps.length
    · have hki : decide ((40 : Int) < (ps.length : Int)) = true := decide_eq_true (by omega)
      go_enter Tryz.func8, Tryz.ntmps8
      go_wp2_with fail
      rw [← hW1]
      refine HF.out.mono ?_
      rintro e W2 ⟨rfl, hb2⟩
      go_wp2_with fail
      refine (awakeK W2 (bt hb1 hb2 hb1.size) (Nat.le_trans hb1.size hb2.size)).mono ?_
      rintro e W3 ⟨rfl, hb3⟩
      go_wp2
      go_ret
      exact ⟨rfl, hb3⟩
    · have hki : decide ((40 : Int) < (ps.length : Int)) = false := decide_eq_false (by omega)
      cases A
      · have hmx : Tryz.prog.follows .mixedOrders = true := by kernel_rfl
        have hps := hsh.out rfl
        have H1 := Lib.hid (fun W (hb : Below W1.heap.size W1 W) => proveCall (HX.out W hb).adv x1 x2)
        have H2 := Lib.hid (fun W (hb : Below W1.heap.size W1 W) => refProveCall (HX.out W hb) x1 x2)
        have H3 := Lib.hid (fun W (hb : Below W1.heap.size W1 W) => verifyCall (HX.out W hb).adv (by omega) x2 ((HP.out W hb).kss hps))
        have H4 := Lib.hid (fun W (hb : Below W1.heap.size W1 W) => refVerifyCall (HX.out W hb).adv (by omega) x2 ((HP.out W hb).kss hps))
        obtain ⟨D, hD⟩ : ∃ D, prvR m xs = D := ⟨_, rfl⟩
        rw [hD] at H1 H2
        replace hD := Lib.hid hD
        obtain ⟨z, hz⟩ : ∃ z, verI m xs ps = z := ⟨_, rfl⟩
        rw [hz] at H3 H4
        replace hz := Lib.hid hz
        obtain ⟨L, E⟩ := D
        have e1 : (E == E) = true := by simp
        have e2 : (z == z) = true := by simp
        replace hps := Lib.hid hps
        go_enter Tryz.func8, Tryz.ntmps8
        go_wp2_with fail
        rw [← hW1]
        refine HF.out.mono ?_
        rintro e W2 ⟨rfl, hb2⟩
        go_wp2_with fail
        refine (hCn.out W2 hb2).mono ?_
        rintro e w' ⟨rfl, hw'⟩
        replace hw' := hw'.symm
        subst hw'
        obtain ⟨a0, a1⟩ := HK.out W2 hb2
        go_wp2_with fail
        refine (H1.out W2 hb2).mono ?_
        rintro e W3 ⟨l, rfl, hl, hb3⟩
        obtain ⟨la, lc, hls⟩ := hl.shape
        subst hls
        have B3 := btt hb2 hb3
        clear a0 a1
        obtain ⟨a0, a1⟩ := HK.out W3 B3
        go_wp2_with fail
        refine (H2.out W3 B3).mono ?_
        rintro e W4 ⟨k, rfl, hk4, hb4⟩
        obtain ⟨ka, kc, hks⟩ := hk4.shape
        subst hks
        have B4 := btt B3 hb4
        have hl4 := Lib.hid (hl.keep hb4)
        replace hk4 := Lib.hid hk4
        clear a0 a1 hl
        have hf := Lib.hid (fun wq (hC : Below W4.heap.size W4 wq) => HK.out wq (btt B4 hC))
        have hS := Lib.hid (fun wq (hC : Below W4.heap.size W4 wq) => sameWords (hl4.out.keep hC) (hk4.out.keep hC))
        rw [show decide (L = L) = true by simp] at hS
        have hV1 := Lib.hid (fun wq (hC : Below W4.heap.size W4 wq) => H3.out wq (btt B4 hC))
        have hV2 := Lib.hid (fun wq (hC : Below W4.heap.size W4 wq) => H4.out wq (btt B4 hC))
        have HA2 := Lib.hid (fun wq (_hC : Below W4.heap.size W4 wq) => awakeCall (w := wq))
        have hb14 := bt hb1 B4 hb1.size
        go_wp2_with fail
        refine wp_region_bw hmx (by kernel_rfl) ?_
        repeat (refine WQ.step (fun K hK => ?_)
                go_simp
                first
                  | (refine hK _ ?_; clear hK K)
                  | (apply Exists.intro
                     refine ⟨fun wq hC => ?_, hK _ ?_⟩
                     · (first | with_reducible rfl | (obtain ⟨f0, f1⟩ := hf.out wq hC; go_simp; first | done | with_reducible rfl | with_reducible exact ⟨rfl, rfl⟩))
                     clear hK K))
        (refine WQ.step (fun K hK => ?_)
         go_simp
         first
           | (refine hK _ ?_; clear hK K)
           | (apply Exists.intro
              refine ⟨fun wq hC => ?_, hK _ ?_⟩
              · (refine (hS.out wq hC).mono ?_; rintro e w' ⟨rfl, hb⟩; exact ⟨rfl, bt hC hb.below hC.size⟩)
              clear hK K))
        repeat (refine WQ.step (fun K hK => ?_)
                go_simp
                first
                  | (refine hK _ ?_; clear hK K)
                  | (apply Exists.intro
                     refine ⟨fun wq hC => ?_, hK _ ?_⟩
                     · (first | with_reducible rfl | (obtain ⟨f0, f1⟩ := hf.out wq hC; go_simp; first | done | with_reducible rfl | with_reducible exact ⟨rfl, rfl⟩))
                     clear hK K))
        (refine WQ.step (fun K hK => ?_)
         go_simp
         first
           | (refine hK _ ?_; clear hK K)
           | (apply Exists.intro
              refine ⟨fun wq hC => ?_, hK _ ?_⟩
              · (refine (hV1.out wq hC).mono ?_; rintro e w' ⟨rfl, hb⟩; exact ⟨rfl, bt hC hb hC.size⟩)
              clear hK K))
        repeat (refine WQ.step (fun K hK => ?_)
                go_simp
                first
                  | (refine hK _ ?_; clear hK K)
                  | (apply Exists.intro
                     refine ⟨fun wq hC => ?_, hK _ ?_⟩
                     · (first | with_reducible rfl | (obtain ⟨f0, f1⟩ := hf.out wq hC; go_simp; first | done | with_reducible rfl | with_reducible exact ⟨rfl, rfl⟩))
                     clear hK K))
        (refine WQ.step (fun K hK => ?_)
         go_simp
         first
           | (refine hK _ ?_; clear hK K)
           | (apply Exists.intro
              refine ⟨fun wq hC => ?_, hK _ ?_⟩
              · (refine (hV2.out wq hC).mono ?_; rintro e w' ⟨rfl, hb⟩; exact ⟨rfl, bt hC hb hC.size⟩)
              clear hK K))
        repeat (refine WQ.step (fun K hK => ?_)
                go_simp
                first
                  | (refine hK _ ?_; clear hK K)
                  | (apply Exists.intro
                     refine ⟨fun wq hC => ?_, hK _ ?_⟩
                     · (first | with_reducible rfl | (obtain ⟨f0, f1⟩ := hf.out wq hC; go_simp; first | done | with_reducible rfl | with_reducible exact ⟨rfl, rfl⟩))
                     clear hK K))
        (refine WQ.step (fun K hK => ?_)
         go_simp
         first
           | (refine hK _ ?_; clear hK K)
           | (apply Exists.intro
              refine ⟨fun wq hC => ?_, hK _ ?_⟩
              · (refine (HA2.out wq hC).mono ?_; rintro e w' ⟨rfl, hb⟩; exact ⟨rfl, bt hC hb hC.size⟩)
              clear hK K))
        repeat (refine WQ.step (fun K hK => ?_)
                go_simp
                first
                  | (refine hK _ ?_; clear hK K)
                  | (apply Exists.intro
                     refine ⟨fun wq hC => ?_, hK _ ?_⟩
                     · (first | with_reducible rfl | (obtain ⟨f0, f1⟩ := hf.out wq hC; go_simp; first | done | with_reducible rfl | with_reducible exact ⟨rfl, rfl⟩))
                     clear hK K))
        refine WQ.nil ?_
        intro w4 hb5
        go_wp2
        go_ret
        exact ⟨rfl, bt hb14 hb5 hb14.size⟩
      · go_enter Tryz.func8, Tryz.ntmps8
        go_wp2_with fail
        rw [← hW1]
        refine HF.out.mono ?_
        rintro e W2 ⟨rfl, hb2⟩
        go_wp2_with fail
        refine (hCn.out W2 hb2).mono ?_
        rintro e w' ⟨rfl, hw'⟩
        replace hw' := hw'.symm
        subst hw'
        go_wp2_with fail
        refine (awakeK W2 (bt hb1 hb2 hb1.size) (Nat.le_trans hb1.size hb2.size)).mono ?_
        rintro e W3 ⟨rfl, hb3⟩
        go_wp2
        go_ret
        exact ⟨rfl, hb3⟩
end Go.Proofs.YtfihpofdoffclaaGreatDoor

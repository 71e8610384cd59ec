/- Texts of this claim, put together: L2 X2. -/
import Derived.Test.YtfihpofdoffclaaGreatDoorZy
import Derived.Test.YtfihpofdoffclaaGreatDoorZq
import Derived.Test.YtfihpofdoffclaaGreatDoorZt
import Derived.Test.YtfihpofdoffclaaGreatDoorZx

/- Distinguish of the program and of the reference for all small adversaries and all numbers. -/
namespace Go.Proofs.YtfihpofdoffclaaGreatDoor
open Go.RowKit

/-- What Distinguish answers. -/
def disR (n : Int) (ss : List (List (List Int))) (s t : Int) : List (List Int) × Bool × Int :=
  if chkA n ss ≠ 0 then ([], false, chkA n ss) else if s < 0 ∨ (ss.length : Int) ≤ s ∨ t < 0 ∨ (ss.length : Int) ≤ t then ([], false, 6)
  else ((dist ss s.toNat t.toNat).getD [], (dist ss s.toNat t.toNat).isSome, 0)
def DisAny (w : World) (D : List (List Int) × Bool × Int) (e : Ending) (w' : World) : Prop := ∃ u, e = .returned (.tuple #[u, .bool D.2.1, .int .i64 D.2.2]) ∧ KS 7 w' u D.1 ∧ Below w.heap.size w w'
theorem KS.len {k : Nat} {w : World} {v : Value} {xs : List (List Int)} (h : KS k w v xs) : xs.length ≤ 2199023255552 := by obtain ⟨_, _, _, _, _, _, _, h⟩ := h; exact h
theorem disCall {w : World} {v : Value} {n : Int} {ss : List (List (List Int))} (hA : AdvV w v n ss) (hl : ss.length ≤ 90) (hm : movesN ss ≤ 90) (s t : Int) :
    Calls Tryz.prog 23 #[v, .int .i64 s, .int .i64 t] w (DisAny w (disR n ss s t)) := by
  by_cases h0 : chkA n ss = 0
  · by_cases hr : s < 0 ∨ (ss.length : Int) ≤ s ∨ t < 0 ∨ (ss.length : Int) ≤ t
    · refine (disRange hA (by omega) h0 s t hr).mono ?_
      rintro e w' ⟨rfl, hb⟩
      rw [disR, if_neg (fun k => k h0), if_pos hr]
      exact ⟨_, rfl, KS.nil _ _ _ _, hb⟩
    · obtain ⟨a, rfl⟩ : ∃ a : Nat, s = (a : Int) := ⟨s.toNat, by omega⟩
      obtain ⟨b, rfl⟩ : ∃ b : Nat, t = (b : Int) := ⟨t.toNat, by omega⟩
      have hO := clsOK_of hA.len8 h0 hl hm
      have ha : a < ss.length := by omega
      have hb : b < ss.length := by omega
      have hle := dist_le (LeadOK.ofCls hO) (ascL_of h0) ha hb
      refine (disGood hA (by omega) h0 ha hb (R := dist ss a b) fun W hW => distinguishA (hA.keep hW) hO (ascL_of h0) ha hb).mono ?_
      rintro e w' ⟨u, rfl, hu, hb⟩
      rw [disR, if_neg (fun k => k h0), if_neg hr, Int.toNat_natCast, Int.toNat_natCast]
      exact ⟨u, rfl, hu.ks (by omega), hb⟩
  · refine (disErr hA (by omega) h0 s t).mono ?_
    rintro e w' ⟨rfl, hb⟩
    rw [disR, if_pos h0]
    exact ⟨_, rfl, KS.nil _ _ _ _, hb⟩
theorem refDisCall {w : World} {v : Value} {n : Int} {ss : List (List (List Int))} (hA : AdvC w v n ss) (hl : ss.length ≤ 90) (hm : movesN ss ≤ 90) (s t : Int) :
    Calls Tryz.prog 24 #[v, .int .i64 s, .int .i64 t] w (DisAny w (disR n ss s t)) := by
  by_cases h0 : chkA n ss = 0
  · by_cases hr : s < 0 ∨ (ss.length : Int) ≤ s ∨ t < 0 ∨ (ss.length : Int) ≤ t
    · refine (refDisRange hA.adv h0 s t hr).mono ?_
      rintro e w' ⟨rfl, hb⟩
      rw [disR, if_neg (fun k => k h0), if_pos hr]
      exact ⟨_, rfl, KS.nil _ _ _ _, hb⟩
    · obtain ⟨a, rfl⟩ : ∃ a : Nat, s = (a : Int) := ⟨s.toNat, by omega⟩
      obtain ⟨b, rfl⟩ : ∃ b : Nat, t = (b : Int) := ⟨t.toNat, by omega⟩
      have hO := clsOK_of hA.adv.len8 h0 hl hm
      have ha : a < ss.length := by omega
      have hb : b < ss.length := by omega
      have hle := dist_le (LeadOK.ofCls hO) (ascL_of h0) ha hb
      refine (refDisGood hA.adv h0 ha hb (R := dist ss a b) fun W hW => refFirst (hA.keep hW) hO ha hb).mono ?_
      rintro e w' ⟨u, rfl, hu, hb⟩
      rw [disR, if_neg (fun k => k h0), if_neg hr, Int.toNat_natCast, Int.toNat_natCast]
      exact ⟨u, rfl, hu.ks (by omega), hb⟩
  · refine (refDisErr hA.adv h0 s t).mono ?_
    rintro e w' ⟨rfl, hb⟩
    rw [disR, if_pos h0]
    exact ⟨_, rfl, KS.nil _ _ _ _, hb⟩
end Go.Proofs.YtfihpofdoffclaaGreatDoor

/- The law CanonicalDistinguishes. -/
namespace Go.Proofs.YtfihpofdoffclaaGreatDoor
open Go.RowKit

set_option maxRecDepth 100000 in
set_option maxHeartbeats 1600000 in
theorem lawDistinguishes {w : World} {u : Value} {m s t : Int} {xs : List (List (List Int))} (hx : AdvC w u m xs) :
    Calls Tryz.prog 5 #[u, .int .i64 s, .int .i64 t] w fun e w' => e = .returned (.bool true) ∧ Below w.heap.size w w' := by
  obtain ⟨xa, xc, hu⟩ := advShape' hx.adv
  subst hu
  obtain ⟨W1, hW1⟩ : ∃ W1, W1 = w.alloc (.cells #[.int .i64 m, .slice xa xs.length xc] 24) := ⟨_, rfl⟩
  obtain ⟨hb1, p0, p1, hs1⟩ := boxAdv hW1
  replace hs1 := Lib.hid hs1
  have HX := Lib.hid (fun W (hb : Below W1.heap.size W1 W) => (hx.keep hb1).keep hb)
  have HF := Lib.hid (refFew (HX.out W1 (Below.refl _ _)).adv)
  have HK := Lib.hid (fun W (hb : Below W1.heap.size W1 W) => And.intro (cell_kept hb p0) (cell_kept hb p1))
  have hfx : Hid (fewA xs = true → xs.length ≤ 90 ∧ movesN xs ≤ 90) := fun h => by simp [fewA] at h; omega
  obtain ⟨fx, hfx1⟩ : ∃ fx, fewA xs = fx := ⟨_, rfl⟩
  rw [hfx1] at HF hfx
  replace hfx1 := Lib.hid hfx1
  clear hx
  cases fx
  · go_enter Tryz.func5, Tryz.ntmps5
    go_wp2_with fail
    rw [← hW1]
    refine HF.out.mono ?_
    rintro e W2 ⟨rfl, hb2⟩
    go_wp2_with fail
    refine (awakeK W2 (bt hb1 hb2 hb1.size) (Nat.le_trans hb1.size hb2.size)).mono ?_
    rintro e W3 ⟨rfl, hb3⟩
    go_wp2
    go_ret
    exact ⟨rfl, hb3⟩
  · obtain ⟨x1, x2⟩ := hfx.out rfl
    have H1 := Lib.hid (fun W (hb : Below W1.heap.size W1 W) => disCall (HX.out W hb).adv x1 x2 s t)
    have H2 := Lib.hid (fun W (hb : Below W1.heap.size W1 W) => refDisCall (HX.out W hb) x1 x2 s t)
    obtain ⟨D, hD⟩ : ∃ D, disR m xs s t = D := ⟨_, rfl⟩
    rw [hD] at H1 H2
    replace hD := Lib.hid hD
    obtain ⟨L, b, E⟩ := D
    have e1 : (b == b) = true := by simp
    have e2 : (E == E) = true := by simp
    go_enter Tryz.func5, Tryz.ntmps5
    go_wp2_with fail
    rw [← hW1]
    refine HF.out.mono ?_
    rintro e W2 ⟨rfl, hb2⟩
    obtain ⟨a0, a1⟩ := HK.out W2 hb2
    go_wp2_with fail
    refine (H1.out W2 hb2).mono ?_
    rintro e W3 ⟨l, rfl, hl, hb3⟩
    obtain ⟨la, lc, hls⟩ := hl.shape
    subst hls
    have B3 := btt hb2 hb3
    clear a0 a1
    obtain ⟨a0, a1⟩ := HK.out W3 B3
    go_wp2_with fail
    refine (H2.out W3 B3).mono ?_
    rintro e W4 ⟨k, rfl, hk, hb4⟩
    obtain ⟨ka, kc, hks⟩ := hk.shape
    subst hks
    have B4 := btt B3 hb4
    clear a0 a1
    have hl4 := Lib.hid (hl.keep hb4)
    replace hk := Lib.hid hk
    clear hl
    go_wp2_with fail
    refine (sameRds hl4.out hk.out).mono ?_
    rintro e W5 ⟨rfl, hq⟩
    rw [show decide (L = L) = true by simp]
    have B5 := btt B4 hq.below
    go_wp2_with fail
    refine (awakeK W5 (bt hb1 B5 hb1.size) (Nat.le_trans hb1.size B5.size)).mono ?_
    rintro e W6 ⟨rfl, hb6⟩
    go_wp2
    go_ret
    exact ⟨rfl, hb6⟩
end Go.Proofs.YtfihpofdoffclaaGreatDoor

/- Texts of this claim, put together: S3 F4 S4 S5. -/
import Derived.Test.YtfihpofdoffclaaGreatDoorZzc
import Derived.Test.YtfihpofdoffclaaGreatDoorZv
import Derived.Test.YtfihpofdoffclaaGreatDoorZl
import Derived.Test.YtfihpofdoffclaaGreatDoorZy
import Derived.Test.YtfihpofdoffclaaGreatDoorZm
import Derived.Test.YtfihpofdoffclaaGreatDoorZn
import Derived.Test.YtfihpofdoffclaaGreatDoorZs
import Derived.Test.YtfihpofdoffclaaGreatDoorZza

/- The reference: Prove. -/
namespace Go.Proofs.YtfihpofdoffclaaGreatDoor
open Go.RowKit

set_option maxRecDepth 100000 in
set_option maxHeartbeats 800000 in
theorem refProveErr {w : World} {v : Value} {n : Int} {ss : List (List (List Int))} (hA : AdvV w v n ss) (h0 : chkA n ss ≠ 0) :
    Calls Tryz.prog 33 #[v] w fun e w' => e = .returned (.tuple #[.slice none 0 0, .int .i64 (chkA n ss)]) ∧ Below w.heap.size w w' := by
  obtain ⟨sa, sc, hv⟩ := advShape' hA
  subst hv
  obtain ⟨W1, hW1⟩ : ∃ W1, W1 = w.alloc (.cells #[.int .i64 n, .slice sa ss.length sc] 24) := ⟨_, rfl⟩
  obtain ⟨hb1, p0, p1, _⟩ := boxAdv hW1
  have HC := Lib.hid (refCheckA (hA.keep hb1))
  obtain ⟨E, hE⟩ : ∃ E, chkA n ss = E := ⟨_, rfl⟩
  rw [hE] at HC h0 ⊢
  have h1 : (E == 0) = false := by simp [h0]
  clear hA hE
  go_enter Tryz.func33, Tryz.ntmps33
  go_wp2_with fail
  rw [← hW1]
  refine HC.out.mono ?_
  rintro e W2 ⟨rfl, hb2⟩
  have hb02 := bt hb1 hb2 hb1.size
  go_wp2
  go_ret2
  exact ⟨rfl, hb02⟩
set_option maxRecDepth 100000 in
set_option maxHeartbeats 800000 in
theorem refProveNo {w : World} {v : Value} {n : Int} {ss : List (List (List Int))} (hA : AdvV w v n ss) (hW : SmA n ss) (hmin : minB ss = false) :
    Calls Tryz.prog 33 #[v] w fun e w' => e = .returned (.tuple #[.slice none 0 0, .int .i64 3]) ∧ Below w.heap.size w w' := by
  obtain ⟨sa, sc, hv⟩ := advShape' hA
  subst hv
  obtain ⟨W1, hW1⟩ : ∃ W1, W1 = w.alloc (.cells #[.int .i64 n, .slice sa ss.length sc] 24) := ⟨_, rfl⟩
  obtain ⟨hb1, p0, p1, _⟩ := boxAdv hW1
  have HC := refCheckA (hA.keep hb1)
  rw [hW.2.1] at HC
  replace HC := Lib.hid HC
  have HM := Lib.hid (fun W (hb : Below W1.heap.size W1 W) => refMinimal ((hA.keep hb1).keep hb) hW)
  rw [hmin] at HM
  clear hA hW
  go_enter Tryz.func33, Tryz.ntmps33
  go_wp2_with fail
  rw [← hW1]
  refine HC.out.mono ?_
  rintro e W2 ⟨rfl, hb2⟩
  have q0 := cell_kept hb2 p0
  have q1 := cell_kept hb2 p1
  have hb02 := bt hb1 hb2 hb1.size
  go_wp2_with fail
  refine (HM.out W2 hb2).mono ?_
  rintro e W3 ⟨rfl, hb3⟩
  have hb03 := bt hb02 hb3 hb02.size
  go_wp2
  go_ret2
  exact ⟨rfl, hb03⟩
set_option maxRecDepth 100000 in
set_option maxHeartbeats 6400000 in
theorem refProveYes {w : World} {v : Value} {n : Int} {ss : List (List (List Int))} (hA : AdvC w v n ss) (hW : SmA n ss) (hl40 : ss.length ≤ 40) (hmin : minB ss = true) :
    Calls Tryz.prog 33 #[v] w fun e w' => ∃ u, e = .returned (.tuple #[u, .int .i64 0]) ∧ OwX 45 1 EWd w' w.heap.size u (prvL ss).length (prvL ss) ∧ Below w.heap.size w w' := by
  have hO := hW.cls
  have h0 := hW.pos
  obtain ⟨sa, sc, hv⟩ := advShape' hA.adv
  subst hv
  obtain ⟨W1, hW1⟩ : ∃ W1, W1 = w.alloc (.cells #[.int .i64 n, .slice sa ss.length sc] 24) := ⟨_, rfl⟩
  obtain ⟨hb1, p0, p1, _⟩ := boxAdv hW1
  have HC := refCheckA (hA.adv.keep hb1)
  rw [hW.2.1] at HC
  replace HC := Lib.hid HC
  have HM := Lib.hid (fun W (hb : Below W1.heap.size W1 W) => refMinimal ((hA.adv.keep hb1).keep hb) hW)
  rw [hmin] at HM
  have HAc := Lib.hid (fun W (hb : Below W1.heap.size W1 W) => refAccess ((hA.adv.keep hb1).keep hb) hW)
  have HD := Lib.hid (fun W (hb : Below W1.heap.size W1 W) i k (hi : i < ss.length) (hk : k < ss.length) => refFirst ((hA.keep hb1).keep hb) hO hi hk)
  obtain ⟨WD, hWD⟩ : ∃ WD, wds ss.length (ordI ss).2 = WD := ⟨_, rfl⟩
  have hWDl : WD.length = ss.length := by rw [← hWD, wds_len]
  have hprv : Hid (prvL ss = WD.drop 1 ++ prAll ss 0 ss.length) := by show _ = _; rw [prvL, hWD]
  have hPm : Hid ((prvL ss).length ≤ 5000) := by
    show _ ≤ _
    rw [prvL_len]
    have := tri_le (n := ss.length) (by omega)
    omega
  rw [hWD] at HAc
  obtain ⟨N, hN⟩ : ∃ N, ss.length = N := ⟨_, rfl⟩
  have htl : tri N ≤ 780 := by
    have h1 := tri_eq N
    have h2 : N * (N - 1) ≤ 40 * 39 := Nat.mul_le_mul (by omega) (by omega)
    omega
  have hmul := verProd (m := N) (by omega)
  obtain ⟨T, hT⟩ : ∃ T, tri N = T := ⟨_, rfl⟩
  rw [hN] at h0 hl40 hprv hWDl p1 hW1 HAc HD HC HM ⊢
  rw [hT] at htl hmul
  have hq : (((2 * T : Nat) : Int)).tdiv 2 = (T : Int) := by rw [Int.natCast_mul]; exact Int.mul_tdiv_cancel_left _ (by decide)
  have hlim : ¬ ((1024 : Int) < (N : Int) - 1 + (T : Int)) := by omega
  have hlimd : decide ((1024 : Int) < (N : Int) - 1 + (T : Int)) = false := decide_eq_false hlim
  replace hN := Lib.hid hN
  replace hT := Lib.hid hT
  replace hWD := Lib.hid hWD
  clear hA hO hW
  go_enter Tryz.func33, Tryz.ntmps33
  go_wp2_with fail
  rw [← hW1]
  refine HC.out.mono ?_
  rintro e W2 ⟨rfl, hb2⟩
  replace hW1 := Lib.hid hW1
  have q0 := cell_kept hb2 p0
  have q1 := cell_kept hb2 p1
  go_wp2_with fail
  refine (HM.out W2 hb2).mono ?_
  rintro e W3 ⟨rfl, hb3⟩
  have B3 := btt hb2 hb3
  clear q0 q1
  have q0 := cell_kept B3 p0
  have q1 := cell_kept B3 p1
  go_wp2_with fail
  refine (HAc.out W3 B3).mono ?_
  rintro e W4 ⟨lv, rfl, hL, hb4⟩
  have B4 := btt B3 hb4
  replace hL := hL.wd
  obtain ⟨gl, cl, hle, _⟩ := hL.form h0
  subst hle
  have hP0 : Hid (([] : List (List (List Int))) ++ (WD.drop 1 ++ prAll ss 0 N) = prvL ss) := by show _ = _; rw [List.nil_append, hprv.out]
  clear q0 q1 hb2 hb3 hb4 B3
  go_wp2_with fail
  have hrow0 : OwX 45 1 EWd W4 W4.heap.size (.slice none 0 0) ([] : List (List (List Int))).length [] := OwX.nil _ _
  go_loopw [6, 8] (fun ov iv wr => ∃ (i : Nat) (acc : List (List (List Int))), iv = .int .i64 i ∧ 1 ≤ i ∧ i ≤ N ∧ OwX 45 1 EWd wr W4.heap.size ov acc.length acc ∧ Hid (acc ++ (WD.drop i ++ prAll ss 0 N) = prvL ss) ∧ Below W4.heap.size W4 wr) (fun _ iv _ => N - (intOf iv).toNat)
  case atStart => exact ⟨1, [], rfl, Nat.le_refl _, h0, hrow0, hP0, Below.refl _ _⟩
  case round =>
    clear hrow0 hP0
    obtain ⟨i, acc, rfl, hi1, hi, hrw, hacc, hbr⟩ := hrel
    by_cases hlt : i < N
    · have hix : (i : Int) < (N : Int) := by omega
      obtain ⟨x, hx⟩ : ∃ x, WD.getD i [] = x := ⟨_, rfl⟩
      have hLr := OwX.keep (EWd.stab (by decide)) hL hbr
      obtain ⟨cs, _, ⟨u, hcs, hu⟩, hcc⟩ := hLr.cells (j := i) (x := x) (by rw [← hx, getD_eq (by omega)]; exact List.getElem?_eq_some_iff.2 ⟨by omega, rfl⟩)
      subst hcs
      have cu := hcc 0 u rfl
      rw [Nat.mul_one, Nat.add_zero] at cu
      obtain ⟨ua, uc, hus⟩ := hu.shape
      subst hus
      have hacc2 : Hid (acc ++ [x] ++ (WD.drop (i + 1) ++ prAll ss 0 N) = prvL ss) := by
        show _ = _
        rw [← hacc.out, drop_cons (show i < WD.length by omega) ([] : List (List Int)), hx, List.append_assoc]; rfl
      have hal : acc.length ≤ 1000000000000 := by
        have h1 := hPm.out
        rw [← hacc.out, List.length_append] at h1
        omega
      have hEl : EWd wr [.slice ua x.length uc] x := ⟨_, rfl, hu⟩
      obtain ⟨va, vc, hvs⟩ := hrw.shape
      subst hvs
      have hc1 : ∀ u ∈ (#[.slice ua x.length uc] : Array Value).toList, u.oneCell' = true := fun u hu => by
        rw [List.mem_singleton.1 hu]; rfl
      replace hx := Lib.hid hx
      clear hcc hLr hu hacc
      go_wp2_with (at_builtin; refine wpAppX elemRs (by decide) (by decide) (EWd.stab (by decide)) rfl _ _ rfl rfl hrw rfl rfl rfl hc1 hEl hal hbr.size ?_)
      intro v9 w9 hrw9 hgr9 hbl9 hx9
      have hrwf : OwX 45 1 EWd w9 W4.heap.size v9 (acc ++ [x]).length (acc ++ [x]) := by rw [List.length_append]; exact hrw9
      clear hrw9 hrw
      go_wp2_with fail
      go_roundw
      case rel => exact ⟨i + 1, acc ++ [x], by go_num, by omega, hlt, hrwf, hacc2, hbr.trans hbl9⟩
      case measure => simp [intOf]; omega
    · obtain rfl : i = N := by omega
      have hge : ¬ ((i : Int) < (i : Int)) := by omega
      have hacc0 : Hid (acc ++ prAll ss 0 (i - 0) = prvL ss) := by
        show _ = _
        rw [← hacc.out, List.drop_eq_nil_of_le (by omega), List.nil_append, Nat.sub_zero]
      obtain ⟨wo, hwo⟩ : ∃ wo, wo = wr := ⟨_, rfl⟩
      subst hwo
      clear hacc hi1 hi
      go_wp2_with fail
      go_loopw [6, 9] (fun ov sv wr => ∃ (s : Nat) (acc : List (List (List Int))), sv = .int .i64 s ∧ s ≤ i ∧ OwX 45 1 EWd wr W4.heap.size ov acc.length acc ∧ Hid (acc ++ prAll ss s (i - s) = prvL ss) ∧ Below W4.heap.size W4 wr) (fun _ sv _ => i - (intOf sv).toNat)
      case atStart => exact ⟨0, acc, rfl, by omega, hrw, hacc0, hbr⟩
      case round =>
        clear hrw hacc0 hbr hlt
        obtain ⟨s, acc, rfl, hs, hrw, hacc, hbr⟩ := hrel
        by_cases hlt : s < i
        · have hix : (s : Int) < (i : Int) := by omega
          have hacc0 : Hid (acc ++ (prRow ss s (s + 1) (i - (s + 1)) ++ prAll ss (s + 1) (i - (s + 1))) = prvL ss) := by
            show _ = _
            rw [← hacc.out, prAll_step ss hlt]
          obtain ⟨S, hS⟩ : ∃ S, prAll ss (s + 1) (i - (s + 1)) = S := ⟨_, rfl⟩
          rw [hS] at hacc0
          replace hS := Lib.hid hS
          clear hacc
          obtain ⟨wo, hwo⟩ : ∃ wo, wo = wr := ⟨_, rfl⟩
          subst hwo
          go_wp2_with fail
          go_loopw [6, 10] (fun ov kv wr => ∃ (k : Nat) (acc : List (List (List Int))), kv = .int .i64 k ∧ s + 1 ≤ k ∧ k ≤ i ∧ OwX 45 1 EWd wr W4.heap.size ov acc.length acc ∧ Hid (acc ++ (prRow ss s k (i - k) ++ S) = prvL ss) ∧ Below W4.heap.size W4 wr) (fun _ kv _ => i - (intOf kv).toNat)
          case atStart => exact ⟨s + 1, acc, by first | rfl | go_num, Nat.le_refl _, by omega, hrw, hacc0, hbr⟩
          case round =>
            clear hrw hacc0 hbr
            obtain ⟨k, acc, rfl, hik, hk, hrw, hacc, hbr⟩ := hrel
            by_cases hltk : k < i
            · have hkx : (k : Int) < (i : Int) := by omega
              have hbwr : Below W1.heap.size W1 wr := btt B4 hbr
              have HDk := Lib.hid (HD.out wr hbwr s k hlt hltk)
              obtain ⟨dv, hdv⟩ : ∃ dv, dist ss s k = dv := ⟨_, rfl⟩
              have hacc2 : Hid (acc ++ [dv.getD []] ++ (prRow ss s (k + 1) (i - (k + 1)) ++ S) = prvL ss) := by
                show _ = _
                rw [← hacc.out, prRow_step ss hltk, hdv, List.append_assoc]; rfl
              have hal : acc.length ≤ 1000000000000 := by
                have h1 := hPm.out
                rw [← hacc.out, List.length_append] at h1
                omega
              rw [hdv] at HDk
              have a0 := cell_kept hbwr p0
              have a1 := cell_kept hbwr p1
              clear hdv hacc
              go_wp2_with fail
              refine HDk.out.mono ?_
              rintro e W8 ⟨u, rfl, hu, hb8⟩
              have hrw8 := OwX.keep (EWd.stab (by decide)) hrw hb8
              have hEl8 : EWd W8 [u] (dv.getD []) := ⟨u, rfl, hu.own⟩
              obtain ⟨ua, uc, hus⟩ := hu.shape
              subst hus
              obtain ⟨va, vc, hvs⟩ := hrw8.shape
              subst hvs
              have hbr8 : Below W4.heap.size W4 W8 := bt hbr hb8 hbr.size
              have hc1 : ∀ u ∈ (#[.slice ua (dv.getD []).length uc] : Array Value).toList, u.oneCell' = true := fun u hu => by
                rw [List.mem_singleton.1 hu]; rfl
              clear hrw hu
              go_wp2_with (at_builtin; refine wpAppX elemRs (by decide) (by decide) (EWd.stab (by decide)) rfl _ _ rfl rfl hrw8 rfl rfl rfl hc1 hEl8 hal hbr8.size ?_)
              intro v9 w9 hrw9 hgr9 hbl9 hx9
              go_wp2_with fail
              go_roundw
              case rel => exact ⟨k + 1, acc ++ [dv.getD []], by go_num, by omega, hltk, by rw [List.length_append]; exact hrw9, hacc2, hbr8.trans hbl9⟩
              case measure => simp [intOf]; omega
            · obtain rfl : k = i := by omega
              have hacc2 : Hid (acc ++ prAll ss (s + 1) (k - (s + 1)) = prvL ss) := by
                show _ = _
                rw [← hacc.out, Nat.sub_self, prRow, hS.out, List.nil_append]
              clear hacc
              go_wp2_with fail
              go_roundw
              case rel => exact ⟨s + 1, acc, by go_num, hlt, hrw, hacc2, hbr⟩
              case measure => simp [intOf]; omega
        · obtain rfl : s = i := by omega
          have hfin : acc = prvL ss := by rw [← hacc.out, Nat.sub_self, prAll, List.append_nil]
          subst hfin
          have hbwr : Below w.heap.size w wr := bt hb1 (btt B4 hbr) hb1.size
          have hbase := Lib.hid (hrw.base (B' := w.heap.size) (Nat.le_trans hb1.size B4.size))
          clear hacc hrw
          go_wp2_with fail
          go_ret2
          exact ⟨_, rfl, hbase.out, hbwr⟩
end Go.Proofs.YtfihpofdoffclaaGreatDoor

/- The reference: After. -/
namespace Go.Proofs.YtfihpofdoffclaaGreatDoor
open Go.RowKit

set_option maxRecDepth 100000 in
set_option maxHeartbeats 1600000 in
theorem refAfter {w : World} {v wv : Value} {n : Int} {ss : List (List (List Int))} {rs : List (List Int)} (hA : AdvV w v n ss) (hM : LeadOK ss) {i : Nat} (hi : i < ss.length) (hw : KS 7 w wv rs) :
    Calls Tryz.prog 68 #[v, .int .i64 (i : Int), wv] w fun e w' => e = .returned (.int .i64 (afterI ss rs i)) ∧ Below w.heap.size w w' := by
  obtain ⟨sa, sc, hv⟩ := advShape' hA
  subst hv
  obtain ⟨ra, rc, rb, ro, rfl, hra, hrc, _⟩ := hw
  obtain ⟨W1, hW1⟩ : ∃ W1, W1 = w.alloc (.cells #[.int .i64 n, .slice sa ss.length sc] 24) := ⟨_, rfl⟩
  obtain ⟨hb1, p0, p1, _⟩ := boxAdv hW1
  have HT := Lib.hid (fun W (hb : Below w.heap.size w W) j (hj : j < ss.length) r0 r1 r2 r3 r4 r5 r6 => refTo (hA.keep hb) hj r0 r1 r2 r3 r4 r5 r6)
  obtain ⟨z, hz⟩ : ∃ z, afterI ss rs i = z := ⟨_, rfl⟩
  have hz0 : Hid (((i : Int) < 0 → z = (i : Int)) ∧ (0 ≤ (i : Int) → (i : Int) < ss.length ∧ afterI ss (rs.drop 0) (i : Int).toNat = z)) := by
    refine ⟨fun h => by omega, fun _ => ⟨by omega, ?_⟩⟩
    rw [List.drop_zero, show ((i : Int)).toNat = i by omega]; exact hz
  rw [hz]
  replace hrc := Lib.hid hrc
  replace hM := Lib.hid hM
  have hmx : Tryz.prog.follows .mixedOrders = true := by kernel_rfl
  clear hA hz
  go_enter Tryz.func68, Tryz.ntmps68
  go_wp2
  rw [← hW1]
  replace hW1 := Lib.hid hW1
  go_loopw [1, 7] (fun sv jv wr => ∃ (s : Int) (k : Nat), sv = .int .i64 s ∧ jv = .int .i64 k ∧ k ≤ rs.length ∧ Hid ((s < 0 → z = s) ∧ (0 ≤ s → s < ss.length ∧ afterI ss (rs.drop k) s.toNat = z)) ∧ Below W1.heap.size W1 wr) (fun _ jv _ => rs.length - (intOf jv).toNat)
  case atStart => exact ⟨i, 0, rfl, rfl, by omega, hz0, Below.refl _ _⟩
  case round =>
    clear hz0 hi
    obtain ⟨s, k, rfl, rfl, hk, hzk, hbr⟩ := hrel
    have hbw := bt hb1 hbr hb1.size
    by_cases hlt : k < rs.length
    · have hltd : decide ((k : Int) < (rs.length : Int)) = true := decide_eq_true (by omega)
      by_cases hneg : s < 0
      · have hd : decide (0 ≤ s) = false := decide_eq_false (by omega)
        have hzs : z = s := hzk.out.1 hneg
        subst hzs
        clear hzk hneg
        go_wp2
        go_ret
        exact ⟨rfl, hbw⟩
      · have hd : decide (0 ≤ s) = true := decide_eq_true (by omega)
        obtain ⟨hsl, hz2⟩ := hzk.out.2 (by omega)
        obtain ⟨q, rfl⟩ : ∃ q : Nat, s = (q : Int) := ⟨s.toNat, by omega⟩
        rw [show ((q : Int)).toNat = q by omega] at hz2
        have hq : q < ss.length := by omega
        obtain rfl := hra (by omega)
        obtain ⟨hx7, hxi⟩ := hrc.out k hlt
        obtain ⟨x, hx⟩ : ∃ x, rs.getD k [] = x := ⟨_, rfl⟩
        have hdr := drop_cons hlt ([] : List Int)
        rw [hx] at hx7 hxi hdr
        rw [hdr] at hz2
        obtain ⟨x0, x1, x2, x3, x4, x5, x6, rfl⟩ := seven hx7
        have hxw := hxi.keep hbw
        have d0 := cell_kept hbr p0
        have d1 := cell_kept hbr p1
        have H := fun wq (hC : Below wr.heap.size wr wq) => HT.out wq (bt hbw hC hbw.size) q hq x0 x1 x2 x3 x4 x5 x6
        have hf := Lib.hid (fun wq (hC : Below wr.heap.size wr wq) => And.intro (cell_kept hC d0) (And.intro (cell_kept hC d1) (hxw.keep hC).all7))
        obtain ⟨hge, hlq⟩ := toI_st hM.out hq [x0, x1, x2, x3, x4, x5, x6]
        obtain ⟨t, ht⟩ : ∃ t, toI [x0, x1, x2, x3, x4, x5, x6] (ss.getD q []) = t := ⟨_, rfl⟩
        simp only [ht] at H
        rw [ht] at hge hlq
        rw [afterI, ht] at hz2
        have hz3 : Hid ((t < 0 → z = t) ∧ (0 ≤ t → t < ss.length ∧ afterI ss (rs.drop (k + 1)) t.toNat = z)) := by
          refine ⟨fun h => ?_, fun h => ⟨hlq, ?_⟩⟩
          · rw [if_pos h] at hz2; omega
          · rwa [if_neg (by omega)] at hz2
        replace H := Lib.hid H
        clear hzk hz2 hxi hx7 hx hdr hxw d0 d1 ht
        go_wp2_with fail
        refine wp_region_ball hmx (by kernel_rfl) ?_
        repeat (refine wpQuiet_step (fun K hK => ?_)
                go_simp
                first
                  | (refine hK _ ?_; clear hK K)
                  | (apply Exists.intro
                     refine ⟨fun wq hC => ?_, hK _ ?_⟩
                     · (first | with_reducible rfl | (obtain ⟨f0, f1, e0, e1, e2, e3, e4, e5, e6⟩ := hf.out wq hC; go_simp; first | done | with_reducible rfl | with_reducible exact ⟨rfl, rfl⟩))
                     clear hK K))
        (refine wpQuiet_step (fun K hK => ?_)
         go_simp
         first
           | (refine hK _ ?_; clear hK K)
           | (apply Exists.intro
              refine ⟨fun wq hC => ?_, hK _ ?_⟩
              · (refine (H.out wq hC).mono ?_; rintro e w' ⟨rfl, hb⟩; exact ⟨rfl, bt hC hb hC.size⟩)
              clear hK K))
        repeat (refine wpQuiet_step (fun K hK => ?_)
                go_simp
                first
                  | (refine hK _ ?_; clear hK K)
                  | (apply Exists.intro
                     refine ⟨fun wq hC => ?_, hK _ ?_⟩
                     · (with_reducible rfl)
                     clear hK K))
        refine wpQuiet_nil ?_
        intro w4 hb4
        have hb4w := btt hbr hb4
        go_wp2
        go_roundw
        case rel => exact ⟨t, k + 1, rfl, by go_num, hlt, hz3, hb4w⟩
        case measure => simp [intOf]; omega
    · have hltd : decide ((k : Int) < (rs.length : Int)) = false := decide_eq_false (by omega)
      have hzx : s = z := by
        by_cases hneg : s < 0
        · exact (hzk.out.1 hneg).symm
        · have h := (hzk.out.2 (by omega)).2
          rw [List.drop_eq_nil_of_le (by omega), afterI] at h
          omega
      subst hzx
      clear hzk
      go_wp2
      go_ret
      exact ⟨rfl, hbw⟩
end Go.Proofs.YtfihpofdoffclaaGreatDoor

/- The reference: Verify. -/
namespace Go.Proofs.YtfihpofdoffclaaGreatDoor
open Go.RowKit

set_option maxRecDepth 100000 in
set_option maxHeartbeats 3200000 in
theorem refVerifyA {w : World} {v pv : Value} {n : Int} {ss ps : List (List (List Int))} (hA : AdvV w v n ss) (hl : ss.length ≤ 90) (hP : KSS 7 w pv ps) (h0 : chkA n ss = 0) (hM : LeadOK ss) (hlen : ps.length = ss.length - 1 + tri ss.length) :
    Calls Tryz.prog 35 #[v, pv] w fun e w' => e = .returned (.int .i64 (verI n ss ps)) ∧ Below w.heap.size w w' := by
  obtain ⟨sa, sc, hv⟩ := advShape' hA
  subst hv
  obtain ⟨W1, hW1⟩ : ∃ W1, W1 = w.alloc (.cells #[.int .i64 n, .slice sa ss.length sc] 24) := ⟨_, rfl⟩
  obtain ⟨hb1, p0, p1, _⟩ := boxAdv hW1
  have HC := refCheckA (hA.keep hb1)
  have hpos := (chkA_facts h0).2.1.1
  rw [h0] at HC
  have hz : Hid (verI n ss ps = if verGo ss ps 1 (ss.length - 1) && verAll ss ps 0 ss.length (ss.length - 1) then 0 else 18) := by
    show _ = _
    rw [verI, if_neg (fun k => k h0), if_neg (fun k => k hlen)]
  obtain ⟨z, hzz⟩ : ∃ z, verI n ss ps = z := ⟨_, rfl⟩
  rw [hzz] at hz ⊢
  obtain ⟨pa, pc, pb, po, rfl, hpa, hpc, _⟩ := hP
  have HT := Lib.hid (fun W (hb : Below w.heap.size w W) (j : Nat) (hj : j < ss.length) (k : Nat) (hk : k < ps.length) u (hu : KS 7 w u (ps.getD k [])) => refAfter (hA.keep hb) hM hj (hu.keep hb))
  obtain ⟨N, hN⟩ : ∃ N, ss.length = N := ⟨_, rfl⟩
  have htl := tri_le (n := N) (by omega)
  have hmul := verProd (m := N) (by omega)
  obtain ⟨T, hT⟩ : ∃ T, tri N = T := ⟨_, rfl⟩
  rw [hN] at hlen hz p1 hpos hW1 HT HC ⊢
  rw [hT] at hlen htl hmul
  have hq : (((2 * T : Nat) : Int)).tdiv 2 = (T : Int) := by rw [Int.natCast_mul]; exact Int.mul_tdiv_cancel_left _ (by decide)
  have hNi : ((N - 1 : Nat) : Int) = (N : Int) - 1 := by omega
  have hpl : (ps.length : Int) = (N : Int) - 1 + (T : Int) := by rw [hlen]; omega
  replace hpc := Lib.hid hpc
  replace HC := Lib.hid HC
  have hN90 : N ≤ 90 := by omega
  replace hN := Lib.hid hN
  replace hT := Lib.hid hT
  clear hA h0 hzz
  go_enter Tryz.func35, Tryz.ntmps35
  go_wp2_with fail
  rw [← hW1]
  refine HC.out.mono ?_
  rintro e W2 ⟨rfl, hb2⟩
  have q0 := cell_kept hb2 p0
  have q1 := cell_kept hb2 p1
  have hb02 := bt hb1 hb2 hb1.size
  replace hW1 := Lib.hid hW1
  go_wp2_with fail
  obtain ⟨G1, hG1⟩ : ∃ G1, verGo ss ps 1 (N - 1) = G1 := ⟨_, rfl⟩
  have hG1' : Hid (verGo ss ps 1 (N - 1) = G1) := hG1
  rw [hG1] at hz
  have hmx : Tryz.prog.follows .mixedOrders = true := by kernel_rfl
  clear hG1
  go_loopw [7] (fun iv wr => ∃ i : Nat, 1 ≤ i ∧ i ≤ N ∧ iv = .int .i64 i ∧ Hid (verGo ss ps i (N - i) = G1) ∧ Below W2.heap.size W2 wr) (fun iv _ => N - (intOf iv).toNat)
  case atStart => exact ⟨1, Nat.le_refl _, hpos, rfl, hG1', Below.refl _ _⟩
  case round =>
    obtain ⟨i, hi1, hi, rfl, hg, hbr⟩ := hrel
    by_cases hlt : i < N
    · have hbw := bt hb02 hbr hb02.size
      have hat : i - 1 < ps.length := by omega
      obtain rfl := hpa (by omega)
      obtain ⟨u, hcu, hu⟩ := hpc.out (i - 1) hat
      have hcu := cell_kept hbw hcu
      have x0 := cell_kept hbr q0
      have x1 := cell_kept hbr q1
      have HT1 := fun wq (hC : Below wr.heap.size wr wq) => HT.out wq (bt hbw hC hbw.size) 0 (by omega) (i - 1) hat u hu
      obtain ⟨ua, uc, hus⟩ := hu.shape
      subst hus
      obtain ⟨m, hm1⟩ : ∃ m, i - 1 = m := ⟨_, rfl⟩
      have him : i = m + 1 := by omega
      subst him
      have hf := Lib.hid (fun wq (hC : Below wr.heap.size wr wq) => And.intro (cell_kept hC hcu) (And.intro (cell_kept hC x0) (cell_kept hC x1)))
      simp only [Nat.add_sub_cancel] at hf HT1 hat
      obtain ⟨t, ht⟩ : ∃ t, afterI ss (ps.getD m []) 0 = t := ⟨_, rfl⟩
      simp only [ht] at HT1
      replace HT1 := Lib.hid HT1
      have hg2 := hg.out
      rw [show N - (m + 1) = (N - (m + 1 + 1)) + 1 by omega, verGo, Nat.add_sub_cancel, ht] at hg2
      have hix : (m : Int) < (N : Int) - 1 + (T : Int) := by omega
      have hwr : IntKind.i64.wrap ((m : Int) + 1 - 1) = (m : Int) := by rw [show (m : Int) + 1 - 1 = (m : Int) by omega]; exact IntWalk.i64_in _ (by omega)
      have hwr2 : IntKind.i64.wrap (m : Int) = (m : Int) := IntWalk.i64_in _ (by omega)
      clear hcu hu ht hg hm1
      by_cases hti : t = (m : Int) + 1
      · rw [if_pos (by omega)] at hg2
        have hte : (t == (m : Int) + 1) = true := by simp [hti]
        have hg3 : Hid (verGo ss ps (m + 1 + 1) (N - (m + 1 + 1)) = G1) := hg2
        replace hti := Lib.hid hti
        clear hg2
        go_wp2_with fail
        refine wp_region_bw hmx (by kernel_rfl) ?_
        repeat (refine WQ.step (fun K hK => ?_)
                go_simp
                first
                  | (refine hK _ ?_; clear hK K)
                  | (apply Exists.intro
                     refine ⟨fun wq hC => ?_, hK _ ?_⟩
                     · (first | with_reducible rfl | (obtain ⟨f0, f1, f2⟩ := hf.out wq hC; go_simp; first | done | with_reducible rfl | with_reducible exact ⟨rfl, rfl⟩))
                     clear hK K))
        (refine WQ.step (fun K hK => ?_)
         go_simp
         first
           | (refine hK _ ?_; clear hK K)
           | (apply Exists.intro
              refine ⟨fun wq hC => ?_, hK _ ?_⟩
              · (refine (HT1.out wq hC).mono ?_; rintro e w' ⟨rfl, hb⟩; exact ⟨rfl, bt hC hb hC.size⟩)
              clear hK K))
        repeat (refine WQ.step (fun K hK => ?_)
                go_simp
                first
                  | (refine hK _ ?_; clear hK K)
                  | (apply Exists.intro
                     refine ⟨fun wq hC => ?_, hK _ ?_⟩
                     · (first | with_reducible rfl | (obtain ⟨f0, f1, f2⟩ := hf.out wq hC; go_simp; first | done | with_reducible rfl | with_reducible exact ⟨rfl, rfl⟩))
                     clear hK K))
        refine WQ.nil ?_
        intro w4 hb4
        have hb4w := btt hbr hb4
        go_wp2
        go_roundw
        case rel => exact ⟨m + 1 + 1, by omega, by omega, by go_num, hg3, hb4w⟩
        case measure => simp [intOf]; omega
      · have hte : (t == (m : Int) + 1) = false := by simp [hti]
        rw [if_neg (by omega)] at hg2
        have hz2 : Hid (z = 18) := by show _ = _; rw [hz.out, ← hg2]; rfl
        clear hg2 hti
        go_wp2_with fail
        refine wp_region_bw hmx (by kernel_rfl) ?_
        repeat (refine WQ.step (fun K hK => ?_)
                go_simp
                first
                  | (refine hK _ ?_; clear hK K)
                  | (apply Exists.intro
                     refine ⟨fun wq hC => ?_, hK _ ?_⟩
                     · (first | with_reducible rfl | (obtain ⟨f0, f1, f2⟩ := hf.out wq hC; go_simp; first | done | with_reducible rfl | with_reducible exact ⟨rfl, rfl⟩))
                     clear hK K))
        (refine WQ.step (fun K hK => ?_)
         go_simp
         first
           | (refine hK _ ?_; clear hK K)
           | (apply Exists.intro
              refine ⟨fun wq hC => ?_, hK _ ?_⟩
              · (refine (HT1.out wq hC).mono ?_; rintro e w' ⟨rfl, hb⟩; exact ⟨rfl, bt hC hb hC.size⟩)
              clear hK K))
        repeat (refine WQ.step (fun K hK => ?_)
                go_simp
                first
                  | (refine hK _ ?_; clear hK K)
                  | (apply Exists.intro
                     refine ⟨fun wq hC => ?_, hK _ ?_⟩
                     · (first | with_reducible rfl | (obtain ⟨f0, f1, f2⟩ := hf.out wq hC; go_simp; first | done | with_reducible rfl | with_reducible exact ⟨rfl, rfl⟩))
                     clear hK K))
        refine WQ.nil ?_
        intro w4 hb4
        have hb4w := btt hbr hb4
        go_wp2
        go_ret
        exact ⟨by rw [hz2.out]; rfl, bt hb02 hb4w hb02.size⟩
    · obtain rfl : N = i := by omega
      have hG1t : G1 = true := by rw [← hg.out, Nat.sub_self]; rfl
      rw [hG1t, Bool.true_and] at hz
      obtain ⟨G2, hG2⟩ : ∃ G2, verAll ss ps 0 N (N - 1) = G2 := ⟨_, rfl⟩
      rw [hG2] at hz
      have hg0 : Hid (verAll ss ps 0 (N - 0) (N - 1) = G2) := hG2
      have hc0 : Hid (N - 1 + tri (N - 0) = N - 1 + T) := by show _ = _; rw [Nat.sub_zero, hT.out]
      have hge : ¬ ((N : Int) < (N : Int)) := by omega
      clear hg hG1' hG2 hG1t hi1 hi hlt
      go_wp2_with fail
      go_loopw [8, 9] (fun av iv wr => ∃ i at' : Nat, av = .int .i64 at' ∧ iv = .int .i64 i ∧ i ≤ N ∧ Hid (at' + tri (N - i) = N - 1 + T) ∧ Hid (verAll ss ps i (N - i) at' = G2) ∧ Below W2.heap.size W2 wr) (fun _ iv _ => N - (intOf iv).toNat)
      case atStart => exact ⟨0, N - 1, by first | rfl | (congr 1; omega), rfl, by omega, hc0, hg0, hbr⟩
      case round =>
        clear hg0 hc0 hbr
        obtain ⟨i, at', rfl, rfl, hi, hc, hg, hbr⟩ := hrel
        by_cases hlt : i < N
        · have hg2 := hg.out
          have hc2 := hc.out
          rw [show N - i = (N - (i + 1)) + 1 by omega, verAll] at hg2
          rw [show N - i = (N - (i + 1)) + 1 by omega, tri] at hc2
          obtain ⟨A1, hA1⟩ : ∃ A1, verRow ss ps i (i + 1) (N - (i + 1)) at' = A1 := ⟨_, rfl⟩
          obtain ⟨A2, hA2⟩ : ∃ A2, verAll ss ps (i + 1) (N - (i + 1)) (at' + (N - (i + 1))) = A2 := ⟨_, rfl⟩
          rw [hA1, hA2] at hg2
          obtain ⟨R, hR⟩ : ∃ R, tri (N - (i + 1)) = R := ⟨_, rfl⟩
          rw [hR] at hc2
          replace hg2 := Lib.hid hg2
          replace hA1 := Lib.hid hA1
          replace hA2 := Lib.hid hA2
          replace hR := Lib.hid hR
          clear hg hc
          obtain ⟨wo, hwo⟩ : ∃ wo, wo = wr := ⟨_, rfl⟩
          subst hwo
          go_wp2_with fail
          go_loopw [8, 10] (fun av kv wr => ∃ k b : Nat, av = .int .i64 b ∧ kv = .int .i64 k ∧ i + 1 ≤ k ∧ k ≤ N ∧ b + (i + 1) = at' + k ∧ Hid (verRow ss ps i k (N - k) b = A1) ∧ Below W2.heap.size W2 wr) (fun _ kv _ => N - (intOf kv).toNat)
          case atStart => exact ⟨i + 1, at', rfl, by first | rfl | go_num, Nat.le_refl _, by omega, rfl, hA1, hbr⟩
          case round =>
            clear hA1 hbr
            obtain ⟨k, b, rfl, rfl, hik, hk, hbk, hgr, hbr⟩ := hrel
            by_cases hltk : k < N
            · have hbw := bt hb02 hbr hb02.size
              have hbl : b < ps.length := by omega
              obtain rfl := hpa (by omega)
              obtain ⟨u, hcu, hu⟩ := hpc.out b hbl
              have hcu := cell_kept hbw hcu
              have x0 := cell_kept hbr q0
              have x1 := cell_kept hbr q1
              have HT1 := fun wq (hC : Below wr.heap.size wr wq) => HT.out wq (bt hbw hC hbw.size) i hlt b hbl u hu
              have HT2 := fun wq (hC : Below wr.heap.size wr wq) => HT.out wq (bt hbw hC hbw.size) k hltk b hbl u hu
              obtain ⟨ua, uc, hus⟩ := hu.shape
              subst hus
              have hf := Lib.hid (fun wq (hC : Below wr.heap.size wr wq) => And.intro (cell_kept hC hcu) (And.intro (cell_kept hC x0) (cell_kept hC x1)))
              have hg3 := hgr.out
              rw [show N - k = (N - (k + 1)) + 1 by omega, verRow] at hg3
              obtain ⟨s, hs⟩ : ∃ s, afterI ss (ps.getD b []) i = s := ⟨_, rfl⟩
              obtain ⟨t, ht⟩ : ∃ t, afterI ss (ps.getD b []) k = t := ⟨_, rfl⟩
              rw [hs, ht] at hg3
              simp only [hs] at HT1
              simp only [ht] at HT2
              replace HT1 := Lib.hid HT1
              replace HT2 := Lib.hid HT2
              have hix : (b : Int) < (N : Int) - 1 + (T : Int) := by omega
              have hbwr2 : IntKind.i64.wrap (b : Int) = (b : Int) := IntWalk.i64_in _ (by omega)
              clear hcu hu hs ht hgr
              have hS : (decide (s < 0) = true ∧ decide (0 ≤ s) = false) ∨ (decide (s < 0) = false ∧ decide (0 ≤ s) = true) := by
                by_cases h : s < 0
                · exact .inl ⟨decide_eq_true h, decide_eq_false (by omega)⟩
                · exact .inr ⟨decide_eq_false h, decide_eq_true (by omega)⟩
              have hU : (decide (t < 0) = true ∧ decide (0 ≤ t) = false) ∨ (decide (t < 0) = false ∧ decide (0 ≤ t) = true) := by
                by_cases h : t < 0
                · exact .inl ⟨decide_eq_true h, decide_eq_false (by omega)⟩
                · exact .inr ⟨decide_eq_false h, decide_eq_true (by omega)⟩
              rcases hS with ⟨s1, s2⟩ | ⟨s1, s2⟩ <;> rcases hU with ⟨t1, t2⟩ | ⟨t1, t2⟩ <;> rw [s1, t1] at hg3 <;> simp only [beq_self_eq_true, if_true, Bool.false_eq_true, if_false, (show (true == false) = false from rfl), (show (false == true) = false from rfl)] at hg3
              all_goals
                replace hg3 := Lib.hid hg3
                go_wp2_with fail
                refine wp_region_bw hmx (by kernel_rfl) ?_
                repeat (refine WQ.step (fun K hK => ?_)
                        go_simp
                        first
                          | (refine hK _ ?_; clear hK K)
                          | (apply Exists.intro
                             refine ⟨fun wq hC => ?_, hK _ ?_⟩
                             · (first | with_reducible rfl | (obtain ⟨f0, f1, f2⟩ := hf.out wq hC; go_simp; first | done | with_reducible rfl | with_reducible exact ⟨rfl, rfl⟩))
                             clear hK K))
                (refine WQ.step (fun K hK => ?_)
                 go_simp
                 first
                   | (refine hK _ ?_; clear hK K)
                   | (apply Exists.intro
                      refine ⟨fun wq hC => ?_, hK _ ?_⟩
                      · (refine (HT1.out wq hC).mono ?_; rintro e w' ⟨rfl, hb⟩; exact ⟨rfl, bt hC hb hC.size⟩)
                      clear hK K))
                repeat (refine WQ.step (fun K hK => ?_)
                        go_simp
                        first
                          | (refine hK _ ?_; clear hK K)
                          | (apply Exists.intro
                             refine ⟨fun wq hC => ?_, hK _ ?_⟩
                             · (first | with_reducible rfl | (obtain ⟨f0, f1, f2⟩ := hf.out wq hC; go_simp; first | done | with_reducible rfl | with_reducible exact ⟨rfl, rfl⟩))
                             clear hK K))
                (refine WQ.step (fun K hK => ?_)
                 go_simp
                 first
                   | (refine hK _ ?_; clear hK K)
                   | (apply Exists.intro
                      refine ⟨fun wq hC => ?_, hK _ ?_⟩
                      · (refine (HT2.out wq hC).mono ?_; rintro e w' ⟨rfl, hb⟩; exact ⟨rfl, bt hC hb hC.size⟩)
                      clear hK K))
                repeat (refine WQ.step (fun K hK => ?_)
                        go_simp
                        first
                          | (refine hK _ ?_; clear hK K)
                          | (apply Exists.intro
                             refine ⟨fun wq hC => ?_, hK _ ?_⟩
                             · (first | with_reducible rfl | (obtain ⟨f0, f1, f2⟩ := hf.out wq hC; go_simp; first | done | with_reducible rfl | with_reducible exact ⟨rfl, rfl⟩))
                             clear hK K))
                refine WQ.nil ?_
                intro w4 hb4
                have hb4w := btt hbr hb4
              · have hz2 : Hid (z = 18) := by
                  show _ = _; rw [hz.out, ← hg2.out, ← hg3.out]; rfl
                clear hg3
                go_wp2
                go_ret
                exact ⟨by rw [hz2.out]; rfl, bt hb02 hb4w hb02.size⟩
              · go_wp2
                go_roundw
                case rel => exact ⟨k + 1, b + 1, by go_num, by go_num, by omega, by omega, by omega, hg3, hb4w⟩
                case measure => simp [intOf]; omega
              · go_wp2
                go_roundw
                case rel => exact ⟨k + 1, b + 1, by go_num, by go_num, by omega, by omega, by omega, hg3, hb4w⟩
                case measure => simp [intOf]; omega
              · have hz2 : Hid (z = 18) := by
                  show _ = _; rw [hz.out, ← hg2.out, ← hg3.out]; rfl
                clear hg3
                go_wp2
                go_ret
                exact ⟨by rw [hz2.out]; rfl, bt hb02 hb4w hb02.size⟩
            · obtain rfl : N = k := by omega
              have hA : A1 = true := by rw [← hgr.out, Nat.sub_self]; rfl
              have hg5 : Hid (verAll ss ps (i + 1) (N - (i + 1)) b = G2) := by
                show _ = _
                rw [← hg2.out, hA, Bool.true_and, ← hA2.out]
                congr 1
                omega
              have hc5 : Hid (b + tri (N - (i + 1)) = N - 1 + T) := by show _ = _; rw [hR.out]; omega
              clear hA hg2 hA2 hgr
              go_wp2
              go_roundw
              case rel => exact ⟨i + 1, b, rfl, by go_num, hlt, hc5, hg5, hbr⟩
              case measure => simp [intOf]; omega
        · have hz2 : Hid (z = 0) := by
            show _ = _
            rw [hz.out, ← hg.out, show N - i = 0 by omega]; rfl
          clear hg hc
          go_wp2
          go_ret
          exact ⟨by rw [hz2.out]; rfl, bt hb02 hbr hb02.size⟩
set_option maxRecDepth 100000 in
set_option maxHeartbeats 800000 in
theorem refVerifyErr {w : World} {v pv : Value} {n : Int} {ss ps : List (List (List Int))} (hA : AdvV w v n ss) (hP : KSS 7 w pv ps) (h0 : chkA n ss ≠ 0) :
    Calls Tryz.prog 35 #[v, pv] w fun e w' => e = .returned (.int .i64 (verI n ss ps)) ∧ Below w.heap.size w w' := by
  obtain ⟨sa, sc, hv⟩ := advShape' hA
  subst hv
  obtain ⟨pa, pc, rfl⟩ := hP.shape
  obtain ⟨W1, hW1⟩ : ∃ W1, W1 = w.alloc (.cells #[.int .i64 n, .slice sa ss.length sc] 24) := ⟨_, rfl⟩
  obtain ⟨hb1, p0, p1, _⟩ := boxAdv hW1
  have HC := Lib.hid (refCheckA (hA.keep hb1))
  rw [verI, if_pos h0]
  obtain ⟨E, hE⟩ : ∃ E, chkA n ss = E := ⟨_, rfl⟩
  rw [hE] at HC h0 ⊢
  have h1 : (E == 0) = false := by simp [h0]
  clear hA hE hP
  go_enter Tryz.func35, Tryz.ntmps35
  go_wp2_with fail
  rw [← hW1]
  refine HC.out.mono ?_
  rintro e W2 ⟨rfl, hb2⟩
  have hb02 := bt hb1 hb2 hb1.size
  go_wp2_with fail
  go_ret
  exact ⟨rfl, hb02⟩
set_option maxRecDepth 100000 in
set_option maxHeartbeats 800000 in
theorem refVerifyShape {w : World} {v pv : Value} {n : Int} {ss ps : List (List (List Int))} (hA : AdvV w v n ss) (hl : ss.length ≤ 90) (hP : KSS 7 w pv ps) (h0 : chkA n ss = 0) (hlen : ps.length ≠ ss.length - 1 + tri ss.length) :
    Calls Tryz.prog 35 #[v, pv] w fun e w' => e = .returned (.int .i64 (verI n ss ps)) ∧ Below w.heap.size w w' := by
  obtain ⟨sa, sc, hv⟩ := advShape' hA
  subst hv
  obtain ⟨pa, pc, pb, po, rfl, _, _, hpl⟩ := hP
  obtain ⟨W1, hW1⟩ : ∃ W1, W1 = w.alloc (.cells #[.int .i64 n, .slice sa ss.length sc] 24) := ⟨_, rfl⟩
  obtain ⟨hb1, p0, p1, _⟩ := boxAdv hW1
  have HC := refCheckA (hA.keep hb1)
  have hpos := (chkA_facts h0).2.1.1
  rw [h0] at HC
  rw [verI, if_neg (fun k => k h0), if_pos hlen]
  obtain ⟨N, hN⟩ : ∃ N, ss.length = N := ⟨_, rfl⟩
  have htl := tri_le (n := N) (by omega)
  have hmul := verProd (m := N) (by omega)
  obtain ⟨T, hT⟩ : ∃ T, tri N = T := ⟨_, rfl⟩
  rw [hN] at hlen p1 hpos hW1 HC ⊢
  rw [hT] at hlen htl hmul
  have hq : (((2 * T : Nat) : Int)).tdiv 2 = (T : Int) := by rw [Int.natCast_mul]; exact Int.mul_tdiv_cancel_left _ (by decide)
  have hne : ((ps.length : Int) == (N : Int) - 1 + (T : Int)) = false := by simp; omega
  replace HC := Lib.hid HC
  have hN90 : N ≤ 90 := by omega
  clear hA h0 hT hN
  go_enter Tryz.func35, Tryz.ntmps35
  go_wp2_with fail
  rw [← hW1]
  refine HC.out.mono ?_
  rintro e W2 ⟨rfl, hb2⟩
  have q0 := cell_kept hb2 p0
  have q1 := cell_kept hb2 p1
  have hb02 := bt hb1 hb2 hb1.size
  replace hW1 := Lib.hid hW1
  go_wp2_with fail
  go_ret
  exact ⟨rfl, hb02⟩
theorem refVerifyCall {w : World} {v pv : Value} {n : Int} {ss ps : List (List (List Int))} (hA : AdvV w v n ss) (hl : ss.length ≤ 90) (hm : movesN ss ≤ 90) (hP : KSS 7 w pv ps) :
    Calls Tryz.prog 35 #[v, pv] w fun e w' => e = .returned (.int .i64 (verI n ss ps)) ∧ Below w.heap.size w w' := by
  by_cases h0 : chkA n ss = 0
  · by_cases hlen : ps.length = ss.length - 1 + tri ss.length
    · refine refVerifyA hA hl hP h0 (fun s hs m hmm => ?_) hlen
      have hO := clsOK_of hA.len8 h0 hl hm
      exact ((hO.2.2.2 s hs).2 m hmm).2.2
    · exact refVerifyShape hA hl hP h0 hlen
  · exact refVerifyErr hA hP h0
end Go.Proofs.YtfihpofdoffclaaGreatDoor

/- slices.ContainsFunc at words, with the law's own function. -/
namespace Go.Proofs.YtfihpofdoffclaaGreatDoor
open Go.RowKit

theorem longCall {w : World} {v : Value} {x : List (List Int)} (h : KSN 7 w v x) : Calls Tryz.prog 32 #[v] w fun e w' => e = .returned (.bool (decide (20 < x.length))) ∧ w' = w := by
  obtain ⟨a, c, rfl⟩ := h.shape
  have hd : decide ((20 : Int) < (x.length : Int)) = decide (20 < x.length) := decide_eq_decide.2 (by omega)
  clear h
  obtain ⟨B, hB⟩ : ∃ B, decide (20 < x.length) = B := ⟨_, rfl⟩
  rw [hB] at hd ⊢
  replace hB := Lib.hid hB
  go_enter Tryz.func32, Tryz.ntmps32
  go_wp2
  go_ret
  exact ⟨rfl, rfl⟩
set_option maxRecDepth 100000 in
set_option maxHeartbeats 1600000 in
theorem indexLong {w : World} {v : Value} {ps : List (List (List Int))} (h : KSSN 7 w v ps) :
    Calls Tryz.prog 65 #[v, .func (.func 32) #[] #[]] w fun e w' => ∃ z : Int, e = .returned (.int .i64 z) ∧ decide (0 ≤ z) = ps.any (fun x => decide (20 < x.length)) ∧ w' = w := by
  obtain ⟨pa, pc, pb, po, rfl, hpa, hpc, hpl⟩ := h
  have hcl := Lib.hid hpc
  obtain ⟨A, hA⟩ : ∃ A, ps.any (fun x => decide (20 < x.length)) = A := ⟨_, rfl⟩
  rw [hA]
  have hyes : Hid (∀ i, i < ps.length → 20 < (ps.getD i []).length → A = true) := fun i hi h => by
    rw [← hA, List.any_eq_true]
    exact ⟨ps.getD i [], by rw [getD_eq hi]; exact List.getElem_mem hi, decide_eq_true h⟩
  have hno : Hid ((∀ i, i < ps.length → ¬ 20 < (ps.getD i []).length) → A = false) := fun h => by
    rw [← hA, List.any_eq_false]
    intro x hx
    obtain ⟨i, hi, rfl⟩ := List.getElem_of_mem hx
    have := h i hi
    rw [getD_eq hi] at this
    simp only [decide_eq_true_eq]
    exact this
  replace hA := Lib.hid hA
  clear hpc
  go_enter Tryz.func65, Tryz.ntmps65
  go_wp2_with fail
  go_loopw [8] (fun iv wr => ∃ i : Nat, iv = .int .i64 i ∧ i ≤ ps.length ∧ Hid (∀ j, j < i → ¬ 20 < (ps.getD j []).length) ∧ wr = w) (fun iv _ => ps.length - (intOf iv).toNat)
  case atStart => exact ⟨0, rfl, by omega, fun j hj => absurd hj (Nat.not_lt_zero _), rfl⟩
  case round =>
    obtain ⟨i, rfl, hi, hn, rfl⟩ := hrel
    by_cases hlt : i < ps.length
    · have hii : (i : Int) < (ps.length : Int) := by omega
      obtain rfl := hpa (by omega)
      obtain ⟨u, hu, hk⟩ := hcl.out i hlt
      obtain ⟨x, hx⟩ : ∃ x, ps.getD i [] = x := ⟨_, rfl⟩
      rw [hx] at hk
      have HL := Lib.hid (longCall hk)
      obtain ⟨ua, uc, hus⟩ := hk.shape
      subst hus
      by_cases hlong : 20 < x.length
      · rw [decide_eq_true hlong] at HL
        have hAt := Lib.hid (hyes.out i hlt (by rw [hx]; exact hlong))
        replace hx := Lib.hid hx
        replace hlong := Lib.hid hlong
        clear hn hk
        go_wp2_with fail
        refine HL.out.mono ?_
        rintro e w' ⟨rfl, hw'⟩
        replace hw' := hw'.symm
        subst hw'
        go_wp2
        go_ret
        exact ⟨_, rfl, by rw [hAt.out]; exact decide_eq_true (by omega), by first | rfl | trivial⟩
      · rw [decide_eq_false hlong] at HL
        have hn2 : Hid (∀ j, j < i + 1 → ¬ 20 < (ps.getD j []).length) := fun j hj => by
          by_cases e : j = i
          · subst e; rw [hx]; exact hlong
          · exact hn.out j (by omega)
        replace hx := Lib.hid hx
        replace hlong := Lib.hid hlong
        clear hn hk
        go_wp2_with fail
        refine HL.out.mono ?_
        rintro e w' ⟨rfl, hw'⟩
        replace hw' := hw'.symm
        subst hw'
        go_wp2
        go_roundw
        case rel => exact ⟨i + 1, by go_num, hlt, hn2, by first | rfl | trivial⟩
        case measure => simp [intOf]; omega
    · obtain rfl : i = ps.length := by omega
      have hAf := Lib.hid (hno.out hn.out)
      have hge : ¬ ((ps.length : Int) < (ps.length : Int)) := by omega
      clear hn
      go_wp2
      go_ret
      exact ⟨_, rfl, by rw [hAf.out]; rfl, by first | rfl | trivial⟩
set_option maxRecDepth 100000 in
set_option maxHeartbeats 800000 in
theorem containsLong {w : World} {v : Value} {ps : List (List (List Int))} (h : KSSN 7 w v ps) :
    Calls Tryz.prog 31 #[v, .func (.func 32) #[] #[]] w fun e w' => e = .returned (.bool (ps.any (fun x => decide (20 < x.length)))) ∧ w' = w := by
  have HI := Lib.hid (indexLong h)
  obtain ⟨pa, pc, hv⟩ := h.shape
  subst hv
  obtain ⟨A, hA⟩ : ∃ A, ps.any (fun x => decide (20 < x.length)) = A := ⟨_, rfl⟩
  rw [hA] at HI ⊢
  replace hA := Lib.hid hA
  clear h
  go_enter Tryz.func31, Tryz.ntmps31
  go_wp2_with fail
  refine HI.out.mono ?_
  rintro e w' ⟨z, rfl, hz, hw'⟩
  replace hw' := hw'.symm
  subst hw'
  go_wp2
  go_ret
  exact ⟨rfl, rfl⟩
end Go.Proofs.YtfihpofdoffclaaGreatDoor

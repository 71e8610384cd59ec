/- Texts of this claim, put together: G3 F2 G5 K2 M0 D2b. -/
import Derived.Test.YtfihpofdoffclaaGreatDoorKp
import Derived.Test.YtfihpofdoffclaaGreatDoorKo
import Derived.Test.YtfihpofdoffclaaGreatDoorKr
import Derived.Test.YtfihpofdoffclaaGreatDoorKj
import Derived.Test.YtfihpofdoffclaaGreatDoorKk
import Derived.RangeFuncBox

/- The reference: Partition. -/
namespace Go.Proofs.YtfihpofdoffclaaGreatDoor
open Go.RowKit

theorem LeadOK.toOK {ss : List (List (List Int))} (h : LeadOK ss) : ToOK ss := fun s hs m hm => by
  have := h s hs m hm
  unfold mvTo; omega
theorem LeadOK.ofCls {ss : List (List (List Int))} (h : ClsOK ss) : LeadOK ss := fun s hs m hm => ((h.2.2.2 s hs).2 m hm).2.2
end Go.Proofs.YtfihpofdoffclaaGreatDoor

/- The reference: find; the program: Prove's first function. -/
namespace Go.Proofs.YtfihpofdoffclaaGreatDoor
open Go.RowKit

set_option maxRecDepth 100000 in
theorem keyProve (W : World) (i : Int) : Calls Tryz.prog 60 #[.int .i64 i] W fun e W' => e = .returned (.int .i64 i) ∧ W' = W := by
  go_enter Tryz.func60, Tryz.ntmps60
  go_wp2
  go_ret
  exact ⟨rfl, rfl⟩
end Go.Proofs.YtfihpofdoffclaaGreatDoor

/- The references: Same of adversaries; Classes. -/
namespace Go.Proofs.YtfihpofdoffclaaGreatDoor
open Go.RowKit Go.ChangeMaps Go.MapKept

theorem boxAdv2 {w : World} {m n : Int} {a b : Option Addr} {l c l' c' : Nat} {w1 : World} (hw : w1 = (w.alloc (.cells #[.int .i64 m, .slice a l c] 24)).alloc (.cells #[.int .i64 n, .slice b l' c'] 24)) :
    Below w.heap.size w w1 ∧ (w1.cell? ⟨w.heap.size, 0, none⟩ = some (.int .i64 m) ∧ w1.cell? ⟨w.heap.size, 1, none⟩ = some (.slice a l c)) ∧ (w1.cell? ⟨w.heap.size + 1, 0, none⟩ = some (.int .i64 n) ∧ w1.cell? ⟨w.heap.size + 1, 1, none⟩ = some (.slice b l' c')) ∧
    w1.heap[w.heap.size + 1]? = some (.cells #[.int .i64 n, .slice b l' c'] 24) ∧ w1.heap.size = w.heap.size + 2 := by
  obtain ⟨b1, p0, p1, _⟩ := boxAdv (w := w) (n := m) (a := a) (l := l) (c := c) rfl
  obtain ⟨b2, q0, q1, q2⟩ := boxAdv hw
  rw [World.size_alloc] at q0 q1 q2
  exact ⟨bt b1 b2 b1.size, ⟨cell_kept b2 p0, cell_kept b2 p1⟩, ⟨q0, q1⟩, q2, by rw [hw]; simp⟩
set_option maxRecDepth 100000 in
set_option maxHeartbeats 3200000 in
theorem sameRef {w : World} {u v : Value} {m n : Int} {xs ys : List (List (List Int))} (hx : AdvV w u m xs) (hy : AdvV w v n ys) :
    Calls Tryz.prog 20 #[u, v] w fun e w' => e = .returned (.bool (decide (m = n) && decide (xs = ys))) ∧ Below w.heap.size w w' := by
  obtain ⟨su, rfl, hu⟩ := hx
  obtain ⟨sv, rfl, hv⟩ := hy
  obtain ⟨xa, xc, xb, xo, rfl, hxa, hxc, _⟩ := hu
  obtain ⟨ya, yc, yb, yo, rfl, hya, hyc, _⟩ := hv
  obtain ⟨W1, hW1⟩ : ∃ W1, W1 = (w.alloc (.cells #[.int .i64 m, .slice xa xs.length xc] 24)).alloc (.cells #[.int .i64 n, .slice ya ys.length yc] 24) := ⟨_, rfl⟩
  obtain ⟨hb1, ⟨p0, p1⟩, ⟨r0, r1⟩, _⟩ := boxAdv2 hW1
  by_cases hmn : m = n
  · subst hmn
    rw [decide_eq_true rfl, Bool.true_and]
    obtain ⟨B, hB⟩ : ∃ B, decide (xs = ys) = B := ⟨_, rfl⟩
    rw [hB]
    replace hB := Lib.hid hB
    by_cases hlen : xs.length = ys.length
    · rw [← hlen] at hW1 r1 ⊢
      replace hlen := Lib.hid hlen
      have hxc := Lib.hid (fun j (hj : j < xs.length) => show ∃ u, W1.cell? ⟨xb, xo + j, none⟩ = some u ∧ KS 8 W1 u (xs.getD j []) from let ⟨u, h1, h2⟩ := hxc j hj; ⟨u, cell_kept hb1 h1, h2.keep hb1⟩)
      have hyc := Lib.hid (fun j (hj : j < ys.length) => show ∃ u, W1.cell? ⟨yb, yo + j, none⟩ = some u ∧ KS 8 W1 u (ys.getD j []) from let ⟨u, h1, h2⟩ := hyc j hj; ⟨u, cell_kept hb1 h1, h2.keep hb1⟩)
      have h0 : Hid (xs.take 0 = ys.take 0) := rfl
      go_enter Tryz.func20, Tryz.ntmps20
      go_wp2_with fail
      rw [← hW1]
      replace hW1 := Lib.hid hW1
      go_wp2_with fail
      go_loopw [5] (fun iv wr => ∃ i : Nat, iv = .int .i64 i ∧ i ≤ xs.length ∧ Hid (xs.take i = ys.take i) ∧ Qt W1 wr) (fun iv _ => xs.length - (intOf iv).toNat)
      case atStart => exact ⟨0, rfl, by omega, h0, Qt.refl _⟩
      case round =>
        clear h0
        obtain ⟨i, rfl, hi, ht, n, rfl⟩ := hrel
        by_cases hlt : i < xs.length
        · obtain rfl := hxa (by omega)
          obtain rfl := hya (by rw [← hlen.out]; omega)
          have hlt' : i < ys.length := by rw [← hlen.out]; exact hlt
          obtain ⟨u1, hxi, hxk⟩ := hxc.out i hlt
          obtain ⟨u2, hyi, hyk⟩ := hyc.out i hlt'
          obtain ⟨x, hx⟩ : ∃ x, xs.getD i [] = x := ⟨_, rfl⟩
          obtain ⟨y, hy⟩ : ∃ y, ys.getD i [] = y := ⟨_, rfl⟩
          rw [hx] at hxk
          rw [hy] at hyk
          have hyes : Hid (x = y → xs.take (i + 1) = ys.take (i + 1)) := fun h => takes_next ht.out hlt hlt' (d := []) (by rw [hx, hy, h])
          have hno : Hid (x ≠ y → B = false) := fun h => by
            rw [← hB.out]
            exact decide_eq_false fun h2 => h (by rw [← hx, ← hy, h2])
          obtain ⟨ma, mc, mb, mo, rfl, hma, hmc, _⟩ := hxk
          obtain ⟨na, nc, nb, no, rfl, hna, hnc, _⟩ := hyk
          replace hmc := Lib.hid hmc
          replace hnc := Lib.hid hnc
          have hix : (i : Int) < (xs.length : Int) := by omega
          clear hx hy ht
          by_cases hl2 : x.length = y.length
          · rw [← hl2] at hyi
            have hl2' := Lib.hid hl2
            have h00 : Hid (x.take 0 = y.take 0) := rfl
            clear hl2
            go_wp2_with fail
            go_quiet (fail)
            go_wp2_with fail
            go_loopw [6] (fun jv wr => ∃ j : Nat, jv = .int .i64 j ∧ j ≤ x.length ∧ Hid (x.take j = y.take j) ∧ Qt W1 wr) (fun jv _ => x.length - (intOf jv).toNat)
            case atStart => exact ⟨0, rfl, by omega, h00, by first | exact (Qt.mk' W1 n).step nq | exact Qt.mk' W1 _⟩
            case round =>
              clear h00
              obtain ⟨j, rfl, hj, ht, k, rfl⟩ := hrel
              by_cases hltj : j < x.length
              · obtain rfl := hma (by omega)
                obtain rfl := hna (by rw [← hl2'.out]; omega)
                have hltj' : j < y.length := by rw [← hl2'.out]; exact hltj
                obtain ⟨hx8, hxj⟩ := hmc.out j hltj
                obtain ⟨hy8, hyj⟩ := hnc.out j hltj'
                obtain ⟨p, hp⟩ : ∃ p, x.getD j [] = p := ⟨_, rfl⟩
                obtain ⟨q, hq⟩ : ∃ q, y.getD j [] = q := ⟨_, rfl⟩
                rw [hp] at hx8 hxj
                rw [hq] at hy8 hyj
                obtain ⟨x0, x1, x2, x3, x4, x5, x6, x7, rfl⟩ := eight hx8
                obtain ⟨y0, y1, y2, y3, y4, y5, y6, y7, rfl⟩ := eight hy8
                obtain ⟨c0, c1, c2, c3, c4, c5, c6, c7⟩ := hxj.all8
                obtain ⟨d0, d1, d2, d3, d4, d5, d6, d7⟩ := hyj.all8
                have hjx : (j : Int) < (x.length : Int) := by omega
                clear hxj hyj hx8 hy8
                by_cases he : [x0, x1, x2, x3, x4, x5, x6, x7] = [y0, y1, y2, y3, y4, y5, y6, y7]
                · have hE : eqL [x0, x1, x2, x3, x4, x5, x6, x7] [y0, y1, y2, y3, y4, y5, y6, y7] = true := eqL_true.2 he
                  have ht2 : Hid (x.take (j + 1) = y.take (j + 1)) := takes_next ht.out hltj hltj' (by rw [hp, hq, he])
                  clear hp hq he ht
                  go_wp2_with fail
                  go_quiet (fail)
                  go_wp2_with fail
                  go_roundw
                  case rel => exact ⟨j + 1, by go_num, hltj, ht2, by first | exact (Qt.mk' W1 k).step nq | exact Qt.mk' W1 _⟩
                  case measure => simp [intOf]; omega
                · have hE : eqL [x0, x1, x2, x3, x4, x5, x6, x7] [y0, y1, y2, y3, y4, y5, y6, y7] = false := eqL_false.2 he
                  have hBf : Hid (B = false) := hno.out fun h => he (by rw [← hp, ← hq, h])
                  clear hp hq he ht hyes hno
                  go_wp2_with fail
                  go_quiet (fail)
                  go_wp2_with fail
                  go_ret
                  exact ⟨by rw [hBf.out]; rfl, by first | exact below_drewN hb1 _ | exact below_drewN (below_drewN hb1 _) _⟩
              · have ht2 : Hid (xs.take (i + 1) = ys.take (i + 1)) := hyes.out (takes_all ht.out (by omega) (by rw [← hl2'.out]; omega))
                clear hyes hno ht
                go_wp2_with fail
                go_roundw
                case rel => exact ⟨i + 1, by go_num, hlt, ht2, Qt.mk' W1 _⟩
                case measure => simp [intOf]; omega
          · have hBf : Hid (B = false) := hno.out fun h => hl2 (by rw [h])
            have h1 : ((x.length : Int) == (y.length : Int)) = false := by simp; omega
            clear hyes hno
            go_wp2_with fail
            go_quiet (fail)
            go_wp2_with fail
            go_ret
            exact ⟨by rw [hBf.out]; rfl, by first | exact below_drewN hb1 _ | exact below_drewN (below_drewN hb1 _) _⟩
        · have hBt : Hid (B = true) := by
            show _ = _
            rw [← hB.out]
            exact decide_eq_true (takes_all ht.out (by omega) (by rw [← hlen.out]; omega))
          clear ht
          go_wp2_with fail
          go_ret
          exact ⟨by rw [hBt.out]; rfl, below_drewN hb1 _⟩
    · have hBf : B = false := by rw [← hB.out]; exact decide_eq_false fun h => hlen (by rw [h])
      subst hBf
      have h1 : ((xs.length : Int) == (ys.length : Int)) = false := by simp; omega
      go_enter Tryz.func20, Tryz.ntmps20
      go_wp2_with fail
      rw [← hW1]
      go_ret
      exact ⟨rfl, hb1⟩
  · have h1 : (m == n) = false := by simp [hmn]
    rw [decide_eq_false hmn, Bool.false_and]
    go_enter Tryz.func20, Tryz.ntmps20
    go_wp2_with fail
    rw [← hW1]
    go_ret
    exact ⟨rfl, hb1⟩

end Go.Proofs.YtfihpofdoffclaaGreatDoor

/- Distinguish of the program and of the reference; the search itself is a premise. -/
namespace Go.Proofs.YtfihpofdoffclaaGreatDoor
open Go.RowKit

set_option maxRecDepth 100000 in
set_option maxHeartbeats 1600000 in
theorem disGood {w : World} {v : Value} {n : Int} {ss : List (List (List Int))} (hA : AdvV w v n ss) (hm : movesN ss ≤ 1000000000) (h0 : chkA n ss = 0) {s t : Nat} (hs : s < ss.length) (ht : t < ss.length) {R : Option (List (List Int))}
    (HD : ∀ W, Below w.heap.size w W → Calls Tryz.prog 55 #[v, .int .i64 (s : Int), .int .i64 (t : Int)] W (DisOut W R)) :
    Calls Tryz.prog 23 #[v, .int .i64 (s : Int), .int .i64 (t : Int)] w fun e w' => ∃ u, e = .returned (.tuple #[u, .bool R.isSome, .int .i64 0]) ∧ OwX 79 7 EI w' w.heap.size u (R.getD []).length (R.getD []) ∧ Below w.heap.size w w' := by
  obtain ⟨sa, sc, hv⟩ := advShape' hA
  subst hv
  obtain ⟨W1, hW1⟩ : ∃ W1, W1 = w.alloc (.cells #[.int .i64 n, .slice sa ss.length sc] 24) := ⟨_, rfl⟩
  obtain ⟨hb1, p0, p1, _⟩ := boxAdv hW1
  have HC := checkA (hA.keep hb1) hm
  rw [h0] at HC
  replace HC := Lib.hid HC
  replace HD := Lib.hid HD
  have a1 : (s : Int) < (ss.length : Int) := by omega
  have a2 : (t : Int) < (ss.length : Int) := by omega
  clear hA h0
  go_enter Tryz.func23, Tryz.ntmps23
  go_wp2_with fail
  rw [← hW1]
  refine HC.out.mono ?_
  rintro e W2 ⟨rfl, hb2⟩
  have hb02 := bt hb1 hb2 hb1.size
  have q0 := cell_kept hb2 p0
  have q1 := cell_kept hb2 p1
  go_wp2_with fail
  refine (HD.out W2 hb02).mono ?_
  rintro e W3 ⟨u, rfl, hu, hb3⟩
  have hfin := Lib.hid (hu.base (B' := w.heap.size) hb02.size)
  clear hu
  go_wp2
  go_ret3
  exact ⟨_, rfl, hfin.out, bt hb02 hb3 hb02.size⟩

end Go.Proofs.YtfihpofdoffclaaGreatDoor

/- slices.Max at ints. -/
namespace Go.Proofs.YtfihpofdoffclaaGreatDoor
open Go.RowKit

def mxN (l : List Nat) : Nat := l.foldl max 0
theorem mxN_snoc (l : List Nat) (x : Nat) : mxN (l ++ [x]) = max (mxN l) x := by simp [mxN]
set_option maxRecDepth 100000 in
set_option maxHeartbeats 800000 in
theorem maxCall {w : World} {v : Value} {l : List Nat} (h : Ints w v (natI l)) (h0 : 0 < l.length) :
    Calls Tryz.prog 63 #[v] w fun e w' => e = .returned (.int .i64 (mxN l : Nat)) ∧ w' = w := by
  obtain ⟨aa, ac, ab, off, rfl, ha, hc, hl⟩ := h
  rw [natI_len] at ha hl ⊢
  obtain rfl := ha h0
  obtain ⟨z, hz⟩ : ∃ z, mxN l = z := ⟨_, rfl⟩
  rw [hz]
  have hst : Hid (∀ i, i < l.length → mxN (l.take (i + 1)) = max (mxN (l.take i)) (l.getD i 0)) := fun i hi => by rw [take_snoc hi 0, mxN_snoc]
  have hc0 := hc 0 (by rw [natI_len]; exact h0)
  rw [Nat.add_zero] at hc0
  rw [natI_getD] at hc0
  obtain ⟨q0, hq0⟩ : ∃ q, l.getD 0 0 = q := ⟨_, rfl⟩
  rw [hq0] at hc0
  have hm1 : Hid (mxN (l.take 1) = q0) := by
    show _ = _
    rw [hst.out 0 h0, hq0]; simp [mxN]
  have hze : Hid (mxN (l.take l.length) = z) := by show _ = _; rw [List.take_of_length_le (Nat.le_refl _)]; exact hz
  replace hc := Lib.hid hc
  have hlN : ∀ i, i < l.length → i < (natI l).length := fun i hi => by rw [natI_len]; exact hi
  replace hlN := Lib.hid hlN
  obtain ⟨N, hN⟩ : ∃ N, l.length = N := ⟨_, rfl⟩
  rw [hN] at h0 hl ha hst hze hlN ⊢
  replace hN := Lib.hid hN
  have h01 : (0 : Int) < (N : Int) := by omega
  have hd1 : decide ((N : Int) < 1) = false := decide_eq_false (by omega)
  have hd2 : ¬ N < 1 := by omega
  have hd3 : ¬ N = 0 := by omega
  have hd4 : ¬ (N : Int) < 1 := by omega
  clear hz hq0
  go_enter Tryz.func63, Tryz.ntmps63
  go_wp2
  go_loop [3, 4] (fun mv iv => ∃ i m : Nat, iv = .int .i64 i ∧ mv = .int .i64 m ∧ 1 ≤ i ∧ i ≤ N ∧ Hid (mxN (l.take i) = m)) (fun _ iv => N - (intOf iv).toNat)
  case atStart => exact ⟨1, q0, rfl, rfl, by omega, by omega, hm1⟩
  case round =>
    clear hm1 hc0
    obtain ⟨i, m, rfl, rfl, hi1, hi, hm⟩ := hrel
    by_cases hlt : i < N
    · have hci := hc.out i (hlN.out i hlt)
      rw [natI_getD] at hci
      have hst2 := hst.out i hlt
      obtain ⟨q, hq⟩ : ∃ q, l.getD i 0 = q := ⟨_, rfl⟩
      rw [hq] at hci hst2
      rw [hm.out] at hst2
      have hix : (i : Int) < (N : Int) := by omega
      by_cases hmq : m < q
      · rw [Nat.max_eq_right (Nat.le_of_lt hmq)] at hst2
        have hlt1 : decide ((m : Int) < (q : Int)) = true := decide_eq_true (by omega)
        have hlt2 : decide ((q : Int) < (m : Int)) = false := decide_eq_false (by omega)
        replace hst2 := Lib.hid hst2
        clear hq hm
        go_wp2
        go_round
        case rel => exact ⟨i + 1, q, by go_num, by first | rfl | go_num, by omega, hlt, hst2⟩
        case measure => simp [intOf]; omega
      · rw [Nat.max_eq_left (Nat.le_of_not_lt hmq)] at hst2
        have hlt1 : decide ((m : Int) < (q : Int)) = false := decide_eq_false (by omega)
        replace hst2 := Lib.hid hst2
        clear hq hm
        go_wp2
        go_round
        case rel => exact ⟨i + 1, m, by go_num, by first | rfl | go_num, by omega, hlt, hst2⟩
        case measure => simp [intOf]; omega
    · obtain rfl : i = N := by omega
      have hmz : m = z := by rw [← hze.out, hm.out]
      subst hmz
      clear hm hze
      go_wp2
      go_ret
      exact ⟨rfl, rfl⟩
end Go.Proofs.YtfihpofdoffclaaGreatDoor

/- The walk of the search, with one pair of functions. -/
namespace Go.Proofs.YtfihpofdoffclaaGreatDoor
open Go.RowKit Go.ChangeMaps Go.MapKept

set_option maxRecDepth 100000 in
set_option maxHeartbeats 6400000 in
theorem searchB {w : World} {v : Value} {ss : List (List (List Int))} {D0 : Nat → Prop} {kf : Nat → Nat} {J : List (Nat × List Int) → (Nat → Prop) → World → Prop} {bw : Nat}
    {wA : World} (hK : KSS 8 wA v ss) (hbA : Below wA.heap.size wA w) (hDA : ∀ k, D0 k → wA.heap.size ≤ k) (hl : 0 < ss.length ∧ ss.length ≤ 1000) (hkf : ∀ i, i < ss.length → kf i ≤ 1000000) (hto : ∀ s ∈ ss, ∀ m ∈ s, m.length = 8 ∧ 0 ≤ m.getD 7 0 ∧ m.getD 7 0 < (ss.length : Int))
    (hkey : ∀ W (i : Nat), Only D0 w W → i < ss.length → Calls Tryz.prog 60 #[.int .i64 (i : Int)] W fun e W' => e = .returned (.int .i64 (kf i : Nat)) ∧ W' = W)
    (hJ : Stable J) (hD0 : Bd D0 w) (h0 : J [] D0 w)
    (hfound : ∀ W fs D (s : Nat) y0 y1 y2 y3 y4 y5 y6 y7, J fs D W → Bd D W → Only D0 w W → Gr D0 w D → s < ss.length → s ∈ 0 :: (fs.map fun f => mvTo f.2) → [y0, y1, y2, y3, y4, y5, y6, y7] ∈ ss.getD s [] → kf (mvTo [y0, y1, y2, y3, y4, y5, y6, y7]) ∉ (0 :: fs.map fun f => mvTo f.2).map kf →
      Calls Tryz.prog 61 #[.int .i64 (s : Int), .agg #[.int .i64 y0, .int .i64 y1, .int .i64 y2, .int .i64 y3, .int .i64 y4, .int .i64 y5, .int .i64 y6, .int .i64 y7], .pointer (some ⟨bw, 0, none⟩)] W fun e W' => e = .returned (.tuple #[]) ∧
        ∃ D', Only D W W' ∧ Gr D W D' ∧ Bd D' W' ∧ J (fs ++ [(s, [y0, y1, y2, y3, y4, y5, y6, y7])]) D' W')
    {F : Nat} {R : List Nat × List (Nat × List Int)} (hR : srch kf ss F 0 ([0], []) = some R) (hRl : R.1.length ≤ 1000) :
    Calls Tryz.prog 59 #[v, .func (.func 60) #[] #[], .func (.func 61) #[] #[.pointer (some ⟨bw, 0, none⟩)]] w fun e W' =>
      ∃ u D', e = .returned u ∧ OI W' w.heap.size u R.1.length (natI R.1) ∧ J R.2 D' W' ∧ Bd D' W' ∧ Only D0 w W' ∧ Gr D0 w D' ∧ (∀ k, u.ownBlock = some k → ¬ D' k) := by
  obtain ⟨hl0, hl1⟩ := hl
  obtain ⟨sa, sc, sb, so, rfl, hsa, hsc, _⟩ := hK
  obtain rfl := hsa hl0
  clear hsa
  have hmm := @run_makeMap Tryz.prog
  replace hsc := Lib.hid hsc
  replace hkey := Lib.hid hkey
  replace hfound := Lib.hid hfound
  replace hkf := Lib.hid hkf
  replace hto := Lib.hid hto
  replace hJ := Lib.hid hJ
  obtain ⟨W0, hW0⟩ : ∃ W0, W0 = (w.alloc (.cells #[.int .i64 0] 3)).alloc (.map #[] 0) := ⟨_, rfl⟩
  have hbw : Below w.heap.size w W0 := by rw [hW0]; exact ((Below.refl _ w).alloc (Nat.le_refl _) _).alloc (by simp) _
  have hs0 : W0.heap.size = w.heap.size + 2 := by rw [hW0]; simp
  have hO0 : Only D0 w W0 := Only.of_below hbw
  have hrow0 : W0.heap[w.heap.size]? = some (.cells #[.int .i64 0] 3) := by rw [hW0]; exact (Below.heap_alloc _ _ _ (by simp)).trans (heap_alloc_new _ _)
  have hmade : SN kf W0 (w.heap.size + 1) [] := by
    have h := MX.made (kv := intV) (vv := Value.bool) (w.alloc (.cells #[.int .i64 0] 3))
    rw [World.size_alloc] at h
    rw [hW0]; exact h
  have hk0b := hkf.out 0 hl0
  obtain ⟨ob, hput, hSN1⟩ := SN.put hmade (by simp) hk0b (by simp)
  have hkc := hkey.out W0 0 hO0 hl0
  obtain ⟨q0, hq0⟩ : ∃ q, kf 0 = q := ⟨_, rfl⟩
  rw [hq0] at hput hkc
  obtain ⟨W1, hW1⟩ : ∃ W1, W1 = setBlock W0 (w.heap.size + 1) ob := ⟨_, rfl⟩
  rw [← hW1] at hput hSN1
  have hs1 : W1.heap.size = w.heap.size + 2 := by rw [hW1]; simpa [setBlock] using hs0
  have hO1 : Only D0 w W1 := ⟨by rw [hW1]; exact hO0.os, by rw [hW1]; exact hO0.tape, by rw [hW1]; exact hO0.output, by omega, fun k hk hd => by rw [hW1]; exact (setBlock_keep ob (by omega)).trans (hO0.same k hk hd)⟩
  have hrow1 : W1.heap[w.heap.size]? = some (.cells #[.int .i64 0] 3) := by rw [hW1]; exact (setBlock_keep ob (by omega)).trans hrow0
  have hOI1 : OI W1 w.heap.size (.slice (some ⟨w.heap.size, 0, none⟩) 1 1) ([0] : List Nat).length (natI [0]) := ⟨rfl, .inr ⟨w.heap.size, 1, _, rfl, Nat.le_refl _, hrow1, Nat.le_refl _, by unfold maxLen; omega, rfl, rfl⟩⟩
  have hJ1 : J [] D0 W1 := hJ.out _ _ _ _ h0 (by omega) (fun k hk => by
    have h1 := hD0 k hk
    rw [hW1]
    exact (setBlock_keep ob (by omega)).trans (hbw.block k h1))
  have hBd1 : Bd D0 W1 := fun k hk => by have := hD0 k hk; omega
  have hnS : ¬ D0 (w.heap.size + 1) := fun h => by have := hD0 _ h; omega
  have hnR : ∀ k, (Value.slice (some ⟨w.heap.size, 0, none⟩) 1 1).ownBlock = some k → ¬ D0 k := fun k hk h => by
    simp only [Value.ownBlock, Option.some.injEq] at hk
    have := hD0 _ h; omega
  have hb0 : Hid (∀ x ∈ ([0] : List Nat), x < ss.length) := fun x hx => by simp at hx; omega
  have hR0 : Hid (srch kf ss F 0 ([0], []) = some R) := hR
  replace hW0 := Lib.hid hW0
  replace hW1 := Lib.hid hW1
  replace hq0 := Lib.hid hq0
  replace hkc := Lib.hid hkc
  go_enter Tryz.func59, Tryz.ntmps59
  go_wp2_with fail
  rw [← hW0.out]
  refine (show Calls _ _ _ _ _ from hkc.out).mono ?_
  rintro e w' ⟨rfl, rfl⟩
  go_wp2_with fail
  clear hput hkc hmade hrow0 hrow1 hW0 hW1 hq0 hO0 hbw hR h0
  go_loopg [7, 9] F (fun f ov iv wr => ∃ (i : Nat) (o : List Nat) (fs : List (Nat × List Int)) (D : Nat → Prop), iv = .int .i64 i ∧ OI wr w.heap.size ov o.length (natI o) ∧ SN kf wr (w.heap.size + 1) o ∧ J fs D wr ∧ Bd D wr ∧ Only D0 w wr ∧ Gr D0 w D ∧
    (∀ k, ov.ownBlock = some k → ¬ D k) ∧ ¬ D (w.heap.size + 1) ∧ Hid (∀ x ∈ o, x < ss.length) ∧ Hid (srch kf ss f i (o, fs) = some R) ∧ i ≤ o.length ∧ Hid (o = 0 :: fs.map fun f => mvTo f.2))
  case atStart => exact ⟨0, [0], [], D0, rfl, hOI1, hSN1, hJ1, hBd1, hO1, Gr.refl _ _, hnR, hnS, hb0, hR0, by simp, rfl⟩
  case round =>
    clear hOI1 hSN1 hJ1 hBd1 hO1 hnR hnS hb0 hR0
    obtain ⟨i, o, fs, D, rfl, hOI, hSN, hJr, hBd, hO, hGr, hnR, hnS, hob, hg, hio, hofs⟩ := hrel
    obtain ⟨f, rfl⟩ : ∃ f, gk = f + 1 := by
      cases gk with
      | zero => exact absurd hg (by intro h; simp [Hid, srch] at h)
      | succ f => exact ⟨f, rfl⟩
    have hol : o.length ≤ 1000 := Nat.le_trans (srch_le hg.out) hRl
    obtain ⟨ga, gc, hov⟩ := hOI.shape
    subst hov
    by_cases hlt : i < o.length
    · obtain ⟨g, hg2⟩ : ∃ g, ga = some ⟨g, 0, none⟩ := by
        rcases hOI.2 with ⟨h1, h2⟩ | ⟨g, cap, cur, h1, _⟩
        · omega
        · injection h1 with h1; exact ⟨g, h1⟩
      subst hg2
      have hci := hOI.cell hlt
      rw [natI_getD] at hci
      obtain ⟨s, hs⟩ : ∃ s, o.getD i 0 = s := ⟨_, rfl⟩
      have hs' := hs
      have hsl : s < ss.length := hob.out s (by rw [← hs, getD_eq hlt]; exact List.getElem_mem hlt)
      have hg3 : Hid (srch kf ss f (i + 1) (exts kf s (ss.getD s []) (o, fs)) = some R) := by
        have h1 := hg.out
        rw [srch, if_pos hlt] at h1
        rw [← hs]; exact h1
      rw [hs] at hci
      have hbW : Below wA.heap.size wA wr := hbA.trans (hO.below hbA.size hDA)
      obtain ⟨u, hcu, hu⟩ := hsc.out s hsl
      replace hcu := cell_kept hbW hcu
      obtain ⟨ms, hms⟩ : ∃ ms, ss.getD s [] = ms := ⟨_, rfl⟩
      have hmem : ms ∈ ss := by rw [← hms, getD_eq hsl]; exact List.getElem_mem hsl
      have hmv := Lib.hid (hto.out ms hmem)
      rw [hms] at hu hg3
      obtain ⟨E, hE⟩ : ∃ E, exts kf s ms (o, fs) = E := ⟨_, rfl⟩
      have hE0 : Hid (exts kf s (ms.drop 0) (o, fs) = E) := by show _ = _; rw [List.drop_zero]; exact hE
      rw [hE] at hg3
      have hEl : E.1.length ≤ 1000 := Nat.le_trans (srch_le hg3.out) hRl
      obtain ⟨ma, mc, mb, mo, rfl, hma, hmc, hml⟩ := hu
      replace hmc := Lib.hid hmc
      replace hms := Lib.hid hms
      clear hs hg hE
      go_wp2
      go_loopw [7, 31] (fun ov jv wr => ∃ (j : Nat) (o : List Nat) (fs : List (Nat × List Int)) (D : Nat → Prop), jv = .int .i64 j ∧ j ≤ ms.length ∧ OI wr w.heap.size ov o.length (natI o) ∧ SN kf wr (w.heap.size + 1) o ∧ J fs D wr ∧ Bd D wr ∧ Only D0 w wr ∧ Gr D0 w D ∧
        (∀ k, ov.ownBlock = some k → ¬ D k) ∧ ¬ D (w.heap.size + 1) ∧ Hid (∀ x ∈ o, x < ss.length) ∧ Hid (exts kf s (ms.drop j) (o, fs) = E) ∧ i < o.length ∧ o.getD i 0 = s ∧ Hid (o = 0 :: fs.map fun f => mvTo f.2)) (fun _ jv _ => ms.length - (intOf jv).toNat)
      case atStart => exact ⟨0, o, fs, D, rfl, by omega, hOI, hSN, hJr, hBd, hO, hGr, hnR, hnS, hob, hE0, hlt, hs', hofs⟩
      case round =>
        clear hOI hSN hJr hBd hO hGr hnR hnS hob hE0 hlt hs' hofs hci hcu hio hol hbW
        obtain ⟨j, o, fs, D, rfl, hj, hOI, hSN, hJr, hBd, hO, hGr, hnR, hnS, hob, hg, hio, his, hofs⟩ := hrel
        have hol : o.length ≤ 1000 := by
          have h1 := exts_le kf s (ms.drop j) (o, fs)
          rw [hg.out] at h1
          exact Nat.le_trans h1 hEl
        obtain ⟨g, gc, hov⟩ : ∃ g gc, u7 = .slice (some ⟨g, 0, none⟩) o.length gc := by
          rcases hOI.2 with ⟨h1, h2⟩ | ⟨g, cap, cur, h1, _⟩
          · omega
          · exact ⟨g, cap, h1⟩
        subst hov
        by_cases hltj : j < ms.length
        · obtain rfl := hma (by omega)
          have hbW : Below wA.heap.size wA wr := hbA.trans (hO.below hbA.size hDA)
          obtain ⟨hx8, hxc⟩ := hmc.out j hltj
          obtain ⟨x, hx⟩ : ∃ x, ms.getD j [] = x := ⟨_, rfl⟩
          have hxm : x ∈ ms := by rw [← hx, getD_eq hltj]; exact List.getElem_mem hltj
          obtain ⟨_, ht0, ht1⟩ := hmv.out x hxm
          have hdr := drop_cons hltj ([] : List Int)
          rw [hx] at hx8 hxc hdr
          obtain ⟨y0, y1, y2, y3, y4, y5, y6, y7, rfl⟩ := eight hx8
          replace ht0 : 0 ≤ y7 := ht0
          replace ht1 : y7 < (ss.length : Int) := ht1
          obtain ⟨q, rfl⟩ : ∃ q : Nat, y7 = (q : Int) := ⟨y7.toNat, by omega⟩
          have hq : q < ss.length := by omega
          obtain ⟨c0, c1, c2, c3, c4, c5, c6, c7⟩ := (hxc.keep hbW).all8
          have hmq : mvTo [y0, y1, y2, y3, y4, y5, y6, (q : Int)] = q := by show ((q : Int)).toNat = q; omega
          have hxm2 : Hid ([y0, y1, y2, y3, y4, y5, y6, (q : Int)] ∈ ss.getD s []) := by show _ ∈ _; rw [hms.out]; exact hxm
          rw [hdr] at hg
          obtain ⟨W2, hW2⟩ : ∃ W2, W2 = wr.alloc (.cells #[.int .i64 y0, .int .i64 y1, .int .i64 y2, .int .i64 y3, .int .i64 y4, .int .i64 y5, .int .i64 y6, .int .i64 (q : Int)] 84) := ⟨_, rfl⟩
          have hb2 : Below wr.heap.size wr W2 := by rw [hW2]; exact (Below.refl _ _).alloc (Nat.le_refl _) _
          have m2 : W2.heap[wr.heap.size]? = some (.cells #[.int .i64 y0, .int .i64 y1, .int .i64 y2, .int .i64 y3, .int .i64 y4, .int .i64 y5, .int .i64 y6, .int .i64 (q : Int)] 84) := by rw [hW2]; exact heap_alloc_new _ _
          have hs2a : W2.heap.size ≤ wr.heap.size + 1 := by rw [hW2]; simp
          have hs2b : wr.heap.size + 1 ≤ W2.heap.size := by rw [hW2]; simp
          have hO2 := hO.thenBelow (hb2.mono hO.size)
          have hJ2 := hJ.out _ _ _ _ hJr hb2.size (fun k hk => hb2.block k (hBd k hk))
          have hBd2 : Bd D W2 := fun k hk => Nat.lt_of_lt_of_le (hBd k hk) hb2.size
          have hOI2 := hOI.keep hb2
          have hSN2 : SN kf W2 (w.heap.size + 1) o := MX.keep hSN (hb2.block _ (MX.lt hSN))
          have hkc := hkey.out W2 q hO2 hq
          have hkq := hkf.out q hq
          have hkall : ∀ y ∈ o, kf y ≤ 1000000 := fun y hy => hkf.out y (hob.out y hy)
          have hlk := hSN2.look hkall hkq
          have hbSw : w.heap.size + 1 < wr.heap.size := MX.lt hSN
          have hgw : g < wr.heap.size := by
            rcases hOI.2 with ⟨h1, _⟩ | ⟨g', cap, cur, h1, _, h3, _⟩
            · cases h1
            · injection h1 with h1; injection h1 with h1; injection h1 with h1
              rw [h1]; exact (Array.getElem?_eq_some_iff.1 h3).1
          obtain ⟨p0, p1, p2, p3, p4, p5, p6, p7⟩ := box8 m2
          replace hW2 := Lib.hid hW2
          clear hx8 hxc hxm hdr hOI hSN hJr hBd hO hx
          by_cases hin : kf q ∈ o.map kf
          · rw [decide_eq_true hin] at hlk
            have hg2 : Hid (exts kf s (ms.drop (j + 1)) (o, fs) = E) := by
              show _ = _; rw [← hg.out]; exact (exts_in (by rw [hmq]; exact hin)).symm
            obtain ⟨qk, hqk⟩ : ∃ qk, kf q = qk := ⟨_, rfl⟩
            rw [hqk] at hlk hkc
            replace hkc := Lib.hid hkc
            clear hin hqk hg
            go_wp2_with fail
            rw [← hW2.out]
            refine (show Calls _ _ _ _ _ from hkc.out).mono ?_
            rintro e w' ⟨rfl, rfl⟩
            go_wp2_with fail
            go_roundw
            case rel => exact ⟨j + 1, o, fs, D, by go_num, hltj, hOI2, hSN2, hJ2, hBd2, hO2, hGr, hnR, hnS, hob, hg2, hio, his, hofs⟩
            case measure => simp [intOf]; omega
          · rw [decide_eq_false hin] at hlk
            have hg2 : Hid (exts kf s (ms.drop (j + 1)) (o ++ [q], fs ++ [(s, [y0, y1, y2, y3, y4, y5, y6, (q : Int)])]) = E) := by
              show _ = _; rw [← hg.out]
              have h1 := exts_out (kf := kf) (s := s) (m := [y0, y1, y2, y3, y4, y5, y6, (q : Int)]) (r := ms.drop (j + 1)) (o := o) (fs := fs) (by rw [hmq]; exact hin)
              rw [hmq] at h1; exact h1.symm
            obtain ⟨ob, hput, hSN3⟩ := hSN2.put hkall hkq hin
            obtain ⟨qk, hqk⟩ : ∃ qk, kf q = qk := ⟨_, rfl⟩
            rw [hqk] at hlk hkc hput
            replace hkc := Lib.hid hkc
            obtain ⟨W3, hW3⟩ : ∃ W3, W3 = setBlock W2 (w.heap.size + 1) ob := ⟨_, rfl⟩
            rw [← hW3] at hput hSN3
            have hkp : ∀ k, k ≠ w.heap.size + 1 → W3.heap[k]? = W2.heap[k]? := fun k hk => by rw [hW3]; exact setBlock_keep ob hk
            have hs3a : W3.heap.size ≤ W2.heap.size := by rw [hW3]; simp [setBlock]
            have hs3b : W2.heap.size ≤ W3.heap.size := by rw [hW3]; simp [setBlock]
            have hb3 : Below w.heap.size W2 W3 := by rw [hW3]; exact setBlock_below (Below.refl _ _) (by omega) ob
            have hOI3 : OI W3 w.heap.size (.slice (some ⟨g, 0, none⟩) o.length gc) o.length (natI o) := by
              refine ⟨hOI2.1, ?_⟩
              rcases hOI2.2 with h' | ⟨g', cap, cur, h1, h2, h3, h4⟩
              · exact .inl h'
              · refine .inr ⟨g', cap, cur, h1, h2, Eq.trans (hkp g' ?_) h3, h4⟩
                rintro rfl
                obtain ⟨es, cl, hm, _⟩ := hSN2
                rw [hm] at h3; cases h3
            have hgS : g ≠ w.heap.size + 1 := by
              rintro rfl
              obtain ⟨es, cl, hm, _⟩ := hSN2
              rcases hOI2.2 with ⟨h1, _⟩ | ⟨g', cap, cur, h1, _, h3, _⟩
              · cases h1
              · injection h1 with h1; injection h1 with h1; injection h1 with h1
                rw [← h1, hm] at h3; cases h3
            have hgB : w.heap.size ≤ g := hOI2.ge
            have hnG : ¬ D g := hnR g rfl
            have m3 := (hkp wr.heap.size (by omega)).trans m2
            have hF := fun W h1 h2 h3 => hfound.out W fs D s y0 y1 y2 y3 y4 y5 y6 (q : Int) h1 h2 h3 hGr hsl (by rw [← hofs.out, ← his, getD_eq hio]; exact List.getElem_mem hio) hxm2.out (by rw [hmq, ← hofs.out]; exact hin)
            replace hF := Lib.hid hF
            have hbnd : w.heap.size ≤ W3.heap.size := by omega
            have p0' := box8 m3
            obtain ⟨r0, r1, r2, r3, r4, r5, r6, r7⟩ := p0'
            have hofs5 : Hid (o ++ [q] = 0 :: (fs ++ [(s, [y0, y1, y2, y3, y4, y5, y6, (q : Int)])]).map fun f => mvTo f.2) := by
              show _ = _
              rw [List.map_append, ← List.cons_append, ← hofs.out]
              show _ = o ++ [mvTo [y0, y1, y2, y3, y4, y5, y6, (q : Int)]]
              rw [hmq]
            replace hW3 := Lib.hid hW3
            clear hqk hg hin
            go_wp2_with fail
            rw [← hW2.out]
            refine (show Calls _ _ _ _ _ from hkc.out).mono ?_
            rintro e w' ⟨rfl, hw'⟩
            replace hw' := hw'.symm
            subst hw'
            go_wp2_with fail
            refine (show Calls _ _ _ _ _ from hkc.out).mono ?_
            rintro e w' ⟨rfl, hw'⟩
            replace hw' := hw'.symm
            subst hw'
            clear p0 p1 p2 p3 p4 p5 p6 p7
            go_wp2_with (at_builtin; refine wpApp1I rfl _ _ rfl rfl hOI3 rfl (by omega) hbnd ?_; intro v' w4 ho4 hgr4 hnb4 hb4; obtain ⟨g', cap', rfl⟩ := ownsRow_succ ho4)
            obtain ⟨N, hN⟩ : ∃ N, N = o.length + 1 := ⟨_, rfl⟩
            rw [← hN] at ho4 hnb4 ⊢
            have hb24 : Below w.heap.size W2 w4 := hb3.trans hb4
            have hO4 := hO2.thenBelow hb24
            have hgr4' : W3.grownBy w4 (some g) := hgr4
            have hne4 : ∀ k, k < W3.heap.size → k ≠ g → k ≠ w.heap.size + 1 → w4.heap[k]? = W2.heap[k]? := fun k hk h1 h2 => (hgr4'.block k hk (fun e => h1 (by injection e))).trans (hkp k h2)
            have hJ4 : J fs D w4 := hJ.out _ _ _ _ hJ2 (by have := hgr4'.size; omega) (fun k hk => hne4 k (by have := hBd2 k hk; omega) (fun e => hnG (e ▸ hk)) (fun e => hnS (e ▸ hk)))
            have hBd4 : Bd D w4 := fun k hk => by have := hBd2 k hk; have := hgr4'.size; omega
            have m4 := (hgr4'.block wr.heap.size (by omega) (fun e => by injection e; omega)).trans m3
            have hSN4 : SN kf w4 (w.heap.size + 1) (o ++ [q]) := MX.keep hSN3 (hgr4'.block _ (by omega) (fun e => by injection e with e; exact hgS e.symm))
            have hio4 : i < N := by omega
            replace hN := Lib.hid hN
            have hci4 := ho4.cell hio4
            have hnat : natI o ++ [(q : Int)] = natI (o ++ [q]) := by simp [natI]
            have his4 : (o ++ [q]).getD i 0 = s := by rw [List.getD_eq_getElem?_getD, List.getElem?_append_left hio, ← List.getD_eq_getElem?_getD]; exact his
            rw [hnat] at ho4 hci4
            rw [natI_getD, his4] at hci4
            obtain ⟨r0, r1, r2, r3, r4, r5, r6, r7⟩ := box8 m4
            have hg'4 : g' < w4.heap.size := by
              rcases ho4.2 with ⟨h1, _⟩ | ⟨g2, cap, cur, h1, _, h3, _⟩
              · cases h1
              · injection h1 with h1; injection h1 with h1; injection h1 with h1
                rw [h1]; exact (Array.getElem?_eq_some_iff.1 h3).1
            have hg'D : ¬ D g' := by
              rcases hnb4 with e | e
              · have : some g' = some g := e
                injection this with this
                rw [this]; exact hnG
              · have h1 := e g' rfl
                intro h; have := hBd2 g' h; omega
            have hg'S : g' ≠ w.heap.size + 1 := by
              rcases hnb4 with e | e
              · have : some g' = some g := e
                injection this with this
                rw [this]; exact hgS
              · have h1 := e g' rfl
                omega
            have hmx : Tryz.prog.follows .mixedOrders = true := by kernel_rfl
            clear hput hlk hOI3 hOI2 hSN2 hSN3 hJ2 hgr4 hgr4' hO2 m2 m3 hb2 hb3 hb4 hkp hne4 hkc c0 c1 c2 c3 c4 c5 c6 c7
            refine wp_region_qtail 6 hmx (by kernel_rfl) (by kernel_rfl) ?_ ?_
            · rintro ⟨a, wx, h⟩
              obtain ⟨_, _, h, _⟩ := h
              cases h
            · intro ops'
              simp only [List.take_succ_cons, List.take_zero, List.drop_succ_cons, List.drop_zero]
              repeat (quiet_step (fail))
              refine wpQuiet_nil ?_
              intro k
              have hOk : Only D0 w (w4.drewN k) := hO4.drewN k
              go_wp2_with fail
              have hJk : J fs D (w4.drewN k) := hJ.out _ _ _ _ hJ4 (Nat.le_refl _) (fun _ _ => rfl)
              refine (show Calls _ _ _ _ _ from hF.out (w4.drewN k) hJk (fun x hx => hBd4 x hx) hOk).mono ?_
              rintro e W5 ⟨rfl, D5, hO5, hGr5, hBd5, hJ5⟩
              have hOn5 : Only D0 w W5 := hOk.trans hO5 hGr
              have hGrn5 := hGr.trans hGr5 hOk.size
              have hSN5 : SN kf W5 (w.heap.size + 1) (o ++ [q]) := MX.keep hSN4 (hO5.same _ (MX.lt hSN4) hnS)
              have ho5 : OI W5 w.heap.size (.slice (some ⟨g', 0, none⟩) N cap') N (natI (o ++ [q])) := by
                refine ⟨ho4.1, ?_⟩
                rcases ho4.2 with h' | ⟨g2, cap, cur, h1, h2, h3, h4⟩
                · exact .inl h'
                · have hg2 : g2 = g' := by injection h1 with h1; injection h1 with h1; injection h1 with h1; exact h1.symm
                  refine .inr ⟨g2, cap, cur, h1, h2, Eq.trans (hO5.same g2 (Array.getElem?_eq_some_iff.1 h3).1 (by rw [hg2]; exact hg'D)) h3, h4⟩
              have hnew : ∀ k, D5 k → D k ∨ w4.heap.size ≤ k := hGr5
              have hnR5 : ∀ k, (Value.slice (some ⟨g', 0, none⟩) N cap').ownBlock = some k → ¬ D5 k := fun k hk h => by
                simp only [Value.ownBlock, Option.some.injEq] at hk
                subst hk
                rcases hnew _ h with h' | h'
                · exact hg'D h'
                · omega
              have hnS5 : ¬ D5 (w.heap.size + 1) := fun h => by
                rcases hnew _ h with h' | h'
                · exact hnS h'
                · have := MX.lt hSN4; omega
              have hob5 : Hid (∀ x ∈ o ++ [q], x < ss.length) := fun x hx => by
                rcases List.mem_append.1 hx with h | h
                · exact hob.out x h
                · rw [List.mem_singleton.1 h]; exact hq
              have hl1' : (o ++ [q]).length = N := by rw [hN.out]; simp
              have ho6 : OI W5 w.heap.size (.slice (some ⟨g', 0, none⟩) N cap') (o ++ [q]).length (natI (o ++ [q])) := by rw [hl1']; exact ho5
              have hi5 : i < (o ++ [q]).length := by rw [hl1']; exact hio4
              clear hF hl1'
              go_wp2
              go_roundw
              case rel => exact ⟨j + 1, o ++ [q], _, D5, by go_num, hltj, ho6, hSN5, hJ5, hBd5, hOn5, hGrn5, hnR5, hnS5, hob5, hg2, hi5, his4, hofs5⟩
              case measure => simp [intOf]; omega
        · obtain rfl : j = ms.length := by omega
          have hE1 : Hid (srch kf ss f (i + 1) (o, fs) = some R) := by
            show _ = _
            have h1 := hg.out
            rw [List.drop_length, exts] at h1
            rw [h1]; exact hg3.out
          clear hg hg3
          go_wp2
          go_roundg f
          case measure => omega
          case rel => exact ⟨i + 1, o, fs, D, by go_num, hOI, hSN, hJr, hBd, hO, hGr, hnR, hnS, hob, hE1, by omega, hofs⟩
    · have hRe : R = (o, fs) := by
        have h1 := hg.out
        rw [srch, if_neg hlt] at h1
        exact (Option.some.inj h1).symm
      subst hRe
      clear hg
      go_wp2
      go_ret
      exact ⟨_, rfl, hOI, D, hJr, hBd, hO, hGr, hnR⟩
end Go.Proofs.YtfihpofdoffclaaGreatDoor

/- Texts of this claim, put together: CH1 J0 CI CJ1. -/
import Derived.Test.YtiiiegflobihjaaGreatKAWl
import Derived.Test.YtiiiegflobihjaaGreatKAWm
import Derived.Test.YtiiiegflobihjaaGreatKAWk
import Derived.Lib.AppendZeros
import Derived.Laws.AppendOwnNone
import Derived.Deep.RegionHeld3
import Derived.Deep.DeepCutAuto

/- combine.rounds with combine.same. -/
namespace Go.Proofs.YtiiiegflobihjaaGreat
open Go.RowKit

set_option maxRecDepth 100000 in
set_option maxHeartbeats 800000 in
theorem sameRd (r0 r1 r2 r3 r4 r5 r6 : Int) (w : World) :
    Calls Tryz.prog 67 #[.agg #[.int .i64 r0, .int .i64 r1, .int .i64 r2, .int .i64 r3, .int .i64 r4, .int .i64 r5, .int .i64 r6]] w fun e w' => e = .returned (.agg #[.int .i64 r0, .int .i64 r1, .int .i64 r2, .int .i64 r3, .int .i64 r4, .int .i64 r5, .int .i64 r6]) ∧ Below w.heap.size w w' := by
  go_enter Tryz.func67, Tryz.ntmps67
  go_wp2
  refine bodyPost_ret (v := .agg #[.int .i64 r0, .int .i64 r1, .int .i64 r2, .int .i64 r3, .int .i64 r4, .int .i64 r5, .int .i64 r6]) (by simp [results, Tryz.results67, go_sem]) rfl ⟨rfl, ?_⟩
  exact ((Below.refl _ w).alloc (Nat.le_refl _) _).alloc (by simp) _

set_option maxRecDepth 100000 in
set_option maxHeartbeats 3200000 in
theorem roundsSame {w : World} {u : Value} {ms : List (List Int)} (hK : KS 8 w u ms) (h0 : 0 < ms.length) (hl : ms.length ≤ 1000) :
    Calls Tryz.prog 65 #[u, .func (.func 67) #[] #[]] w fun e w' => ∃ v, e = .returned v ∧ OwX 51 7 EI w' w.heap.size v (lets (ms.map rdOf)).length (lets (ms.map rdOf)) ∧ Below w.heap.size w w' := by
  obtain ⟨a, c, b, off, rfl, hae, hc, _⟩ := hK
  obtain rfl := hae h0
  have hcm := Lib.hid (fun W (hb : Below w.heap.size w W) j (hj : j < ms.length) => And.intro (hc j hj).1 ((hc j hj).2.keep hb))
  have hO0 : OwX 51 7 EI w w.heap.size (.slice none 0 0) 0 ((ms.map rdOf).take 0) := OwX.nil _ _
  have hmg : Hid (∀ j, j < ms.length → (ms.map rdOf).take (j + 1) = (ms.map rdOf).take j ++ [rdOf (ms.getD j [])]) := fun j hj => by
    rw [take_snoc (by rw [List.length_map]; exact hj) ([] : List Int), getD_eq (by rw [List.length_map]; exact hj), List.getElem_map, getD_eq hj]
  have hml : (ms.map rdOf).length = ms.length := List.length_map ..
  obtain ⟨L, hL⟩ : ∃ L, ms.map rdOf = L := ⟨_, rfl⟩
  rw [hL] at hO0 hmg hml ⊢
  replace hml := Lib.hid hml
  replace hL := Lib.hid hL
  clear hc hae
  go_enter Tryz.func65, Tryz.ntmps65
  go_wp2_with fail
  go_loopw [5, 10] (fun ov jv wr => ∃ j : Nat, jv = .int .i64 j ∧ j ≤ ms.length ∧ OwX 51 7 EI wr w.heap.size ov j (L.take j) ∧ Below w.heap.size w wr) (fun _ jv _ => ms.length - (intOf jv).toNat)
  case atStart => exact ⟨0, rfl, by omega, hO0, Below.refl _ _⟩
  case round =>
    clear hO0
    obtain ⟨j, rfl, hj, hO, hbr⟩ := hrel
    obtain ⟨oa, oc, hov⟩ := hO.shape
    subst hov
    by_cases hlt : j < ms.length
    · have hji : (j : Int) < (ms.length : Int) := by omega
      obtain ⟨hm8, hmc⟩ := hcm.out wr hbr j hlt
      have hsn := hmg.out j hlt
      obtain ⟨m, hm⟩ : ∃ m, ms.getD j [] = m := ⟨_, rfl⟩
      rw [hm] at hm8 hmc hsn
      obtain ⟨m0, m1, m2, m3, m4, m5, m6, m7, rfl⟩ := eight hm8
      obtain ⟨c0, c1, c2, c3, c4, c5, c6, c7⟩ := hmc.all8
      obtain ⟨Wb, hWb⟩ : ∃ Wb, Wb = wr.alloc (.cells #[.int .i64 m0, .int .i64 m1, .int .i64 m2, .int .i64 m3, .int .i64 m4, .int .i64 m5, .int .i64 m6, .int .i64 m7] 58) := ⟨_, rfl⟩
      have hbb : Below wr.heap.size wr Wb := by rw [hWb]; exact (Below.refl _ _).alloc (Nat.le_refl _) _
      have hbrb := bt hbr hbb hbr.size
      have hOb := hO.keep (EI.stab _) hbb
      have hj9 : j ≤ 1000000000000 := by omega
      have hsn : Hid (L.take (j + 1) = L.take j ++ [[m0, m1, m2, m3, m4, m5, m6]]) := hsn
      have HC := Lib.hid (sameRd m0 m1 m2 m3 m4 m5 m6 Wb)
      replace hm := Lib.hid hm
      clear hmc hm8 hO
      go_wp2_with fail
      rw [← hWb]
      replace hWb := Lib.hid hWb
      refine HC.out.mono ?_
      rintro e w1 ⟨rfl, hb1⟩
      have hb01 := bt hbrb hb1 hbrb.size
      have hO1 := hOb.keep (EI.stab _) hb1
      have hB1 : w.heap.size ≤ w1.heap.size := hb01.size
      have hEI : EI w1 [.int .i64 m0, .int .i64 m1, .int .i64 m2, .int .i64 m3, .int .i64 m4, .int .i64 m5, .int .i64 m6] [m0, m1, m2, m3, m4, m5, m6] := rfl
      have hc7 : ∀ u ∈ (#[.int .i64 m0, .int .i64 m1, .int .i64 m2, .int .i64 m3, .int .i64 m4, .int .i64 m5, .int .i64 m6] : Array Value).toList, u.oneCell' = true := fun u hu => by
        simp only [List.mem_cons, List.not_mem_nil, or_false] at hu
        rcases hu with rfl | rfl | rfl | rfl | rfl | rfl | rfl <;> rfl
      replace hEI := Lib.hid hEI
      replace hc7 := Lib.hid hc7
      go_wp2_with (at_builtin; refine wpAppX (x := [m0, m1, m2, m3, m4, m5, m6]) elemRd (by decide) (by decide) (EI.stab _) rfl _ _ rfl rfl hO1 rfl rfl rfl hc7.out hEI.out hj9 hB1 ?_)
      intro v2 w2 ho2 hg2 hb2 hx2
      rw [← hsn.out] at ho2
      have hbf := hb01.trans hb2
      go_wp2
      go_roundw
      case rel => exact ⟨j + 1, by go_num, hlt, ho2, hbf⟩
      case measure => simp [intOf]; omega
    · obtain rfl : j = ms.length := by omega
      have hge : ¬ ((ms.length : Int) < (ms.length : Int)) := by omega
      rw [show L.take ms.length = L by rw [← hml.out, List.take_length]] at hO
      obtain ⟨g, cap, hve, hgB⟩ := hO.form h0
      obtain ⟨rfl, rfl⟩ : oa = some ⟨g, 0, none⟩ ∧ cap = oc := by injection hve with h1 h2 h3; exact ⟨h1, h3.symm⟩
      have HS := Lib.hid (sortRds hO (by omega))
      clear hve hO
      go_wp2_with fail
      refine HS.out.mono ?_
      rintro e w1 ⟨rfl, ys, hp, hs, hy, hb1, _⟩
      have HC := Lib.hid (compactRd hy (by omega))
      rw [cmpc_lets hp hs] at HC
      have hb01 := hbr.trans hb1
      replace hp := Lib.hid hp
      replace hs := Lib.hid hs
      clear hy
      go_wp2_with fail
      refine HC.out.mono ?_
      rintro e w2 ⟨k, rfl, hz, hb2, _⟩
      have hlz := hz.length
      subst hlz
      have hb02 := hb01.trans hb2
      replace hz := Lib.hid hz
      go_wp2
      go_ret
      exact ⟨_, rfl, hz.out, hb02⟩
end Go.Proofs.YtiiiegflobihjaaGreat

/- slices.Grow and slices.Concat at rows of moves. -/
namespace Go.Proofs.YtiiiegflobihjaaGreat
open Go.RowKit

theorem umInt64 : Tryz.prog.underlying 3 = some (.int .i64) := by kernel_rfl
set_option maxRecDepth 100000 in
set_option maxHeartbeats 800000 in
theorem growMv {w : World} (n : Nat) (h0 : 0 < n) (hn : n ≤ 1000000) :
    Calls Tryz.prog 96 #[.slice none 0 0, .int .i64 (n : Int)] w fun e w' => ∃ v', e = .returned v' ∧ w'.ownsRow w.heap.size 58 8 v' 0 [] ∧ Below w.heap.size w w' := by
  obtain ⟨i0, hi, hz0, hz1, hz2⟩ := info_parts elemMv.2.1
  have hr := fun ty => Lib.run_append_nil_zeros (P := Tryz.prog) w 59 3 ty 58 i0 _ .i64 .i64 elemMv.1 umInt64 hi hz0 n h0 (by rw [hz1]; decide) (by omega) (by rw [hz2]; omega)
  have hge := grownCap_ge w n 0 58
  have hcm : grownCap w n 0 58 ≤ maxLen := grownCap_le_maxLen w n 0 58 (by unfold maxLen; omega)
  obtain ⟨cap, hcap⟩ : ∃ cap, grownCap w n 0 58 = cap := ⟨_, rfl⟩
  rw [hcap] at hge hcm
  simp only [hcap] at hr
  obtain ⟨W1, hW1⟩ : ∃ W1, W1 = w.drew.alloc (.cells (Builtin.zeroCells (Value.agg #[.int .i64 0, .int .i64 0, .int .i64 0, .int .i64 0, .int .i64 0, .int .i64 0, .int .i64 0, .int .i64 0]).cells n ++ Builtin.zeroCells (Value.agg #[.int .i64 0, .int .i64 0, .int .i64 0, .int .i64 0, .int .i64 0, .int .i64 0, .int .i64 0, .int .i64 0]).cells (cap - n)) 58) := ⟨_, rfl⟩
  have hb : Below w.heap.size w W1 := by rw [hW1]; exact (Below.refl _ w).drew.alloc (Nat.le_refl _) _
  have hown : W1.ownsRow w.heap.size 58 8 (.slice (some ⟨w.heap.size, 0, none⟩) 0 cap) 0 [] := by
    refine ⟨rfl, .inr ⟨w.heap.size, cap, _, rfl, Nat.le_refl _, by rw [hW1]; exact heap_alloc_new w.drew _, Nat.zero_le _, hcm, ?_, by simp⟩⟩
    simp only [Array.size_append, size_zeroCells, elemMv.2.2]
    omega
  simp only [← hW1] at hr
  unfold maxLen at hcm
  have hcm' : (cap : Int) ≤ 9223372036854775807 := by omega
  have hnc : (n : Int) ≤ (cap : Int) := by omega
  have hn1 : decide ((n : Int) < 0) = false := decide_eq_false (by omega)
  have hn2 : decide (0 < (n : Int)) = true := decide_eq_true (by omega)
  replace hown := Lib.hid hown
  replace hb := Lib.hid hb
  clear hW1 hcap hi
  go_enter Tryz.func96, Tryz.ntmps96
  go_wp2_with (at_builtin; refine wpList_plain rfl fun _ hK => Lib.wp_append_run w _ _ 59 3 rfl (.slice none 0 0) (.int .i64 (n : Int)) rfl rfl _ W1 (hr _) (hK _ _ ?_))
  go_wp2
  go_ret
  exact ⟨_, rfl, hown.out, hb.out⟩

/-- A row of moves, cell by cell. -/
def RowMv (w : World) (B : Nat) (v : Value) (n : Nat) (xs : List (List Int)) : Prop := w.ownsRow B 58 8 v n (xs.flatten.map (Value.int .i64))
/-- append of a whole slice of moves. -/
theorem wpList_appMvs {w : World} {ops : Array Oper} {rest : List Oper} {o : Oper} {a : Act} {Q : Exit → Act → World → Prop} (hgd : o.guard = none) (s y : Operand)
    (ho : o.op = .call { callee := .builtin .append, args := #[s, y], argTypes := #[59, 59] }) {B n : Nat} {v : Value} {xs : List (List Int)} (hs : a.eval s = v)
    (hown : RowMv w B v n xs) {ys : List (List Int)} {ya : Addr} {yc : Nat} (hx : a.eval y = .slice (some ya) ys.length yc)
    (hy : KS 8 w (.slice (some ya) ys.length yc) ys) (hy0 : 0 < ys.length) (hn : n + ys.length ≤ 1000000) (hB : B ≤ w.heap.size)
    (h : ∀ v' w', RowMv w' B v' (n + ys.length) (xs ++ ys) → w.grownBy w' v.ownBlock → Below B w w' → wpList Tryz.prog ops Q rest (a.put o.dst v') w') :
    wpList Tryz.prog ops Q (o :: rest) a w := by
  obtain ⟨i0, hi, hz0, hz1, hz2⟩ := info_parts elemMv.2.1
  obtain ⟨a', c', b, off, he, ha, hc, _⟩ := hy
  have hlens := KS.lens hc
  injection he with he1 he2 he3
  have ha' := ha hy0
  rw [← he1] at ha'
  injection ha' with ha'
  subst ha'
  refine wpList_append_own w hgd s y 59 ho B 58 i0 _ 8 64 elemMv.1 hi hz0 hz1 hz2 elemMv.2.2 (by decide) v n _ hs hown ⟨b, off, none⟩ ys.length yc (ys.flatten.map (Value.int .i64)) hx (by rw [List.length_map, flat_len hlens]) ?_ ?_ (by unfold maxLen; omega) (by omega) hB fun v' w' h1 h2 _ => ?_
  · intro j u hj
    rw [Addr.add_lit]
    exact KS.flat hc j u hj
  · intro u hu
    obtain ⟨i, _, rfl⟩ := List.mem_map.1 hu; rfl
  · refine h v' w' (by unfold RowMv; rw [List.flatten_append, List.map_append]; exact h1) h2 ((Below.refl B w).grown h2 hB (fun k hk => (World.ownsRow.lt hown k hk).1))

end Go.Proofs.YtiiiegflobihjaaGreat

/- slices.Concat at rows of moves, one of which may be nil. -/
namespace Go.Proofs.YtiiiegflobihjaaGreat
open Go.RowKit

theorem wpList_appMvsE {w : World} {ops : Array Oper} {rest : List Oper} {o : Oper} {a : Act} {Q : Exit → Act → World → Prop} (hgd : o.guard = none) (s y : Operand)
    (ho : o.op = .call { callee := .builtin .append, args := #[s, y], argTypes := #[59, 59] }) {B n : Nat} {v : Value} {xs : List (List Int)} (hs : a.eval s = v)
    (hown : RowMv w B v n xs) {ys : List (List Int)} {ya : Option Addr} {yc : Nat} (hx : a.eval y = .slice ya ys.length yc)
    (hy : KS 8 w (.slice ya ys.length yc) ys) (hy0 : ys.length = 0 → ya = none ∧ yc = 0) (hn : n + ys.length ≤ 1000000) (hB : B ≤ w.heap.size)
    (h : ∀ v' w', RowMv w' B v' (n + ys.length) (xs ++ ys) → w.grownBy w' v.ownBlock → Below B w w' → wpList Tryz.prog ops Q rest (a.put o.dst v') w') :
    wpList Tryz.prog ops Q (o :: rest) a w := by
  rcases Nat.eq_zero_or_pos ys.length with h0 | h0
  · obtain ⟨rfl, rfl⟩ := hy0 h0
    obtain rfl := List.length_eq_zero_iff.1 h0
    obtain ⟨i0, hi, _⟩ := info_parts elemMv.2.1
    refine wpList_append_own_none hgd s y 59 ho B 58 i0 8 elemMv.1 hi v n _ hs hown hx ?_
    exact h v w (by rw [List.append_nil]; exact hown) ⟨rfl, rfl, rfl, Nat.le_refl _, fun _ _ _ => rfl⟩ (Below.refl _ _)
  · have hy' := hy
    obtain ⟨a', c', b, off, he, ha, _⟩ := hy'
    injection he with he1 he2 he3
    have ha' := ha h0
    rw [← he1] at ha'
    subst ha'
    exact wpList_appMvs hgd s y ho hs hown hx hy h0 hn hB h

set_option maxRecDepth 100000 in
set_option maxHeartbeats 1600000 in
theorem concatMvE {w : World} {b : Nat} {u1 u2 : Value} {xs ys : List (List Int)} (c0 : w.cell? ⟨b, 0, none⟩ = some u1) (c1 : w.cell? ⟨b, 1, none⟩ = some u2) (h1 : KS 8 w u1 xs) (h2 : KS 8 w u2 ys)
    (hx0 : xs.length = 0 → u1 = .slice none 0 0) (hy0 : ys.length = 0 → u2 = .slice none 0 0) (hN0 : 0 < xs.length + ys.length) (hxl : xs.length ≤ 1000) (hyl : ys.length ≤ 1000) :
    Calls Tryz.prog 66 #[.slice (some ⟨b, 0, none⟩) 2 2] w fun e w' => ∃ u, e = .returned u ∧ OwX 58 8 EI w' w.heap.size u (xs.length + ys.length) (xs ++ ys) ∧ Below w.heap.size w w' := by
  have hlx : ∀ x ∈ xs, x.length = 8 := by obtain ⟨_, _, _, _, _, _, hc, _⟩ := h1; exact KS.lens hc
  have hly : ∀ x ∈ ys, x.length = 8 := by obtain ⟨_, _, _, _, _, _, hc, _⟩ := h2; exact KS.lens hc
  have h1' := h1
  have h2' := h2
  obtain ⟨xa, xc, xb, xo, rfl, hxa, _⟩ := h1'
  obtain ⟨ya, yc, yb, yo, rfl, hya, _⟩ := h2'
  have hx0 : xs.length = 0 → xa = none ∧ xc = 0 := fun h => by have h2 := hx0 h; injection h2 with h3 _ h4; exact ⟨h3, h4⟩
  have hy0 : ys.length = 0 → ya = none ∧ yc = 0 := fun h => by have h2 := hy0 h; injection h2 with h3 _ h4; exact ⟨h3, h4⟩
  replace hx0 := Lib.hid hx0
  replace hy0 := Lib.hid hy0
  clear hxa hya
  obtain ⟨N, hN⟩ : ∃ N, xs.length + ys.length = N := ⟨_, rfl⟩
  have HG := growMv (w := w) N (by omega) (by omega)
  have h1h := Lib.hid h1
  have h2h := Lib.hid h2
  have hNi : (xs.length : Int) + (ys.length : Int) = (N : Int) := by omega
  rw [hN]
  replace HG := Lib.hid HG
  have hNh := Lib.hid hN
  have hNih := Lib.hid hNi
  have hlxy := Lib.hid (fun (x : List Int) (hx : x ∈ xs ++ ys) => by
    rcases List.mem_append.1 hx with h | h
    · exact hlx x h
    · exact hly x h)
  clear h1 h2 hN hNi hlx hly
  go_enter Tryz.func66, Tryz.ntmps66
  go_wp2_with fail
  go_loop [3, 11] (fun sv iv => ∃ k sz : Nat, sv = .int .i64 sz ∧ iv = .int .i64 k ∧ (k = 0 ∧ sz = 0 ∨ k = 1 ∧ sz = xs.length ∨ k = 2 ∧ sz = N)) (fun _ iv => 2 - (intOf iv).toNat)
  case atStart => exact ⟨0, 0, rfl, rfl, .inl ⟨rfl, rfl⟩⟩
  case round =>
    obtain ⟨k, sz, rfl, rfl, hk⟩ := hrel
    rcases hk with ⟨rfl, hsz⟩ | ⟨rfl, hsz⟩ | ⟨rfl, hsz⟩ <;> (replace hsz := hsz.symm; subst hsz)
    · have hd : decide ((xs.length : Int) < 0) = false := decide_eq_false (by omega)
      go_wp2
      go_round
      case rel => exact ⟨1, xs.length, by first | rfl | go_num, rfl, .inr (.inl ⟨rfl, rfl⟩)⟩
      case measure => simp [intOf]
    · have hd : decide ((xs.length : Int) + (ys.length : Int) < 0) = false := decide_eq_false (by omega)
      go_wp2
      go_round
      case rel => exact ⟨2, N, by first | rw [hNih.out] | (congr 1; exact hNih.out), rfl, .inr (.inr ⟨rfl, rfl⟩)⟩
      case measure => simp [intOf]
    · go_wp2_with fail
      refine HG.out.mono ?_
      rintro e w1 ⟨v1, rfl, ho1, hb1⟩
      have d0 := cell_kept hb1 c0
      have d1 := cell_kept hb1 c1
      go_wp2_with fail
      go_loopw [6, 27] (fun vv iv wr => ∃ k : Nat, iv = .int .i64 k ∧ Below w.heap.size w wr ∧ (k = 0 ∧ RowMv wr w.heap.size vv 0 [] ∨ k = 1 ∧ RowMv wr w.heap.size vv xs.length xs ∨ k = 2 ∧ RowMv wr w.heap.size vv N (xs ++ ys))) (fun _ iv _ => 2 - (intOf iv).toNat)
      case atStart => exact ⟨0, rfl, hb1, .inl ⟨rfl, ho1⟩⟩
      case round =>
        clear ho1
        obtain ⟨k, rfl, hbr, hk⟩ := hrel
        have e0 := cell_kept hbr c0
        have e1 := cell_kept hbr c1
        rcases hk with ⟨rfl, ho⟩ | ⟨rfl, ho⟩ | ⟨rfl, ho⟩
        · have hbsz := hbr.size
          have hks := h1h.out.keep hbr
          go_wp2_with (at_builtin; refine wpList_appMvsE rfl _ _ rfl rfl ho rfl hks hx0.out (by omega) hbsz ?_)
          intro v' w2 ho2 _ hb2
          go_wp2
          go_roundw
          case rel => exact ⟨1, rfl, hbr.trans hb2, .inr (.inl ⟨rfl, ho2⟩)⟩
          case measure => simp [intOf]
        · have hbsz := hbr.size
          have hks := h2h.out.keep hbr
          go_wp2_with (at_builtin; refine wpList_appMvsE rfl _ _ rfl rfl ho rfl hks hy0.out (by omega) hbsz ?_)
          intro v' w2 ho2 _ hb2
          rw [hNh.out] at ho2
          go_wp2
          go_roundw
          case rel => exact ⟨2, rfl, hbr.trans hb2, .inr (.inr ⟨rfl, ho2⟩)⟩
          case measure => simp [intOf]
        · have hfin := Lib.hid (OwX.ofFlat ho hlxy.out (by rw [List.length_append]; exact hNh.out))
          clear ho
          go_wp2
          go_ret
          exact ⟨_, rfl, hfin.out, hbr⟩
end Go.Proofs.YtiiiegflobihjaaGreat

/- The moves of pairs of states, for combine.Or$1. -/
namespace Go.Proofs.YtiiiegflobihjaaGreat
open Go.RowKit

theorem kep {a b c d e f g0 g1 g2 g3 g4 g5 g6 : Prop} (h : a ∧ b ∧ c ∧ d ∧ e ∧ f ∧ g0 ∧ g1 ∧ g2 ∧ g3 ∧ g4 ∧ g5 ∧ g6) : a ∧ b ∧ c ∧ d ∧ e ∧ f ∧ g0 ∧ g1 ∧ g2 ∧ g3 ∧ g4 ∧ g5 ∧ g6 := h
/-- Well-formed states. -/
structure AdOK (ss : List (List (List Int))) : Prop where
  pos : 0 < ss.length
  len : ss.length ≤ 1000
  st : ∀ s ∈ ss, 0 < s.length ∧ s.length ≤ 400 ∧ AscL (s.map rdOf) ∧ ∀ m ∈ s, m.length = 8 ∧ 0 ≤ m.getD 7 0 ∧ m.getD 7 0 < (ss.length : Int)
theorem AdOK.asc {ss : List (List (List Int))} (h : AdOK ss) : ∀ s ∈ ss, AscL (s.map rdOf) := fun s hs => (h.st s hs).2.2.1
theorem AdOK.big {ss : List (List (List Int))} (h : AdOK ss) : ∀ s ∈ ss, s.length ≤ 1000000 := fun s hs => Nat.le_trans (h.st s hs).2.1 (by decide)
/-- Pairs of states that are met. -/
def PrP (az bz : List (List (List Int))) (x : Nd) : Prop := (-1 ≤ x.1 ∧ x.1 < (az.length : Int)) ∧ (-1 ≤ x.2.1 ∧ x.2.1 < (bz.length : Int)) ∧ (0 ≤ x.1 ∨ 0 ≤ x.2.1) ∧ x.2.2 = []
theorem ndM_mem {ss : List (List (List Int))} {s : Int} (hs : 0 ≤ s ∧ s < (ss.length : Int)) : ndM ss s ∈ ss := by
  rw [ndM, if_neg (by omega), getD_eq (by omega)]; exact List.getElem_mem _
theorem ndM_len {ss : List (List (List Int))} (h : AdOK ss) (s : Int) : (ndM ss s).length ≤ 400 := by
  rw [ndM]
  split
  · simp
  · by_cases hs : s.toNat < ss.length
    · rw [getD_eq hs]; exact (h.st _ (List.getElem_mem hs)).2.1
    · rw [List.getD_eq_getElem?_getD, List.getElem?_eq_none (by omega)]; simp
theorem ndM_pos {ss : List (List (List Int))} (h : AdOK ss) {s : Int} (hs : -1 ≤ s ∧ s < (ss.length : Int)) : 0 ≤ s → 0 < (ndM ss s).length := fun h0 => (h.st _ (ndM_mem ⟨h0, hs.2⟩)).1
theorem ndM_all {ss : List (List (List Int))} (h : AdOK ss) (s : Int) : ∀ m ∈ ndM ss s, m.length = 8 ∧ 0 ≤ m.getD 7 0 ∧ m.getD 7 0 < (ss.length : Int) := fun m hm => by
  rw [ndM] at hm
  split at hm
  · cases hm
  · by_cases hs : s.toNat < ss.length
    · rw [getD_eq hs] at hm; exact (h.st _ (List.getElem_mem hs)).2.2.2 m hm
    · rw [List.getD_eq_getElem?_getD, List.getElem?_eq_none (by omega)] at hm; cases hm
theorem prRs_len {az bz : List (List (List Int))} (wA : AdOK az) (wB : AdOK bz) {x : Nd} (_ : PrP az bz x) : (prRs az bz x).length ≤ 800 ∧ ∀ r ∈ prRs az bz x, r.length = 7 := by
  constructor
  · refine Nat.le_trans (lets_len _) ?_
    rw [List.length_map, List.length_append]
    have := ndM_len wA x.1
    have := ndM_len wB x.2.1
    omega
  · refine lets_all fun r hr => ?_
    obtain ⟨m, hm, rfl⟩ := List.mem_map.1 hr
    have h8 : m.length = 8 := by
      rcases List.mem_append.1 hm with h | h
      · exact (ndM_all wA _ m h).1
      · exact (ndM_all wB _ m h).1
    rw [rdOf, List.length_take]; omega
theorem prRs_pos {az bz : List (List (List Int))} (wA : AdOK az) (wB : AdOK bz) {x : Nd} (hx : PrP az bz x) : 0 < (prRs az bz x).length := by
  obtain ⟨ha, hb, h0, _⟩ := hx
  have hne : 0 < (ndM az x.1 ++ ndM bz x.2.1).length := by
    rw [List.length_append]
    have h1 := ndM_pos wA ha
    have h2 := ndM_pos wB hb
    omega
  obtain ⟨m, hm⟩ := List.exists_mem_of_length_pos hne
  exact List.length_pos_of_mem ((lets_mem _ _).2 (List.mem_map_of_mem (f := rdOf) hm))
theorem ndT_ge {ss : List (List (List Int))} (h : AdOK ss) {s : Int} (r : List Int) : -1 ≤ ndT ss s r ∧ ndT ss s r < (ss.length : Int) := by
  have hp := h.pos
  rw [ndT]
  split
  · omega
  · by_cases hs : s.toNat < ss.length
    · rw [getD_eq hs]
      exact toI_ge r (fun m hm => ((h.st _ (List.getElem_mem hs)).2.2.2 m hm).2) (by omega)
    · rw [List.getD_eq_getElem?_getD, List.getElem?_eq_none (by omega)]
      show -1 ≤ toI r [] ∧ toI r [] < _
      simp only [toI]; omega
set_option maxRecDepth 100000 in
theorem keepOr (s t : Int) (w : World) : Calls Tryz.prog 31 #[.int .i64 s, .int .i64 t] w fun e w' => e = .returned (.bool (kpB false s t)) ∧ w' = w := by
  have h : kpB false s t = true := rfl
  rw [h]
  go_enter Tryz.func31, Tryz.ntmps31
  go_wp2
  go_ret
  exact ⟨rfl, rfl⟩

set_option maxRecDepth 100000 in
set_option maxHeartbeats 6400000 in
theorem pairedMvOr {w : World} {bF bA bB bK : Nat} {n n' : Int} {aa ba : Option Addr} {ac bc : Nat} {az bz : List (List (List Int))}
    (kF : w.heap[bF]? = some (.cells #[.func (.func 63) #[] #[]] 104)) (kK : w.heap[bK]? = some (.cells #[.func (.func 31) #[] #[]] 67))
    (kA : w.heap[bA]? = some (.cells #[.int .i64 n, .slice aa az.length ac] 24)) (kB : w.heap[bB]? = some (.cells #[.int .i64 n', .slice ba bz.length bc] 24))
    (hA : AdvV w (.agg #[.int .i64 n, .slice aa az.length ac]) n az) (hB : AdvV w (.agg #[.int .i64 n', .slice ba bz.length bc]) n' bz) (wA : AdOK az) (wB : AdOK bz) {x : Nd} (hx : PrP az bz x) :
    Calls Tryz.prog 64 #[ndV x, .pointer (some ⟨bF, 0, none⟩), .pointer (some ⟨bA, 0, none⟩), .pointer (some ⟨bB, 0, none⟩), .pointer (some ⟨bK, 0, none⟩)] w (ArOut w (prSt false az bz x)) := by
  have hx7 := prRs_len wA wB hx
  have hrs0 := prRs_pos wA wB hx
  obtain ⟨hxa, hxb, hx0, hx2⟩ := hx
  obtain ⟨x0, x1, x2⟩ := x
  simp only at hxa hxb hx0 hx2
  subst hx2
  obtain ⟨W2, hW2⟩ : ∃ W2, W2 = w.alloc (.cells #[.int .i64 x0, .int .i64 x1, .string (bsN [])] 62) := ⟨_, rfl⟩
  have hb2 : Below w.heap.size w W2 := by rw [hW2]; exact (Below.refl _ w).alloc (Nat.le_refl _) _
  have kX : W2.heap[w.heap.size]? = some (.cells #[.int .i64 x0, .int .i64 x1, .string (bsN [])] 62) := by rw [hW2]; exact heap_alloc_new _ _
  have cF := cell_kept hb2 (box_cell (j := 0) kF rfl)
  have cK := cell_kept hb2 (box_cell (j := 0) kK rfl)
  have cA0 := cell_kept hb2 (box_cell (j := 0) kA rfl)
  have cA1 := cell_kept hb2 (box_cell (j := 1) kA rfl)
  have cB0 := cell_kept hb2 (box_cell (j := 0) kB rfl)
  have cB1 := cell_kept hb2 (box_cell (j := 1) kB rfl)
  have cX0 := box_cell (j := 0) kX rfl
  have cX1 := box_cell (j := 1) kX rfl
  obtain ⟨uA, hKA, HA⟩ := ofCall (hA.keep hb2) (fun s hs => (wA.st s hs).1) hxa
  obtain ⟨uB, hKB, HB⟩ := ofCall (hB.keep hb2) (fun s hs => (wB.st s hs).1) hxb
  have zA : (ndM az x0).length = 0 → uA = .slice none 0 0 := HA.2
  have zB : (ndM bz x1).length = 0 → uB = .slice none 0 0 := HB.2
  have HA := Lib.hid HA.1
  have HB := Lib.hid HB.1
  obtain ⟨ua, uc, huA⟩ := hKA.shape
  obtain ⟨va, vc, huB⟩ := hKB.shape
  subst huA huB
  have hlA := ndM_len wA x0
  have hlB := ndM_len wB x1
  have hlen : 0 < (ndM az x0).length + (ndM bz x1).length := by
    have := ndM_pos wA hxa
    have := ndM_pos wB hxb
    omega
  have hTA := Lib.hid (fun W (hb : Below W2.heap.size W2 W) r0 r1 r2 r3 r4 r5 r6 => targetA ((hA.keep hb2).keep hb) wA.asc wA.big hxa r0 r1 r2 r3 r4 r5 r6)
  have hTB := Lib.hid (fun W (hb : Below W2.heap.size W2 W) r0 r1 r2 r3 r4 r5 r6 => targetA ((hB.keep hb2).keep hb) wB.asc wB.big hxb r0 r1 r2 r3 r4 r5 r6)
  have hHS := Lib.hid (fun W (hb : Below W2.heap.size W2 W) => And.intro (cell_kept hb cF) (And.intro (cell_kept hb cK) (And.intro (cell_kept hb cA0) (And.intro (cell_kept hb cA1) (And.intro (cell_kept hb cB0) (And.intro (cell_kept hb cB1) (And.intro (cell_kept hb cX0) (cell_kept hb cX1))))))))
  have hCc := Lib.hid (fun W b (c0 : W.cell? ⟨b, 0, none⟩ = some (.slice ua (ndM az x0).length uc)) (c1 : W.cell? ⟨b, 1, none⟩ = some (.slice va (ndM bz x1).length vc)) (hb : Below W2.heap.size W2 W) => concatMvE c0 c1 (hKA.keep hb) (hKB.keep hb) zA zB hlen (by omega) (by omega))
  obtain ⟨X, hX⟩ : ∃ X, ndM az x0 = X := ⟨_, rfl⟩
  obtain ⟨Y, hY⟩ : ∃ Y, ndM bz x1 = Y := ⟨_, rfl⟩
  have hRS : prRs az bz (x0, x1, []) = lets ((X ++ Y).map rdOf) := by rw [← hX, ← hY]; rfl
  have hst : prSt false az bz (x0, x1, []) = (lets ((X ++ Y).map rdOf)).filterMap (prF false az bz (x0, x1, [])) := by rw [← hRS]; rfl
  rw [hRS] at hx7 hrs0
  rw [hst]
  rw [hX] at hKA HA hlA hlen
  rw [hY] at hKB HB hlB hlen
  simp only [hX, hY] at hCc
  obtain ⟨N, hN⟩ : ∃ N, X.length + Y.length = N := ⟨_, rfl⟩
  have hN0 : 0 < N := by omega
  have hNl : N ≤ 800 := by omega
  have hNi : (X ++ Y).length = N := by rw [List.length_append]; exact hN
  simp only [hN] at hCc
  obtain ⟨Z, hZ⟩ : ∃ Z, X ++ Y = Z := ⟨_, rfl⟩
  rw [hZ] at hx7 hrs0 hNi ⊢
  simp only [hZ] at hCc
  have hCr := Lib.hid (fun W B v (hv : OwX 58 8 EI W B v N Z) => roundsSame (u := v) (w := W) (hv.ks (by omega)) (by omega) (by omega))
  obtain ⟨RS, hRS2⟩ : ∃ RS, lets (Z.map rdOf) = RS := ⟨_, rfl⟩
  simp only [hRS2] at hx7 hrs0 hCr ⊢
  replace hN := Lib.hid hN
  replace hNi := Lib.hid hNi
  replace hZ := Lib.hid hZ
  replace hX := Lib.hid hX
  replace hY := Lib.hid hY
  replace hRS := Lib.hid hRS
  replace hst := Lib.hid hst
  replace hRS2 := Lib.hid hRS2
  replace hx7 := Lib.hid hx7
  clear zA zB kX kF kK kA kB hA hB hKA hKB
  obtain ⟨eb, heb⟩ : ∃ eb, bsN [] = eb := ⟨_, rfl⟩
  simp only [ndV, heb] at hW2 ⊢
  obtain ⟨d1, d2, d3, d4, d5, d6, d7, d8⟩ := hHS.out W2 (Below.refl _ _)
  clear cF cK cA0 cA1 cB0 cB1 cX0 cX1
  go_enter Tryz.func64, Tryz.ntmps64
  go_wp2_with fail
  rw [← hW2]
  replace hW2 := Lib.hid hW2
  have HA1 := Lib.hid (HA.out W2.drew ((Below.refl _ _).drew))
  go_upto_region 2 with fail
  go_cut [23, 24, 25] (fun rv nv jv wx => ∃ ra rc, rv = .slice ra RS.length rc ∧ nv = .int .i64 (RS.length : Nat) ∧ jv = .int .i64 0 ∧ OwX 51 7 EI wx W2.heap.size (.slice ra RS.length rc) RS.length RS ∧ Below W2.heap.size W2 wx)
  case first =>
    go_region_held3 (fun w' => w'.cell? ⟨bF, 0, none⟩ = some (.func (.func 63) #[] #[]) ∧ w'.cell? ⟨bA, 0, none⟩ = some (.int .i64 n) ∧ w'.cell? ⟨bA, 1, none⟩ = some (.slice aa az.length ac) ∧ w'.cell? ⟨bB, 0, none⟩ = some (.int .i64 n') ∧ w'.cell? ⟨bB, 1, none⟩ = some (.slice ba bz.length bc) ∧ w'.cell? ⟨w.heap.size, 0, none⟩ = some (.int .i64 x0) ∧ w'.cell? ⟨w.heap.size, 1, none⟩ = some (.int .i64 x1))
      (first
        | go_keep
        | (exact let h := hHS.out _ hR8; ⟨h.1, h.2.2.1, h.2.2.2.1, h.2.2.2.2.1, h.2.2.2.2.2.1, h.2.2.2.2.2.2.1, h.2.2.2.2.2.2.2⟩)
        | (exact let h := hHS.out _ hR7; ⟨h.1, h.2.2.1, h.2.2.2.1, h.2.2.2.2.1, h.2.2.2.2.2.1, h.2.2.2.2.2.2.1, h.2.2.2.2.2.2.2⟩)
        | (exact let h := hHS.out _ (hR6.alloc hR6.size _); ⟨h.1, h.2.2.1, h.2.2.2.1, h.2.2.2.2.1, h.2.2.2.2.2.1, h.2.2.2.2.2.2.1, h.2.2.2.2.2.2.2⟩)
        | (exact let h := hHS.out _ hR6; ⟨h.1, h.2.2.1, h.2.2.2.1, h.2.2.2.2.1, h.2.2.2.2.2.1, h.2.2.2.2.2.2.1, h.2.2.2.2.2.2.2⟩)
        | (exact let h := hHS.out _ hR5; ⟨h.1, h.2.2.1, h.2.2.2.1, h.2.2.2.2.1, h.2.2.2.2.2.1, h.2.2.2.2.2.2.1, h.2.2.2.2.2.2.2⟩))
      (first
        | (go_at_call 63; (with_reducible refine HA1.out.mono ?_); rintro e w5 ⟨rfl, hb5⟩; have hR5 : Below W2.heap.size W2 w5 := below_of_drew hb5; have HB1 := Lib.hid (HB.out w5 hR5))
        | (go_at_call 63; (with_reducible refine HB1.out.mono ?_); rintro e w6 ⟨rfl, hb6⟩; have hR6 : Below W2.heap.size W2 w6 := bt hR5 hb6 hR5.size; have HC1 := Lib.hid (hCc.out (w6.alloc (.cells #[.slice ua X.length uc, .slice va Y.length vc] 59)) w6.heap.size (by rw [cell_of_row _ _ 0 _ _ _ (heap_alloc_new _ _)]; rfl) (by rw [cell_of_row _ _ 1 _ _ _ (heap_alloc_new _ _)]; rfl) (hR6.alloc hR6.size _)))
        | (go_at_call 66; (with_reducible refine HC1.out.mono ?_); rintro e w7 ⟨u7, rfl, ho7, hb7⟩; obtain ⟨a7, c7, rfl⟩ := ho7.shape; have hR7 : Below W2.heap.size W2 w7 := bt (hR6.alloc hR6.size _) hb7 (hR6.alloc hR6.size _).size; have HR1 := Lib.hid (hCr.out w7 _ _ ho7))
        | (go_at_call 65; (with_reducible refine HR1.out.mono ?_); rintro e w8 ⟨u8, rfl, ho8, hb8⟩; obtain ⟨a8, c8, rfl⟩ := ho8.shape; have hR8 : Below W2.heap.size W2 w8 := bt hR7 hb8 hR7.size; have ho8b := ho8.base hR7.size))
    all_goals
      go_wp2
      go_meet
      exact ⟨a8, c8, rfl, rfl, rfl, ho8b, hR8⟩
  case rest =>
    obtain ⟨ra, rc, rfl, rfl, rfl, hRo, hbx⟩ := hcut
    obtain ⟨wp, hwp⟩ : ∃ wp, wp = wc := ⟨_, rfl⟩
    subst hwp
    obtain ⟨gr, cr, hre, _⟩ := hRo.form hrs0
    obtain ⟨rfl, rfl⟩ : ra = some ⟨gr, 0, none⟩ ∧ cr = rc := by injection hre with h1 h2 h3; exact ⟨h1, h3.symm⟩
    have hRc := Lib.hid (fun W (hb : Below wp.heap.size wp W) j (hj : j < RS.length) => And.intro (hRo.intCells hj).1 ((hRo.intCells hj).2.keep hb))
    have hO0 : OwX 75 10 EAr wp wp.heap.size (.slice none 0 0) ((RS.take 0).filterMap (prF false az bz (x0, x1, []))).length ((RS.take 0).filterMap (prF false az bz (x0, x1, []))) := OwX.nil _ _
    clear hre hRo
    go_wp2_with fail
    go_loopw [7, 25] (fun ov jv wr => ∃ j : Nat, jv = .int .i64 j ∧ j ≤ RS.length ∧ OwX 75 10 EAr wr wp.heap.size ov ((RS.take j).filterMap (prF false az bz (x0, x1, []))).length ((RS.take j).filterMap (prF false az bz (x0, x1, []))) ∧ Below wp.heap.size wp wr) (fun _ jv _ => RS.length - (intOf jv).toNat)
    case atStart => exact ⟨0, rfl, by omega, hO0, Below.refl _ _⟩
    case round =>
      clear hO0
      obtain ⟨j, rfl, hj, hO, hbr⟩ := hrel
      obtain ⟨oa, oc, hov⟩ := hO.shape
      subst hov
      by_cases hlt : j < RS.length
      · have hji : (j : Int) < (RS.length : Int) := by omega
        have hRS8 := hx7.out.1
        obtain ⟨hm7, hmc⟩ := hRc.out wr hbr j hlt
        have hsn := take_snoc hlt ([] : List Int)
        obtain ⟨r, hr⟩ : ∃ r, RS.getD j [] = r := ⟨_, rfl⟩
        rw [hr] at hm7 hmc hsn
        obtain ⟨r0, r1, r2, r3, r4, r5, r6, rfl⟩ := seven hm7
        obtain ⟨c0, c1, c2, c3, c4, c5, c6⟩ := hmc.all7
        obtain ⟨L, hL⟩ : ∃ L, (RS.take j).filterMap (prF false az bz (x0, x1, [])) = L := ⟨_, rfl⟩
        have hLl : L.length ≤ 800 := by
          rw [← hL]
          refine Nat.le_trans (List.length_filterMap_le _ _) ?_
          rw [List.length_take]
          have := hx7.out.1; omega
        have hstp : (RS.take (j + 1)).filterMap (prF false az bz (x0, x1, [])) = L ++ (prF false az bz (x0, x1, []) [r0, r1, r2, r3, r4, r5, r6]).toList := by
          rw [hsn, List.filterMap_append, hL]
          cases h : prF false az bz (x0, x1, []) [r0, r1, r2, r3, r4, r5, r6] <;> simp [h]
        rw [hL] at hO ⊢
        obtain ⟨Wb, hWb⟩ : ∃ Wb, Wb = wr.alloc (.cells #[.int .i64 r0, .int .i64 r1, .int .i64 r2, .int .i64 r3, .int .i64 r4, .int .i64 r5, .int .i64 r6] 51) := ⟨_, rfl⟩
        have hbb : Below wr.heap.size wr Wb := by rw [hWb]; exact (Below.refl _ _).alloc (Nat.le_refl _) _
        have kW : Wb.heap[wr.heap.size]? = some (.cells #[.int .i64 r0, .int .i64 r1, .int .i64 r2, .int .i64 r3, .int .i64 r4, .int .i64 r5, .int .i64 r6] 51) := by rw [hWb]; exact heap_alloc_new _ _
        have hbrb := bt hbr hbb hbr.size
        have hb2b : Below W2.heap.size W2 Wb := bt hbx hbrb hbx.size
        have hOb := hO.keep (EAr.stab _) hbb
        have hrw := box7CI kW
        obtain ⟨y0, hy0⟩ : ∃ y0, ndT az x0 [r0, r1, r2, r3, r4, r5, r6] = y0 := ⟨_, rfl⟩
        obtain ⟨y1, hy1⟩ : ∃ y1, ndT bz x1 [r0, r1, r2, r3, r4, r5, r6] = y1 := ⟨_, rfl⟩
        have hpF : prF false az bz (x0, x1, []) [r0, r1, r2, r3, r4, r5, r6] = if kpB false y0 y1 then some ([r0, r1, r2, r3, r4, r5, r6], (y0, y1, [])) else none := by rw [← hy0, ← hy1]; rfl
        rw [hpF] at hstp
        have HT1 := Lib.hid (fun W (hb : Below Wb.heap.size Wb W) => hTA.out W (bt hb2b hb hb2b.size) r0 r1 r2 r3 r4 r5 r6)
        have HT2 := Lib.hid (fun W (hb : Below Wb.heap.size Wb W) => hTB.out W (bt hb2b hb hb2b.size) r0 r1 r2 r3 r4 r5 r6)
        rw [hy0] at HT1
        rw [hy1] at HT2
        have hS := Lib.hid (fun W (hb : Below Wb.heap.size Wb W) => let h := hHS.out W (bt hb2b hb hb2b.size); And.intro h.2.2.1 (And.intro h.2.2.2.1 (And.intro h.2.2.2.2.1 (And.intro h.2.2.2.2.2.1 (And.intro h.2.2.2.2.2.2.1 (And.intro h.2.2.2.2.2.2.2 (hrw.keep hb).all7))))))
        replace hstp := Lib.hid hstp
        replace hr := Lib.hid hr
        replace hsn := Lib.hid hsn
        replace hL := Lib.hid hL
        replace hy0 := Lib.hid hy0
        replace hy1 := Lib.hid hy1
        replace hpF := Lib.hid hpF
        obtain ⟨e1, e2, e3, e4, e5, e6, f0, f1, f2, f3, f4, f5, f6⟩ := hS.out Wb (Below.refl _ _)
        simp only [Nat.zero_add] at f0 f1 f2 f3 f4 f5 f6
        have HT1a := Lib.hid (HT1.out Wb.drew ((Below.refl _ _).drew))
        have HT1b := Lib.hid (HT1.out (Wb.alloc (.cells #[.int .i64 0, .int .i64 0, .string ⟨#[]⟩] 62)).drew (((Below.refl _ _).alloc (Nat.le_refl _) _).drew))
        clear hmc hm7 hO kW hrw
        go_wp2_with fail
        rw [← hWb]
        replace hWb := Lib.hid hWb
        go_upto_region 5 with fail
        go_cut [10] (fun pv wx => ∃ b, pv = .pointer (some ⟨b, 0, none⟩) ∧ wx.heap[b]? = some (.cells #[.int .i64 y0, .int .i64 y1, .string ⟨#[]⟩] 62) ∧ Below Wb.heap.size Wb wx ∧ Wb.heap.size ≤ b)
        case first =>
          go_region_held3 (fun w' => w'.cell? ⟨bA, 0, none⟩ = some (.int .i64 n) ∧ w'.cell? ⟨bA, 1, none⟩ = some (.slice aa az.length ac) ∧ w'.cell? ⟨bB, 0, none⟩ = some (.int .i64 n') ∧ w'.cell? ⟨bB, 1, none⟩ = some (.slice ba bz.length bc) ∧ w'.cell? ⟨w.heap.size, 0, none⟩ = some (.int .i64 x0) ∧ w'.cell? ⟨w.heap.size, 1, none⟩ = some (.int .i64 x1) ∧
              w'.cell? ⟨wr.heap.size, 0, none⟩ = some (.int .i64 r0) ∧ w'.cell? ⟨wr.heap.size, 1, none⟩ = some (.int .i64 r1) ∧ w'.cell? ⟨wr.heap.size, 2, none⟩ = some (.int .i64 r2) ∧ w'.cell? ⟨wr.heap.size, 3, none⟩ = some (.int .i64 r3) ∧ w'.cell? ⟨wr.heap.size, 4, none⟩ = some (.int .i64 r4) ∧ w'.cell? ⟨wr.heap.size, 5, none⟩ = some (.int .i64 r5) ∧ w'.cell? ⟨wr.heap.size, 6, none⟩ = some (.int .i64 r6))
            (first
              | go_keep
              | (exact kep (hS.out _ hR6))
              | (exact kep (hS.out _ (hR6.alloc hR6.size _)))
              | (exact kep (hS.out _ (hR5.alloc hR5.size _)))
              | (exact kep (hS.out _ hR5))
              | (exact kep (hS.out _ ((Below.refl _ _).alloc (Nat.le_refl _) _).drew))
              | (exact kep (hS.out _ (Below.setCell (p := ⟨Wb.heap.size, 2, none⟩) (Below.setCell (p := ⟨Wb.heap.size, 1, none⟩) (Below.setCell (p := ⟨Wb.heap.size, 0, none⟩) hR6 (Nat.le_refl _) _) (Nat.le_refl _) _) (Nat.le_refl _) _)))
              | (exact kep (hS.out _ (Below.setCell (p := ⟨w5.heap.size, 2, none⟩) (Below.setCell (p := ⟨w5.heap.size, 1, none⟩) (Below.setCell (p := ⟨w5.heap.size, 0, none⟩) hR6 hR5.size _) hR5.size _) hR5.size _))))
            (first
              | (go_at_call 68; (with_reducible refine (HT1.out _ (by first | exact (Below.refl _ _).drew | exact ((Below.refl _ _).alloc (Nat.le_refl _) _).drew)).mono ?_); rintro e w5 ⟨rfl, hb5⟩; have hR5 : Below Wb.heap.size Wb w5 := (by first | exact below_of_drew hb5 | exact bt ((Below.refl _ Wb).alloc (Nat.le_refl _) _).drew hb5 ((Below.refl _ Wb).alloc (Nat.le_refl _) _).drew.size); (first | (have kN5 : w5.heap[Wb.heap.size]? = some (.cells #[.int .i64 0, .int .i64 0, .string ⟨#[]⟩] 62) := (hb5.block Wb.heap.size (by rw [World.size_drew, World.size_alloc]; omega)).trans (heap_alloc_new Wb _)) | skip))
              | (go_at_call 68; (with_reducible refine (HT2.out _ (by first | exact hR5 | exact hR5.alloc hR5.size _)).mono ?_); rintro e w6 ⟨rfl, hb6⟩; have hR6 : Below Wb.heap.size Wb w6 := (by first | exact bt hR5 hb6 hR5.size | exact bt (hR5.alloc hR5.size _) hb6 (hR5.alloc hR5.size _).size); (first | (have kN6 : w6.heap[Wb.heap.size]? = some (.cells #[.int .i64 0, .int .i64 0, .string ⟨#[]⟩] 62) := (hb6.block Wb.heap.size (Array.getElem?_eq_some_iff.1 kN5).1).trans kN5; have n60 := box_cell (j := 0) kN6 rfl; have n61 := box_cell (j := 1) kN6 rfl; have n62 := box_cell (j := 2) kN6 rfl; have nf0 := row_free kN6 0; have nf1 := row_free kN6 1; have nf2 := row_free kN6 2) | (have kN6 : w6.heap[w5.heap.size]? = some (.cells #[.int .i64 0, .int .i64 0, .string ⟨#[]⟩] 62) := (hb6.block w5.heap.size (by rw [World.size_alloc]; omega)).trans (heap_alloc_new w5 _); have n60 := box_cell (j := 0) kN6 rfl; have n61 := box_cell (j := 1) kN6 rfl; have n62 := box_cell (j := 2) kN6 rfl; have nf0 := row_free kN6 0; have nf1 := row_free kN6 1; have nf2 := row_free kN6 2) | skip)))
          all_goals
            go_wp2
            go_meet
            first
              | exact ⟨w6.heap.size, rfl, heap_alloc_new _ _, hR6.alloc hR6.size _, hR6.size⟩
              | exact ⟨w5.heap.size, rfl, boxSet3 kN6, Below.setCell (p := ⟨w5.heap.size, 2, none⟩) (Below.setCell (p := ⟨w5.heap.size, 1, none⟩) (Below.setCell (p := ⟨w5.heap.size, 0, none⟩) hR6 hR5.size _) hR5.size _) hR5.size _, hR5.size⟩
              | exact ⟨Wb.heap.size, rfl, boxSet3 kN6, Below.setCell (p := ⟨Wb.heap.size, 2, none⟩) (Below.setCell (p := ⟨Wb.heap.size, 1, none⟩) (Below.setCell (p := ⟨Wb.heap.size, 0, none⟩) hR6 (Nat.le_refl _) _) (Nat.le_refl _) _) (Nat.le_refl _) _, Nat.le_refl _⟩
        case rest =>
          obtain ⟨bn, rfl, kN, hbn, hbnl⟩ := hcut
          obtain ⟨_, _, _, _, _, _, g0, g1, g2, g3, g4, g5, g6⟩ := hS.out wc hbn
          simp only [Nat.zero_add] at g0 g1 g2 g3 g4 g5 g6
          have cK := (hHS.out wc (bt hb2b hbn hb2b.size)).2.1
          have n0 := box_cell (j := 0) kN rfl
          have n1 := box_cell (j := 1) kN rfl
          have n2 := box_cell (j := 2) kN rfl
          have hOn := hOb.keep (EAr.stab _) hbn
          have hbrn := bt hbrb hbn hbrb.size
          have HKp := keepOr y0 y1 wc
          have hst2 := hstp.out
          clear hOb hbrb hbn kN e1 e2 e3 e4 e5 e6 f0 f1 f2 f3 f4 f5 f6 HT1a HT1b
          obtain ⟨kb, hkb⟩ : ∃ kb, kpB false y0 y1 = kb := ⟨_, rfl⟩
          rw [hkb] at HKp hst2
          replace HKp := Lib.hid HKp
          replace hkb := Lib.hid hkb
          cases kb
          · have hst3 : Hid ((RS.take (j + 1)).filterMap (prF false az bz (x0, x1, [])) = L) := by show _ = _; rw [hst2]; simp
            clear hst2
            go_wp2_with fail
            refine HKp.out.mono ?_
            rintro e w' ⟨rfl, rfl⟩
            go_wp2
            go_roundw
            case rel => exact ⟨j + 1, by go_num, hlt, by rw [hst3.out]; exact hOn, hbrn⟩
            case measure => simp [intOf]; omega
          · have hst3 : Hid ((RS.take (j + 1)).filterMap (prF false az bz (x0, x1, [])) = L ++ [([r0, r1, r2, r3, r4, r5, r6], (y0, y1, []))]) := by show _ = _; rw [hst2]; rfl
            have hL9 : L.length ≤ 1000000000000 := by omega
            have hB9 : wp.heap.size ≤ wc.heap.size := hbrn.size
            have hEA : EAr wc [.int .i64 r0, .int .i64 r1, .int .i64 r2, .int .i64 r3, .int .i64 r4, .int .i64 r5, .int .i64 r6, .int .i64 y0, .int .i64 y1, .string ⟨#[]⟩] ([r0, r1, r2, r3, r4, r5, r6], (y0, y1, [])) := ⟨rfl, rfl⟩
            have hc10 : ∀ u ∈ (#[.int .i64 r0, .int .i64 r1, .int .i64 r2, .int .i64 r3, .int .i64 r4, .int .i64 r5, .int .i64 r6, .int .i64 y0, .int .i64 y1, .string ⟨#[]⟩] : Array Value).toList, u.oneCell' = true := fun u hu => by
              simp only [List.mem_cons, List.not_mem_nil, or_false] at hu
              rcases hu with rfl | rfl | rfl | rfl | rfl | rfl | rfl | rfl | rfl | rfl <;> rfl
            replace hEA := Lib.hid hEA
            replace hc10 := Lib.hid hc10
            clear hst2
            go_wp2_with fail
            refine HKp.out.mono ?_
            rintro e w' ⟨rfl, rfl⟩
            go_wp2_with (at_builtin; refine wpAppX (x := ([r0, r1, r2, r3, r4, r5, r6], (y0, y1, []))) elemAr (by decide) (by decide) (EAr.stab _) rfl _ _ rfl rfl hOn rfl rfl rfl hc10.out hEA.out hL9 hB9 ?_)
            intro v3 w3 ho3 hg3 hb3 hx3
            have hbf := hbrn.trans hb3
            go_wp2
            go_roundw
            case rel => exact ⟨j + 1, by go_num, hlt, by rw [hst3.out, List.length_append]; exact ho3, hbf⟩
            case measure => simp [intOf]; omega
      · obtain rfl : j = RS.length := by omega
        have hge : ¬ ((RS.length : Int) < (RS.length : Int)) := by omega
        rw [List.take_length] at hO
        have hbf := bt hb2 (bt hbx hbr hbx.size) hb2.size
        have hfin := hO.base (B' := w.heap.size) (Nat.le_trans hb2.size hbx.size)
        replace hfin := Lib.hid hfin
        clear hO
        go_wp2
        go_ret
        exact ⟨_, rfl, hfin.out, hbf⟩
end Go.Proofs.YtiiiegflobihjaaGreat

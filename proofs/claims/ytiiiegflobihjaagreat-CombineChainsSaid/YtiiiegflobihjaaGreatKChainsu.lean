/- Texts of this claim, put together: CV CW CX0 CY0. -/
import Derived.Test.YtiiiegflobihjaaGreatKChainst
import Derived.Laws.CopyRow
import Derived.Deep.RegionHeld3

/- slices.Repeat of one true; combine.endless. -/
namespace Go.Proofs.YtiiiegflobihjaaGreat
open Go.RowKit

theorem mask32_ok : ((List.range 1100).all fun x => decide (bits .and .u64 (x : Int) 4294967295 = (x : Int))) = true := by decide +kernel
theorem mask32 {n : Nat} (h : n < 1100) : bits .and .u64 (n : Int) 4294967295 = (n : Int) := of_decide_eq_true (List.all_eq_true.1 mask32_ok n (List.mem_range.2 h))
theorem mulOne {n : Nat} (hn : n < 1100) (w : World) : Calls Tryz.prog 125 #[.int .u64 1, .int .u64 (n : Int)] w fun e w' => e = .returned (.tuple #[.int .u64 0, .int .u64 (n : Int)]) ∧ w' = w := by
  have h1 := mask32 hn
  have h2 : bits .and .u64 1 4294967295 = 1 := mask32 (n := 1) (by omega)
  have h3 : bits .and .u64 0 4294967295 = 0 := mask32 (n := 0) (by omega)
  have h5 : IntKind.u64.wrap (n : Int) = (n : Int) := by rw [IntKind.wrap_u64]; omega
  have h6 : (n : Int) / 4294967296 = 0 := by omega
  go_enter Tryz.func125, Tryz.ntmps125
  go_wp2
  go_ret2
  exact ⟨rfl, rfl⟩
theorem mulOne' {n : Nat} (hn : n < 1100) (w : World) : Calls Tryz.prog 99 #[.int .u64 1, .int .u64 (n : Int)] w fun e w' => e = .returned (.tuple #[.int .u64 0, .int .u64 (n : Int)]) ∧ w' = w := by
  have h5 : IntKind.u64.wrap (n : Int) = (n : Int) := by rw [IntKind.wrap_u64]; omega
  go_enter Tryz.func99, Tryz.ntmps99
  go_wp2_with fail
  refine (mulOne hn w).mono ?_
  rintro e w2 ⟨rfl, hw2⟩
  replace hw2 := hw2.symm
  subst hw2
  go_wp2
  go_ret2
  exact ⟨rfl, rfl⟩
/-- A row of ones and zeros. -/
def trueR (n m : Nat) : List Value := List.replicate m (.bool true) ++ List.replicate (n - m) (.bool false)
theorem trueR_len {n m : Nat} (h : m ≤ n) : (trueR n m).length = n := by simp [trueR]; omega
theorem trueR_at {n m j : Nat} (h : j < m) : (trueR n m)[j]? = some (.bool true) := by
  rw [trueR, List.getElem?_append_left (by simpa using h), List.getElem?_replicate, if_pos h]
theorem trueR_step {n m p : Nat} (h : m + p ≤ n) : (trueR n m).take m ++ List.replicate p (.bool true) ++ (trueR n m).drop (m + p) = trueR n (m + p) := by
  have h1 : (trueR n m).take m = List.replicate m (.bool true) := by rw [trueR, List.take_left' (by simp)]
  have h2 : (trueR n m).drop (m + p) = List.replicate (n - (m + p)) (.bool false) := by
    rw [trueR, List.drop_append, List.drop_replicate, List.drop_replicate, List.length_replicate]
    rw [show m - (m + p) = 0 by omega, show n - m - (m + p - m) = n - (m + p) by omega]; simp
  rw [h1, h2, trueR, ← List.replicate_append_replicate]
theorem runCopyTrue {W : World} {g n m p : Nat} (hg : W.heap[g]? = some (.cells (trueR n m).toArray 4)) (hm : m + p ≤ n) {a : Addr} {sl sc dc : Nat} (hp : p = Nat.min sl (n - m)) (hsrc : ∀ j, j < p → W.cell? (a.add j) = some (.bool true)) (ty : TypeId) :
    (Builtin.copy_ #[71, 71] ty #[.slice (some ⟨g, m, none⟩) (n - m) dc, .slice (some a) sl sc]).run Tryz.prog W = .ok (.int .i64 (p : Int)) (W.setRow g (trueR n (m + p)).toArray) := by
  have h := run_copy_row (P := Tryz.prog) W 71 71 ty 4 g m (n - m) dc a sl sc (trueR n m).toArray 4 (List.replicate p (.bool true)) (by kernel_rfl) (by kernel_rfl) hg (by simpa using hp) (fun j v hj => ?_) (by rw [List.length_replicate, List.size_toArray, trueR_len (by omega)]; exact hm) (fun v hv => by rw [List.eq_of_mem_replicate hv]; rfl)
  · rw [h, List.length_replicate]
    show _ = Result.ok _ (W.setRow g (trueR n (m + p)).toArray)
    rw [← trueR_step hm]; rfl
  · have hjp : j < p := by
      have := (List.getElem?_eq_some_iff.1 hj).1
      rwa [List.length_replicate] at this
    rw [List.getElem?_replicate, if_pos hjp] at hj
    injection hj with hj
    subst hj
    exact hsrc j hjp
theorem setRow_same {W : World} {g : Nat} {cur cs : Array Value} {t : TypeId} (hg : W.heap[g]? = some (.cells cur t)) : (W.setRow g cs).heap[g]? = some (.cells cs t) := by
  simp [World.setRow, Array.getElem?_modify, hg]
theorem setRow_below {B : Nat} {w0 W : World} (h : Below B w0 W) {g : Nat} (hg : B ≤ g) (cs : Array Value) : Below B w0 (W.setRow g cs) :=
  h.trans ⟨rfl, rfl, rfl, by simp [World.setRow], fun k hk => by simp [World.setRow, Array.getElem?_modify, show ¬ g = k by omega]⟩
theorem runMakeB (n : Nat) (hn : n ≤ 1000000) (w : World) : (Instr.makeSlice 71 (.int .i64 (n : Int)) (.int .i64 (n : Int))).run Tryz.prog w = .ok (.slice (some ⟨w.heap.size, 0, none⟩) n n) (w.alloc (.cells (trueR n 0).toArray 4)) := by
  have h := run_make_row' (P := Tryz.prog) 71 4 (.bool false) 1 (by kernel_rfl) (by kernel_rfl) rfl .i64 .i64 n (by omega) (by omega) w
  rw [h]
  have : madeCells #[.bool false] n = (trueR n 0).toArray := by
    have h1 := toList_madeCells_one (.bool false) n
    rw [trueR, List.replicate_zero, List.nil_append, Nat.sub_zero, ← h1, Array.toArray_toList]
  rw [this]
set_option maxRecDepth 100000 in
set_option maxHeartbeats 1600000 in
theorem repeatTrue {w : World} {a : Addr} {c n : Nat} (hc : w.cell? a = some (.bool true)) (hn0 : 0 < n) (hn : n ≤ 1000) :
    Calls Tryz.prog 73 #[.slice (some a) 1 c, .int .i64 (n : Int)] w fun e w' => ∃ u, e = .returned u ∧ OB w' w.heap.size u n (List.replicate n true) ∧ Below w.heap.size w w' := by
  have hu : IntKind.u64.wrap (n : Int) = (n : Int) := by rw [IntKind.wrap_u64]; omega
  have hi : IntKind.i64.wrap (n : Int) = (n : Int) := IntWalk.i64_in _ (by omega)
  have hlt0 : decide ((n : Int) < 0) = false := decide_eq_false (by omega)
  have hgt : decide ((9223372036854775807 : Int) < (n : Int)) = false := decide_eq_false (by omega)
  have hM := Lib.hid (fun W => mulOne' (n := n) (by omega) W)
  have hmk := runMakeB n (by omega)
  obtain ⟨W1, hW1⟩ : ∃ W1, W1 = w.alloc (.cells (trueR n 0).toArray 4) := ⟨_, rfl⟩
  have hb1 : Below w.heap.size w W1 := by rw [hW1]; exact (Below.refl _ _).alloc (Nat.le_refl _) _
  have hg1 : W1.heap[w.heap.size]? = some (.cells (trueR n 0).toArray 4) := by rw [hW1]; exact heap_alloc_new _ _
  have hcp := runCopyTrue (a := a) (sl := 1) (sc := c) (dc := n) (p := 1) hg1 (by omega) (by rw [Nat.sub_zero]; simp [Nat.min_def]; omega) (fun j hj => by
    have : j = 0 := by omega
    subst this
    have h2 := cell_kept hb1 hc
    rwa [show a.add 0 = a by unfold Addr.add; split <;> simp_all])
  rw [Nat.sub_zero] at hcp
  rw [hW1] at hcp
  go_enter Tryz.func73, Tryz.ntmps73
  go_wp2_with (go_at_call 99; refine (hM.out _).mono ?_; rintro e w2 ⟨rfl, hw2⟩; replace hw2 := hw2.symm; subst hw2)
  rw [← hW1]
  rw [← hW1] at hcp
  have hs0 := setRow_same (cs := (trueR n (0 + 1)).toArray) hg1
  have hbs0 := setRow_below hb1 (Nat.le_refl _) (trueR n (0 + 1)).toArray
  rw [Nat.zero_add] at hs0 hbs0
  clear hcp hg1
  have hmx : Tryz.prog.follows .mixedOrders = true := by kernel_rfl
  go_loopw [8] (fun mv wr => ∃ m : Nat, mv = .int .i64 m ∧ 0 < m ∧ m ≤ n ∧ wr.heap[w.heap.size]? = some (.cells (trueR n m).toArray 4) ∧ Below w.heap.size w wr) (fun mv _ => n - (intOf mv).toNat)
  case atStart => exact ⟨1, rfl, by omega, by omega, hs0, hbs0⟩
  case round =>
    clear hs0 hbs0
    obtain ⟨m, rfl, hm0, hmn, hg, hbr⟩ := hrel
    by_cases hlt : m < n
    · have hmi : (m : Int) < (n : Int) := by omega
      have hmi2 : (m : Int) ≤ (n : Int) := by omega
      have hm00 : (0 : Int) ≤ (m : Int) := by omega
      have hnm : ¬ n = m := by omega
      have hn00 : ¬ n = 0 := by omega
      obtain ⟨p, hp⟩ : ∃ p, p = Nat.min m (n - m) := ⟨_, rfl⟩
      have hp2 : p = min m (n - m) := hp
      have hp0 : 0 < p := by omega
      have hpm : p ≤ m := by omega
      have hpn : m + p ≤ n := by omega
      have hcp := runCopyTrue (W := wr.drew) (a := ⟨w.heap.size, 0, none⟩) (sl := m) (sc := n) (dc := n - m) (p := p) hg hpn hp (fun j hj => by
        rw [Addr.add_lit, Nat.zero_add]
        exact cell_of_row _ _ j _ _ _ hg |>.trans (by rw [List.getElem?_toArray]; exact trueR_at (by omega)))
      have hs1 := setRow_same (W := wr.drew) (cs := (trueR n (m + p)).toArray) hg
      have hbs1 := setRow_below hbr.drew (Nat.le_refl _) (trueR n (m + p)).toArray
      have hwp : IntKind.i64.wrap ((m : Int) + (p : Int)) = ((m + p : Nat) : Int) := by rw [← Int.natCast_add]; exact IntWalk.i64_in _ (by omega)
      replace hp := Lib.hid hp
      clear hp2 hg
      go_wp2_with fail
      go_region_held3 (fun _ => True) (trivial) (fail)
      go_wp2
      go_roundw
      case rel => exact ⟨m + p, by go_num, by omega, hpn, hs1, hbs1⟩
      case measure => simp [intOf]; omega
    · obtain rfl : m = n := by omega
      have hge : ¬ ((m : Int) < (m : Int)) := by omega
      have hOB : OB wr w.heap.size (.slice (some ⟨w.heap.size, 0, none⟩) m m) m (List.replicate m true) := by
        refine ⟨by simp, .inr ⟨_, m, _, rfl, Nat.le_refl _, hg, Nat.le_refl _, by unfold maxLen; omega, by rw [List.size_toArray, trueR_len (Nat.le_refl _), Nat.mul_one], ?_⟩⟩
        simp [trueR]
      replace hOB := Lib.hid hOB
      clear hg
      go_wp2
      go_ret
      exact ⟨_, rfl, hOB.out, hbr⟩
theorem repOK {N : Nat} (h0 : 0 < N) (h1 : N ≤ 1000) : RepOK N := fun W B u hO => by
  obtain ⟨g, cap, rfl, _, _⟩ := hO.form (by omega)
  exact repeatTrue (hO.cell (j := 0) (by omega)) h0 h1
/-- combine.endless. -/
theorem endlessC {w : World} {v : Value} {n : Int} {ss : List (List (List Int))} (hA : AdvV w v n ss) (wA : AdW ss) :
    Calls Tryz.prog 36 #[v] w fun e w' => ∃ u, e = .returned u ∧ OB w' w.heap.size u ss.length (lvA ss) ∧ Below w.heap.size w w' := endlessA hA wA (repOK wA.pos wA.len)
end Go.Proofs.YtiiiegflobihjaaGreat

/- combine.And's function of moves. -/
namespace Go.Proofs.YtiiiegflobihjaaGreat
open Go.RowKit

set_option maxRecDepth 100000 in
set_option maxHeartbeats 3200000 in
theorem andMv {w : World} {bA bL g N cap B : Nat} {live : List Bool} {n : Int} {ss : List (List (List Int))} {aa : Option Addr} {ac : Nat}
    (kA : w.heap[bA]? = some (.cells #[.int .i64 n, .slice aa ss.length ac] 24)) (kL : w.heap[bL]? = some (.cells #[.slice (some ⟨g, 0, none⟩) N cap] 71))
    (hA : AdvV w (.agg #[.int .i64 n, .slice aa ss.length ac]) n ss) (hO : OB w B (.slice (some ⟨g, 0, none⟩) N cap) N live) (wA : AdW ss) (hN : N = ss.length) {k : Nat} (hk : k < ss.length) :
    Calls Tryz.prog 37 #[.agg #[.int .i64 (k : Int), .int .i64 0, .string ⟨#[]⟩], .pointer (some ⟨bA, 0, none⟩), .pointer (some ⟨bL, 0, none⟩)] w (ArOut w (lvSt ss live ((k : Int), 0, []))) := by
  obtain ⟨sv, hsv, sa, sc, sb, so, rfl, hsa, hsc, hs0⟩ := hA
  injection hsv with hsv
  have hsv2 := congrArg (fun a => a.toList.getD 1 (.int .i64 0)) hsv
  obtain ⟨rfl, rfl⟩ : aa = sa ∧ ac = sc := by
    have h : Value.slice aa ss.length ac = Value.slice sa ss.length sc := hsv2
    injection h with h1 _ h3; exact ⟨h1, h3⟩
  obtain rfl := hsa (by omega)
  have hto : ∀ j < (ss.getD k []).length, 0 ≤ ((ss.getD k []).getD j []).getD 7 0 ∧ ((ss.getD k []).getD j []).getD 7 0 < (N : Int) := fun j hj => by
    rw [getD_eq hk] at hj ⊢
    rw [getD_eq hj]
    have h := ((wA.st _ (List.getElem_mem hk)).2 _ (List.getElem_mem hj)).2
    rw [← hN] at h
    exact h
  have hxl : (ss.getD k []).length ≤ 4096 := by rw [getD_eq hk]; exact (wA.st _ (List.getElem_mem hk)).1
  have hlv : lvSt ss live ((k : Int), 0, []) = (ss.getD k []).filterMap (lvF live) := rfl
  rw [hlv]
  obtain ⟨W1, hW1⟩ : ∃ W1, W1 = w.alloc (.cells #[.int .i64 (k : Int), .int .i64 0, .string ⟨#[]⟩] 62) := ⟨_, rfl⟩
  have hb1 : Below w.heap.size w W1 := by rw [hW1]; exact (Below.refl _ w).alloc (Nat.le_refl _) _
  obtain ⟨u, hu, hks⟩ := hsc k hk
  obtain ⟨x, hx⟩ : ∃ x, ss.getD k [] = x := ⟨_, rfl⟩
  rw [hx] at hks hto hxl ⊢
  obtain ⟨xa, xc, xb, xo, rfl, hxa, hxc, _⟩ := hks
  have e0 := cell_kept hb1 hu
  obtain ⟨a0, a1⟩ := box2 ((hb1.block _ (Array.getElem?_eq_some_iff.1 kA).1).trans kA)
  have n0 : W1.cell? ⟨w.heap.size, 0, none⟩ = some (.int .i64 (k : Int)) := by rw [hW1]; exact box_cell (heap_alloc_new _ _) rfl
  rw [hW1] at e0 a0 a1 n0
  have hki : (k : Int) < (ss.length : Int) := by omega
  have hcl := Lib.hid (fun W (hb : Below w.heap.size w W) => And.intro ((hb.block _ (Array.getElem?_eq_some_iff.1 kL).1).trans kL) (And.intro (hO.keep hb) (hxc.keep hb)))
  have ho0 : OwX 75 10 EAr W1 W1.heap.size (.slice none 0 0) ((x.take 0).filterMap (lvF live)).length ((x.take 0).filterMap (lvF live)) := OwX.nil _ _
  replace hxa := Lib.hid hxa
  replace hto := Lib.hid hto
  replace hx := Lib.hid hx
  clear hsc hsv hsv2 kA kL hO hxc hu hlv hsa
  go_enter Tryz.func37, Tryz.ntmps37
  go_wp2_with fail
  rw [← hW1]
  replace hW1 := Lib.hid hW1
  clear e0 a0 a1 n0
  go_loopw [5, 15] (fun ov jv wr => ∃ j : Nat, jv = .int .i64 j ∧ j ≤ x.length ∧ OwX 75 10 EAr wr W1.heap.size ov ((x.take j).filterMap (lvF live)).length ((x.take j).filterMap (lvF live)) ∧ Below W1.heap.size W1 wr) (fun _ jv _ => x.length - (intOf jv).toNat)
  case atStart => exact ⟨0, rfl, by omega, ho0, Below.refl _ _⟩
  case round =>
    clear ho0
    obtain ⟨j, rfl, hj, hO, hbr⟩ := hrel
    obtain ⟨oa, oc, hov⟩ := hO.shape
    subst hov
    by_cases hlt : j < x.length
    · have hji : (j : Int) < (x.length : Int) := by omega
      obtain rfl := hxa.out (by omega)
      have hbw := bt hb1 hbr hb1.size
      obtain ⟨kL, hB, hxc⟩ := hcl.out wr hbw
      obtain ⟨h8, hmc⟩ := hxc j hlt
      obtain ⟨t7b, t7c⟩ := hto.out j hlt
      have hsn := take_snoc hlt ([] : List Int)
      obtain ⟨m, hm⟩ : ∃ m, x.getD j [] = m := ⟨_, rfl⟩
      rw [hm] at h8 hmc t7b t7c hsn
      obtain ⟨m0, m1, m2, m3, m4, m5, m6, m7, rfl⟩ := eight h8
      have t7b : 0 ≤ m7 := t7b
      have t7c : m7 < (N : Int) := t7c
      obtain ⟨t, rfl⟩ : ∃ t : Nat, m7 = (t : Int) := ⟨m7.toNat, by omega⟩
      have htl : t < N := by omega
      obtain ⟨c0, c1, c2, c3, c4, c5, c6, c7⟩ := hmc.all8
      obtain ⟨Wb, hWb⟩ : ∃ Wb, Wb = wr.alloc (.cells #[.int .i64 m0, .int .i64 m1, .int .i64 m2, .int .i64 m3, .int .i64 m4, .int .i64 m5, .int .i64 m6, .int .i64 (t : Int)] 58) := ⟨_, rfl⟩
      have hbb : Below wr.heap.size wr Wb := by rw [hWb]; exact (Below.refl _ _).alloc (Nat.le_refl _) _
      have kM : Wb.heap[wr.heap.size]? = some (.cells #[.int .i64 m0, .int .i64 m1, .int .i64 m2, .int .i64 m3, .int .i64 m4, .int .i64 m5, .int .i64 m6, .int .i64 (t : Int)] 58) := by rw [hWb]; exact heap_alloc_new _ _
      have d7 := box_cell (j := 7) kM rfl
      have d0 := box_cell (j := 0) kM rfl
      have d1 := box_cell (j := 1) kM rfl
      have d2 := box_cell (j := 2) kM rfl
      have d3 := box_cell (j := 3) kM rfl
      have d4 := box_cell (j := 4) kM rfl
      have d5 := box_cell (j := 5) kM rfl
      have d6 := box_cell (j := 6) kM rfl
      have l0 := cell_kept hbb (box_cell (j := 0) kL rfl)
      have l1 := cell_kept hbb (hB.cell htl)
      have hOb := hO.keep (EAr.stab _) hbb
      have hbrb := bt hbr hbb hbr.size
      obtain ⟨L, hL⟩ : ∃ L, (x.take j).filterMap (lvF live) = L := ⟨_, rfl⟩
      have hLl : L.length ≤ 4096 := by
        rw [← hL]
        refine Nat.le_trans (List.length_filterMap_le _ _) ?_
        rw [List.length_take]; omega
      have hmv : lvF live [m0, m1, m2, m3, m4, m5, m6, (t : Int)] = if live.getD t false then some ([m0, m1, m2, m3, m4, m5, m6], ((t : Int), 0, [])) else none := by
        simp [lvF, mvTo, rdOf]
      have hstp : (x.take (j + 1)).filterMap (lvF live) = L ++ (lvF live [m0, m1, m2, m3, m4, m5, m6, (t : Int)]).toList := by
        rw [hsn, List.filterMap_append, hL]
        cases h : lvF live [m0, m1, m2, m3, m4, m5, m6, (t : Int)] <;> simp [h]
      rw [hL] at hOb ⊢
      obtain ⟨q, hq⟩ : ∃ q, live.getD t false = q := ⟨_, rfl⟩
      rw [hq] at l1 hmv
      rw [hmv] at hstp
      replace hm := Lib.hid hm
      replace hL := Lib.hid hL
      replace hq := Lib.hid hq
      replace hmv := Lib.hid hmv
      replace hstp := Lib.hid hstp
      rw [hWb] at d0 d1 d2 d3 d4 d5 d6 d7 l0 l1
      clear hO kL hB hxc hmc h8 t7b t7c hsn kM
      cases q
      · have hst3 : Hid ((x.take (j + 1)).filterMap (lvF live) = L) := by show _ = _; rw [hstp.out]; simp
        clear hstp
        go_wp2
        rw [← hWb]
        go_roundw
        case rel => exact ⟨j + 1, by go_num, hlt, by rw [hst3.out]; exact hOb, hbrb⟩
        case measure => simp [intOf]; omega
      · have hst3 : Hid ((x.take (j + 1)).filterMap (lvF live) = L ++ [([m0, m1, m2, m3, m4, m5, m6], ((t : Int), 0, []))]) := by show _ = _; rw [hstp.out]; rfl
        have hL9 : L.length ≤ 1000000000000 := by omega
        have hB9 : W1.heap.size ≤ Wb.heap.size := hbrb.size
        have hEA : EAr Wb [.int .i64 m0, .int .i64 m1, .int .i64 m2, .int .i64 m3, .int .i64 m4, .int .i64 m5, .int .i64 m6, .int .i64 (t : Int), .int .i64 0, .string ⟨#[]⟩] ([m0, m1, m2, m3, m4, m5, m6], ((t : Int), 0, [])) := ⟨rfl, rfl⟩
        have hc10 : ∀ u ∈ (#[.int .i64 m0, .int .i64 m1, .int .i64 m2, .int .i64 m3, .int .i64 m4, .int .i64 m5, .int .i64 m6, .int .i64 (t : Int), .int .i64 0, .string ⟨#[]⟩] : Array Value).toList, u.oneCell' = true := fun u hu => by
          simp only [List.mem_cons, List.not_mem_nil, or_false] at hu
          rcases hu with rfl | rfl | rfl | rfl | rfl | rfl | rfl | rfl | rfl | rfl <;> rfl
        have hsz : wr.heap.size + 1 = Wb.heap.size := by rw [hWb]; simp
        replace hsz := Lib.hid hsz
        replace hEA := Lib.hid hEA
        replace hc10 := Lib.hid hc10
        clear hstp
        go_wp2_with (at_builtin; rw [← hWb]; refine wpAppX (x := ([m0, m1, m2, m3, m4, m5, m6], ((t : Int), 0, []))) elemAr (by decide) (by decide) (EAr.stab _) rfl _ _ rfl rfl hOb rfl hsz.out rfl hc10.out hEA.out hL9 hB9 ?_)
        intro v3 w3 ho3 hg3 hb3 hx3
        rw [← hWb] at hb3
        have hbf := hbrb.trans hb3
        go_wp2
        go_roundw
        case rel => exact ⟨j + 1, by go_num, hlt, by rw [hst3.out, List.length_append]; exact ho3, hbf⟩
        case measure => simp [intOf]; omega
    · obtain rfl : j = x.length := by omega
      have hge : ¬ ((x.length : Int) < (x.length : Int)) := by omega
      rw [List.take_length] at hO
      have hbf := bt hb1 hbr hb1.size
      have hfin := Lib.hid (hO.base (B' := w.heap.size) hb1.size)
      clear hO
      go_wp2
      go_ret
      exact ⟨_, rfl, hfin.out, hbf⟩
end Go.Proofs.YtiiiegflobihjaaGreat

/- What the exploration builds: well-formed states (plain). -/
namespace Go.Proofs.YtiiiegflobihjaaGreat

theorem exG_W {step : Nd → List (List Int × Nd)} {P : Nd → Prop} (hPs : ∀ x, P x → ∀ a ∈ step x, P a.2 ∧ a.1.length = 7) : ∀ (f i : Nat) (nodes : List Nd) (out ss : List (List (List Int))), exG step f i nodes out = some (some ss) → i ≤ nodes.length → out.length = i → (∀ x ∈ nodes, P x) → (∀ l ∈ out, ∀ m ∈ l, m.length = 8 ∧ 0 ≤ m.getD 7 0 ∧ mvTo m < nodes.length) →
    (∀ l ∈ ss, ∀ m ∈ l, m.length = 8 ∧ 0 ≤ m.getD 7 0 ∧ m.getD 7 0 < (ss.length : Int)) ∧ nodes.length ≤ ss.length
  | 0, _, _, _, _, h, _, _, _, _ => by simp [exG] at h
  | f + 1, i, nodes, out, ss, h, hi, ho, hP, hm => by
    by_cases hlt : i < nodes.length
    · obtain ⟨x, hx⟩ : ∃ x, nodes[i]? = some x := ⟨_, List.getElem?_eq_getElem hlt⟩
      have hPx := hP x (List.mem_of_getElem? hx)
      by_cases hb : 256 < (exN nodes (step x)).length ∨ 4096 < movesN (out ++ [exL nodes (step x)])
      · rw [exG_big hx hb] at h
        injection h with h
        cases h
      · rw [exG_step hx hb] at h
        have hge : nodes.length ≤ (exN nodes (step x)).length := exN_ge
        have ih := exG_W hPs f (i + 1) (exN nodes (step x)) (out ++ [exL nodes (step x)]) ss h (by omega) (by rw [List.length_append, ho]; rfl)
          (fun z hz => by
            rcases exN_mem hz with hz | ⟨a, ha, rfl⟩
            · exact hP z hz
            · exact (hPs x hPx a ha).1)
          (fun l hl m hml => by
            rcases List.mem_append.1 hl with hl | hl
            · obtain ⟨h1, h2, h3⟩ := hm l hl m hml
              exact ⟨h1, h2, by omega⟩
            · rw [List.mem_singleton.1 hl] at hml
              obtain ⟨h1, h2, h3, _⟩ := exL_to (fun a ha => (hPs x hPx a ha).2) hml
              exact ⟨h1, h3, h2⟩)
        exact ⟨ih.1, by omega⟩
    · rw [exG_end hlt] at h
      injection h with h
      injection h with h
      subst h
      refine ⟨fun l hl m hml => ?_, by omega⟩
      obtain ⟨h1, h2, h3⟩ := hm l hl m hml
      refine ⟨h1, h2, ?_⟩
      rw [mvTo] at h3
      omega
/-- The pairs of two well-formed adversaries make states whose moves lead to states. -/
theorem prA_W {bt : Bool} {az bz ss : List (List (List Int))} (wA : AdOK az) (wB : AdOK bz) (h : prA bt az bz = some ss) : (∀ l ∈ ss, ∀ m ∈ l, m.length = 8 ∧ 0 ≤ m.getD 7 0 ∧ m.getD 7 0 < (ss.length : Int)) ∧ 1 ≤ ss.length := by
  have he := prA_eq bt az bz
  rw [h] at he
  exact exG_W (P := PrP az bz) (fun x hx => (prSt_ok wA wB hx).1) 300 0 [nd0] [] ss he (by simp) rfl (fun x hx => by rw [List.mem_singleton.1 hx]; exact PrP.first wA wB) (fun l hl => by cases hl)
theorem prA_AdW {bt : Bool} {az bz ss : List (List (List Int))} (wA : AdOK az) (wB : AdOK bz) (h : prA bt az bz = some ss) (hl : ss.length ≤ 1000) (hm : ∀ s ∈ ss, s.length ≤ 4096) : AdW ss := by
  obtain ⟨h1, h2⟩ := prA_W wA wB h
  exact ⟨h2, hl, fun s hs => ⟨hm s hs, h1 s hs⟩⟩
theorem exG_lim {step : Nd → List (List Int × Nd)} : ∀ (f i : Nat) (nodes : List Nd) (out ss : List (List (List Int))), exG step f i nodes out = some (some ss) → i ≤ nodes.length → out.length = i → nodes.length ≤ 256 → movesN out ≤ 4096 → ss.length ≤ 256 ∧ movesN ss ≤ 4096
  | 0, _, _, _, _, h, _, _, _, _ => by simp [exG] at h
  | f + 1, i, nodes, out, ss, h, hi, ho, hn, hm => by
    by_cases hlt : i < nodes.length
    · obtain ⟨x, hx⟩ : ∃ x, nodes[i]? = some x := ⟨_, List.getElem?_eq_getElem hlt⟩
      by_cases hb : 256 < (exN nodes (step x)).length ∨ 4096 < movesN (out ++ [exL nodes (step x)])
      · rw [exG_big hx hb] at h
        injection h with h
        cases h
      · rw [exG_step hx hb] at h
        have hge : nodes.length ≤ (exN nodes (step x)).length := exN_ge
        exact exG_lim f (i + 1) (exN nodes (step x)) (out ++ [exL nodes (step x)]) ss h (by omega) (by rw [List.length_append, ho]; rfl) (by omega) (by omega)
    · rw [exG_end hlt] at h
      injection h with h
      injection h with h
      subst h
      exact ⟨by omega, hm⟩
theorem prA_lim {bt : Bool} {az bz ss : List (List (List Int))} (h : prA bt az bz = some ss) : ss.length ≤ 256 ∧ movesN ss ≤ 4096 := by
  have he := prA_eq bt az bz
  rw [h] at he
  exact exG_lim 300 0 [nd0] [] ss he (by simp) rfl (by simp) (by simp [movesN])
theorem prA_Ad {bt : Bool} {az bz ss : List (List (List Int))} (wA : AdOK az) (wB : AdOK bz) (h : prA bt az bz = some ss) : AdW ss := by
  obtain ⟨h1, h2⟩ := prA_lim h
  exact prA_AdW wA wB h (by omega) (fun s hs => Nat.le_trans (mem_movesN hs) h2)
end Go.Proofs.YtiiiegflobihjaaGreat

/- The second exploration of And never passes the limits (plain). -/
namespace Go.Proofs.YtiiiegflobihjaaGreat

/-- The nodes of the second exploration. -/
def PL (ss : List (List (List Int))) (x : Nd) : Prop := x.2 = (0, []) ∧ 0 ≤ x.1 ∧ x.1.toNat < ss.length
theorem lvSt_ok {ss : List (List (List Int))} (wS : AdW ss) (live : List Bool) {x : Nd} (hx : PL ss x) : (∀ a ∈ lvSt ss live x, PL ss a.2 ∧ a.1.length = 7) ∧ (lvSt ss live x).length ≤ (ss.getD x.1.toNat []).length := by
  refine ⟨fun a ha => ?_, List.length_filterMap_le _ _⟩
  obtain ⟨m, hm, hf⟩ := List.mem_filterMap.1 ha
  rw [getD_eq hx.2.2] at hm
  obtain ⟨h8, h0, h1⟩ := (wS.st _ (List.getElem_mem hx.2.2)).2 m hm
  unfold lvF at hf
  split at hf
  · injection hf with hf
    subst hf
    refine ⟨⟨rfl, by simp, ?_⟩, by rw [rdOf, List.length_take]; omega⟩
    simp only [mvTo]; omega
  · cases hf
theorem PL.sm {ss : List (List (List Int))} (wS : AdW ss) {x : Nd} (h : PL ss x) : SmN x := by
  have := wS.len
  obtain ⟨x0, x1, x2⟩ := x
  obtain ⟨h0, h1, h2⟩ := h
  simp only [Prod.mk.injEq] at h0
  obtain ⟨rfl, rfl⟩ := h0
  simp only at h1 h2
  exact ⟨by simp only; omega, by simp only; omega, by simp, by simp⟩
def SS (f : Nat → Nat) : Nat → Nat
  | 0 => 0
  | n + 1 => SS f n + f n
theorem sum_nodup (f : Nat → Nat) : ∀ (n : Nat) (ks : List Nat), ks.Nodup → (∀ k ∈ ks, k < n) → (ks.map f).sum ≤ SS f n
  | 0, ks, _, h => by
    cases ks with
    | nil => simp
    | cons a r => exact absurd (h a (by simp)) (by omega)
  | n + 1, ks, hn, h => by
    by_cases hm : n ∈ ks
    · have hp := List.perm_cons_erase hm
      have h1 : (ks.map f).sum = f n + ((ks.erase n).map f).sum := by
        have := (hp.map f).sum_nat
        simpa using this
      have h2 := sum_nodup f n (ks.erase n) (hn.erase n) fun k hk => by
        have hk1 := h k (List.mem_of_mem_erase hk)
        have : k ≠ n := fun e => by
          subst e
          exact (List.Nodup.not_mem_erase hn) hk
        omega
      rw [SS, h1]; omega
    · have h2 := sum_nodup f n ks hn fun k hk => by
        have hk1 := h k hk
        have : k ≠ n := fun e => hm (e ▸ hk)
        omega
      rw [SS]; omega
theorem SS_movesN : ∀ (ss : List (List (List Int))), SS (fun k => (ss.getD k []).length) ss.length = movesN ss := by
  intro ss
  have h : ∀ n ≤ ss.length, SS (fun k => (ss.getD k []).length) n = movesN (ss.take n) := by
    intro n
    induction n with
    | zero => intro _; simp [SS, movesN]
    | succ n ih =>
      intro hn
      rw [SS, ih (by omega), List.take_succ_eq_append_getElem (by omega)]
      simp only [movesN, List.map_append, List.foldr_append, List.map_cons, List.map_nil, List.foldr_cons, List.foldr_nil, Nat.add_zero]
      have hg : ss.getD n [] = ss[n] := by simp [List.getElem?_eq_getElem (show n < ss.length by omega)]
      rw [hg]
      generalize ss.take n = l
      induction l with
      | nil => simp
      | cons a l ih => simp only [List.map_cons, List.foldr_cons]; omega
  rw [h _ (Nat.le_refl _), List.take_length]
theorem nodup_len : ∀ (n : Nat) (ks : List Nat), ks.Nodup → (∀ k ∈ ks, k < n) → ks.length ≤ n := fun n ks h1 h2 => by
  have h := sum_nodup (fun _ => 1) n ks h1 h2
  have e : ∀ n, SS (fun _ => 1) n = n := fun n => by induction n with | zero => rfl | succ n ih => rw [SS, ih]
  have e2 : (ks.map fun _ => 1).sum = ks.length := by
    clear h h1 h2
    induction ks with
    | nil => rfl
    | cons a l ih => simp [ih]; omega
  rw [e] at h
  omega
theorem PL.inj {ss : List (List (List Int))} {x y : Nd} (hx : PL ss x) (hy : PL ss y) (h : x.1.toNat = y.1.toNat) : x = y := by
  obtain ⟨h0, h1, _⟩ := hx
  obtain ⟨k0, k1, _⟩ := hy
  exact Prod.ext (by omega) (by rw [h0, k0])
theorem PL.keys {ss : List (List (List Int))} {l : List Nd} (hn : l.Nodup) (h : ∀ x ∈ l, PL ss x) : (l.map fun x => x.1.toNat).Nodup ∧ ∀ k ∈ l.map fun x => x.1.toNat, k < ss.length := by
  refine ⟨?_, fun k hk => ?_⟩
  · rw [List.Nodup, List.pairwise_map]
    refine List.Pairwise.imp_of_mem (fun {a b} ha hb hab e => hab ((h a ha).inj (h b hb) e)) hn
  · obtain ⟨x, hx, rfl⟩ := List.mem_map.1 hk
    exact (h x hx).2.2
theorem exG_lv {ss : List (List (List Int))} (wS : AdW ss) (h256 : ss.length ≤ 256) (h4096 : movesN ss ≤ 4096) (live : List Bool) : ∀ (f i : Nat) (nodes : List Nd) (out : List (List (List Int))), 257 ≤ f + i → 0 < f → i ≤ nodes.length → nodes.Nodup → (∀ x ∈ nodes, PL ss x) →
    movesN out ≤ (((nodes.take i).map fun x => x.1.toNat).map fun k => (ss.getD k []).length).sum → ∃ S, exG (lvSt ss live) f i nodes out = some (some S)
  | 0, _, _, _, _, h, _, _, _, _ => absurd h (by omega)
  | f + 1, i, nodes, out, hf, _, hi, hn, hP, hm => by
    by_cases hlt : i < nodes.length
    · have hx := List.getElem?_eq_getElem hlt
      have hPx := hP _ (List.getElem_mem hlt)
      obtain ⟨hok, hlen⟩ := lvSt_ok wS live hPx
      have hn' : (exN nodes (lvSt ss live nodes[i])).Nodup := exN_nodup hn
      have hP' : ∀ x ∈ exN nodes (lvSt ss live nodes[i]), PL ss x := fun y hy => by
        rcases exN_mem hy with hy | ⟨a, ha, rfl⟩
        · exact hP y hy
        · exact (hok a ha).1
      obtain ⟨k1, k2⟩ := PL.keys hn' hP'
      have hl := nodup_len _ _ k1 k2
      rw [List.length_map] at hl
      obtain ⟨t, ht⟩ := dd_pre ((lvSt ss live nodes[i]).map Prod.snd) nodes
      have ht : exN nodes (lvSt ss live nodes[i]) = nodes ++ t := ht
      have htk : (exN nodes (lvSt ss live nodes[i])).take (i + 1) = nodes.take i ++ [nodes[i]] := by
        rw [ht, List.take_append_of_le_length (by omega), List.take_succ_eq_append_getElem hlt]
      have hm' : movesN (out ++ [exL nodes (lvSt ss live nodes[i])]) ≤ ((((exN nodes (lvSt ss live nodes[i])).take (i + 1)).map fun x => x.1.toNat).map fun k => (ss.getD k []).length).sum := by
        rw [movesN_snoc, exL_length, htk]
        simp only [List.map_append, List.sum_append, List.map_cons, List.map_nil, List.sum_cons, List.sum_nil]
        omega
      have hs : ((((exN nodes (lvSt ss live nodes[i])).take (i + 1)).map fun x => x.1.toNat).map fun k => (ss.getD k []).length).sum ≤ movesN ss := by
        obtain ⟨q1, q2⟩ := PL.keys (l := (exN nodes (lvSt ss live nodes[i])).take (i + 1)) (hn'.sublist (List.take_sublist _ _)) fun x hx => hP' x (List.mem_of_mem_take hx)
        have := sum_nodup (fun k => (ss.getD k []).length) _ _ q1 q2
        rw [SS_movesN] at this
        exact this
      rw [exG_step hx (by omega)]
      have hge : nodes.length ≤ (exN nodes (lvSt ss live nodes[i])).length := exN_ge
      exact exG_lv wS h256 h4096 live f (i + 1) _ _ (by omega) (by omega) (by omega) hn' hP' hm'
    · exact ⟨_, exG_end hlt⟩
theorem PL.first {ss : List (List (List Int))} (wS : AdW ss) : PL ss nd0 := ⟨rfl, by simp [nd0], by have := wS.pos; simp [nd0]; omega⟩
theorem lv_some {ss : List (List (List Int))} (wS : AdW ss) (h256 : ss.length ≤ 256) (h4096 : movesN ss ≤ 4096) (live : List Bool) : ∃ S, exG (lvSt ss live) 300 0 [nd0] [] = some (some S) :=
  exG_lv wS h256 h4096 live 300 0 [nd0] [] (by omega) (by omega) (by simp) (by simp) (fun x hx => by rw [List.mem_singleton.1 hx]; exact PL.first wS) (by simp [movesN])
end Go.Proofs.YtiiiegflobihjaaGreat

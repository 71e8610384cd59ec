/- Texts of this claim, put together: K0 K1 F3 L1. -/
import Derived.Test.YtfihpofdoffclaaGreatDoorZo
import Derived.Test.YtfihpofdoffclaaGreatDoorZh
import Derived.Test.YtfihpofdoffclaaGreatDoorZl
import Derived.Test.YtfihpofdoffclaaGreatDoorZp
import Derived.Test.YtfihpofdoffclaaGreatDoorZn
import Derived.Test.YtfihpofdoffclaaGreatDoorZs
import Derived.Test.YtfihpofdoffclaaGreatDoorZm

/- The reference: with, seen. -/
namespace Go.Proofs.YtfihpofdoffclaaGreatDoor
open Go.RowKit

/-- A row of rounds, cell by cell. -/
def RowRd (w : World) (B : Nat) (v : Value) (n : Nat) (xs : List (List Int)) : Prop := w.ownsRow B 79 7 v n (xs.flatten.map (Value.int .i64))
/-- append of a whole slice of rounds. -/
theorem wpList_appRds {w : World} {ops : Array Oper} {rest : List Oper} {o : Oper} {a : Act} {Q : Exit → Act → World → Prop} (hgd : o.guard = none) (s y : Operand)
    (ho : o.op = .call { callee := .builtin .append, args := #[s, y], argTypes := #[45, 45] }) {B n : Nat} {v : Value} {xs : List (List Int)} (hs : a.eval s = v)
    (hown : RowRd w B v n xs) {ys : List (List Int)} {ya : Addr} {yc : Nat} (hx : a.eval y = .slice (some ya) ys.length yc)
    (hy : KS 7 w (.slice (some ya) ys.length yc) ys) (hy0 : 0 < ys.length) (hn : n + ys.length ≤ 1000000) (hB : B ≤ w.heap.size)
    (h : ∀ v' w', RowRd w' B v' (n + ys.length) (xs ++ ys) → w.grownBy w' v.ownBlock → Below B w w' → wpList Tryz.prog ops Q rest (a.put o.dst v') w') :
    wpList Tryz.prog ops Q (o :: rest) a w := by
  obtain ⟨i0, hi, hz0, hz1, hz2⟩ := info_parts elemRd.2.1
  obtain ⟨a', c', b, off, he, ha, hc, _⟩ := hy
  have hlens := KS.lens hc
  injection he with he1 he2 he3
  have ha' := ha hy0
  rw [← he1] at ha'
  injection ha' with ha'
  subst ha'
  refine wpList_append_own w hgd s y 45 ho B 79 i0 _ 7 56 elemRd.1 hi hz0 hz1 hz2 elemRd.2.2 (by decide) v n _ hs hown ⟨b, off, none⟩ ys.length yc (ys.flatten.map (Value.int .i64)) hx (by rw [List.length_map, flat_len hlens]) ?_ ?_ (by unfold maxLen; omega) (by omega) hB fun v' w' h1 h2 _ => ?_
  · intro j u hj
    rw [Addr.add_lit]
    exact KS.flat hc j u hj
  · intro u hu
    obtain ⟨i, _, rfl⟩ := List.mem_map.1 hu; rfl
  · refine h v' w' (by unfold RowRd; rw [List.flatten_append, List.map_append]; exact h1) h2 ((Below.refl B w).grown h2 hB (fun k hk => (World.ownsRow.lt hown k hk).1))

set_option maxRecDepth 100000 in
set_option maxHeartbeats 1600000 in
theorem withCall {w : World} {wv : Value} {wd : List (List Int)} (h : KS 7 w wv wd) (hnil : wd = [] → wv = .slice none 0 0) (hl : wd.length ≤ 100000) (r0 r1 r2 r3 r4 r5 r6 : Int) :
    Calls Tryz.prog 99 #[wv, .agg #[.int .i64 r0, .int .i64 r1, .int .i64 r2, .int .i64 r3, .int .i64 r4, .int .i64 r5, .int .i64 r6]] w fun e w' => ∃ u, e = .returned u ∧ OwX 79 7 EI w' w.heap.size u (wd.length + 1) (wd ++ [[r0, r1, r2, r3, r4, r5, r6]]) ∧ Below w.heap.size w w' := by
  have hc7 : ∀ u ∈ (#[.int .i64 r0, .int .i64 r1, .int .i64 r2, .int .i64 r3, .int .i64 r4, .int .i64 r5, .int .i64 r6] : Array Value).toList, u.oneCell' = true := fun u hu => by
    simp only [List.mem_cons, List.not_mem_nil, or_false] at hu
    rcases hu with rfl | rfl | rfl | rfl | rfl | rfl | rfl <;> rfl
  obtain ⟨W1, hW1⟩ : ∃ W1, W1 = w.alloc (.cells #[.int .i64 r0, .int .i64 r1, .int .i64 r2, .int .i64 r3, .int .i64 r4, .int .i64 r5, .int .i64 r6] 79) := ⟨_, rfl⟩
  have hb1 : Below w.heap.size w W1 := by rw [hW1]; exact (Below.refl _ _).alloc (Nat.le_refl _) _
  have hrb : W1.heap[w.heap.size]? = some (.cells #[.int .i64 r0, .int .i64 r1, .int .i64 r2, .int .i64 r3, .int .i64 r4, .int .i64 r5, .int .i64 r6] 79) := by rw [hW1]; exact heap_alloc_new _ _
  have hbx := (box7CI hrb).all7
  simp only [Nat.zero_add] at hbx
  obtain ⟨c0, c1, c2, c3, c4, c5, c6⟩ := hbx
  by_cases h0 : wd = []
  · obtain rfl := hnil h0
    subst h0
    have hown : OwX 79 7 EI W1 w.heap.size (.slice none 0 0) 0 [] := OwX.nil _ _
    have hEI : EI W1 [.int .i64 r0, .int .i64 r1, .int .i64 r2, .int .i64 r3, .int .i64 r4, .int .i64 r5, .int .i64 r6] [r0, r1, r2, r3, r4, r5, r6] := rfl
    have hrun : ∀ ty, (Builtin.append_ #[45, 45] ty #[.slice none 0 0, .slice none 0 0]).run Tryz.prog W1 = .ok (.slice none 0 0) W1 := fun ty => by
      obtain ⟨i0, hi, hz0, hz1, hz2⟩ := info_parts elemRd.2.1
      simp [Builtin.append_, run_underlying elemRd.1, sizeOf, typeInfo, hi, Builtin.lenOf, Builtin.firstCells]
    go_enter Tryz.func99, Tryz.ntmps99
    go_wp2_with (first
      | (at_builtin; rw [← hW1]; replace hW1 := Lib.hid hW1; refine wpList_plain rfl fun _ hK => Lib.wp_append_run W1 _ _ 45 45 rfl (.slice none 0 0) (.slice none 0 0) rfl rfl _ W1 (hrun _) (hK _ _ ?_))
      | (at_builtin; refine wpAppX elemRd (by decide) (by decide) (EI.stab _) rfl _ _ rfl rfl hown rfl rfl rfl hc7 hEI (by decide) hb1.size ?_; intro v' w2 hrow hgr hbl hx))
    go_ret
    exact ⟨_, rfl, hrow, hb1.trans hbl⟩
  · have hpos : 0 < wd.length := by
      cases wd with
      | nil => exact absurd rfl h0
      | cons _ _ => simp
    have hlens : ∀ x ∈ wd, x.length = 7 := by obtain ⟨_, _, _, _, _, _, hc, _⟩ := h; exact KS.lens hc
    have hk := h.keep hb1
    obtain ⟨a, c, b, off, rfl, ha, _⟩ := h
    obtain rfl := ha hpos
    have hown : RowRd W1 W1.heap.size (.slice none 0 0) 0 [] := World.ownsRow_nil _ _ _ _
    have hl0 : 0 + wd.length ≤ 1000000 := by omega
    have hn1 : wd.length ≤ 1000000000000 := by omega
    have hk' := Lib.hid hk
    clear hk
    go_enter Tryz.func99, Tryz.ntmps99
    go_wp2_with (at_builtin; rw [← hW1]; replace hW1 := Lib.hid hW1; refine wpList_appRds rfl _ _ rfl rfl hown rfl hk'.out hpos hl0 (Nat.le_refl _) ?_)
    intro v' w2 hrow _ hb2
    have hrow2 : OwX 79 7 EI w2 W1.heap.size v' wd.length wd := OwX.ofFlat hrow hlens rfl
    obtain ⟨va, vc, hv'⟩ := hrow2.shape
    subst hv'
    have d0 := cell_kept hb2 c0
    have d1 := cell_kept hb2 c1
    have d2 := cell_kept hb2 c2
    have d3 := cell_kept hb2 c3
    have d4 := cell_kept hb2 c4
    have d5 := cell_kept hb2 c5
    have d6 := cell_kept hb2 c6
    have hEI : EI w2 [.int .i64 r0, .int .i64 r1, .int .i64 r2, .int .i64 r3, .int .i64 r4, .int .i64 r5, .int .i64 r6] [r0, r1, r2, r3, r4, r5, r6] := rfl
    clear hrow
    go_wp2_with (at_builtin; refine wpAppX elemRd (by decide) (by decide) (EI.stab _) rfl _ _ rfl rfl hrow2 rfl rfl rfl hc7 hEI hn1 hb2.size ?_)
    intro v3 w3 hrow3 _ hb3 _
    have hfin := hrow3.base (B' := w.heap.size) hb1.size
    clear hrow2 hrow3
    go_wp2
    go_ret
    exact ⟨_, rfl, hfin, bt hb1 (hb2.trans hb3) hb1.size⟩
end Go.Proofs.YtfihpofdoffclaaGreatDoor

/- The reference: seen. -/
namespace Go.Proofs.YtfihpofdoffclaaGreatDoor
open Go.RowKit

set_option maxRecDepth 100000 in
set_option maxHeartbeats 1600000 in
theorem seenCall {w : World} {v : Value} {B : Nat} {Q : List It} (h : OwX 143 3 EIt w B v Q.length Q) (hl : Q.length ≤ 1000000) (s t : Nat) :
    Calls Tryz.prog 100 #[v, .int .i64 (s : Int), .int .i64 (t : Int)] w fun e w' => e = .returned (.bool (decide ((s, t) ∈ Q.map Prod.fst))) ∧ w' = w := by
  obtain ⟨a, c, rfl⟩ := h.shape
  obtain ⟨R, hR⟩ : ∃ R, decide ((s, t) ∈ Q.map Prod.fst) = R := ⟨_, rfl⟩
  rw [hR]
  have hyes : Hid (∀ i, i < Q.length → (Q.getD i ((0, 0), [])).1 = (s, t) → R = true) := fun i hi he => by
    rw [← hR]
    refine decide_eq_true ?_
    rw [← he, getD_eq hi]
    exact List.mem_map_of_mem (List.getElem_mem hi)
  have hno : Hid ((∀ i, i < Q.length → (Q.getD i ((0, 0), [])).1 ≠ (s, t)) → R = false) := fun hn => by
    rw [← hR]
    refine decide_eq_false fun hm => ?_
    obtain ⟨x, hx, he⟩ := List.mem_map.1 hm
    obtain ⟨i, hi, rfl⟩ := List.getElem_of_mem hx
    exact hn i hi (by rw [getD_eq hi]; exact he)
  have hcl := Lib.hid (fun (g cap : Nat) (h : OwX 143 3 EIt w B (.slice (some ⟨g, 0, none⟩) Q.length cap) Q.length Q) (j : Nat) (hj : j < Q.length) => h.cells (j := j) (x := Q.getD j ((0, 0), [])) (by rw [getD_eq hj]; exact List.getElem?_eq_some_iff.2 ⟨hj, rfl⟩))
  have hh := Lib.hid h
  have h00 : Hid (∀ j, j < 0 → (Q.getD j ((0, 0), [])).1 ≠ (s, t)) := fun j hj => absurd hj (Nat.not_lt_zero _)
  clear h hR
  go_enter Tryz.func100, Tryz.ntmps100
  go_wp2
  go_loop [7] (fun iv => ∃ i : Nat, iv = .int .i64 i ∧ i ≤ Q.length ∧ Hid (∀ j, j < i → (Q.getD j ((0, 0), [])).1 ≠ (s, t))) (fun iv => Q.length - (intOf iv).toNat)
  case atStart => exact ⟨0, rfl, by omega, h00⟩
  case round =>
    clear h00
    obtain ⟨i, rfl, hi, hn⟩ := hrel
    by_cases hlt : i < Q.length
    · obtain ⟨g, cap, he, _⟩ := hh.out.form (by omega)
      obtain ⟨rfl, rfl⟩ : a = some ⟨g, 0, none⟩ ∧ c = cap := by injection he with h1 h2 h3; exact ⟨h1, h3⟩
      obtain ⟨cs, hcs, ⟨u, hu, _⟩, hcc⟩ := hcl.out g c hh.out i hlt
      subst hu
      obtain ⟨⟨⟨p, q⟩, wd⟩, hx⟩ : ∃ x, Q.getD i ((0, 0), []) = x := ⟨_, rfl⟩
      rw [hx] at hcc
      have c0 : w.cell? ⟨g, i * 3, none⟩ = some (.int .i64 (p : Int)) := hcc 0 _ rfl
      have c1 : w.cell? ⟨g, i * 3 + 1, none⟩ = some (.int .i64 (q : Int)) := hcc 1 _ rfl
      have hix : (i : Int) < (Q.length : Int) := by omega
      have hn2 : Hid ((p, q) ≠ (s, t) → ∀ j, j < i + 1 → (Q.getD j ((0, 0), [])).1 ≠ (s, t)) := fun hne j hj => by
        rcases Nat.lt_or_ge j i with h | h
        · exact hn.out j h
        · obtain rfl : j = i := by omega
          rw [hx]; exact hne
      have hy2 : Hid ((p, q) = (s, t) → R = true) := fun he => hyes.out i hlt (by rw [hx]; exact he)
      clear hcc hcs hx he hn
      by_cases hp : p = s
      · by_cases hq : q = t
        · have hRt := Lib.hid (hy2.out (by rw [hp, hq]))
          have e1 : ((p : Int) == (s : Int)) = true := by simp [hp]
          have e2 : ((q : Int) == (t : Int)) = true := by simp [hq]
          clear hy2 hn2 hp hq
          go_wp2
          go_ret
          exact ⟨by rw [hRt.out]; rfl, rfl⟩
        · have hn3 := Lib.hid (hn2.out fun h => hq (Prod.mk.inj h).2)
          have e1 : ((p : Int) == (s : Int)) = true := by simp [hp]
          have e2 : ((q : Int) == (t : Int)) = false := by simp; omega
          clear hy2 hn2 hp hq
          go_wp2
          go_round
          case rel => exact ⟨i + 1, by go_num, hlt, hn3⟩
          case measure => simp [intOf]; omega
      · have hn3 := Lib.hid (hn2.out fun h => hp (Prod.mk.inj h).1)
        have e1 : ((p : Int) == (s : Int)) = false := by simp; omega
        clear hy2 hn2 hp
        go_wp2
        go_round
        case rel => exact ⟨i + 1, by go_num, hlt, hn3⟩
        case measure => simp [intOf]; omega
    · have hRf := Lib.hid (hno.out fun j hj => hn.out j (by omega))
      clear hn hno hyes
      go_wp2
      go_ret
      exact ⟨by rw [hRf.out]; rfl, rfl⟩
end Go.Proofs.YtfihpofdoffclaaGreatDoor

/- The reference: To. -/
namespace Go.Proofs.YtfihpofdoffclaaGreatDoor
open Go.RowKit

set_option maxRecDepth 100000 in
set_option maxHeartbeats 1600000 in
theorem refTo {w : World} {v : Value} {n : Int} {ss : List (List (List Int))} (hA : AdvV w v n ss) {i : Nat} (hi : i < ss.length) (r0 r1 r2 r3 r4 r5 r6 : Int) :
    Calls Tryz.prog 98 #[v, .int .i64 (i : Int), .agg #[.int .i64 r0, .int .i64 r1, .int .i64 r2, .int .i64 r3, .int .i64 r4, .int .i64 r5, .int .i64 r6]] w fun e w' =>
      e = .returned (.int .i64 (toI [r0, r1, r2, r3, r4, r5, r6] (ss.getD i []))) ∧ Below w.heap.size w w' := by
  obtain ⟨sv, rfl, hK⟩ := hA
  obtain ⟨sa, sc, sb, so, rfl, hsa, hsc, _⟩ := hK
  obtain rfl := hsa (by omega)
  obtain ⟨W1, hW1⟩ : ∃ W1, W1 = w.alloc (.cells #[.int .i64 n, .slice (some ⟨sb, so, none⟩) ss.length sc] 24) := ⟨_, rfl⟩
  obtain ⟨hb1, p0, p1, _⟩ := boxAdv hW1
  have hs1 : W1.heap.size = w.heap.size + 1 := by rw [hW1]; simp
  obtain ⟨W2, hW2⟩ : ∃ W2, W2 = W1.alloc (.cells #[.int .i64 r0, .int .i64 r1, .int .i64 r2, .int .i64 r3, .int .i64 r4, .int .i64 r5, .int .i64 r6] 79) := ⟨_, rfl⟩
  have hb2 : Below W1.heap.size W1 W2 := by rw [hW2]; exact (Below.refl _ _).alloc (Nat.le_refl _) _
  have m2 : W2.heap[W1.heap.size]? = some (.cells #[.int .i64 r0, .int .i64 r1, .int .i64 r2, .int .i64 r3, .int .i64 r4, .int .i64 r5, .int .i64 r6] 79) := by rw [hW2]; exact heap_alloc_new _ _
  have hc2 := box7CI m2
  rw [hs1] at hc2
  have hb02 := bt hb1 hb2 hb1.size
  have q1 := cell_kept hb2 p1
  obtain ⟨u, hcu, hu⟩ := hsc i hi
  have hcu := cell_kept hb02 hcu
  have hu := hu.keep hb02
  obtain ⟨ms, hms⟩ : ∃ ms, ss.getD i [] = ms := ⟨_, rfl⟩
  rw [hms] at hu ⊢
  obtain ⟨ma, mc, mb, mo, rfl, hma, hmc, _⟩ := hu
  replace hmc := Lib.hid hmc
  replace hc2 := Lib.hid hc2
  obtain ⟨z, hz⟩ : ∃ z, toI [r0, r1, r2, r3, r4, r5, r6] ms = z := ⟨_, rfl⟩
  have hz0 : Hid (toI [r0, r1, r2, r3, r4, r5, r6] (ms.drop 0) = z) := by show _ = _; rw [List.drop_zero]; exact hz
  rw [hz]
  have hs2a : W2.heap.size ≤ w.heap.size + 2 := by rw [hW2]; simp; omega
  have hs2b : w.heap.size + 2 ≤ W2.heap.size := by rw [hW2]; simp; omega
  rw [hW1] at hW2
  clear hsc hms hz m2 p0 p1 hb1
  have q1' := q1
  have hcu' := hcu
  rw [hW2] at q1' hcu'
  go_enter Tryz.func98, Tryz.ntmps98
  go_wp2
  rw [← hW2]
  replace hW2 := Lib.hid hW2
  obtain ⟨d0, d1, d2, d3, d4, d5, d6⟩ := hc2.out.all7
  simp only [Nat.zero_add] at d0 d1 d2 d3 d4 d5 d6
  go_loopw [8] (fun jv wr => ∃ k : Nat, jv = .int .i64 k ∧ k ≤ ms.length ∧ Hid (toI [r0, r1, r2, r3, r4, r5, r6] (ms.drop k) = z) ∧ Qt W2 wr) (fun jv _ => ms.length - (intOf jv).toNat)
  case atStart => exact ⟨0, rfl, by omega, hz0, Qt.refl _⟩
  case round =>
    clear hz0
    obtain ⟨k, rfl, hk, hzk, nd, rfl⟩ := hrel
    by_cases hlt : k < ms.length
    · obtain rfl := hma (by omega)
      obtain ⟨hx8, hxi⟩ := hmc.out k hlt
      obtain ⟨x, hx⟩ : ∃ x, ms.getD k [] = x := ⟨_, rfl⟩
      have hdr := drop_cons hlt ([] : List Int)
      rw [hx] at hx8 hxi hdr
      rw [hdr] at hzk
      obtain ⟨x0, x1, x2, x3, x4, x5, x6, x7, rfl⟩ := eight hx8
      obtain ⟨c0, c1, c2, c3, c4, c5, c6, c7⟩ := hxi.all8
      clear hxi hx8 hx hdr
      by_cases he : [x0, x1, x2, x3, x4, x5, x6] = [r0, r1, r2, r3, r4, r5, r6]
      · have hE : eqL [x0, x1, x2, x3, x4, x5, x6] [r0, r1, r2, r3, r4, r5, r6] = true := eqL_true.2 he
        have hzx : x7 = z := by
          have h := hzk.out
          rw [toI, if_pos (show rdOf [x0, x1, x2, x3, x4, x5, x6, x7] = _ from he)] at h
          exact h
        subst hzx
        clear he hzk
        go_wp2
        go_quiet (fail)
        go_wp2
        go_ret
        exact ⟨rfl, below_drewN hb02 _⟩
      · have hE : eqL [x0, x1, x2, x3, x4, x5, x6] [r0, r1, r2, r3, r4, r5, r6] = false := eqL_false.2 he
        have hz2 : Hid (toI [r0, r1, r2, r3, r4, r5, r6] (ms.drop (k + 1)) = z) := by
          have h := hzk.out
          rwa [toI, if_neg (show ¬ rdOf [x0, x1, x2, x3, x4, x5, x6, x7] = _ from he)] at h
        clear he hzk
        go_wp2
        go_quiet (fail)
        go_wp2
        go_roundw
        case rel => exact ⟨k + 1, by go_num, hlt, hz2, Qt.mk' _ _⟩
        case measure => simp [intOf]; omega
    · have hzx : -1 = z := by
        have h := hzk.out
        rw [List.drop_eq_nil_of_le (by omega), toI] at h
        exact h
      subst hzx
      clear hzk
      go_wp2
      go_ret
      exact ⟨rfl, below_drewN hb02 _⟩
end Go.Proofs.YtfihpofdoffclaaGreatDoor

/- The reference: First. -/
namespace Go.Proofs.YtfihpofdoffclaaGreatDoor
open Go.RowKit

/-- An item of the queue; an empty word is nil. -/
def EItN (w : World) (cs : List Value) (x : It) : Prop := ∃ u, cs = [.int .i64 (x.1.1 : Int), .int .i64 (x.1.2 : Int), u] ∧ OwX 79 7 EI w 0 u x.2.length x.2 ∧ (x.2 = [] → u = .slice none 0 0)
theorem EItN.stab {E : TypeId} (h : 79 ≠ E) : Stab E EItN := fun _ _ _ _ ⟨u, h1, h2, h3⟩ hx => ⟨u, h1, h2.other (EI.stab _) h hx, h3⟩
theorem OwX.mono {α : Type} {E : TypeId} {k : Nat} {El El' : World → List Value → α → Prop} {w : World} {B : Nat} {v : Value} {n : Nat} {xs : List α} (h : OwX E k El w B v n xs) (hi : ∀ cs x, El w cs x → El' w cs x) : OwX E k El' w B v n xs := by
  obtain ⟨vs, h1, h2, h3, h4⟩ := h
  exact ⟨vs, h1, h2, h3, fun j x hj => hi _ _ (h4 j x hj)⟩
theorem OwX.it {E : TypeId} {w : World} {B : Nat} {v : Value} {n : Nat} {xs : List It} (h : OwX E 3 EItN w B v n xs) : OwX E 3 EIt w B v n xs := h.mono fun _ _ ⟨u, h1, h2, _⟩ => ⟨u, h1, h2⟩
theorem elemPr : ElemK Tryz.prog 144 143 (.agg #[.int .i64 0, .int .i64 0, .slice none 0 0]) 3 40 := ⟨by kernel_rfl, by kernel_rfl, rfl⟩
/-- A box of three cells as a row of one pair. -/
theorem owPair {w : World} {g B : Nat} {a b : Nat} (hg : w.heap[g]? = some (.cells #[.int .i64 (a : Int), .int .i64 (b : Int), .slice none 0 0] 143)) (hB : B ≤ g) : OwX 143 3 EItN w B (.slice (some ⟨g, 0, none⟩) 1 1) 1 [((a, b), [])] := by
  refine ⟨[.int .i64 (a : Int), .int .i64 (b : Int), .slice none 0 0], ⟨rfl, .inr ⟨g, 1, _, rfl, hB, hg, Nat.le_refl _, by unfold maxLen; omega, rfl, rfl⟩⟩, rfl, ?_, ?_⟩
  · intro u hu
    simp only [List.mem_cons, List.not_mem_nil, or_false] at hu
    rcases hu with rfl | rfl | rfl <;> rfl
  · intro j x hj
    match j, hj with
    | 0, hj =>
      simp only [List.getElem?_cons_zero, Option.some.injEq] at hj
      subst hj
      exact ⟨_, rfl, OwX.nil _ _, fun _ => rfl⟩
    | _ + 1, hj => simp at hj
theorem push_ref {W8 Wb w9 : World} {o : Obj} {i : Nat} {nv nv' : Value} {cs : Array Value} (hWb : Wb = W8.alloc o)
    (hbox : W8.heap[i]? = some (.cells cs 143)) (hnb : ∀ g, nv.ownBlock = some g → g ≠ i) (hg : Wb.grownBy w9 nv.ownBlock) (hn : NewAt Wb nv nv') :
    (∀ g, nv'.ownBlock = some g → g ≠ i) ∧ w9.heap[i]? = some (.cells cs 143) := by
  have hb8 : Below W8.heap.size W8 Wb := by rw [hWb]; exact (Below.refl _ _).alloc (Nat.le_refl _) _
  have hs : W8.heap.size < Wb.heap.size := by rw [hWb]; simp
  have hi8 := (Array.getElem?_eq_some_iff.1 hbox).1
  have hboxb := (hb8.block i hi8).trans hbox
  refine ⟨fun g hgg e => ?_, (hg.block i (by omega) fun e => ?_).trans hboxb⟩
  · rcases hn with h | h
    · exact hnb g (h ▸ hgg) e
    · rw [h] at hgg
      simp only [Option.some.injEq] at hgg
      omega
  · exact hnb i e.symm rfl
set_option maxRecDepth 100000 in
set_option maxHeartbeats 6400000 in
theorem refFirst {w : World} {v : Value} {n : Int} {ss : List (List (List Int))} (hA : AdvC w v n ss) (hO : ClsOK ss) {s t : Nat} (hs : s < ss.length) (ht : t < ss.length) :
    Calls Tryz.prog 56 #[v, .int .i64 (s : Int), .int .i64 (t : Int)] w (DisOut w (dist ss s t)) := by
  obtain ⟨hl90, hmv90, hl0, hst⟩ := hO
  have hM : LeadOK ss := fun s hs m hm => ((hst s hs).2 m hm).2.2
  have hD := dist_ref hM hs ht
  obtain ⟨R, hR⟩ : ∃ R, dist ss s t = R := ⟨_, rfl⟩
  rw [hR] at hD ⊢
  obtain ⟨F, hF⟩ : ∃ F, ss.length * ss.length + 1 = F := ⟨_, rfl⟩
  rw [hF] at hD
  have hlen : ∀ j, (ss.getD j []).length ≤ 90 := fun j => by
    by_cases hj : j < ss.length
    · rw [getD_eq hj]
      have := mem_movesN (List.getElem_mem hj)
      omega
    · rw [List.getD_eq_getElem?_getD, List.getElem?_eq_none (by omega)]; simp
  have HT := Lib.hid (fun W (hb : Below w.heap.size w W) j (hj : j < ss.length) r0 r1 r2 r3 r4 r5 r6 => refTo (hA.keep hb).adv hj r0 r1 r2 r3 r4 r5 r6)
  have HL := Lib.hid (fun W (hb : Below w.heap.size w W) i (hi : i < ss.length) j (hj : j < ss.length) => lettersA (hA.keep hb) hi hj (by have := hlen i; have := hlen j; omega))
  obtain ⟨sa, sc, hv⟩ := advShape' hA.adv
  subst hv
  obtain ⟨W1, hW1⟩ : ∃ W1, W1 = w.alloc (.cells #[.int .i64 n, .slice sa ss.length sc] 24) := ⟨_, rfl⟩
  obtain ⟨hb1, p0, p1, _⟩ := boxAdv hW1
  have hs1 : W1.heap.size = w.heap.size + 1 := by rw [hW1]; simp
  obtain ⟨W2, hW2⟩ : ∃ W2, W2 = W1.alloc (.cells #[.int .i64 (s : Int), .int .i64 (t : Int), .slice none 0 0] 143) := ⟨_, rfl⟩
  have hb2 : Below W1.heap.size W1 W2 := by rw [hW2]; exact (Below.refl _ _).alloc (Nat.le_refl _) _
  have hit : W2.heap[W1.heap.size]? = some (.cells #[.int .i64 (s : Int), .int .i64 (t : Int), .slice none 0 0] 143) := by rw [hW2]; exact heap_alloc_new _ _
  have hOw2 := owPair (B := W1.heap.size) hit (Nat.le_refl _)
  rw [hs1] at hOw2
  have hOw2' : OwX 143 3 EItN W2 (w.heap.size + 1) (.slice (some ⟨w.heap.size + 1, 0, none⟩) 1 1) ([((s, t), [])] : List It).length [((s, t), [])] := hOw2
  have hQ0 : Hid (QB ss [((s, t), [])]) := ⟨⟨by simp, by simp [hs, ht]⟩, fun j => by
    match j with
    | 0 => simp
    | _ + 1 => simp⟩
  have hD0 := Lib.hid hD
  have hmx : Tryz.prog.follows .mixedOrders = true := by kernel_rfl
  replace hst := Lib.hid hst
  replace hM := Lib.hid hM
  replace hlen := Lib.hid hlen
  replace hF := Lib.hid hF
  rw [hW1] at hW2
  replace hs1 := Lib.hid hs1
  replace hW1 := Lib.hid hW1
  clear hD hR hit hOw2 hA
  go_enter Tryz.func56, Tryz.ntmps56
  go_wp2_with fail
  rw [← hW2]
  replace hW2 := Lib.hid hW2
  go_loopg [8, 9] F (fun f lv nv wr => ∃ (b : Nat) (Q : List It), nv = .int .i64 b ∧ b ≤ Q.length ∧ OwX 143 3 EItN wr (w.heap.size + 1) lv Q.length Q ∧ Below W1.heap.size W1 wr ∧ Hid (dGo true ss f b Q = some R) ∧ Hid (QB ss Q))
  case atStart => exact ⟨0, _, rfl, by simp, hOw2', hb2, hD0, hQ0⟩
  case round =>
    clear hOw2' hb2 hD0 hQ0
    obtain ⟨b, Q, rfl, hbQ, hwt, hbr, hg, hQB⟩ := hrel
    obtain ⟨la, lc, hlv⟩ := hwt.shape
    subst hlv
    have hQl := hQB.out.len hl90
    by_cases hlt : b < Q.length
    · obtain ⟨f, rfl⟩ : ∃ f, gk = f + 1 := by
        cases gk with
        | zero => exact absurd hg (by intro h; simp [Hid, dGo] at h)
        | succ f => exact ⟨f, rfl⟩
      obtain ⟨gw, cw, hwe, hgw⟩ := hwt.form (by omega)
      obtain ⟨rfl, rfl⟩ : la = some ⟨gw, 0, none⟩ ∧ lc = cw := by injection hwe with h1 h2 h3; exact ⟨h1, h3⟩
      obtain ⟨⟨⟨p, q⟩, wd⟩, hx⟩ : ∃ x, Q.getD b ((0, 0), []) = x := ⟨_, rfl⟩
      have hgi : Hid (dIn true ss (dGo true ss f (b + 1)) ((p, q), wd) (ltr ss p q) Q = some R) := by
        have h1 := hg.out
        rw [dGo, if_pos hlt, hx] at h1
        exact h1
      have hxm : ((p, q), wd) ∈ Q := by rw [← hx, getD_eq hlt]; exact List.getElem_mem _
      obtain ⟨hp, hq⟩ := hQB.out.1.2 _ hxm
      simp only at hp hq
      have hwdl : wd.length ≤ b := by have := hQB.out.2 b; rw [hx] at this; exact this
      obtain ⟨cs, hcl, ⟨xu, hcs, hxu, hxn⟩, hcc⟩ := hwt.cells (j := b) (x := ((p, q), wd)) (by
        rw [← hx, getD_eq hlt]; exact List.getElem?_eq_some_iff.2 ⟨hlt, rfl⟩)
      subst hcs
      obtain ⟨xua, xuc, hxus⟩ := hxu.shape
      subst hxus
      have hxu : OwX 79 7 EI wr 0 (.slice xua wd.length xuc) wd.length wd := hxu
      have hxn : wd = [] → Value.slice xua wd.length xuc = .slice none 0 0 := hxn
      have cx0 : wr.cell? ⟨gw, b * 3, none⟩ = some (.int .i64 (p : Int)) := hcc 0 _ rfl
      have cx1 : wr.cell? ⟨gw, b * 3 + 1, none⟩ = some (.int .i64 (q : Int)) := hcc 1 _ rfl
      have cx2 : wr.cell? ⟨gw, b * 3 + 2, none⟩ = some (.slice xua wd.length xuc) := hcc 2 _ rfl
      have hbi : (b : Int) < (Q.length : Int) := by omega
      obtain ⟨Wx, hWx⟩ : ∃ Wx, Wx = wr.alloc (.cells #[.int .i64 (p : Int), .int .i64 (q : Int), .slice xua wd.length xuc] 143) := ⟨_, rfl⟩
      have hbx : Below wr.heap.size wr Wx := by rw [hWx]; exact (Below.refl _ _).alloc (Nat.le_refl _) _
      have hxb : Wx.heap[wr.heap.size]? = some (.cells #[.int .i64 (p : Int), .int .i64 (q : Int), .slice xua wd.length xuc] 143) := by rw [hWx]; exact heap_alloc_new _ _
      have hsx : Wx.heap.size = wr.heap.size + 1 := by rw [hWx]; simp
      have b0 : Wx.cell? ⟨wr.heap.size, 0, none⟩ = some (.int .i64 (p : Int)) := by rw [cell_of_row _ _ 0 _ _ _ hxb]; rfl
      have b1 : Wx.cell? ⟨wr.heap.size, 1, none⟩ = some (.int .i64 (q : Int)) := by rw [cell_of_row _ _ 1 _ _ _ hxb]; rfl
      have hbWx := bt hbr hbx hbr.size
      have g0 := cell_kept hbWx p0
      have g1 := cell_kept hbWx p1
      have hLc := Lib.hid (HL.out Wx (bt hb1 hbWx hb1.size) p hp q hq)
      have hnb : ∀ g, (Value.slice (some ⟨gw, 0, none⟩) Q.length lc).ownBlock = some g → g ≠ wr.heap.size := fun g hg e => by
        obtain ⟨_, h1, _⟩ := hwt
        have := (World.ownsRow.lt h1 g hg).2
        omega
      have hlp : (ltr ss p q).length ≤ 200 := by
        have a1 := hlen.out p
        have a2 := hlen.out q
        have key : ∀ xs ys : List (List Int), (mg xs ys).length ≤ xs.length + ys.length := by
          intro xs
          induction xs with
          | nil => intro ys; simp [mg]
          | cons x xs ih =>
            intro ys
            rw [mg]
            induction ys with
            | nil => rw [mgIn]; have := ih []; simp at this ⊢; omega
            | cons y ys ih2 =>
              rw [mgIn]
              split
              · have := ih (y :: ys); simp at this ⊢; omega
              · split
                · have := ih ys; simp at this ⊢; omega
                · simp at ih2 ⊢; omega
        have h1 := key ((ss.getD p []).map rdOf) ((ss.getD q []).map rdOf)
        rw [List.length_map, List.length_map] at h1
        unfold ltr
        omega
      obtain ⟨wo, hwo⟩ : ∃ wo, wo = wr := ⟨_, rfl⟩
      subst hwo
      replace hx := Lib.hid hx
      replace hxn := Lib.hid hxn
      clear hg hwe hcc
      rw [hWx] at b0 b1 g0 g1
      go_wp2_with fail
      rw [← hWx]
      replace hWx := Lib.hid hWx
      refine hLc.out.mono ?_
      rintro e wL ⟨rl, rfl, hRs, hbL⟩
      obtain ⟨LT, hLT⟩ : ∃ LT, ltr ss p q = LT := ⟨_, rfl⟩
      rw [hLT] at hRs hgi hlp
      obtain ⟨ra, rc, hrv⟩ := hRs.shape
      subst hrv
      have hbxL := bt hbx hbL hbx.size
      have hwtL := OwX.keep (EItN.stab (by decide)) hwt hbxL
      have hxuL := OwX.keep (EI.stab _) hxu hbxL
      have hxbL := (hbL.block _ (Array.getElem?_eq_some_iff.1 hxb).1).trans hxb
      have hbrL := bt hbr hbxL hbr.size
      have hgi0 : Hid (dIn true ss (dGo true ss f (b + 1)) ((p, q), wd) (LT.drop 0) Q = some R) := hgi
      have hszo : wo.heap.size < wL.heap.size := by have := hbL.size; omega
      replace hLT := Lib.hid hLT
      clear cx0 cx1 cx2 b0 b1 g0 g1 hgi hwt hxu hxb hbx hsx hbWx hLc hbL hbxL
      go_wp2_with fail
      go_loopg [8, 12] LT.length (fun gg lv kv wr => ∃ (k : Nat) (Qk : List It), kv = .int .i64 k ∧ gg + k = LT.length ∧ OwX 143 3 EItN wr (w.heap.size + 1) lv Qk.length Qk ∧ (∀ g, lv.ownBlock = some g → g ≠ wo.heap.size) ∧
        wr.heap[wo.heap.size]? = some (.cells #[.int .i64 (p : Int), .int .i64 (q : Int), .slice xua wd.length xuc] 143) ∧ Below W1.heap.size W1 wr ∧ KeepX 143 wL wr ∧ wL.heap.size ≤ wr.heap.size ∧
        Hid (dIn true ss (dGo true ss f (b + 1)) ((p, q), wd) (LT.drop k) Qk = some R) ∧ Hid (QB ss Qk) ∧ Q.length ≤ Qk.length)
      case atStart => exact ⟨0, Q, rfl, by omega, hwtL, hnb, hxbL, hbrL, KeepX.refl _ _, Nat.le_refl _, hgi0, hQB, Nat.le_refl _⟩
      case round =>
        clear hwtL hnb hxbL hbrL hgi0 hQB hbr
        obtain ⟨k, Qk, rfl, hgk, hwt, hnb, hxb, hbr, hKX, hszL, hg, hQB, hQQ⟩ := hrel
        obtain ⟨na, nc, hnv⟩ := hwt.shape
        subst hnv
        have hQkl := hQB.out.len hl90
        by_cases hltk : k < LT.length
        · obtain ⟨gg, rfl⟩ : ∃ gg, gk = gg + 1 := ⟨gk - 1, by omega⟩
          obtain ⟨gr, cr, hre, _⟩ := hRs.form (by omega)
          obtain ⟨rfl, rfl⟩ : ra = some ⟨gr, 0, none⟩ ∧ rc = cr := by injection hre with h1 h2 h3; exact ⟨h1, h3⟩
          have hRr := hRs.other (E' := 143) (EI.stab _) (by decide) hKX
          obtain ⟨hr7, hrc⟩ := hRr.intCells hltk
          obtain ⟨r, hr⟩ : ∃ r, LT.getD k [] = r := ⟨_, rfl⟩
          have hg2 := hg.out
          rw [drop_cons hltk ([] : List Int), hr, dIn] at hg2
          rw [hr] at hr7 hrc
          obtain ⟨r0, r1, r2, r3, r4, r5, r6, rfl⟩ := seven hr7
          obtain ⟨c0, c1, c2, c3, c4, c5, c6⟩ := hrc.all7
          have hki : (k : Int) < (LT.length : Int) := by omega
          have a0 := cell_kept hbr p0
          have a1 := cell_kept hbr p1
          have b0 : wr.cell? ⟨wo.heap.size, 0, none⟩ = some (.int .i64 (p : Int)) := by rw [cell_of_row _ _ 0 _ _ _ hxb]; rfl
          have b1 : wr.cell? ⟨wo.heap.size, 1, none⟩ = some (.int .i64 (q : Int)) := by rw [cell_of_row _ _ 1 _ _ _ hxb]; rfl
          have b2 : wr.cell? ⟨wo.heap.size, 2, none⟩ = some (.slice xua wd.length xuc) := by rw [cell_of_row _ _ 2 _ _ _ hxb]; rfl
          have hbw := bt hb1 hbr hb1.size
          have HTp := fun W (hW : Below wr.heap.size wr W) => HT.out W (bt hbw hW hbw.size) p hp r0 r1 r2 r3 r4 r5 r6
          have HTq := fun W (hW : Below wr.heap.size wr W) => HT.out W (bt hbw hW hbw.size) q hq r0 r1 r2 r3 r4 r5 r6
          have hPp := toI_st hM.out hp [r0, r1, r2, r3, r4, r5, r6]
          have hPq := toI_st hM.out hq [r0, r1, r2, r3, r4, r5, r6]
          have hdP : dP ss [r0, r1, r2, r3, r4, r5, r6] (p, q) = ((toI [r0, r1, r2, r3, r4, r5, r6] (ss.getD p [])).toNat, (toI [r0, r1, r2, r3, r4, r5, r6] (ss.getD q [])).toNat) := rfl
          rw [hdP] at hg2
          obtain ⟨P1, hP1⟩ : ∃ P1, toI [r0, r1, r2, r3, r4, r5, r6] (ss.getD p []) = P1 := ⟨_, rfl⟩
          obtain ⟨P2, hP2⟩ : ∃ P2, toI [r0, r1, r2, r3, r4, r5, r6] (ss.getD q []) = P2 := ⟨_, rfl⟩
          simp only at hg2
          rw [hP1, hP2] at hg2
          simp only [hP1] at HTp
          simp only [hP2] at HTq
          rw [hP1] at hPp
          rw [hP2] at hPq
          replace hg2 := Lib.hid hg2
          replace HTp := Lib.hid HTp
          replace HTq := Lib.hid HTq
          have hf := Lib.hid (fun wq (hC : Below wr.heap.size wr wq) => And.intro (cell_kept hC a0) (And.intro (cell_kept hC a1) (And.intro (cell_kept hC b0) (And.intro (cell_kept hC b1) (And.intro (cell_kept hC b2) (And.intro (cell_kept hC c0) (And.intro (cell_kept hC c1) (And.intro (cell_kept hC c2) (And.intro (cell_kept hC c3) (And.intro (cell_kept hC c4) (And.intro (cell_kept hC c5) (cell_kept hC c6))))))))))))
          have hxur := hxuL.other (E' := 143) (EI.stab _) (by decide) hKX
          have hwl9 : wd.length ≤ 100000 := by omega
          have HW := Lib.hid (fun W (hW : Below wr.heap.size wr W) => withCall ((OwX.keep (EI.stab _) hxur hW).ks (by omega)) hxn.out hwl9 r0 r1 r2 r3 r4 r5 r6)
          clear hr hr7 hrc hRr hP1 hP2 hdP hg hre a0 a1 b0 b1 b2 c0 c1 c2 c3 c4 c5 c6 hxur
          go_wp2_with fail
          refine wp_region_bw hmx (by kernel_rfl) ?_
          repeat (refine WQ.step (fun K hK => ?_)
                  go_simp
                  first
                    | (refine hK _ ?_; clear hK K)
                    | (apply Exists.intro
                       refine ⟨fun wq hC => ?_, hK _ ?_⟩
                       · (first | with_reducible rfl | (obtain ⟨f0, f1, f2, f3, f4, f5, f6, f7, f8, f9, f10, f11⟩ := hf.out wq hC; go_simp; first | done | with_reducible rfl | with_reducible exact ⟨rfl, rfl⟩))
                       clear hK K))
          (refine WQ.step (fun K hK => ?_)
           go_simp
           first
             | (refine hK _ ?_; clear hK K)
             | (apply Exists.intro
                refine ⟨fun wq hC => ?_, hK _ ?_⟩
                · (refine (HTp.out wq hC).mono ?_; rintro e w' ⟨rfl, hb⟩; exact ⟨rfl, bt hC hb hC.size⟩)
                clear hK K))
          repeat (refine WQ.step (fun K hK => ?_)
                  go_simp
                  first
                    | (refine hK _ ?_; clear hK K)
                    | (apply Exists.intro
                       refine ⟨fun wq hC => ?_, hK _ ?_⟩
                       · (first | with_reducible rfl | (obtain ⟨f0, f1, f2, f3, f4, f5, f6, f7, f8, f9, f10, f11⟩ := hf.out wq hC; go_simp; first | done | with_reducible rfl | with_reducible exact ⟨rfl, rfl⟩))
                       clear hK K))
          (refine WQ.step (fun K hK => ?_)
           go_simp
           first
             | (refine hK _ ?_; clear hK K)
             | (apply Exists.intro
                refine ⟨fun wq hC => ?_, hK _ ?_⟩
                · (refine (HTq.out wq hC).mono ?_; rintro e w' ⟨rfl, hb⟩; exact ⟨rfl, bt hC hb hC.size⟩)
                clear hK K))
          repeat (refine WQ.step (fun K hK => ?_)
                  go_simp
                  first
                    | (refine hK _ ?_; clear hK K)
                    | (apply Exists.intro
                       refine ⟨fun wq hC => ?_, hK _ ?_⟩
                       · (first | with_reducible rfl | (obtain ⟨f0, f1, f2, f3, f4, f5, f6, f7, f8, f9, f10, f11⟩ := hf.out wq hC; go_simp; first | done | with_reducible rfl | with_reducible exact ⟨rfl, rfl⟩))
                       clear hK K))
          refine WQ.nil ?_
          intro w4 hb4
          obtain ⟨f0, f1, f2, f3, f4, f5, f6, f7, f8, f9, f10, f11⟩ := hf.out w4 hb4
          have hW4 := HW.out w4.drew (hb4.drew)
          replace hW4 := Lib.hid hW4
          clear hf HTp HTq HW
          go_wp2_with fail
          go_region_held3 (fun w' => w'.cell? ⟨wo.heap.size, 2, none⟩ = some (.slice xua wd.length xuc) ∧ w'.cell? ⟨gr, k * 7, none⟩ = some (.int .i64 r0) ∧ w'.cell? ⟨gr, k * 7 + 1, none⟩ = some (.int .i64 r1) ∧ w'.cell? ⟨gr, k * 7 + 2, none⟩ = some (.int .i64 r2) ∧ w'.cell? ⟨gr, k * 7 + 3, none⟩ = some (.int .i64 r3) ∧ w'.cell? ⟨gr, k * 7 + 4, none⟩ = some (.int .i64 r4) ∧ w'.cell? ⟨gr, k * 7 + 5, none⟩ = some (.int .i64 r5) ∧ w'.cell? ⟨gr, k * 7 + 6, none⟩ = some (.int .i64 r6))
            (first
              | go_keep
              | (exact ⟨cell_kept hbd6 f4, cell_kept hbd6 f5, cell_kept hbd6 f6, cell_kept hbd6 f7, cell_kept hbd6 f8, cell_kept hbd6 f9, cell_kept hbd6 f10, cell_kept hbd6 f11⟩))
            (first
              | (go_at_call 99; (with_reducible refine hW4.out.mono ?_); rintro e w6 ⟨u6, rfl, ho6, hb6⟩; obtain ⟨a6, c6, rfl⟩ := ho6.shape; have hbd6 : Below w4.heap.size w4 w6 := below_of_drew hb6))
          have hb6 : Below wr.heap.size wr w6 := bt hb4 hbd6 hb4.size
          have hwt6 := OwX.keep (EItN.stab (by decide)) hwt hb6
          have hxb6 := (hb6.block _ (Array.getElem?_eq_some_iff.1 hxb).1).trans hxb
          have hbr6 := bt hbr hb6 hbr.size
          have hbw6 := bt hb1 hbr6 hb1.size
          have hKX6 : KeepX 143 wL w6 := hKX.trans (KeepX.below hb6)
          have hsz6 : wL.heap.size ≤ w6.heap.size := Nat.le_trans hszL hb6.size
          have ho6w := ho6.base (B' := w.heap.size) (Nat.le_trans hbw.size (Nat.le_trans hb4.size (by simp)))
          clear f0 f1 f2 f3 f4 f5 f6 f7 f8 f9 f10 f11 hW4 hb4
          by_cases hP1n : P1 < 0
          · have hd1 : decide (P1 < 0) = true := decide_eq_true hP1n
            have hRe : some (some (wd ++ [[r0, r1, r2, r3, r4, r5, r6]])) = some R := by rw [← hg2.out, if_pos (.inl hP1n)]
            injection hRe with hRe
            subst hRe
            have hfin : OwX 79 7 EI w6 w.heap.size (.slice a6 (wd.length + 1) c6) ((some (wd ++ [[r0, r1, r2, r3, r4, r5, r6]])).getD []).length ((some (wd ++ [[r0, r1, r2, r3, r4, r5, r6]])).getD []) := by
              simp only [Option.getD_some, List.length_append, List.length_cons, List.length_nil]
              exact ho6w
            clear hg2 ho6 ho6w
            go_wp2_with fail
            go_ret2
            exact ⟨_, rfl, hfin, hbw6⟩
          · have hd1 : decide (P1 < 0) = false := decide_eq_false hP1n
            by_cases hP2n : P2 < 0
            · have hd2 : decide (P2 < 0) = true := decide_eq_true hP2n
              have hRe : some (some (wd ++ [[r0, r1, r2, r3, r4, r5, r6]])) = some R := by rw [← hg2.out, if_pos (.inr hP2n)]
              injection hRe with hRe
              subst hRe
              have hfin : OwX 79 7 EI w6 w.heap.size (.slice a6 (wd.length + 1) c6) ((some (wd ++ [[r0, r1, r2, r3, r4, r5, r6]])).getD []).length ((some (wd ++ [[r0, r1, r2, r3, r4, r5, r6]])).getD []) := by
                simp only [Option.getD_some, List.length_append, List.length_cons, List.length_nil]
                exact ho6w
              clear hg2 ho6 ho6w
              go_wp2_with fail
              go_ret2
              exact ⟨_, rfl, hfin, hbw6⟩
            · have hd2 : decide (P2 < 0) = false := decide_eq_false hP2n
              obtain ⟨pa, rfl⟩ : ∃ a : Nat, P1 = (a : Int) := ⟨P1.toNat, by omega⟩
              obtain ⟨pc, rfl⟩ : ∃ a : Nat, P2 = (a : Int) := ⟨P2.toNat, by omega⟩
              have hpa : pa < ss.length := by omega
              have hpc : pc < ss.length := by omega
              have hg3 := hg2.out
              rw [if_neg (by omega), Int.toNat_natCast, Int.toNat_natCast] at hg3
              have hsn := Lib.hid (seenCall hwt6.it (by omega) pa pc)
              by_cases hin : (pa, pc) ∈ Qk.map Prod.fst
              · rw [if_pos (.inl hin)] at hg3
                rw [decide_eq_true hin] at hsn
                replace hg3 := Lib.hid hg3
                clear hg2 ho6 ho6w hin
                go_wp2_with fail
                refine hsn.out.mono ?_
                rintro e w' ⟨rfl, hw'⟩
                replace hw' := hw'.symm
                subst hw'
                go_wp2_with fail
                go_roundg gg
                case measure => omega
                case rel => exact ⟨k + 1, Qk, by go_num, by omega, hwt6, hnb, hxb6, hbr6, hKX6, hsz6, hg3, hQB, hQQ⟩
              · rw [if_neg (by rintro (h | ⟨h, _⟩); exact hin h; exact absurd h (by decide))] at hg3
                rw [decide_eq_false hin] at hsn
                have hQB' : Hid (QB ss (Qk ++ [((pa, pc), wd ++ [[r0, r1, r2, r3, r4, r5, r6]])])) := hQB.out.snoc (t := ((pa, pc), wd ++ [[r0, r1, r2, r3, r4, r5, r6]])) hin ⟨hpa, hpc⟩ (by simp only [List.length_append, List.length_cons, List.length_nil]; omega)
                replace hg3 := Lib.hid hg3
                have ho60 := ho6w.own
                obtain ⟨Wb, hWb⟩ : ∃ Wb, Wb = w6.alloc (.cells #[.int .i64 (pa : Int), .int .i64 (pc : Int), .slice a6 (wd.length + 1) c6] 143) := ⟨_, rfl⟩
                have hbb : Below w6.heap.size w6 Wb := by rw [hWb]; exact (Below.refl _ _).alloc (Nat.le_refl _) _
                have hEl8 : EItN Wb [.int .i64 (pa : Int), .int .i64 (pc : Int), .slice a6 (wd.length + 1) c6] ((pa, pc), wd ++ [[r0, r1, r2, r3, r4, r5, r6]]) := ⟨_, rfl, OwX.keep (EI.stab _) ho60 hbb, fun h => by simp at h⟩
                have hc3 : ∀ u ∈ ([.int .i64 (pa : Int), .int .i64 (pc : Int), .slice a6 (wd.length + 1) c6] : List Value), u.oneCell' = true := fun u hu => by
                  simp only [List.mem_cons, List.not_mem_nil, or_false] at hu
                  rcases hu with rfl | rfl | rfl <;> rfl
                have hnxb := OwX.keep (EItN.stab (by decide)) hwt6 hbb
                have hBb : w.heap.size + 1 ≤ Wb.heap.size := by have h1 := hbr6.size; have h2 := hbb.size; have h3 := hs1.out; omega
                have hnews : ∀ j u, ([.int .i64 (pa : Int), .int .i64 (pc : Int), .slice a6 (wd.length + 1) c6] : List Value)[j]? = some u → Wb.cell? ((⟨w6.heap.size, 0, none⟩ : Addr).add j) = some u := by rw [hWb]; exact World.news_of_block (heap_alloc_new w6 _)
                have hQk9 : Qk.length ≤ 1000000000000 := by omega
                clear hg2 ho6 ho6w hin ho60
                go_wp2_with fail
                refine hsn.out.mono ?_
                rintro e w' ⟨rfl, hw'⟩
                replace hw' := hw'.symm
                subst hw'
                go_wp2_with (at_builtin; rw [← hWb]; refine wpList_appX (B := w.heap.size + 1) (cs := [.int .i64 (pa : Int), .int .i64 (pc : Int), .slice a6 (wd.length + 1) c6]) (x := ((pa, pc), wd ++ [[r0, r1, r2, r3, r4, r5, r6]])) elemPr (by decide) (by decide) (EItN.stab (by decide)) rfl _ _ rfl rfl hnxb ⟨w6.heap.size, 0, none⟩ 1 rfl rfl hnews hc3 hEl8 hQk9 hBb ?_)
                intro nv9 w9 hnx9 hg9 hn9 hb9 hX9
                rw [← hWb] at hg9 hn9 hb9 hX9
                obtain ⟨q1, q2⟩ := push_ref hWb hxb6 hnb hg9 hn9
                have hKX9 : KeepX 143 wL w9 := (hKX6.trans (KeepX.below hbb)).trans hX9
                have hbr9 : Below W1.heap.size W1 w9 := (bt hbr6 hbb hbr6.size).trans (by rw [hs1.out]; exact hb9)
                have hsz9 : wL.heap.size ≤ w9.heap.size := by have := hb9.size; have := hbb.size; omega
                have hlen9 : Q.length ≤ (Qk ++ [((pa, pc), wd ++ [[r0, r1, r2, r3, r4, r5, r6]])]).length := by rw [List.length_append]; omega
                have hnx9' : OwX 143 3 EItN w9 (w.heap.size + 1) nv9 (Qk ++ [((pa, pc), wd ++ [[r0, r1, r2, r3, r4, r5, r6]])]).length (Qk ++ [((pa, pc), wd ++ [[r0, r1, r2, r3, r4, r5, r6]])]) := by rw [List.length_append]; exact hnx9
                clear hWb hnx9
                go_wp2_with fail
                go_roundg gg
                case measure => omega
                case rel => exact ⟨k + 1, _, by go_num, by omega, hnx9', q1, q2, hbr9, hKX9, hsz9, hg3, hQB', hlen9⟩
        · obtain rfl : k = LT.length := by omega
          have hg2 := hg.out
          rw [List.drop_eq_nil_of_le (Nat.le_refl _), dIn] at hg2
          have hg3 : Hid (dGo true ss f (b + 1) Qk = some R) := hg2
          clear hg hg2
          go_wp2_with fail
          go_roundg f
          case measure => omega
          case rel => exact ⟨b + 1, Qk, by go_num, by omega, hwt, hbr, hg3, hQB⟩
    · have hRe : some (none : Option (List (List Int))) = some R := by
        have h1 := hg.out
        cases gk with
        | zero => simp [dGo] at h1
        | succ f => rw [dGo, if_neg hlt] at h1; exact h1
      injection hRe with hRe
      subst hRe
      have hbw := bt hb1 hbr hb1.size
      have hge : ¬ ((b : Int) < (Q.length : Int)) := by omega
      clear hg hQB hwt
      go_wp2_with fail
      go_ret2
      exact ⟨_, rfl, OwX.nil _ _, hbw⟩
end Go.Proofs.YtfihpofdoffclaaGreatDoor

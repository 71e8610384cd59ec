/- Texts of this claim, put together: RW L0 J0 J1. -/
import Derived.Test.YtfihpofdoffclaaGreatDoorKp
import Derived.Lib.AppendZeros
import Derived.Test.YtfihpofdoffclaaGreatDoorKk
import Derived.Lib.SliceRun
import Derived.IntWalk
import Derived.Laws.IdiomCopy

/- Regions that draw their order, whose calls make new memory: the walk's goal as a structure, which nothing lays open. -/
namespace Go.Proofs.YtfihpofdoffclaaGreatDoor
open Go.RowKit

structure WQ (P : Program) (ops : Array Oper) (C : World → Prop) (Q : Act → Prop) (l : List Oper) (a : Act) : Prop where
  out : wpQuiet P ops C Q l a
theorem WQ.nil {P : Program} {ops : Array Oper} {C : World → Prop} {Q : Act → Prop} {a : Act} (h : Q a) : WQ P ops C Q [] a := ⟨wpQuiet_nil h⟩
theorem WQ.step {P : Program} {ops : Array Oper} {C : World → Prop} {Q : Act → Prop} {a : Act} {o : Oper} {rest : List Oper}
    (h : ∀ K : Act → Prop, (∀ a, WQ P ops C Q rest a → K a) → if Region.wanted o (yielded ops a.tmps) then o.quiet P a C K else K (a.put o.dst undef)) : WQ P ops C Q (o :: rest) a :=
  ⟨wpQuiet_step fun K hK => h K fun a hq => hK a hq.out⟩
end Go.Proofs.YtfihpofdoffclaaGreatDoor

/- The reference: letters. -/
namespace Go.Proofs.YtfihpofdoffclaaGreatDoor
open Go.RowKit

/-- A slice of structs of k ints, within its capacity. -/
def KSC (k : Nat) (w : World) (v : Value) (xs : List (List Int)) : Prop :=
  ∃ a c b off, v = .slice a xs.length c ∧ (0 < xs.length → a = some ⟨b, off, none⟩) ∧ CK k w b off xs ∧ xs.length ≤ 2199023255552 ∧ xs.length ≤ c
theorem KSC.ks {k : Nat} {w : World} {v : Value} {xs : List (List Int)} (h : KSC k w v xs) : KS k w v xs := by
  obtain ⟨a, c, b, off, h1, h2, h3, h4, _⟩ := h
  exact ⟨a, c, b, off, h1, h2, h3, h4⟩
theorem KSC.keep {k : Nat} {w w' : World} {v : Value} {xs : List (List Int)} (h : KSC k w v xs) (hb : Below w.heap.size w w') : KSC k w' v xs := by
  obtain ⟨a, c, b, off, h1, h2, h3, h4⟩ := h
  exact ⟨a, c, b, off, h1, h2, h3.keep hb, h4⟩
/-- An adversary whose rows are within their capacities. -/
def AdvC (w : World) (v : Value) (n : Int) (ss : List (List (List Int))) : Prop :=
  ∃ a c b off, v = .agg #[.int .i64 n, .slice a ss.length c] ∧ (0 < ss.length → a = some ⟨b, off, none⟩) ∧ (∀ j, j < ss.length → ∃ u, w.cell? ⟨b, off + j, none⟩ = some u ∧ KSC 8 w u (ss.getD j [])) ∧ ss.length ≤ 5864062014805
theorem AdvC.adv {w : World} {v : Value} {n : Int} {ss : List (List (List Int))} (h : AdvC w v n ss) : AdvV w v n ss := by
  obtain ⟨a, c, b, off, h1, h2, h3, h4⟩ := h
  exact ⟨_, h1, a, c, b, off, rfl, h2, fun j hj => let ⟨u, k1, k2⟩ := h3 j hj; ⟨u, k1, k2.ks⟩, h4⟩
theorem AdvC.keep {w w' : World} {v : Value} {n : Int} {ss : List (List (List Int))} (h : AdvC w v n ss) (hb : Below w.heap.size w w') : AdvC w' v n ss := by
  obtain ⟨a, c, b, off, h1, h2, h3, h4⟩ := h
  exact ⟨a, c, b, off, h1, h2, fun j hj => let ⟨u, k1, k2⟩ := h3 j hj; ⟨u, cell_kept hb k1, k2.keep hb⟩, h4⟩
end Go.Proofs.YtfihpofdoffclaaGreatDoor

/- slices.Grow and slices.Concat at rows of moves. -/
namespace Go.Proofs.YtfihpofdoffclaaGreatDoor
open Go.RowKit

theorem umInt64 : Tryz.prog.underlying 3 = some (.int .i64) := by kernel_rfl
set_option maxRecDepth 100000 in
set_option maxHeartbeats 800000 in
theorem growMv {w : World} (n : Nat) (h0 : 0 < n) (hn : n ≤ 1000000) :
    Calls Tryz.prog 125 #[.slice none 0 0, .int .i64 (n : Int)] w fun e w' => ∃ v', e = .returned v' ∧ w'.ownsRow w.heap.size 84 8 v' 0 [] ∧ Below w.heap.size w w' := by
  obtain ⟨i0, hi, hz0, hz1, hz2⟩ := info_parts elemMv.2.1
  have hr := fun ty => Lib.run_append_nil_zeros (P := Tryz.prog) w 82 3 ty 84 i0 _ .i64 .i64 elemMv.1 umInt64 hi hz0 n h0 (by rw [hz1]; decide) (by omega) (by rw [hz2]; omega)
  have hge := grownCap_ge w n 0 84
  have hcm : grownCap w n 0 84 ≤ maxLen := grownCap_le_maxLen w n 0 84 (by unfold maxLen; omega)
  obtain ⟨cap, hcap⟩ : ∃ cap, grownCap w n 0 84 = cap := ⟨_, rfl⟩
  rw [hcap] at hge hcm
  simp only [hcap] at hr
  obtain ⟨W1, hW1⟩ : ∃ W1, W1 = w.drew.alloc (.cells (Builtin.zeroCells (Value.agg #[.int .i64 0, .int .i64 0, .int .i64 0, .int .i64 0, .int .i64 0, .int .i64 0, .int .i64 0, .int .i64 0]).cells n ++ Builtin.zeroCells (Value.agg #[.int .i64 0, .int .i64 0, .int .i64 0, .int .i64 0, .int .i64 0, .int .i64 0, .int .i64 0, .int .i64 0]).cells (cap - n)) 84) := ⟨_, rfl⟩
  have hb : Below w.heap.size w W1 := by rw [hW1]; exact (Below.refl _ w).drew.alloc (Nat.le_refl _) _
  have hown : W1.ownsRow w.heap.size 84 8 (.slice (some ⟨w.heap.size, 0, none⟩) 0 cap) 0 [] := by
    refine ⟨rfl, .inr ⟨w.heap.size, cap, _, rfl, Nat.le_refl _, by rw [hW1]; exact heap_alloc_new w.drew _, Nat.zero_le _, hcm, ?_, by simp⟩⟩
    simp only [Array.size_append, size_zeroCells, elemMv.2.2]
    omega
  simp only [← hW1] at hr
  unfold maxLen at hcm
  have hcm' : (cap : Int) ≤ 9223372036854775807 := by omega
  have hnc : (n : Int) ≤ (cap : Int) := by omega
  have hn1 : decide ((n : Int) < 0) = false := decide_eq_false (by omega)
  have hn2 : decide (0 < (n : Int)) = true := decide_eq_true (by omega)
  replace hown := Lib.hid hown
  replace hb := Lib.hid hb
  clear hW1 hcap hi
  go_enter Tryz.func125, Tryz.ntmps125
  go_wp2_with (at_builtin; refine wpList_plain rfl fun _ hK => Lib.wp_append_run w _ _ 82 3 rfl (.slice none 0 0) (.int .i64 (n : Int)) rfl rfl _ W1 (hr _) (hK _ _ ?_))
  go_wp2
  go_ret
  exact ⟨_, rfl, hown.out, hb.out⟩

/-- A row of moves, cell by cell. -/
def RowMv (w : World) (B : Nat) (v : Value) (n : Nat) (xs : List (List Int)) : Prop := w.ownsRow B 84 8 v n (xs.flatten.map (Value.int .i64))
/-- append of a whole slice of moves. -/
theorem wpList_appMvs {w : World} {ops : Array Oper} {rest : List Oper} {o : Oper} {a : Act} {Q : Exit → Act → World → Prop} (hgd : o.guard = none) (s y : Operand)
    (ho : o.op = .call { callee := .builtin .append, args := #[s, y], argTypes := #[82, 82] }) {B n : Nat} {v : Value} {xs : List (List Int)} (hs : a.eval s = v)
    (hown : RowMv w B v n xs) {ys : List (List Int)} {ya : Addr} {yc : Nat} (hx : a.eval y = .slice (some ya) ys.length yc)
    (hy : KS 8 w (.slice (some ya) ys.length yc) ys) (hy0 : 0 < ys.length) (hn : n + ys.length ≤ 1000000) (hB : B ≤ w.heap.size)
    (h : ∀ v' w', RowMv w' B v' (n + ys.length) (xs ++ ys) → w.grownBy w' v.ownBlock → Below B w w' → wpList Tryz.prog ops Q rest (a.put o.dst v') w') :
    wpList Tryz.prog ops Q (o :: rest) a w := by
  obtain ⟨i0, hi, hz0, hz1, hz2⟩ := info_parts elemMv.2.1
  obtain ⟨a', c', b, off, he, ha, hc, _⟩ := hy
  have hlens := KS.lens hc
  injection he with he1 he2 he3
  have ha' := ha hy0
  rw [← he1] at ha'
  injection ha' with ha'
  subst ha'
  refine wpList_append_own w hgd s y 82 ho B 84 i0 _ 8 64 elemMv.1 hi hz0 hz1 hz2 elemMv.2.2 (by decide) v n _ hs hown ⟨b, off, none⟩ ys.length yc (ys.flatten.map (Value.int .i64)) hx (by rw [List.length_map, flat_len hlens]) ?_ ?_ (by unfold maxLen; omega) (by omega) hB fun v' w' h1 h2 _ => ?_
  · intro j u hj
    rw [Addr.add_lit]
    exact KS.flat hc j u hj
  · intro u hu
    obtain ⟨i, _, rfl⟩ := List.mem_map.1 hu; rfl
  · refine h v' w' (by unfold RowMv; rw [List.flatten_append, List.map_append]; exact h1) h2 ((Below.refl B w).grown h2 hB (fun k hk => (World.ownsRow.lt hown k hk).1))

set_option maxRecDepth 100000 in
set_option maxHeartbeats 1600000 in
theorem concatMv {w : World} {b : Nat} {u1 u2 : Value} {xs ys : List (List Int)} (c0 : w.cell? ⟨b, 0, none⟩ = some u1) (c1 : w.cell? ⟨b, 1, none⟩ = some u2) (h1 : KS 8 w u1 xs) (h2 : KS 8 w u2 ys)
    (hx0 : 0 < xs.length) (hy0 : 0 < ys.length) (hxl : xs.length ≤ 1000) (hyl : ys.length ≤ 1000) :
    Calls Tryz.prog 92 #[.slice (some ⟨b, 0, none⟩) 2 2] w fun e w' => ∃ u, e = .returned u ∧ OwX 84 8 EI w' w.heap.size u (xs.length + ys.length) (xs ++ ys) ∧ Below w.heap.size w w' := by
  have hlx : ∀ x ∈ xs, x.length = 8 := by obtain ⟨_, _, _, _, _, _, hc, _⟩ := h1; exact KS.lens hc
  have hly : ∀ x ∈ ys, x.length = 8 := by obtain ⟨_, _, _, _, _, _, hc, _⟩ := h2; exact KS.lens hc
  have h1' := h1
  have h2' := h2
  obtain ⟨xa, xc, xb, xo, rfl, hxa, _⟩ := h1'
  obtain ⟨ya, yc, yb, yo, rfl, hya, _⟩ := h2'
  obtain rfl := hxa hx0
  obtain rfl := hya hy0
  obtain ⟨N, hN⟩ : ∃ N, xs.length + ys.length = N := ⟨_, rfl⟩
  have HG := growMv (w := w) N (by omega) (by omega)
  have h1h := Lib.hid h1
  have h2h := Lib.hid h2
  have hNi : (xs.length : Int) + (ys.length : Int) = (N : Int) := by omega
  rw [hN]
  replace HG := Lib.hid HG
  have hNh := Lib.hid hN
  have hNih := Lib.hid hNi
  have hlxy := Lib.hid (fun (x : List Int) (hx : x ∈ xs ++ ys) => by
    rcases List.mem_append.1 hx with h | h
    · exact hlx x h
    · exact hly x h)
  clear h1 h2 hN hNi hlx hly
  go_enter Tryz.func92, Tryz.ntmps92
  go_wp2_with fail
  go_loop [3, 11] (fun sv iv => ∃ k sz : Nat, sv = .int .i64 sz ∧ iv = .int .i64 k ∧ (k = 0 ∧ sz = 0 ∨ k = 1 ∧ sz = xs.length ∨ k = 2 ∧ sz = N)) (fun _ iv => 2 - (intOf iv).toNat)
  case atStart => exact ⟨0, 0, rfl, rfl, .inl ⟨rfl, rfl⟩⟩
  case round =>
    obtain ⟨k, sz, rfl, rfl, hk⟩ := hrel
    rcases hk with ⟨rfl, hsz⟩ | ⟨rfl, hsz⟩ | ⟨rfl, hsz⟩ <;> (replace hsz := hsz.symm; subst hsz)
    · have hd : decide ((xs.length : Int) < 0) = false := decide_eq_false (by omega)
      go_wp2
      go_round
      case rel => exact ⟨1, xs.length, by first | rfl | go_num, rfl, .inr (.inl ⟨rfl, rfl⟩)⟩
      case measure => simp [intOf]
    · have hd : decide ((xs.length : Int) + (ys.length : Int) < 0) = false := decide_eq_false (by omega)
      go_wp2
      go_round
      case rel => exact ⟨2, N, by first | rw [hNih.out] | (congr 1; exact hNih.out), rfl, .inr (.inr ⟨rfl, rfl⟩)⟩
      case measure => simp [intOf]
    · go_wp2_with fail
      refine HG.out.mono ?_
      rintro e w1 ⟨v1, rfl, ho1, hb1⟩
      have d0 := cell_kept hb1 c0
      have d1 := cell_kept hb1 c1
      go_wp2_with fail
      go_loopw [6, 27] (fun vv iv wr => ∃ k : Nat, iv = .int .i64 k ∧ Below w.heap.size w wr ∧ (k = 0 ∧ RowMv wr w.heap.size vv 0 [] ∨ k = 1 ∧ RowMv wr w.heap.size vv xs.length xs ∨ k = 2 ∧ RowMv wr w.heap.size vv N (xs ++ ys))) (fun _ iv _ => 2 - (intOf iv).toNat)
      case atStart => exact ⟨0, rfl, hb1, .inl ⟨rfl, ho1⟩⟩
      case round =>
        clear ho1
        obtain ⟨k, rfl, hbr, hk⟩ := hrel
        have e0 := cell_kept hbr c0
        have e1 := cell_kept hbr c1
        rcases hk with ⟨rfl, ho⟩ | ⟨rfl, ho⟩ | ⟨rfl, ho⟩
        · have hbsz := hbr.size
          have hks := h1h.out.keep hbr
          go_wp2_with (at_builtin; refine wpList_appMvs rfl _ _ rfl rfl ho rfl hks hx0 (by omega) hbsz ?_)
          intro v' w2 ho2 _ hb2
          go_wp2
          go_roundw
          case rel => exact ⟨1, rfl, hbr.trans hb2, .inr (.inl ⟨rfl, ho2⟩)⟩
          case measure => simp [intOf]
        · have hbsz := hbr.size
          have hks := h2h.out.keep hbr
          go_wp2_with (at_builtin; refine wpList_appMvs rfl _ _ rfl rfl ho rfl hks hy0 (by omega) hbsz ?_)
          intro v' w2 ho2 _ hb2
          rw [hNh.out] at ho2
          go_wp2
          go_roundw
          case rel => exact ⟨2, rfl, hbr.trans hb2, .inr (.inr ⟨rfl, ho2⟩)⟩
          case measure => simp [intOf]
        · have hfin := Lib.hid (OwX.ofFlat ho hlxy.out (by rw [List.length_append]; exact hNh.out))
          clear ho
          go_wp2
          go_ret
          exact ⟨_, rfl, hfin.out, hbr⟩
end Go.Proofs.YtfihpofdoffclaaGreatDoor

/- slices.Compact at rows of rounds. -/
namespace Go.Proofs.YtfihpofdoffclaaGreatDoor
open Go.RowKit

theorem cmpc_snoc : ∀ {l : List (List Int)} {x y : List Int}, cmpc (l ++ [x] ++ [y]) = if x = y then cmpc (l ++ [x]) else cmpc (l ++ [x]) ++ [y]
  | [], x, y => by
    by_cases h : x = y
    · subst h; simp [cmpc]
    · simp [cmpc, h]
  | [a], x, y => by
    by_cases ha : a = x <;> by_cases h : x = y <;> simp [cmpc, ha, h]
  | a :: b :: l, x, y => by
    have ih := cmpc_snoc (l := b :: l) (x := x) (y := y)
    simp only [List.cons_append] at ih ⊢
    by_cases ha : a = b
    · rw [cmpc, if_pos ha, ih]
      by_cases h : x = y
      · rw [if_pos h, if_pos h, cmpc, if_pos ha]
      · rw [if_neg h, if_neg h, cmpc, if_pos ha]
    · rw [cmpc, if_neg ha, ih]
      by_cases h : x = y
      · rw [if_pos h, if_pos h, cmpc, if_neg ha]
      · rw [if_neg h, if_neg h, cmpc, if_neg ha]; rfl
theorem cmpc_take {xs : List (List Int)} {m : Nat} (h : m + 1 < xs.length) : cmpc (xs.take (m + 2)) = if xs.getD m [] = xs.getD (m + 1) [] then cmpc (xs.take (m + 1)) else cmpc (xs.take (m + 1)) ++ [xs.getD (m + 1) []] := by
  rw [take_snoc h [], take_snoc (show m < xs.length by omega) [], cmpc_snoc]
theorem cmpc_len_le : ∀ l : List (List Int), (cmpc l).length ≤ l.length
  | [] => by simp [cmpc]
  | [x] => by simp [cmpc]
  | x :: y :: r => by
    have := cmpc_len_le (y :: r)
    rw [cmpc]
    split <;> simp at this ⊢ <;> omega

/-- A store of a whole round. -/
theorem OwX.store7 {w : World} {B g n cap : Nat} {xs : List (List Int)} (h : OwX 79 7 EI w B (.slice (some ⟨g, 0, none⟩) n cap) n xs) {j : Nat} (hj : j < n) (y0 y1 y2 y3 y4 y5 y6 : Int) :
    OwX 79 7 EI (((((((w.setCell ⟨g, j * 7, none⟩ (.int .i64 y0)).setCell ⟨g, j * 7 + 1, none⟩ (.int .i64 y1)).setCell ⟨g, j * 7 + 2, none⟩ (.int .i64 y2)).setCell ⟨g, j * 7 + 3, none⟩ (.int .i64 y3)).setCell ⟨g, j * 7 + 4, none⟩ (.int .i64 y4)).setCell ⟨g, j * 7 + 5, none⟩ (.int .i64 y5)).setCell ⟨g, j * 7 + 6, none⟩ (.int .i64 y6)) B (.slice (some ⟨g, 0, none⟩) n cap) n (xs.set j [y0, y1, y2, y3, y4, y5, y6]) := by
  have hl := h.length
  obtain ⟨h7, _⟩ := h.intCells hj
  have h0 := (h.storeI hj (i := 0) (by decide) y0).1
  have h1 := (h0.storeI hj (i := 1) (by decide) y1).1
  have h2 := (h1.storeI hj (i := 2) (by decide) y2).1
  have h3 := (h2.storeI hj (i := 3) (by decide) y3).1
  have h4 := (h3.storeI hj (i := 4) (by decide) y4).1
  have h5 := (h4.storeI hj (i := 5) (by decide) y5).1
  have h6 := (h5.storeI hj (i := 6) (by decide) y6).1
  have hg : ∀ (a : List Int), (xs.set j a).getD j [] = a := fun a => by
    rw [List.getD_eq_getElem?_getD, List.getElem?_set_self (by omega)]; rfl
  simp only [hg, List.set_set] at h6
  obtain ⟨a, b, c, d, e, f, i, hx⟩ := seven h7
  rw [hx] at h6
  exact h6
theorem below7 {w w' : World} {B g : Nat} {a b c d e f i : Nat} {va vb vc vd ve vf vi : Value} (h : Below B w w') (hg : B ≤ g) :
    Below B w (((((((w'.setCell ⟨g, a, none⟩ va).setCell ⟨g, b, none⟩ vb).setCell ⟨g, c, none⟩ vc).setCell ⟨g, d, none⟩ vd).setCell ⟨g, e, none⟩ ve).setCell ⟨g, f, none⟩ vf).setCell ⟨g, i, none⟩ vi) := by
  have h1 := h.setCell (p := ⟨g, a, none⟩) hg va
  have h2 := h1.setCell (p := ⟨g, b, none⟩) hg vb
  have h3 := h2.setCell (p := ⟨g, c, none⟩) hg vc
  have h4 := h3.setCell (p := ⟨g, d, none⟩) hg vd
  have h5 := h4.setCell (p := ⟨g, e, none⟩) hg ve
  have h6 := h5.setCell (p := ⟨g, f, none⟩) hg vf
  exact h6.setCell (p := ⟨g, i, none⟩) hg vi
theorem OwX.keep7 {w : World} {B g n cap : Nat} {xs : List (List Int)} (h : OwX 79 7 EI w B (.slice (some ⟨g, 0, none⟩) n cap) n xs) (j : Nat) (y0 y1 y2 y3 y4 y5 y6 : Int) :
    KeepX 79 w (((((((w.setCell ⟨g, j * 7, none⟩ (.int .i64 y0)).setCell ⟨g, j * 7 + 1, none⟩ (.int .i64 y1)).setCell ⟨g, j * 7 + 2, none⟩ (.int .i64 y2)).setCell ⟨g, j * 7 + 3, none⟩ (.int .i64 y3)).setCell ⟨g, j * 7 + 4, none⟩ (.int .i64 y4)).setCell ⟨g, j * 7 + 5, none⟩ (.int .i64 y5)).setCell ⟨g, j * 7 + 6, none⟩ (.int .i64 y6)) := by
  obtain ⟨_, h1, _⟩ := h
  obtain ⟨cs', g0⟩ := ownsRow_ty h1 g rfl
  have k0 := KeepX.setCell (p := ⟨g, j * 7, none⟩) g0 (.int .i64 y0)
  have g1 := heap_setCell_same _ g (j * 7) _ _ (.int .i64 y0) g0
  have k1 := KeepX.setCell (p := ⟨g, j * 7 + 1, none⟩) g1 (.int .i64 y1)
  have g2 := heap_setCell_same _ g (j * 7 + 1) _ _ (.int .i64 y1) g1
  have k2 := KeepX.setCell (p := ⟨g, j * 7 + 2, none⟩) g2 (.int .i64 y2)
  have g3 := heap_setCell_same _ g (j * 7 + 2) _ _ (.int .i64 y2) g2
  have k3 := KeepX.setCell (p := ⟨g, j * 7 + 3, none⟩) g3 (.int .i64 y3)
  have g4 := heap_setCell_same _ g (j * 7 + 3) _ _ (.int .i64 y3) g3
  have k4 := KeepX.setCell (p := ⟨g, j * 7 + 4, none⟩) g4 (.int .i64 y4)
  have g5 := heap_setCell_same _ g (j * 7 + 4) _ _ (.int .i64 y4) g4
  have k5 := KeepX.setCell (p := ⟨g, j * 7 + 5, none⟩) g5 (.int .i64 y5)
  have g6 := heap_setCell_same _ g (j * 7 + 5) _ _ (.int .i64 y5) g5
  have k6 := KeepX.setCell (p := ⟨g, j * 7 + 6, none⟩) g6 (.int .i64 y6)
  exact (((((k0.trans k1).trans k2).trans k3).trans k4).trans k5).trans k6
theorem heap_setCell_other {w : World} {p : Addr} {v : Value} {k : Nat} (h : k ≠ p.block) : (w.setCell p v).heap[k]? = w.heap[k]? := Below.heap_setCell w p v k h
theorem setCells_row {b : Nat} {E : TypeId} : ∀ (vs : List Value) (o : Nat) (w : World) (cur : Array Value), w.heap[b]? = some (.cells cur E) →
    ∃ cur', (w.setCells b o vs).heap[b]? = some (.cells cur' E) ∧ cur'.size = cur.size ∧ cur'.toList.take o = cur.toList.take o ∧ (∀ k, k ≠ b → (w.setCells b o vs).heap[k]? = w.heap[k]?) ∧
      (w.setCells b o vs).heap.size = w.heap.size ∧ (w.setCells b o vs).os = w.os ∧ (w.setCells b o vs).tape = w.tape ∧ (w.setCells b o vs).output = w.output
  | [], o, w, cur, h => ⟨cur, h, rfl, rfl, fun _ _ => rfl, rfl, rfl, rfl, rfl⟩
  | v :: vs, o, w, cur, h => by
    have h1 := heap_setCell_same w b o cur E v h
    obtain ⟨cur', k1, k2, k3, k4, k5, k6, k7, k8⟩ := setCells_row vs (o + 1) (w.setCell ⟨b, o, none⟩ v) _ h1
    refine ⟨cur', k1, by rw [k2]; simp, ?_, fun k hk => (k4 k hk).trans (heap_setCell_other hk), k5.trans (by simp [World.setCell]), k6, k7, k8⟩
    have := congrArg (List.take o) k3
    rw [List.take_take, List.take_take, Nat.min_eq_left (Nat.le_succ o)] at this
    rw [this, Array.toList_setIfInBounds, List.take_set, List.set_eq_of_length_le (by rw [List.length_take]; exact Nat.min_le_left _ _)]
/-- The head of a row, when its tail is set to something else. -/
theorem OwX.setTail {w : World} {B g n cap m : Nat} {xs : List (List Int)} (h : OwX 79 7 EI w B (.slice (some ⟨g, 0, none⟩) n cap) n xs) (hm : m ≤ n) (vs : List Value) :
    OwX 79 7 EI (w.setCells g (m * 7) vs) B (.slice (some ⟨g, 0, none⟩) m cap) m (xs.take m) ∧ Below B w (w.setCells g (m * 7) vs) ∧ KeepX 79 w (w.setCells g (m * 7) vs) := by
  have hl := h.length
  obtain ⟨ws, h1, h2, h3, h4⟩ := h
  rcases h1.2 with ⟨h0, _⟩ | ⟨g', cap', cur, he, hB, hg, hc1, hc2, hc3, hc4⟩
  · cases h0
  · injection he with he1 he2 he3
    injection he1 with he1
    injection he1 with he1
    subst he1 he3
    obtain ⟨cur', k1, k2, k3, k4, k5, k6, k7, k8⟩ := setCells_row vs (m * 7) w cur hg
    have hmn : m * 7 ≤ n * 7 := Nat.mul_le_mul_right _ hm
    have hwl : ws.length = n * 7 := h1.1
    have hws : cur'.toList.take (m * 7) = ws.take (m * 7) := by
      rw [k3, ← hc4, List.take_take, Nat.min_eq_left hmn]
    refine ⟨⟨ws.take (m * 7), ⟨by rw [List.length_take]; omega, .inr ⟨g, cap, cur', rfl, hB, k1, by omega, hc2, by rw [k2]; exact hc3, hws⟩⟩, by rw [List.length_take]; omega, fun u hu => h3 u (List.mem_of_mem_take hu), fun j x hj => ?_⟩, ⟨k6, k7, k8, by rw [k5]; exact Nat.le_refl _, fun k hk => k4 k (by omega)⟩, fun k cs t hk ht => k4 k fun e => ?_⟩
    · rw [List.getElem?_take] at hj
      split at hj
      · rename_i hjm
        have := h4 j x hj
        have hjm7 : j * 7 + 7 ≤ m * 7 := by rw [← Nat.succ_mul]; exact Nat.mul_le_mul_right _ hjm
        show _ = _
        rw [List.drop_take, List.take_take, Nat.min_eq_left (by omega)]
        exact this
      · cases hj
    · subst e
      rw [hg] at hk
      injection hk with hk
      injection hk with _ hk
      exact ht hk.symm
theorem run_clear_rds (w : World) (ty : TypeId) (b o m c : Nat) (hm : 0 < m) (hc : ∀ j, j < m * 7 → (w.cell? ⟨b, o + j, none⟩).isSome = true) (hf : ∀ j, j < m * 7 → w.frozen? ⟨b, o + j, none⟩ = false) :
    (Builtin.clear_ #[45] ty #[.slice (some ⟨b, o, none⟩) m c]).run Tryz.prog w = .ok (.tuple #[]) (w.setCells b o (Builtin.zeroCells (Value.agg #[.int .i64 0, .int .i64 0, .int .i64 0, .int .i64 0, .int .i64 0, .int .i64 0, .int .i64 0]).cells m).toList) := by
  have hzv : ∀ w, (zeroValue 79).run Tryz.prog w = .ok (Value.agg #[.int .i64 0, .int .i64 0, .int .i64 0, .int .i64 0, .int .i64 0, .int .i64 0, .int .i64 0]) w := fun w => by kernel_rfl
  have hcl : (Value.agg #[.int .i64 0, .int .i64 0, .int .i64 0, .int .i64 0, .int .i64 0, .int .i64 0, .int .i64 0]).cells = #[.int .i64 0, .int .i64 0, .int .i64 0, .int .i64 0, .int .i64 0, .int .i64 0, .int .i64 0] := by rfl
  have hsz : (Builtin.zeroCells (Value.agg #[.int .i64 0, .int .i64 0, .int .i64 0, .int .i64 0, .int .i64 0, .int .i64 0, .int .i64 0]).cells m).toList.length = m * 7 := by
    rw [Array.length_toList, size_zeroCells, hcl]; rfl
  have hone : ∀ v ∈ (Builtin.zeroCells (Value.agg #[.int .i64 0, .int .i64 0, .int .i64 0, .int .i64 0, .int .i64 0, .int .i64 0, .int .i64 0]).cells m).toList, v.oneCell' = true := by
    intro v hv
    rw [hcl] at hv
    simp only [Builtin.zeroCells, Array.toList_map, List.mem_map] at hv
    obtain ⟨i, _, rfl⟩ := hv
    have hi : i % 7 < 7 := Nat.mod_lt _ (by decide)
    have : ∀ k, k < 7 → ((#[.int .i64 0, .int .i64 0, .int .i64 0, .int .i64 0, .int .i64 0, .int .i64 0, .int .i64 0] : Array Value)[k]!).oneCell' = true := by
      intro k hk
      match k, hk with
      | 0, _ => rfl
      | 1, _ => rfl
      | 2, _ => rfl
      | 3, _ => rfl
      | 4, _ => rfl
      | 5, _ => rfl
      | 6, _ => rfl
    exact this _ hi
  have hst := run_storeCells_cells (P := Tryz.prog) b o _ 0 w (by rw [hsz]; simpa using hc) (by rw [hsz]; simpa using hf) hone
  simp only [Nat.add_zero] at hst
  obtain ⟨k, rfl⟩ : ∃ k, m = k + 1 := ⟨m - 1, by omega⟩
  simp [Builtin.clear_, run_underlying elemRd.1, hzv, hst]

/-- A step of the second loop. -/
theorem compact_put {xs cs : List (List Int)} {m kk : Nat} {x : List Int} (hcl : cs.length = xs.length) (hk : kk < m) (hm : m < xs.length) (h1 : cs.take kk = cmpc (xs.take m)) (h2 : ∀ j, kk ≤ j → cs.getD j [] = xs.getD j []) (hx : xs.getD m [] = x) (hne : ¬ xs.getD (m - 1) [] = x) :
    (cs.set kk x).take (kk + 1) = cmpc (xs.take (m + 1)) ∧ ∀ j, kk + 1 ≤ j → (cs.set kk x).getD j [] = xs.getD j [] := by
  obtain ⟨p, rfl⟩ : ∃ p, m = p + 1 := ⟨m - 1, by omega⟩
  refine ⟨?_, fun j hj => ?_⟩
  · rw [cmpc_take hm, if_neg (by rw [hx]; exact hne), ← h1, hx, List.take_set, take_snoc (show kk < cs.length by omega) [], List.set_append_right _ _ (by rw [List.length_take]; exact Nat.min_le_left _ _), List.length_take, Nat.min_eq_left (by omega), Nat.sub_self]; rfl
  · rw [List.getD_eq_getElem?_getD, List.getElem?_set_ne (by omega), ← List.getD_eq_getElem?_getD]; exact h2 j (by omega)
set_option maxRecDepth 100000 in
set_option maxHeartbeats 3200000 in
theorem compactRd {w : World} {B g n cap : Nat} {xs : List (List Int)} (h : OwX 79 7 EI w B (.slice (some ⟨g, 0, none⟩) n cap) n xs) (hn : n ≤ 1000) :
    Calls Tryz.prog 95 #[.slice (some ⟨g, 0, none⟩) n cap] w fun e w' => ∃ m, e = .returned (.slice (some ⟨g, 0, none⟩) m cap) ∧ OwX 79 7 EI w' B (.slice (some ⟨g, 0, none⟩) m cap) m (cmpc xs) ∧ Below B w w' ∧ KeepX 79 w w' := by
  have hl := h.length
  have hB : B ≤ g := by
    obtain ⟨_, h1, _⟩ := h
    exact (World.ownsRow.lt h1 g rfl).1
  have hnc : n ≤ cap ∧ (cap : Int) ≤ 9223372036854775807 := by
    obtain ⟨_, h1, _⟩ := h
    rcases h1.2 with ⟨h0, _⟩ | ⟨g', cap', cur, he, _, _, hc1, hc2, _⟩
    · cases h0
    · injection he with _ _ he3
      subst he3
      unfold maxLen at hc2
      exact ⟨hc1, by omega⟩
  obtain ⟨hnc1, hnc2⟩ := hnc
  have hxl : ∀ j, j < n → (xs.getD j []).length = 7 := fun j hj => (h.intCells hj).1
  have hcells := Lib.hid (fun j (hj : j < n) => OwX.intCells h hj)
  have hh := Lib.hid h
  have hlh := Lib.hid hl
  have hxlh := Lib.hid hxl
  clear h hl hxl
  have hfin0 : Hid (∀ q, cmpc (xs.take n) = xs.take n → OwX 79 7 EI (w.drewN q) B (.slice (some ⟨g, 0, none⟩) n cap) n (cmpc xs)) := fun q hq => by
    rw [List.take_of_length_le (by rw [hlh.out]; exact Nat.le_refl _)] at hq
    rw [hq]
    exact hh.out.keep (EI.stab _) (below_drewN (Below.refl _ w) q)
  have hBw : Hid (∀ q, Below B w (w.drewN q) ∧ KeepX 79 w (w.drewN q)) := fun q => ⟨below_drewN (Below.refl _ w) q, KeepX.below (below_drewN (Below.refl _ w) q)⟩
  by_cases h2 : n < 2
  · have hall : Hid (cmpc (xs.take n) = xs.take n) := by
      show _ = _
      have : n = 0 ∨ n = 1 := by omega
      rcases this with rfl | rfl
      · simp [cmpc]
      · match xs, hlh.out with
        | [x], _ => simp [cmpc]
    have hd : decide ((n : Int) < 2) = true := decide_eq_true (by omega)
    go_enter Tryz.func95, Tryz.ntmps95
    go_wp2
    go_ret
    exact ⟨n, rfl, hfin0.out 0 hall.out, (hBw.out 0).1, (hBw.out 0).2⟩
  · have hd : decide ((n : Int) < 2) = false := decide_eq_false (by omega)
    have h1 : Hid (cmpc (xs.take (0 + 1)) = xs.take (0 + 1)) := by
      show _ = _
      match xs, hlh.out with
      | x :: r, _ => simp [cmpc]
      | [], h => simp at h; omega
    go_enter Tryz.func95, Tryz.ntmps95
    go_wp2_with fail
    go_loopg [3] n (fun f kv wr => ∃ p q : Nat, kv = .int .i64 ((p : Int) + 1) ∧ p + 1 ≤ n ∧ n ≤ p + 1 + f ∧ wr = w.drewN q ∧ Hid (cmpc (xs.take (p + 1)) = xs.take (p + 1)))
    case atStart => exact ⟨0, 0, rfl, by omega, by omega, rfl, h1⟩
    case round =>
      clear h1
      obtain ⟨p, q, rfl, hp, hpf, rfl, hc⟩ := hrel
      by_cases hlt : p + 1 < n
      · obtain ⟨f, rfl⟩ : ∃ f, gk = f + 1 := ⟨gk - 1, by omega⟩
        obtain ⟨hx7, hxc⟩ := hcells.out (p + 1) hlt
        obtain ⟨hy7, hyc⟩ := hcells.out p (by omega)
        obtain ⟨x, hx⟩ : ∃ x, xs.getD (p + 1) [] = x := ⟨_, rfl⟩
        obtain ⟨y, hy⟩ : ∃ y, xs.getD p [] = y := ⟨_, rfl⟩
        have htk := cmpc_take (xs := xs) (m := p) (by rw [hlh.out]; exact hlt)
        rw [hx, hy] at htk
        rw [hx] at hx7 hxc
        rw [hy] at hy7 hyc
        obtain ⟨x0, x1, x2, x3, x4, x5, x6, rfl⟩ := seven hx7
        obtain ⟨y0, y1, y2, y3, y4, y5, y6, rfl⟩ := seven hy7
        obtain ⟨c0, c1, c2, c3, c4, c5, c6⟩ := hxc.all7
        obtain ⟨d0, d1, d2, d3, d4, d5, d6⟩ := hyc.all7
        have hix1 : (p : Int) + 1 < (n : Int) := by omega
        have hix0 : (0 : Int) ≤ (p : Int) := by omega
        have hix2 : (0 : Int) ≤ (p : Int) + 1 := by omega
        have hix3 : (p : Int) < (n : Int) := by omega
        have hwr : IntKind.i64.wrap ((p : Int) + 1 - 1) = (p : Int) := by rw [show (p : Int) + 1 - 1 = (p : Int) by omega]; exact IntWalk.i64_in _ (by omega)
        have htn : ((p : Int) + 1).toNat = p + 1 := by omega
        have hty := hy
        have hxt := hx
        clear hxc hyc hx7 hy7 hx hy
        by_cases he : [x0, x1, x2, x3, x4, x5, x6] = [y0, y1, y2, y3, y4, y5, y6]
        · have hE : eqL [x0, x1, x2, x3, x4, x5, x6] [y0, y1, y2, y3, y4, y5, y6] = true := eqL_true.2 he
          rw [if_pos he.symm, hc.out] at htk
          have htk := Lib.hid htk
          replace hty := Lib.hid hty
          clear he hc hxt
          go_wp2_with fail
          go_quiet (fail)
          go_wp2_with fail
          obtain ⟨N2, hN2⟩ : ∃ N2, n - (p + 1) = N2 := ⟨_, rfl⟩
          obtain ⟨C2, hC2⟩ : ∃ C2, cap - (p + 1) = C2 := ⟨_, rfl⟩
          rw [hN2, hC2]
          have hnN : n = p + 1 + N2 := by omega
          replace hC2 := Lib.hid hC2
          replace hN2 := Lib.hid hN2
          have hnNh := Lib.hid hnN
          have hN2i : (1 : Int) ≤ (N2 : Int) := by omega
          have hs0 : Hid (xs.take (p + 1) = cmpc (xs.take (p + 1 + (0 + 1)))) := htk.out.symm
          have hO0 : OwX 79 7 EI (w.drewN (q + nq)) B (.slice (some ⟨g, 0, none⟩) n cap) n xs := hh.out
          have hb0 : Below B w (w.drewN (q + nq)) := below_drewN (Below.refl _ w) _
          have hk0 : KeepX 79 w (w.drewN (q + nq)) := KeepX.below (below_drewN (Below.refl _ w) _)
          have hk0h := Lib.hid hk0
          have hsame : Hid (∀ j, p + 1 ≤ j → xs.getD j [] = xs.getD j []) := fun _ _ => rfl
          clear hnN c0 c1 c2 c3 c4 c5 c6 d0 d1 d2 d3 d4 d5 d6 hE hix1 hix2 htn hwr hk0
          go_loopg [3, 5] N2 (fun f kv rv wr => ∃ (kk r : Nat) (cs : List (List Int)), kv = .int .i64 ((kk : Nat) : Int) ∧ rv = .int .i64 ((r : Int) + 1) ∧ r + 1 ≤ N2 ∧ N2 ≤ r + 1 + f ∧ kk < p + 1 + (r + 1) ∧ OwX 79 7 EI wr B (.slice (some ⟨g, 0, none⟩) n cap) n cs ∧ Hid (cs.take kk = cmpc (xs.take (p + 1 + (r + 1)))) ∧ Hid (∀ j, kk ≤ j → cs.getD j [] = xs.getD j []) ∧ Below B w wr ∧ Hid (KeepX 79 w wr))
          case atStart => exact ⟨p + 1, 0, xs, by go_num, rfl, by omega, by omega, by omega, hO0, hs0, hsame, hb0, hk0h⟩
          case round =>
            clear hO0 hs0 hsame hb0 hk0h
            obtain ⟨kk, r, cs, rfl, rfl, hr, hrf, hkk, hO, htkk, hsm, hbw, hkx⟩ := hrel
            have hcl := hO.length
            have hOh := Lib.hid hO
            have hnn := hnNh.out
            by_cases hltr : r + 1 < N2
            · obtain ⟨f, rfl⟩ : ∃ f, gk = f + 1 := ⟨gk - 1, by omega⟩
              obtain ⟨hx7, hxc⟩ := hO.intCells (j := p + 1 + (r + 1)) (by omega)
              obtain ⟨hy7, hyc⟩ := hO.intCells (j := p + 1 + r) (by omega)
              obtain ⟨hz7, hzc⟩ := hO.intCells (j := kk) (by omega)
              rw [hsm.out _ (by omega)] at hx7 hxc
              rw [hsm.out _ (by omega)] at hy7 hyc
              rw [Nat.add_mul (p + 1) (r + 1)] at hxc
              rw [Nat.add_mul (p + 1) r] at hyc
              obtain ⟨x, hx⟩ : ∃ x, xs.getD (p + 1 + (r + 1)) [] = x := ⟨_, rfl⟩
              obtain ⟨y, hy⟩ : ∃ y, xs.getD (p + 1 + r) [] = y := ⟨_, rfl⟩
              obtain ⟨z, hz⟩ : ∃ z, cs.getD kk [] = z := ⟨_, rfl⟩
              have htt := cmpc_take (xs := xs) (m := p + 1 + r) (by rw [hlh.out]; omega)
              have hput := compact_put (xs := xs) (cs := cs) (m := p + 1 + (r + 1)) (kk := kk) (x := x) (by rw [hcl, hlh.out]) hkk (by rw [hlh.out]; omega) htkk.out hsm.out hx
              rw [show p + 1 + r + 1 = p + 1 + (r + 1) by omega, hx, hy] at htt
              rw [show p + 1 + (r + 1) - 1 = p + 1 + r by omega, hy] at hput
              rw [hx] at hx7 hxc
              rw [hy] at hy7 hyc
              rw [hz] at hz7 hzc
              obtain ⟨x0, x1, x2, x3, x4, x5, x6, rfl⟩ := seven hx7
              obtain ⟨y0, y1, y2, y3, y4, y5, y6, rfl⟩ := seven hy7
              obtain ⟨z0, z1, z2, z3, z4, z5, z6, rfl⟩ := seven hz7
              obtain ⟨c0, c1, c2, c3, c4, c5, c6⟩ := hxc.all7
              obtain ⟨d0, d1, d2, d3, d4, d5, d6⟩ := hyc.all7
              obtain ⟨e0, e1, e2, e3, e4, e5, e6⟩ := hzc.all7
              have hi1 : (r : Int) + 1 < (N2 : Int) := by omega
              have hi2 : (0 : Int) ≤ (r : Int) + 1 := by omega
              have hi3 : (0 : Int) ≤ (r : Int) := by omega
              have hi4 : (r : Int) < (N2 : Int) := by omega
              have hi5 : (kk : Int) < (n : Int) := by omega
              have hN2b : (N2 : Int) ≤ 1000 := by omega
              have hkkb : (kk : Int) ≤ 1000 := by omega
              have htn : ((r : Int) + 1).toNat = r + 1 := by omega
              have hwr : IntKind.i64.wrap ((r : Int) + 1 - 1) = (r : Int) := by rw [show (r : Int) + 1 - 1 = (r : Int) by omega]; exact IntWalk.i64_in _ (by omega)
              have hwr2 : IntKind.i64.wrap (r : Int) = (r : Int) := IntWalk.i64_in _ (by omega)
              clear hxc hyc hzc hx7 hy7 hz7 hx hy hz hO
              by_cases he : [x0, x1, x2, x3, x4, x5, x6] = [y0, y1, y2, y3, y4, y5, y6]
              · have hE : eqL [x0, x1, x2, x3, x4, x5, x6] [y0, y1, y2, y3, y4, y5, y6] = true := eqL_true.2 he
                rw [if_pos he.symm] at htt
                have htt2 : Hid (cs.take kk = cmpc (xs.take (p + 1 + (r + 1 + 1)))) := htkk.out.trans htt.symm
                clear he htt hput
                replace hnn := Lib.hid hnn
                replace hcl := Lib.hid hcl
                go_wp2_with fail
                go_quiet (fail)
                clear hwr hwr2 htn
                go_wp2_with fail
                go_roundg f
                case measure => omega
                case rel => exact ⟨kk, r + 1, cs, rfl, by go_num, by omega, by omega, by omega, hOh.out, htt2, hsm, below_drewN hbw _, hkx.out.trans (KeepX.below (below_drewN (Below.refl _ _) _))⟩
              · have hE : eqL [x0, x1, x2, x3, x4, x5, x6] [y0, y1, y2, y3, y4, y5, y6] = false := eqL_false.2 he
                obtain ⟨hp1, hp2⟩ := hput (fun h => he h.symm)
                have hp1h := Lib.hid hp1
                have hp2h := Lib.hid hp2
                have hst : Hid (∀ d, OwX 79 7 EI ((((((((wr.drewN d).setCell ⟨g, kk * 7, none⟩ (.int .i64 x0)).setCell ⟨g, kk * 7 + 1, none⟩ (.int .i64 x1)).setCell ⟨g, kk * 7 + 2, none⟩ (.int .i64 x2)).setCell ⟨g, kk * 7 + 3, none⟩ (.int .i64 x3)).setCell ⟨g, kk * 7 + 4, none⟩ (.int .i64 x4)).setCell ⟨g, kk * 7 + 5, none⟩ (.int .i64 x5)).setCell ⟨g, kk * 7 + 6, none⟩ (.int .i64 x6)) B (.slice (some ⟨g, 0, none⟩) n cap) n (cs.set kk [x0, x1, x2, x3, x4, x5, x6])) := fun d => OwX.store7 (OwX.keep (EI.stab _) hOh.out (below_drewN (Below.refl _ _) d)) (by omega) x0 x1 x2 x3 x4 x5 x6
                have hst3 : Hid (∀ d, Below B w ((((((((wr.drewN d).setCell ⟨g, kk * 7, none⟩ (.int .i64 x0)).setCell ⟨g, kk * 7 + 1, none⟩ (.int .i64 x1)).setCell ⟨g, kk * 7 + 2, none⟩ (.int .i64 x2)).setCell ⟨g, kk * 7 + 3, none⟩ (.int .i64 x3)).setCell ⟨g, kk * 7 + 4, none⟩ (.int .i64 x4)).setCell ⟨g, kk * 7 + 5, none⟩ (.int .i64 x5)).setCell ⟨g, kk * 7 + 6, none⟩ (.int .i64 x6))) := fun d => below7 (below_drewN hbw d) hB
                have hst2 : Hid (∀ d, KeepX 79 w ((((((((wr.drewN d).setCell ⟨g, kk * 7, none⟩ (.int .i64 x0)).setCell ⟨g, kk * 7 + 1, none⟩ (.int .i64 x1)).setCell ⟨g, kk * 7 + 2, none⟩ (.int .i64 x2)).setCell ⟨g, kk * 7 + 3, none⟩ (.int .i64 x3)).setCell ⟨g, kk * 7 + 4, none⟩ (.int .i64 x4)).setCell ⟨g, kk * 7 + 5, none⟩ (.int .i64 x5)).setCell ⟨g, kk * 7 + 6, none⟩ (.int .i64 x6))) := fun d => (hkx.out.trans (KeepX.below (below_drewN (Below.refl _ _) d))).trans (OwX.keep7 (OwX.keep (EI.stab _) hOh.out (below_drewN (Below.refl _ _) d)) kk x0 x1 x2 x3 x4 x5 x6)
                have hfz : ∀ j, wr.frozen? ⟨g, j, none⟩ = false := fun j => hOh.out.frozen j
                have f0 := hfz (kk * 7)
                have f1 := hfz (kk * 7 + 1)
                have f2 := hfz (kk * 7 + 2)
                have f3 := hfz (kk * 7 + 3)
                have f4 := hfz (kk * 7 + 4)
                have f5 := hfz (kk * 7 + 5)
                have f6 := hfz (kk * 7 + 6)
                clear he htt hput hp1 hp2 hfz
                replace hnn := Lib.hid hnn
                replace hcl := Lib.hid hcl
                go_wp2_with fail
                go_quiet (fail)
                clear hwr hwr2 htn
                go_wp2_with fail
                go_roundg f
                case measure => omega
                case rel => exact ⟨kk + 1, r + 1, cs.set kk [x0, x1, x2, x3, x4, x5, x6], by go_num, by go_num, by omega, by omega, by omega, hst.out _, hp1h, hp2h, hst3.out _, hst2.out _⟩
            · have hrN : r + 1 = N2 := by omega
              have hfz : ∀ j, wr.frozen? ⟨g, j, none⟩ = false := fun j => hO.frozen j
              have hcs : ∀ j, j < (n - kk) * 7 → (wr.cell? ⟨g, kk * 7 + j, none⟩).isSome = true := fun j hj => by
                have hq : kk + j / 7 < n := by
                  have : j / 7 < n - kk := by rw [Nat.div_lt_iff_lt_mul (by decide)]; exact hj
                  omega
                obtain ⟨k7, kc⟩ := hO.intCells hq
                have hm : j % 7 < 7 := Nat.mod_lt _ (by decide)
                have h1 := kc (j % 7) (by rw [k7]; exact hm)
                rw [show (kk + j / 7) * 7 + j % 7 = kk * 7 + j by rw [Nat.add_mul, Nat.add_assoc, Nat.mul_comm (j / 7) 7, Nat.div_add_mod]] at h1
                rw [h1]; rfl
              have hcl7 := fun ty => run_clear_rds wr ty g (kk * 7) (n - kk) (cap - kk) (by omega) hcs (fun j _ => hfz _)
              obtain ⟨Z, hZ⟩ : ∃ Z, (Builtin.zeroCells (Value.agg #[.int .i64 0, .int .i64 0, .int .i64 0, .int .i64 0, .int .i64 0, .int .i64 0, .int .i64 0]).cells (n - kk)).toList = Z := ⟨_, rfl⟩
              simp only [hZ] at hcl7
              obtain ⟨t1, t2, t3⟩ := hO.setTail (m := kk) (by omega) Z
              rw [htkk.out, List.take_of_length_le (by rw [hlh.out]; omega)] at t1
              obtain ⟨W2, hW2⟩ : ∃ W2, wr.setCells g (kk * 7) Z = W2 := ⟨_, rfl⟩
              rw [hW2] at t1 t2 t3
              simp only [hW2] at hcl7
              have hfin := Lib.hid t1
              have hkf := Lib.hid (hkx.out.trans t3)
              have hbf := hbw.trans t2
              have hk1 : (kk : Int) ≤ (n : Int) := by omega
              have hkn : kk < n := by omega
              have hkc : kk < cap := by omega
              have hk2 : (kk : Int) ≤ (cap : Int) := by omega
              have hge : decide ((r : Int) + 1 < (N2 : Int)) = false := decide_eq_false (by omega)
              clear t1 t2 t3 hO hOh hfz hcs hZ hW2 htkk hkx hsm
              replace hnn := Lib.hid hnn
              replace hcl := Lib.hid hcl
              replace hrN := Lib.hid hrN
              go_wp2
              go_ret
              exact ⟨kk, rfl, hfin.out, hbf, hkf.out⟩
        · have hE : eqL [x0, x1, x2, x3, x4, x5, x6] [y0, y1, y2, y3, y4, y5, y6] = false := eqL_false.2 he
          rw [if_neg (fun h => he h.symm), hc.out] at htk
          have htk2 : Hid (cmpc (xs.take (p + 1 + 1)) = xs.take (p + 1 + 1)) := by show _ = _; rw [htk, ← hxt]; exact (take_snoc (by rw [hlh.out]; exact hlt) []).symm
          clear he hc hty htk hxt
          go_wp2_with fail
          go_quiet (fail)
          go_wp2_with fail
          go_roundg f
          case measure => omega
          case rel => exact ⟨p + 1, _, by go_num, by omega, by omega, (by first | exact rfl | exact World.drewN_drewN _ _ _), htk2⟩
      · obtain rfl : n = p + 1 := by omega
        have hfin := Lib.hid (hfin0.out q hc.out)
        obtain ⟨b1, b2⟩ := hBw.out q
        have b2h := Lib.hid b2
        clear hc b2
        go_wp2_with fail
        go_ret
        exact ⟨p + 1, by first | rfl | (congr 2; done), hfin.out, b1, b2h.out⟩
end Go.Proofs.YtfihpofdoffclaaGreatDoor

/- Texts of this claim, put together: JC JD JE. -/
import Derived.Test.YtiiiegflobihjaaGreatKAWn
import Derived.Test.YtiiiegflobihjaaGreatKAWze
import Derived.Test.YtiiiegflobihjaaGreatKAWzi
import Derived.Test.YtiiiegflobihjaaGreatKAWv
import Derived.Test.YtiiiegflobihjaaGreatKAWt

/- slices.Grow and slices.Concat at rows of words. -/
namespace Go.Proofs.YtiiiegflobihjaaGreat
open Go.RowKit

/-- What the slices of rounds hold. -/
def WC (w : World) (vs : List Value) (us : List (List (List Int))) : Prop := vs.length = us.length ∧ ∀ (j : Nat) (v : Value) (u : List (List Int)), vs[j]? = some v → us[j]? = some u → KS 7 w v u
theorem WC.app {w : World} {vs vt : List Value} {us ut : List (List (List Int))} (h : WC w vs us) (g : WC w vt ut) : WC w (vs ++ vt) (us ++ ut) := by
  refine ⟨by rw [List.length_append, List.length_append, h.1, g.1], fun j v u hv hu => ?_⟩
  by_cases hj : j < vs.length
  · rw [List.getElem?_append_left hj] at hv
    rw [List.getElem?_append_left (by rw [← h.1]; exact hj)] at hu
    exact h.2 j v u hv hu
  · rw [List.getElem?_append_right (by omega)] at hv
    rw [List.getElem?_append_right (by rw [← h.1]; omega), ← h.1] at hu
    exact g.2 _ v u hv hu
theorem KS.oneCell {k : Nat} {w : World} {v : Value} {xs : List (List Int)} (h : KS k w v xs) : v.oneCell' = true := by obtain ⟨_, _, _, _, rfl, _⟩ := h; rfl
theorem kss_vals {w : World} {a : Option Addr} {c : Nat} {xs : List (List (List Int))} (h : KSS 7 w (.slice a xs.length c) xs) (h0 : 0 < xs.length) :
    ∃ b off vs, a = some ⟨b, off, none⟩ ∧ vs.length = xs.length ∧ (∀ (j : Nat) (u : Value), vs[j]? = some u → w.cell? ⟨b, off + j, none⟩ = some u) ∧ WC w vs xs ∧ ∀ u ∈ vs, u.oneCell' = true := by
  obtain ⟨a', c', b, off, hv, ha, hc, _⟩ := h
  injection hv with hv1 hv2 hv3
  have hl : ((List.range xs.length).map fun j => (w.cell? ⟨b, off + j, none⟩).getD (.slice none 0 0)).length = xs.length := by rw [List.length_map, List.length_range]
  have hg : ∀ (j : Nat) (u : Value), ((List.range xs.length).map fun j => (w.cell? ⟨b, off + j, none⟩).getD (.slice none 0 0))[j]? = some u → w.cell? ⟨b, off + j, none⟩ = some u ∧ KS 7 w u (xs.getD j []) := fun j u hu => by
    have hj : j < xs.length := by have := (List.getElem?_eq_some_iff.1 hu).1; omega
    obtain ⟨v, h1, h2⟩ := hc j hj
    rw [List.getElem?_map, List.getElem?_range hj] at hu
    injection hu with hu
    have hu : (w.cell? ⟨b, off + j, none⟩).getD (.slice none 0 0) = u := hu
    rw [h1] at hu
    have hu : v = u := hu
    subst hu
    exact ⟨h1, h2⟩
  refine ⟨b, off, _, hv1.trans (ha h0), hl, fun j u hu => (hg j u hu).1, ⟨hl, fun j v u hv hu => ?_⟩, fun u hu => ?_⟩
  · have := (hg j v hv).2
    rwa [List.getD_eq_getElem?_getD, hu] at this
  · obtain ⟨j, hj, rfl⟩ := List.getElem_of_mem hu
    exact (hg j _ (List.getElem?_eq_getElem hj)).2.oneCell
set_option maxRecDepth 100000 in
set_option maxHeartbeats 800000 in
theorem growWs {w : World} (n : Nat) (h0 : 0 < n) (hn : n ≤ 1000000) :
    Calls Tryz.prog 58 #[.slice none 0 0, .int .i64 (n : Int)] w fun e w' => ∃ v', e = .returned v' ∧ w'.ownsRow w.heap.size 44 1 v' 0 [] ∧ Below w.heap.size w w' := by
  obtain ⟨i0, hi, hz0, hz1, hz2⟩ := info_parts elemRs.2.1
  have hr := fun ty => Lib.run_append_nil_zeros (P := Tryz.prog) w 38 3 ty 44 i0 _ .i64 .i64 elemRs.1 umInt64 hi hz0 n h0 (by rw [hz1]; decide) (by omega) (by rw [hz2]; omega)
  have hge := grownCap_ge w n 0 44
  have hcm : grownCap w n 0 44 ≤ maxLen := grownCap_le_maxLen w n 0 44 (by unfold maxLen; omega)
  obtain ⟨cap, hcap⟩ : ∃ cap, grownCap w n 0 44 = cap := ⟨_, rfl⟩
  rw [hcap] at hge hcm
  simp only [hcap] at hr
  obtain ⟨W1, hW1⟩ : ∃ W1, W1 = w.drew.alloc (.cells (Builtin.zeroCells (Value.slice none 0 0).cells n ++ Builtin.zeroCells (Value.slice none 0 0).cells (cap - n)) 44) := ⟨_, rfl⟩
  have hb : Below w.heap.size w W1 := by rw [hW1]; exact (Below.refl _ w).drew.alloc (Nat.le_refl _) _
  have hown : W1.ownsRow w.heap.size 44 1 (.slice (some ⟨w.heap.size, 0, none⟩) 0 cap) 0 [] := by
    refine ⟨rfl, .inr ⟨w.heap.size, cap, _, rfl, Nat.le_refl _, by rw [hW1]; exact heap_alloc_new w.drew _, Nat.zero_le _, hcm, ?_, by simp⟩⟩
    simp only [Array.size_append, size_zeroCells, elemRs.2.2]
    omega
  simp only [← hW1] at hr
  unfold maxLen at hcm
  have hcm' : (cap : Int) ≤ 9223372036854775807 := by omega
  have hnc : (n : Int) ≤ (cap : Int) := by omega
  have hn1 : decide ((n : Int) < 0) = false := decide_eq_false (by omega)
  have hn2 : decide (0 < (n : Int)) = true := decide_eq_true (by omega)
  replace hown := Lib.hid hown
  replace hb := Lib.hid hb
  clear hW1 hcap hi
  go_enter Tryz.func58, Tryz.ntmps58
  go_wp2_with (at_builtin; refine wpList_plain rfl fun _ hK => Lib.wp_append_run w _ _ 38 3 rfl (.slice none 0 0) (.int .i64 (n : Int)) rfl rfl _ W1 (hr _) (hK _ _ ?_))
  go_wp2
  go_ret
  exact ⟨_, rfl, hown.out, hb.out⟩

/-- A row of words, slice by slice. -/
def RowWs (w : World) (B : Nat) (v : Value) (n : Nat) (vs : List Value) : Prop := w.ownsRow B 44 1 v n vs
/-- append of a whole slice of words. -/
theorem wpList_appWs {w : World} {ops : Array Oper} {rest : List Oper} {o : Oper} {a : Act} {Q : Exit → Act → World → Prop} (hgd : o.guard = none) (s y : Operand)
    (ho : o.op = .call { callee := .builtin .append, args := #[s, y], argTypes := #[38, 38] }) {B n m : Nat} {v : Value} {vs : List Value} (hs : a.eval s = v)
    (hown : RowWs w B v n vs) {vy : List Value} {b off yc : Nat} (hx : a.eval y = .slice (some ⟨b, off, none⟩) m yc) (hm : vy.length = m)
    (hy : ∀ (j : Nat) (u : Value), vy[j]? = some u → w.cell? ⟨b, off + j, none⟩ = some u) (hy1 : ∀ u ∈ vy, u.oneCell' = true) (hn : n + m ≤ 1000000) (hB : B ≤ w.heap.size)
    (h : ∀ v' w', RowWs w' B v' (n + m) (vs ++ vy) → w.grownBy w' v.ownBlock → Below B w w' → wpList Tryz.prog ops Q rest (a.put o.dst v') w') :
    wpList Tryz.prog ops Q (o :: rest) a w := by
  obtain ⟨i0, hi, hz0, hz1, hz2⟩ := info_parts elemRs.2.1
  refine wpList_append_own w hgd s y 38 ho B 44 i0 _ 1 24 elemRs.1 hi hz0 hz1 hz2 elemRs.2.2 (by decide) v n _ hs hown ⟨b, off, none⟩ m yc vy hx (by rw [hm, Nat.mul_one]) ?_ hy1 (by unfold maxLen; omega) (by omega) hB fun v' w' h1 h2 _ => ?_
  · intro j u hj
    rw [Addr.add_lit]
    exact hy j u hj
  · exact h v' w' h1 h2 ((Below.refl B w).grown h2 hB (fun k hk => (World.ownsRow.lt hown k hk).1))


/-- A slice of rounds, as it stood at w0. -/
def EWc (w0 : World) (_ : World) (cs : List Value) (x : List (List Int)) : Prop := ∃ u, cs = [u] ∧ KS 7 w0 u x
theorem EWc.stab (w0 : World) (E : TypeId) : Stab E (EWc w0) := fun _ _ _ _ h _ => h
theorem OwX.ofWC {w0 w : World} {B n : Nat} {E : TypeId} {v : Value} {vs : List Value} {us : List (List (List Int))} (h : w.ownsRow B E 1 v n vs) (hW : WC w0 vs us) : OwX E 1 (EWc w0) w B v n us := by
  have hl : vs.length = n := by have := h.1; omega
  refine ⟨vs, h, by rw [← hW.1, hl], fun u hu => ?_, fun j x hj => ?_⟩
  · obtain ⟨j, hj, rfl⟩ := List.getElem_of_mem hu
    exact (hW.2 j _ (us.getD j []) (List.getElem?_eq_getElem hj) (by rw [getD_eq (by rw [← hW.1]; exact hj)]; exact List.getElem?_eq_getElem (by rw [← hW.1]; exact hj))).oneCell
  · have hj' : j < vs.length := by rw [hW.1]; exact (List.getElem?_eq_some_iff.1 hj).1
    refine ⟨vs[j], ?_, hW.2 j _ x (List.getElem?_eq_getElem hj') hj⟩
    rw [Nat.mul_one, List.drop_eq_getElem_cons hj']; rfl
theorem OwX.toWC {w0 w : World} {B n : Nat} {E : TypeId} {v : Value} {us : List (List (List Int))} (h : OwX E 1 (EWc w0) w B v n us) : ∃ vs, w.ownsRow B E 1 v n vs ∧ WC w0 vs us := by
  obtain ⟨vs, h1, h2, _, h4⟩ := h
  have hl : vs.length = n := by have := h1.1; omega
  refine ⟨vs, h1, by rw [hl, h2], fun j v u hv hu => ?_⟩
  obtain ⟨u', e, hk⟩ := h4 j u hu
  have hj' := (List.getElem?_eq_some_iff.1 hv).1
  rw [Nat.mul_one, List.drop_eq_getElem_cons hj'] at e
  rw [List.getElem?_eq_getElem hj'] at hv
  injection hv with hv
  have e2 : vs[j] = u' := by injection e
  rw [← hv, e2]; exact hk
theorem OwX.wcell {w0 w : World} {B g n cap : Nat} {E : TypeId} {us : List (List (List Int))} (h : OwX E 1 (EWc w0) w B (.slice (some ⟨g, 0, none⟩) n cap) n us) {j : Nat} (hj : j < n) : ∃ u, w.cell? ⟨g, j, none⟩ = some u ∧ KS 7 w0 u (us.getD j []) := by
  obtain ⟨vs, h1, h2⟩ := h.toWC
  have hl : vs.length = n := by have := h1.1; omega
  have hc := World.ownsRow.cellAt h1 j (by omega)
  rw [List.getElem?_eq_getElem (by omega)] at hc
  refine ⟨_, hc, h2.2 j _ _ (List.getElem?_eq_getElem (by omega)) ?_⟩
  rw [getD_eq (by rw [← h2.1]; omega)]
  exact List.getElem?_eq_getElem (by rw [← h2.1]; omega)
theorem OwX.kssW {w0 w : World} {B n : Nat} {E : TypeId} {v : Value} {us : List (List (List Int))} (h : OwX E 1 (EWc w0) w B v n us) (hb : Below w0.heap.size w0 w) (hn : n ≤ 1000000) : KSS 7 w v us := by
  have hl := h.length
  obtain ⟨a, c, rfl⟩ := h.shape
  subst hl
  rcases Nat.eq_zero_or_pos us.length with h0 | h0
  · exact ⟨a, c, 0, 0, rfl, fun h => absurd h (by omega), fun j hj => absurd hj (by omega), by omega⟩
  · obtain ⟨g, cap, he, _⟩ := h.form h0
    injection he with e1 e2 e3
    subst e1 e3
    refine ⟨_, _, g, 0, rfl, fun _ => rfl, fun j hj => ?_, by omega⟩
    obtain ⟨u, hu, hk⟩ := h.wcell hj
    exact ⟨u, by rw [Nat.zero_add]; exact hu, hk.keep hb⟩
set_option maxRecDepth 100000 in
set_option maxHeartbeats 1600000 in
theorem concatWs {w : World} {b : Nat} {u1 u2 : Value} {xs ys : List (List (List Int))} (c0 : w.cell? ⟨b, 0, none⟩ = some u1) (c1 : w.cell? ⟨b, 1, none⟩ = some u2) (h1 : KSS 7 w u1 xs) (h2 : KSS 7 w u2 ys)
    (hx0 : 0 < xs.length) (hy0 : 0 < ys.length) (hxl : xs.length ≤ 1000) (hyl : ys.length ≤ 1000) :
    Calls Tryz.prog 22 #[.slice (some ⟨b, 0, none⟩) 2 2] w fun e w' => ∃ u, e = .returned u ∧ OwX 44 1 (EWc w) w' w.heap.size u (xs.length + ys.length) (xs ++ ys) ∧ Below w.heap.size w w' := by
  have h1' := h1
  have h2' := h2
  obtain ⟨xa, xc, _, _, rfl, -⟩ := h1'
  obtain ⟨ya, yc, _, _, rfl, -⟩ := h2'
  obtain ⟨xb, xo, vx, rfl, hvx, hcx, hwx, hox⟩ := kss_vals h1 hx0
  obtain ⟨yb, yo, vy, rfl, hvy, hcy, hwy, hoy⟩ := kss_vals h2 hy0
  have hWC := Lib.hid (hwx.app hwy)
  obtain ⟨N, hN⟩ : ∃ N, xs.length + ys.length = N := ⟨_, rfl⟩
  have HG := growWs (w := w) N (by omega) (by omega)
  have hNi : (xs.length : Int) + (ys.length : Int) = (N : Int) := by omega
  rw [hN]
  replace HG := Lib.hid HG
  have hNh := Lib.hid hN
  have hNih := Lib.hid hNi
  replace hcx := Lib.hid hcx
  replace hcy := Lib.hid hcy
  replace hox := Lib.hid hox
  replace hoy := Lib.hid hoy
  clear h1 h2 hN hNi hwx hwy
  go_enter Tryz.func22, Tryz.ntmps22
  go_wp2_with fail
  go_loop [3, 11] (fun sv iv => ∃ k sz : Nat, sv = .int .i64 sz ∧ iv = .int .i64 k ∧ (k = 0 ∧ sz = 0 ∨ k = 1 ∧ sz = xs.length ∨ k = 2 ∧ sz = N)) (fun _ iv => 2 - (intOf iv).toNat)
  case atStart => exact ⟨0, 0, rfl, rfl, .inl ⟨rfl, rfl⟩⟩
  case round =>
    obtain ⟨k, sz, rfl, rfl, hk⟩ := hrel
    rcases hk with ⟨rfl, hsz⟩ | ⟨rfl, hsz⟩ | ⟨rfl, hsz⟩ <;> (replace hsz := hsz.symm; subst hsz)
    · have hd : decide ((xs.length : Int) < 0) = false := decide_eq_false (by omega)
      go_wp2
      go_round
      case rel => exact ⟨1, xs.length, by first | rfl | go_num, rfl, .inr (.inl ⟨rfl, rfl⟩)⟩
      case measure => simp [intOf]
    · have hd : decide ((xs.length : Int) + (ys.length : Int) < 0) = false := decide_eq_false (by omega)
      go_wp2
      go_round
      case rel => exact ⟨2, N, by first | rw [hNih.out] | (congr 1; exact hNih.out), rfl, .inr (.inr ⟨rfl, rfl⟩)⟩
      case measure => simp [intOf]
    · go_wp2_with fail
      refine HG.out.mono ?_
      rintro e w1 ⟨v1, rfl, ho1, hb1⟩
      have d0 := cell_kept hb1 c0
      have d1 := cell_kept hb1 c1
      go_wp2_with fail
      go_loopw [6, 27] (fun vv iv wr => ∃ k : Nat, iv = .int .i64 k ∧ Below w.heap.size w wr ∧ (k = 0 ∧ RowWs wr w.heap.size vv 0 [] ∨ k = 1 ∧ RowWs wr w.heap.size vv xs.length vx ∨ k = 2 ∧ RowWs wr w.heap.size vv N (vx ++ vy))) (fun _ iv _ => 2 - (intOf iv).toNat)
      case atStart => exact ⟨0, rfl, hb1, .inl ⟨rfl, ho1⟩⟩
      case round =>
        clear ho1
        obtain ⟨k, rfl, hbr, hk⟩ := hrel
        have e0 := cell_kept hbr c0
        have e1 := cell_kept hbr c1
        rcases hk with ⟨rfl, ho⟩ | ⟨rfl, ho⟩ | ⟨rfl, ho⟩
        · have hbsz := hbr.size
          have hks := fun j u (h : vx[j]? = some u) => cell_kept hbr (hcx.out j u h)
          go_wp2_with (at_builtin; refine wpList_appWs rfl _ _ rfl rfl ho rfl hvx hks hox.out (by omega) hbsz ?_)
          intro v' w2 ho2 _ hb2
          go_wp2
          go_roundw
          case rel => exact ⟨1, rfl, hbr.trans hb2, .inr (.inl ⟨rfl, ho2⟩)⟩
          case measure => simp [intOf]
        · have hbsz := hbr.size
          have hks := fun j u (h : vy[j]? = some u) => cell_kept hbr (hcy.out j u h)
          go_wp2_with (at_builtin; refine wpList_appWs rfl _ _ rfl rfl ho rfl hvy hks hoy.out (by omega) hbsz ?_)
          intro v' w2 ho2 _ hb2
          rw [hNh.out] at ho2
          go_wp2
          go_roundw
          case rel => exact ⟨2, rfl, hbr.trans hb2, .inr (.inr ⟨rfl, ho2⟩)⟩
          case measure => simp [intOf]
        · have hfin := Lib.hid (OwX.ofWC (E := 44) ho hWC.out)
          clear ho
          go_wp2
          go_ret
          exact ⟨_, rfl, hfin.out, hbr⟩
end Go.Proofs.YtiiiegflobihjaaGreat

/- slices.SortFunc at words. -/
namespace Go.Proofs.YtiiiegflobihjaaGreat
open Go.RowKit
open Go.Shelf Go.Lib Go.Sort

/-- Words and the slices that hold them, for the library. -/
def WdE (w0 : World) : Type := { x : Value × List (List Int) // KS 7 w0 x.1 x.2 }
theorem ks_nil (w0 : World) : KS 7 w0 (.slice none 0 0) [] := ⟨none, 0, 0, 0, rfl, fun h => absurd h (by decide), fun j hj => absurd hj (Nat.not_lt_zero _), by decide⟩
instance (w0 : World) : Inhabited (WdE w0) := ⟨⟨(.slice none 0 0, []), ks_nil w0⟩⟩
def WdE.enc {w0 : World} (x : WdE w0) : Value := x.1.1
def WdE.cf {w0 : World} (x y : WdE w0) : Int := cmpL x.1.2.flatten y.1.2.flatten
theorem WdE.one (w0 : World) : OneCell (WdE.enc (w0 := w0)) := fun x => x.2.oneCell
theorem WdE.swo (w0 : World) : SWO (ltOf (WdE.cf (w0 := w0))) where
  irrefl _ := decide_eq_false fun h => cmpL_asymm _ _ h h
  trans _ _ _ h1 h2 := decide_eq_true (cmpL_trans _ _ _ (of_decide_eq_true h1) (of_decide_eq_true h2))
  ntrans _ _ _ h1 h2 := decide_eq_false (cmpL_ntrans _ _ _ (of_decide_eq_false h1) (of_decide_eq_false h2))
theorem WdE.lays {w0 w : World} {blk : Nat} (size : Nat) (hb : Go.RowKit.Below w0.heap.size w0 w) (hB : w0.heap.size ≤ blk) (hblk : blk < w.heap.size) : CmpLays1 Tryz.prog 56 #[] (WdE.enc (w0 := w0)) WdE.cf blk 0 size w := by
  intro m os dk _ x y
  have hk := hb.trans (below_sortWorld (enc := WdE.enc (w0 := w0)) m dk os hB hblk)
  exact (orderC (x.2.keep hk) (y.2.keep hk)).mono fun _ _ ⟨he, hb, hd⟩ => ⟨he, grown_of hb hd⟩
theorem sortWds {w0 w : World} {B g n cap : Nat} {us : List (List (List Int))} (hb : Go.RowKit.Below w0.heap.size w0 w) (hB0 : w0.heap.size ≤ B) (h : OwX 44 1 (EWc w0) w B (.slice (some ⟨g, 0, none⟩) n cap) n us) (hn : n ≤ 1000000) :
    Calls Tryz.prog 55 #[.slice (some ⟨g, 0, none⟩) n cap, .func (.func 56) #[] #[]] w fun e w' =>
      e = .returned (.tuple #[]) ∧ ∃ us' : List (List (List Int)), us'.Perm us ∧ us'.Pairwise (fun a b => ¬ cmpL b.flatten a.flatten < 0) ∧ OwX 44 1 (EWc w0) w' B (.slice (some ⟨g, 0, none⟩) n cap) n us' ∧ Go.RowKit.Below B w w' := by
  have hl := h.length
  obtain ⟨vs, h1, hW⟩ := h.toWC
  have hvl : vs.length = n := by have := h1.1; omega
  have hks : ∀ j, j < n → KS 7 w0 (vs.getD j (.slice none 0 0)) (us.getD j []) := fun j hj =>
    hW.2 j _ _ (by rw [getD_eq (by omega)]; exact List.getElem?_eq_getElem (by omega)) (by rw [getD_eq (by omega)]; exact List.getElem?_eq_getElem (by omega))
  rcases h1.2 with ⟨h0, _⟩ | ⟨g', cap', cur, he, hB, hg, hc1, hc2, hc3, hc4⟩
  · cases h0
  · injection he with he1 he2 he3
    injection he1 with he1
    injection he1 with he1
    subst he1 he3
    let mk : Fin n → WdE w0 := fun j => ⟨(vs.getD j (.slice none 0 0), us.getD j []), hks j j.2⟩
    obtain ⟨d, hd⟩ : ∃ d, d = Array.ofFn mk := ⟨_, rfl⟩
    have hds : d.size = n := by rw [hd]; simp
    have hdj : ∀ j (hj : j < n), d[j]! = mk ⟨j, hj⟩ := fun j hj => by rw [getElem!_pos d j (by omega)]; simp [hd]
    have hgl := (Array.getElem?_eq_some_iff.1 hg).1
    have hH : Holds (WdE.enc (w0 := w0)) w g 0 d := by
      intro j hj
      rw [hds] at hj
      rw [hdj j hj, Nat.zero_add]
      refine ⟨?_, World.ownsRow.frozenAt h1 j⟩
      rw [World.ownsRow.cellAt h1 j (by omega)]
      show vs[j]? = some (vs.getD j (.slice none 0 0))
      rw [getD_eq (by omega)]
      exact List.getElem?_eq_getElem (by omega)
    have eg : ∀ args w, (callFunc 56 args).run Tryz.prog w = .ok (.enter 56 args) w := enters_of Tryz.func56 (by kernel_rfl) rfl
    have hS := Any.slices_SortFunc Tryz.sortWd WdE.enc (WdE.one w0) WdE.cf (WdE.swo w0) 56 #[] g 0 cap d w eg (WdE.lays d.size hb (by omega) hgl) hH hgl (by omega)
    rw [hds] at hS
    change Calls Tryz.prog 55 _ _ _ at hS
    refine hS.mono ?_
    rintro e w' ⟨rfl, d', m, os, hp, hs, rfl⟩
    obtain ⟨hp1, _, hp2⟩ := hp
    rw [hds] at hp1
    have e1 : d'.extract 0 n = d' := by rw [← hp1]; simp
    have e2 : d.extract 0 n = d := by rw [← hds]; simp
    rw [e1, e2] at hp2
    have ex : d.toList.map (fun x : WdE w0 => x.1.2) = us := by
      apply List.ext_getElem
      · simp [hds, hl]
      · intro j hj1 hj2
        simp only [List.getElem_map, Array.getElem_toList]
        have := hdj j (by omega)
        rw [getElem!_pos d j (by omega)] at this
        rw [this]
        exact getD_eq hj2 []
    refine ⟨rfl, d'.toList.map (fun x : WdE w0 => x.1.2), ?_, ?_, OwX.ofWC (vs := d'.toList.map WdE.enc) ⟨by simp [hp1], .inr ⟨g, cap, putCells WdE.enc 0 d' cur, rfl, hB, heap_sortWorld_same 0 m d' os hg, hc1, hc2, by simpa [putCells] using hc3, ?_⟩⟩ ⟨by simp, fun j v u hv hu => ?_⟩, below_sortWorld m d' os hB hgl⟩
    · rw [← ex]; exact hp2.map _
    · rw [List.pairwise_map, List.pairwise_iff_getElem]
      intro i j hi hj hij
      simp only [Array.length_toList] at hi hj
      have := hs i j (Nat.zero_le _) hij (by omega)
      rw [getElem!_pos d' i hi, getElem!_pos d' j hj] at this
      exact of_decide_eq_false this
    · have := putCells_take WdE.enc d' cur (by omega)
      rw [hp1] at this
      rw [Nat.mul_one, this]
    · rw [List.getElem?_map] at hv hu
      have hjl : j < d'.size := by
        rcases Nat.lt_or_ge j d'.size with h | h
        · exact h
        · rw [List.getElem?_eq_none (by simpa using h)] at hv; cases hv
      rw [Array.getElem?_toList, Array.getElem?_eq_getElem hjl] at hv hu
      simp only [Option.map_some, Option.some.injEq] at hv hu
      rw [← hv, ← hu]
      exact d'[j].2
end Go.Proofs.YtiiiegflobihjaaGreat

/- slices.CompactFunc at rows of words. -/
namespace Go.Proofs.YtiiiegflobihjaaGreat
open Go.RowKit

theorem cmpw_snoc : ∀ {l : List (List (List Int))} {x y : List (List Int)}, cmpw (l ++ [x] ++ [y]) = if x = y then cmpw (l ++ [x]) else cmpw (l ++ [x]) ++ [y]
  | [], x, y => by
    by_cases h : x = y
    · subst h; simp [cmpw]
    · simp [cmpw, h]
  | [a], x, y => by
    by_cases ha : a = x <;> by_cases h : x = y <;> simp [cmpw, ha, h]
  | a :: b :: l, x, y => by
    have ih := cmpw_snoc (l := b :: l) (x := x) (y := y)
    simp only [List.cons_append] at ih ⊢
    by_cases ha : a = b
    · rw [cmpw, if_pos ha, ih]
      by_cases h : x = y
      · rw [if_pos h, if_pos h, cmpw, if_pos ha]
      · rw [if_neg h, if_neg h, cmpw, if_pos ha]
    · rw [cmpw, if_neg ha, ih]
      by_cases h : x = y
      · rw [if_pos h, if_pos h, cmpw, if_neg ha]
      · rw [if_neg h, if_neg h, cmpw, if_neg ha]; rfl
theorem cmpw_take {xs : List (List (List Int))} {m : Nat} (h : m + 1 < xs.length) : cmpw (xs.take (m + 2)) = if xs.getD m [] = xs.getD (m + 1) [] then cmpw (xs.take (m + 1)) else cmpw (xs.take (m + 1)) ++ [xs.getD (m + 1) []] := by
  rw [take_snoc h [], take_snoc (show m < xs.length by omega) [], cmpw_snoc]
theorem cmpw_len_le : ∀ l : List (List (List Int)), (cmpw l).length ≤ l.length
  | [] => by simp [cmpw]
  | [x] => by simp [cmpw]
  | x :: y :: r => by
    have := cmpw_len_le (y :: r)
    rw [cmpw]
    split <;> simp at this ⊢ <;> omega

/-- A step of the second loop. -/
theorem compactw_put {xs cs : List (List (List Int))} {m kk : Nat} {x : List (List Int)} (hcl : cs.length = xs.length) (hk : kk < m) (hm : m < xs.length) (h1 : cs.take kk = cmpw (xs.take m)) (h2 : ∀ j, kk ≤ j → cs.getD j [] = xs.getD j []) (hx : xs.getD m [] = x) (hne : ¬ xs.getD (m - 1) [] = x) :
    (cs.set kk x).take (kk + 1) = cmpw (xs.take (m + 1)) ∧ ∀ j, kk + 1 ≤ j → (cs.set kk x).getD j [] = xs.getD j [] := by
  obtain ⟨p, rfl⟩ : ∃ p, m = p + 1 := ⟨m - 1, by omega⟩
  refine ⟨?_, fun j hj => ?_⟩
  · rw [cmpw_take hm, if_neg (by rw [hx]; exact hne), ← h1, hx, List.take_set, take_snoc (show kk < cs.length by omega) [], List.set_append_right _ _ (by rw [List.length_take]; exact Nat.min_le_left _ _), List.length_take, Nat.min_eq_left (by omega), Nat.sub_self]; rfl
  · rw [List.getD_eq_getElem?_getD, List.getElem?_set_ne (by omega), ← List.getD_eq_getElem?_getD]; exact h2 j (by omega)
/-- The head of a row, when its tail is set to something else. -/
theorem OwX.setTailW {w : World} {B g n cap m : Nat} {w0 : World} {xs : List (List (List Int))} (h : OwX 44 1 (EWc w0) w B (.slice (some ⟨g, 0, none⟩) n cap) n xs) (hm : m ≤ n) (vs : List Value) :
    OwX 44 1 (EWc w0) (w.setCells g (m * 1) vs) B (.slice (some ⟨g, 0, none⟩) m cap) m (xs.take m) ∧ Below B w (w.setCells g (m * 1) vs) ∧ KeepX 44 w (w.setCells g (m * 1) vs) := by
  have hl := h.length
  obtain ⟨ws, h1, h2, h3, h4⟩ := h
  rcases h1.2 with ⟨h0, _⟩ | ⟨g', cap', cur, he, hB, hg, hc1, hc2, hc3, hc4⟩
  · cases h0
  · injection he with he1 he2 he3
    injection he1 with he1
    injection he1 with he1
    subst he1 he3
    obtain ⟨cur', k1, k2, k3, k4, k5, k6, k7, k8⟩ := setCells_row vs (m * 1) w cur hg
    have hmn : m * 1 ≤ n * 1 := Nat.mul_le_mul_right _ hm
    have hwl : ws.length = n * 1 := h1.1
    have hws : cur'.toList.take (m * 1) = ws.take (m * 1) := by
      rw [k3, ← hc4, List.take_take, Nat.min_eq_left hmn]
    refine ⟨⟨ws.take (m * 1), ⟨by rw [List.length_take]; omega, .inr ⟨g, cap, cur', rfl, hB, k1, by omega, hc2, by rw [k2]; exact hc3, hws⟩⟩, by rw [List.length_take]; omega, fun u hu => h3 u (List.mem_of_mem_take hu), fun j x hj => ?_⟩, ⟨k6, k7, k8, by rw [k5]; exact Nat.le_refl _, fun k hk => k4 k (by omega)⟩, fun k cs t hk ht => k4 k fun e => ?_⟩
    · rw [List.getElem?_take] at hj
      split at hj
      · rename_i hjm
        have := h4 j x hj
        have hjm7 : j * 1 + 1 ≤ m * 1 := by rw [← Nat.succ_mul]; exact Nat.mul_le_mul_right _ hjm
        rw [List.drop_take, List.take_take, Nat.min_eq_left (by omega)]
        exact this
      · cases hj
    · subst e
      rw [hg] at hk
      injection hk with hk
      injection hk with _ hk
      exact ht hk.symm
set_option maxRecDepth 100000 in
set_option maxHeartbeats 3200000 in
theorem compactWs {w0 w : World} {B g n cap : Nat} {xs : List (List (List Int))} (hb0 : Below w0.heap.size w0 w) (hB0 : w0.heap.size ≤ B) (h : OwX 44 1 (EWc w0) w B (.slice (some ⟨g, 0, none⟩) n cap) n xs) (hn : n ≤ 1000) :
    Calls Tryz.prog 57 #[.slice (some ⟨g, 0, none⟩) n cap, .func (.func 25) #[] #[]] w fun e w' => ∃ m, e = .returned (.slice (some ⟨g, 0, none⟩) m cap) ∧ OwX 44 1 (EWc w0) w' B (.slice (some ⟨g, 0, none⟩) m cap) m (cmpw xs) ∧ Below B w w' ∧ KeepX 44 w w' := by
  have hl := h.length
  have hB : B ≤ g := by
    obtain ⟨_, h1, _⟩ := h
    exact (World.ownsRow.lt h1 g rfl).1
  have hnc : n ≤ cap ∧ (cap : Int) ≤ 9223372036854775807 := by
    obtain ⟨_, h1, _⟩ := h
    rcases h1.2 with ⟨h0, _⟩ | ⟨g', cap', cur, he, _, _, hc1, hc2, _⟩
    · cases h0
    · injection he with _ _ he3
      subst he3
      unfold maxLen at hc2
      exact ⟨hc1, by omega⟩
  obtain ⟨hnc1, hnc2⟩ := hnc
  have hcells := Lib.hid (fun j (hj : j < n) => OwX.wcell h hj)
  have hh := Lib.hid h
  have hlh := Lib.hid hl
  clear h hl
  have hfin0 : Hid (∀ q, cmpw (xs.take n) = xs.take n → OwX 44 1 (EWc w0) (w.drewN q) B (.slice (some ⟨g, 0, none⟩) n cap) n (cmpw xs)) := fun q hq => by
    rw [List.take_of_length_le (by rw [hlh.out]; exact Nat.le_refl _)] at hq
    rw [hq]
    exact hh.out.keep (EWc.stab _ _) (below_drewN (Below.refl _ w) q)
  have hBw : Hid (∀ q, Below B w (w.drewN q) ∧ KeepX 44 w (w.drewN q)) := fun q => ⟨below_drewN (Below.refl _ w) q, KeepX.below (below_drewN (Below.refl _ w) q)⟩
  by_cases h2 : n < 2
  · have hall : Hid (cmpw (xs.take n) = xs.take n) := by
      show _ = _
      have : n = 0 ∨ n = 1 := by omega
      rcases this with rfl | rfl
      · simp [cmpw]
      · match xs, hlh.out with
        | [x], _ => simp [cmpw]
    have hd : decide ((n : Int) < 2) = true := decide_eq_true (by omega)
    go_enter Tryz.func57, Tryz.ntmps57
    go_wp2
    go_ret
    exact ⟨n, rfl, hfin0.out 0 hall.out, (hBw.out 0).1, (hBw.out 0).2⟩
  · have hd : decide ((n : Int) < 2) = false := decide_eq_false (by omega)
    have h1 : Hid (cmpw (xs.take (0 + 1)) = xs.take (0 + 1)) := by
      show _ = _
      match xs, hlh.out with
      | x :: r, _ => simp [cmpw]
      | [], h => simp at h; omega
    go_enter Tryz.func57, Tryz.ntmps57
    go_wp2_with fail
    go_loopg [5] n (fun f kv wr => ∃ p q : Nat, kv = .int .i64 ((p : Int) + 1) ∧ p + 1 ≤ n ∧ n ≤ p + 1 + f ∧ wr = w.drewN q ∧ Hid (cmpw (xs.take (p + 1)) = xs.take (p + 1)))
    case atStart => exact ⟨0, 0, rfl, by omega, by omega, rfl, h1⟩
    case round =>
      clear h1
      obtain ⟨p, q, rfl, hp, hpf, rfl, hc⟩ := hrel
      by_cases hlt : p + 1 < n
      · obtain ⟨f, rfl⟩ : ∃ f, gk = f + 1 := ⟨gk - 1, by omega⟩
        obtain ⟨u1, c0, hx7⟩ := hcells.out (p + 1) hlt
        obtain ⟨u2, d0, hy7⟩ := hcells.out p (by omega)
        obtain ⟨x, hx⟩ : ∃ x, xs.getD (p + 1) [] = x := ⟨_, rfl⟩
        obtain ⟨y, hy⟩ : ∃ y, xs.getD p [] = y := ⟨_, rfl⟩
        have htk := cmpw_take (xs := xs) (m := p) (by rw [hlh.out]; exact hlt)
        rw [hx, hy] at htk
        rw [hx] at hx7
        rw [hy] at hy7
        have HC := fun q => eqRds (hx7.keep (below_drewN hb0 q)) (hy7.keep (below_drewN hb0 q))
        obtain ⟨sa1, sc1, hs1⟩ := hx7.shape
        obtain ⟨sa2, sc2, hs2⟩ := hy7.shape
        subst hs1 hs2
        have hix1 : (p : Int) + 1 < (n : Int) := by omega
        have hix0 : (0 : Int) ≤ (p : Int) := by omega
        have hix2 : (0 : Int) ≤ (p : Int) + 1 := by omega
        have hix3 : (p : Int) < (n : Int) := by omega
        have hwr : IntKind.i64.wrap ((p : Int) + 1 - 1) = (p : Int) := by rw [show (p : Int) + 1 - 1 = (p : Int) by omega]; exact IntWalk.i64_in _ (by omega)
        have htn : ((p : Int) + 1).toNat = p + 1 := by omega
        have hty := hy
        have hxt := hx
        clear hx7 hy7 hx hy
        by_cases he : x = y
        · simp only [decide_eq_true he] at HC
          replace HC := Lib.hid HC
          rw [if_pos he.symm, hc.out] at htk
          have htk := Lib.hid htk
          replace hty := Lib.hid hty
          clear he hc hxt
          go_wp2_with fail
          go_quiet ((go_at_call 25; first | exact quietOn (HC.out _) | (refine (HC.out _).mono ?_; rintro e w' ⟨he, k, rfl⟩; exact ⟨he, _, World.drewN_drewN _ _ _⟩)))
          go_wp2_with fail
          obtain ⟨N2, hN2⟩ : ∃ N2, n - (p + 1) = N2 := ⟨_, rfl⟩
          obtain ⟨C2, hC2⟩ : ∃ C2, cap - (p + 1) = C2 := ⟨_, rfl⟩
          rw [hN2, hC2]
          have hnN : n = p + 1 + N2 := by omega
          replace hC2 := Lib.hid hC2
          replace hN2 := Lib.hid hN2
          have hnNh := Lib.hid hnN
          have hN2i : (1 : Int) ≤ (N2 : Int) := by omega
          have hs0 : Hid (xs.take (p + 1) = cmpw (xs.take (p + 1 + (0 + 1)))) := htk.out.symm
          have hO0 : OwX 44 1 (EWc w0) (w.drewN (q + nq)) B (.slice (some ⟨g, 0, none⟩) n cap) n xs := hh.out
          have hb0 : Below B w (w.drewN (q + nq)) := below_drewN (Below.refl _ w) _
          have hk0 : KeepX 44 w (w.drewN (q + nq)) := KeepX.below (below_drewN (Below.refl _ w) _)
          have hk0h := Lib.hid hk0
          have hsame : Hid (∀ j, p + 1 ≤ j → xs.getD j [] = xs.getD j []) := fun _ _ => rfl
          clear hnN c0 d0 hix1 hix2 htn hwr hk0
          go_loopg [5, 7] N2 (fun f kv rv wr => ∃ (kk r : Nat) (cs : List (List (List Int))), kv = .int .i64 ((kk : Nat) : Int) ∧ rv = .int .i64 ((r : Int) + 1) ∧ r + 1 ≤ N2 ∧ N2 ≤ r + 1 + f ∧ kk < p + 1 + (r + 1) ∧ OwX 44 1 (EWc w0) wr B (.slice (some ⟨g, 0, none⟩) n cap) n cs ∧ Hid (cs.take kk = cmpw (xs.take (p + 1 + (r + 1)))) ∧ Hid (∀ j, kk ≤ j → cs.getD j [] = xs.getD j []) ∧ Below B w wr ∧ Hid (KeepX 44 w wr))
          case atStart => exact ⟨p + 1, 0, xs, by go_num, rfl, by omega, by omega, by omega, hO0, hs0, hsame, hb0, hk0h⟩
          case round =>
            clear hO0 hs0 hsame hb0 hk0h
            obtain ⟨kk, r, cs, rfl, rfl, hr, hrf, hkk, hO, htkk, hsm, hbw, hkx⟩ := hrel
            have hcl := hO.length
            have hOh := Lib.hid hO
            have hnn := hnNh.out
            by_cases hltr : r + 1 < N2
            · obtain ⟨f, rfl⟩ : ∃ f, gk = f + 1 := ⟨gk - 1, by omega⟩
              obtain ⟨u1, c0, hx7⟩ := OwX.wcell hO (j := p + 1 + (r + 1)) (by omega)
              obtain ⟨u2, d0, hy7⟩ := OwX.wcell hO (j := p + 1 + r) (by omega)
              obtain ⟨u3, e0, hz7⟩ := OwX.wcell hO (j := kk) (by omega)
              rw [hsm.out _ (by omega)] at hx7
              rw [hsm.out _ (by omega)] at hy7
              obtain ⟨x, hx⟩ : ∃ x, xs.getD (p + 1 + (r + 1)) [] = x := ⟨_, rfl⟩
              obtain ⟨y, hy⟩ : ∃ y, xs.getD (p + 1 + r) [] = y := ⟨_, rfl⟩
              obtain ⟨z, hz⟩ : ∃ z, cs.getD kk [] = z := ⟨_, rfl⟩
              have htt := cmpw_take (xs := xs) (m := p + 1 + r) (by rw [hlh.out]; omega)
              have hput := compactw_put (xs := xs) (cs := cs) (m := p + 1 + (r + 1)) (kk := kk) (x := x) (by rw [hcl, hlh.out]) hkk (by rw [hlh.out]; omega) htkk.out hsm.out hx
              rw [show p + 1 + r + 1 = p + 1 + (r + 1) by omega, hx, hy] at htt
              rw [show p + 1 + (r + 1) - 1 = p + 1 + r by omega, hy] at hput
              rw [hx] at hx7
              rw [hy] at hy7
              have hbr0 : Below w0.heap.size w0 wr := hb0.trans (hbw.mono hB0)
              have HC := fun q => eqRds (hx7.keep (below_drewN hbr0 q)) (hy7.keep (below_drewN hbr0 q))
              have hx7h := Lib.hid hx7
              obtain ⟨sa1, sc1, hs1⟩ := hx7.shape
              obtain ⟨sa2, sc2, hs2⟩ := hy7.shape
              subst hs1 hs2
              have hi1 : (r : Int) + 1 < (N2 : Int) := by omega
              have hi2 : (0 : Int) ≤ (r : Int) + 1 := by omega
              have hi3 : (0 : Int) ≤ (r : Int) := by omega
              have hi4 : (r : Int) < (N2 : Int) := by omega
              have hi5 : (kk : Int) < (n : Int) := by omega
              have hN2b : (N2 : Int) ≤ 1000 := by omega
              have hkkb : (kk : Int) ≤ 1000 := by omega
              have htn : ((r : Int) + 1).toNat = r + 1 := by omega
              have hwr : IntKind.i64.wrap ((r : Int) + 1 - 1) = (r : Int) := by rw [show (r : Int) + 1 - 1 = (r : Int) by omega]; exact IntWalk.i64_in _ (by omega)
              have hwr2 : IntKind.i64.wrap (r : Int) = (r : Int) := IntWalk.i64_in _ (by omega)
              clear hx7 hy7 hz7 hx hy hz hO
              by_cases he : x = y
              · simp only [decide_eq_true he] at HC
                replace HC := Lib.hid HC
                rw [if_pos he.symm] at htt
                have htt2 : Hid (cs.take kk = cmpw (xs.take (p + 1 + (r + 1 + 1)))) := htkk.out.trans htt.symm
                clear he htt hput
                replace hnn := Lib.hid hnn
                replace hcl := Lib.hid hcl
                go_wp2_with fail
                go_quiet ((go_at_call 25; first | exact quietOn (HC.out _) | (refine (HC.out _).mono ?_; rintro e w' ⟨he, k, rfl⟩; exact ⟨he, _, World.drewN_drewN _ _ _⟩)))
                clear hwr hwr2 htn
                go_wp2_with fail
                go_roundg f
                case measure => omega
                case rel => exact ⟨kk, r + 1, cs, rfl, by go_num, by omega, by omega, by omega, hOh.out, htt2, hsm, below_drewN hbw _, hkx.out.trans (KeepX.below (below_drewN (Below.refl _ _) _))⟩
              · simp only [decide_eq_false he] at HC
                replace HC := Lib.hid HC
                obtain ⟨hp1, hp2⟩ := hput (fun h => he h.symm)
                have hp1h := Lib.hid hp1
                have hp2h := Lib.hid hp2
                have hst : Hid (∀ d, OwX 44 1 (EWc w0) ((wr.drewN d).setCell ⟨g, kk, none⟩ (.slice sa1 x.length sc1)) B (.slice (some ⟨g, 0, none⟩) n cap) n (cs.set kk x)) := fun d => (OwX.store1 (EWc.stab _ _) (OwX.keep (EWc.stab _ _) hOh.out (below_drewN (Below.refl _ _) d)) (by omega) (u := .slice sa1 x.length sc1) rfl (x := x) ⟨_, rfl, hx7h.out⟩).1
                have hst3 : Hid (∀ d, Below B w ((wr.drewN d).setCell ⟨g, kk, none⟩ (.slice sa1 x.length sc1))) := fun d => Below.setCell (p := ⟨g, kk, none⟩) (below_drewN hbw d) hB _
                have hst2 : Hid (∀ d, KeepX 44 w ((wr.drewN d).setCell ⟨g, kk, none⟩ (.slice sa1 x.length sc1))) := fun d => by
                  obtain ⟨_, h1, _⟩ := OwX.keep (EWc.stab _ _) hOh.out (below_drewN (Below.refl wr.heap.size wr) d)
                  obtain ⟨cs', g0⟩ := ownsRow_ty h1 g rfl
                  exact (hkx.out.trans (KeepX.below (below_drewN (Below.refl _ _) d))).trans (KeepX.setCell (p := ⟨g, kk, none⟩) g0 _)
                have hfz : ∀ j, wr.frozen? ⟨g, j, none⟩ = false := fun j => hOh.out.frozen j
                have f0 := hfz kk
                clear he htt hput hp1 hp2 hfz
                replace hnn := Lib.hid hnn
                replace hcl := Lib.hid hcl
                go_wp2_with fail
                go_quiet ((go_at_call 25; first | exact quietOn (HC.out _) | (refine (HC.out _).mono ?_; rintro e w' ⟨he, k, rfl⟩; exact ⟨he, _, World.drewN_drewN _ _ _⟩)))
                clear hwr hwr2 htn
                go_wp2_with fail
                go_roundg f
                case measure => omega
                case rel => exact ⟨kk + 1, r + 1, cs.set kk x, by go_num, by go_num, by omega, by omega, by omega, hst.out _, hp1h, hp2h, hst3.out _, hst2.out _⟩
            · have hrN : r + 1 = N2 := by omega
              have hfz : ∀ j, wr.frozen? ⟨g, j, none⟩ = false := fun j => hO.frozen j
              have hcs : ∀ j, j < n - kk → (wr.cell? ⟨g, kk + j, none⟩).isSome = true := fun j hj => by
                obtain ⟨_, h1, _⟩ := OwX.wcell hO (j := kk + j) (by omega)
                rw [h1]; rfl
              have hcl7 := fun ty => Lib.run_clear_slice (P := Tryz.prog) wr 38 44 ty (.slice none 0 0) (by kernel_rfl) (fun w => by kernel_rfl) rfl rfl g kk (n - kk) (cap - kk) (by omega) hcs (fun j _ => hfz _)
              obtain ⟨Z, hZ⟩ : ∃ Z, List.replicate (n - kk) (Value.slice none 0 0) = Z := ⟨_, rfl⟩
              simp only [hZ] at hcl7
              obtain ⟨t1, t2, t3⟩ := OwX.setTailW hO (m := kk) (by omega) Z
              rw [htkk.out, List.take_of_length_le (by rw [hlh.out]; omega)] at t1
              rw [Nat.mul_one] at t1 t2 t3
              obtain ⟨W2, hW2⟩ : ∃ W2, wr.setCells g kk Z = W2 := ⟨_, rfl⟩
              rw [hW2] at t1 t2 t3
              simp only [hW2] at hcl7
              have hfin := Lib.hid t1
              have hkf := Lib.hid (hkx.out.trans t3)
              have hbf := hbw.trans t2
              have hk1 : (kk : Int) ≤ (n : Int) := by omega
              have hkn : kk < n := by omega
              have hkc : kk < cap := by omega
              have hk2 : (kk : Int) ≤ (cap : Int) := by omega
              have hge : decide ((r : Int) + 1 < (N2 : Int)) = false := decide_eq_false (by omega)
              clear t1 t2 t3 hO hOh hfz hcs hZ hW2 htkk hkx hsm
              replace hnn := Lib.hid hnn
              replace hcl := Lib.hid hcl
              replace hrN := Lib.hid hrN
              go_wp2
              go_ret
              exact ⟨kk, rfl, hfin.out, hbf, hkf.out⟩
        · simp only [decide_eq_false he] at HC
          replace HC := Lib.hid HC
          rw [if_neg (fun h => he h.symm), hc.out] at htk
          have htk2 : Hid (cmpw (xs.take (p + 1 + 1)) = xs.take (p + 1 + 1)) := by show _ = _; rw [htk, ← hxt]; exact (take_snoc (by rw [hlh.out]; exact hlt) []).symm
          clear he hc hty htk hxt
          go_wp2_with fail
          go_quiet ((go_at_call 25; first | exact quietOn (HC.out _) | (refine (HC.out _).mono ?_; rintro e w' ⟨he, k, rfl⟩; exact ⟨he, _, World.drewN_drewN _ _ _⟩)))
          go_wp2_with fail
          go_roundg f
          case measure => omega
          case rel => exact ⟨p + 1, _, by go_num, by omega, by omega, (by first | exact rfl | exact World.drewN_drewN _ _ _), htk2⟩
      · obtain rfl : n = p + 1 := by omega
        have hfin := Lib.hid (hfin0.out q hc.out)
        obtain ⟨b1, b2⟩ := hBw.out q
        have b2h := Lib.hid b2
        clear hc b2
        go_wp2_with fail
        go_ret
        exact ⟨p + 1, by first | rfl | (congr 2; done), hfin.out, b1, b2h.out⟩
end Go.Proofs.YtiiiegflobihjaaGreat

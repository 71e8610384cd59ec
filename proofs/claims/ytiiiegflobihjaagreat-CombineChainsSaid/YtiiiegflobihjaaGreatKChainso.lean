/- Texts of this claim, put together: J2 CH1. -/
import Derived.Test.YtiiiegflobihjaaGreatKChainse
import Derived.Test.YtiiiegflobihjaaGreatKChainsk
import Derived.Test.YtiiiegflobihjaaGreatKChainsh
import Derived.Test.YtiiiegflobihjaaGreatKChainsj
import Derived.Test.YtiiiegflobihjaaGreatKChainsn
import Derived.Test.YtiiiegflobihjaaGreatKChainsl

/- round.Compare as the library's sort asks it; slices.SortFunc at rounds. -/
namespace Go.Proofs.YtiiiegflobihjaaGreat
open Go.RowKit

set_option maxRecDepth 100000 in
set_option maxHeartbeats 6400000 in
theorem graphCompareG (n h0 h1 h2 h3 h4 m g0 g1 g2 g3 g4 : Int) (w : World) : Calls Tryz.prog 121 #[.agg #[.int .i64 n, .int .i64 h0, .int .i64 h1, .int .i64 h2, .int .i64 h3, .int .i64 h4], .agg #[.int .i64 m, .int .i64 g0, .int .i64 g1, .int .i64 g2, .int .i64 g3, .int .i64 g4]] w fun e w' => e = .returned (.int .i64 (cmpL [n, h0, h1, h2, h3, h4] [m, g0, g1, g2, g3, g4])) ∧ Below w.heap.size w w' ∧ w.drawn ≤ w'.drawn := by
  by_cases he : [n, h0, h1, h2, h3, h4] = [m, g0, g1, g2, g3, g4]
  · have hE := Lib.hid (show cmpL [n, h0, h1, h2, h3, h4] [m, g0, g1, g2, g3, g4] = 0 by rw [he]; exact cmpL_self _)
    have he' := Lib.hid (eqL_true.2 he)
    clear he
    go_enter Tryz.func121, Tryz.ntmps121
    have he1 := he'.out
    go_wp2
    go_ret
    exact ⟨ret_int hE.out.symm, (((Below.refl w.heap.size w).alloc (Nat.le_refl _) _).alloc (by simp) _), (by first | exact Nat.le_refl _ | exact hd1 | exact Nat.le_add_right _ _ | exact Nat.le_trans (Nat.le_add_right _ _) (Nat.le_add_right _ _))⟩
  · have he' := eqL_false.2 he
    clear he
    obtain ⟨E, hE⟩ : ∃ E, cmpL [n, h0, h1, h2, h3, h4] [m, g0, g1, g2, g3, g4] = E := ⟨_, rfl⟩
    rw [hE]
    by_cases hn : n = m
    · have hE0 := Lib.hid (show cmpL [h0, h1, h2, h3, h4] [g0, g1, g2, g3, g4] = E by rw [← hE]; exact (cmpL_hd (cmpI_zero.2 hn)).symm)
      have hn' : (n != m) = false := by simp [hn]
      replace hn := Lib.hid hn
      clear hE
      go_enter Tryz.func121, Tryz.ntmps121
      go_wp2
      go_loopw [20] (fun iv wr => ∃ (k : Int) (dn : Nat), wr = ((w.alloc (.cells #[.int .i64 n, .int .i64 h0, .int .i64 h1, .int .i64 h2, .int .i64 h3, .int .i64 h4] 49)).alloc (.cells #[.int .i64 m, .int .i64 g0, .int .i64 g1, .int .i64 g2, .int .i64 g3, .int .i64 g4] 49)).drewN dn ∧ iv = .int .i64 k ∧ ((k = 0 ∧ Hid (cmpL [h0, h1, h2, h3, h4] [g0, g1, g2, g3, g4] = E)) ∨ (k = 1 ∧ Hid (cmpL [h1, h2, h3, h4] [g1, g2, g3, g4] = E)) ∨ (k = 2 ∧ Hid (cmpL [h2, h3, h4] [g2, g3, g4] = E)) ∨ (k = 3 ∧ Hid (cmpL [h3, h4] [g3, g4] = E)) ∨ (k = 4 ∧ Hid (cmpL [h4] [g4] = E)) ∨ (k = 5 ∧ Hid (cmpL [] [] = E)))) (fun iv _ => 5 - (intOf iv).toNat)
      case atStart => exact ⟨0, 0, (by first | rfl | simp), rfl, .inl ⟨rfl, hE0⟩⟩
      case round =>
        clear hE0
        obtain ⟨k, dn, rfl, rfl, hk⟩ := hrel
        rcases hk with ⟨rfl, hg⟩ | ⟨rfl, hg⟩ | ⟨rfl, hg⟩ | ⟨rfl, hg⟩ | ⟨rfl, hg⟩ | ⟨rfl, hg⟩
        · obtain ⟨c, hc⟩ : ∃ c, cmpI h0 g0 = c := ⟨_, rfl⟩
          have hq := fun W => cmpIntQ h0 g0 W
          simp only [hc] at hq
          replace hq := Lib.hid hq
          by_cases hz0 : c = 0
          · subst hz0
            have hz := Lib.hid hc
            clear hc
            go_wp2
            go_quiet ((go_at_call 122; exact quietOn (hq.out _)))
            go_wp2
            go_roundw
            case rel => exact ⟨1, _, (by first | exact rfl | exact World.drewN_drewN _ _ _), rfl, .inr (.inl ⟨rfl, by show _ = _; rw [← hg.out, cmpL_hd hz.out]⟩)⟩
            case measure => simp [intOf]
          · have hz' : (c != 0) = true := by simpa using hz0
            have hz := Lib.hid (show ¬ cmpI h0 g0 = 0 by rw [hc]; exact hz0)
            replace hc := Lib.hid hc
            clear hz0
            go_wp2
            go_quiet ((go_at_call 122; exact quietOn (hq.out _)))
            go_wp2
            go_ret
            exact ⟨ret_int (by rw [← hg.out, cmpL_ne hz.out, hc.out]), (by first | exact below_drewN (((Below.refl w.heap.size w).alloc (Nat.le_refl _) _).alloc (by simp) _) _ | exact below_drewN (below_drewN (((Below.refl w.heap.size w).alloc (Nat.le_refl _) _).alloc (by simp) _) _) _ | exact below_drewN (below_drewN (below_drewN (((Below.refl w.heap.size w).alloc (Nat.le_refl _) _).alloc (by simp) _) _) _) _), (by first | exact Nat.le_refl _ | exact hd1 | exact Nat.le_add_right _ _ | exact Nat.le_trans (Nat.le_add_right _ _) (Nat.le_add_right _ _))⟩
        · obtain ⟨c, hc⟩ : ∃ c, cmpI h1 g1 = c := ⟨_, rfl⟩
          have hq := fun W => cmpIntQ h1 g1 W
          simp only [hc] at hq
          replace hq := Lib.hid hq
          by_cases hz0 : c = 0
          · subst hz0
            have hz := Lib.hid hc
            clear hc
            go_wp2
            go_quiet ((go_at_call 122; exact quietOn (hq.out _)))
            go_wp2
            go_roundw
            case rel => exact ⟨2, _, (by first | exact rfl | exact World.drewN_drewN _ _ _), rfl, .inr (.inr (.inl ⟨rfl, by show _ = _; rw [← hg.out, cmpL_hd hz.out]⟩))⟩
            case measure => simp [intOf]
          · have hz' : (c != 0) = true := by simpa using hz0
            have hz := Lib.hid (show ¬ cmpI h1 g1 = 0 by rw [hc]; exact hz0)
            replace hc := Lib.hid hc
            clear hz0
            go_wp2
            go_quiet ((go_at_call 122; exact quietOn (hq.out _)))
            go_wp2
            go_ret
            exact ⟨ret_int (by rw [← hg.out, cmpL_ne hz.out, hc.out]), (by first | exact below_drewN (((Below.refl w.heap.size w).alloc (Nat.le_refl _) _).alloc (by simp) _) _ | exact below_drewN (below_drewN (((Below.refl w.heap.size w).alloc (Nat.le_refl _) _).alloc (by simp) _) _) _ | exact below_drewN (below_drewN (below_drewN (((Below.refl w.heap.size w).alloc (Nat.le_refl _) _).alloc (by simp) _) _) _) _), (by first | exact Nat.le_refl _ | exact hd1 | exact Nat.le_add_right _ _ | exact Nat.le_trans (Nat.le_add_right _ _) (Nat.le_add_right _ _))⟩
        · obtain ⟨c, hc⟩ : ∃ c, cmpI h2 g2 = c := ⟨_, rfl⟩
          have hq := fun W => cmpIntQ h2 g2 W
          simp only [hc] at hq
          replace hq := Lib.hid hq
          by_cases hz0 : c = 0
          · subst hz0
            have hz := Lib.hid hc
            clear hc
            go_wp2
            go_quiet ((go_at_call 122; exact quietOn (hq.out _)))
            go_wp2
            go_roundw
            case rel => exact ⟨3, _, (by first | exact rfl | exact World.drewN_drewN _ _ _), rfl, .inr (.inr (.inr (.inl ⟨rfl, by show _ = _; rw [← hg.out, cmpL_hd hz.out]⟩)))⟩
            case measure => simp [intOf]
          · have hz' : (c != 0) = true := by simpa using hz0
            have hz := Lib.hid (show ¬ cmpI h2 g2 = 0 by rw [hc]; exact hz0)
            replace hc := Lib.hid hc
            clear hz0
            go_wp2
            go_quiet ((go_at_call 122; exact quietOn (hq.out _)))
            go_wp2
            go_ret
            exact ⟨ret_int (by rw [← hg.out, cmpL_ne hz.out, hc.out]), (by first | exact below_drewN (((Below.refl w.heap.size w).alloc (Nat.le_refl _) _).alloc (by simp) _) _ | exact below_drewN (below_drewN (((Below.refl w.heap.size w).alloc (Nat.le_refl _) _).alloc (by simp) _) _) _ | exact below_drewN (below_drewN (below_drewN (((Below.refl w.heap.size w).alloc (Nat.le_refl _) _).alloc (by simp) _) _) _) _), (by first | exact Nat.le_refl _ | exact hd1 | exact Nat.le_add_right _ _ | exact Nat.le_trans (Nat.le_add_right _ _) (Nat.le_add_right _ _))⟩
        · obtain ⟨c, hc⟩ : ∃ c, cmpI h3 g3 = c := ⟨_, rfl⟩
          have hq := fun W => cmpIntQ h3 g3 W
          simp only [hc] at hq
          replace hq := Lib.hid hq
          by_cases hz0 : c = 0
          · subst hz0
            have hz := Lib.hid hc
            clear hc
            go_wp2
            go_quiet ((go_at_call 122; exact quietOn (hq.out _)))
            go_wp2
            go_roundw
            case rel => exact ⟨4, _, (by first | exact rfl | exact World.drewN_drewN _ _ _), rfl, .inr (.inr (.inr (.inr (.inl ⟨rfl, by show _ = _; rw [← hg.out, cmpL_hd hz.out]⟩))))⟩
            case measure => simp [intOf]
          · have hz' : (c != 0) = true := by simpa using hz0
            have hz := Lib.hid (show ¬ cmpI h3 g3 = 0 by rw [hc]; exact hz0)
            replace hc := Lib.hid hc
            clear hz0
            go_wp2
            go_quiet ((go_at_call 122; exact quietOn (hq.out _)))
            go_wp2
            go_ret
            exact ⟨ret_int (by rw [← hg.out, cmpL_ne hz.out, hc.out]), (by first | exact below_drewN (((Below.refl w.heap.size w).alloc (Nat.le_refl _) _).alloc (by simp) _) _ | exact below_drewN (below_drewN (((Below.refl w.heap.size w).alloc (Nat.le_refl _) _).alloc (by simp) _) _) _ | exact below_drewN (below_drewN (below_drewN (((Below.refl w.heap.size w).alloc (Nat.le_refl _) _).alloc (by simp) _) _) _) _), (by first | exact Nat.le_refl _ | exact hd1 | exact Nat.le_add_right _ _ | exact Nat.le_trans (Nat.le_add_right _ _) (Nat.le_add_right _ _))⟩
        · obtain ⟨c, hc⟩ : ∃ c, cmpI h4 g4 = c := ⟨_, rfl⟩
          have hq := fun W => cmpIntQ h4 g4 W
          simp only [hc] at hq
          replace hq := Lib.hid hq
          by_cases hz0 : c = 0
          · subst hz0
            have hz := Lib.hid hc
            clear hc
            go_wp2
            go_quiet ((go_at_call 122; exact quietOn (hq.out _)))
            go_wp2
            go_roundw
            case rel => exact ⟨5, _, (by first | exact rfl | exact World.drewN_drewN _ _ _), rfl, .inr (.inr (.inr (.inr (.inr (⟨rfl, by show _ = _; rw [← hg.out, cmpL_hd hz.out]⟩)))))⟩
            case measure => simp [intOf]
          · have hz' : (c != 0) = true := by simpa using hz0
            have hz := Lib.hid (show ¬ cmpI h4 g4 = 0 by rw [hc]; exact hz0)
            replace hc := Lib.hid hc
            clear hz0
            go_wp2
            go_quiet ((go_at_call 122; exact quietOn (hq.out _)))
            go_wp2
            go_ret
            exact ⟨ret_int (by rw [← hg.out, cmpL_ne hz.out, hc.out]), (by first | exact below_drewN (((Below.refl w.heap.size w).alloc (Nat.le_refl _) _).alloc (by simp) _) _ | exact below_drewN (below_drewN (((Below.refl w.heap.size w).alloc (Nat.le_refl _) _).alloc (by simp) _) _) _ | exact below_drewN (below_drewN (below_drewN (((Below.refl w.heap.size w).alloc (Nat.le_refl _) _).alloc (by simp) _) _) _) _), (by first | exact Nat.le_refl _ | exact hd1 | exact Nat.le_add_right _ _ | exact Nat.le_trans (Nat.le_add_right _ _) (Nat.le_add_right _ _))⟩
        · go_wp2
          go_ret
          exact ⟨ret_int hg.out, (by first | exact below_drewN (((Below.refl w.heap.size w).alloc (Nat.le_refl _) _).alloc (by simp) _) _ | exact below_drewN (below_drewN (((Below.refl w.heap.size w).alloc (Nat.le_refl _) _).alloc (by simp) _) _) _ | exact below_drewN (below_drewN (below_drewN (((Below.refl w.heap.size w).alloc (Nat.le_refl _) _).alloc (by simp) _) _) _) _), (by first | exact Nat.le_refl _ | exact hd1 | exact Nat.le_add_right _ _ | exact Nat.le_trans (Nat.le_add_right _ _) (Nat.le_add_right _ _))⟩
    · have hE0 := Lib.hid (show cmpI n m = E by rw [← hE, cmpL_ne (fun h => hn (cmpI_zero.1 h))])
      have hn' : (n != m) = true := by simpa using hn
      clear hE hn
      go_enter Tryz.func121, Tryz.ntmps121
      go_wp2_with (go_at_call 122; refine (cmpInt _ _ _).mono ?_; rintro e w1 ⟨rfl, rfl⟩)
      go_ret
      exact ⟨ret_int hE0.out, (((Below.refl w.heap.size w).alloc (Nat.le_refl _) _).alloc (by simp) _), (by first | exact Nat.le_refl _ | exact hd1 | exact Nat.le_add_right _ _ | exact Nat.le_trans (Nat.le_add_right _ _) (Nat.le_add_right _ _))⟩

set_option maxRecDepth 100000 in
set_option maxHeartbeats 3200000 in
theorem roundCompareG (n h0 h1 h2 h3 h4 f m g0 g1 g2 g3 g4 g : Int) (w : World) : Calls Tryz.prog 92 #[.agg #[.int .i64 n, .int .i64 h0, .int .i64 h1, .int .i64 h2, .int .i64 h3, .int .i64 h4, .int .i64 f], .agg #[.int .i64 m, .int .i64 g0, .int .i64 g1, .int .i64 g2, .int .i64 g3, .int .i64 g4, .int .i64 g]] w fun e w' => e = .returned (.int .i64 (cmpL [n, h0, h1, h2, h3, h4, f] [m, g0, g1, g2, g3, g4, g])) ∧ Below w.heap.size w w' ∧ w.drawn ≤ w'.drawn := by
  have hb : Below w.heap.size w ((w.alloc (.cells #[.int .i64 n, .int .i64 h0, .int .i64 h1, .int .i64 h2, .int .i64 h3, .int .i64 h4, .int .i64 f] 51)).alloc (.cells #[.int .i64 m, .int .i64 g0, .int .i64 g1, .int .i64 g2, .int .i64 g3, .int .i64 g4, .int .i64 g] 51)) := ((Below.refl _ _).alloc (Nat.le_refl _) _).alloc (by simp) _
  have HG := Lib.hid (fun W => graphCompareG n h0 h1 h2 h3 h4 m g0 g1 g2 g3 g4 W)
  by_cases he : [n, h0, h1, h2, h3, h4, f] = [m, g0, g1, g2, g3, g4, g]
  · have hE := Lib.hid (show cmpL [n, h0, h1, h2, h3, h4, f] [m, g0, g1, g2, g3, g4, g] = 0 from cmpL_zero.2 he)
    have he' := Lib.hid (eqL_true.2 he)
    clear he
    go_enter Tryz.func92, Tryz.ntmps92
    have he1 := he'.out
    go_wp2
    go_ret
    exact ⟨ret_int hE.out.symm, hb, (by first | exact Nat.le_refl _ | exact hd1 | exact Nat.le_add_right _ _ | exact Nat.le_trans (Nat.le_add_right _ _) (Nat.le_add_right _ _))⟩
  · have he' := eqL_false.2 he
    clear he
    by_cases hg : [n, h0, h1, h2, h3, h4] = [m, g0, g1, g2, g3, g4]
    · have hE := Lib.hid (cmp7_2 (f := f) (g := g) hg)
      have hg' := Lib.hid (eqL_true.2 hg)
      clear hg
      go_enter Tryz.func92, Tryz.ntmps92
      have hg1 := hg'.out
      go_wp2_with fail
      refine (cmpInt f g _).mono ?_; rintro e w1 ⟨rfl, rfl⟩
      go_wp2
      go_ret
      exact ⟨ret_int hE.out.symm, hb, (by first | exact Nat.le_refl _ | exact hd1 | exact Nat.le_add_right _ _ | exact Nat.le_trans (Nat.le_add_right _ _) (Nat.le_add_right _ _))⟩
    · have hE := Lib.hid (cmp7_1 (f := f) (g := g) hg)
      have hg' := eqL_false.2 hg
      clear hg
      go_enter Tryz.func92, Tryz.ntmps92
      go_wp2_with fail
      refine (HG.out _).mono ?_; rintro e w1 ⟨rfl, hb1, hd1⟩
      go_wp2
      go_ret
      exact ⟨ret_int hE.out.symm, bt hb hb1 hb.size, (by first | exact Nat.le_refl _ | exact hd1 | exact Nat.le_add_right _ _ | exact Nat.le_trans (Nat.le_add_right _ _) (Nat.le_add_right _ _))⟩


open Go.Shelf Go.Lib Go.Sort
theorem grown_of {w w' : World} (hb : Go.RowKit.Below w.heap.size w w') (hd : w.drawn ≤ w'.drawn) : ∃ q os, w' = grow (w.drewN q) os := by
  refine ⟨w'.drawn - w.drawn, w'.heap.extract w.heap.size w'.heap.size, ?_⟩
  have hh : w'.heap = w.heap ++ w'.heap.extract w.heap.size w'.heap.size := by
    apply Array.ext_getElem?
    intro k
    by_cases hk : k < w.heap.size
    · rw [Array.getElem?_append_left hk]; exact hb.block k hk
    · have hs := hb.size
      rw [Array.getElem?_append_right (by omega), Array.getElem?_extract]
      by_cases hk2 : k < w'.heap.size
      · rw [if_pos (by omega)]; congr 1; omega
      · rw [if_neg (by omega), Array.getElem?_eq_none (by omega)]
  have h1 := hb.os
  have h2 := hb.tape
  have h3 := hb.output
  have hdd : w.drawn + (w'.drawn - w.drawn) = w'.drawn := by omega
  cases w with
  | mk heap tape drawn os output =>
    cases w' with
    | mk heap' tape' drawn' os' output' =>
      simp only at h1 h2 h3 hh hdd
      subst h1 h2 h3
      simp only [grow, World.drewN]
      rw [hdd, ← hh]
/-- Rounds, for the library. -/
def R7 : Type := { x : List Int // x.length = 7 }
instance : Inhabited R7 := ⟨⟨[0, 0, 0, 0, 0, 0, 0], rfl⟩⟩
def R7.enc (x : R7) : List Value := x.1.map (Value.int .i64)
def R7.cf (x y : R7) : Int := cmpL x.1 y.1
theorem R7.len (x : R7) : x.enc.length = 7 := by rw [R7.enc, List.length_map]; exact x.2
theorem R7.one (x : R7) : ∀ v ∈ x.enc, v.oneCell' = true := fun v hv => by
  obtain ⟨i, _, rfl⟩ := List.mem_map.1 hv; rfl
theorem R7.swo : SWO (ltOf R7.cf) where
  irrefl _ := decide_eq_false fun h => cmpL_asymm _ _ h h
  trans _ _ _ h1 h2 := decide_eq_true (cmpL_trans _ _ _ (of_decide_eq_true h1) (of_decide_eq_true h2))
  ntrans _ _ _ h1 h2 := decide_eq_false (cmpL_ntrans _ _ _ (of_decide_eq_false h1) (of_decide_eq_false h2))
theorem R7.lays (blk off size : Nat) (w : World) : CmpLays Tryz.prog 92 #[] R7.enc 7 R7.cf blk off size w := by
  rintro m os dk _ ⟨x, hx⟩ ⟨y, hy⟩
  obtain ⟨x0, x1, x2, x3, x4, x5, x6, rfl⟩ := seven hx
  obtain ⟨y0, y1, y2, y3, y4, y5, y6, rfl⟩ := seven hy
  exact (roundCompareG x0 x1 x2 x3 x4 x5 x6 y0 y1 y2 y3 y4 y5 y6 _).mono fun _ _ ⟨he, hb, hd⟩ => ⟨he, grown_of hb hd⟩
theorem heap_sortWorld_other {α : Type} [Inhabited α] {enc : α → Value} {w : World} {blk k : Nat} (off n : Nat) (d : Array α) (os : Array Obj) (hne : k ≠ blk) (hk : k < w.heap.size) : (sortWorld enc w blk off n d os).heap[k]? = w.heap[k]? := by
  simp only [sortWorld, grow, putRow, mapBlock, Sort.ahead]
  rw [Array.getElem?_append_left (by simpa using hk), Array.getElem?_modify, if_neg (fun h => hne h.symm)]
theorem heap_sortWorld_same {α : Type} [Inhabited α] {enc : α → Value} {w : World} {blk : Nat} (off n : Nat) (d : Array α) (os : Array Obj) {cs : Array Value} {t : TypeId} {fz : Nat × Nat} (h : w.heap[blk]? = some (.cells cs t fz)) : (sortWorld enc w blk off n d os).heap[blk]? = some (.cells (putCells enc off d cs) t fz) := by
  simp only [sortWorld, grow, putRow, mapBlock, Sort.ahead]
  rw [Array.getElem?_append_left (by simpa using (Array.getElem?_eq_some_iff.1 h).1), Array.getElem?_modify, if_pos rfl, h]
  rfl
theorem below_sortWorld {α : Type} [Inhabited α] {enc : α → Value} {w : World} {blk : Nat} (n : Nat) (d : Array α) (os : Array Obj) {B : Nat} (hB : B ≤ blk) (hb : blk < w.heap.size) : Go.RowKit.Below B w (sortWorld enc w blk 0 n d os) := by
  refine ⟨rfl, rfl, rfl, ?_, fun k hk => heap_sortWorld_other _ _ _ _ (by omega) (by omega)⟩
  simp [sortWorld, grow, putRow, mapBlock, Sort.ahead]
theorem putCells_take {α : Type} [Inhabited α] (enc : α → Value) (d : Array α) (cs : Array Value) (hd : d.size ≤ cs.size) : (putCells enc 0 d cs).toList.take d.size = d.toList.map enc := by
  apply List.ext_getElem?
  intro k
  rw [List.getElem?_take]
  by_cases hk : k < d.size
  · rw [if_pos hk, Array.getElem?_toList]
    simp only [putCells, Array.getElem?_mapIdx]
    rw [Array.getElem?_eq_getElem (by omega : k < cs.size)]
    simp [hk]
  · rw [if_neg hk, List.getElem?_eq_none (by simp; omega)]
theorem flat_R7 (d : Array R7) (j : Nat) (hj : j < d.size) : ((flatK R7.enc 7 d).toList.drop (j * 7)).take 7 = (d[j]!).1.map (Value.int .i64) := by
  have h7 : (d[j]!).1.length = 7 := (d[j]!).2
  apply List.ext_getElem?
  intro k
  rw [List.getElem?_take]
  by_cases hk : k < 7
  · have hle : j * 7 + 7 ≤ d.size * 7 := by rw [← Nat.succ_mul]; exact Nat.mul_le_mul_right _ hj
    rw [if_pos hk, List.getElem?_drop, Array.getElem?_toList, Array.getElem?_eq_getElem (by rw [size_flatK]; omega)]
    have := get_flatK R7.enc 7 d (j * 7 + k) (by omega)
    rw [getElem!_pos _ _ (by rw [size_flatK]; omega)] at this
    rw [this, show (j * 7 + k) / 7 = j by omega, show (j * 7 + k) % 7 = k by omega]
    have hl := R7.len d[j]!
    rw [getElem!_pos _ k (by omega)]
    show some _ = (R7.enc d[j]!)[k]?
    rw [List.getElem?_eq_getElem (by omega)]
  · rw [if_neg hk, List.getElem?_eq_none (by simp; omega)]
/-- What the sort leaves. -/
def SortOut (w : World) (B : Nat) (v : Value) (n : Nat) (xs : List (List Int)) (e : Ending) (w' : World) : Prop :=
  e = .returned (.tuple #[]) ∧ ∃ ys, ys.Perm xs ∧ ys.Pairwise (fun a b => ¬ cmpL b a < 0) ∧ OwX 51 7 EI w' B v n ys ∧ Go.RowKit.Below B w w' ∧ KeepX 51 w w'
theorem sortRds {w : World} {B g n cap : Nat} {xs : List (List Int)} (h : OwX 51 7 EI w B (.slice (some ⟨g, 0, none⟩) n cap) n xs) (hn : n ≤ 1000000) :
    Calls Tryz.prog 94 #[.slice (some ⟨g, 0, none⟩) n cap, .func (.func 92) #[] #[]] w (SortOut w B (.slice (some ⟨g, 0, none⟩) n cap) n xs) := by
  have hl := h.length
  have h7 : ∀ j, j < n → (xs.getD j []).length = 7 := fun j hj => (h.intCells hj).1
  have hci : ∀ j, j < n → CI w g (j * 7) (xs.getD j []) := fun j hj => (h.intCells hj).2
  have hfz : ∀ j, w.frozen? ⟨g, j, none⟩ = false := fun j => h.frozen j
  obtain ⟨ws, h1, _⟩ := h
  rcases h1.2 with ⟨h0, _⟩ | ⟨g', cap', cur, he, hB, hg, hc1, hc2, hc3, hc4⟩
  · cases h0
  · injection he with he1 he2 he3
    injection he1 with he1
    injection he1 with he1
    subst he1 he3
    let mk : Fin n → R7 := fun j => ⟨xs.getD j [], h7 j j.2⟩
    obtain ⟨d, hd⟩ : ∃ d, d = Array.ofFn mk := ⟨_, rfl⟩
    have hds : d.size = n := by rw [hd]; simp
    have hdj : ∀ j (hj : j < n), d[j]! = mk ⟨j, hj⟩ := fun j hj => by rw [getElem!_pos d j (by omega)]; simp [hd]
    have hH : HoldsK R7.enc 7 w g 0 d := by
      intro t ht
      rw [size_flatK, hds] at ht
      have htj : t / 7 < n := by rw [Nat.div_lt_iff_lt_mul (by decide)]; exact ht
      have hm : t % 7 < 7 := Nat.mod_lt _ (by decide)
      constructor
      · rw [get_flatK _ _ _ _ (by rw [hds]; exact ht), hdj _ htj]
        have := hci (t / 7) htj (t % 7) (by rw [h7 _ htj]; exact hm)
        rw [show t / 7 * 7 + t % 7 = 0 + t by rw [Nat.mul_comm, Nat.div_add_mod, Nat.zero_add]] at this
        rw [this]
        show some _ = some (id ((xs.getD (t / 7) []).map (Value.int .i64))[t % 7]!)
        have hl7 := h7 _ htj
        rw [getElem!_pos _ _ (by rw [List.length_map, hl7]; exact hm), List.getElem_map, getD_eq (by rw [hl7]; exact hm)]
        rfl
      · rw [Nat.zero_add]; exact hfz t
    have hgl := (Array.getElem?_eq_some_iff.1 hg).1
    have eg : ∀ args w, (callFunc 92 args).run Tryz.prog w = .ok (.enter 92 args) w := enters_of Tryz.func92 (by kernel_rfl) rfl
    have hS := AnyQ.slices_SortFunc Tryz.sortRd 7 Tryz.isAgg51 Tryz.sizeOf51 R7.enc R7.len R7.one R7.cf R7.swo 92 #[] g 0 cap d w eg (R7.lays g 0 d.size w) hH hgl (by omega)
    rw [hds] at hS
    change Calls Tryz.prog 94 _ _ _ at hS
    refine hS.mono ?_
    rintro e w' ⟨rfl, d', m, os, hp, hs, rfl⟩
    obtain ⟨hp1, _, hp2⟩ := hp
    rw [hds] at hp1
    have e1 : d'.extract 0 n = d' := by rw [← hp1]; simp
    have e2 : d.extract 0 n = d := by rw [← hds]; simp
    rw [e1, e2] at hp2
    have ex : d.toList.map (fun x : R7 => x.1) = xs := by
      apply List.ext_getElem
      · simp [hds, hl]
      · intro j hj1 hj2
        simp only [List.getElem_map, Array.getElem_toList]
        have := hdj j (by omega)
        rw [getElem!_pos d j (by omega)] at this
        rw [this]
        exact getD_eq hj2 []
    have hfs : (flatK R7.enc 7 d').size = n * 7 := by rw [size_flatK, hp1]
    have hcs : n * 7 ≤ cur.size := by rw [hc3]; exact Nat.mul_le_mul_right _ hc1
    have hW : sortWorldK R7.enc 7 w g 0 m d' os = sortWorld id w g 0 m (flatK R7.enc 7 d') os := rfl
    rw [hW]
    refine ⟨rfl, d'.toList.map (fun x : R7 => x.1), ?_, ?_, ⟨(flatK R7.enc 7 d').toList, ⟨by rw [Array.length_toList, hfs], .inr ⟨g, cap, putCells id 0 (flatK R7.enc 7 d') cur, rfl, hB, heap_sortWorld_same 0 m _ os hg, hc1, hc2, by simpa [putCells] using hc3, ?_⟩⟩, by simp [hp1], ?_, ?_⟩, below_sortWorld m _ os hB hgl, ?_⟩
    · rw [← ex]; exact hp2.map _
    · rw [List.pairwise_map, List.pairwise_iff_getElem]
      intro i j hi hj hij
      simp only [Array.length_toList] at hi hj
      have := hs i j (Nat.zero_le _) hij (by omega)
      rw [getElem!_pos d' i hi, getElem!_pos d' j hj] at this
      exact of_decide_eq_false this
    · have := putCells_take id (flatK R7.enc 7 d') cur (by omega)
      rw [hfs] at this
      rw [this, List.map_id]
    · intro u hu
      obtain ⟨t, ht, rfl⟩ := List.getElem_of_mem hu
      rw [Array.length_toList, hfs] at ht
      have := get_flatK R7.enc 7 d' t (by rw [hp1]; exact ht)
      rw [getElem!_pos _ _ (by omega)] at this
      rw [Array.getElem_toList, this]
      have hl7 := R7.len d'[t / 7]!
      rw [getElem!_pos _ _ (by rw [hl7]; exact Nat.mod_lt _ (by decide))]
      exact R7.one _ _ (List.getElem_mem _)
    · intro j x hj
      rw [List.getElem?_map] at hj
      have hjl : j < d'.size := by
        rcases Nat.lt_or_ge j d'.size with h | h
        · exact h
        · rw [List.getElem?_eq_none (by simpa using h)] at hj; cases hj
      show _ = _
      rw [flat_R7 d' j hjl]
      rw [Array.getElem?_toList, Array.getElem?_eq_getElem hjl] at hj
      simp only [Option.map_some, Option.some.injEq] at hj
      rw [getElem!_pos d' j hjl, hj]
    · intro k cs t hk ht
      refine heap_sortWorld_other _ _ _ _ (fun e => ?_) (Array.getElem?_eq_some_iff.1 hk).1
      subst e
      rw [hg] at hk
      injection hk with hk
      injection hk with _ hk
      exact ht hk.symm
end Go.Proofs.YtiiiegflobihjaaGreat

/- combine.rounds with combine.same. -/
namespace Go.Proofs.YtiiiegflobihjaaGreat
open Go.RowKit

set_option maxRecDepth 100000 in
set_option maxHeartbeats 800000 in
theorem sameRd (r0 r1 r2 r3 r4 r5 r6 : Int) (w : World) :
    Calls Tryz.prog 67 #[.agg #[.int .i64 r0, .int .i64 r1, .int .i64 r2, .int .i64 r3, .int .i64 r4, .int .i64 r5, .int .i64 r6]] w fun e w' => e = .returned (.agg #[.int .i64 r0, .int .i64 r1, .int .i64 r2, .int .i64 r3, .int .i64 r4, .int .i64 r5, .int .i64 r6]) ∧ Below w.heap.size w w' := by
  go_enter Tryz.func67, Tryz.ntmps67
  go_wp2
  refine bodyPost_ret (v := .agg #[.int .i64 r0, .int .i64 r1, .int .i64 r2, .int .i64 r3, .int .i64 r4, .int .i64 r5, .int .i64 r6]) (by simp [results, Tryz.results67, go_sem]) rfl ⟨rfl, ?_⟩
  exact ((Below.refl _ w).alloc (Nat.le_refl _) _).alloc (by simp) _

set_option maxRecDepth 100000 in
set_option maxHeartbeats 3200000 in
theorem roundsSame {w : World} {u : Value} {ms : List (List Int)} (hK : KS 8 w u ms) (h0 : 0 < ms.length) (hl : ms.length ≤ 1000) :
    Calls Tryz.prog 65 #[u, .func (.func 67) #[] #[]] w fun e w' => ∃ v, e = .returned v ∧ OwX 51 7 EI w' w.heap.size v (lets (ms.map rdOf)).length (lets (ms.map rdOf)) ∧ Below w.heap.size w w' := by
  obtain ⟨a, c, b, off, rfl, hae, hc, _⟩ := hK
  obtain rfl := hae h0
  have hcm := Lib.hid (fun W (hb : Below w.heap.size w W) j (hj : j < ms.length) => And.intro (hc j hj).1 ((hc j hj).2.keep hb))
  have hO0 : OwX 51 7 EI w w.heap.size (.slice none 0 0) 0 ((ms.map rdOf).take 0) := OwX.nil _ _
  have hmg : Hid (∀ j, j < ms.length → (ms.map rdOf).take (j + 1) = (ms.map rdOf).take j ++ [rdOf (ms.getD j [])]) := fun j hj => by
    rw [take_snoc (by rw [List.length_map]; exact hj) ([] : List Int), getD_eq (by rw [List.length_map]; exact hj), List.getElem_map, getD_eq hj]
  have hml : (ms.map rdOf).length = ms.length := List.length_map ..
  obtain ⟨L, hL⟩ : ∃ L, ms.map rdOf = L := ⟨_, rfl⟩
  rw [hL] at hO0 hmg hml ⊢
  replace hml := Lib.hid hml
  replace hL := Lib.hid hL
  clear hc hae
  go_enter Tryz.func65, Tryz.ntmps65
  go_wp2_with fail
  go_loopw [5, 10] (fun ov jv wr => ∃ j : Nat, jv = .int .i64 j ∧ j ≤ ms.length ∧ OwX 51 7 EI wr w.heap.size ov j (L.take j) ∧ Below w.heap.size w wr) (fun _ jv _ => ms.length - (intOf jv).toNat)
  case atStart => exact ⟨0, rfl, by omega, hO0, Below.refl _ _⟩
  case round =>
    clear hO0
    obtain ⟨j, rfl, hj, hO, hbr⟩ := hrel
    obtain ⟨oa, oc, hov⟩ := hO.shape
    subst hov
    by_cases hlt : j < ms.length
    · have hji : (j : Int) < (ms.length : Int) := by omega
      obtain ⟨hm8, hmc⟩ := hcm.out wr hbr j hlt
      have hsn := hmg.out j hlt
      obtain ⟨m, hm⟩ : ∃ m, ms.getD j [] = m := ⟨_, rfl⟩
      rw [hm] at hm8 hmc hsn
      obtain ⟨m0, m1, m2, m3, m4, m5, m6, m7, rfl⟩ := eight hm8
      obtain ⟨c0, c1, c2, c3, c4, c5, c6, c7⟩ := hmc.all8
      obtain ⟨Wb, hWb⟩ : ∃ Wb, Wb = wr.alloc (.cells #[.int .i64 m0, .int .i64 m1, .int .i64 m2, .int .i64 m3, .int .i64 m4, .int .i64 m5, .int .i64 m6, .int .i64 m7] 58) := ⟨_, rfl⟩
      have hbb : Below wr.heap.size wr Wb := by rw [hWb]; exact (Below.refl _ _).alloc (Nat.le_refl _) _
      have hbrb := bt hbr hbb hbr.size
      have hOb := hO.keep (EI.stab _) hbb
      have hj9 : j ≤ 1000000000000 := by omega
      have hsn : Hid (L.take (j + 1) = L.take j ++ [[m0, m1, m2, m3, m4, m5, m6]]) := hsn
      have HC := Lib.hid (sameRd m0 m1 m2 m3 m4 m5 m6 Wb)
      replace hm := Lib.hid hm
      clear hmc hm8 hO
      go_wp2_with fail
      rw [← hWb]
      replace hWb := Lib.hid hWb
      refine HC.out.mono ?_
      rintro e w1 ⟨rfl, hb1⟩
      have hb01 := bt hbrb hb1 hbrb.size
      have hO1 := hOb.keep (EI.stab _) hb1
      have hB1 : w.heap.size ≤ w1.heap.size := hb01.size
      have hEI : EI w1 [.int .i64 m0, .int .i64 m1, .int .i64 m2, .int .i64 m3, .int .i64 m4, .int .i64 m5, .int .i64 m6] [m0, m1, m2, m3, m4, m5, m6] := rfl
      have hc7 : ∀ u ∈ (#[.int .i64 m0, .int .i64 m1, .int .i64 m2, .int .i64 m3, .int .i64 m4, .int .i64 m5, .int .i64 m6] : Array Value).toList, u.oneCell' = true := fun u hu => by
        simp only [List.mem_cons, List.not_mem_nil, or_false] at hu
        rcases hu with rfl | rfl | rfl | rfl | rfl | rfl | rfl <;> rfl
      replace hEI := Lib.hid hEI
      replace hc7 := Lib.hid hc7
      go_wp2_with (at_builtin; refine wpAppX (x := [m0, m1, m2, m3, m4, m5, m6]) elemRd (by decide) (by decide) (EI.stab _) rfl _ _ rfl rfl hO1 rfl rfl rfl hc7.out hEI.out hj9 hB1 ?_)
      intro v2 w2 ho2 hg2 hb2 hx2
      rw [← hsn.out] at ho2
      have hbf := hb01.trans hb2
      go_wp2
      go_roundw
      case rel => exact ⟨j + 1, by go_num, hlt, ho2, hbf⟩
      case measure => simp [intOf]; omega
    · obtain rfl : j = ms.length := by omega
      have hge : ¬ ((ms.length : Int) < (ms.length : Int)) := by omega
      rw [show L.take ms.length = L by rw [← hml.out, List.take_length]] at hO
      obtain ⟨g, cap, hve, hgB⟩ := hO.form h0
      obtain ⟨rfl, rfl⟩ : oa = some ⟨g, 0, none⟩ ∧ cap = oc := by injection hve with h1 h2 h3; exact ⟨h1, h3.symm⟩
      have HS := Lib.hid (sortRds hO (by omega))
      clear hve hO
      go_wp2_with fail
      refine HS.out.mono ?_
      rintro e w1 ⟨rfl, ys, hp, hs, hy, hb1, _⟩
      have HC := Lib.hid (compactRd hy (by omega))
      rw [cmpc_lets hp hs] at HC
      have hb01 := hbr.trans hb1
      replace hp := Lib.hid hp
      replace hs := Lib.hid hs
      clear hy
      go_wp2_with fail
      refine HC.out.mono ?_
      rintro e w2 ⟨k, rfl, hz, hb2, _⟩
      have hlz := hz.length
      subst hlz
      have hb02 := hb01.trans hb2
      replace hz := Lib.hid hz
      go_wp2
      go_ret
      exact ⟨_, rfl, hz.out, hb02⟩
end Go.Proofs.YtiiiegflobihjaaGreat

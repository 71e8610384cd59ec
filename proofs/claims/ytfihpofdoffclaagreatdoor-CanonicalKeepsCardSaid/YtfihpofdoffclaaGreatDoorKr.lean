/- Texts of this claim, put together: Sh J2 J3. -/
import Derived.Ground.SlsfProg
import Derived.Shelf.SlSortCmp.WholeK
import Derived.Shelf.SlSortCmp.NoneTotal
import Derived.Test.YtfihpofdoffclaaGreatDoorProg
import Derived.Test.YtfihpofdoffclaaGreatDoorKf
import Derived.Test.YtfihpofdoffclaaGreatDoorKp
import Derived.Test.YtfihpofdoffclaaGreatDoorKk
import Derived.Test.YtfihpofdoffclaaGreatDoorKq

/-
  DERIVED: THE SHELF's CONTRACTS AT THIS DUMP, IN PLAIN WORDS (tools/lay-plain.mjs out of 'YtfihpofdoffclaaGreatDoorShScratch.lean', which tools/lay-shelf.mjs wrote): THE SAME DECLARATIONS UNDER THE SAME NAMES: 'import', 'namespace', 'open', 'def', 'theorem' AND NOTHING ELSE: no command of the shelf's: FOR A HAND-IN. Each laying: the table of numbers ('.._ren') and one theorem, a field a fact of the dump's own or the kernel's comparison; each contract: ONE APPLICATION.
-/
namespace Go.Proofs
open Go.Shelf
def Tryz.sortRd_ren : Go.Shelf.Ren := ⟨fun | 6 => 93 | 15 => 76 | 14 => 126 | 28 => 118 | 29 => 119 | 20 => 144 | 21 => 145 | 22 => 146 | 23 => 147 | 24 => 148 | 25 => 149 | 26 => 150 | 27 => 151 | 46 => 163 | 47 => 135 | 48 => 136 | 49 => 164 | 50 => 165 | 57 => 172 | n => n, fun | 22 => 45 | 24 => 79 | 25 => 140 | 3 => 3 | 39 => 109 | 0 => 0 | 53 => 164 | 55 => 166 | 4 => 4 | 46 => 158 | 45 => 157 | 50 => 119 | 5 => 5 | 9 => 9 | 66 => 177 | 70 => 181 | 76 => 196 | 77 => 197 | n => n, fun | n => n⟩
theorem Tryz.sortRd : Go.Proofs.SlLaysF0.n6 Tryz.prog Tryz.sortRd_ren := {
  mixed := by kernel_rfl
  f6 := ⟨Tryz.f93.name, by decide, Tryz.func93.trans (congrArg some (by kernel_rfl))⟩
  f14 := ⟨Tryz.f126.name, by decide, Tryz.func126.trans (congrArg some (by kernel_rfl))⟩
  f15 := Tryz.func76.trans (congrArg some (by kernel_rfl))
  f20 := ⟨Tryz.f144.name, by decide, Tryz.func144.trans (congrArg some (by kernel_rfl))⟩
  f21 := ⟨Tryz.f145.name, by decide, Tryz.func145.trans (congrArg some (by kernel_rfl))⟩
  f22 := ⟨Tryz.f146.name, by decide, Tryz.func146.trans (congrArg some (by kernel_rfl))⟩
  f23 := ⟨Tryz.f147.name, by decide, Tryz.func147.trans (congrArg some (by kernel_rfl))⟩
  f24 := ⟨Tryz.f148.name, by decide, Tryz.func148.trans (congrArg some (by kernel_rfl))⟩
  f25 := ⟨Tryz.f149.name, by decide, Tryz.func149.trans (congrArg some (by kernel_rfl))⟩
  f26 := ⟨Tryz.f150.name, by decide, Tryz.func150.trans (congrArg some (by kernel_rfl))⟩
  f27 := ⟨Tryz.f151.name, by decide, Tryz.func151.trans (congrArg some (by kernel_rfl))⟩
  f28 := Tryz.func118.trans (congrArg some (by kernel_rfl))
  f29 := Tryz.func119.trans (congrArg some (by kernel_rfl))
  f46 := ⟨Tryz.f163.name, by decide, Tryz.func163.trans (congrArg some (by kernel_rfl))⟩
  f47 := Tryz.func135.trans (congrArg some (by kernel_rfl))
  f48 := Tryz.func136.trans (congrArg some (by kernel_rfl))
  f49 := ⟨Tryz.f164.name, by decide, Tryz.func164.trans (congrArg some (by kernel_rfl))⟩
  f50 := ⟨Tryz.f165.name, by decide, Tryz.func165.trans (congrArg some (by kernel_rfl))⟩
  f57 := ⟨Tryz.f172.name, by decide, Tryz.func172.trans (congrArg some (by kernel_rfl))⟩
  t0 := Tryz.underlying0
  a0 := Tryz.isAgg0
  z0 := Tryz.sizeOf0
  v0 := Tryz.zeroValue0
  t3 := Tryz.underlying3
  a3 := Tryz.isAgg3
  z3 := Tryz.sizeOf3
  v3 := Tryz.zeroValue3
  t4 := Tryz.underlying4
  a4 := Tryz.isAgg4
  z4 := Tryz.sizeOf4
  v4 := Tryz.zeroValue4
  t5 := Tryz.underlying5
  a5 := Tryz.isAgg5
  z5 := Tryz.sizeOf5
  v5 := Tryz.zeroValue5
  t9 := Tryz.underlying9
  a9 := Tryz.isAgg9
  z9 := Tryz.sizeOf9
  v9 := Tryz.zeroValue9
  t22 := Tryz.underlying45
  a22 := Tryz.isAgg45
  z22 := Tryz.sizeOf45
  v22 := Tryz.zeroValue45
  t25 := Tryz.underlying140
  a25 := Tryz.isAgg140
  z25 := Tryz.sizeOf140
  v25 := Tryz.zeroValue140
  t39 := Tryz.underlying109
  a39 := Tryz.isAgg109
  z39 := Tryz.sizeOf109
  v39 := Tryz.zeroValue109
  t45 := Tryz.underlying157
  a45 := Tryz.isAgg157
  z45 := Tryz.sizeOf157
  v45 := Tryz.zeroValue157
  t46 := Tryz.underlying158
  a46 := Tryz.isAgg158
  z46 := Tryz.sizeOf158
  v46 := Tryz.zeroValue158
  t50 := Tryz.underlying119
  a50 := Tryz.isAgg119
  z50 := Tryz.sizeOf119
  v50 := Tryz.zeroValue119
  t53 := Tryz.underlying164
  a53 := Tryz.isAgg164
  z53 := Tryz.sizeOf164
  v53 := Tryz.zeroValue164
  t55 := Tryz.underlying166
  a55 := Tryz.isAgg166
  z55 := Tryz.sizeOf166
  v55 := Tryz.zeroValue166
  t66 := Tryz.underlying177
  a66 := Tryz.isAgg177
  z66 := Tryz.sizeOf177
  v66 := Tryz.zeroValue177
  t70 := Tryz.underlying181
  a70 := Tryz.isAgg181
  z70 := Tryz.sizeOf181
  v70 := Tryz.zeroValue181
  t76 := Tryz.underlying196
  a76 := Tryz.isAgg196
  z76 := Tryz.sizeOf196
  v76 := Tryz.zeroValue196
  t77 := Tryz.underlying197
  a77 := Tryz.isAgg197
  z77 := Tryz.sizeOf197
  v77 := Tryz.zeroValue197 }
end Go.Proofs

/- round.Compare as the library's sort asks it; slices.SortFunc at rounds. -/
namespace Go.Proofs.YtfihpofdoffclaaGreatDoor
open Go.RowKit

set_option maxRecDepth 100000 in
set_option maxHeartbeats 6400000 in
theorem graphCompareG (n h0 h1 h2 h3 h4 m g0 g1 g2 g3 g4 : Int) (w : World) : Calls Tryz.prog 127 #[.agg #[.int .i64 n, .int .i64 h0, .int .i64 h1, .int .i64 h2, .int .i64 h3, .int .i64 h4], .agg #[.int .i64 m, .int .i64 g0, .int .i64 g1, .int .i64 g2, .int .i64 g3, .int .i64 g4]] w fun e w' => e = .returned (.int .i64 (cmpL [n, h0, h1, h2, h3, h4] [m, g0, g1, g2, g3, g4])) ∧ Below w.heap.size w w' ∧ w.drawn ≤ w'.drawn := by
  by_cases he : [n, h0, h1, h2, h3, h4] = [m, g0, g1, g2, g3, g4]
  · have hE := Lib.hid (show cmpL [n, h0, h1, h2, h3, h4] [m, g0, g1, g2, g3, g4] = 0 by rw [he]; exact cmpL_self _)
    have he' := Lib.hid (eqL_true.2 he)
    clear he
    go_enter Tryz.func127, Tryz.ntmps127
    have he1 := he'.out
    go_wp2
    go_ret
    exact ⟨ret_int hE.out.symm, (((Below.refl w.heap.size w).alloc (Nat.le_refl _) _).alloc (by simp) _), (by first | exact Nat.le_refl _ | exact hd1 | exact Nat.le_add_right _ _ | exact Nat.le_trans (Nat.le_add_right _ _) (Nat.le_add_right _ _))⟩
  · have he' := eqL_false.2 he
    clear he
    obtain ⟨E, hE⟩ : ∃ E, cmpL [n, h0, h1, h2, h3, h4] [m, g0, g1, g2, g3, g4] = E := ⟨_, rfl⟩
    rw [hE]
    by_cases hn : n = m
    · have hE0 := Lib.hid (show cmpL [h0, h1, h2, h3, h4] [g0, g1, g2, g3, g4] = E by rw [← hE]; exact (cmpL_hd (cmpI_zero.2 hn)).symm)
      have hn' : (n != m) = false := by simp [hn]
      replace hn := Lib.hid hn
      clear hE
      go_enter Tryz.func127, Tryz.ntmps127
      go_wp2
      go_loopw [20] (fun iv wr => ∃ (k : Int) (dn : Nat), wr = ((w.alloc (.cells #[.int .i64 n, .int .i64 h0, .int .i64 h1, .int .i64 h2, .int .i64 h3, .int .i64 h4] 77)).alloc (.cells #[.int .i64 m, .int .i64 g0, .int .i64 g1, .int .i64 g2, .int .i64 g3, .int .i64 g4] 77)).drewN dn ∧ iv = .int .i64 k ∧ ((k = 0 ∧ Hid (cmpL [h0, h1, h2, h3, h4] [g0, g1, g2, g3, g4] = E)) ∨ (k = 1 ∧ Hid (cmpL [h1, h2, h3, h4] [g1, g2, g3, g4] = E)) ∨ (k = 2 ∧ Hid (cmpL [h2, h3, h4] [g2, g3, g4] = E)) ∨ (k = 3 ∧ Hid (cmpL [h3, h4] [g3, g4] = E)) ∨ (k = 4 ∧ Hid (cmpL [h4] [g4] = E)) ∨ (k = 5 ∧ Hid (cmpL [] [] = E)))) (fun iv _ => 5 - (intOf iv).toNat)
      case atStart => exact ⟨0, 0, (by first | rfl | simp), rfl, .inl ⟨rfl, hE0⟩⟩
      case round =>
        clear hE0
        obtain ⟨k, dn, rfl, rfl, hk⟩ := hrel
        rcases hk with ⟨rfl, hg⟩ | ⟨rfl, hg⟩ | ⟨rfl, hg⟩ | ⟨rfl, hg⟩ | ⟨rfl, hg⟩ | ⟨rfl, hg⟩
        · obtain ⟨c, hc⟩ : ∃ c, cmpI h0 g0 = c := ⟨_, rfl⟩
          have hq := fun W => cmpIntQ h0 g0 W
          simp only [hc] at hq
          replace hq := Lib.hid hq
          by_cases hz0 : c = 0
          · subst hz0
            have hz := Lib.hid hc
            clear hc
            go_wp2
            go_quiet ((go_at_call 128; exact quietOn (hq.out _)))
            go_wp2
            go_roundw
            case rel => exact ⟨1, _, (by first | exact rfl | exact World.drewN_drewN _ _ _), rfl, .inr (.inl ⟨rfl, by show _ = _; rw [← hg.out, cmpL_hd hz.out]⟩)⟩
            case measure => simp [intOf]
          · have hz' : (c != 0) = true := by simpa using hz0
            have hz := Lib.hid (show ¬ cmpI h0 g0 = 0 by rw [hc]; exact hz0)
            replace hc := Lib.hid hc
            clear hz0
            go_wp2
            go_quiet ((go_at_call 128; exact quietOn (hq.out _)))
            go_wp2
            go_ret
            exact ⟨ret_int (by rw [← hg.out, cmpL_ne hz.out, hc.out]), (by first | exact below_drewN (((Below.refl w.heap.size w).alloc (Nat.le_refl _) _).alloc (by simp) _) _ | exact below_drewN (below_drewN (((Below.refl w.heap.size w).alloc (Nat.le_refl _) _).alloc (by simp) _) _) _ | exact below_drewN (below_drewN (below_drewN (((Below.refl w.heap.size w).alloc (Nat.le_refl _) _).alloc (by simp) _) _) _) _), (by first | exact Nat.le_refl _ | exact hd1 | exact Nat.le_add_right _ _ | exact Nat.le_trans (Nat.le_add_right _ _) (Nat.le_add_right _ _))⟩
        · obtain ⟨c, hc⟩ : ∃ c, cmpI h1 g1 = c := ⟨_, rfl⟩
          have hq := fun W => cmpIntQ h1 g1 W
          simp only [hc] at hq
          replace hq := Lib.hid hq
          by_cases hz0 : c = 0
          · subst hz0
            have hz := Lib.hid hc
            clear hc
            go_wp2
            go_quiet ((go_at_call 128; exact quietOn (hq.out _)))
            go_wp2
            go_roundw
            case rel => exact ⟨2, _, (by first | exact rfl | exact World.drewN_drewN _ _ _), rfl, .inr (.inr (.inl ⟨rfl, by show _ = _; rw [← hg.out, cmpL_hd hz.out]⟩))⟩
            case measure => simp [intOf]
          · have hz' : (c != 0) = true := by simpa using hz0
            have hz := Lib.hid (show ¬ cmpI h1 g1 = 0 by rw [hc]; exact hz0)
            replace hc := Lib.hid hc
            clear hz0
            go_wp2
            go_quiet ((go_at_call 128; exact quietOn (hq.out _)))
            go_wp2
            go_ret
            exact ⟨ret_int (by rw [← hg.out, cmpL_ne hz.out, hc.out]), (by first | exact below_drewN (((Below.refl w.heap.size w).alloc (Nat.le_refl _) _).alloc (by simp) _) _ | exact below_drewN (below_drewN (((Below.refl w.heap.size w).alloc (Nat.le_refl _) _).alloc (by simp) _) _) _ | exact below_drewN (below_drewN (below_drewN (((Below.refl w.heap.size w).alloc (Nat.le_refl _) _).alloc (by simp) _) _) _) _), (by first | exact Nat.le_refl _ | exact hd1 | exact Nat.le_add_right _ _ | exact Nat.le_trans (Nat.le_add_right _ _) (Nat.le_add_right _ _))⟩
        · obtain ⟨c, hc⟩ : ∃ c, cmpI h2 g2 = c := ⟨_, rfl⟩
          have hq := fun W => cmpIntQ h2 g2 W
          simp only [hc] at hq
          replace hq := Lib.hid hq
          by_cases hz0 : c = 0
          · subst hz0
            have hz := Lib.hid hc
            clear hc
            go_wp2
            go_quiet ((go_at_call 128; exact quietOn (hq.out _)))
            go_wp2
            go_roundw
            case rel => exact ⟨3, _, (by first | exact rfl | exact World.drewN_drewN _ _ _), rfl, .inr (.inr (.inr (.inl ⟨rfl, by show _ = _; rw [← hg.out, cmpL_hd hz.out]⟩)))⟩
            case measure => simp [intOf]
          · have hz' : (c != 0) = true := by simpa using hz0
            have hz := Lib.hid (show ¬ cmpI h2 g2 = 0 by rw [hc]; exact hz0)
            replace hc := Lib.hid hc
            clear hz0
            go_wp2
            go_quiet ((go_at_call 128; exact quietOn (hq.out _)))
            go_wp2
            go_ret
            exact ⟨ret_int (by rw [← hg.out, cmpL_ne hz.out, hc.out]), (by first | exact below_drewN (((Below.refl w.heap.size w).alloc (Nat.le_refl _) _).alloc (by simp) _) _ | exact below_drewN (below_drewN (((Below.refl w.heap.size w).alloc (Nat.le_refl _) _).alloc (by simp) _) _) _ | exact below_drewN (below_drewN (below_drewN (((Below.refl w.heap.size w).alloc (Nat.le_refl _) _).alloc (by simp) _) _) _) _), (by first | exact Nat.le_refl _ | exact hd1 | exact Nat.le_add_right _ _ | exact Nat.le_trans (Nat.le_add_right _ _) (Nat.le_add_right _ _))⟩
        · obtain ⟨c, hc⟩ : ∃ c, cmpI h3 g3 = c := ⟨_, rfl⟩
          have hq := fun W => cmpIntQ h3 g3 W
          simp only [hc] at hq
          replace hq := Lib.hid hq
          by_cases hz0 : c = 0
          · subst hz0
            have hz := Lib.hid hc
            clear hc
            go_wp2
            go_quiet ((go_at_call 128; exact quietOn (hq.out _)))
            go_wp2
            go_roundw
            case rel => exact ⟨4, _, (by first | exact rfl | exact World.drewN_drewN _ _ _), rfl, .inr (.inr (.inr (.inr (.inl ⟨rfl, by show _ = _; rw [← hg.out, cmpL_hd hz.out]⟩))))⟩
            case measure => simp [intOf]
          · have hz' : (c != 0) = true := by simpa using hz0
            have hz := Lib.hid (show ¬ cmpI h3 g3 = 0 by rw [hc]; exact hz0)
            replace hc := Lib.hid hc
            clear hz0
            go_wp2
            go_quiet ((go_at_call 128; exact quietOn (hq.out _)))
            go_wp2
            go_ret
            exact ⟨ret_int (by rw [← hg.out, cmpL_ne hz.out, hc.out]), (by first | exact below_drewN (((Below.refl w.heap.size w).alloc (Nat.le_refl _) _).alloc (by simp) _) _ | exact below_drewN (below_drewN (((Below.refl w.heap.size w).alloc (Nat.le_refl _) _).alloc (by simp) _) _) _ | exact below_drewN (below_drewN (below_drewN (((Below.refl w.heap.size w).alloc (Nat.le_refl _) _).alloc (by simp) _) _) _) _), (by first | exact Nat.le_refl _ | exact hd1 | exact Nat.le_add_right _ _ | exact Nat.le_trans (Nat.le_add_right _ _) (Nat.le_add_right _ _))⟩
        · obtain ⟨c, hc⟩ : ∃ c, cmpI h4 g4 = c := ⟨_, rfl⟩
          have hq := fun W => cmpIntQ h4 g4 W
          simp only [hc] at hq
          replace hq := Lib.hid hq
          by_cases hz0 : c = 0
          · subst hz0
            have hz := Lib.hid hc
            clear hc
            go_wp2
            go_quiet ((go_at_call 128; exact quietOn (hq.out _)))
            go_wp2
            go_roundw
            case rel => exact ⟨5, _, (by first | exact rfl | exact World.drewN_drewN _ _ _), rfl, .inr (.inr (.inr (.inr (.inr (⟨rfl, by show _ = _; rw [← hg.out, cmpL_hd hz.out]⟩)))))⟩
            case measure => simp [intOf]
          · have hz' : (c != 0) = true := by simpa using hz0
            have hz := Lib.hid (show ¬ cmpI h4 g4 = 0 by rw [hc]; exact hz0)
            replace hc := Lib.hid hc
            clear hz0
            go_wp2
            go_quiet ((go_at_call 128; exact quietOn (hq.out _)))
            go_wp2
            go_ret
            exact ⟨ret_int (by rw [← hg.out, cmpL_ne hz.out, hc.out]), (by first | exact below_drewN (((Below.refl w.heap.size w).alloc (Nat.le_refl _) _).alloc (by simp) _) _ | exact below_drewN (below_drewN (((Below.refl w.heap.size w).alloc (Nat.le_refl _) _).alloc (by simp) _) _) _ | exact below_drewN (below_drewN (below_drewN (((Below.refl w.heap.size w).alloc (Nat.le_refl _) _).alloc (by simp) _) _) _) _), (by first | exact Nat.le_refl _ | exact hd1 | exact Nat.le_add_right _ _ | exact Nat.le_trans (Nat.le_add_right _ _) (Nat.le_add_right _ _))⟩
        · go_wp2
          go_ret
          exact ⟨ret_int hg.out, (by first | exact below_drewN (((Below.refl w.heap.size w).alloc (Nat.le_refl _) _).alloc (by simp) _) _ | exact below_drewN (below_drewN (((Below.refl w.heap.size w).alloc (Nat.le_refl _) _).alloc (by simp) _) _) _ | exact below_drewN (below_drewN (below_drewN (((Below.refl w.heap.size w).alloc (Nat.le_refl _) _).alloc (by simp) _) _) _) _), (by first | exact Nat.le_refl _ | exact hd1 | exact Nat.le_add_right _ _ | exact Nat.le_trans (Nat.le_add_right _ _) (Nat.le_add_right _ _))⟩
    · have hE0 := Lib.hid (show cmpI n m = E by rw [← hE, cmpL_ne (fun h => hn (cmpI_zero.1 h))])
      have hn' : (n != m) = true := by simpa using hn
      clear hE hn
      go_enter Tryz.func127, Tryz.ntmps127
      go_wp2_with (go_at_call 128; refine (cmpInt _ _ _).mono ?_; rintro e w1 ⟨rfl, rfl⟩)
      go_ret
      exact ⟨ret_int hE0.out, (((Below.refl w.heap.size w).alloc (Nat.le_refl _) _).alloc (by simp) _), (by first | exact Nat.le_refl _ | exact hd1 | exact Nat.le_add_right _ _ | exact Nat.le_trans (Nat.le_add_right _ _) (Nat.le_add_right _ _))⟩

set_option maxRecDepth 100000 in
set_option maxHeartbeats 3200000 in
theorem roundCompareG (n h0 h1 h2 h3 h4 f m g0 g1 g2 g3 g4 g : Int) (w : World) : Calls Tryz.prog 94 #[.agg #[.int .i64 n, .int .i64 h0, .int .i64 h1, .int .i64 h2, .int .i64 h3, .int .i64 h4, .int .i64 f], .agg #[.int .i64 m, .int .i64 g0, .int .i64 g1, .int .i64 g2, .int .i64 g3, .int .i64 g4, .int .i64 g]] w fun e w' => e = .returned (.int .i64 (cmpL [n, h0, h1, h2, h3, h4, f] [m, g0, g1, g2, g3, g4, g])) ∧ Below w.heap.size w w' ∧ w.drawn ≤ w'.drawn := by
  have hb : Below w.heap.size w ((w.alloc (.cells #[.int .i64 n, .int .i64 h0, .int .i64 h1, .int .i64 h2, .int .i64 h3, .int .i64 h4, .int .i64 f] 79)).alloc (.cells #[.int .i64 m, .int .i64 g0, .int .i64 g1, .int .i64 g2, .int .i64 g3, .int .i64 g4, .int .i64 g] 79)) := ((Below.refl _ _).alloc (Nat.le_refl _) _).alloc (by simp) _
  have HG := Lib.hid (fun W => graphCompareG n h0 h1 h2 h3 h4 m g0 g1 g2 g3 g4 W)
  by_cases he : [n, h0, h1, h2, h3, h4, f] = [m, g0, g1, g2, g3, g4, g]
  · have hE := Lib.hid (show cmpL [n, h0, h1, h2, h3, h4, f] [m, g0, g1, g2, g3, g4, g] = 0 from cmpL_zero.2 he)
    have he' := Lib.hid (eqL_true.2 he)
    clear he
    go_enter Tryz.func94, Tryz.ntmps94
    have he1 := he'.out
    go_wp2
    go_ret
    exact ⟨ret_int hE.out.symm, hb, (by first | exact Nat.le_refl _ | exact hd1 | exact Nat.le_add_right _ _ | exact Nat.le_trans (Nat.le_add_right _ _) (Nat.le_add_right _ _))⟩
  · have he' := eqL_false.2 he
    clear he
    by_cases hg : [n, h0, h1, h2, h3, h4] = [m, g0, g1, g2, g3, g4]
    · have hE := Lib.hid (cmp7_2 (f := f) (g := g) hg)
      have hg' := Lib.hid (eqL_true.2 hg)
      clear hg
      go_enter Tryz.func94, Tryz.ntmps94
      have hg1 := hg'.out
      go_wp2_with fail
      refine (cmpInt f g _).mono ?_; rintro e w1 ⟨rfl, rfl⟩
      go_wp2
      go_ret
      exact ⟨ret_int hE.out.symm, hb, (by first | exact Nat.le_refl _ | exact hd1 | exact Nat.le_add_right _ _ | exact Nat.le_trans (Nat.le_add_right _ _) (Nat.le_add_right _ _))⟩
    · have hE := Lib.hid (cmp7_1 (f := f) (g := g) hg)
      have hg' := eqL_false.2 hg
      clear hg
      go_enter Tryz.func94, Tryz.ntmps94
      go_wp2_with fail
      refine (HG.out _).mono ?_; rintro e w1 ⟨rfl, hb1, hd1⟩
      go_wp2
      go_ret
      exact ⟨ret_int hE.out.symm, bt hb hb1 hb.size, (by first | exact Nat.le_refl _ | exact hd1 | exact Nat.le_add_right _ _ | exact Nat.le_trans (Nat.le_add_right _ _) (Nat.le_add_right _ _))⟩


open Go.Shelf Go.Lib Go.Sort
theorem grown_of {w w' : World} (hb : Go.RowKit.Below w.heap.size w w') (hd : w.drawn ≤ w'.drawn) : ∃ q os, w' = grow (w.drewN q) os := by
  refine ⟨w'.drawn - w.drawn, w'.heap.extract w.heap.size w'.heap.size, ?_⟩
  have hh : w'.heap = w.heap ++ w'.heap.extract w.heap.size w'.heap.size := by
    apply Array.ext_getElem?
    intro k
    by_cases hk : k < w.heap.size
    · rw [Array.getElem?_append_left hk]; exact hb.block k hk
    · have hs := hb.size
      rw [Array.getElem?_append_right (by omega), Array.getElem?_extract]
      by_cases hk2 : k < w'.heap.size
      · rw [if_pos (by omega)]; congr 1; omega
      · rw [if_neg (by omega), Array.getElem?_eq_none (by omega)]
  have h1 := hb.os
  have h2 := hb.tape
  have h3 := hb.output
  have hdd : w.drawn + (w'.drawn - w.drawn) = w'.drawn := by omega
  cases w with
  | mk heap tape drawn os output =>
    cases w' with
    | mk heap' tape' drawn' os' output' =>
      simp only at h1 h2 h3 hh hdd
      subst h1 h2 h3
      simp only [grow, World.drewN]
      rw [hdd, ← hh]
/-- Rounds, for the library. -/
def R7 : Type := { x : List Int // x.length = 7 }
instance : Inhabited R7 := ⟨⟨[0, 0, 0, 0, 0, 0, 0], rfl⟩⟩
def R7.enc (x : R7) : List Value := x.1.map (Value.int .i64)
def R7.cf (x y : R7) : Int := cmpL x.1 y.1
theorem R7.len (x : R7) : x.enc.length = 7 := by rw [R7.enc, List.length_map]; exact x.2
theorem R7.one (x : R7) : ∀ v ∈ x.enc, v.oneCell' = true := fun v hv => by
  obtain ⟨i, _, rfl⟩ := List.mem_map.1 hv; rfl
theorem R7.swo : SWO (ltOf R7.cf) where
  irrefl _ := decide_eq_false fun h => cmpL_asymm _ _ h h
  trans _ _ _ h1 h2 := decide_eq_true (cmpL_trans _ _ _ (of_decide_eq_true h1) (of_decide_eq_true h2))
  ntrans _ _ _ h1 h2 := decide_eq_false (cmpL_ntrans _ _ _ (of_decide_eq_false h1) (of_decide_eq_false h2))
theorem R7.lays (blk off size : Nat) (w : World) : CmpLays Tryz.prog 94 #[] R7.enc 7 R7.cf blk off size w := by
  rintro m os dk _ ⟨x, hx⟩ ⟨y, hy⟩
  obtain ⟨x0, x1, x2, x3, x4, x5, x6, rfl⟩ := seven hx
  obtain ⟨y0, y1, y2, y3, y4, y5, y6, rfl⟩ := seven hy
  exact (roundCompareG x0 x1 x2 x3 x4 x5 x6 y0 y1 y2 y3 y4 y5 y6 _).mono fun _ _ ⟨he, hb, hd⟩ => ⟨he, grown_of hb hd⟩
theorem heap_sortWorld_other {α : Type} [Inhabited α] {enc : α → Value} {w : World} {blk k : Nat} (off n : Nat) (d : Array α) (os : Array Obj) (hne : k ≠ blk) (hk : k < w.heap.size) : (sortWorld enc w blk off n d os).heap[k]? = w.heap[k]? := by
  simp only [sortWorld, grow, putRow, mapBlock, Sort.ahead]
  rw [Array.getElem?_append_left (by simpa using hk), Array.getElem?_modify, if_neg (fun h => hne h.symm)]
theorem heap_sortWorld_same {α : Type} [Inhabited α] {enc : α → Value} {w : World} {blk : Nat} (off n : Nat) (d : Array α) (os : Array Obj) {cs : Array Value} {t : TypeId} {fz : Nat × Nat} (h : w.heap[blk]? = some (.cells cs t fz)) : (sortWorld enc w blk off n d os).heap[blk]? = some (.cells (putCells enc off d cs) t fz) := by
  simp only [sortWorld, grow, putRow, mapBlock, Sort.ahead]
  rw [Array.getElem?_append_left (by simpa using (Array.getElem?_eq_some_iff.1 h).1), Array.getElem?_modify, if_pos rfl, h]
  rfl
theorem below_sortWorld {α : Type} [Inhabited α] {enc : α → Value} {w : World} {blk : Nat} (n : Nat) (d : Array α) (os : Array Obj) {B : Nat} (hB : B ≤ blk) (hb : blk < w.heap.size) : Go.RowKit.Below B w (sortWorld enc w blk 0 n d os) := by
  refine ⟨rfl, rfl, rfl, ?_, fun k hk => heap_sortWorld_other _ _ _ _ (by omega) (by omega)⟩
  simp [sortWorld, grow, putRow, mapBlock, Sort.ahead]
theorem putCells_take {α : Type} [Inhabited α] (enc : α → Value) (d : Array α) (cs : Array Value) (hd : d.size ≤ cs.size) : (putCells enc 0 d cs).toList.take d.size = d.toList.map enc := by
  apply List.ext_getElem?
  intro k
  rw [List.getElem?_take]
  by_cases hk : k < d.size
  · rw [if_pos hk, Array.getElem?_toList]
    simp only [putCells, Array.getElem?_mapIdx]
    rw [Array.getElem?_eq_getElem (by omega : k < cs.size)]
    simp [hk]
  · rw [if_neg hk, List.getElem?_eq_none (by simp; omega)]
theorem flat_R7 (d : Array R7) (j : Nat) (hj : j < d.size) : ((flatK R7.enc 7 d).toList.drop (j * 7)).take 7 = (d[j]!).1.map (Value.int .i64) := by
  have h7 : (d[j]!).1.length = 7 := (d[j]!).2
  apply List.ext_getElem?
  intro k
  rw [List.getElem?_take]
  by_cases hk : k < 7
  · have hle : j * 7 + 7 ≤ d.size * 7 := by rw [← Nat.succ_mul]; exact Nat.mul_le_mul_right _ hj
    rw [if_pos hk, List.getElem?_drop, Array.getElem?_toList, Array.getElem?_eq_getElem (by rw [size_flatK]; omega)]
    have := get_flatK R7.enc 7 d (j * 7 + k) (by omega)
    rw [getElem!_pos _ _ (by rw [size_flatK]; omega)] at this
    rw [this, show (j * 7 + k) / 7 = j by omega, show (j * 7 + k) % 7 = k by omega]
    have hl := R7.len d[j]!
    rw [getElem!_pos _ k (by omega)]
    show some _ = (R7.enc d[j]!)[k]?
    rw [List.getElem?_eq_getElem (by omega)]
  · rw [if_neg hk, List.getElem?_eq_none (by simp; omega)]
/-- What the sort leaves. -/
def SortOut (w : World) (B : Nat) (v : Value) (n : Nat) (xs : List (List Int)) (e : Ending) (w' : World) : Prop :=
  e = .returned (.tuple #[]) ∧ ∃ ys, ys.Perm xs ∧ ys.Pairwise (fun a b => ¬ cmpL b a < 0) ∧ OwX 79 7 EI w' B v n ys ∧ Go.RowKit.Below B w w' ∧ KeepX 79 w w'
theorem sortRds {w : World} {B g n cap : Nat} {xs : List (List Int)} (h : OwX 79 7 EI w B (.slice (some ⟨g, 0, none⟩) n cap) n xs) (hn : n ≤ 1000000) :
    Calls Tryz.prog 93 #[.slice (some ⟨g, 0, none⟩) n cap, .func (.func 94) #[] #[]] w (SortOut w B (.slice (some ⟨g, 0, none⟩) n cap) n xs) := by
  have hl := h.length
  have h7 : ∀ j, j < n → (xs.getD j []).length = 7 := fun j hj => (h.intCells hj).1
  have hci : ∀ j, j < n → CI w g (j * 7) (xs.getD j []) := fun j hj => (h.intCells hj).2
  have hfz : ∀ j, w.frozen? ⟨g, j, none⟩ = false := fun j => h.frozen j
  obtain ⟨ws, h1, _⟩ := h
  rcases h1.2 with ⟨h0, _⟩ | ⟨g', cap', cur, he, hB, hg, hc1, hc2, hc3, hc4⟩
  · cases h0
  · injection he with he1 he2 he3
    injection he1 with he1
    injection he1 with he1
    subst he1 he3
    let mk : Fin n → R7 := fun j => ⟨xs.getD j [], h7 j j.2⟩
    obtain ⟨d, hd⟩ : ∃ d, d = Array.ofFn mk := ⟨_, rfl⟩
    have hds : d.size = n := by rw [hd]; simp
    have hdj : ∀ j (hj : j < n), d[j]! = mk ⟨j, hj⟩ := fun j hj => by rw [getElem!_pos d j (by omega)]; simp [hd]
    have hH : HoldsK R7.enc 7 w g 0 d := by
      intro t ht
      rw [size_flatK, hds] at ht
      have htj : t / 7 < n := by rw [Nat.div_lt_iff_lt_mul (by decide)]; exact ht
      have hm : t % 7 < 7 := Nat.mod_lt _ (by decide)
      constructor
      · rw [get_flatK _ _ _ _ (by rw [hds]; exact ht), hdj _ htj]
        have := hci (t / 7) htj (t % 7) (by rw [h7 _ htj]; exact hm)
        rw [show t / 7 * 7 + t % 7 = 0 + t by rw [Nat.mul_comm, Nat.div_add_mod, Nat.zero_add]] at this
        rw [this]
        show some _ = some (id ((xs.getD (t / 7) []).map (Value.int .i64))[t % 7]!)
        have hl7 := h7 _ htj
        rw [getElem!_pos _ _ (by rw [List.length_map, hl7]; exact hm), List.getElem_map, getD_eq (by rw [hl7]; exact hm)]
        rfl
      · rw [Nat.zero_add]; exact hfz t
    have hgl := (Array.getElem?_eq_some_iff.1 hg).1
    have eg : ∀ args w, (callFunc 94 args).run Tryz.prog w = .ok (.enter 94 args) w := enters_of Tryz.func94 (by kernel_rfl) rfl
    have hS := AnyQ.slices_SortFunc Tryz.sortRd 7 Tryz.isAgg79 Tryz.sizeOf79 R7.enc R7.len R7.one R7.cf R7.swo 94 #[] g 0 cap d w eg (R7.lays g 0 d.size w) hH hgl (by omega)
    rw [hds] at hS
    change Calls Tryz.prog 93 _ _ _ at hS
    refine hS.mono ?_
    rintro e w' ⟨rfl, d', m, os, hp, hs, rfl⟩
    obtain ⟨hp1, _, hp2⟩ := hp
    rw [hds] at hp1
    have e1 : d'.extract 0 n = d' := by rw [← hp1]; simp
    have e2 : d.extract 0 n = d := by rw [← hds]; simp
    rw [e1, e2] at hp2
    have ex : d.toList.map (fun x : R7 => x.1) = xs := by
      apply List.ext_getElem
      · simp [hds, hl]
      · intro j hj1 hj2
        simp only [List.getElem_map, Array.getElem_toList]
        have := hdj j (by omega)
        rw [getElem!_pos d j (by omega)] at this
        rw [this]
        exact getD_eq hj2 []
    have hfs : (flatK R7.enc 7 d').size = n * 7 := by rw [size_flatK, hp1]
    have hcs : n * 7 ≤ cur.size := by rw [hc3]; exact Nat.mul_le_mul_right _ hc1
    have hW : sortWorldK R7.enc 7 w g 0 m d' os = sortWorld id w g 0 m (flatK R7.enc 7 d') os := rfl
    rw [hW]
    refine ⟨rfl, d'.toList.map (fun x : R7 => x.1), ?_, ?_, ⟨(flatK R7.enc 7 d').toList, ⟨by rw [Array.length_toList, hfs], .inr ⟨g, cap, putCells id 0 (flatK R7.enc 7 d') cur, rfl, hB, heap_sortWorld_same 0 m _ os hg, hc1, hc2, by simpa [putCells] using hc3, ?_⟩⟩, by simp [hp1], ?_, ?_⟩, below_sortWorld m _ os hB hgl, ?_⟩
    · rw [← ex]; exact hp2.map _
    · rw [List.pairwise_map, List.pairwise_iff_getElem]
      intro i j hi hj hij
      simp only [Array.length_toList] at hi hj
      have := hs i j (Nat.zero_le _) hij (by omega)
      rw [getElem!_pos d' i hi, getElem!_pos d' j hj] at this
      exact of_decide_eq_false this
    · have := putCells_take id (flatK R7.enc 7 d') cur (by omega)
      rw [hfs] at this
      rw [this, List.map_id]
    · intro u hu
      obtain ⟨t, ht, rfl⟩ := List.getElem_of_mem hu
      rw [Array.length_toList, hfs] at ht
      have := get_flatK R7.enc 7 d' t (by rw [hp1]; exact ht)
      rw [getElem!_pos _ _ (by omega)] at this
      rw [Array.getElem_toList, this]
      have hl7 := R7.len d'[t / 7]!
      rw [getElem!_pos _ _ (by rw [hl7]; exact Nat.mod_lt _ (by decide))]
      exact R7.one _ _ (List.getElem_mem _)
    · intro j x hj
      rw [List.getElem?_map] at hj
      have hjl : j < d'.size := by
        rcases Nat.lt_or_ge j d'.size with h | h
        · exact h
        · rw [List.getElem?_eq_none (by simpa using h)] at hj; cases hj
      show _ = _
      rw [flat_R7 d' j hjl]
      rw [Array.getElem?_toList, Array.getElem?_eq_getElem hjl] at hj
      simp only [Option.map_some, Option.some.injEq] at hj
      rw [getElem!_pos d' j hjl, hj]
    · intro k cs t hk ht
      refine heap_sortWorld_other _ _ _ _ (fun e => ?_) (Array.getElem?_eq_some_iff.1 hk).1
      subst e
      rw [hg] at hk
      injection hk with hk
      injection hk with _ hk
      exact ht hk.symm
end Go.Proofs.YtfihpofdoffclaaGreatDoor

/- canonical.distinguish: pairs of states as keys, items of the queue. -/
namespace Go.Proofs.YtfihpofdoffclaaGreatDoor
open Go.RowKit Go.ChangeMaps Go.MapKept Go.WideMaps

def prV (p : Nat × Nat) : Value := .agg #[.int .i64 (p.1 : Int), .int .i64 (p.2 : Int)]
theorem lawPr : Maps.Keyed Tryz.prog 133 := Maps.Keyed.of_law (deep_law_gate (by kernel_rfl) (of_decide_eq_true (by kernel_rfl)) (of_decide_eq_true (by kernel_rfl)) (by kernel_rfl) (by kernel_rfl))
theorem keyPr {a b : Int} (ga : 0 ≤ a ∧ a ≤ 1000000) (gb : 0 ≤ b ∧ b ≤ 1000000) : ∃ l, keyOf Tryz.prog 133 (.agg #[.int .i64 a, .int .i64 b]) = some l := by
  obtain ⟨m, hm⟩ := typesSize
  have c2 : Tryz.prog.cellsOf 133 = 2 := by kernel_rfl
  have c1 : Tryz.prog.cellsOf 3 = 1 := by kernel_rfl
  have hk : Tryz.prog.keyType 133 = true := by kernel_rfl
  have uR := Tryz.underlying133
  refine ⟨.string (keyBytes [.int .i64 a, .int .i64 b]), ?_⟩
  unfold keyOf
  simp only [uR]
  rw [if_pos (by simp [hk, Value.formed, uR, c2]), hm]
  conv => lhs; unfold Program.keyLits
  simp only [uR, c2, Value.cells]
  rw [if_pos (by exact ⟨rfl, by kernel_rfl⟩)]
  simp only [List.mapM_cons, List.mapM_nil, List.drop, List.take, c1]
  rw [litI (m + 2) ga, litI (m + 2) gb]
  rfl
def SmP (p : Nat × Nat) : Prop := p.1 ≤ 1000000 ∧ p.2 ≤ 1000000
theorem keyX_pair : KeyX Tryz.prog 133 prV SmP where
  law := lawPr
  has := fun p ⟨h1, h2⟩ => keyPr (by omega) (by omega)
  inj := fun x y _ _ h => by
    simp only [prV, Value.agg.injEq, Array.mk.injEq, List.cons.injEq, Value.int.injEq, and_true, true_and] at h
    exact Prod.ext (by omega) (by omega)
theorem umPair : Tryz.prog.underlying 134 = some (.map 133 4) := by kernel_rfl
theorem zBoolJ : ∀ w, (zeroValue 4).run Tryz.prog w = .ok (.bool false) w := fun w => by kernel_rfl
/-- The pairs that were seen. -/
def SNP (w : World) (b : Nat) (o : List (Nat × Nat)) : Prop := MX prV Value.bool w b (o.map fun x => (x, true))
theorem SNP.keep {w w' : World} {b : Nat} {o : List (Nat × Nat)} (h : SNP w b o) (hb : w'.heap[b]? = w.heap[b]?) : SNP w' b o := MX.keep h hb
set_option maxRecDepth 100000 in
theorem SNP.look {w : World} {b : Nat} {o : List (Nat × Nat)} (h : SNP w b o) (hs : ∀ y ∈ o, SmP y) {x : Nat × Nat} (hx : SmP x) :
    (Instr.lookup 134 (.map (some b)) (.agg #[.int .i64 (x.1 : Int), .int .i64 (x.2 : Int)]) false).run Tryz.prog w = .ok (.bool (decide (x ∈ o))) w := by
  have hm : ∀ p ∈ o.map (fun y => (y, true)), SmP p.1 := fun p hp => by
    obtain ⟨y, hy, rfl⟩ := List.mem_map.1 hp; exact hs y hy
  have hf : (o.map fun y => (y, true)).map Prod.fst = o := by rw [List.map_map]; exact List.map_id o
  rcases MX.look keyX_pair umPair (zBoolJ w) h hm hx with ⟨h1, h2, _⟩ | ⟨v, h1, h2, _⟩
  · rw [hf] at h1
    rw [decide_eq_false h1]; exact h2
  · obtain ⟨y, hy, e⟩ := List.mem_map.1 h1
    injection e with e1 e2
    have : x ∈ o := by rw [← e1]; exact hy
    rw [decide_eq_true this, e2]; exact h2
set_option maxRecDepth 100000 in
theorem SNP.put {w : World} {b : Nat} {o : List (Nat × Nat)} (h : SNP w b o) (hs : ∀ y ∈ o, SmP y) {x : Nat × Nat} (hx : SmP x) (hn : x ∉ o) :
    ∃ ob, (Instr.mapUpdate 134 (.map (some b)) (.agg #[.int .i64 (x.1 : Int), .int .i64 (x.2 : Int)]) (.bool true)).run Tryz.prog w = .ok () (setBlock w b ob) ∧ SNP (setBlock w b ob) b (o ++ [x]) := by
  have hm : ∀ p ∈ o.map (fun y => (y, true)), SmP p.1 := fun p hp => by
    obtain ⟨y, hy, rfl⟩ := List.mem_map.1 hp; exact hs y hy
  have hf : (o.map fun y => (y, true)).map Prod.fst = o := by rw [List.map_map]; exact List.map_id o
  obtain ⟨ob, h1, h2⟩ := MX.put keyX_pair umPair h hm hx (by rw [hf]; exact hn) true
  refine ⟨ob, h1, ?_⟩
  unfold SNP
  rw [List.map_append]; exact h2
theorem SNP.lt {w : World} {b : Nat} {o : List (Nat × Nat)} (h : SNP w b o) : b < w.heap.size := MX.lt h
/-- A turned map leaves all cells. -/
theorem SNP.keepX {w : World} {b : Nat} {o : List (Nat × Nat)} (h : SNP w b o) (E : TypeId) (ob : Obj) : KeepX E w (setBlock w b ob) := fun k cs t hk _ => by
  obtain ⟨es, clock, hb, _⟩ := h
  refine setBlock_keep ob fun e => ?_
  subst e
  rw [hk] at hb
  cases hb

/-- An item of the queue: a pair and the word that leads to it. -/
def EIt (w : World) (cs : List Value) (x : It) : Prop := ∃ u, cs = [.int .i64 (x.1.1 : Int), .int .i64 (x.1.2 : Int), u] ∧ OwX 79 7 EI w 0 u x.2.length x.2
theorem EIt.stab {E : TypeId} (h : 79 ≠ E) : Stab E EIt := fun _ _ _ _ ⟨u, h1, h2⟩ hx => ⟨u, h1, h2.other (EI.stab _) h hx⟩
theorem elemIt : ElemK Tryz.prog 137 136 (.agg #[.int .i64 0, .int .i64 0, .slice none 0 0]) 3 40 := ⟨by kernel_rfl, by kernel_rfl, rfl⟩

/-- The bounds of the queue. -/
def QB (ss : List (List (List Int))) (Q : List It) : Prop := QOK ss Q ∧ ∀ j, (Q.getD j ((0, 0), [])).2.length ≤ j
theorem QB.len {ss : List (List (List Int))} {Q : List It} (h : QB ss Q) (hl : ss.length ≤ 90) : Q.length ≤ 8100 := by
  have := pairs_le h.1.1 fun p hp => by
    obtain ⟨t, ht, rfl⟩ := List.mem_map.1 hp
    exact h.1.2 t ht
  rw [List.length_map] at this
  have h2 : ss.length * ss.length ≤ 90 * 90 := Nat.mul_le_mul hl hl
  omega
theorem QB.snoc {ss : List (List (List Int))} {Q : List It} (h : QB ss Q) {t : It} (hm : t.1 ∉ Q.map Prod.fst) (hb : t.1.1 < ss.length ∧ t.1.2 < ss.length) (hw : t.2.length ≤ Q.length) : QB ss (Q ++ [t]) := by
  refine ⟨h.1.snoc hm hb, fun j => ?_⟩
  rcases Nat.lt_trichotomy j Q.length with hj | rfl | hj
  · rw [List.getD_eq_getElem?_getD, List.getElem?_append_left hj, ← List.getD_eq_getElem?_getD]; exact h.2 j
  · simpa using hw
  · rw [List.getD_eq_getElem?_getD, List.getElem?_eq_none (by simp; omega)]; simp
theorem QB.sm {ss : List (List (List Int))} {Q : List It} (h : QB ss Q) (hl : ss.length ≤ 90) : ∀ y ∈ Q.map Prod.fst, SmP y := fun y hy => by
  obtain ⟨t, ht, rfl⟩ := List.mem_map.1 hy
  obtain ⟨h1, h2⟩ := h.1.2 t ht
  exact ⟨by omega, by omega⟩

/-- What the search hands back. -/
def DisOut (w : World) (R : Option (List (List Int))) (e : Ending) (w' : World) : Prop :=
  ∃ u, e = .returned (.tuple #[u, .bool R.isSome]) ∧ OwX 79 7 EI w' w.heap.size u (R.getD []).length (R.getD []) ∧ Below w.heap.size w w'
end Go.Proofs.YtfihpofdoffclaaGreatDoor

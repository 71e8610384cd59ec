/- Texts of this claim, put together: Sh J2. -/
import Derived.Ground.SlsfProg
import Derived.Ground.SlgmProg
import Derived.Shelf.SlSortCmp.WholeK
import Derived.Shelf.SlSortCmp.Whole1
import Derived.Shelf.SlSortCmp.NoneTotal
import Derived.Shelf.SortM.Plain
import Derived.Shelf.SortM.SortNone
import Derived.Test.YtiiiegflobihjaaGreatProg
import Derived.Test.YtiiiegflobihjaaGreatKAWe
import Derived.Test.YtiiiegflobihjaaGreatKAWk
import Derived.Test.YtiiiegflobihjaaGreatKAWh
import Derived.Test.YtiiiegflobihjaaGreatKAWj

/-
  DERIVED: THE SHELF's CONTRACTS AT THIS DUMP, IN PLAIN WORDS (tools/lay-plain.mjs out of 'YtiiiegflobihjaaGreatShScratch.lean', which tools/lay-shelf.mjs wrote): THE SAME DECLARATIONS UNDER THE SAME NAMES: 'import', 'namespace', 'open', 'def', 'theorem' AND NOTHING ELSE: no command of the shelf's: FOR A HAND-IN. Each laying: the table of numbers ('.._ren') and one theorem, a field a fact of the dump's own or the kernel's comparison; each contract: ONE APPLICATION.
-/
namespace Go.Proofs
open Go.Shelf
def Tryz.sortRd_ren : Go.Shelf.Ren := ⟨fun | 6 => 94 | 15 => 89 | 14 => 123 | 28 => 116 | 29 => 117 | 20 => 147 | 21 => 148 | 22 => 149 | 23 => 150 | 24 => 151 | 25 => 152 | 26 => 153 | 27 => 154 | 46 => 162 | 47 => 140 | 48 => 141 | 49 => 163 | 50 => 164 | 57 => 166 | n => n, fun | 22 => 44 | 24 => 51 | 25 => 133 | 3 => 3 | 39 => 132 | 0 => 0 | 53 => 156 | 55 => 158 | 4 => 4 | 46 => 150 | 45 => 149 | 50 => 111 | 5 => 5 | 9 => 9 | 66 => 173 | 70 => 177 | 76 => 189 | 77 => 190 | n => n, fun | n => n⟩
theorem Tryz.sortRd : Go.Proofs.SlLaysF0.n6 Tryz.prog Tryz.sortRd_ren := {
  mixed := by kernel_rfl
  f6 := ⟨Tryz.f94.name, by decide, Tryz.func94.trans (congrArg some (by kernel_rfl))⟩
  f14 := ⟨Tryz.f123.name, by decide, Tryz.func123.trans (congrArg some (by kernel_rfl))⟩
  f15 := Tryz.func89.trans (congrArg some (by kernel_rfl))
  f20 := ⟨Tryz.f147.name, by decide, Tryz.func147.trans (congrArg some (by kernel_rfl))⟩
  f21 := ⟨Tryz.f148.name, by decide, Tryz.func148.trans (congrArg some (by kernel_rfl))⟩
  f22 := ⟨Tryz.f149.name, by decide, Tryz.func149.trans (congrArg some (by kernel_rfl))⟩
  f23 := ⟨Tryz.f150.name, by decide, Tryz.func150.trans (congrArg some (by kernel_rfl))⟩
  f24 := ⟨Tryz.f151.name, by decide, Tryz.func151.trans (congrArg some (by kernel_rfl))⟩
  f25 := ⟨Tryz.f152.name, by decide, Tryz.func152.trans (congrArg some (by kernel_rfl))⟩
  f26 := ⟨Tryz.f153.name, by decide, Tryz.func153.trans (congrArg some (by kernel_rfl))⟩
  f27 := ⟨Tryz.f154.name, by decide, Tryz.func154.trans (congrArg some (by kernel_rfl))⟩
  f28 := Tryz.func116.trans (congrArg some (by kernel_rfl))
  f29 := Tryz.func117.trans (congrArg some (by kernel_rfl))
  f46 := ⟨Tryz.f162.name, by decide, Tryz.func162.trans (congrArg some (by kernel_rfl))⟩
  f47 := Tryz.func140.trans (congrArg some (by kernel_rfl))
  f48 := Tryz.func141.trans (congrArg some (by kernel_rfl))
  f49 := ⟨Tryz.f163.name, by decide, Tryz.func163.trans (congrArg some (by kernel_rfl))⟩
  f50 := ⟨Tryz.f164.name, by decide, Tryz.func164.trans (congrArg some (by kernel_rfl))⟩
  f57 := ⟨Tryz.f166.name, by decide, Tryz.func166.trans (congrArg some (by kernel_rfl))⟩
  t0 := Tryz.underlying0
  a0 := Tryz.isAgg0
  z0 := Tryz.sizeOf0
  v0 := Tryz.zeroValue0
  t3 := Tryz.underlying3
  a3 := Tryz.isAgg3
  z3 := Tryz.sizeOf3
  v3 := Tryz.zeroValue3
  t4 := Tryz.underlying4
  a4 := Tryz.isAgg4
  z4 := Tryz.sizeOf4
  v4 := Tryz.zeroValue4
  t5 := Tryz.underlying5
  a5 := Tryz.isAgg5
  z5 := Tryz.sizeOf5
  v5 := Tryz.zeroValue5
  t9 := Tryz.underlying9
  a9 := Tryz.isAgg9
  z9 := Tryz.sizeOf9
  v9 := Tryz.zeroValue9
  t22 := Tryz.underlying44
  a22 := Tryz.isAgg44
  z22 := Tryz.sizeOf44
  v22 := Tryz.zeroValue44
  t25 := Tryz.underlying133
  a25 := Tryz.isAgg133
  z25 := Tryz.sizeOf133
  v25 := Tryz.zeroValue133
  t39 := Tryz.underlying132
  a39 := Tryz.isAgg132
  z39 := Tryz.sizeOf132
  v39 := Tryz.zeroValue132
  t45 := Tryz.underlying149
  a45 := Tryz.isAgg149
  z45 := Tryz.sizeOf149
  v45 := Tryz.zeroValue149
  t46 := Tryz.underlying150
  a46 := Tryz.isAgg150
  z46 := Tryz.sizeOf150
  v46 := Tryz.zeroValue150
  t50 := Tryz.underlying111
  a50 := Tryz.isAgg111
  z50 := Tryz.sizeOf111
  v50 := Tryz.zeroValue111
  t53 := Tryz.underlying156
  a53 := Tryz.isAgg156
  z53 := Tryz.sizeOf156
  v53 := Tryz.zeroValue156
  t55 := Tryz.underlying158
  a55 := Tryz.isAgg158
  z55 := Tryz.sizeOf158
  v55 := Tryz.zeroValue158
  t66 := Tryz.underlying173
  a66 := Tryz.isAgg173
  z66 := Tryz.sizeOf173
  v66 := Tryz.zeroValue173
  t70 := Tryz.underlying177
  a70 := Tryz.isAgg177
  z70 := Tryz.sizeOf177
  v70 := Tryz.zeroValue177
  t76 := Tryz.underlying189
  a76 := Tryz.isAgg189
  z76 := Tryz.sizeOf189
  v76 := Tryz.zeroValue189
  t77 := Tryz.underlying190
  a77 := Tryz.isAgg190
  z77 := Tryz.sizeOf190
  v77 := Tryz.zeroValue190 }
def Tryz.sortWd_ren : Go.Shelf.Ren := ⟨fun | 6 => 55 | 15 => 89 | 14 => 88 | 28 => 116 | 29 => 117 | 20 => 108 | 21 => 109 | 22 => 110 | 23 => 111 | 24 => 112 | 25 => 113 | 26 => 114 | 27 => 115 | 46 => 139 | 47 => 140 | 48 => 141 | 49 => 142 | 50 => 143 | 57 => 161 | n => n, fun | 22 => 38 | 24 => 44 | 25 => 95 | 3 => 3 | 39 => 132 | 0 => 0 | 53 => 156 | 55 => 158 | 4 => 4 | 46 => 150 | 45 => 149 | 50 => 111 | 5 => 5 | 9 => 9 | 66 => 173 | 70 => 177 | 76 => 189 | 77 => 190 | n => n, fun | n => n⟩
theorem Tryz.sortWd : Go.Proofs.SlLaysF.n6 Tryz.prog Tryz.sortWd_ren := {
  mixed := by kernel_rfl
  f6 := ⟨Tryz.f55.name, by decide, Tryz.func55.trans (congrArg some (by kernel_rfl))⟩
  f14 := ⟨Tryz.f88.name, by decide, Tryz.func88.trans (congrArg some (by kernel_rfl))⟩
  f15 := Tryz.func89.trans (congrArg some (by kernel_rfl))
  f20 := ⟨Tryz.f108.name, by decide, Tryz.func108.trans (congrArg some (by kernel_rfl))⟩
  f21 := ⟨Tryz.f109.name, by decide, Tryz.func109.trans (congrArg some (by kernel_rfl))⟩
  f22 := ⟨Tryz.f110.name, by decide, Tryz.func110.trans (congrArg some (by kernel_rfl))⟩
  f23 := ⟨Tryz.f111.name, by decide, Tryz.func111.trans (congrArg some (by kernel_rfl))⟩
  f24 := ⟨Tryz.f112.name, by decide, Tryz.func112.trans (congrArg some (by kernel_rfl))⟩
  f25 := ⟨Tryz.f113.name, by decide, Tryz.func113.trans (congrArg some (by kernel_rfl))⟩
  f26 := ⟨Tryz.f114.name, by decide, Tryz.func114.trans (congrArg some (by kernel_rfl))⟩
  f27 := ⟨Tryz.f115.name, by decide, Tryz.func115.trans (congrArg some (by kernel_rfl))⟩
  f28 := Tryz.func116.trans (congrArg some (by kernel_rfl))
  f29 := Tryz.func117.trans (congrArg some (by kernel_rfl))
  f46 := ⟨Tryz.f139.name, by decide, Tryz.func139.trans (congrArg some (by kernel_rfl))⟩
  f47 := Tryz.func140.trans (congrArg some (by kernel_rfl))
  f48 := Tryz.func141.trans (congrArg some (by kernel_rfl))
  f49 := ⟨Tryz.f142.name, by decide, Tryz.func142.trans (congrArg some (by kernel_rfl))⟩
  f50 := ⟨Tryz.f143.name, by decide, Tryz.func143.trans (congrArg some (by kernel_rfl))⟩
  f57 := ⟨Tryz.f161.name, by decide, Tryz.func161.trans (congrArg some (by kernel_rfl))⟩
  t0 := Tryz.underlying0
  a0 := Tryz.isAgg0
  z0 := Tryz.sizeOf0
  v0 := Tryz.zeroValue0
  t3 := Tryz.underlying3
  a3 := Tryz.isAgg3
  z3 := Tryz.sizeOf3
  v3 := Tryz.zeroValue3
  t4 := Tryz.underlying4
  a4 := Tryz.isAgg4
  z4 := Tryz.sizeOf4
  v4 := Tryz.zeroValue4
  t5 := Tryz.underlying5
  a5 := Tryz.isAgg5
  z5 := Tryz.sizeOf5
  v5 := Tryz.zeroValue5
  t9 := Tryz.underlying9
  a9 := Tryz.isAgg9
  z9 := Tryz.sizeOf9
  v9 := Tryz.zeroValue9
  t22 := Tryz.underlying38
  a22 := Tryz.isAgg38
  z22 := Tryz.sizeOf38
  v22 := Tryz.zeroValue38
  a24 := Tryz.isAgg44
  z24 := Tryz.sizeOf44
  t25 := Tryz.underlying95
  a25 := Tryz.isAgg95
  z25 := Tryz.sizeOf95
  v25 := Tryz.zeroValue95
  t39 := Tryz.underlying132
  a39 := Tryz.isAgg132
  z39 := Tryz.sizeOf132
  v39 := Tryz.zeroValue132
  t45 := Tryz.underlying149
  a45 := Tryz.isAgg149
  z45 := Tryz.sizeOf149
  v45 := Tryz.zeroValue149
  t46 := Tryz.underlying150
  a46 := Tryz.isAgg150
  z46 := Tryz.sizeOf150
  v46 := Tryz.zeroValue150
  t50 := Tryz.underlying111
  a50 := Tryz.isAgg111
  z50 := Tryz.sizeOf111
  v50 := Tryz.zeroValue111
  t53 := Tryz.underlying156
  a53 := Tryz.isAgg156
  z53 := Tryz.sizeOf156
  v53 := Tryz.zeroValue156
  t55 := Tryz.underlying158
  a55 := Tryz.isAgg158
  z55 := Tryz.sizeOf158
  v55 := Tryz.zeroValue158
  t66 := Tryz.underlying173
  a66 := Tryz.isAgg173
  z66 := Tryz.sizeOf173
  v66 := Tryz.zeroValue173
  t70 := Tryz.underlying177
  a70 := Tryz.isAgg177
  z70 := Tryz.sizeOf177
  v70 := Tryz.zeroValue177
  t76 := Tryz.underlying189
  a76 := Tryz.isAgg189
  z76 := Tryz.sizeOf189
  v76 := Tryz.zeroValue189
  t77 := Tryz.underlying190
  a77 := Tryz.isAgg190
  z77 := Tryz.sizeOf190
  v77 := Tryz.zeroValue190 }
def Tryz.sortI_ren : Go.Shelf.Ren := ⟨fun | 5 => 76 | 8 => 89 | 7 => 101 | 19 => 116 | 20 => 117 | 10 => 126 | 11 => 127 | 12 => 128 | 13 => 129 | 14 => 130 | 15 => 131 | 16 => 132 | 17 => 133 | 18 => 134 | 30 => 155 | 31 => 140 | 32 => 141 | 33 => 156 | 34 => 157 | 35 => 146 | 40 => 165 | n => n, fun | 23 => 78 | 25 => 3 | 3 => 3 | 32 => 132 | 22 => 78 | 0 => 0 | 44 => 156 | 46 => 158 | 4 => 4 | 36 => 150 | 35 => 149 | 41 => 111 | 5 => 5 | 9 => 9 | 53 => 173 | 57 => 177 | 63 => 189 | 64 => 190 | n => n, fun | n => n⟩
theorem Tryz.sortI : Go.Proofs.SlLaysM.n5 Tryz.prog Tryz.sortI_ren := {
  mixed := by kernel_rfl
  f5 := ⟨Tryz.f76.name, by decide, Tryz.func76.trans (congrArg some (by kernel_rfl))⟩
  f7 := ⟨Tryz.f101.name, by decide, Tryz.func101.trans (congrArg some (by kernel_rfl))⟩
  f8 := Tryz.func89.trans (congrArg some (by kernel_rfl))
  f10 := ⟨Tryz.f126.name, by decide, Tryz.func126.trans (congrArg some (by kernel_rfl))⟩
  f11 := ⟨Tryz.f127.name, by decide, Tryz.func127.trans (congrArg some (by kernel_rfl))⟩
  f12 := ⟨Tryz.f128.name, by decide, Tryz.func128.trans (congrArg some (by kernel_rfl))⟩
  f13 := ⟨Tryz.f129.name, by decide, Tryz.func129.trans (congrArg some (by kernel_rfl))⟩
  f14 := ⟨Tryz.f130.name, by decide, Tryz.func130.trans (congrArg some (by kernel_rfl))⟩
  f15 := ⟨Tryz.f131.name, by decide, Tryz.func131.trans (congrArg some (by kernel_rfl))⟩
  f16 := ⟨Tryz.f132.name, by decide, Tryz.func132.trans (congrArg some (by kernel_rfl))⟩
  f17 := ⟨Tryz.f133.name, by decide, Tryz.func133.trans (congrArg some (by kernel_rfl))⟩
  f18 := ⟨Tryz.f134.name, by decide, Tryz.func134.trans (congrArg some (by kernel_rfl))⟩
  f19 := Tryz.func116.trans (congrArg some (by kernel_rfl))
  f20 := Tryz.func117.trans (congrArg some (by kernel_rfl))
  f30 := ⟨Tryz.f155.name, by decide, Tryz.func155.trans (congrArg some (by kernel_rfl))⟩
  f31 := Tryz.func140.trans (congrArg some (by kernel_rfl))
  f32 := Tryz.func141.trans (congrArg some (by kernel_rfl))
  f33 := ⟨Tryz.f156.name, by decide, Tryz.func156.trans (congrArg some (by kernel_rfl))⟩
  f34 := ⟨Tryz.f157.name, by decide, Tryz.func157.trans (congrArg some (by kernel_rfl))⟩
  f35 := ⟨Tryz.f146.name, by decide, Tryz.func146.trans (congrArg some (by kernel_rfl))⟩
  f40 := ⟨Tryz.f165.name, by decide, Tryz.func165.trans (congrArg some (by kernel_rfl))⟩
  t0 := Tryz.underlying0
  a0 := Tryz.isAgg0
  z0 := Tryz.sizeOf0
  v0 := Tryz.zeroValue0
  t3 := Tryz.underlying3
  a3 := Tryz.isAgg3
  z3 := Tryz.sizeOf3
  v3 := Tryz.zeroValue3
  t4 := Tryz.underlying4
  a4 := Tryz.isAgg4
  z4 := Tryz.sizeOf4
  v4 := Tryz.zeroValue4
  t5 := Tryz.underlying5
  a5 := Tryz.isAgg5
  z5 := Tryz.sizeOf5
  v5 := Tryz.zeroValue5
  t9 := Tryz.underlying9
  a9 := Tryz.isAgg9
  z9 := Tryz.sizeOf9
  v9 := Tryz.zeroValue9
  t22 := Tryz.underlying78
  a22 := Tryz.isAgg78
  z22 := Tryz.sizeOf78
  v22 := Tryz.zeroValue78
  t23 := Tryz.underlying78
  a23 := Tryz.isAgg78
  z23 := Tryz.sizeOf78
  v23 := Tryz.zeroValue78
  t25 := Tryz.underlying3
  a25 := Tryz.isAgg3
  z25 := Tryz.sizeOf3
  v25 := Tryz.zeroValue3
  t32 := Tryz.underlying132
  a32 := Tryz.isAgg132
  z32 := Tryz.sizeOf132
  v32 := Tryz.zeroValue132
  t35 := Tryz.underlying149
  a35 := Tryz.isAgg149
  z35 := Tryz.sizeOf149
  v35 := Tryz.zeroValue149
  t36 := Tryz.underlying150
  a36 := Tryz.isAgg150
  z36 := Tryz.sizeOf150
  v36 := Tryz.zeroValue150
  t41 := Tryz.underlying111
  a41 := Tryz.isAgg111
  z41 := Tryz.sizeOf111
  v41 := Tryz.zeroValue111
  t44 := Tryz.underlying156
  a44 := Tryz.isAgg156
  z44 := Tryz.sizeOf156
  v44 := Tryz.zeroValue156
  t46 := Tryz.underlying158
  a46 := Tryz.isAgg158
  z46 := Tryz.sizeOf158
  v46 := Tryz.zeroValue158
  t53 := Tryz.underlying173
  a53 := Tryz.isAgg173
  z53 := Tryz.sizeOf173
  v53 := Tryz.zeroValue173
  t57 := Tryz.underlying177
  a57 := Tryz.isAgg177
  z57 := Tryz.sizeOf177
  v57 := Tryz.zeroValue177
  t63 := Tryz.underlying189
  a63 := Tryz.isAgg189
  z63 := Tryz.sizeOf189
  v63 := Tryz.zeroValue189
  t64 := Tryz.underlying190
  a64 := Tryz.isAgg190
  z64 := Tryz.sizeOf190
  v64 := Tryz.zeroValue190 }
end Go.Proofs

/- round.Compare as the library's sort asks it; slices.SortFunc at rounds. -/
namespace Go.Proofs.YtiiiegflobihjaaGreat
open Go.RowKit

set_option maxRecDepth 100000 in
set_option maxHeartbeats 6400000 in
theorem graphCompareG (n h0 h1 h2 h3 h4 m g0 g1 g2 g3 g4 : Int) (w : World) : Calls Tryz.prog 121 #[.agg #[.int .i64 n, .int .i64 h0, .int .i64 h1, .int .i64 h2, .int .i64 h3, .int .i64 h4], .agg #[.int .i64 m, .int .i64 g0, .int .i64 g1, .int .i64 g2, .int .i64 g3, .int .i64 g4]] w fun e w' => e = .returned (.int .i64 (cmpL [n, h0, h1, h2, h3, h4] [m, g0, g1, g2, g3, g4])) ∧ Below w.heap.size w w' ∧ w.drawn ≤ w'.drawn := by
  by_cases he : [n, h0, h1, h2, h3, h4] = [m, g0, g1, g2, g3, g4]
  · have hE := Lib.hid (show cmpL [n, h0, h1, h2, h3, h4] [m, g0, g1, g2, g3, g4] = 0 by rw [he]; exact cmpL_self _)
    have he' := Lib.hid (eqL_true.2 he)
    clear he
    go_enter Tryz.func121, Tryz.ntmps121
    have he1 := he'.out
    go_wp2
    go_ret
    exact ⟨ret_int hE.out.symm, (((Below.refl w.heap.size w).alloc (Nat.le_refl _) _).alloc (by simp) _), (by first | exact Nat.le_refl _ | exact hd1 | exact Nat.le_add_right _ _ | exact Nat.le_trans (Nat.le_add_right _ _) (Nat.le_add_right _ _))⟩
  · have he' := eqL_false.2 he
    clear he
    obtain ⟨E, hE⟩ : ∃ E, cmpL [n, h0, h1, h2, h3, h4] [m, g0, g1, g2, g3, g4] = E := ⟨_, rfl⟩
    rw [hE]
    by_cases hn : n = m
    · have hE0 := Lib.hid (show cmpL [h0, h1, h2, h3, h4] [g0, g1, g2, g3, g4] = E by rw [← hE]; exact (cmpL_hd (cmpI_zero.2 hn)).symm)
      have hn' : (n != m) = false := by simp [hn]
      replace hn := Lib.hid hn
      clear hE
      go_enter Tryz.func121, Tryz.ntmps121
      go_wp2
      go_loopw [20] (fun iv wr => ∃ (k : Int) (dn : Nat), wr = ((w.alloc (.cells #[.int .i64 n, .int .i64 h0, .int .i64 h1, .int .i64 h2, .int .i64 h3, .int .i64 h4] 49)).alloc (.cells #[.int .i64 m, .int .i64 g0, .int .i64 g1, .int .i64 g2, .int .i64 g3, .int .i64 g4] 49)).drewN dn ∧ iv = .int .i64 k ∧ ((k = 0 ∧ Hid (cmpL [h0, h1, h2, h3, h4] [g0, g1, g2, g3, g4] = E)) ∨ (k = 1 ∧ Hid (cmpL [h1, h2, h3, h4] [g1, g2, g3, g4] = E)) ∨ (k = 2 ∧ Hid (cmpL [h2, h3, h4] [g2, g3, g4] = E)) ∨ (k = 3 ∧ Hid (cmpL [h3, h4] [g3, g4] = E)) ∨ (k = 4 ∧ Hid (cmpL [h4] [g4] = E)) ∨ (k = 5 ∧ Hid (cmpL [] [] = E)))) (fun iv _ => 5 - (intOf iv).toNat)
      case atStart => exact ⟨0, 0, (by first | rfl | simp), rfl, .inl ⟨rfl, hE0⟩⟩
      case round =>
        clear hE0
        obtain ⟨k, dn, rfl, rfl, hk⟩ := hrel
        rcases hk with ⟨rfl, hg⟩ | ⟨rfl, hg⟩ | ⟨rfl, hg⟩ | ⟨rfl, hg⟩ | ⟨rfl, hg⟩ | ⟨rfl, hg⟩
        · obtain ⟨c, hc⟩ : ∃ c, cmpI h0 g0 = c := ⟨_, rfl⟩
          have hq := fun W => cmpIntQ h0 g0 W
          simp only [hc] at hq
          replace hq := Lib.hid hq
          by_cases hz0 : c = 0
          · subst hz0
            have hz := Lib.hid hc
            clear hc
            go_wp2
            go_quiet ((go_at_call 122; exact quietOn (hq.out _)))
            go_wp2
            go_roundw
            case rel => exact ⟨1, _, (by first | exact rfl | exact World.drewN_drewN _ _ _), rfl, .inr (.inl ⟨rfl, by show _ = _; rw [← hg.out, cmpL_hd hz.out]⟩)⟩
            case measure => simp [intOf]
          · have hz' : (c != 0) = true := by simpa using hz0
            have hz := Lib.hid (show ¬ cmpI h0 g0 = 0 by rw [hc]; exact hz0)
            replace hc := Lib.hid hc
            clear hz0
            go_wp2
            go_quiet ((go_at_call 122; exact quietOn (hq.out _)))
            go_wp2
            go_ret
            exact ⟨ret_int (by rw [← hg.out, cmpL_ne hz.out, hc.out]), (by first | exact below_drewN (((Below.refl w.heap.size w).alloc (Nat.le_refl _) _).alloc (by simp) _) _ | exact below_drewN (below_drewN (((Below.refl w.heap.size w).alloc (Nat.le_refl _) _).alloc (by simp) _) _) _ | exact below_drewN (below_drewN (below_drewN (((Below.refl w.heap.size w).alloc (Nat.le_refl _) _).alloc (by simp) _) _) _) _), (by first | exact Nat.le_refl _ | exact hd1 | exact Nat.le_add_right _ _ | exact Nat.le_trans (Nat.le_add_right _ _) (Nat.le_add_right _ _))⟩
        · obtain ⟨c, hc⟩ : ∃ c, cmpI h1 g1 = c := ⟨_, rfl⟩
          have hq := fun W => cmpIntQ h1 g1 W
          simp only [hc] at hq
          replace hq := Lib.hid hq
          by_cases hz0 : c = 0
          · subst hz0
            have hz := Lib.hid hc
            clear hc
            go_wp2
            go_quiet ((go_at_call 122; exact quietOn (hq.out _)))
            go_wp2
            go_roundw
            case rel => exact ⟨2, _, (by first | exact rfl | exact World.drewN_drewN _ _ _), rfl, .inr (.inr (.inl ⟨rfl, by show _ = _; rw [← hg.out, cmpL_hd hz.out]⟩))⟩
            case measure => simp [intOf]
          · have hz' : (c != 0) = true := by simpa using hz0
            have hz := Lib.hid (show ¬ cmpI h1 g1 = 0 by rw [hc]; exact hz0)
            replace hc := Lib.hid hc
            clear hz0
            go_wp2
            go_quiet ((go_at_call 122; exact quietOn (hq.out _)))
            go_wp2
            go_ret
            exact ⟨ret_int (by rw [← hg.out, cmpL_ne hz.out, hc.out]), (by first | exact below_drewN (((Below.refl w.heap.size w).alloc (Nat.le_refl _) _).alloc (by simp) _) _ | exact below_drewN (below_drewN (((Below.refl w.heap.size w).alloc (Nat.le_refl _) _).alloc (by simp) _) _) _ | exact below_drewN (below_drewN (below_drewN (((Below.refl w.heap.size w).alloc (Nat.le_refl _) _).alloc (by simp) _) _) _) _), (by first | exact Nat.le_refl _ | exact hd1 | exact Nat.le_add_right _ _ | exact Nat.le_trans (Nat.le_add_right _ _) (Nat.le_add_right _ _))⟩
        · obtain ⟨c, hc⟩ : ∃ c, cmpI h2 g2 = c := ⟨_, rfl⟩
          have hq := fun W => cmpIntQ h2 g2 W
          simp only [hc] at hq
          replace hq := Lib.hid hq
          by_cases hz0 : c = 0
          · subst hz0
            have hz := Lib.hid hc
            clear hc
            go_wp2
            go_quiet ((go_at_call 122; exact quietOn (hq.out _)))
            go_wp2
            go_roundw
            case rel => exact ⟨3, _, (by first | exact rfl | exact World.drewN_drewN _ _ _), rfl, .inr (.inr (.inr (.inl ⟨rfl, by show _ = _; rw [← hg.out, cmpL_hd hz.out]⟩)))⟩
            case measure => simp [intOf]
          · have hz' : (c != 0) = true := by simpa using hz0
            have hz := Lib.hid (show ¬ cmpI h2 g2 = 0 by rw [hc]; exact hz0)
            replace hc := Lib.hid hc
            clear hz0
            go_wp2
            go_quiet ((go_at_call 122; exact quietOn (hq.out _)))
            go_wp2
            go_ret
            exact ⟨ret_int (by rw [← hg.out, cmpL_ne hz.out, hc.out]), (by first | exact below_drewN (((Below.refl w.heap.size w).alloc (Nat.le_refl _) _).alloc (by simp) _) _ | exact below_drewN (below_drewN (((Below.refl w.heap.size w).alloc (Nat.le_refl _) _).alloc (by simp) _) _) _ | exact below_drewN (below_drewN (below_drewN (((Below.refl w.heap.size w).alloc (Nat.le_refl _) _).alloc (by simp) _) _) _) _), (by first | exact Nat.le_refl _ | exact hd1 | exact Nat.le_add_right _ _ | exact Nat.le_trans (Nat.le_add_right _ _) (Nat.le_add_right _ _))⟩
        · obtain ⟨c, hc⟩ : ∃ c, cmpI h3 g3 = c := ⟨_, rfl⟩
          have hq := fun W => cmpIntQ h3 g3 W
          simp only [hc] at hq
          replace hq := Lib.hid hq
          by_cases hz0 : c = 0
          · subst hz0
            have hz := Lib.hid hc
            clear hc
            go_wp2
            go_quiet ((go_at_call 122; exact quietOn (hq.out _)))
            go_wp2
            go_roundw
            case rel => exact ⟨4, _, (by first | exact rfl | exact World.drewN_drewN _ _ _), rfl, .inr (.inr (.inr (.inr (.inl ⟨rfl, by show _ = _; rw [← hg.out, cmpL_hd hz.out]⟩))))⟩
            case measure => simp [intOf]
          · have hz' : (c != 0) = true := by simpa using hz0
            have hz := Lib.hid (show ¬ cmpI h3 g3 = 0 by rw [hc]; exact hz0)
            replace hc := Lib.hid hc
            clear hz0
            go_wp2
            go_quiet ((go_at_call 122; exact quietOn (hq.out _)))
            go_wp2
            go_ret
            exact ⟨ret_int (by rw [← hg.out, cmpL_ne hz.out, hc.out]), (by first | exact below_drewN (((Below.refl w.heap.size w).alloc (Nat.le_refl _) _).alloc (by simp) _) _ | exact below_drewN (below_drewN (((Below.refl w.heap.size w).alloc (Nat.le_refl _) _).alloc (by simp) _) _) _ | exact below_drewN (below_drewN (below_drewN (((Below.refl w.heap.size w).alloc (Nat.le_refl _) _).alloc (by simp) _) _) _) _), (by first | exact Nat.le_refl _ | exact hd1 | exact Nat.le_add_right _ _ | exact Nat.le_trans (Nat.le_add_right _ _) (Nat.le_add_right _ _))⟩
        · obtain ⟨c, hc⟩ : ∃ c, cmpI h4 g4 = c := ⟨_, rfl⟩
          have hq := fun W => cmpIntQ h4 g4 W
          simp only [hc] at hq
          replace hq := Lib.hid hq
          by_cases hz0 : c = 0
          · subst hz0
            have hz := Lib.hid hc
            clear hc
            go_wp2
            go_quiet ((go_at_call 122; exact quietOn (hq.out _)))
            go_wp2
            go_roundw
            case rel => exact ⟨5, _, (by first | exact rfl | exact World.drewN_drewN _ _ _), rfl, .inr (.inr (.inr (.inr (.inr (⟨rfl, by show _ = _; rw [← hg.out, cmpL_hd hz.out]⟩)))))⟩
            case measure => simp [intOf]
          · have hz' : (c != 0) = true := by simpa using hz0
            have hz := Lib.hid (show ¬ cmpI h4 g4 = 0 by rw [hc]; exact hz0)
            replace hc := Lib.hid hc
            clear hz0
            go_wp2
            go_quiet ((go_at_call 122; exact quietOn (hq.out _)))
            go_wp2
            go_ret
            exact ⟨ret_int (by rw [← hg.out, cmpL_ne hz.out, hc.out]), (by first | exact below_drewN (((Below.refl w.heap.size w).alloc (Nat.le_refl _) _).alloc (by simp) _) _ | exact below_drewN (below_drewN (((Below.refl w.heap.size w).alloc (Nat.le_refl _) _).alloc (by simp) _) _) _ | exact below_drewN (below_drewN (below_drewN (((Below.refl w.heap.size w).alloc (Nat.le_refl _) _).alloc (by simp) _) _) _) _), (by first | exact Nat.le_refl _ | exact hd1 | exact Nat.le_add_right _ _ | exact Nat.le_trans (Nat.le_add_right _ _) (Nat.le_add_right _ _))⟩
        · go_wp2
          go_ret
          exact ⟨ret_int hg.out, (by first | exact below_drewN (((Below.refl w.heap.size w).alloc (Nat.le_refl _) _).alloc (by simp) _) _ | exact below_drewN (below_drewN (((Below.refl w.heap.size w).alloc (Nat.le_refl _) _).alloc (by simp) _) _) _ | exact below_drewN (below_drewN (below_drewN (((Below.refl w.heap.size w).alloc (Nat.le_refl _) _).alloc (by simp) _) _) _) _), (by first | exact Nat.le_refl _ | exact hd1 | exact Nat.le_add_right _ _ | exact Nat.le_trans (Nat.le_add_right _ _) (Nat.le_add_right _ _))⟩
    · have hE0 := Lib.hid (show cmpI n m = E by rw [← hE, cmpL_ne (fun h => hn (cmpI_zero.1 h))])
      have hn' : (n != m) = true := by simpa using hn
      clear hE hn
      go_enter Tryz.func121, Tryz.ntmps121
      go_wp2_with (go_at_call 122; refine (cmpInt _ _ _).mono ?_; rintro e w1 ⟨rfl, rfl⟩)
      go_ret
      exact ⟨ret_int hE0.out, (((Below.refl w.heap.size w).alloc (Nat.le_refl _) _).alloc (by simp) _), (by first | exact Nat.le_refl _ | exact hd1 | exact Nat.le_add_right _ _ | exact Nat.le_trans (Nat.le_add_right _ _) (Nat.le_add_right _ _))⟩

set_option maxRecDepth 100000 in
set_option maxHeartbeats 3200000 in
theorem roundCompareG (n h0 h1 h2 h3 h4 f m g0 g1 g2 g3 g4 g : Int) (w : World) : Calls Tryz.prog 92 #[.agg #[.int .i64 n, .int .i64 h0, .int .i64 h1, .int .i64 h2, .int .i64 h3, .int .i64 h4, .int .i64 f], .agg #[.int .i64 m, .int .i64 g0, .int .i64 g1, .int .i64 g2, .int .i64 g3, .int .i64 g4, .int .i64 g]] w fun e w' => e = .returned (.int .i64 (cmpL [n, h0, h1, h2, h3, h4, f] [m, g0, g1, g2, g3, g4, g])) ∧ Below w.heap.size w w' ∧ w.drawn ≤ w'.drawn := by
  have hb : Below w.heap.size w ((w.alloc (.cells #[.int .i64 n, .int .i64 h0, .int .i64 h1, .int .i64 h2, .int .i64 h3, .int .i64 h4, .int .i64 f] 51)).alloc (.cells #[.int .i64 m, .int .i64 g0, .int .i64 g1, .int .i64 g2, .int .i64 g3, .int .i64 g4, .int .i64 g] 51)) := ((Below.refl _ _).alloc (Nat.le_refl _) _).alloc (by simp) _
  have HG := Lib.hid (fun W => graphCompareG n h0 h1 h2 h3 h4 m g0 g1 g2 g3 g4 W)
  by_cases he : [n, h0, h1, h2, h3, h4, f] = [m, g0, g1, g2, g3, g4, g]
  · have hE := Lib.hid (show cmpL [n, h0, h1, h2, h3, h4, f] [m, g0, g1, g2, g3, g4, g] = 0 from cmpL_zero.2 he)
    have he' := Lib.hid (eqL_true.2 he)
    clear he
    go_enter Tryz.func92, Tryz.ntmps92
    have he1 := he'.out
    go_wp2
    go_ret
    exact ⟨ret_int hE.out.symm, hb, (by first | exact Nat.le_refl _ | exact hd1 | exact Nat.le_add_right _ _ | exact Nat.le_trans (Nat.le_add_right _ _) (Nat.le_add_right _ _))⟩
  · have he' := eqL_false.2 he
    clear he
    by_cases hg : [n, h0, h1, h2, h3, h4] = [m, g0, g1, g2, g3, g4]
    · have hE := Lib.hid (cmp7_2 (f := f) (g := g) hg)
      have hg' := Lib.hid (eqL_true.2 hg)
      clear hg
      go_enter Tryz.func92, Tryz.ntmps92
      have hg1 := hg'.out
      go_wp2_with fail
      refine (cmpInt f g _).mono ?_; rintro e w1 ⟨rfl, rfl⟩
      go_wp2
      go_ret
      exact ⟨ret_int hE.out.symm, hb, (by first | exact Nat.le_refl _ | exact hd1 | exact Nat.le_add_right _ _ | exact Nat.le_trans (Nat.le_add_right _ _) (Nat.le_add_right _ _))⟩
    · have hE := Lib.hid (cmp7_1 (f := f) (g := g) hg)
      have hg' := eqL_false.2 hg
      clear hg
      go_enter Tryz.func92, Tryz.ntmps92
      go_wp2_with fail
      refine (HG.out _).mono ?_; rintro e w1 ⟨rfl, hb1, hd1⟩
      go_wp2
      go_ret
      exact ⟨ret_int hE.out.symm, bt hb hb1 hb.size, (by first | exact Nat.le_refl _ | exact hd1 | exact Nat.le_add_right _ _ | exact Nat.le_trans (Nat.le_add_right _ _) (Nat.le_add_right _ _))⟩


open Go.Shelf Go.Lib Go.Sort
theorem grown_of {w w' : World} (hb : Go.RowKit.Below w.heap.size w w') (hd : w.drawn ≤ w'.drawn) : ∃ q os, w' = grow (w.drewN q) os := by
  refine ⟨w'.drawn - w.drawn, w'.heap.extract w.heap.size w'.heap.size, ?_⟩
  have hh : w'.heap = w.heap ++ w'.heap.extract w.heap.size w'.heap.size := by
    apply Array.ext_getElem?
    intro k
    by_cases hk : k < w.heap.size
    · rw [Array.getElem?_append_left hk]; exact hb.block k hk
    · have hs := hb.size
      rw [Array.getElem?_append_right (by omega), Array.getElem?_extract]
      by_cases hk2 : k < w'.heap.size
      · rw [if_pos (by omega)]; congr 1; omega
      · rw [if_neg (by omega), Array.getElem?_eq_none (by omega)]
  have h1 := hb.os
  have h2 := hb.tape
  have h3 := hb.output
  have hdd : w.drawn + (w'.drawn - w.drawn) = w'.drawn := by omega
  cases w with
  | mk heap tape drawn os output =>
    cases w' with
    | mk heap' tape' drawn' os' output' =>
      simp only at h1 h2 h3 hh hdd
      subst h1 h2 h3
      simp only [grow, World.drewN]
      rw [hdd, ← hh]
/-- Rounds, for the library. -/
def R7 : Type := { x : List Int // x.length = 7 }
instance : Inhabited R7 := ⟨⟨[0, 0, 0, 0, 0, 0, 0], rfl⟩⟩
def R7.enc (x : R7) : List Value := x.1.map (Value.int .i64)
def R7.cf (x y : R7) : Int := cmpL x.1 y.1
theorem R7.len (x : R7) : x.enc.length = 7 := by rw [R7.enc, List.length_map]; exact x.2
theorem R7.one (x : R7) : ∀ v ∈ x.enc, v.oneCell' = true := fun v hv => by
  obtain ⟨i, _, rfl⟩ := List.mem_map.1 hv; rfl
theorem R7.swo : SWO (ltOf R7.cf) where
  irrefl _ := decide_eq_false fun h => cmpL_asymm _ _ h h
  trans _ _ _ h1 h2 := decide_eq_true (cmpL_trans _ _ _ (of_decide_eq_true h1) (of_decide_eq_true h2))
  ntrans _ _ _ h1 h2 := decide_eq_false (cmpL_ntrans _ _ _ (of_decide_eq_false h1) (of_decide_eq_false h2))
theorem R7.lays (blk off size : Nat) (w : World) : CmpLays Tryz.prog 92 #[] R7.enc 7 R7.cf blk off size w := by
  rintro m os dk _ ⟨x, hx⟩ ⟨y, hy⟩
  obtain ⟨x0, x1, x2, x3, x4, x5, x6, rfl⟩ := seven hx
  obtain ⟨y0, y1, y2, y3, y4, y5, y6, rfl⟩ := seven hy
  exact (roundCompareG x0 x1 x2 x3 x4 x5 x6 y0 y1 y2 y3 y4 y5 y6 _).mono fun _ _ ⟨he, hb, hd⟩ => ⟨he, grown_of hb hd⟩
theorem heap_sortWorld_other {α : Type} [Inhabited α] {enc : α → Value} {w : World} {blk k : Nat} (off n : Nat) (d : Array α) (os : Array Obj) (hne : k ≠ blk) (hk : k < w.heap.size) : (sortWorld enc w blk off n d os).heap[k]? = w.heap[k]? := by
  simp only [sortWorld, grow, putRow, mapBlock, Sort.ahead]
  rw [Array.getElem?_append_left (by simpa using hk), Array.getElem?_modify, if_neg (fun h => hne h.symm)]
theorem heap_sortWorld_same {α : Type} [Inhabited α] {enc : α → Value} {w : World} {blk : Nat} (off n : Nat) (d : Array α) (os : Array Obj) {cs : Array Value} {t : TypeId} {fz : Nat × Nat} (h : w.heap[blk]? = some (.cells cs t fz)) : (sortWorld enc w blk off n d os).heap[blk]? = some (.cells (putCells enc off d cs) t fz) := by
  simp only [sortWorld, grow, putRow, mapBlock, Sort.ahead]
  rw [Array.getElem?_append_left (by simpa using (Array.getElem?_eq_some_iff.1 h).1), Array.getElem?_modify, if_pos rfl, h]
  rfl
theorem below_sortWorld {α : Type} [Inhabited α] {enc : α → Value} {w : World} {blk : Nat} (n : Nat) (d : Array α) (os : Array Obj) {B : Nat} (hB : B ≤ blk) (hb : blk < w.heap.size) : Go.RowKit.Below B w (sortWorld enc w blk 0 n d os) := by
  refine ⟨rfl, rfl, rfl, ?_, fun k hk => heap_sortWorld_other _ _ _ _ (by omega) (by omega)⟩
  simp [sortWorld, grow, putRow, mapBlock, Sort.ahead]
theorem putCells_take {α : Type} [Inhabited α] (enc : α → Value) (d : Array α) (cs : Array Value) (hd : d.size ≤ cs.size) : (putCells enc 0 d cs).toList.take d.size = d.toList.map enc := by
  apply List.ext_getElem?
  intro k
  rw [List.getElem?_take]
  by_cases hk : k < d.size
  · rw [if_pos hk, Array.getElem?_toList]
    simp only [putCells, Array.getElem?_mapIdx]
    rw [Array.getElem?_eq_getElem (by omega : k < cs.size)]
    simp [hk]
  · rw [if_neg hk, List.getElem?_eq_none (by simp; omega)]
theorem flat_R7 (d : Array R7) (j : Nat) (hj : j < d.size) : ((flatK R7.enc 7 d).toList.drop (j * 7)).take 7 = (d[j]!).1.map (Value.int .i64) := by
  have h7 : (d[j]!).1.length = 7 := (d[j]!).2
  apply List.ext_getElem?
  intro k
  rw [List.getElem?_take]
  by_cases hk : k < 7
  · have hle : j * 7 + 7 ≤ d.size * 7 := by rw [← Nat.succ_mul]; exact Nat.mul_le_mul_right _ hj
    rw [if_pos hk, List.getElem?_drop, Array.getElem?_toList, Array.getElem?_eq_getElem (by rw [size_flatK]; omega)]
    have := get_flatK R7.enc 7 d (j * 7 + k) (by omega)
    rw [getElem!_pos _ _ (by rw [size_flatK]; omega)] at this
    rw [this, show (j * 7 + k) / 7 = j by omega, show (j * 7 + k) % 7 = k by omega]
    have hl := R7.len d[j]!
    rw [getElem!_pos _ k (by omega)]
    show some _ = (R7.enc d[j]!)[k]?
    rw [List.getElem?_eq_getElem (by omega)]
  · rw [if_neg hk, List.getElem?_eq_none (by simp; omega)]
/-- What the sort leaves. -/
def SortOut (w : World) (B : Nat) (v : Value) (n : Nat) (xs : List (List Int)) (e : Ending) (w' : World) : Prop :=
  e = .returned (.tuple #[]) ∧ ∃ ys, ys.Perm xs ∧ ys.Pairwise (fun a b => ¬ cmpL b a < 0) ∧ OwX 51 7 EI w' B v n ys ∧ Go.RowKit.Below B w w' ∧ KeepX 51 w w'
theorem sortRds {w : World} {B g n cap : Nat} {xs : List (List Int)} (h : OwX 51 7 EI w B (.slice (some ⟨g, 0, none⟩) n cap) n xs) (hn : n ≤ 1000000) :
    Calls Tryz.prog 94 #[.slice (some ⟨g, 0, none⟩) n cap, .func (.func 92) #[] #[]] w (SortOut w B (.slice (some ⟨g, 0, none⟩) n cap) n xs) := by
  have hl := h.length
  have h7 : ∀ j, j < n → (xs.getD j []).length = 7 := fun j hj => (h.intCells hj).1
  have hci : ∀ j, j < n → CI w g (j * 7) (xs.getD j []) := fun j hj => (h.intCells hj).2
  have hfz : ∀ j, w.frozen? ⟨g, j, none⟩ = false := fun j => h.frozen j
  obtain ⟨ws, h1, _⟩ := h
  rcases h1.2 with ⟨h0, _⟩ | ⟨g', cap', cur, he, hB, hg, hc1, hc2, hc3, hc4⟩
  · cases h0
  · injection he with he1 he2 he3
    injection he1 with he1
    injection he1 with he1
    subst he1 he3
    let mk : Fin n → R7 := fun j => ⟨xs.getD j [], h7 j j.2⟩
    obtain ⟨d, hd⟩ : ∃ d, d = Array.ofFn mk := ⟨_, rfl⟩
    have hds : d.size = n := by rw [hd]; simp
    have hdj : ∀ j (hj : j < n), d[j]! = mk ⟨j, hj⟩ := fun j hj => by rw [getElem!_pos d j (by omega)]; simp [hd]
    have hH : HoldsK R7.enc 7 w g 0 d := by
      intro t ht
      rw [size_flatK, hds] at ht
      have htj : t / 7 < n := by rw [Nat.div_lt_iff_lt_mul (by decide)]; exact ht
      have hm : t % 7 < 7 := Nat.mod_lt _ (by decide)
      constructor
      · rw [get_flatK _ _ _ _ (by rw [hds]; exact ht), hdj _ htj]
        have := hci (t / 7) htj (t % 7) (by rw [h7 _ htj]; exact hm)
        rw [show t / 7 * 7 + t % 7 = 0 + t by rw [Nat.mul_comm, Nat.div_add_mod, Nat.zero_add]] at this
        rw [this]
        show some _ = some (id ((xs.getD (t / 7) []).map (Value.int .i64))[t % 7]!)
        have hl7 := h7 _ htj
        rw [getElem!_pos _ _ (by rw [List.length_map, hl7]; exact hm), List.getElem_map, getD_eq (by rw [hl7]; exact hm)]
        rfl
      · rw [Nat.zero_add]; exact hfz t
    have hgl := (Array.getElem?_eq_some_iff.1 hg).1
    have eg : ∀ args w, (callFunc 92 args).run Tryz.prog w = .ok (.enter 92 args) w := enters_of Tryz.func92 (by kernel_rfl) rfl
    have hS := AnyQ.slices_SortFunc Tryz.sortRd 7 Tryz.isAgg51 Tryz.sizeOf51 R7.enc R7.len R7.one R7.cf R7.swo 92 #[] g 0 cap d w eg (R7.lays g 0 d.size w) hH hgl (by omega)
    rw [hds] at hS
    change Calls Tryz.prog 94 _ _ _ at hS
    refine hS.mono ?_
    rintro e w' ⟨rfl, d', m, os, hp, hs, rfl⟩
    obtain ⟨hp1, _, hp2⟩ := hp
    rw [hds] at hp1
    have e1 : d'.extract 0 n = d' := by rw [← hp1]; simp
    have e2 : d.extract 0 n = d := by rw [← hds]; simp
    rw [e1, e2] at hp2
    have ex : d.toList.map (fun x : R7 => x.1) = xs := by
      apply List.ext_getElem
      · simp [hds, hl]
      · intro j hj1 hj2
        simp only [List.getElem_map, Array.getElem_toList]
        have := hdj j (by omega)
        rw [getElem!_pos d j (by omega)] at this
        rw [this]
        exact getD_eq hj2 []
    have hfs : (flatK R7.enc 7 d').size = n * 7 := by rw [size_flatK, hp1]
    have hcs : n * 7 ≤ cur.size := by rw [hc3]; exact Nat.mul_le_mul_right _ hc1
    have hW : sortWorldK R7.enc 7 w g 0 m d' os = sortWorld id w g 0 m (flatK R7.enc 7 d') os := rfl
    rw [hW]
    refine ⟨rfl, d'.toList.map (fun x : R7 => x.1), ?_, ?_, ⟨(flatK R7.enc 7 d').toList, ⟨by rw [Array.length_toList, hfs], .inr ⟨g, cap, putCells id 0 (flatK R7.enc 7 d') cur, rfl, hB, heap_sortWorld_same 0 m _ os hg, hc1, hc2, by simpa [putCells] using hc3, ?_⟩⟩, by simp [hp1], ?_, ?_⟩, below_sortWorld m _ os hB hgl, ?_⟩
    · rw [← ex]; exact hp2.map _
    · rw [List.pairwise_map, List.pairwise_iff_getElem]
      intro i j hi hj hij
      simp only [Array.length_toList] at hi hj
      have := hs i j (Nat.zero_le _) hij (by omega)
      rw [getElem!_pos d' i hi, getElem!_pos d' j hj] at this
      exact of_decide_eq_false this
    · have := putCells_take id (flatK R7.enc 7 d') cur (by omega)
      rw [hfs] at this
      rw [this, List.map_id]
    · intro u hu
      obtain ⟨t, ht, rfl⟩ := List.getElem_of_mem hu
      rw [Array.length_toList, hfs] at ht
      have := get_flatK R7.enc 7 d' t (by rw [hp1]; exact ht)
      rw [getElem!_pos _ _ (by omega)] at this
      rw [Array.getElem_toList, this]
      have hl7 := R7.len d'[t / 7]!
      rw [getElem!_pos _ _ (by rw [hl7]; exact Nat.mod_lt _ (by decide))]
      exact R7.one _ _ (List.getElem_mem _)
    · intro j x hj
      rw [List.getElem?_map] at hj
      have hjl : j < d'.size := by
        rcases Nat.lt_or_ge j d'.size with h | h
        · exact h
        · rw [List.getElem?_eq_none (by simpa using h)] at hj; cases hj
      show _ = _
      rw [flat_R7 d' j hjl]
      rw [Array.getElem?_toList, Array.getElem?_eq_getElem hjl] at hj
      simp only [Option.map_some, Option.some.injEq] at hj
      rw [getElem!_pos d' j hjl, hj]
    · intro k cs t hk ht
      refine heap_sortWorld_other _ _ _ _ (fun e => ?_) (Array.getElem?_eq_some_iff.1 hk).1
      subst e
      rw [hg] at hk
      injection hk with hk
      injection hk with _ hk
      exact ht hk.symm
end Go.Proofs.YtiiiegflobihjaaGreat

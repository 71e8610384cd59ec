/- The law PermutationMoves: its walk, with slices.Sorted of slices.Values, bits.OnesCount, and the plain facts on moved sets and vectors. -/
import Derived.Ground.SlgmProg
import Derived.Shelf.SortM.Plain
import Derived.Test.YtpjlaaldepfnkaaDoorProg
import Derived.Test.YtpjlaaldepfnkaaDoorIb
import Derived.Test.YtpjlaaldepfnkaaDoorBu
import Derived.Lib.OwnBridge
import Derived.Lib.AppendIntMem
import Derived.Test.YtpjlaaldepfnkaaDoorPf
import Derived.Test.YtpjlaaldepfnkaaDoorLb
import Derived.Test.YtpjlaaldepfnkaaDoorLf
namespace Go.Proofs
open Go.Shelf
def Tryd.sortI_ren : Go.Shelf.Ren := ⟨fun | 5 => 67 | 8 => 73 | 7 => 85 | 19 => 94 | 20 => 95 | 10 => 100 | 11 => 101 | 12 => 102 | 13 => 103 | 14 => 104 | 15 => 105 | 16 => 106 | 17 => 107 | 18 => 108 | 30 => 116 | 31 => 110 | 32 => 111 | 33 => 117 | 34 => 118 | 35 => 76 | 40 => 124 | n => n, fun | 23 => 22 | 25 => 3 | 3 => 3 | 32 => 78 | 22 => 22 | 0 => 0 | 44 => 100 | 46 => 102 | 4 => 4 | 36 => 123 | 35 => 122 | 41 => 127 | 5 => 5 | 9 => 9 | 53 => 136 | 57 => 140 | 63 => 147 | 64 => 31 | n => n, fun | n => n⟩
theorem Tryd.sortI : Go.Proofs.SlLaysM.n5 Tryd.prog Tryd.sortI_ren := {
  mixed := by kernel_rfl
  f5 := ⟨Tryd.f67.name, by decide, Tryd.func67.trans (congrArg some (by kernel_rfl))⟩
  f7 := ⟨Tryd.f85.name, by decide, Tryd.func85.trans (congrArg some (by kernel_rfl))⟩
  f8 := Tryd.func73.trans (congrArg some (by kernel_rfl))
  f10 := ⟨Tryd.f100.name, by decide, Tryd.func100.trans (congrArg some (by kernel_rfl))⟩
  f11 := ⟨Tryd.f101.name, by decide, Tryd.func101.trans (congrArg some (by kernel_rfl))⟩
  f12 := ⟨Tryd.f102.name, by decide, Tryd.func102.trans (congrArg some (by kernel_rfl))⟩
  f13 := ⟨Tryd.f103.name, by decide, Tryd.func103.trans (congrArg some (by kernel_rfl))⟩
  f14 := ⟨Tryd.f104.name, by decide, Tryd.func104.trans (congrArg some (by kernel_rfl))⟩
  f15 := ⟨Tryd.f105.name, by decide, Tryd.func105.trans (congrArg some (by kernel_rfl))⟩
  f16 := ⟨Tryd.f106.name, by decide, Tryd.func106.trans (congrArg some (by kernel_rfl))⟩
  f17 := ⟨Tryd.f107.name, by decide, Tryd.func107.trans (congrArg some (by kernel_rfl))⟩
  f18 := ⟨Tryd.f108.name, by decide, Tryd.func108.trans (congrArg some (by kernel_rfl))⟩
  f19 := Tryd.func94.trans (congrArg some (by kernel_rfl))
  f20 := Tryd.func95.trans (congrArg some (by kernel_rfl))
  f30 := ⟨Tryd.f116.name, by decide, Tryd.func116.trans (congrArg some (by kernel_rfl))⟩
  f31 := Tryd.func110.trans (congrArg some (by kernel_rfl))
  f32 := Tryd.func111.trans (congrArg some (by kernel_rfl))
  f33 := ⟨Tryd.f117.name, by decide, Tryd.func117.trans (congrArg some (by kernel_rfl))⟩
  f34 := ⟨Tryd.f118.name, by decide, Tryd.func118.trans (congrArg some (by kernel_rfl))⟩
  f35 := ⟨Tryd.f76.name, by decide, Tryd.func76.trans (congrArg some (by kernel_rfl))⟩
  f40 := ⟨Tryd.f124.name, by decide, Tryd.func124.trans (congrArg some (by kernel_rfl))⟩
  t0 := Tryd.underlying0
  a0 := Tryd.isAgg0
  z0 := Tryd.sizeOf0
  v0 := Tryd.zeroValue0
  t3 := Tryd.underlying3
  a3 := Tryd.isAgg3
  z3 := Tryd.sizeOf3
  v3 := Tryd.zeroValue3
  t4 := Tryd.underlying4
  a4 := Tryd.isAgg4
  z4 := Tryd.sizeOf4
  v4 := Tryd.zeroValue4
  t5 := Tryd.underlying5
  a5 := Tryd.isAgg5
  z5 := Tryd.sizeOf5
  v5 := Tryd.zeroValue5
  t9 := Tryd.underlying9
  a9 := Tryd.isAgg9
  z9 := Tryd.sizeOf9
  v9 := Tryd.zeroValue9
  t22 := Tryd.underlying22
  a22 := Tryd.isAgg22
  z22 := Tryd.sizeOf22
  v22 := Tryd.zeroValue22
  t23 := Tryd.underlying22
  a23 := Tryd.isAgg22
  z23 := Tryd.sizeOf22
  v23 := Tryd.zeroValue22
  t25 := Tryd.underlying3
  a25 := Tryd.isAgg3
  z25 := Tryd.sizeOf3
  v25 := Tryd.zeroValue3
  t32 := Tryd.underlying78
  a32 := Tryd.isAgg78
  z32 := Tryd.sizeOf78
  v32 := Tryd.zeroValue78
  t35 := Tryd.underlying122
  a35 := Tryd.isAgg122
  z35 := Tryd.sizeOf122
  v35 := Tryd.zeroValue122
  t36 := Tryd.underlying123
  a36 := Tryd.isAgg123
  z36 := Tryd.sizeOf123
  v36 := Tryd.zeroValue123
  t41 := Tryd.underlying127
  a41 := Tryd.isAgg127
  z41 := Tryd.sizeOf127
  v41 := Tryd.zeroValue127
  t44 := Tryd.underlying100
  a44 := Tryd.isAgg100
  z44 := Tryd.sizeOf100
  v44 := Tryd.zeroValue100
  t46 := Tryd.underlying102
  a46 := Tryd.isAgg102
  z46 := Tryd.sizeOf102
  v46 := Tryd.zeroValue102
  t53 := Tryd.underlying136
  a53 := Tryd.isAgg136
  z53 := Tryd.sizeOf136
  v53 := Tryd.zeroValue136
  t57 := Tryd.underlying140
  a57 := Tryd.isAgg140
  z57 := Tryd.sizeOf140
  v57 := Tryd.zeroValue140
  t63 := Tryd.underlying147
  a63 := Tryd.isAgg147
  z63 := Tryd.sizeOf147
  v63 := Tryd.zeroValue147
  t64 := Tryd.underlying31
  a64 := Tryd.isAgg31
  z64 := Tryd.sizeOf31
  v64 := Tryd.zeroValue31 }
end Go.Proofs

namespace Go.Proofs.YtpjlaaldepfnkaaDoor
open Go.RowKit
attribute [local go_sem] Oper.semAt_some

def valR (L : List Int) (pre : List Int) (x : Int) (_ : World) : Prop := ∃ r, pre ++ x :: r = L

set_option maxRecDepth 100000 in
set_option maxHeartbeats 3200000 in
theorem valSeq {w0 : World} {a : List Int} {aa : Option Addr} {ac ab off Bx : Nat} (hcell : w0.cell? ⟨Bx, 0, none⟩ = some (.slice aa a.length ac))
    (ha : 0 < a.length → aa = some ⟨ab, off, none⟩) (hc : CI w0 ab off a) (h5 : a.length ≤ 5) (h1 : 0 < a.length) :
    SeqOK Tryd.prog 68 #[.pointer (some ⟨Bx, 0, none⟩)] (fun x : Int => #[.int .i64 x]) (valR a) (fun xs => xs = a) (fun _ => True) 1000 (fun k => k = Bx ∨ k = ab) w0 := by
  intro l J Jx D W hb hBd hDC hJ hJx hY h0
  have hBx : ¬ D Bx := fun h => hDC _ h (.inl rfl)
  have hab : ¬ D ab := fun h => hDC _ h (.inr rfl)
  have hcW := cell_kept hb hcell
  have hciW := hc.keep hb
  obtain rfl := ha h1
  clear ha hDC hcell hc
  replace hJ := Lib.hid hJ
  replace hJx := Lib.hid hJx
  replace hY := Lib.hid hY
  show CallsIn Fence.wide 0 Tryd.prog 68 #[.func (.yield l) #[] #[], .pointer (some ⟨Bx, 0, none⟩)] W _
  refine callsIn_of_wp Tryd.func68 rfl trivial ?_
  simp only [Tryd.ntmps68, List.size_toArray, List.length_cons, List.length_nil, Nat.reduceAdd, Nat.reduceSub, Array.replicate_succ,
     Array.replicate_zero, List.push_toArray, List.append_toArray, List.nil_append, List.cons_append]
  gi_wp2
  have hOn0 : Only D W W := Only.refl _ _
  have hGr0 : Gr D W D := Gr.refl _ _
  replace hciW := Lib.hid hciW
  replace hcW := Lib.hid hcW
  obtain ⟨wo, hwo⟩ : ∃ wo, wo = W := ⟨_, rfl⟩
  have h00 : J [] D wo := by rw [hwo]; exact h0
  have hBd0 : Bd D wo := by rw [hwo]; exact hBd
  have hOn0 : Only D W wo := by rw [hwo]; exact hOn0
  rw [← hwo]
  clear hwo h0 hBd
  gi_loopw [7] (fun iv wr => ∃ (k : Nat) (D1 : Nat → Prop), iv = .int .i64 k ∧ k ≤ a.length ∧ J (a.take k) D1 wr ∧ Bd D1 wr ∧ Only D W wr ∧ Gr D W D1) (fun iv _ => a.length - (intOf iv).toNat)
  case atStart => exact ⟨0, D, rfl, by omega, h00, hBd0, hOn0, hGr0⟩
  case round =>
    clear h00 hBd0 hOn0 hGr0
    obtain ⟨k, D1, rfl, hk, hJk, hBk, hOn, hGr⟩ := hrel
    by_cases hlt : k < a.length
    · have hcq : wr.cell? ⟨ab, off + k, none⟩ = some (.int .i64 (a.getD k 0)) := hOn.cell (p := ⟨ab, off + k, none⟩) hab (hciW.out k hlt)
      have hts := Lib.hid (take_snoc hlt 0)
      have hR : valR a (a.take k) (a.getD k 0) wr := ⟨a.drop (k + 1), by rw [← drop_cons hlt 0, List.take_append_drop]⟩
      obtain ⟨q, hq⟩ : ∃ q, a.getD k 0 = q := ⟨_, rfl⟩
      rw [hq] at hcq hts hR
      clear hq
      obtain ⟨fn, tmps, assign, body, hy, hR⟩ := hY.out (a.take k) q D1 wr hJk hBk hOn hGr hR (by rw [List.length_take]; omega)
      try dsimp only at hy
      have hR := Lib.hid hR
      clear hJk
      gi_wp2
      refine ⟨rfl, hR.out.mono ?_⟩
      rintro e W' ⟨D', hO', hG', hB', (⟨rfl, hJ'⟩ | ⟨rfl, hJ'⟩)⟩
      · gi_wp2
        go_roundw
        case rel => exact ⟨k + 1, D', by go_num, hlt, by rw [hts.out]; exact hJ', hB', hOn.trans hO' hGr, hGr.trans hG' hOn.size⟩
        case measure => simp [intOf]; omega
      · gi_wp2
        refine bodyPost_ret (results_none rfl _ _ _) rfl ?_
        exact ⟨⟨_, rfl⟩, D', hOn.trans hO' hGr, hGr.trans hG' hOn.size, hB', .inr ⟨_, trivial, hJ'⟩⟩
    · obtain rfl : k = a.length := by omega
      rw [List.take_length] at hJk
      clear hJ hJx hY
      gi_wp2
      first | refine bodyPost_end (results_none rfl _ _ _) rfl ?_ | refine bodyPost_ret (results_none rfl _ _ _) rfl ?_
      exact ⟨⟨_, rfl⟩, D1, hOn, hGr, hBk, .inl ⟨a, rfl, hJk⟩⟩
end Go.Proofs.YtpjlaaldepfnkaaDoor

namespace Go.Proofs.YtpjlaaldepfnkaaDoor
open Go.RowKit Go.Sort
attribute [local go_sem] Oper.semAt_some

def sortL (xs : List Int) : List Int := xs.mergeSort fun x y => decide (x ≤ y)
theorem sortL_len (xs : List Int) : (sortL xs).length = xs.length := by simp [sortL, List.length_mergeSort]
theorem sortICall {w : World} {B n : Nat} {v : Value} {xs : List Int} (h : OI w B v n xs) (hn : 0 < n) (hn2 : n ≤ 1000) :
    Calls Tryd.prog 67 #[v] w fun e w' => e = .returned (.tuple #[]) ∧ OI w' B v n (sortL xs) ∧ Below B w w' := by
  have hne : v ≠ .slice none 0 0 := by
    rintro rfl
    rcases h.2 with ⟨_, h0⟩ | ⟨g, cap, cur, h1, _⟩
    · omega
    · cases h1
  obtain ⟨g, cap, rfl, hB, hg, hnc, hcm, hl, hH⟩ := Lib.holds_of_ownsRow h hne
  have hc := AnyM.slices_Sort_int Tryd.sortI g 0 cap xs w hH hg (by omega)
  rw [hl] at hc
  refine hc.mono ?_
  rintro e w' ⟨rfl, q, os, rfl⟩
  have h1 := Lib.ownsRow_putRow (q := q) (k := n) (ys := sortL xs) h (by rw [sortL_len, hl]) (Nat.le_refl _)
  have h2 := Lib.ownsRow_grow h1 0 os
  have ht : (sortL xs).take n = sortL xs := List.take_of_length_le (by rw [sortL_len]; omega)
  rw [ht] at h2
  have hb1 := Lib.below_putRow (enc := Value.int .i64) (q := q) (d := (sortL xs).toArray) (Below.refl B w) hB
  refine ⟨rfl, h2, hb1.trans ?_⟩
  refine ⟨rfl, rfl, rfl, by simp [grow], fun k hk => ?_⟩
  have hkw : k < (putRow (Value.int .i64) (Sort.ahead w q) g 0 (sortL xs).toArray).heap.size := by simp [putRow, mapBlock, Sort.ahead]; omega
  exact Array.getElem?_append_left hkw

theorem run_app1G {P : Program} {T E : TypeId} {z : Value} {bytes : Nat} (hE : ElemOK P T E z bytes) (hby : bytes ≤ 64) (w : World) (ty : TypeId) (v : Value) (n : Nat) (xs : List Value) (hown : w.ownsRow 0 E 1 v n xs) (ad : Addr) (c : Nat) (y : Value) (hy : w.cell? ad = some y) (hy1 : y.oneCell' = true) (hb : n + 1 ≤ 1000000000) :
    ∃ v' w', (Builtin.append_ #[T, T] ty #[v, .slice (some ad) 1 c]).run P w = .ok v' w' ∧ w'.ownsRow 0 E 1 v' (n + 1) (xs ++ [y]) ∧ w.grownBy w' v.ownBlock ∧ NewBlk w v v' := by
  obtain ⟨i0, hi, hz0, hz1, hz2⟩ := info_parts hE.2.1
  have hzs : z.cells.size = 1 := by rw [hE.2.2]; rfl
  have hmul : (n + 1) * bytes ≤ 1000000000 * 64 := Nat.mul_le_mul hb hby
  have hnews : ∀ j u, [y][j]? = some u → w.cell? (ad.add j) = some u := by
    intro j u hj
    match j, hj with
    | 0, hj => simp at hj; subst hj; simpa [Addr.add] using hy
  have h1c : ∀ u ∈ [y], u.oneCell' = true := fun u hu => by rw [List.mem_singleton.1 hu]; exact hy1
  obtain ⟨v', w', hr, h1, h2, _⟩ := run_append_own (P := P) w 0 T ty E i0 z 1 bytes hE.1 hi hz0 hz1 hz2 hzs (by decide) v n xs hown ad 1 c [y] rfl hnews h1c (by unfold maxLen; omega) (by omega) (Nat.zero_le _)
  refine ⟨v', w', hr, h1, h2, ?_⟩
  rcases hown.2 with ⟨rfl, rfl⟩ | ⟨g, cap, cur, rfl, hbg, hg, hnc, hcm, hcs, htake⟩
  · have hx : xs = [] := List.length_eq_zero_iff.1 (by simpa using hown.1)
    subst hx
    obtain ⟨v2, w2, hr2, h3, _, _⟩ := run_append_own (P := P) w w.heap.size T ty E i0 z 1 bytes hE.1 hi hz0 hz1 hz2 hzs (by decide) (.slice none 0 0) 0 [] (World.ownsRow_nil _ _ _ _) ad 1 c [y] rfl hnews h1c (by unfold maxLen; omega) (by omega) (Nat.le_refl _)
    rw [hr] at hr2
    injection hr2 with e1 e2
    subst e1
    exact .inr (ownBlock_ge h3)
  · by_cases hroom : n + 1 ≤ cap
    · obtain ⟨w2, hr2, _, _⟩ := run_append_fits (P := P) w 0 T ty E i0 1 hE.1 hi hz1 g n cap xs hown ad 1 c [y] rfl hnews h1c hroom
      rw [hr] at hr2
      injection hr2 with e1 e2
      subst e1
      exact .inl rfl
    · have holds : ∀ j u, xs[j]? = some u → w.cell? ((⟨g, 0, none⟩ : Addr).add j) = some u := hown.cells (g := g) rfl
      have hr2 := run_append_grow (P := P) w T ty E i0 z hE.1 hi hz0 ⟨g, 0, none⟩ n cap xs (by rw [hz1]; simpa using hown.1) holds ad 1 c [y] (by rw [hz1]; rfl) hnews (by omega) (by omega) (growslice_fits (by omega) (by rw [hz2]; omega))
      rw [hr] at hr2
      injection hr2 with e1 e2
      subst e1
      right
      intro k hk
      simp only [Value.ownBlock, Option.some.injEq] at hk
      omega
theorem wpListIn_app1 {F : Fence} {d : Nat} {P : Program} {T E : TypeId} {z : Value} {bytes : Nat} (hE : ElemOK P T E z bytes) (hby : bytes ≤ 64) (w : World) {ops : Array Oper} {rest : List Oper} {o : Oper} {a : Act} {Q : Exit → Act → World → Prop}
    (hg : o.guard = none) (s x : Operand) (hop : o.op = Op.call { callee := Callee.builtin Builtin.append, args := #[s, x], argTypes := #[T, T] })
    (v : Value) (n : Nat) (xs : List Value) (hs : a.eval s = v) (hown : w.ownsRow 0 E 1 v n xs) (ad : Addr) (c : Nat) (y : Value) (hx : a.eval x = .slice (some ad) 1 c) (hy : w.cell? ad = some y) (hy1 : y.oneCell' = true) (hb : n + 1 ≤ 1000000000)
    (hK : ∀ v' w', w'.ownsRow 0 E 1 v' (n + 1) (xs ++ [y]) → w.grownBy w' v.ownBlock → NewBlk w v v' → wpListIn F d P ops Q rest (a.put o.dst v') w') :
    wpListIn F d P ops Q (o :: rest) a w := by
  refine wpListIn_plain hg fun K hK' => ?_
  obtain ⟨v', w', hrun, r1, r2, r3⟩ := run_app1G hE hby w o.type v n xs hown ad c y hy hy1 hb
  unfold Oper.wpIn
  refine ⟨?_, ?_⟩
  · simp [Oper.about, hop, resolve, Target.leads, Sem.run_pure]
  · rw [Oper.semAt_plain F _ _ (by rw [hop]; intro c hc'; cases hc')]
    simp [execOp, hop, resolve, invoke, builtin, hs, hx, hrun, Result.andThen]
    exact hK' _ _ (hK v' w' r1 r2 r3)

/-- A box that holds a row of ints. -/
def BoxI (bn : Nat) (xs : List Int) (D : Nat → Prop) (W : World) : Prop := ∃ v, W.heap[bn]? = some (.cells #[v] 22 (0, 0)) ∧ OI W 0 v xs.length xs ∧ ∀ k, D k ↔ k = bn ∨ v.ownBlock = some k
theorem BoxI.stable (bn : Nat) : Stable (BoxI bn) := by
  rintro pre D W W' ⟨v, h1, h2, h3⟩ hs hk
  refine ⟨v, (hk bn ((h3 bn).2 (.inl rfl))).trans h1, ⟨h2.1, ?_⟩, h3⟩
  rcases h2.2 with h' | ⟨g, cap, cur, k1, k2, k3, k4⟩
  · exact .inl h'
  · exact .inr ⟨g, cap, cur, k1, k2, (hk g ((h3 g).2 (.inr (by rw [k1]; rfl)))).trans k3, k4⟩
theorem valR_put {L : List Int} (pre : List Int) (x : Int) (W : World) (k : Nat) (r : Loop) (o : Obj) (h : valR L pre x W) (_ : W.heap[k]? = some (.loop r)) : valR L pre x (W.putObj k o) := h

set_option maxRecDepth 100000 in
set_option maxHeartbeats 1600000 in
theorem appSeqCall {w : World} {a : List Int} {aa : Option Addr} {ac ab off Bx : Nat} (hcell : w.cell? ⟨Bx, 0, none⟩ = some (.slice aa a.length ac))
    (ha : 0 < a.length → aa = some ⟨ab, off, none⟩) (hc : CI w ab off a) (h5 : a.length ≤ 5) (h1 : 0 < a.length) :
    Calls Tryd.prog 84 #[.slice none 0 0, .func (.func 68) #[] #[.pointer (some ⟨Bx, 0, none⟩)]] w fun e w' => ∃ v, e = .returned v ∧ OI w' w.heap.size v a.length a ∧ Below w.heap.size w w' := by
  obtain ⟨i0, hi, hz0, hz1, hz2⟩ := info_parts elemInt.2.1
  have hBx : Bx < w.heap.size := World.block_lt_of_cell? w _ hcell
  have hab : ab < w.heap.size := World.block_lt_of_cell? w _ (hc 0 h1)
  refine callsIn_wide.1 (callsIn_of_wp_marks (n := 0) Tryd.func84 rfl trivial ?_)
  simp only [Tryd.ntmps84, List.size_toArray, List.length_cons, List.length_nil, Nat.reduceAdd, Nat.reduceSub, Array.replicate_succ, Array.replicate_zero, List.push_toArray, List.append_toArray, List.nil_append, List.cons_append]
  refine wpIn_wide.2 ?_
  obtain ⟨W0, hW0⟩ : ∃ W0, W0 = w.alloc (.cells #[.slice none 0 0] 22) := ⟨_, rfl⟩
  have hb0 : Below w.heap.size w W0 := by rw [hW0]; exact (Below.refl _ w).alloc (Nat.le_refl _) _
  have hs0 : W0.heap.size = w.heap.size + 1 := by rw [hW0]; simp
  have hbx : W0.heap[w.heap.size]? = some (.cells #[.slice none 0 0] 22 (0, 0)) := by rw [hW0]; exact heap_alloc_new w _
  go_wp2
  rw [← hW0]
  clear hW0
  have hcW := cell_kept hb0 hcell
  have hciW := hc.keep hb0
  refine wpIn_wide.1 (wpIn_rf (gf := 68) (lb := #[.pointer (some ⟨Bx, 0, none⟩)]) rfl (enters_of Tryd.func68 (by kernel_rfl) rfl) (valSeq hcW ha hciW h5 h1) (Below.refl _ _) (fun _ => rfl) valR_put
    (fun pre D W => BoxI w.heap.size pre D W ∧ ∀ k, D k → w.heap.size ≤ k) (fun _ _ _ _ => False) (fun pre D W W' h hs hk => ⟨BoxI.stable _ pre D W W' h.1 hs hk, h.2⟩) (fun _ _ _ _ _ h _ _ => h)
    (fun k => k = w.heap.size) (fun k hk => by rw [hk]; omega) (fun k hk h => by rcases h with h | h <;> omega) (fun k hk => by rcases hk with h | h <;> omega) ⟨⟨.slice none 0 0, hbx, OI.nil _ _, fun k => by simp [Value.ownBlock]⟩, fun k hk => by omega⟩
    (fun x => { tmps := #[.slice none 0 0, .func (.func 68) #[] #[.pointer (some ⟨Bx, 0, none⟩)], .pointer (some ⟨w.heap.size, 0, none⟩), undef, .slice none 0 0, .int .i64 x, .func (.func 68) #[] #[.pointer (some ⟨Bx, 0, none⟩)], .int .i64 x, undef, undef, undef, undef, undef], defers := [] }) ?assign ?body ?done ?stop)
  case assign =>
    intro l x W K hK
    gi_wp2
    exact hK
  case body =>
    rintro l pre x D W ⟨⟨v, hbox, hrow, hD⟩, hDn⟩ hBd hOn hGr ⟨r, hr⟩ hlen
    have hcn := cell_of_one hbox
    have hpl : pre.length ≤ 5 := by
      have := congrArg List.length hr
      simp at this; omega
    clear hr hcW hciW hcell hc hlen hb0 hbx
    have hne : v.ownBlock ≠ some w.heap.size := by
      intro e
      rcases hrow.2 with ⟨rfl, _⟩ | ⟨g, cap, cur, rfl, _, h3, _⟩
      · cases e
      · simp only [Value.ownBlock, Option.some.injEq] at e
        rw [e, hbox] at h3; simp at h3
    gi_wp2_with (gi_at_builtin; refine wpListIn_app1 elemInt (by decide) _ rfl _ _ rfl v _ _ rfl (hrow.alloc _) ⟨W.heap.size, 0, none⟩ 1 (.int .i64 x) rfl (cell_of_one (heap_alloc_new _ _)) rfl (by omega) ?_; intro v' w1 hown' hgrow hnew; obtain ⟨g', cap', rfl⟩ := ownsRow_succ hown'; have hbx1 : w1.heap[w.heap.size]? = some (.cells #[v] 22 (0, 0)) := (hgrow.block _ (by simp; have := (Array.getElem?_eq_some_iff.1 hbox).1; omega) (fun e => hne e.symm)).trans ((Below.heap_alloc _ _ _ (Array.getElem?_eq_some_iff.1 hbox).1).trans hbox); have hc1 := cell_of_one hbx1; have hf1 := free_of_one hbx1)
    have hset := one_setCell (u := .slice (some ⟨g', 0, none⟩) (pre.length + 1) cap') hbx1
    have hg' : g' ≠ w.heap.size := by
      rintro rfl
      rcases hown'.2 with ⟨h, _⟩ | ⟨g, cap, cur, h, _, h3, _⟩
      · cases h
      · injection h with h; injection h with h; injection h with h
        rw [← h, hbx1] at h3; simp at h3
    have hlt1 : g' < w1.heap.size := by
      rcases hown'.2 with ⟨h, _⟩ | ⟨g, cap, cur, h, _, h3, _⟩
      · cases h
      · injection h with h; injection h with h; injection h with h
        rw [h]; exact (Array.getElem?_eq_some_iff.1 h3).1
    have hws : W.heap.size ≤ w1.heap.size := by have := hgrow.size; simp at this; omega
    have hrow' : OI (w1.setCell ⟨w.heap.size, 0, none⟩ (.slice (some ⟨g', 0, none⟩) (pre.length + 1) cap')) 0 (.slice (some ⟨g', 0, none⟩) (pre ++ [x]).length cap') (pre ++ [x]).length (pre ++ [x]) := by
      unfold OI
      rw [List.map_append, List.length_append, List.length_singleton]
      exact hown'.kept (row := some w.heap.size) ⟨rfl, rfl, rfl, by simp [World.setCell], fun k _ hk => Below.heap_setCell _ _ _ _ (fun e => hk (by simp [e]))⟩ (.inr (by simp [Value.ownBlock, hg']))
    have hD' : ∀ k, k < W.heap.size → ¬ D k → (w1.setCell ⟨w.heap.size, 0, none⟩ (.slice (some ⟨g', 0, none⟩) (pre.length + 1) cap')).heap[k]? = W.heap[k]? := fun k hk hd =>
      (Below.heap_setCell _ _ _ _ (fun e => hd ((hD k).2 (.inl e)))).trans ((hgrow.block k (by simp; omega) (fun e => hd ((hD k).2 (.inr e.symm)))).trans (Below.heap_alloc _ _ _ hk))
    refine ⟨fun k => k = w.heap.size ∨ k = g', ⟨hgrow.os, hgrow.tape, hgrow.output, by simp [World.setCell]; omega, hD'⟩, ?_, ?_, ⟨_, ?_, hrow', ?_⟩, ?_⟩
    · intro k hk
      rcases hk with h | h
      · exact .inl ((hD k).2 (.inl h))
      · rcases hnew with e | e
        · exact .inl ((hD k).2 (.inr (by rw [← e, h]; rfl)))
        · right; have := e g' rfl; simp at this; omega
    · intro k hk
      have hN := (Array.getElem?_eq_some_iff.1 hbx1).1
      simp only [World.setCell]
      rcases hk with h | h <;> simp <;> omega
    · rw [List.length_append, List.length_singleton]; exact hset
    · intro k; simp [Value.ownBlock, eq_comm]
    · intro k hk
      rcases hk with h | h
      · omega
      · rcases hnew with e | e
        · exact hDn k ((hD k).2 (.inr (by rw [← e, h]; rfl)))
        · have := e g' rfl
          have := hOn.size
          simp at *; omega
  case done =>
    intro d xs D W hS hI hOn hGr hd hnd hdef
    subst hS
    obtain ⟨⟨v, hbox, hrow, hD⟩, hDn⟩ := hI
    have hcn := cell_of_one hbox
    have hbE : Below w.heap.size w (W.putObj d (.deferred none)) := below_putObj (hb0.trans (hOn.below hb0.size (fun i hi => by omega))) (by omega) _
    have hdr : ∀ k, v.ownBlock = some k → k ≠ d := fun k hk e => hnd ((hD d).2 (.inr (by rw [← e]; exact hk)))
    have hfin : OI (W.putObj d (.deferred none)) w.heap.size v xs.length xs := by
      refine ⟨hrow.1, ?_⟩
      rcases hrow.2 with h' | ⟨g, cap, cur, k1, k2, k3, k4⟩
      · exact .inl h'
      · have hgv : v.ownBlock = some g := by rw [k1]; rfl
        exact .inr ⟨g, cap, cur, k1, hDn g ((hD g).2 (.inr hgv)), (World.putObj_heap_other (hdr g hgv)).trans k3, k4⟩
    obtain ⟨va, vc, rfl⟩ := hrow.shape
    clear hbox hrow hD hDn
    go_wp2
    refine ⟨by simp, .inl ⟨_, _, rfl, run_takeDeferred hdef, ?_⟩⟩
    exact ⟨_, results_tmp rfl _ _ _, .slice va xs.length vc, rfl, hfin, hbE⟩
  case stop =>
    intro d c pre D W _ h
    exact h.elim
end Go.Proofs.YtpjlaaldepfnkaaDoor

namespace Go.Proofs.YtpjlaaldepfnkaaDoor
open Go.RowKit

theorem valuesCall (aa : Option Addr) (l c : Nat) (w : World) : Calls Tryd.prog 46 #[.slice aa l c] w fun e w' => e = .returned (.func (.func 68) #[] #[.pointer (some ⟨w.heap.size, 0, none⟩)]) ∧ w' = w.alloc (.cells #[.slice aa l c] 22) := by
  go_enter Tryd.func46, Tryd.ntmps46
  go_wp2
  go_ret
  exact ⟨rfl, rfl⟩
set_option maxRecDepth 100000 in
set_option maxHeartbeats 800000 in
theorem sortedCall {w : World} {a : List Int} {aa : Option Addr} {ac ab off Bx : Nat} (hcell : w.cell? ⟨Bx, 0, none⟩ = some (.slice aa a.length ac))
    (ha : 0 < a.length → aa = some ⟨ab, off, none⟩) (hc : CI w ab off a) (h5 : a.length ≤ 5) (h1 : 0 < a.length) :
    Calls Tryd.prog 45 #[.func (.func 68) #[] #[.pointer (some ⟨Bx, 0, none⟩)]] w fun e w' => ∃ v, e = .returned v ∧ OI w' w.heap.size v a.length (sortL a) ∧ Below w.heap.size w w' := by
  have H := Lib.hid (appSeqCall hcell ha hc h5 h1)
  have HC : Hid (Calls Tryd.prog 66 #[.func (.func 68) #[] #[.pointer (some ⟨Bx, 0, none⟩)]] w fun e w' => ∃ v, e = .returned v ∧ OI w' w.heap.size v a.length a ∧ Below w.heap.size w w') := by
    show Calls _ _ _ _ _
    clear hcell ha hc
    go_enter Tryd.func66, Tryd.ntmps66
    go_wp2_with fail
    refine H.out.mono ?_
    rintro e w' ⟨v, rfl, h2, h3⟩
    obtain ⟨va, vc, rfl⟩ := h2.shape
    go_wp2
    go_ret
    exact ⟨_, rfl, h2, h3⟩
  clear hcell ha hc H
  go_enter Tryd.func45, Tryd.ntmps45
  go_wp2_with fail
  refine HC.out.mono ?_
  rintro e w1 ⟨v, rfl, h2, h3⟩
  have HS := Lib.hid (sortICall h2 h1 (by omega))
  obtain ⟨va, vc, rfl⟩ := h2.shape
  clear h2
  go_wp2_with fail
  refine HS.out.mono ?_
  rintro e w2 ⟨rfl, h4, h5'⟩
  go_wp2
  go_ret
  exact ⟨_, rfl, h4, h3.trans h5'⟩

/-- The number of elements of a small set. -/
def popI (x : Int) : Int := x % 2 + x / 2 % 2 + x / 4 % 2 + x / 8 % 2 + x / 16 % 2
set_option maxRecDepth 100000 in
set_option maxHeartbeats 4000000 in
theorem popCall (x : Int) (w : World) (h0 : 0 ≤ x) (h1 : x < 32) : Calls Tryd.prog 47 #[.int .u64 x] w fun e w' => e = .returned (.int .i64 (popI x)) ∧ w' = w := by
  have : x = 0 ∨ x = 1 ∨ x = 2 ∨ x = 3 ∨ x = 4 ∨ x = 5 ∨ x = 6 ∨ x = 7 ∨ x = 8 ∨ x = 9 ∨ x = 10 ∨ x = 11 ∨ x = 12 ∨ x = 13 ∨ x = 14 ∨ x = 15 ∨ x = 16 ∨ x = 17 ∨ x = 18 ∨ x = 19 ∨ x = 20 ∨ x = 21 ∨ x = 22 ∨ x = 23 ∨ x = 24 ∨ x = 25 ∨ x = 26 ∨ x = 27 ∨ x = 28 ∨ x = 29 ∨ x = 30 ∨ x = 31 := by omega
  clear h0 h1
  rcases this with rfl | rfl | rfl | rfl | rfl | rfl | rfl | rfl | rfl | rfl | rfl | rfl | rfl | rfl | rfl | rfl | rfl | rfl | rfl | rfl | rfl | rfl | rfl | rfl | rfl | rfl | rfl | rfl | rfl | rfl | rfl | rfl <;>
  · go_enter Tryd.func47, Tryd.ntmps47
    go_wp2
    go_ret
    exact ⟨by kernel_rfl, rfl⟩
end Go.Proofs.YtpjlaaldepfnkaaDoor

namespace Go.Proofs.YtpjlaaldepfnkaaDoor

theorem scat_get {n : Nat} {a v : List Int} (ha : IsP n a) : ∀ {k : Nat}, k ≤ n → ∀ j, j < k → (scat a v (List.replicate n 0) k).getD (a.getD j 0).toNat 0 = v.getD j 0
  | 0, _, _, h => by omega
  | k + 1, hk, j, h => by
    have hj : j < a.length := by rw [ha.1]; omega
    have hkl : k < a.length := by rw [ha.1]; omega
    have hm : ∀ i, i < a.length → (a.getD i 0).toNat < n ∧ (((a.getD i 0).toNat : Nat) : Int) = a.getD i 0 := fun i hi => ha.idx (by rw [getD_eq hi]; exact List.getElem_mem hi)
    rw [scat_succ]
    have hl : (scat a v (List.replicate n 0) k).length = n := by rw [scat_length, List.length_replicate]
    by_cases hjk : j = k
    · subst hjk
      rw [List.getD_eq_getElem?_getD, List.getElem?_set_self (by rw [hl]; exact (hm j hj).1)]; rfl
    · have hne : (a.getD k 0).toNat ≠ (a.getD j 0).toNat := by
        intro e
        have e2 : a.getD k 0 = a.getD j 0 := by rw [← (hm k hkl).2, ← (hm j hj).2, e]
        rw [getD_eq hkl, getD_eq hj] at e2
        exact hjk ((List.getElem_inj ha.2.2).1 e2).symm
      rw [List.getD_eq_getElem?_getD, List.getElem?_set_ne hne, ← List.getD_eq_getElem?_getD]
      exact scat_get ha (by omega) j (by omega)
theorem times_moved {n : Nat} {a v : List Int} (ha : IsP n a) (hv : v.length = n) : timesL (movedL a v) a = v := by
  refine List.ext_getElem (by rw [timesL_length, ha.1, hv]) fun k h1 h2 => ?_
  have hk : k < a.length := by rwa [timesL_length] at h1
  rw [← getD_eq h1 0, timesL_getD _ _ _ hk, ← getD_eq h2 0]
  unfold movedL
  rw [ha.1]
  exact scat_get ha (Nat.le_refl n) k (by rw [← ha.1]; exact hk)
theorem times_oneR {n : Nat} {x : List Int} (hx : x.length = n) : timesL x (oneL n) = x := by
  have hl : (timesL x (oneL n)).length = x.length := by rw [timesL_length, oneL_length, hx]
  refine List.ext_getElem hl fun k h1 h2 => ?_
  have hk : k < n := by rw [hl, hx] at h1; exact h1
  have := timesL_getD x (oneL n) k (by rw [oneL_length]; exact hk)
  rw [oneL_getD hk] at this
  rw [← getD_eq h1 0, this, ← getD_eq h2 0]
  simp
theorem times_injR {n : Nat} {a x y : List Int} (hz : chk a = 0) (ha : IsP n a) (hx : x.length = n) (hy : y.length = n) (h : timesL x a = timesL y a) : x = y := by
  obtain ⟨_, k2, k3⟩ := back_left hz
  have hbl : (backL a).length = n := by rw [backL, movedL_length, ha.1]
  have hB : IsP n (backL a) := by have := chk_isP k3; rw [hbl] at this; exact this
  have e : ∀ z : List Int, z.length = n → timesL (timesL z a) (backL a) = z := fun z hzl => by
    rw [times_assoc ha.1 hB, k2, ha.1, times_oneR hzl]
  rw [← e x hx, h, e y hy]
theorem moved_moved {n : Nat} {a b v : List Int} (h1 : 1 ≤ n) (h5 : n ≤ 5) (ha : IsP n a) (hb : IsP n b) (hv : v.length = n) : movedL a (movedL b v) = movedL (timesL a b) v := by
  have hab := ha.times hb
  refine times_injR (a := timesL a b) (chk_of h1 h5 hab) hab (by rw [movedL_length, ha.1]) (by rw [movedL_length, hab.1]) ?_
  rw [← times_assoc ha.1 hb, times_moved ha (by rw [movedL_length, hb.1]), times_moved hb hv, times_moved hab hv]
theorem perm_one_ok : permsAll.all (fun a => decide (a.Perm (oneL a.length))) = true := by decide +kernel
theorem moved_perm {n : Nat} {a v : List Int} (hz : chk a = 0) (ha : IsP n a) (hv : v.length = n) : (movedL a v).Perm v := by
  have hp : a.Perm (oneL a.length) := of_decide_eq_true (perm_all perm_one_ok hz)
  have h1 := times_moved ha hv
  have h2 := hp.map (fun q : Int => (movedL a v).getD q.toNat 0)
  have h3 : timesL (movedL a v) (oneL a.length) = movedL a v := times_oneR (by rw [movedL_length])
  have h4 : (timesL (movedL a v) a).Perm (timesL (movedL a v) (oneL a.length)) := h2
  rw [h1, h3] at h4
  exact h4.symm
theorem sortL_perm {x y : List Int} (h : x.Perm y) : sortL x = sortL y := by
  have tr : ∀ a b c : Int, decide (a ≤ b) = true → decide (b ≤ c) = true → decide (a ≤ c) = true := by intro a b c; simp; omega
  have tot : ∀ a b : Int, (decide (a ≤ b) || decide (b ≤ a)) = true := by intro a b; simp; omega
  have s1 := List.pairwise_mergeSort tr tot x
  have s2 := List.pairwise_mergeSort tr tot y
  have p : (sortL x).Perm (sortL y) := (List.mergeSort_perm x _).trans (h.trans (List.mergeSort_perm y _).symm)
  exact p.eq_of_pairwise (fun a b _ _ h1 h2 => by simp at h1 h2; omega) s1 s2
def bitsL (s : Int) (n : Nat) : List Int := (List.range n).map fun k => s / 2 ^ k % 2
theorem set_ok : permsAll.all (fun a => (List.range (2 ^ a.length)).all fun s => decide (bitsL (imgP a s a.length) a.length = movedL a (bitsL s a.length)) && decide (0 ≤ imgP a s a.length) && decide (imgP a s a.length < 2 ^ a.length) && decide (popI (imgP a s a.length) = popI s)) = true := by decide +kernel
theorem bits_inj_ok : ((List.range 6).all fun n => (List.range (2 ^ n)).all fun s => (List.range (2 ^ n)).all fun t => decide (bitsL (s : Int) n = bitsL (t : Int) n → s = t)) = true := by decide +kernel
theorem bitsL_len (s : Int) (n : Nat) : (bitsL s n).length = n := by simp [bitsL]
theorem set_facts {n : Nat} {a : List Int} (hz : chk a = 0) (ha : IsP n a) {s : Int} (h0 : 0 ≤ s) (h1 : s < 2 ^ n) : bitsL (imgP a s n) n = movedL a (bitsL s n) ∧ 0 ≤ imgP a s n ∧ imgP a s n < 2 ^ n ∧ popI (imgP a s n) = popI s := by
  have h := perm_all set_ok hz
  rw [ha.1] at h
  have h2 := List.all_eq_true.1 h s.toNat (by rw [List.mem_range]; exact (Int.toNat_lt h0).2 (by simpa using h1))
  simp only [Bool.and_eq_true, decide_eq_true_eq, show ((s.toNat : Nat) : Int) = s by omega] at h2
  exact ⟨h2.1.1.1, h2.1.1.2, h2.1.2, h2.2⟩
theorem set_set {n : Nat} {a b : List Int} (h1 : 1 ≤ n) (h5 : n ≤ 5) (ha : IsP n a) (hb : IsP n b) {s : Int} (k0 : 0 ≤ s) (k1 : s < 2 ^ n) : imgP a (imgP b s n) n = imgP (timesL a b) s n := by
  have hab := ha.times hb
  obtain ⟨b1, b2, b3, _⟩ := set_facts (chk_of h1 h5 hb) hb k0 k1
  obtain ⟨a1, a2, a3, _⟩ := set_facts (chk_of h1 h5 ha) ha b2 b3
  obtain ⟨c1, c2, c3, _⟩ := set_facts (chk_of h1 h5 hab) hab k0 k1
  have e : bitsL (imgP a (imgP b s n) n) n = bitsL (imgP (timesL a b) s n) n := by
    rw [a1, b1, c1, moved_moved h1 h5 ha hb (bitsL_len s n)]
  have h := List.all_eq_true.1 bits_inj_ok n (by rw [List.mem_range]; omega)
  have h := List.all_eq_true.1 h (imgP a (imgP b s n) n).toNat (by rw [List.mem_range]; exact (Int.toNat_lt a2).2 (by simpa using a3))
  have h := List.all_eq_true.1 h (imgP (timesL a b) s n).toNat (by rw [List.mem_range]; exact (Int.toNat_lt c2).2 (by simpa using c3))
  have h := of_decide_eq_true h (by rw [Int.toNat_of_nonneg a2, Int.toNat_of_nonneg c2]; exact e)
  omega
end Go.Proofs.YtpjlaaldepfnkaaDoor

namespace Go.Proofs.YtpjlaaldepfnkaaDoor
open Go.RowKit

theorem u8_in {n : Int} (h : (Lit.int .u8 n).wf = true) : 0 ≤ n ∧ n < 256 := by
  simp only [Lit.wf, IntKind.signed, IntKind.bits, IntKind.min, IntKind.max, Bool.and_eq_true] at h
  obtain ⟨h1, h2⟩ := h
  refine ⟨by simpa using h1, ?_⟩
  have : n ≤ 255 := by simpa using h2
  omega
theorem setPP {n : Nat} (h1 : 1 ≤ n) (h5 : n ≤ 5) {w : World} {u : Value} {a : List Int} (ha : IsP n a) (h : Ints w u a) {s : Int} (k0 : 0 ≤ s) (k1 : s < 2 ^ n) : Calls Tryd.prog 22 #[u, .int .i64 s] w (R2 w (imgP a s n) 0) := by
  have hc := setCall h s
  have hw : wrap64 (2 ^ n) = 2 ^ n := by
    have : n = 1 ∨ n = 2 ∨ n = 3 ∨ n = 4 ∨ n = 5 := by omega
    rcases this with rfl | rfl | rfl | rfl | rfl <;> decide +kernel
  have hE : setE a s = 0 := by rw [setE, if_neg (fun h => h (chk_of h1 h5 ha)), ha.1, hw, if_neg (by omega)]
  rwa [setP, hE, if_pos rfl, ha.1] at hc
theorem vecPP {n : Nat} (h1 : 1 ≤ n) (h5 : n ≤ 5) {w : World} {u x : Value} {a v : List Int} (ha : IsP n a) (h : Ints w u a) (hx : Ints w x v) (hv : v.length = n) : Calls Tryd.prog 24 #[u, x] w (RI w (movedL a v) 0) := by
  have hc := vector h hx
  have hE : vecE a v = 0 := by rw [vecE, if_neg (fun h => h (chk_of h1 h5 ha)), if_neg (by rw [hv, ha.1]; simp)]
  rwa [vecL, hE, if_pos rfl] at hc
/-- The vector of the law. -/
def seedV (x : Int) (n : Nat) : List Int := (List.range n).map fun i => bits .and .i64 (x / 2 ^ i) 3
theorem seedV_succ (x : Int) (k : Nat) : seedV x (k + 1) = seedV x k ++ [bits .and .i64 (x / 2 ^ k) 3] := by simp [seedV, List.range_succ]
theorem seedV_len (x : Int) (n : Nat) : (seedV x n).length = n := by simp [seedV]

set_option maxRecDepth 100000 in
set_option maxHeartbeats 6400000 in
theorem lawMoves {w : World} {u v : Value} {a b : List Int} {x : Int} (hx : (Lit.int .u8 x).wf = true) (h0 : Ints w u a) (h1 : Ints w v b) : Calls Tryd.prog 11 #[u, v, .int .u8 x] w (Yes w) := by
  obtain ⟨hx0, hx1⟩ := u8_in hx
  clear hx
  have hb : Below w.heap.size w w := Below.refl _ _
  obtain ⟨x0, y0, rfl⟩ := h0.shape
  obtain ⟨x1, y1, rfl⟩ := h1.shape
  by_cases hr : rightB [a, b] = true
  · have ka := rightB_iff hr (a := a) (by simp)
    have kb := rightB_iff hr (a := b) (by simp)
    obtain ⟨⟨n1, n5⟩, hA⟩ := chk_iff.1 ka.1
    have hB := chk_isP kb.1
    have eB : b.length = a.length := by simpa using kb.2
    rw [eB] at hB
    have hAB := hA.times hB
    replace hr := Lib.hid hr
    clear ka kb eB
    have H := right2 h0 h1
    rw [hr.out] at H
    have hm : wrap64 (2 ^ a.length) = 2 ^ a.length := by
      have : a.length = 1 ∨ a.length = 2 ∨ a.length = 3 ∨ a.length = 4 ∨ a.length = 5 := by omega
      rcases this with h | h | h | h | h <;> rw [h] <;> decide +kernel
    have hm32 : (2 : Int) ≤ 2 ^ a.length ∧ (2 : Int) ^ a.length ≤ 32 := by
      have : a.length = 1 ∨ a.length = 2 ∨ a.length = 3 ∨ a.length = 4 ∨ a.length = 5 := by omega
      rcases this with h | h | h | h | h <;> rw [h] <;> decide +kernel
    go_enter Tryd.func11, Tryd.ntmps11
    go_wp2_with fail
    refine (H).mono ?_; rintro e w1 ⟨rfl, hs⟩
    replace h0 := h0.keep hs
    replace h1 := h1.keep hs
    replace hb := btt hb hs; clear hs H hr
    go_wp2_with fail
    have k0 : 0 ≤ x % 2 ^ a.length := Int.emod_nonneg _ (by omega)
    have k1 : x % 2 ^ a.length < 2 ^ a.length := Int.emod_lt_of_pos _ (by omega)
    obtain ⟨s, hs⟩ : ∃ s, x % 2 ^ a.length = s := ⟨_, rfl⟩
    rw [hs] at k0 k1 ⊢
    clear hs hm
    have hnil : OI w1 w1.heap.size (.slice none 0 0) 0 (seedV x 0) := OI.nil _ _
    go_loopw [8, 39] (fun vv iv wr => ∃ k : Nat, k ≤ a.length ∧ iv = .int .i64 k ∧ OI wr w1.heap.size vv k (seedV x k) ∧ Hid (Below w1.heap.size w1 wr)) (fun _ iv _ => a.length - (intOf iv).toNat)
    case atStart => exact ⟨0, by omega, rfl, hnil, Below.refl _ _⟩
    case round =>
      clear hnil
      obtain ⟨k, hk, rfl, ho, hbr⟩ := hrel
      by_cases hlt : k < a.length
      · have hsv := Lib.hid (seedV_succ x k)
        have hB1 : w1.heap.size ≤ wr.heap.size := hbr.out.size
        obtain ⟨va, vc, rfl⟩ := ho.shape
        have hk64 : (k : Int) < 64 := by omega
        have hp : (0 : Int) < 2 ^ k := Int.pow_pos (by omega)
        have hq0 : 0 ≤ x / 2 ^ k := Int.ediv_nonneg hx0 (by omega)
        have hq1 : x / 2 ^ k ≤ 255 := Int.le_trans (Int.ediv_le_self _ hx0) (by omega)
        go_wp2_with (at_builtin; refine wpAppI rfl _ _ rfl rfl ho rfl (by omega) hB1 ?_; intro v' w3 ho' _ hb3)
        exact ⟨⟨k + 1, hlt, by go_num, by rw [hsv.out]; exact ho', hbr.out.trans hb3⟩, by simp [intOf]; omega⟩
      · obtain rfl : k = a.length := by omega
        have hS0 := set_set n1 n5 hA hB k0 k1
        obtain ⟨_, b0, b1, _⟩ := set_facts (chk_of n1 n5 hB) hB k0 k1
        obtain ⟨_, z0, z1, zp⟩ := set_facts (chk_of n1 n5 hAB) hAB k0 k1
        have hsl := seedV_len x a.length
        obtain ⟨V, hV⟩ : ∃ V, seedV x a.length = V := ⟨_, rfl⟩
        rw [hV] at ho hsl
        have hMM := moved_moved n1 n5 hA hB hsl
        have hmb : (movedL b V).length = a.length := by rw [movedL_length, hB.1]
        have hmp : sortL (movedL (timesL a b) V) = sortL V := sortL_perm (moved_perm (chk_of n1 n5 hAB) hAB hsl)
        have hml : (movedL (timesL a b) V).length = a.length := by rw [movedL_length, hAB.1]
        have C2 := fun W (h : Ints W (.slice x1 b.length y1) b) => setPP n1 n5 hB h k0 k1
        have C3 := fun W (h : Ints W (.slice x0 a.length y0) a) => setPP n1 n5 hA h b0 b1
        have C4 := fun W r (h : Ints W r (timesL a b)) => setPP n1 n5 hAB h k0 k1
        have C6 := fun W r (h : Ints W (.slice x0 a.length y0) a) (h2 : Ints W r (movedL b V)) => vecPP n1 n5 hA h h2 hmb
        rw [hS0] at C3
        rw [hMM] at C6
        have hz32 : imgP (timesL a b) s a.length < 32 := by omega
        have hs32 : s < 32 := by omega
        obtain ⟨X, hX⟩ : ∃ X, imgP b s a.length = X := ⟨_, rfl⟩
        obtain ⟨Z, hZ⟩ : ∃ Z, imgP (timesL a b) s a.length = Z := ⟨_, rfl⟩
        rw [hZ] at C3 C4 z0 z1 zp hz32
        rw [hX] at C2 C3
        replace C2 := Lib.hid C2
        replace C3 := Lib.hid C3
        replace C4 := Lib.hid C4
        replace C6 := Lib.hid C6
        replace hmp := Lib.hid hmp
        clear hS0 hMM hX hZ hV b0 b1 z1 k1
        replace zp := Lib.hid zp
        have hb := btt hb (hbr.out)
        replace h0 := h0.keep hbr.out
        replace h1 := h1.keep hbr.out
        have hsh := ho.shape
        obtain ⟨va, vc, rfl⟩ := hsh
        clear hbr
        go_wp2_with fail
        refine (composeP n1 n5 hA hB h0 h1).mono ?_; rintro e q2 ⟨r1, rfl, o1, hs⟩
        replace h0 := h0.keep hs
        replace h1 := h1.keep hs
        replace ho := ho.keep hs
        replace hb := btt hb hs; clear hs
        go_wp2_with fail
        refine (C2.out _ h1).mono ?_; rintro e q3 ⟨rfl, hs⟩
        replace h0 := h0.keep hs
        replace h1 := h1.keep hs
        replace ho := ho.keep hs
        replace o1 := o1.keep hs
        replace hb := btt hb hs; clear hs
        go_wp2_with fail
        refine (C3.out _ h0).mono ?_; rintro e q4 ⟨rfl, hs⟩
        replace h0 := h0.keep hs
        replace h1 := h1.keep hs
        replace ho := ho.keep hs
        replace o1 := o1.keep hs
        replace hb := btt hb hs; clear hs
        go_wp2_with fail
        refine (C4.out _ _ (hAB.ints n5 o1)).mono ?_; rintro e q5 ⟨rfl, hs⟩
        replace h0 := h0.keep hs
        replace h1 := h1.keep hs
        replace ho := ho.keep hs
        replace o1 := o1.keep hs
        replace hb := btt hb hs; clear hs
        go_wp2_with fail
        refine (vecPP n1 n5 hB h1 (ho.ints (by omega)) hsl).mono ?_; rintro e q6 ⟨r5, rfl, o5, hs⟩
        replace h0 := h0.keep hs
        replace h1 := h1.keep hs
        replace ho := ho.keep hs
        replace o1 := o1.keep hs
        replace hb := btt hb hs; clear hs
        go_wp2_with fail
        refine (C6.out _ _ h0 (o5.ints (by omega))).mono ?_; rintro e q7 ⟨r6, rfl, o6, hs⟩
        replace h0 := h0.keep hs
        replace h1 := h1.keep hs
        replace ho := ho.keep hs
        replace o1 := o1.keep hs
        replace o5 := o5.keep hs
        replace hb := btt hb hs; clear hs
        go_wp2_with fail
        refine (vecPP n1 n5 hAB (hAB.ints n5 o1) (ho.ints (by omega)) hsl).mono ?_; rintro e q8 ⟨r7, rfl, o7, hs⟩
        replace h0 := h0.keep hs
        replace h1 := h1.keep hs
        replace ho := ho.keep hs
        replace o1 := o1.keep hs
        replace o5 := o5.keep hs
        replace o6 := o6.keep hs
        replace hb := btt hb hs; clear hs
        rw [hml] at o6
        rw [hml] at o7
        obtain ⟨na, nc, hr6⟩ := o6.shape
        subst hr6
        obtain ⟨oa, oc, hr7⟩ := o7.shape
        subst hr7
        clear o1
        clear o5
        go_wp2_with fail
        refine (valuesCall _ _ _ _).mono ?_; rintro e W9 ⟨rfl, rfl⟩
        have hs9 := (Below.refl q8.heap.size q8).alloc (Nat.le_refl _) (.cells #[.slice na a.length nc] 22)
        have hc9 : (q8.alloc (.cells #[.slice na a.length nc] 22)).cell? ⟨q8.heap.size, 0, none⟩ = some (.slice na (movedL (timesL a b) V).length nc) := by rw [hml]; exact cell_of_one (heap_alloc_new _ _)
        replace h0 := h0.keep hs9
        replace h1 := h1.keep hs9
        replace ho := ho.keep hs9
        replace o6 := o6.keep hs9
        replace o7 := o7.keep hs9
        replace hb := btt hb hs9
        have HS1 := o6.ints (by omega)
        obtain ⟨ma, mc, mb, mo, hv6, hma, hmc, hmll⟩ := HS1
        rw [hml] at hv6 hma
        injection hv6 with e1 e2 e3
        subst e1; subst e3
        have HS := sortedCall hc9 (fun h => hma (by omega)) hmc (by omega) (by omega)
        rw [hmp.out, hml] at HS
        clear hc9 hma hmc hmll
        go_wp2_with fail
        refine HS.mono ?_; rintro e W10 ⟨r8, rfl, o8, hs⟩
        replace h0 := h0.keep hs
        replace h1 := h1.keep hs
        replace ho := ho.keep hs
        replace o6 := o6.keep hs
        replace o7 := o7.keep hs
        replace hb := btt hb hs; clear hs HS
        go_wp2_with fail
        refine (awake _).mono ?_; rintro e W11 ⟨rfl, hs⟩
        replace h0 := h0.keep hs
        replace h1 := h1.keep hs
        replace ho := ho.keep hs
        replace o6 := o6.keep hs
        replace o7 := o7.keep hs
        replace o8 := o8.keep hs
        replace hb := btt hb hs; clear hs
        go_wp2_with fail
        refine (awEq (o6.ints (by omega)) (o7.ints (by omega))).mono ?_; rintro e W12 ⟨rfl, hs⟩
        replace hs := hs.below
        replace h0 := h0.keep hs
        replace h1 := h1.keep hs
        replace ho := ho.keep hs
        replace o6 := o6.keep hs
        replace o7 := o7.keep hs
        replace o8 := o8.keep hs
        replace hb := btt hb hs; clear hs
        go_wp2_with fail
        have hpz := popCall Z W12 z0 hz32
        rw [zp.out] at hpz
        refine hpz.mono ?_; rintro e W13 ⟨rfl, rfl⟩
        clear hpz
        go_wp2_with fail
        refine (popCall s _ k0 hs32).mono ?_; rintro e W14 ⟨rfl, rfl⟩
        go_wp2_with fail
        refine (valuesCall _ _ _ _).mono ?_; rintro e W15 ⟨rfl, rfl⟩
        have hs9 := (Below.refl W14.heap.size W14).alloc (Nat.le_refl _) (.cells #[.slice va a.length vc] 22)
        have hc9 : (W14.alloc (.cells #[.slice va a.length vc] 22)).cell? ⟨W14.heap.size, 0, none⟩ = some (.slice va V.length vc) := by rw [hsl]; exact cell_of_one (heap_alloc_new _ _)
        replace h0 := h0.keep hs9
        replace h1 := h1.keep hs9
        replace ho := ho.keep hs9
        replace o6 := o6.keep hs9
        replace o7 := o7.keep hs9
        replace o8 := o8.keep hs9
        replace hb := btt hb hs9
        have HS1 := ho.ints (by omega)
        obtain ⟨ma, mc, mb, mo, hv6, hma, hmc, hmll⟩ := HS1
        rw [hsl] at hv6 hma
        injection hv6 with e1 e2 e3
        subst e1; subst e3
        have HS := sortedCall hc9 (fun h => hma (by omega)) hmc (by omega) (by omega)
        rw [hsl] at HS
        clear hc9 hma hmc hmll
        go_wp2_with fail
        refine HS.mono ?_; rintro e W16 ⟨r9, rfl, o9, hs⟩
        replace h0 := h0.keep hs
        replace h1 := h1.keep hs
        replace ho := ho.keep hs
        replace o6 := o6.keep hs
        replace o7 := o7.keep hs
        replace o8 := o8.keep hs
        replace hb := btt hb hs; clear hs HS
        go_wp2_with fail
        refine (awEq (o8.ints (by omega)) (o9.ints (by omega))).mono ?_; rintro e W17 ⟨rfl, hs⟩
        replace hb := btt hb hs.below; clear hs
        go_wp2
        go_ret
        exact ⟨rfl, hb⟩
  · have hr2 : rightB [a, b] = false := by simpa using hr
    have H := right2 h0 h1
    rw [hr2] at H
    clear hr hr2
    go_enter Tryd.func11, Tryd.ntmps11
    go_wp2_with fail
    refine (H).mono ?_; rintro e w1 ⟨rfl, hs⟩
    replace hb := btt hb hs; clear hs H
    go_wp2_with fail
    refine (awake _).mono ?_; rintro e w2 ⟨rfl, hs⟩
    replace hb := btt hb hs; clear hs
    go_wp2
    go_ret
    exact ⟨rfl, hb⟩
end Go.Proofs.YtpjlaaldepfnkaaDoor

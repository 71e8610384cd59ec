/- Texts of this claim, put together: W1 W2 H1 E6. -/
import Derived.Test.YtfihpofdoffclaaGreatDoorKw
import Derived.Test.YtfihpofdoffclaaGreatDoorKl
import Derived.Test.YtfihpofdoffclaaGreatDoorKe
import Derived.Test.YtfihpofdoffclaaGreatDoorKo

/- The chapter's examples: what is computed of them. -/
namespace Go.Proofs.YtfihpofdoffclaaGreatDoor
open Go.RowKit

def exM : List (List (List Int)) := [[rS ++ [2], rC ++ [1]], [rS ++ [1], rC ++ [2]], [rC ++ [3]], [rS ++ [1], rC ++ [2]]]
theorem exA_ok : chkA 2 exA = 0 := by decide +kernel
theorem exB_ok : chkA 2 exB = 0 := by decide +kernel
theorem exM_ok : chkA 2 exM = 0 := by decide +kernel
theorem exA_can : canS exA = exB := by decide +kernel
theorem exM_part : part exM = [0, 1, 2, 1] := by decide +kernel
theorem exA_d1 : dist exA 0 1 = some [rS, rS] := by decide +kernel
theorem exA_d2 : dist exA 0 2 = some [rS] := by decide +kernel
theorem exB_min : minB exB = true := by decide +kernel
def exP : List (List (List Int)) := [[rS], [rC], [rS], [rS, rS], [rS]]
theorem exB_prv : prvL exB = exP := by decide +kernel
theorem exB_ver : verI 2 exB exP = 0 := by decide +kernel
end Go.Proofs.YtfihpofdoffclaaGreatDoor

/- awake: the adversary with one more state, as a law of its own. -/
namespace Go.Proofs.YtfihpofdoffclaaGreatDoor
open Go.RowKit

theorem below3 (w : World) (a b c : Obj) : Below w.heap.size w (((w.alloc a).alloc b).alloc c).drew := by
  refine Below.drew ?_
  refine Below.alloc ?_ ?_ _
  · refine Below.alloc ?_ ?_ _
    · refine Below.alloc ?_ ?_ _
      · exact Below.refl _ _
      · exact Nat.le_refl _
    · simp only [World.size_alloc] <;> omega
  · simp only [World.size_alloc] <;> omega
set_option maxRecDepth 100000 in
set_option maxHeartbeats 1600000 in
theorem moreLaw {w : World} {x0 x2 x3 x5 x6 x7 x8 x9 x10 x11 x12 x13 x14 x15 x16 x17 x18 x19 x20 x21 x22 x23 x24 x25 x26 x27 x28 x29 x30 x31 x32 x33 x34 x35 x36 x37 x38 x39 x40 x41 x42 x43 x44 x45 x46 x47 x48 x49 x50 x51 x52 x53 x54 x55 x56 x57 x58 x59 x60 x61 x62 x63 x64 x65 x66 x67 x68 x69 x70 x71 x72 x73 x74 x75 x76 x77 x78 x79 x80 x81 x82 x83 x84 x85 x86 x87 x88 x89 x90 x91 x92 x93 x94 x95 x96 x97 x98 x99 x100 x101 x102 x103 x104 x105 x106 x107 x108 x109 x110 x111 x112 x113 x114 x115 x116 x117 x118 x119 x120 x121 x122 x123 x124 x125 x126 x127 x128 x129 x130 x131 x132 x133 x134 x135 x136 x137 x138 x139 x140 x141 x142 x143 x144 x145 x146 x147 x148 x149 x150 x151 x152 x153 x154 x155 x156 : Value} {Q : Exit → Act → World → Prop} {ba bc ra ro ac u0c u1c : Nat} {u0a u1a : Option Addr}
    (c0 : w.cell? ⟨ba, 1, none⟩ = some (.slice (some ⟨ra, ro, none⟩) 3 ac)) (c1 : w.cell? ⟨ra, ro, none⟩ = some (.slice u0a 2 u0c)) (c2 : w.cell? ⟨ra, ro + 1, none⟩ = some (.slice u1a 2 u1c)) (e0 : w.cell? ⟨bc, 0, none⟩ = some (.int .i64 2)) (e1 : w.cell? ⟨bc, 1, none⟩ = some (.int .i64 3)) (e2 : w.cell? ⟨bc, 2, none⟩ = some (.int .i64 3)) (e3 : w.cell? ⟨bc, 3, none⟩ = some (.int .i64 0)) (e4 : w.cell? ⟨bc, 4, none⟩ = some (.int .i64 0)) (e5 : w.cell? ⟨bc, 5, none⟩ = some (.int .i64 0)) (e6 : w.cell? ⟨bc, 6, none⟩ = some (.int .i64 0))
    (h : ∀ bm g g1 w' y95 y96 y97 y98 y99 y100 y101 y102 y103 y104 y105 y106 y107 y108 y109 y110 y111, w'.heap[bm]? = some (.cells #[.int .i64 2, .slice (some ⟨g, 0, none⟩) 4 4] 24) → w'.heap[g]? = some (.cells #[.slice u0a 2 u0c, .slice u1a 2 u1c, .slice (some ⟨g1, 0, none⟩) 1 1, .slice u1a 2 u1c] 82) → w'.heap[g1]? = some (.cells #[.int .i64 2, .int .i64 3, .int .i64 3, .int .i64 0, .int .i64 0, .int .i64 0, .int .i64 0, .int .i64 3] 84) → Below w.heap.size w w' → Q .normal ⟨#[x0, .pointer (some ⟨ba, 0, none⟩), x2, x3, .pointer (some ⟨bc, 0, none⟩), x5, x6, x7, x8, x9, x10, x11, x12, x13, x14, x15, x16, .pointer (some ⟨bm, 0, none⟩), x18, x19, x20, x21, x22, x23, x24, x25, x26, x27, x28, x29, x30, x31, x32, x33, x34, x35, x36, x37, x38, x39, x40, x41, x42, x43, x44, x45, x46, x47, x48, x49, x50, x51, x52, x53, x54, x55, x56, x57, x58, x59, x60, x61, x62, x63, x64, x65, x66, x67, x68, x69, x70, x71, x72, x73, x74, x75, x76, x77, x78, x79, x80, x81, x82, x83, x84, x85, x86, x87, x88, x89, x90, x91, x92, x93, x94, y95, y96, y97, y98, y99, y100, y101, y102, y103, y104, y105, y106, y107, y108, y109, y110, y111, x112, x113, x114, x115, x116, x117, x118, x119, x120, x121, x122, x123, x124, x125, x126, x127, x128, x129, x130, x131, x132, x133, x134, x135, x136, x137, x138, x139, x140, x141, x142, x143, x144, x145, x146, x147, x148, x149, x150, x151, x152, x153, x154, x155, x156], []⟩ w') :
    (Code.region 9 #[{ dst := some 95, op := Op.fieldAddr 24 (Operand.tmp 1) 1, type := 0, pos := "law.go:36", after := #[], guard := none }, { dst := some 96, op := Op.load 22 (Operand.tmp 95), type := 22, pos := "law.go:36", after := #[{ on := 0, ground := Ground.data }], guard := none }, { dst := some 97, op := Op.indexAddr 22 (Operand.tmp 96) (Operand.const (Value.int IntKind.i64 0)), type := 0, pos := "law.go:36", after := #[{ on := 1, ground := Ground.data }], guard := none }, { dst := some 98, op := Op.load 82 (Operand.tmp 97), type := 82, pos := "law.go:36", after := #[{ on := 2, ground := Ground.data }], guard := none }, { dst := some 99, op := Op.fieldAddr 24 (Operand.tmp 1) 1, type := 0, pos := "law.go:36", after := #[], guard := none }, { dst := some 100, op := Op.load 22 (Operand.tmp 99), type := 22, pos := "law.go:36", after := #[{ on := 4, ground := Ground.data }], guard := none }, { dst := some 101, op := Op.indexAddr 22 (Operand.tmp 100) (Operand.const (Value.int IntKind.i64 1)), type := 0, pos := "law.go:36", after := #[{ on := 5, ground := Ground.data }], guard := none }, { dst := some 102, op := Op.load 82 (Operand.tmp 101), type := 82, pos := "law.go:36", after := #[{ on := 6, ground := Ground.data }], guard := none }, { dst := some 103, op := Op.load 79 (Operand.tmp 4), type := 79, pos := "law.go:36", after := #[], guard := none }, { dst := some 104, op := Op.build 84 #[(0, Operand.tmp 103), (1, Operand.const (Value.int IntKind.i64 3))], type := 84, pos := "law.go:36", after := #[{ on := 8, ground := Ground.data }], guard := none }, { dst := some 105, op := Op.buildSlice 82 1 #[(0, Operand.tmp 104)], type := 82, pos := "law.go:36", after := #[{ on := 9, ground := Ground.data }], guard := none }, { dst := some 106, op := Op.fieldAddr 24 (Operand.tmp 1) 1, type := 0, pos := "law.go:36", after := #[], guard := none }, { dst := some 107, op := Op.load 22 (Operand.tmp 106), type := 22, pos := "law.go:36", after := #[{ on := 11, ground := Ground.data }], guard := none }, { dst := some 108, op := Op.indexAddr 22 (Operand.tmp 107) (Operand.const (Value.int IntKind.i64 1)), type := 0, pos := "law.go:36", after := #[{ on := 12, ground := Ground.data }], guard := none }, { dst := some 109, op := Op.load 82 (Operand.tmp 108), type := 82, pos := "law.go:36", after := #[{ on := 13, ground := Ground.data }], guard := none }, { dst := some 110, op := Op.buildSlice 22 4 #[(0, Operand.tmp 98), (1, Operand.tmp 102), (2, Operand.tmp 105), (3, Operand.tmp 109)], type := 22, pos := "law.go:36", after := #[{ on := 3, ground := Ground.data }, { on := 7, ground := Ground.data }, { on := 10, ground := Ground.data }, { on := 14, ground := Ground.data }], guard := none }, { dst := some 111, op := Op.build 24 #[(0, Operand.const (Value.int IntKind.i64 2)), (1, Operand.tmp 110)], type := 24, pos := "law.go:36", after := #[{ on := 15, ground := Ground.data }], guard := none }, { dst := some 17, op := Op.alloc 24, type := 0, pos := "law.go:36", after := #[], guard := none }, { dst := none, op := Op.store 24 (Operand.tmp 17) (Operand.tmp 111), type := 0, pos := "law.go:36", after := #[{ on := 17, ground := Ground.data }, { on := 16, ground := Ground.data }, { on := 0, ground := Ground.phase }, { on := 1, ground := Ground.phase }, { on := 2, ground := Ground.phase }, { on := 3, ground := Ground.phase }, { on := 4, ground := Ground.phase }, { on := 5, ground := Ground.phase }, { on := 6, ground := Ground.phase }, { on := 7, ground := Ground.phase }, { on := 8, ground := Ground.phase }, { on := 9, ground := Ground.phase }, { on := 10, ground := Ground.phase }, { on := 11, ground := Ground.phase }, { on := 12, ground := Ground.phase }, { on := 13, ground := Ground.phase }, { on := 14, ground := Ground.phase }, { on := 15, ground := Ground.phase }, { on := 16, ground := Ground.phase }, { on := 17, ground := Ground.phase }], guard := none }] true).wp Tryz.prog Q ⟨#[x0, .pointer (some ⟨ba, 0, none⟩), x2, x3, .pointer (some ⟨bc, 0, none⟩), x5, x6, x7, x8, x9, x10, x11, x12, x13, x14, x15, x16, x17, x18, x19, x20, x21, x22, x23, x24, x25, x26, x27, x28, x29, x30, x31, x32, x33, x34, x35, x36, x37, x38, x39, x40, x41, x42, x43, x44, x45, x46, x47, x48, x49, x50, x51, x52, x53, x54, x55, x56, x57, x58, x59, x60, x61, x62, x63, x64, x65, x66, x67, x68, x69, x70, x71, x72, x73, x74, x75, x76, x77, x78, x79, x80, x81, x82, x83, x84, x85, x86, x87, x88, x89, x90, x91, x92, x93, x94, x95, x96, x97, x98, x99, x100, x101, x102, x103, x104, x105, x106, x107, x108, x109, x110, x111, x112, x113, x114, x115, x116, x117, x118, x119, x120, x121, x122, x123, x124, x125, x126, x127, x128, x129, x130, x131, x132, x133, x134, x135, x136, x137, x138, x139, x140, x141, x142, x143, x144, x145, x146, x147, x148, x149, x150, x151, x152, x153, x154, x155, x156], []⟩ w := by
  have KS2 : Hid (∀ X, Below w.heap.size w X → X.cell? ⟨ba, 1, none⟩ = some (.slice (some ⟨ra, ro, none⟩) 3 ac) ∧ X.cell? ⟨ra, ro, none⟩ = some (.slice u0a 2 u0c) ∧ X.cell? ⟨ra, ro + 1, none⟩ = some (.slice u1a 2 u1c) ∧ X.cell? ⟨bc, 0, none⟩ = some (.int .i64 2) ∧ X.cell? ⟨bc, 1, none⟩ = some (.int .i64 3) ∧ X.cell? ⟨bc, 2, none⟩ = some (.int .i64 3) ∧ X.cell? ⟨bc, 3, none⟩ = some (.int .i64 0) ∧ X.cell? ⟨bc, 4, none⟩ = some (.int .i64 0) ∧ X.cell? ⟨bc, 5, none⟩ = some (.int .i64 0) ∧ X.cell? ⟨bc, 6, none⟩ = some (.int .i64 0)) := fun X hX => ⟨cell_kept hX c0, cell_kept hX c1, cell_kept hX c2, cell_kept hX e0, cell_kept hX e1, cell_kept hX e2, cell_kept hX e3, cell_kept hX e4, cell_kept hX e5, cell_kept hX e6⟩
  go_region_held3 (fun w' => w'.cell? ⟨ba, 1, none⟩ = some (.slice (some ⟨ra, ro, none⟩) 3 ac) ∧ w'.cell? ⟨ra, ro, none⟩ = some (.slice u0a 2 u0c) ∧ w'.cell? ⟨ra, ro + 1, none⟩ = some (.slice u1a 2 u1c) ∧ w'.cell? ⟨bc, 0, none⟩ = some (.int .i64 2) ∧ w'.cell? ⟨bc, 1, none⟩ = some (.int .i64 3) ∧ w'.cell? ⟨bc, 2, none⟩ = some (.int .i64 3) ∧ w'.cell? ⟨bc, 3, none⟩ = some (.int .i64 0) ∧ w'.cell? ⟨bc, 4, none⟩ = some (.int .i64 0) ∧ w'.cell? ⟨bc, 5, none⟩ = some (.int .i64 0) ∧ w'.cell? ⟨bc, 6, none⟩ = some (.int .i64 0))
    ((refine KS2.out _ ?_; repeat (first | with_reducible exact Below.refl _ _ | refine Below.drew ?_ | refine Below.alloc ?_ (by first | exact Nat.le_refl _ | (simp only [World.size_alloc] <;> omega)) _ | refine Below.setCell ?_ (by first | exact Nat.le_refl _ | (simp only [World.size_alloc] <;> omega)) _)))
    (fail)
  all_goals go_wp2
  all_goals
    first
      | (refine h (w.heap.size + 1 + 1) (w.heap.size + 1) w.heap.size _ _ _ _ _ _ _ _ _ _ _ _ _ _ _ _ _ _ ?_ ?_ ?_ ?_; rotate_left 3; · exact below3 w _ _ _)
      | (refine h (w.heap.size + 1) (w.heap.size + 1 + 1) w.heap.size _ _ _ _ _ _ _ _ _ _ _ _ _ _ _ _ _ _ ?_ ?_ ?_ ?_; rotate_left 3; · exact below3 w _ _ _)
      | (refine h w.heap.size (w.heap.size + 1 + 1) (w.heap.size + 1) _ _ _ _ _ _ _ _ _ _ _ _ _ _ _ _ _ _ ?_ ?_ ?_ ?_; rotate_left 3; · exact below3 w _ _ _)
    all_goals (repeat (first | (refine ha_new ?_; first | rfl | (simp only [World.size_alloc]; done)) | (refine ha_old ?_ ?_; · (simp only [World.size_alloc] <;> omega))))
end Go.Proofs.YtfihpofdoffclaaGreatDoor

/- Equality of lists of ints, of rounds and of words. -/
namespace Go.Proofs.YtfihpofdoffclaaGreatDoor
open Go.RowKit

set_option maxRecDepth 100000 in
set_option maxHeartbeats 1600000 in
theorem eqInts {w : World} {u v : Value} {xs ys : List Int} (hx : Ints w u xs) (hy : Ints w v ys) :
    Calls Tryz.prog 46 #[u, v] w fun e w' => e = .returned (.bool (decide (xs = ys))) ∧ Qt w w' := by
  obtain ⟨xa, xc, xb, xo, rfl, hxa, hxc, _⟩ := hx
  obtain ⟨ya, yc, yb, yo, rfl, hya, hyc, _⟩ := hy
  obtain ⟨B, hB⟩ : ∃ B, decide (xs = ys) = B := ⟨_, rfl⟩
  rw [hB]
  replace hB := Lib.hid hB
  replace hxc := Lib.hid hxc
  replace hyc := Lib.hid hyc
  by_cases hlen : xs.length = ys.length
  · rw [← hlen]
    replace hlen := Lib.hid hlen
    have h0 : Hid (xs.take 0 = ys.take 0) := rfl
    go_enter Tryz.func46, Tryz.ntmps46
    go_wp2
    go_loopw [13] (fun iv wr => ∃ i : Nat, iv = .int .i64 i ∧ i ≤ xs.length ∧ Hid (xs.take i = ys.take i) ∧ Qt w wr) (fun iv _ => xs.length - (intOf iv).toNat)
    case atStart => exact ⟨0, rfl, by omega, h0, Qt.refl w⟩
    case round =>
      clear h0
      obtain ⟨i, rfl, hi, ht, n, rfl⟩ := hrel
      by_cases hlt : i < xs.length
      · obtain rfl := hxa (by omega)
        obtain rfl := hya (by rw [← hlen.out]; omega)
        have hlt' : i < ys.length := by rw [← hlen.out]; exact hlt
        have hxi := hxc.out i hlt
        have hyi := hyc.out i hlt'
        obtain ⟨x, hx⟩ : ∃ x, xs.getD i 0 = x := ⟨_, rfl⟩
        obtain ⟨y, hy⟩ : ∃ y, ys.getD i 0 = y := ⟨_, rfl⟩
        rw [hx] at hxi
        rw [hy] at hyi
        by_cases he : x = y
        · subst he
          have ht2 : Hid (xs.take (i + 1) = ys.take (i + 1)) := takes_next ht.out hlt hlt' (by rw [hx, hy])
          clear hx hy ht
          go_wp2
          go_quiet (fail)
          go_wp2
          go_roundw
          case rel => exact ⟨i + 1, by go_num, hlt, ht2, by first | exact (Qt.mk' w n).step nq | exact Qt.mk' w _⟩
          case measure => simp [intOf]; omega
        · have hE : (x == y) = false := by simp [he]
          have hBf : Hid (B = false) := by
            show _ = _
            rw [← hB.out]
            refine decide_eq_false fun h => he ?_
            rw [← hx, ← hy, h]
          clear hx hy he ht
          go_wp2
          go_quiet (fail)
          go_wp2
          go_ret
          exact ⟨by rw [hBf.out]; rfl, by first | exact (Qt.mk' w n).step nq | exact Qt.mk' w _⟩
      · have hBt : Hid (B = true) := by
          show _ = _
          rw [← hB.out]
          exact decide_eq_true (takes_all ht.out (by omega) (by rw [← hlen.out]; omega))
        clear ht
        go_wp2
        go_ret
        exact ⟨by rw [hBt.out]; rfl, Qt.mk' w n⟩
  · have hBf : B = false := by rw [← hB.out]; exact decide_eq_false fun h => hlen (by rw [h])
    subst hBf
    have h1 : ((xs.length : Int) == (ys.length : Int)) = false := by simp; omega
    go_enter Tryz.func46, Tryz.ntmps46
    go_wp2
    go_ret
    exact ⟨rfl, Qt.refl w⟩

set_option maxRecDepth 100000 in
set_option maxHeartbeats 1600000 in
theorem sameRds {w : World} {u v : Value} {xs ys : List (List Int)} (hx : KS 7 w u xs) (hy : KS 7 w v ys) :
    Calls Tryz.prog 25 #[u, v] w fun e w' => e = .returned (.bool (decide (xs = ys))) ∧ Qt w w' := by
  obtain ⟨xa, xc, xb, xo, rfl, hxa, hxc, _⟩ := hx
  obtain ⟨ya, yc, yb, yo, rfl, hya, hyc, _⟩ := hy
  obtain ⟨B, hB⟩ : ∃ B, decide (xs = ys) = B := ⟨_, rfl⟩
  rw [hB]
  replace hB := Lib.hid hB
  replace hxc := Lib.hid hxc
  replace hyc := Lib.hid hyc
  by_cases hlen : xs.length = ys.length
  · rw [← hlen]
    replace hlen := Lib.hid hlen
    have h0 : Hid (xs.take 0 = ys.take 0) := rfl
    go_enter Tryz.func25, Tryz.ntmps25
    go_wp2
    go_loopw [5] (fun iv wr => ∃ i : Nat, iv = .int .i64 i ∧ i ≤ xs.length ∧ Hid (xs.take i = ys.take i) ∧ Qt w wr) (fun iv _ => xs.length - (intOf iv).toNat)
    case atStart => exact ⟨0, rfl, by omega, h0, Qt.refl w⟩
    case round =>
      clear h0
      obtain ⟨i, rfl, hi, ht, n, rfl⟩ := hrel
      by_cases hlt : i < xs.length
      · obtain rfl := hxa (by omega)
        obtain rfl := hya (by rw [← hlen.out]; omega)
        have hlt' : i < ys.length := by rw [← hlen.out]; exact hlt
        obtain ⟨hx8, hxi⟩ := hxc.out i hlt
        obtain ⟨hy8, hyi⟩ := hyc.out i hlt'
        obtain ⟨x, hx⟩ : ∃ x, xs.getD i [] = x := ⟨_, rfl⟩
        obtain ⟨y, hy⟩ : ∃ y, ys.getD i [] = y := ⟨_, rfl⟩
        rw [hx] at hx8 hxi
        rw [hy] at hy8 hyi
        obtain ⟨x0, x1, x2, x3, x4, x5, x6, rfl⟩ := seven hx8
        obtain ⟨y0, y1, y2, y3, y4, y5, y6, rfl⟩ := seven hy8
        obtain ⟨c0, c1, c2, c3, c4, c5, c6⟩ := hxi.all7
        obtain ⟨d0, d1, d2, d3, d4, d5, d6⟩ := hyi.all7
        clear hxi hyi hx8 hy8
        by_cases he : [x0, x1, x2, x3, x4, x5, x6] = [y0, y1, y2, y3, y4, y5, y6]
        · have hE : eqL [x0, x1, x2, x3, x4, x5, x6] [y0, y1, y2, y3, y4, y5, y6] = true := eqL_true.2 he
          have ht2 : Hid (xs.take (i + 1) = ys.take (i + 1)) := takes_next ht.out hlt hlt' (by rw [hx, hy, he])
          clear hx hy he ht
          go_wp2
          go_quiet (fail)
          go_wp2
          go_roundw
          case rel => exact ⟨i + 1, by go_num, hlt, ht2, by first | exact (Qt.mk' w n).step nq | exact Qt.mk' w _⟩
          case measure => simp [intOf]; omega
        · have hE : eqL [x0, x1, x2, x3, x4, x5, x6] [y0, y1, y2, y3, y4, y5, y6] = false := eqL_false.2 he
          have hBf : Hid (B = false) := by
            show _ = _
            rw [← hB.out]
            refine decide_eq_false fun h => he ?_
            rw [← hx, ← hy, h]
          clear hx hy he ht
          go_wp2
          go_quiet (fail)
          go_wp2
          go_ret
          exact ⟨by rw [hBf.out]; rfl, by first | exact (Qt.mk' w n).step nq | exact Qt.mk' w _⟩
      · have hBt : Hid (B = true) := by
          show _ = _
          rw [← hB.out]
          exact decide_eq_true (takes_all ht.out (by omega) (by rw [← hlen.out]; omega))
        clear ht
        go_wp2
        go_ret
        exact ⟨by rw [hBt.out]; rfl, Qt.mk' w n⟩
  · have hBf : B = false := by rw [← hB.out]; exact decide_eq_false fun h => hlen (by rw [h])
    subst hBf
    have h1 : ((xs.length : Int) == (ys.length : Int)) = false := by simp; omega
    go_enter Tryz.func25, Tryz.ntmps25
    go_wp2
    go_ret
    exact ⟨rfl, Qt.refl w⟩

set_option maxRecDepth 100000 in
set_option maxHeartbeats 1600000 in
theorem eqRds {w : World} {u v : Value} {xs ys : List (List Int)} (hx : KS 7 w u xs) (hy : KS 7 w v ys) :
    Calls Tryz.prog 45 #[u, v] w fun e w' => e = .returned (.bool (decide (xs = ys))) ∧ Qt w w' := by
  obtain ⟨xa, xc, xb, xo, rfl, hxa, hxc, _⟩ := hx
  obtain ⟨ya, yc, yb, yo, rfl, hya, hyc, _⟩ := hy
  obtain ⟨B, hB⟩ : ∃ B, decide (xs = ys) = B := ⟨_, rfl⟩
  rw [hB]
  replace hB := Lib.hid hB
  replace hxc := Lib.hid hxc
  replace hyc := Lib.hid hyc
  by_cases hlen : xs.length = ys.length
  · rw [← hlen]
    replace hlen := Lib.hid hlen
    have h0 : Hid (xs.take 0 = ys.take 0) := rfl
    go_enter Tryz.func45, Tryz.ntmps45
    go_wp2
    go_loopw [13] (fun iv wr => ∃ i : Nat, iv = .int .i64 i ∧ i ≤ xs.length ∧ Hid (xs.take i = ys.take i) ∧ Qt w wr) (fun iv _ => xs.length - (intOf iv).toNat)
    case atStart => exact ⟨0, rfl, by omega, h0, Qt.refl w⟩
    case round =>
      clear h0
      obtain ⟨i, rfl, hi, ht, n, rfl⟩ := hrel
      by_cases hlt : i < xs.length
      · obtain rfl := hxa (by omega)
        obtain rfl := hya (by rw [← hlen.out]; omega)
        have hlt' : i < ys.length := by rw [← hlen.out]; exact hlt
        obtain ⟨hx8, hxi⟩ := hxc.out i hlt
        obtain ⟨hy8, hyi⟩ := hyc.out i hlt'
        obtain ⟨x, hx⟩ : ∃ x, xs.getD i [] = x := ⟨_, rfl⟩
        obtain ⟨y, hy⟩ : ∃ y, ys.getD i [] = y := ⟨_, rfl⟩
        rw [hx] at hx8 hxi
        rw [hy] at hy8 hyi
        obtain ⟨x0, x1, x2, x3, x4, x5, x6, rfl⟩ := seven hx8
        obtain ⟨y0, y1, y2, y3, y4, y5, y6, rfl⟩ := seven hy8
        obtain ⟨c0, c1, c2, c3, c4, c5, c6⟩ := hxi.all7
        obtain ⟨d0, d1, d2, d3, d4, d5, d6⟩ := hyi.all7
        clear hxi hyi hx8 hy8
        by_cases he : [x0, x1, x2, x3, x4, x5, x6] = [y0, y1, y2, y3, y4, y5, y6]
        · have hE : eqL [x0, x1, x2, x3, x4, x5, x6] [y0, y1, y2, y3, y4, y5, y6] = true := eqL_true.2 he
          have ht2 : Hid (xs.take (i + 1) = ys.take (i + 1)) := takes_next ht.out hlt hlt' (by rw [hx, hy, he])
          clear hx hy he ht
          go_wp2
          go_quiet (fail)
          go_wp2
          go_roundw
          case rel => exact ⟨i + 1, by go_num, hlt, ht2, by first | exact (Qt.mk' w n).step nq | exact Qt.mk' w _⟩
          case measure => simp [intOf]; omega
        · have hE : eqL [x0, x1, x2, x3, x4, x5, x6] [y0, y1, y2, y3, y4, y5, y6] = false := eqL_false.2 he
          have hBf : Hid (B = false) := by
            show _ = _
            rw [← hB.out]
            refine decide_eq_false fun h => he ?_
            rw [← hx, ← hy, h]
          clear hx hy he ht
          go_wp2
          go_quiet (fail)
          go_wp2
          go_ret
          exact ⟨by rw [hBf.out]; rfl, by first | exact (Qt.mk' w n).step nq | exact Qt.mk' w _⟩
      · have hBt : Hid (B = true) := by
          show _ = _
          rw [← hB.out]
          exact decide_eq_true (takes_all ht.out (by omega) (by rw [← hlen.out]; omega))
        clear ht
        go_wp2
        go_ret
        exact ⟨by rw [hBt.out]; rfl, Qt.mk' w n⟩
  · have hBf : B = false := by rw [← hB.out]; exact decide_eq_false fun h => hlen (by rw [h])
    subst hBf
    have h1 : ((xs.length : Int) == (ys.length : Int)) = false := by simp; omega
    go_enter Tryz.func45, Tryz.ntmps45
    go_wp2
    go_ret
    exact ⟨rfl, Qt.refl w⟩

set_option maxRecDepth 100000 in
set_option maxHeartbeats 1600000 in
theorem sameWords {w : World} {u v : Value} {xs ys : List (List (List Int))} (hx : KSS 7 w u xs) (hy : KSS 7 w v ys) :
    Calls Tryz.prog 34 #[u, v] w fun e w' => e = .returned (.bool (decide (xs = ys))) ∧ Qt w w' := by
  obtain ⟨xa, xc, xb, xo, rfl, hxa, hxc, _⟩ := hx
  obtain ⟨ya, yc, yb, yo, rfl, hya, hyc, _⟩ := hy
  obtain ⟨B, hB⟩ : ∃ B, decide (xs = ys) = B := ⟨_, rfl⟩
  rw [hB]
  replace hB := Lib.hid hB
  replace hxc := Lib.hid hxc
  replace hyc := Lib.hid hyc
  by_cases hlen : xs.length = ys.length
  · rw [← hlen]
    replace hlen := Lib.hid hlen
    have h0 : Hid (xs.take 0 = ys.take 0) := rfl
    go_enter Tryz.func34, Tryz.ntmps34
    go_wp2
    go_loopw [5] (fun iv wr => ∃ i : Nat, iv = .int .i64 i ∧ i ≤ xs.length ∧ Hid (xs.take i = ys.take i) ∧ Qt w wr) (fun iv _ => xs.length - (intOf iv).toNat)
    case atStart => exact ⟨0, rfl, by omega, h0, Qt.refl w⟩
    case round =>
      clear h0
      obtain ⟨i, rfl, hi, ht, n, rfl⟩ := hrel
      by_cases hlt : i < xs.length
      · obtain rfl := hxa (by omega)
        obtain rfl := hya (by rw [← hlen.out]; omega)
        have hlt' : i < ys.length := by rw [← hlen.out]; exact hlt
        obtain ⟨xu, hxi, hxk⟩ := hxc.out i hlt
        obtain ⟨yu, hyi, hyk⟩ := hyc.out i hlt'
        obtain ⟨x, hx⟩ : ∃ x, xs.getD i [] = x := ⟨_, rfl⟩
        obtain ⟨y, hy⟩ : ∃ y, ys.getD i [] = y := ⟨_, rfl⟩
        rw [hx] at hxk
        rw [hy] at hyk
        have HC := fun q => sameRds (hxk.keep (below_drewN (Below.refl _ w) q)) (hyk.keep (below_drewN (Below.refl _ w) q))
        obtain ⟨b, hb⟩ : ∃ b, decide (x = y) = b := ⟨_, rfl⟩
        simp only [hb] at HC
        replace HC := Lib.hid HC
        obtain ⟨xsa, xsc, hxs⟩ := hxk.shape
        obtain ⟨ysa, ysc, hys⟩ := hyk.shape
        subst hxs hys
        have hyes : Hid (b = true → xs.take (i + 1) = ys.take (i + 1)) := fun h => takes_next ht.out hlt hlt' (d := []) (by rw [hx, hy]; rw [h] at hb; exact of_decide_eq_true hb)
        have hno : Hid (b = false → B = false) := fun h => by
          rw [← hB.out]
          refine decide_eq_false fun h2 => ?_
          rw [h] at hb
          exact of_decide_eq_false hb (by rw [← hx, ← hy, h2])
        clear hx hy hb ht hxk hyk
        cases b
        · have hBf : Hid (B = false) := hno.out rfl
          clear hyes hno
          go_wp2
          go_quiet ((go_at_call 25; exact quietOn (HC.out _)))
          go_wp2
          go_ret
          exact ⟨by rw [hBf.out]; rfl, by first | exact (Qt.mk' w n).step nq | exact Qt.mk' w _⟩
        · have ht2 : Hid (xs.take (i + 1) = ys.take (i + 1)) := hyes.out rfl
          clear hyes hno
          go_wp2
          go_quiet ((go_at_call 25; exact quietOn (HC.out _)))
          go_wp2
          go_roundw
          case rel => exact ⟨i + 1, by go_num, hlt, ht2, by first | exact (Qt.mk' w n).step nq | exact Qt.mk' w _⟩
          case measure => simp [intOf]; omega
      · have hBt : Hid (B = true) := by
          show _ = _
          rw [← hB.out]
          exact decide_eq_true (takes_all ht.out (by omega) (by rw [← hlen.out]; omega))
        clear ht
        go_wp2
        go_ret
        exact ⟨by rw [hBt.out]; rfl, Qt.mk' w n⟩
  · have hBf : B = false := by rw [← hB.out]; exact decide_eq_false fun h => hlen (by rw [h])
    subst hBf
    have h1 : ((xs.length : Int) == (ys.length : Int)) = false := by simp; omega
    go_enter Tryz.func34, Tryz.ntmps34
    go_wp2
    go_ret
    exact ⟨rfl, Qt.refl w⟩
end Go.Proofs.YtfihpofdoffclaaGreatDoor

/- Is and Equal. -/
namespace Go.Proofs.YtfihpofdoffclaaGreatDoor
open Go.RowKit Go.ChangeMaps Go.MapKept

/-- A struct that is read from its box. -/
theorem advShape {w : World} {v : Value} {n : Int} {ss : List (List (List Int))} (h : AdvV w v n ss) : ∃ a c, v = .agg #[.int .i64 n, .slice a ss.length c] := by
  obtain ⟨sv, rfl, hK⟩ := h
  obtain ⟨a, c, rfl⟩ := hK.shape
  exact ⟨a, c, rfl⟩
set_option maxRecDepth 100000 in
set_option maxHeartbeats 800000 in
theorem isGood {w : World} {v : Value} {n : Int} {ss : List (List (List Int))} (hA : AdvV w v n ss) (hl : ss.length ≤ 90) (hm : movesN ss ≤ 90) (h0 : chkA n ss = 0) :
    Calls Tryz.prog 17 #[v] w fun e w' => e = .returned (.tuple #[.bool (decide (ss = canS ss)), .int .i64 0]) ∧ Below w.heap.size w w' := by
  obtain ⟨sa, sc, hv⟩ := advShape hA
  subst hv
  obtain ⟨W1, hW1⟩ : ∃ W1, W1 = w.alloc (.cells #[.int .i64 n, .slice sa ss.length sc] 24) := ⟨_, rfl⟩
  obtain ⟨hb1, p0, p1, _⟩ := boxAdv hW1
  have HC := Lib.hid (canonGood (hA.keep hb1) hl hm h0)
  have HS := Lib.hid (fun W u (hb : Below w.heap.size w W) (hu : AdvV W u n (canS ss)) => sameAdv (hA.keep hb) hu)
  obtain ⟨C, hC⟩ : ∃ C, canS ss = C := ⟨_, rfl⟩
  rw [hC] at HC HS ⊢
  obtain ⟨B, hB⟩ : ∃ B, decide (ss = C) = B := ⟨_, rfl⟩
  rw [hB] at HS ⊢
  clear hA hC hB
  go_enter Tryz.func17, Tryz.ntmps17
  go_wp2_with fail
  rw [← hW1]
  refine HC.out.mono ?_
  rintro e W2 ⟨u, rfl, hu, hb2⟩
  obtain ⟨ua, uc, hus⟩ := advShape hu.adv
  subst hus
  have hb02 := bt hb1 hb2 hb1.size
  obtain ⟨W3, hW3⟩ : ∃ W3, W3 = W2.alloc (.cells #[.int .i64 n, .slice ua C.length uc] 24) := ⟨_, rfl⟩
  obtain ⟨hb3, r0, r1, _⟩ := boxAdv hW3
  have q0 := cell_kept (btt hb2 hb3) p0
  have q1 := cell_kept (btt hb2 hb3) p1
  have hb03 := bt hb02 hb3 hb02.size
  have H := HS.out W3 _ hb03 (hu.adv.keep hb3)
  simp only [decide_true, Bool.true_and] at H
  replace H := Lib.hid H
  rw [hW3] at q0 q1 r0 r1
  clear hu
  go_wp2_with fail
  rw [← hW3]
  refine H.out.mono ?_
  rintro e W4 ⟨rfl, hb4⟩
  go_wp2
  go_ret2
  exact ⟨rfl, bt hb03 hb4 hb03.size⟩
/-- The answer of Equal. -/
def eqErr (m n : Int) (xs ys : List (List (List Int))) : Int := if chkA m xs ≠ 0 then chkA m xs else if chkA n ys ≠ 0 then chkA n ys else if m ≠ n then 22 else 0
def eqRes (m n : Int) (xs ys : List (List (List Int))) : Bool := decide (eqErr m n xs ys = 0) && decide (canS xs = canS ys)
set_option maxRecDepth 100000 in
set_option maxHeartbeats 1600000 in
theorem equalA {w : World} {u v : Value} {m n : Int} {xs ys : List (List (List Int))} (hx : AdvV w u m xs) (hy : AdvV w v n ys) (hxl : xs.length ≤ 90) (hxm : movesN xs ≤ 90) (hyl : ys.length ≤ 90) (hym : movesN ys ≤ 90) :
    Calls Tryz.prog 21 #[u, v] w fun e w' => e = .returned (.tuple #[.bool (eqRes m n xs ys), .int .i64 (eqErr m n xs ys)]) ∧ Below w.heap.size w w' := by
  obtain ⟨xa, xc, hv⟩ := advShape hx
  subst hv
  obtain ⟨ya, yc, hv⟩ := advShape hy
  subst hv
  obtain ⟨Wa, hWa⟩ : ∃ Wa, Wa = w.alloc (.cells #[.int .i64 m, .slice xa xs.length xc] 24) := ⟨_, rfl⟩
  obtain ⟨hba, a0, a1, _⟩ := boxAdv hWa
  obtain ⟨Wb, hWb⟩ : ∃ Wb, Wb = Wa.alloc (.cells #[.int .i64 n, .slice ya ys.length yc] 24) := ⟨_, rfl⟩
  obtain ⟨hbb, b0, b1, _⟩ := boxAdv hWb
  have hsa : Wa.heap.size = w.heap.size + 1 := by rw [hWa]; simp
  rw [hsa] at b0 b1
  have a0 := cell_kept hbb a0
  have a1 := cell_kept hbb a1
  have hb0b := bt hba hbb hba.size
  obtain ⟨E, hE⟩ : ∃ E, eqErr m n xs ys = E := ⟨_, rfl⟩
  obtain ⟨B, hB⟩ : ∃ B, eqRes m n xs ys = B := ⟨_, rfl⟩
  rw [hE, hB]
  rw [hWa] at hWb
  by_cases h1 : chkA m xs = 0
  · have HC := Lib.hid (canonGood (hx.keep hb0b) hxl hxm h1)
    obtain ⟨X, hX⟩ : ∃ X, canS xs = X := ⟨_, rfl⟩
    rw [hX] at HC
    by_cases h2 : chkA n ys = 0
    · have HD := Lib.hid (fun W (hb : Below w.heap.size w W) => canonGood (hy.keep hb) hyl hym h2)
      obtain ⟨Y, hY⟩ : ∃ Y, canS ys = Y := ⟨_, rfl⟩
      rw [hY] at HD
      have hEd := Lib.hid (show (if m ≠ n then 22 else 0) = E by rw [← hE]; simp [eqErr, h1, h2])
      have hBd := Lib.hid (show (decide (E = 0) && decide (X = Y)) = B by rw [← hB, eqRes, hE, hX, hY])
      clear hx hy hE hB hX hY h1 h2
      go_enter Tryz.func21, Tryz.ntmps21
      go_wp2_with fail
      rw [← hWb]
      refine HC.out.mono ?_
      rintro e W2 ⟨u, rfl, hu, hb2⟩
      obtain ⟨ua, uc, hus⟩ := advShape hu.adv
      subst hus
      have hb02 := bt hb0b hb2 hb0b.size
      obtain ⟨W3, hW3⟩ : ∃ W3, W3 = W2.alloc (.cells #[.int .i64 m, .slice ua X.length uc] 24) := ⟨_, rfl⟩
      obtain ⟨hb3, r0, r1, _⟩ := boxAdv hW3
      have q0 := cell_kept (btt hb2 hb3) b0
      have q1 := cell_kept (btt hb2 hb3) b1
      have qa := cell_kept (btt hb2 hb3) a0
      have hb03 := bt hb02 hb3 hb02.size
      have hu3 := Lib.hid (hu.adv.keep hb3)
      have q0' := q0
      have q1' := q1
      rw [hW3] at q0' q1'
      clear hu
      go_wp2_with fail
      rw [← hW3]
      refine (HD.out W3 hb03).mono ?_
      rintro e W4 ⟨t, rfl, ht, hb4⟩
      obtain ⟨ta, tc, hts⟩ := advShape ht.adv
      subst hts
      have hb04 := bt hb03 hb4 hb03.size
      obtain ⟨W5, hW5⟩ : ∃ W5, W5 = W4.alloc (.cells #[.int .i64 n, .slice ta Y.length tc] 24) := ⟨_, rfl⟩
      obtain ⟨hb5, s0, s1, _⟩ := boxAdv hW5
      have hb05 := bt hb04 hb5 hb04.size
      have u0 := cell_kept (btt hb4 hb5) q0
      have ua0 := cell_kept (btt hb4 hb5) qa
      have v0 := cell_kept (btt hb4 hb5) r0
      have v1 := cell_kept (btt hb4 hb5) r1
      have H := sameAdv (hu3.out.keep (btt hb4 hb5)) (ht.adv.keep hb5)
      have u0' := u0
      have ua0' := ua0
      have v0' := v0
      have v1' := v1
      have s0' := s0
      have s1' := s1
      rw [hW5] at u0' ua0' v0' v1' s0' s1'
      clear ht q0' q1'
      by_cases hmn : m = n
      · have hE0 : E = 0 := by rw [← hEd.out, if_neg (fun k => k hmn)]
        have hB0 := hBd.out
        rw [hE0, decide_eq_true rfl, Bool.true_and] at hB0
        rw [decide_eq_true hmn, Bool.true_and, hB0] at H
        have hne : (m == n) = true := by simp [hmn]
        replace H := Lib.hid H
        clear hmn hEd hBd hB0
        go_wp2_with fail
        rw [← hW5]
        refine H.out.mono ?_
        rintro e W6 ⟨rfl, hb6⟩
        go_wp2
        go_ret2
        exact ⟨by rw [hE0]; rfl, bt hb05 hb6 hb05.size⟩
      · have hE0 : E = 22 := by rw [← hEd.out, if_pos hmn]
        have hB0 := hBd.out
        rw [hE0, show decide ((22 : Int) = 0) = false from rfl, Bool.false_and] at hB0
        have hne : (m == n) = false := by simp [hmn]
        replace hB0 := Lib.hid hB0
        clear hmn hEd hBd H
        go_wp2
        try rw [← hW5]
        go_ret2
        exact ⟨by rw [hE0, ← hB0.out]; rfl, hb05⟩
    · have HD := Lib.hid (fun W (hb : Below w.heap.size w W) => canonBad (hy.keep hb) (by omega) h2)
      have hEd : chkA n ys = E := by rw [← hE, eqErr, if_neg (fun k => k h1), if_pos h2]
      have hBd := Lib.hid (show false = B by rw [← hB, eqRes, hE, ← hEd, decide_eq_false h2, Bool.false_and])
      rw [hEd] at HD h2
      have hne : (E == 0) = false := by simp [h2]
      clear hx hy hE hB hX h1 h2 hEd
      go_enter Tryz.func21, Tryz.ntmps21
      go_wp2_with fail
      rw [← hWb]
      refine HC.out.mono ?_
      rintro e W2 ⟨u, rfl, hu, hb2⟩
      obtain ⟨ua, uc, hus⟩ := advShape hu.adv
      subst hus
      have hb02 := bt hb0b hb2 hb0b.size
      obtain ⟨W3, hW3⟩ : ∃ W3, W3 = W2.alloc (.cells #[.int .i64 m, .slice ua X.length uc] 24) := ⟨_, rfl⟩
      obtain ⟨hb3, r0, r1, _⟩ := boxAdv hW3
      have q0 := cell_kept (btt hb2 hb3) b0
      have q1 := cell_kept (btt hb2 hb3) b1
      have hb03 := bt hb02 hb3 hb02.size
      rw [hW3] at q0 q1
      clear hu
      go_wp2_with fail
      rw [← hW3]
      refine (HD.out W3 hb03).mono ?_
      rintro e W4 ⟨rfl, hb4⟩
      have hb04 := bt hb03 hb4 hb03.size
      obtain ⟨W5, hW5⟩ : ∃ W5, W5 = W4.alloc (.cells #[.int .i64 0, .slice none 0 0] 24) := ⟨_, rfl⟩
      obtain ⟨hb5, _⟩ := boxAdv hW5
      have hb05 := bt hb04 hb5 hb04.size
      go_wp2
      try rw [← hW5]
      go_ret2
      exact ⟨by rw [← hBd.out]; rfl, hb05⟩
  · have HC := Lib.hid (canonBad (hx.keep hb0b) (by omega) h1)
    have hEd : chkA m xs = E := by rw [← hE, eqErr, if_pos h1]
    have hBd := Lib.hid (show false = B by rw [← hB, eqRes, hE, ← hEd, decide_eq_false h1, Bool.false_and])
    rw [hEd] at HC h1
    have hne : (E == 0) = false := by simp [h1]
    clear hx hy hE hB h1 hEd
    go_enter Tryz.func21, Tryz.ntmps21
    go_wp2_with fail
    rw [← hWb]
    refine HC.out.mono ?_
    rintro e W2 ⟨rfl, hb2⟩
    have hb02 := bt hb0b hb2 hb0b.size
    obtain ⟨W3, hW3⟩ : ∃ W3, W3 = W2.alloc (.cells #[.int .i64 0, .slice none 0 0] 24) := ⟨_, rfl⟩
    obtain ⟨hb3, _⟩ := boxAdv hW3
    have hb03 := bt hb02 hb3 hb02.size
    go_wp2
    try rw [← hW3]
    go_ret2
    exact ⟨by rw [← hBd.out]; rfl, hb03⟩
end Go.Proofs.YtfihpofdoffclaaGreatDoor

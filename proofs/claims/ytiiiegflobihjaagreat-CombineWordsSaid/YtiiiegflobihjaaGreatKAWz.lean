/- Texts of this claim, put together: EL2. -/
import Derived.Test.YtiiiegflobihjaaGreatKAWy

/- awake: region 9 (two copies of rounds) by states. -/
namespace Go.Proofs.YtiiiegflobihjaaGreat
open Go.RowKit


def opsAw9 : Array Oper := #[{ dst := some 52, op := Op.load 51 (Operand.tmp 2), type := 51, pos := "law.go:32", after := #[], guard := none }, { dst := some 53, op := Op.load 51 (Operand.tmp 1), type := 51, pos := "law.go:32", after := #[{ on := 4, ground := Ground.gcOnly Departure.lateStores }], guard := none }, { dst := some 11, op := Op.alloc 51, type := 0, pos := "law.go:32", after := #[], guard := none }, { dst := some 12, op := Op.alloc 51, type := 0, pos := "law.go:32", after := #[], guard := none }, { dst := none, op := Op.store 51 (Operand.tmp 11) (Operand.tmp 52), type := 0, pos := "law.go:32", after := #[{ on := 2, ground := Ground.data }, { on := 0, ground := Ground.data }, { on := 0, ground := Ground.phase }, { on := 1, ground := Ground.textOnly Departure.lateStores }, { on := 2, ground := Ground.phase }, { on := 3, ground := Ground.phase }], guard := none }, { dst := none, op := Op.store 51 (Operand.tmp 12) (Operand.tmp 53), type := 0, pos := "law.go:32", after := #[{ on := 3, ground := Ground.data }, { on := 1, ground := Ground.data }, { on := 4, ground := Ground.chain }, { on := 0, ground := Ground.phase }, { on := 1, ground := Ground.phase }, { on := 2, ground := Ground.phase }, { on := 3, ground := Ground.phase }, { on := 4, ground := Ground.phase }], guard := none }]
set_option maxRecDepth 100000 in
set_option maxHeartbeats 6400000 in
theorem regAw9 {w : World} {x0 x3 x4 x5 x6 x7 x8 x9 x10 x11 x12 x13 x14 x15 x16 x17 x18 x19 x20 x21 x22 x23 x24 x25 x26 x27 x28 x29 x30 x31 x32 x33 x34 x35 x36 x37 x38 x39 x40 x41 x42 x43 x44 x45 x46 x47 x48 x49 x50 x51 x52 x53 x54 x55 x56 x57 x58 x59 x60 x61 x62 x63 x64 x65 x66 x67 x68 x69 x70 x71 x72 x73 x74 x75 x76 x77 x78 x79 x80 x81 x82 x83 x84 x85 x86 x87 x88 x89 x90 x91 x92 x93 x94 x95 x96 x97 x98 x99 x100 x101 x102 x103 x104 x105 x106 x107 x108 x109 x110 x111 : Value} {Q : Exit → Act → World → Prop} {p1 p2 : Nat}
    (hR : Hid (∀ W, Below w.heap.size w W → (True ∧ W.cell? ⟨p1, 0, none⟩ = some (.int .i64 2) ∧ W.cell? ⟨p1, 1, none⟩ = some (.int .i64 1) ∧ W.cell? ⟨p1, 2, none⟩ = some (.int .i64 2) ∧ W.cell? ⟨p1, 3, none⟩ = some (.int .i64 0) ∧ W.cell? ⟨p1, 4, none⟩ = some (.int .i64 0) ∧ W.cell? ⟨p1, 5, none⟩ = some (.int .i64 0) ∧ W.cell? ⟨p1, 6, none⟩ = some (.int .i64 0)) ∧ (True ∧ W.cell? ⟨p2, 0, none⟩ = some (.int .i64 2) ∧ W.cell? ⟨p2, 1, none⟩ = some (.int .i64 3) ∧ W.cell? ⟨p2, 2, none⟩ = some (.int .i64 3) ∧ W.cell? ⟨p2, 3, none⟩ = some (.int .i64 0) ∧ W.cell? ⟨p2, 4, none⟩ = some (.int .i64 0) ∧ W.cell? ⟨p2, 5, none⟩ = some (.int .i64 0) ∧ W.cell? ⟨p2, 6, none⟩ = some (.int .i64 0))))
    (h : ∀ (W : World) (_hb : Below w.heap.size w W) (b3 : Nat) (_h3 : w.heap.size ≤ b3) (_k3 : W.heap[b3]? = some (.cells #[.int .i64 2, .int .i64 3, .int .i64 3, .int .i64 0, .int .i64 0, .int .i64 0, .int .i64 0] 51)) (b4 : Nat) (_h4 : w.heap.size ≤ b4) (_k4 : W.heap[b4]? = some (.cells #[.int .i64 2, .int .i64 1, .int .i64 2, .int .i64 0, .int .i64 0, .int .i64 0, .int .i64 0] 51)) (_hne : b3 ≠ b4), Q .normal ⟨#[x0, .pointer (some ⟨p1, 0, none⟩), .pointer (some ⟨p2, 0, none⟩), x3, x4, x5, x6, x7, x8, x9, x10, .pointer (some ⟨b3, 0, none⟩), .pointer (some ⟨b4, 0, none⟩), x13, x14, x15, x16, x17, x18, x19, x20, x21, x22, x23, x24, x25, x26, x27, x28, x29, x30, x31, x32, x33, x34, x35, x36, x37, x38, x39, x40, x41, x42, x43, x44, x45, x46, x47, x48, x49, x50, x51, .agg #[.int .i64 2, .int .i64 3, .int .i64 3, .int .i64 0, .int .i64 0, .int .i64 0, .int .i64 0], .agg #[.int .i64 2, .int .i64 1, .int .i64 2, .int .i64 0, .int .i64 0, .int .i64 0, .int .i64 0], x54, x55, x56, x57, x58, x59, x60, x61, x62, x63, x64, x65, x66, x67, x68, x69, x70, x71, x72, x73, x74, x75, x76, x77, x78, x79, x80, x81, x82, x83, x84, x85, x86, x87, x88, x89, x90, x91, x92, x93, x94, x95, x96, x97, x98, x99, x100, x101, x102, x103, x104, x105, x106, x107, x108, x109, x110, x111], []⟩ W) :
    (Code.region 9 opsAw9 true).wp Tryz.prog Q ⟨#[x0, .pointer (some ⟨p1, 0, none⟩), .pointer (some ⟨p2, 0, none⟩), x3, x4, x5, x6, x7, x8, x9, x10, x11, x12, x13, x14, x15, x16, x17, x18, x19, x20, x21, x22, x23, x24, x25, x26, x27, x28, x29, x30, x31, x32, x33, x34, x35, x36, x37, x38, x39, x40, x41, x42, x43, x44, x45, x46, x47, x48, x49, x50, x51, x52, x53, x54, x55, x56, x57, x58, x59, x60, x61, x62, x63, x64, x65, x66, x67, x68, x69, x70, x71, x72, x73, x74, x75, x76, x77, x78, x79, x80, x81, x82, x83, x84, x85, x86, x87, x88, x89, x90, x91, x92, x93, x94, x95, x96, x97, x98, x99, x100, x101, x102, x103, x104, x105, x106, x107, x108, x109, x110, x111], []⟩ w := by
  have ho0 : opsAw9[0]? = some { dst := some 52, op := Op.load 51 (Operand.tmp 2), type := 51, pos := "law.go:32", after := #[], guard := none } := rfl
  have ho1 : opsAw9[1]? = some { dst := some 53, op := Op.load 51 (Operand.tmp 1), type := 51, pos := "law.go:32", after := #[{ on := 4, ground := Ground.gcOnly Departure.lateStores }], guard := none } := rfl
  have ho2 : opsAw9[2]? = some { dst := some 11, op := Op.alloc 51, type := 0, pos := "law.go:32", after := #[], guard := none } := rfl
  have ho3 : opsAw9[3]? = some { dst := some 12, op := Op.alloc 51, type := 0, pos := "law.go:32", after := #[], guard := none } := rfl
  have ho4 : opsAw9[4]? = some { dst := none, op := Op.store 51 (Operand.tmp 11) (Operand.tmp 52), type := 0, pos := "law.go:32", after := #[{ on := 2, ground := Ground.data }, { on := 0, ground := Ground.data }, { on := 0, ground := Ground.phase }, { on := 1, ground := Ground.textOnly Departure.lateStores }, { on := 2, ground := Ground.phase }, { on := 3, ground := Ground.phase }], guard := none } := rfl
  have ho5 : opsAw9[5]? = some { dst := none, op := Op.store 51 (Operand.tmp 12) (Operand.tmp 53), type := 0, pos := "law.go:32", after := #[{ on := 3, ground := Ground.data }, { on := 1, ground := Ground.data }, { on := 4, ground := Ground.chain }, { on := 0, ground := Ground.phase }, { on := 1, ground := Ground.phase }, { on := 2, ground := Ground.phase }, { on := 3, ground := Ground.phase }, { on := 4, ground := Ground.phase }], guard := none } := rfl
  refine wp_region_any (by kernel_rfl) ?_
  have st0_1_2_3_4_5_ : ∀ (W : World) (hb : Below w.heap.size w W) (b3 : Nat) (h3 : w.heap.size ≤ b3) (k3 : W.heap[b3]? = some (.cells #[.int .i64 2, .int .i64 3, .int .i64 3, .int .i64 0, .int .i64 0, .int .i64 0, .int .i64 0] 51)) (b4 : Nat) (h4 : w.heap.size ≤ b4) (k4 : W.heap[b4]? = some (.cells #[.int .i64 2, .int .i64 1, .int .i64 2, .int .i64 0, .int .i64 0, .int .i64 0, .int .i64 0] 51)) (hne : b3 ≠ b4), wpAny Tryz.prog .any opsAw9 Q 0 #[true, true, true, true, true, true] ⟨#[x0, .pointer (some ⟨p1, 0, none⟩), .pointer (some ⟨p2, 0, none⟩), x3, x4, x5, x6, x7, x8, x9, x10, .pointer (some ⟨b3, 0, none⟩), .pointer (some ⟨b4, 0, none⟩), x13, x14, x15, x16, x17, x18, x19, x20, x21, x22, x23, x24, x25, x26, x27, x28, x29, x30, x31, x32, x33, x34, x35, x36, x37, x38, x39, x40, x41, x42, x43, x44, x45, x46, x47, x48, x49, x50, x51, .agg #[.int .i64 2, .int .i64 3, .int .i64 3, .int .i64 0, .int .i64 0, .int .i64 0, .int .i64 0], .agg #[.int .i64 2, .int .i64 1, .int .i64 2, .int .i64 0, .int .i64 0, .int .i64 0, .int .i64 0], x54, x55, x56, x57, x58, x59, x60, x61, x62, x63, x64, x65, x66, x67, x68, x69, x70, x71, x72, x73, x74, x75, x76, x77, x78, x79, x80, x81, x82, x83, x84, x85, x86, x87, x88, x89, x90, x91, x92, x93, x94, x95, x96, x97, x98, x99, x100, x101, x102, x103, x104, x105, x106, x107, x108, x109, x110, x111], []⟩ W := by
    intro W hb b3 h3 k3 b4 h4 k4 hne
    exact ⟨by kernel_rfl, h _ hb b3 h3 k3 b4 h4 k4 hne⟩
  have st0_1_2_3_4_ : ∀ (W : World) (hb : Below w.heap.size w W) (b3 : Nat) (h3 : w.heap.size ≤ b3) (k3 : W.heap[b3]? = some (.cells #[.int .i64 2, .int .i64 3, .int .i64 3, .int .i64 0, .int .i64 0, .int .i64 0, .int .i64 0] 51)) (b4 : Nat) (h4 : w.heap.size ≤ b4) (k4 : W.heap[b4]? = some (.cells #[.int .i64 0, .int .i64 0, .int .i64 0, .int .i64 0, .int .i64 0, .int .i64 0, .int .i64 0] 51)) (hne : b3 ≠ b4), wpAny Tryz.prog .any opsAw9 Q 1 #[true, true, true, true, true, false] ⟨#[x0, .pointer (some ⟨p1, 0, none⟩), .pointer (some ⟨p2, 0, none⟩), x3, x4, x5, x6, x7, x8, x9, x10, .pointer (some ⟨b3, 0, none⟩), .pointer (some ⟨b4, 0, none⟩), x13, x14, x15, x16, x17, x18, x19, x20, x21, x22, x23, x24, x25, x26, x27, x28, x29, x30, x31, x32, x33, x34, x35, x36, x37, x38, x39, x40, x41, x42, x43, x44, x45, x46, x47, x48, x49, x50, x51, .agg #[.int .i64 2, .int .i64 3, .int .i64 3, .int .i64 0, .int .i64 0, .int .i64 0, .int .i64 0], .agg #[.int .i64 2, .int .i64 1, .int .i64 2, .int .i64 0, .int .i64 0, .int .i64 0, .int .i64 0], x54, x55, x56, x57, x58, x59, x60, x61, x62, x63, x64, x65, x66, x67, x68, x69, x70, x71, x72, x73, x74, x75, x76, x77, x78, x79, x80, x81, x82, x83, x84, x85, x86, x87, x88, x89, x90, x91, x92, x93, x94, x95, x96, x97, x98, x99, x100, x101, x102, x103, x104, x105, x106, x107, x108, x109, x110, x111], []⟩ W := by
    intro W hb b3 h3 k3 b4 h4 k4 hne
    refine wpAny_ready (rs := [5]) (by kernel_rfl) (by simp) ?_
    refine AllReady.cons ho5 (fun K hK => ?_) AllReady.nil
    · obtain ⟨yf, y0, y1, y2, y3, y4, y5, y6⟩ := row7 k4
      go_simp
      refine hK _ _ ?_
      exact st0_1_2_3_4_5_ (((((((W.setCell ⟨b4, 0, none⟩ (.int .i64 2)).setCell ⟨b4, 1, none⟩ (.int .i64 1)).setCell ⟨b4, 2, none⟩ (.int .i64 2)).setCell ⟨b4, 3, none⟩ (.int .i64 0)).setCell ⟨b4, 4, none⟩ (.int .i64 0)).setCell ⟨b4, 5, none⟩ (.int .i64 0)).setCell ⟨b4, 6, none⟩ (.int .i64 0)) (gS (gS (gS (gS (gS (gS (gS hb h4 0 (.int .i64 2)) h4 1 (.int .i64 1)) h4 2 (.int .i64 2)) h4 3 (.int .i64 0)) h4 4 (.int .i64 0)) h4 5 (.int .i64 0)) h4 6 (.int .i64 0)) b3 h3 (hSn (hSn (hSn (hSn (hSn (hSn (hSn k3 hne) hne) hne) hne) hne) hne) hne) b4 h4 (boxSet7 (u0 := .int .i64 2) (u1 := .int .i64 1) (u2 := .int .i64 2) (u3 := .int .i64 0) (u4 := .int .i64 0) (u5 := .int .i64 0) (u6 := .int .i64 0) k4) hne
  have st0_1_2_3_ : ∀ (W : World) (hb : Below w.heap.size w W) (b3 : Nat) (h3 : w.heap.size ≤ b3) (k3 : W.heap[b3]? = some (.cells #[.int .i64 0, .int .i64 0, .int .i64 0, .int .i64 0, .int .i64 0, .int .i64 0, .int .i64 0] 51)) (b4 : Nat) (h4 : w.heap.size ≤ b4) (k4 : W.heap[b4]? = some (.cells #[.int .i64 0, .int .i64 0, .int .i64 0, .int .i64 0, .int .i64 0, .int .i64 0, .int .i64 0] 51)) (hne : b3 ≠ b4), wpAny Tryz.prog .any opsAw9 Q 2 #[true, true, true, true, false, false] ⟨#[x0, .pointer (some ⟨p1, 0, none⟩), .pointer (some ⟨p2, 0, none⟩), x3, x4, x5, x6, x7, x8, x9, x10, .pointer (some ⟨b3, 0, none⟩), .pointer (some ⟨b4, 0, none⟩), x13, x14, x15, x16, x17, x18, x19, x20, x21, x22, x23, x24, x25, x26, x27, x28, x29, x30, x31, x32, x33, x34, x35, x36, x37, x38, x39, x40, x41, x42, x43, x44, x45, x46, x47, x48, x49, x50, x51, .agg #[.int .i64 2, .int .i64 3, .int .i64 3, .int .i64 0, .int .i64 0, .int .i64 0, .int .i64 0], .agg #[.int .i64 2, .int .i64 1, .int .i64 2, .int .i64 0, .int .i64 0, .int .i64 0, .int .i64 0], x54, x55, x56, x57, x58, x59, x60, x61, x62, x63, x64, x65, x66, x67, x68, x69, x70, x71, x72, x73, x74, x75, x76, x77, x78, x79, x80, x81, x82, x83, x84, x85, x86, x87, x88, x89, x90, x91, x92, x93, x94, x95, x96, x97, x98, x99, x100, x101, x102, x103, x104, x105, x106, x107, x108, x109, x110, x111], []⟩ W := by
    intro W hb b3 h3 k3 b4 h4 k4 hne
    refine wpAny_ready (rs := [4]) (by kernel_rfl) (by simp) ?_
    refine AllReady.cons ho4 (fun K hK => ?_) AllReady.nil
    · obtain ⟨yf, y0, y1, y2, y3, y4, y5, y6⟩ := row7 k3
      go_simp
      refine hK _ _ ?_
      exact st0_1_2_3_4_ (((((((W.setCell ⟨b3, 0, none⟩ (.int .i64 2)).setCell ⟨b3, 1, none⟩ (.int .i64 3)).setCell ⟨b3, 2, none⟩ (.int .i64 3)).setCell ⟨b3, 3, none⟩ (.int .i64 0)).setCell ⟨b3, 4, none⟩ (.int .i64 0)).setCell ⟨b3, 5, none⟩ (.int .i64 0)).setCell ⟨b3, 6, none⟩ (.int .i64 0)) (gS (gS (gS (gS (gS (gS (gS hb h3 0 (.int .i64 2)) h3 1 (.int .i64 3)) h3 2 (.int .i64 3)) h3 3 (.int .i64 0)) h3 4 (.int .i64 0)) h3 5 (.int .i64 0)) h3 6 (.int .i64 0)) b3 h3 (boxSet7 (u0 := .int .i64 2) (u1 := .int .i64 3) (u2 := .int .i64 3) (u3 := .int .i64 0) (u4 := .int .i64 0) (u5 := .int .i64 0) (u6 := .int .i64 0) k3) b4 h4 (hSn (hSn (hSn (hSn (hSn (hSn (hSn k4 hne.symm) hne.symm) hne.symm) hne.symm) hne.symm) hne.symm) hne.symm) hne
  have st0_2_3_4_ : ∀ (W : World) (hb : Below w.heap.size w W) (b3 : Nat) (h3 : w.heap.size ≤ b3) (k3 : W.heap[b3]? = some (.cells #[.int .i64 2, .int .i64 3, .int .i64 3, .int .i64 0, .int .i64 0, .int .i64 0, .int .i64 0] 51)) (b4 : Nat) (h4 : w.heap.size ≤ b4) (k4 : W.heap[b4]? = some (.cells #[.int .i64 0, .int .i64 0, .int .i64 0, .int .i64 0, .int .i64 0, .int .i64 0, .int .i64 0] 51)) (hne : b3 ≠ b4), wpAny Tryz.prog .any opsAw9 Q 2 #[true, false, true, true, true, false] ⟨#[x0, .pointer (some ⟨p1, 0, none⟩), .pointer (some ⟨p2, 0, none⟩), x3, x4, x5, x6, x7, x8, x9, x10, .pointer (some ⟨b3, 0, none⟩), .pointer (some ⟨b4, 0, none⟩), x13, x14, x15, x16, x17, x18, x19, x20, x21, x22, x23, x24, x25, x26, x27, x28, x29, x30, x31, x32, x33, x34, x35, x36, x37, x38, x39, x40, x41, x42, x43, x44, x45, x46, x47, x48, x49, x50, x51, .agg #[.int .i64 2, .int .i64 3, .int .i64 3, .int .i64 0, .int .i64 0, .int .i64 0, .int .i64 0], x53, x54, x55, x56, x57, x58, x59, x60, x61, x62, x63, x64, x65, x66, x67, x68, x69, x70, x71, x72, x73, x74, x75, x76, x77, x78, x79, x80, x81, x82, x83, x84, x85, x86, x87, x88, x89, x90, x91, x92, x93, x94, x95, x96, x97, x98, x99, x100, x101, x102, x103, x104, x105, x106, x107, x108, x109, x110, x111], []⟩ W := by
    intro W hb b3 h3 k3 b4 h4 k4 hne
    refine wpAny_ready (rs := [1]) (by kernel_rfl) (by simp) ?_
    refine AllReady.cons ho1 (fun K hK => ?_) AllReady.nil
    · obtain ⟨⟨_, s0, s1, s2, s3, s4, s5, s6⟩, ⟨_, d0, d1, d2, d3, d4, d5, d6⟩⟩ := hR.out W hb
      go_simp
      refine hK _ _ ?_
      exact st0_1_2_3_4_ W hb b3 h3 k3 b4 h4 k4 hne
  have st0_1_2_ : ∀ (W : World) (hb : Below w.heap.size w W) (b3 : Nat) (h3 : w.heap.size ≤ b3) (k3 : W.heap[b3]? = some (.cells #[.int .i64 0, .int .i64 0, .int .i64 0, .int .i64 0, .int .i64 0, .int .i64 0, .int .i64 0] 51)), wpAny Tryz.prog .any opsAw9 Q 3 #[true, true, true, false, false, false] ⟨#[x0, .pointer (some ⟨p1, 0, none⟩), .pointer (some ⟨p2, 0, none⟩), x3, x4, x5, x6, x7, x8, x9, x10, .pointer (some ⟨b3, 0, none⟩), x12, x13, x14, x15, x16, x17, x18, x19, x20, x21, x22, x23, x24, x25, x26, x27, x28, x29, x30, x31, x32, x33, x34, x35, x36, x37, x38, x39, x40, x41, x42, x43, x44, x45, x46, x47, x48, x49, x50, x51, .agg #[.int .i64 2, .int .i64 3, .int .i64 3, .int .i64 0, .int .i64 0, .int .i64 0, .int .i64 0], .agg #[.int .i64 2, .int .i64 1, .int .i64 2, .int .i64 0, .int .i64 0, .int .i64 0, .int .i64 0], x54, x55, x56, x57, x58, x59, x60, x61, x62, x63, x64, x65, x66, x67, x68, x69, x70, x71, x72, x73, x74, x75, x76, x77, x78, x79, x80, x81, x82, x83, x84, x85, x86, x87, x88, x89, x90, x91, x92, x93, x94, x95, x96, x97, x98, x99, x100, x101, x102, x103, x104, x105, x106, x107, x108, x109, x110, x111], []⟩ W := by
    intro W hb b3 h3 k3
    refine wpAny_ready (rs := [3]) (by kernel_rfl) (by simp) ?_
    refine AllReady.cons ho3 (fun K hK => ?_) AllReady.nil
    · go_simp
      refine hK _ _ ?_
      exact st0_1_2_3_ (W.alloc (.cells #[.int .i64 0, .int .i64 0, .int .i64 0, .int .i64 0, .int .i64 0, .int .i64 0, .int .i64 0] 51)) (gA hb _) b3 h3 (hAn k3) W.heap.size hb.size (heap_alloc_new _ _) (Nat.ne_of_lt (Array.getElem?_eq_some_iff.1 k3).1)
  have st0_1_3_ : ∀ (W : World) (hb : Below w.heap.size w W) (b4 : Nat) (h4 : w.heap.size ≤ b4) (k4 : W.heap[b4]? = some (.cells #[.int .i64 0, .int .i64 0, .int .i64 0, .int .i64 0, .int .i64 0, .int .i64 0, .int .i64 0] 51)), wpAny Tryz.prog .any opsAw9 Q 3 #[true, true, false, true, false, false] ⟨#[x0, .pointer (some ⟨p1, 0, none⟩), .pointer (some ⟨p2, 0, none⟩), x3, x4, x5, x6, x7, x8, x9, x10, x11, .pointer (some ⟨b4, 0, none⟩), x13, x14, x15, x16, x17, x18, x19, x20, x21, x22, x23, x24, x25, x26, x27, x28, x29, x30, x31, x32, x33, x34, x35, x36, x37, x38, x39, x40, x41, x42, x43, x44, x45, x46, x47, x48, x49, x50, x51, .agg #[.int .i64 2, .int .i64 3, .int .i64 3, .int .i64 0, .int .i64 0, .int .i64 0, .int .i64 0], .agg #[.int .i64 2, .int .i64 1, .int .i64 2, .int .i64 0, .int .i64 0, .int .i64 0, .int .i64 0], x54, x55, x56, x57, x58, x59, x60, x61, x62, x63, x64, x65, x66, x67, x68, x69, x70, x71, x72, x73, x74, x75, x76, x77, x78, x79, x80, x81, x82, x83, x84, x85, x86, x87, x88, x89, x90, x91, x92, x93, x94, x95, x96, x97, x98, x99, x100, x101, x102, x103, x104, x105, x106, x107, x108, x109, x110, x111], []⟩ W := by
    intro W hb b4 h4 k4
    refine wpAny_ready (rs := [2]) (by kernel_rfl) (by simp) ?_
    refine AllReady.cons ho2 (fun K hK => ?_) AllReady.nil
    · go_simp
      refine hK _ _ ?_
      exact st0_1_2_3_ (W.alloc (.cells #[.int .i64 0, .int .i64 0, .int .i64 0, .int .i64 0, .int .i64 0, .int .i64 0, .int .i64 0] 51)) (gA hb _) W.heap.size hb.size (heap_alloc_new _ _) b4 h4 (hAn k4) (Nat.ne_of_gt (Array.getElem?_eq_some_iff.1 k4).1)
  have st0_2_3_ : ∀ (W : World) (hb : Below w.heap.size w W) (b3 : Nat) (h3 : w.heap.size ≤ b3) (k3 : W.heap[b3]? = some (.cells #[.int .i64 0, .int .i64 0, .int .i64 0, .int .i64 0, .int .i64 0, .int .i64 0, .int .i64 0] 51)) (b4 : Nat) (h4 : w.heap.size ≤ b4) (k4 : W.heap[b4]? = some (.cells #[.int .i64 0, .int .i64 0, .int .i64 0, .int .i64 0, .int .i64 0, .int .i64 0, .int .i64 0] 51)) (hne : b3 ≠ b4), wpAny Tryz.prog .any opsAw9 Q 3 #[true, false, true, true, false, false] ⟨#[x0, .pointer (some ⟨p1, 0, none⟩), .pointer (some ⟨p2, 0, none⟩), x3, x4, x5, x6, x7, x8, x9, x10, .pointer (some ⟨b3, 0, none⟩), .pointer (some ⟨b4, 0, none⟩), x13, x14, x15, x16, x17, x18, x19, x20, x21, x22, x23, x24, x25, x26, x27, x28, x29, x30, x31, x32, x33, x34, x35, x36, x37, x38, x39, x40, x41, x42, x43, x44, x45, x46, x47, x48, x49, x50, x51, .agg #[.int .i64 2, .int .i64 3, .int .i64 3, .int .i64 0, .int .i64 0, .int .i64 0, .int .i64 0], x53, x54, x55, x56, x57, x58, x59, x60, x61, x62, x63, x64, x65, x66, x67, x68, x69, x70, x71, x72, x73, x74, x75, x76, x77, x78, x79, x80, x81, x82, x83, x84, x85, x86, x87, x88, x89, x90, x91, x92, x93, x94, x95, x96, x97, x98, x99, x100, x101, x102, x103, x104, x105, x106, x107, x108, x109, x110, x111], []⟩ W := by
    intro W hb b3 h3 k3 b4 h4 k4 hne
    refine wpAny_ready (rs := [1, 4]) (by kernel_rfl) (by simp) ?_
    refine AllReady.cons ho1 (fun K hK => ?_) (AllReady.cons ho4 (fun K hK => ?_) AllReady.nil)
    · obtain ⟨⟨_, s0, s1, s2, s3, s4, s5, s6⟩, ⟨_, d0, d1, d2, d3, d4, d5, d6⟩⟩ := hR.out W hb
      go_simp
      refine hK _ _ ?_
      exact st0_1_2_3_ W hb b3 h3 k3 b4 h4 k4 hne
    · obtain ⟨yf, y0, y1, y2, y3, y4, y5, y6⟩ := row7 k3
      go_simp
      refine hK _ _ ?_
      exact st0_2_3_4_ (((((((W.setCell ⟨b3, 0, none⟩ (.int .i64 2)).setCell ⟨b3, 1, none⟩ (.int .i64 3)).setCell ⟨b3, 2, none⟩ (.int .i64 3)).setCell ⟨b3, 3, none⟩ (.int .i64 0)).setCell ⟨b3, 4, none⟩ (.int .i64 0)).setCell ⟨b3, 5, none⟩ (.int .i64 0)).setCell ⟨b3, 6, none⟩ (.int .i64 0)) (gS (gS (gS (gS (gS (gS (gS hb h3 0 (.int .i64 2)) h3 1 (.int .i64 3)) h3 2 (.int .i64 3)) h3 3 (.int .i64 0)) h3 4 (.int .i64 0)) h3 5 (.int .i64 0)) h3 6 (.int .i64 0)) b3 h3 (boxSet7 (u0 := .int .i64 2) (u1 := .int .i64 3) (u2 := .int .i64 3) (u3 := .int .i64 0) (u4 := .int .i64 0) (u5 := .int .i64 0) (u6 := .int .i64 0) k3) b4 h4 (hSn (hSn (hSn (hSn (hSn (hSn (hSn k4 hne.symm) hne.symm) hne.symm) hne.symm) hne.symm) hne.symm) hne.symm) hne
  have st1_2_3_ : ∀ (W : World) (hb : Below w.heap.size w W) (b3 : Nat) (h3 : w.heap.size ≤ b3) (k3 : W.heap[b3]? = some (.cells #[.int .i64 0, .int .i64 0, .int .i64 0, .int .i64 0, .int .i64 0, .int .i64 0, .int .i64 0] 51)) (b4 : Nat) (h4 : w.heap.size ≤ b4) (k4 : W.heap[b4]? = some (.cells #[.int .i64 0, .int .i64 0, .int .i64 0, .int .i64 0, .int .i64 0, .int .i64 0, .int .i64 0] 51)) (hne : b3 ≠ b4), wpAny Tryz.prog .any opsAw9 Q 3 #[false, true, true, true, false, false] ⟨#[x0, .pointer (some ⟨p1, 0, none⟩), .pointer (some ⟨p2, 0, none⟩), x3, x4, x5, x6, x7, x8, x9, x10, .pointer (some ⟨b3, 0, none⟩), .pointer (some ⟨b4, 0, none⟩), x13, x14, x15, x16, x17, x18, x19, x20, x21, x22, x23, x24, x25, x26, x27, x28, x29, x30, x31, x32, x33, x34, x35, x36, x37, x38, x39, x40, x41, x42, x43, x44, x45, x46, x47, x48, x49, x50, x51, x52, .agg #[.int .i64 2, .int .i64 1, .int .i64 2, .int .i64 0, .int .i64 0, .int .i64 0, .int .i64 0], x54, x55, x56, x57, x58, x59, x60, x61, x62, x63, x64, x65, x66, x67, x68, x69, x70, x71, x72, x73, x74, x75, x76, x77, x78, x79, x80, x81, x82, x83, x84, x85, x86, x87, x88, x89, x90, x91, x92, x93, x94, x95, x96, x97, x98, x99, x100, x101, x102, x103, x104, x105, x106, x107, x108, x109, x110, x111], []⟩ W := by
    intro W hb b3 h3 k3 b4 h4 k4 hne
    refine wpAny_ready (rs := [0]) (by kernel_rfl) (by simp) ?_
    refine AllReady.cons ho0 (fun K hK => ?_) AllReady.nil
    · obtain ⟨⟨_, s0, s1, s2, s3, s4, s5, s6⟩, ⟨_, d0, d1, d2, d3, d4, d5, d6⟩⟩ := hR.out W hb
      go_simp
      refine hK _ _ ?_
      exact st0_1_2_3_ W hb b3 h3 k3 b4 h4 k4 hne
  have st0_1_ : ∀ (W : World) (hb : Below w.heap.size w W), wpAny Tryz.prog .any opsAw9 Q 4 #[true, true, false, false, false, false] ⟨#[x0, .pointer (some ⟨p1, 0, none⟩), .pointer (some ⟨p2, 0, none⟩), x3, x4, x5, x6, x7, x8, x9, x10, x11, x12, x13, x14, x15, x16, x17, x18, x19, x20, x21, x22, x23, x24, x25, x26, x27, x28, x29, x30, x31, x32, x33, x34, x35, x36, x37, x38, x39, x40, x41, x42, x43, x44, x45, x46, x47, x48, x49, x50, x51, .agg #[.int .i64 2, .int .i64 3, .int .i64 3, .int .i64 0, .int .i64 0, .int .i64 0, .int .i64 0], .agg #[.int .i64 2, .int .i64 1, .int .i64 2, .int .i64 0, .int .i64 0, .int .i64 0, .int .i64 0], x54, x55, x56, x57, x58, x59, x60, x61, x62, x63, x64, x65, x66, x67, x68, x69, x70, x71, x72, x73, x74, x75, x76, x77, x78, x79, x80, x81, x82, x83, x84, x85, x86, x87, x88, x89, x90, x91, x92, x93, x94, x95, x96, x97, x98, x99, x100, x101, x102, x103, x104, x105, x106, x107, x108, x109, x110, x111], []⟩ W := by
    intro W hb
    refine wpAny_ready (rs := [2, 3]) (by kernel_rfl) (by simp) ?_
    refine AllReady.cons ho2 (fun K hK => ?_) (AllReady.cons ho3 (fun K hK => ?_) AllReady.nil)
    · go_simp
      refine hK _ _ ?_
      exact st0_1_2_ (W.alloc (.cells #[.int .i64 0, .int .i64 0, .int .i64 0, .int .i64 0, .int .i64 0, .int .i64 0, .int .i64 0] 51)) (gA hb _) W.heap.size hb.size (heap_alloc_new _ _)
    · go_simp
      refine hK _ _ ?_
      exact st0_1_3_ (W.alloc (.cells #[.int .i64 0, .int .i64 0, .int .i64 0, .int .i64 0, .int .i64 0, .int .i64 0, .int .i64 0] 51)) (gA hb _) W.heap.size hb.size (heap_alloc_new _ _)
  have st0_2_ : ∀ (W : World) (hb : Below w.heap.size w W) (b3 : Nat) (h3 : w.heap.size ≤ b3) (k3 : W.heap[b3]? = some (.cells #[.int .i64 0, .int .i64 0, .int .i64 0, .int .i64 0, .int .i64 0, .int .i64 0, .int .i64 0] 51)), wpAny Tryz.prog .any opsAw9 Q 4 #[true, false, true, false, false, false] ⟨#[x0, .pointer (some ⟨p1, 0, none⟩), .pointer (some ⟨p2, 0, none⟩), x3, x4, x5, x6, x7, x8, x9, x10, .pointer (some ⟨b3, 0, none⟩), x12, x13, x14, x15, x16, x17, x18, x19, x20, x21, x22, x23, x24, x25, x26, x27, x28, x29, x30, x31, x32, x33, x34, x35, x36, x37, x38, x39, x40, x41, x42, x43, x44, x45, x46, x47, x48, x49, x50, x51, .agg #[.int .i64 2, .int .i64 3, .int .i64 3, .int .i64 0, .int .i64 0, .int .i64 0, .int .i64 0], x53, x54, x55, x56, x57, x58, x59, x60, x61, x62, x63, x64, x65, x66, x67, x68, x69, x70, x71, x72, x73, x74, x75, x76, x77, x78, x79, x80, x81, x82, x83, x84, x85, x86, x87, x88, x89, x90, x91, x92, x93, x94, x95, x96, x97, x98, x99, x100, x101, x102, x103, x104, x105, x106, x107, x108, x109, x110, x111], []⟩ W := by
    intro W hb b3 h3 k3
    refine wpAny_ready (rs := [1, 3]) (by kernel_rfl) (by simp) ?_
    refine AllReady.cons ho1 (fun K hK => ?_) (AllReady.cons ho3 (fun K hK => ?_) AllReady.nil)
    · obtain ⟨⟨_, s0, s1, s2, s3, s4, s5, s6⟩, ⟨_, d0, d1, d2, d3, d4, d5, d6⟩⟩ := hR.out W hb
      go_simp
      refine hK _ _ ?_
      exact st0_1_2_ W hb b3 h3 k3
    · go_simp
      refine hK _ _ ?_
      exact st0_2_3_ (W.alloc (.cells #[.int .i64 0, .int .i64 0, .int .i64 0, .int .i64 0, .int .i64 0, .int .i64 0, .int .i64 0] 51)) (gA hb _) b3 h3 (hAn k3) W.heap.size hb.size (heap_alloc_new _ _) (Nat.ne_of_lt (Array.getElem?_eq_some_iff.1 k3).1)
  have st0_3_ : ∀ (W : World) (hb : Below w.heap.size w W) (b4 : Nat) (h4 : w.heap.size ≤ b4) (k4 : W.heap[b4]? = some (.cells #[.int .i64 0, .int .i64 0, .int .i64 0, .int .i64 0, .int .i64 0, .int .i64 0, .int .i64 0] 51)), wpAny Tryz.prog .any opsAw9 Q 4 #[true, false, false, true, false, false] ⟨#[x0, .pointer (some ⟨p1, 0, none⟩), .pointer (some ⟨p2, 0, none⟩), x3, x4, x5, x6, x7, x8, x9, x10, x11, .pointer (some ⟨b4, 0, none⟩), x13, x14, x15, x16, x17, x18, x19, x20, x21, x22, x23, x24, x25, x26, x27, x28, x29, x30, x31, x32, x33, x34, x35, x36, x37, x38, x39, x40, x41, x42, x43, x44, x45, x46, x47, x48, x49, x50, x51, .agg #[.int .i64 2, .int .i64 3, .int .i64 3, .int .i64 0, .int .i64 0, .int .i64 0, .int .i64 0], x53, x54, x55, x56, x57, x58, x59, x60, x61, x62, x63, x64, x65, x66, x67, x68, x69, x70, x71, x72, x73, x74, x75, x76, x77, x78, x79, x80, x81, x82, x83, x84, x85, x86, x87, x88, x89, x90, x91, x92, x93, x94, x95, x96, x97, x98, x99, x100, x101, x102, x103, x104, x105, x106, x107, x108, x109, x110, x111], []⟩ W := by
    intro W hb b4 h4 k4
    refine wpAny_ready (rs := [1, 2]) (by kernel_rfl) (by simp) ?_
    refine AllReady.cons ho1 (fun K hK => ?_) (AllReady.cons ho2 (fun K hK => ?_) AllReady.nil)
    · obtain ⟨⟨_, s0, s1, s2, s3, s4, s5, s6⟩, ⟨_, d0, d1, d2, d3, d4, d5, d6⟩⟩ := hR.out W hb
      go_simp
      refine hK _ _ ?_
      exact st0_1_3_ W hb b4 h4 k4
    · go_simp
      refine hK _ _ ?_
      exact st0_2_3_ (W.alloc (.cells #[.int .i64 0, .int .i64 0, .int .i64 0, .int .i64 0, .int .i64 0, .int .i64 0, .int .i64 0] 51)) (gA hb _) W.heap.size hb.size (heap_alloc_new _ _) b4 h4 (hAn k4) (Nat.ne_of_gt (Array.getElem?_eq_some_iff.1 k4).1)
  have st1_2_ : ∀ (W : World) (hb : Below w.heap.size w W) (b3 : Nat) (h3 : w.heap.size ≤ b3) (k3 : W.heap[b3]? = some (.cells #[.int .i64 0, .int .i64 0, .int .i64 0, .int .i64 0, .int .i64 0, .int .i64 0, .int .i64 0] 51)), wpAny Tryz.prog .any opsAw9 Q 4 #[false, true, true, false, false, false] ⟨#[x0, .pointer (some ⟨p1, 0, none⟩), .pointer (some ⟨p2, 0, none⟩), x3, x4, x5, x6, x7, x8, x9, x10, .pointer (some ⟨b3, 0, none⟩), x12, x13, x14, x15, x16, x17, x18, x19, x20, x21, x22, x23, x24, x25, x26, x27, x28, x29, x30, x31, x32, x33, x34, x35, x36, x37, x38, x39, x40, x41, x42, x43, x44, x45, x46, x47, x48, x49, x50, x51, x52, .agg #[.int .i64 2, .int .i64 1, .int .i64 2, .int .i64 0, .int .i64 0, .int .i64 0, .int .i64 0], x54, x55, x56, x57, x58, x59, x60, x61, x62, x63, x64, x65, x66, x67, x68, x69, x70, x71, x72, x73, x74, x75, x76, x77, x78, x79, x80, x81, x82, x83, x84, x85, x86, x87, x88, x89, x90, x91, x92, x93, x94, x95, x96, x97, x98, x99, x100, x101, x102, x103, x104, x105, x106, x107, x108, x109, x110, x111], []⟩ W := by
    intro W hb b3 h3 k3
    refine wpAny_ready (rs := [0, 3]) (by kernel_rfl) (by simp) ?_
    refine AllReady.cons ho0 (fun K hK => ?_) (AllReady.cons ho3 (fun K hK => ?_) AllReady.nil)
    · obtain ⟨⟨_, s0, s1, s2, s3, s4, s5, s6⟩, ⟨_, d0, d1, d2, d3, d4, d5, d6⟩⟩ := hR.out W hb
      go_simp
      refine hK _ _ ?_
      exact st0_1_2_ W hb b3 h3 k3
    · go_simp
      refine hK _ _ ?_
      exact st1_2_3_ (W.alloc (.cells #[.int .i64 0, .int .i64 0, .int .i64 0, .int .i64 0, .int .i64 0, .int .i64 0, .int .i64 0] 51)) (gA hb _) b3 h3 (hAn k3) W.heap.size hb.size (heap_alloc_new _ _) (Nat.ne_of_lt (Array.getElem?_eq_some_iff.1 k3).1)
  have st1_3_ : ∀ (W : World) (hb : Below w.heap.size w W) (b4 : Nat) (h4 : w.heap.size ≤ b4) (k4 : W.heap[b4]? = some (.cells #[.int .i64 0, .int .i64 0, .int .i64 0, .int .i64 0, .int .i64 0, .int .i64 0, .int .i64 0] 51)), wpAny Tryz.prog .any opsAw9 Q 4 #[false, true, false, true, false, false] ⟨#[x0, .pointer (some ⟨p1, 0, none⟩), .pointer (some ⟨p2, 0, none⟩), x3, x4, x5, x6, x7, x8, x9, x10, x11, .pointer (some ⟨b4, 0, none⟩), x13, x14, x15, x16, x17, x18, x19, x20, x21, x22, x23, x24, x25, x26, x27, x28, x29, x30, x31, x32, x33, x34, x35, x36, x37, x38, x39, x40, x41, x42, x43, x44, x45, x46, x47, x48, x49, x50, x51, x52, .agg #[.int .i64 2, .int .i64 1, .int .i64 2, .int .i64 0, .int .i64 0, .int .i64 0, .int .i64 0], x54, x55, x56, x57, x58, x59, x60, x61, x62, x63, x64, x65, x66, x67, x68, x69, x70, x71, x72, x73, x74, x75, x76, x77, x78, x79, x80, x81, x82, x83, x84, x85, x86, x87, x88, x89, x90, x91, x92, x93, x94, x95, x96, x97, x98, x99, x100, x101, x102, x103, x104, x105, x106, x107, x108, x109, x110, x111], []⟩ W := by
    intro W hb b4 h4 k4
    refine wpAny_ready (rs := [0, 2]) (by kernel_rfl) (by simp) ?_
    refine AllReady.cons ho0 (fun K hK => ?_) (AllReady.cons ho2 (fun K hK => ?_) AllReady.nil)
    · obtain ⟨⟨_, s0, s1, s2, s3, s4, s5, s6⟩, ⟨_, d0, d1, d2, d3, d4, d5, d6⟩⟩ := hR.out W hb
      go_simp
      refine hK _ _ ?_
      exact st0_1_3_ W hb b4 h4 k4
    · go_simp
      refine hK _ _ ?_
      exact st1_2_3_ (W.alloc (.cells #[.int .i64 0, .int .i64 0, .int .i64 0, .int .i64 0, .int .i64 0, .int .i64 0, .int .i64 0] 51)) (gA hb _) W.heap.size hb.size (heap_alloc_new _ _) b4 h4 (hAn k4) (Nat.ne_of_gt (Array.getElem?_eq_some_iff.1 k4).1)
  have st2_3_ : ∀ (W : World) (hb : Below w.heap.size w W) (b3 : Nat) (h3 : w.heap.size ≤ b3) (k3 : W.heap[b3]? = some (.cells #[.int .i64 0, .int .i64 0, .int .i64 0, .int .i64 0, .int .i64 0, .int .i64 0, .int .i64 0] 51)) (b4 : Nat) (h4 : w.heap.size ≤ b4) (k4 : W.heap[b4]? = some (.cells #[.int .i64 0, .int .i64 0, .int .i64 0, .int .i64 0, .int .i64 0, .int .i64 0, .int .i64 0] 51)) (hne : b3 ≠ b4), wpAny Tryz.prog .any opsAw9 Q 4 #[false, false, true, true, false, false] ⟨#[x0, .pointer (some ⟨p1, 0, none⟩), .pointer (some ⟨p2, 0, none⟩), x3, x4, x5, x6, x7, x8, x9, x10, .pointer (some ⟨b3, 0, none⟩), .pointer (some ⟨b4, 0, none⟩), x13, x14, x15, x16, x17, x18, x19, x20, x21, x22, x23, x24, x25, x26, x27, x28, x29, x30, x31, x32, x33, x34, x35, x36, x37, x38, x39, x40, x41, x42, x43, x44, x45, x46, x47, x48, x49, x50, x51, x52, x53, x54, x55, x56, x57, x58, x59, x60, x61, x62, x63, x64, x65, x66, x67, x68, x69, x70, x71, x72, x73, x74, x75, x76, x77, x78, x79, x80, x81, x82, x83, x84, x85, x86, x87, x88, x89, x90, x91, x92, x93, x94, x95, x96, x97, x98, x99, x100, x101, x102, x103, x104, x105, x106, x107, x108, x109, x110, x111], []⟩ W := by
    intro W hb b3 h3 k3 b4 h4 k4 hne
    refine wpAny_ready (rs := [0, 1]) (by kernel_rfl) (by simp) ?_
    refine AllReady.cons ho0 (fun K hK => ?_) (AllReady.cons ho1 (fun K hK => ?_) AllReady.nil)
    · obtain ⟨⟨_, s0, s1, s2, s3, s4, s5, s6⟩, ⟨_, d0, d1, d2, d3, d4, d5, d6⟩⟩ := hR.out W hb
      go_simp
      refine hK _ _ ?_
      exact st0_2_3_ W hb b3 h3 k3 b4 h4 k4 hne
    · obtain ⟨⟨_, s0, s1, s2, s3, s4, s5, s6⟩, ⟨_, d0, d1, d2, d3, d4, d5, d6⟩⟩ := hR.out W hb
      go_simp
      refine hK _ _ ?_
      exact st1_2_3_ W hb b3 h3 k3 b4 h4 k4 hne
  have st0_ : ∀ (W : World) (hb : Below w.heap.size w W), wpAny Tryz.prog .any opsAw9 Q 5 #[true, false, false, false, false, false] ⟨#[x0, .pointer (some ⟨p1, 0, none⟩), .pointer (some ⟨p2, 0, none⟩), x3, x4, x5, x6, x7, x8, x9, x10, x11, x12, x13, x14, x15, x16, x17, x18, x19, x20, x21, x22, x23, x24, x25, x26, x27, x28, x29, x30, x31, x32, x33, x34, x35, x36, x37, x38, x39, x40, x41, x42, x43, x44, x45, x46, x47, x48, x49, x50, x51, .agg #[.int .i64 2, .int .i64 3, .int .i64 3, .int .i64 0, .int .i64 0, .int .i64 0, .int .i64 0], x53, x54, x55, x56, x57, x58, x59, x60, x61, x62, x63, x64, x65, x66, x67, x68, x69, x70, x71, x72, x73, x74, x75, x76, x77, x78, x79, x80, x81, x82, x83, x84, x85, x86, x87, x88, x89, x90, x91, x92, x93, x94, x95, x96, x97, x98, x99, x100, x101, x102, x103, x104, x105, x106, x107, x108, x109, x110, x111], []⟩ W := by
    intro W hb
    refine wpAny_ready (rs := [1, 2, 3]) (by kernel_rfl) (by simp) ?_
    refine AllReady.cons ho1 (fun K hK => ?_) (AllReady.cons ho2 (fun K hK => ?_) (AllReady.cons ho3 (fun K hK => ?_) AllReady.nil))
    · obtain ⟨⟨_, s0, s1, s2, s3, s4, s5, s6⟩, ⟨_, d0, d1, d2, d3, d4, d5, d6⟩⟩ := hR.out W hb
      go_simp
      refine hK _ _ ?_
      exact st0_1_ W hb
    · go_simp
      refine hK _ _ ?_
      exact st0_2_ (W.alloc (.cells #[.int .i64 0, .int .i64 0, .int .i64 0, .int .i64 0, .int .i64 0, .int .i64 0, .int .i64 0] 51)) (gA hb _) W.heap.size hb.size (heap_alloc_new _ _)
    · go_simp
      refine hK _ _ ?_
      exact st0_3_ (W.alloc (.cells #[.int .i64 0, .int .i64 0, .int .i64 0, .int .i64 0, .int .i64 0, .int .i64 0, .int .i64 0] 51)) (gA hb _) W.heap.size hb.size (heap_alloc_new _ _)
  have st1_ : ∀ (W : World) (hb : Below w.heap.size w W), wpAny Tryz.prog .any opsAw9 Q 5 #[false, true, false, false, false, false] ⟨#[x0, .pointer (some ⟨p1, 0, none⟩), .pointer (some ⟨p2, 0, none⟩), x3, x4, x5, x6, x7, x8, x9, x10, x11, x12, x13, x14, x15, x16, x17, x18, x19, x20, x21, x22, x23, x24, x25, x26, x27, x28, x29, x30, x31, x32, x33, x34, x35, x36, x37, x38, x39, x40, x41, x42, x43, x44, x45, x46, x47, x48, x49, x50, x51, x52, .agg #[.int .i64 2, .int .i64 1, .int .i64 2, .int .i64 0, .int .i64 0, .int .i64 0, .int .i64 0], x54, x55, x56, x57, x58, x59, x60, x61, x62, x63, x64, x65, x66, x67, x68, x69, x70, x71, x72, x73, x74, x75, x76, x77, x78, x79, x80, x81, x82, x83, x84, x85, x86, x87, x88, x89, x90, x91, x92, x93, x94, x95, x96, x97, x98, x99, x100, x101, x102, x103, x104, x105, x106, x107, x108, x109, x110, x111], []⟩ W := by
    intro W hb
    refine wpAny_ready (rs := [0, 2, 3]) (by kernel_rfl) (by simp) ?_
    refine AllReady.cons ho0 (fun K hK => ?_) (AllReady.cons ho2 (fun K hK => ?_) (AllReady.cons ho3 (fun K hK => ?_) AllReady.nil))
    · obtain ⟨⟨_, s0, s1, s2, s3, s4, s5, s6⟩, ⟨_, d0, d1, d2, d3, d4, d5, d6⟩⟩ := hR.out W hb
      go_simp
      refine hK _ _ ?_
      exact st0_1_ W hb
    · go_simp
      refine hK _ _ ?_
      exact st1_2_ (W.alloc (.cells #[.int .i64 0, .int .i64 0, .int .i64 0, .int .i64 0, .int .i64 0, .int .i64 0, .int .i64 0] 51)) (gA hb _) W.heap.size hb.size (heap_alloc_new _ _)
    · go_simp
      refine hK _ _ ?_
      exact st1_3_ (W.alloc (.cells #[.int .i64 0, .int .i64 0, .int .i64 0, .int .i64 0, .int .i64 0, .int .i64 0, .int .i64 0] 51)) (gA hb _) W.heap.size hb.size (heap_alloc_new _ _)
  have st2_ : ∀ (W : World) (hb : Below w.heap.size w W) (b3 : Nat) (h3 : w.heap.size ≤ b3) (k3 : W.heap[b3]? = some (.cells #[.int .i64 0, .int .i64 0, .int .i64 0, .int .i64 0, .int .i64 0, .int .i64 0, .int .i64 0] 51)), wpAny Tryz.prog .any opsAw9 Q 5 #[false, false, true, false, false, false] ⟨#[x0, .pointer (some ⟨p1, 0, none⟩), .pointer (some ⟨p2, 0, none⟩), x3, x4, x5, x6, x7, x8, x9, x10, .pointer (some ⟨b3, 0, none⟩), x12, x13, x14, x15, x16, x17, x18, x19, x20, x21, x22, x23, x24, x25, x26, x27, x28, x29, x30, x31, x32, x33, x34, x35, x36, x37, x38, x39, x40, x41, x42, x43, x44, x45, x46, x47, x48, x49, x50, x51, x52, x53, x54, x55, x56, x57, x58, x59, x60, x61, x62, x63, x64, x65, x66, x67, x68, x69, x70, x71, x72, x73, x74, x75, x76, x77, x78, x79, x80, x81, x82, x83, x84, x85, x86, x87, x88, x89, x90, x91, x92, x93, x94, x95, x96, x97, x98, x99, x100, x101, x102, x103, x104, x105, x106, x107, x108, x109, x110, x111], []⟩ W := by
    intro W hb b3 h3 k3
    refine wpAny_ready (rs := [0, 1, 3]) (by kernel_rfl) (by simp) ?_
    refine AllReady.cons ho0 (fun K hK => ?_) (AllReady.cons ho1 (fun K hK => ?_) (AllReady.cons ho3 (fun K hK => ?_) AllReady.nil))
    · obtain ⟨⟨_, s0, s1, s2, s3, s4, s5, s6⟩, ⟨_, d0, d1, d2, d3, d4, d5, d6⟩⟩ := hR.out W hb
      go_simp
      refine hK _ _ ?_
      exact st0_2_ W hb b3 h3 k3
    · obtain ⟨⟨_, s0, s1, s2, s3, s4, s5, s6⟩, ⟨_, d0, d1, d2, d3, d4, d5, d6⟩⟩ := hR.out W hb
      go_simp
      refine hK _ _ ?_
      exact st1_2_ W hb b3 h3 k3
    · go_simp
      refine hK _ _ ?_
      exact st2_3_ (W.alloc (.cells #[.int .i64 0, .int .i64 0, .int .i64 0, .int .i64 0, .int .i64 0, .int .i64 0, .int .i64 0] 51)) (gA hb _) b3 h3 (hAn k3) W.heap.size hb.size (heap_alloc_new _ _) (Nat.ne_of_lt (Array.getElem?_eq_some_iff.1 k3).1)
  have st3_ : ∀ (W : World) (hb : Below w.heap.size w W) (b4 : Nat) (h4 : w.heap.size ≤ b4) (k4 : W.heap[b4]? = some (.cells #[.int .i64 0, .int .i64 0, .int .i64 0, .int .i64 0, .int .i64 0, .int .i64 0, .int .i64 0] 51)), wpAny Tryz.prog .any opsAw9 Q 5 #[false, false, false, true, false, false] ⟨#[x0, .pointer (some ⟨p1, 0, none⟩), .pointer (some ⟨p2, 0, none⟩), x3, x4, x5, x6, x7, x8, x9, x10, x11, .pointer (some ⟨b4, 0, none⟩), x13, x14, x15, x16, x17, x18, x19, x20, x21, x22, x23, x24, x25, x26, x27, x28, x29, x30, x31, x32, x33, x34, x35, x36, x37, x38, x39, x40, x41, x42, x43, x44, x45, x46, x47, x48, x49, x50, x51, x52, x53, x54, x55, x56, x57, x58, x59, x60, x61, x62, x63, x64, x65, x66, x67, x68, x69, x70, x71, x72, x73, x74, x75, x76, x77, x78, x79, x80, x81, x82, x83, x84, x85, x86, x87, x88, x89, x90, x91, x92, x93, x94, x95, x96, x97, x98, x99, x100, x101, x102, x103, x104, x105, x106, x107, x108, x109, x110, x111], []⟩ W := by
    intro W hb b4 h4 k4
    refine wpAny_ready (rs := [0, 1, 2]) (by kernel_rfl) (by simp) ?_
    refine AllReady.cons ho0 (fun K hK => ?_) (AllReady.cons ho1 (fun K hK => ?_) (AllReady.cons ho2 (fun K hK => ?_) AllReady.nil))
    · obtain ⟨⟨_, s0, s1, s2, s3, s4, s5, s6⟩, ⟨_, d0, d1, d2, d3, d4, d5, d6⟩⟩ := hR.out W hb
      go_simp
      refine hK _ _ ?_
      exact st0_3_ W hb b4 h4 k4
    · obtain ⟨⟨_, s0, s1, s2, s3, s4, s5, s6⟩, ⟨_, d0, d1, d2, d3, d4, d5, d6⟩⟩ := hR.out W hb
      go_simp
      refine hK _ _ ?_
      exact st1_3_ W hb b4 h4 k4
    · go_simp
      refine hK _ _ ?_
      exact st2_3_ (W.alloc (.cells #[.int .i64 0, .int .i64 0, .int .i64 0, .int .i64 0, .int .i64 0, .int .i64 0, .int .i64 0] 51)) (gA hb _) W.heap.size hb.size (heap_alloc_new _ _) b4 h4 (hAn k4) (Nat.ne_of_gt (Array.getElem?_eq_some_iff.1 k4).1)
  have st_ : ∀ (W : World) (hb : Below w.heap.size w W), wpAny Tryz.prog .any opsAw9 Q 6 #[false, false, false, false, false, false] ⟨#[x0, .pointer (some ⟨p1, 0, none⟩), .pointer (some ⟨p2, 0, none⟩), x3, x4, x5, x6, x7, x8, x9, x10, x11, x12, x13, x14, x15, x16, x17, x18, x19, x20, x21, x22, x23, x24, x25, x26, x27, x28, x29, x30, x31, x32, x33, x34, x35, x36, x37, x38, x39, x40, x41, x42, x43, x44, x45, x46, x47, x48, x49, x50, x51, x52, x53, x54, x55, x56, x57, x58, x59, x60, x61, x62, x63, x64, x65, x66, x67, x68, x69, x70, x71, x72, x73, x74, x75, x76, x77, x78, x79, x80, x81, x82, x83, x84, x85, x86, x87, x88, x89, x90, x91, x92, x93, x94, x95, x96, x97, x98, x99, x100, x101, x102, x103, x104, x105, x106, x107, x108, x109, x110, x111], []⟩ W := by
    intro W hb
    refine wpAny_ready (rs := [0, 1, 2, 3]) (by kernel_rfl) (by simp) ?_
    refine AllReady.cons ho0 (fun K hK => ?_) (AllReady.cons ho1 (fun K hK => ?_) (AllReady.cons ho2 (fun K hK => ?_) (AllReady.cons ho3 (fun K hK => ?_) AllReady.nil)))
    · obtain ⟨⟨_, s0, s1, s2, s3, s4, s5, s6⟩, ⟨_, d0, d1, d2, d3, d4, d5, d6⟩⟩ := hR.out W hb
      go_simp
      refine hK _ _ ?_
      exact st0_ W hb
    · obtain ⟨⟨_, s0, s1, s2, s3, s4, s5, s6⟩, ⟨_, d0, d1, d2, d3, d4, d5, d6⟩⟩ := hR.out W hb
      go_simp
      refine hK _ _ ?_
      exact st1_ W hb
    · go_simp
      refine hK _ _ ?_
      exact st2_ (W.alloc (.cells #[.int .i64 0, .int .i64 0, .int .i64 0, .int .i64 0, .int .i64 0, .int .i64 0, .int .i64 0] 51)) (gA hb _) W.heap.size hb.size (heap_alloc_new _ _)
    · go_simp
      refine hK _ _ ?_
      exact st3_ (W.alloc (.cells #[.int .i64 0, .int .i64 0, .int .i64 0, .int .i64 0, .int .i64 0, .int .i64 0, .int .i64 0] 51)) (gA hb _) W.heap.size hb.size (heap_alloc_new _ _)
  exact st_ _ (below_drewN (Below.refl _ w) 1)
end Go.Proofs.YtiiiegflobihjaaGreat

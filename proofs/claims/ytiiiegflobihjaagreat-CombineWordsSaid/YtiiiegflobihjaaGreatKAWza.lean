/- Texts of this claim, put together: EL3. -/
import Derived.Test.YtiiiegflobihjaaGreatKAWy

/- awake: region 11 (Then of an adversary with a faulty process) by states. -/
namespace Go.Proofs.YtiiiegflobihjaaGreat
open Go.RowKit

theorem eq_err {m : Int} {xs ys : List (List (List Int))} (h1 : chkA m xs = 0) (h2 : chkA m ys = 0) : eqErr m m xs ys = 0 := by rw [eqErr, h1, h2]; simp
theorem OwAdv.shp {w : World} {v : Value} {n : Int} {ss : List (List (List Int))} {k : Nat} (h : OwAdv w v n ss) (hk : ss.length = k) : ∃ a c, v = .agg #[.int .i64 n, .slice a k c] := by
  obtain ⟨sv, rfl, h1, _⟩ := h
  obtain ⟨a, c, rfl⟩ := h1.shape
  exact ⟨a, c, by rw [hk]⟩
theorem thenEx {W : World} {a5 aB : Option Addr} {c5 cB : Nat} (hA : AdvV W (.agg #[.int .i64 2, .slice a5 1 c5]) 2 (alw1 rdF)) (hB : AdvV W (.agg #[.int .i64 2, .slice aB 1 cB]) 2 (alw1 rdS)) :
    Calls Tryz.prog 15 #[.agg #[.int .i64 2, .slice a5 1 c5], .int .i64 2, .agg #[.int .i64 2, .slice aB 1 cB]] W fun e W' => ∃ a6 c6, e = .returned (.tuple #[.agg #[.int .i64 2, .slice a6 3 c6], .int .i64 0]) ∧ OwAdv W' (.agg #[.int .i64 2, .slice a6 3 c6]) 2 [[rdF ++ [1]], [rdF ++ [2]], [rdH ++ [2]]] ∧ Below W.heap.size W W' := by
  have h := thenGood (k := 2) hA hB (by decide) (by decide) (eq_err chk_F chk_S) (alw_S rfl chk_F) (alw_S rfl chk_S) (by decide)
  rw [ex_fault] at h
  refine h.mono ?_
  rintro e W' ⟨u, rfl, h1, h2⟩
  obtain ⟨a, c, rfl⟩ := h1.shp (k := 3) rfl
  exact ⟨a, c, rfl, h1, h2⟩

def opsAw11 : Array Oper := #[{ dst := some 57, op := Op.load 51 (Operand.tmp 11), type := 51, pos := "law.go:34", after := #[], guard := none }, { dst := some 58, op := Op.call { callee := Callee.value (Operand.func 28), args := #[Operand.tmp 57], argTypes := #[51] }, type := 24, pos := "law.go:34", after := #[{ on := 0, ground := Ground.data }], guard := none }, { dst := some 59, op := Op.load 24 (Operand.tmp 4), type := 24, pos := "law.go:34", after := #[], guard := none }, { dst := some 60, op := Op.call { callee := Callee.value (Operand.func 15), args := #[Operand.tmp 58, Operand.const (Value.int IntKind.i64 2), Operand.tmp 59], argTypes := #[24, 3, 24] }, type := 28, pos := "law.go:34", after := #[{ on := 1, ground := Ground.data }, { on := 2, ground := Ground.data }, { on := 1, ground := Ground.chain }], guard := none }, { dst := some 56, op := Op.move (Operand.tmp 60), type := 28, pos := "law.go:34", after := #[{ on := 3, ground := Ground.data }], guard := none }, { dst := some 61, op := Op.extract (Operand.tmp 56) 0, type := 24, pos := "law.go:34", after := #[{ on := 4, ground := Ground.data }], guard := none }, { dst := some 62, op := Op.extract (Operand.tmp 56) 1, type := 27, pos := "law.go:34", after := #[{ on := 4, ground := Ground.data }, { on := 8, ground := Ground.gcOnly Departure.lateStores }], guard := none }, { dst := some 13, op := Op.alloc 24, type := 0, pos := "law.go:34", after := #[], guard := none }, { dst := none, op := Op.store 24 (Operand.tmp 13) (Operand.tmp 61), type := 0, pos := "law.go:34", after := #[{ on := 7, ground := Ground.data }, { on := 5, ground := Ground.data }, { on := 3, ground := Ground.chain }, { on := 0, ground := Ground.phase }, { on := 1, ground := Ground.phase }, { on := 2, ground := Ground.phase }, { on := 3, ground := Ground.phase }, { on := 4, ground := Ground.phase }, { on := 5, ground := Ground.phase }, { on := 6, ground := Ground.textOnly Departure.lateStores }, { on := 7, ground := Ground.phase }], guard := none }, { dst := some 6, op := Op.assign (Operand.tmp 62), type := 27, pos := "law.go:34", after := #[{ on := 6, ground := Ground.data }, { on := 8, ground := Ground.chain }, { on := 0, ground := Ground.phase }, { on := 1, ground := Ground.phase }, { on := 2, ground := Ground.phase }, { on := 3, ground := Ground.phase }, { on := 4, ground := Ground.phase }, { on := 5, ground := Ground.phase }, { on := 6, ground := Ground.phase }, { on := 7, ground := Ground.phase }, { on := 8, ground := Ground.phase }], guard := none }]
set_option maxRecDepth 100000 in
set_option maxHeartbeats 6400000 in
theorem regAw11 {w : World} {x0 x1 x2 x3 x5 x6 x7 x8 x9 x10 x12 x13 x14 x15 x16 x17 x18 x19 x20 x21 x22 x23 x24 x25 x26 x27 x28 x29 x30 x31 x32 x33 x34 x35 x36 x37 x38 x39 x40 x41 x42 x43 x44 x45 x46 x47 x48 x49 x50 x51 x52 x53 x54 x55 x56 x57 x58 x59 x60 x61 x62 x63 x64 x65 x66 x67 x68 x69 x70 x71 x72 x73 x74 x75 x76 x77 x78 x79 x80 x81 x82 x83 x84 x85 x86 x87 x88 x89 x90 x91 x92 x93 x94 x95 x96 x97 x98 x99 x100 x101 x102 x103 x104 x105 x106 x107 x108 x109 x110 x111 : Value} {Q : Exit → Act → World → Prop} {p1 p2 cB : Nat} {aB : Option Addr}
    (hR : Hid (∀ W, Below w.heap.size w W → (True ∧ W.cell? ⟨p1, 0, none⟩ = some (.int .i64 2) ∧ W.cell? ⟨p1, 1, none⟩ = some (.int .i64 3) ∧ W.cell? ⟨p1, 2, none⟩ = some (.int .i64 3) ∧ W.cell? ⟨p1, 3, none⟩ = some (.int .i64 0) ∧ W.cell? ⟨p1, 4, none⟩ = some (.int .i64 0) ∧ W.cell? ⟨p1, 5, none⟩ = some (.int .i64 0) ∧ W.cell? ⟨p1, 6, none⟩ = some (.int .i64 1)) ∧ W.cell? ⟨p2, 0, none⟩ = some (.int .i64 2) ∧ W.cell? ⟨p2, 1, none⟩ = some (.slice aB 1 cB) ∧ AdvV W (.agg #[.int .i64 2, .slice aB 1 cB]) 2 (alw1 rdS)))
    (h : ∀ (W : World) (_hb : Below w.heap.size w W) (a5 : Option Addr) (c5 : Nat) (_hA : OwAdv W (.agg #[.int .i64 2, .slice a5 1 c5]) 2 (alw1 rdF)) (a6 : Option Addr) (c6 : Nat) (_hB : OwAdv W (.agg #[.int .i64 2, .slice a6 3 c6]) 2 [[rdF ++ [1]], [rdF ++ [2]], [rdH ++ [2]]]) (b3 : Nat) (_h3 : w.heap.size ≤ b3) (_k3 : W.heap[b3]? = some (.cells #[.int .i64 2, .slice a6 3 c6] 24)), Q .normal ⟨#[x0, x1, x2, x3, .pointer (some ⟨p2, 0, none⟩), x5, .int .i64 0, x7, x8, x9, x10, .pointer (some ⟨p1, 0, none⟩), x12, .pointer (some ⟨b3, 0, none⟩), x14, x15, x16, x17, x18, x19, x20, x21, x22, x23, x24, x25, x26, x27, x28, x29, x30, x31, x32, x33, x34, x35, x36, x37, x38, x39, x40, x41, x42, x43, x44, x45, x46, x47, x48, x49, x50, x51, x52, x53, x54, x55, .tuple #[.agg #[.int .i64 2, .slice a6 3 c6], .int .i64 0], .agg #[.int .i64 2, .int .i64 3, .int .i64 3, .int .i64 0, .int .i64 0, .int .i64 0, .int .i64 1], .agg #[.int .i64 2, .slice a5 1 c5], .agg #[.int .i64 2, .slice aB 1 cB], .tuple #[.agg #[.int .i64 2, .slice a6 3 c6], .int .i64 0], .agg #[.int .i64 2, .slice a6 3 c6], .int .i64 0, x63, x64, x65, x66, x67, x68, x69, x70, x71, x72, x73, x74, x75, x76, x77, x78, x79, x80, x81, x82, x83, x84, x85, x86, x87, x88, x89, x90, x91, x92, x93, x94, x95, x96, x97, x98, x99, x100, x101, x102, x103, x104, x105, x106, x107, x108, x109, x110, x111], []⟩ W) :
    (Code.region 11 opsAw11 true).wp Tryz.prog Q ⟨#[x0, x1, x2, x3, .pointer (some ⟨p2, 0, none⟩), x5, x6, x7, x8, x9, x10, .pointer (some ⟨p1, 0, none⟩), x12, x13, x14, x15, x16, x17, x18, x19, x20, x21, x22, x23, x24, x25, x26, x27, x28, x29, x30, x31, x32, x33, x34, x35, x36, x37, x38, x39, x40, x41, x42, x43, x44, x45, x46, x47, x48, x49, x50, x51, x52, x53, x54, x55, x56, x57, x58, x59, x60, x61, x62, x63, x64, x65, x66, x67, x68, x69, x70, x71, x72, x73, x74, x75, x76, x77, x78, x79, x80, x81, x82, x83, x84, x85, x86, x87, x88, x89, x90, x91, x92, x93, x94, x95, x96, x97, x98, x99, x100, x101, x102, x103, x104, x105, x106, x107, x108, x109, x110, x111], []⟩ w := by
  have HC1 := Lib.hid (fun W => alwaysCall (w := W) (r0 := 2) (r1 := 3) (r2 := 3) (r3 := 0) (r4 := 0) (r5 := 0) (r6 := 1))
  have ho0 : opsAw11[0]? = some { dst := some 57, op := Op.load 51 (Operand.tmp 11), type := 51, pos := "law.go:34", after := #[], guard := none } := rfl
  have ho1 : opsAw11[1]? = some { dst := some 58, op := Op.call { callee := Callee.value (Operand.func 28), args := #[Operand.tmp 57], argTypes := #[51] }, type := 24, pos := "law.go:34", after := #[{ on := 0, ground := Ground.data }], guard := none } := rfl
  have ho2 : opsAw11[2]? = some { dst := some 59, op := Op.load 24 (Operand.tmp 4), type := 24, pos := "law.go:34", after := #[], guard := none } := rfl
  have ho3 : opsAw11[3]? = some { dst := some 60, op := Op.call { callee := Callee.value (Operand.func 15), args := #[Operand.tmp 58, Operand.const (Value.int IntKind.i64 2), Operand.tmp 59], argTypes := #[24, 3, 24] }, type := 28, pos := "law.go:34", after := #[{ on := 1, ground := Ground.data }, { on := 2, ground := Ground.data }, { on := 1, ground := Ground.chain }], guard := none } := rfl
  have ho4 : opsAw11[4]? = some { dst := some 56, op := Op.move (Operand.tmp 60), type := 28, pos := "law.go:34", after := #[{ on := 3, ground := Ground.data }], guard := none } := rfl
  have ho5 : opsAw11[5]? = some { dst := some 61, op := Op.extract (Operand.tmp 56) 0, type := 24, pos := "law.go:34", after := #[{ on := 4, ground := Ground.data }], guard := none } := rfl
  have ho6 : opsAw11[6]? = some { dst := some 62, op := Op.extract (Operand.tmp 56) 1, type := 27, pos := "law.go:34", after := #[{ on := 4, ground := Ground.data }, { on := 8, ground := Ground.gcOnly Departure.lateStores }], guard := none } := rfl
  have ho7 : opsAw11[7]? = some { dst := some 13, op := Op.alloc 24, type := 0, pos := "law.go:34", after := #[], guard := none } := rfl
  have ho8 : opsAw11[8]? = some { dst := none, op := Op.store 24 (Operand.tmp 13) (Operand.tmp 61), type := 0, pos := "law.go:34", after := #[{ on := 7, ground := Ground.data }, { on := 5, ground := Ground.data }, { on := 3, ground := Ground.chain }, { on := 0, ground := Ground.phase }, { on := 1, ground := Ground.phase }, { on := 2, ground := Ground.phase }, { on := 3, ground := Ground.phase }, { on := 4, ground := Ground.phase }, { on := 5, ground := Ground.phase }, { on := 6, ground := Ground.textOnly Departure.lateStores }, { on := 7, ground := Ground.phase }], guard := none } := rfl
  have ho9 : opsAw11[9]? = some { dst := some 6, op := Op.assign (Operand.tmp 62), type := 27, pos := "law.go:34", after := #[{ on := 6, ground := Ground.data }, { on := 8, ground := Ground.chain }, { on := 0, ground := Ground.phase }, { on := 1, ground := Ground.phase }, { on := 2, ground := Ground.phase }, { on := 3, ground := Ground.phase }, { on := 4, ground := Ground.phase }, { on := 5, ground := Ground.phase }, { on := 6, ground := Ground.phase }, { on := 7, ground := Ground.phase }, { on := 8, ground := Ground.phase }], guard := none } := rfl
  refine wp_region_any (by kernel_rfl) ?_
  have st0_1_2_3_4_5_6_7_8_9_ : ∀ (W : World) (hb : Below w.heap.size w W) (a5 : Option Addr) (c5 : Nat) (hA : OwAdv W (.agg #[.int .i64 2, .slice a5 1 c5]) 2 (alw1 rdF)) (a6 : Option Addr) (c6 : Nat) (hB : OwAdv W (.agg #[.int .i64 2, .slice a6 3 c6]) 2 [[rdF ++ [1]], [rdF ++ [2]], [rdH ++ [2]]]) (b3 : Nat) (h3 : w.heap.size ≤ b3) (k3 : W.heap[b3]? = some (.cells #[.int .i64 2, .slice a6 3 c6] 24)), wpAny Tryz.prog .any opsAw11 Q 0 #[true, true, true, true, true, true, true, true, true, true] ⟨#[x0, x1, x2, x3, .pointer (some ⟨p2, 0, none⟩), x5, .int .i64 0, x7, x8, x9, x10, .pointer (some ⟨p1, 0, none⟩), x12, .pointer (some ⟨b3, 0, none⟩), x14, x15, x16, x17, x18, x19, x20, x21, x22, x23, x24, x25, x26, x27, x28, x29, x30, x31, x32, x33, x34, x35, x36, x37, x38, x39, x40, x41, x42, x43, x44, x45, x46, x47, x48, x49, x50, x51, x52, x53, x54, x55, .tuple #[.agg #[.int .i64 2, .slice a6 3 c6], .int .i64 0], .agg #[.int .i64 2, .int .i64 3, .int .i64 3, .int .i64 0, .int .i64 0, .int .i64 0, .int .i64 1], .agg #[.int .i64 2, .slice a5 1 c5], .agg #[.int .i64 2, .slice aB 1 cB], .tuple #[.agg #[.int .i64 2, .slice a6 3 c6], .int .i64 0], .agg #[.int .i64 2, .slice a6 3 c6], .int .i64 0, x63, x64, x65, x66, x67, x68, x69, x70, x71, x72, x73, x74, x75, x76, x77, x78, x79, x80, x81, x82, x83, x84, x85, x86, x87, x88, x89, x90, x91, x92, x93, x94, x95, x96, x97, x98, x99, x100, x101, x102, x103, x104, x105, x106, x107, x108, x109, x110, x111], []⟩ W := by
    intro W hb a5 c5 hA a6 c6 hB b3 h3 k3
    exact ⟨by kernel_rfl, h _ hb a5 c5 hA a6 c6 hB b3 h3 k3⟩
  have st0_1_2_3_4_5_6_7_8_ : ∀ (W : World) (hb : Below w.heap.size w W) (a5 : Option Addr) (c5 : Nat) (hA : OwAdv W (.agg #[.int .i64 2, .slice a5 1 c5]) 2 (alw1 rdF)) (a6 : Option Addr) (c6 : Nat) (hB : OwAdv W (.agg #[.int .i64 2, .slice a6 3 c6]) 2 [[rdF ++ [1]], [rdF ++ [2]], [rdH ++ [2]]]) (b3 : Nat) (h3 : w.heap.size ≤ b3) (k3 : W.heap[b3]? = some (.cells #[.int .i64 2, .slice a6 3 c6] 24)), wpAny Tryz.prog .any opsAw11 Q 1 #[true, true, true, true, true, true, true, true, true, false] ⟨#[x0, x1, x2, x3, .pointer (some ⟨p2, 0, none⟩), x5, x6, x7, x8, x9, x10, .pointer (some ⟨p1, 0, none⟩), x12, .pointer (some ⟨b3, 0, none⟩), x14, x15, x16, x17, x18, x19, x20, x21, x22, x23, x24, x25, x26, x27, x28, x29, x30, x31, x32, x33, x34, x35, x36, x37, x38, x39, x40, x41, x42, x43, x44, x45, x46, x47, x48, x49, x50, x51, x52, x53, x54, x55, .tuple #[.agg #[.int .i64 2, .slice a6 3 c6], .int .i64 0], .agg #[.int .i64 2, .int .i64 3, .int .i64 3, .int .i64 0, .int .i64 0, .int .i64 0, .int .i64 1], .agg #[.int .i64 2, .slice a5 1 c5], .agg #[.int .i64 2, .slice aB 1 cB], .tuple #[.agg #[.int .i64 2, .slice a6 3 c6], .int .i64 0], .agg #[.int .i64 2, .slice a6 3 c6], .int .i64 0, x63, x64, x65, x66, x67, x68, x69, x70, x71, x72, x73, x74, x75, x76, x77, x78, x79, x80, x81, x82, x83, x84, x85, x86, x87, x88, x89, x90, x91, x92, x93, x94, x95, x96, x97, x98, x99, x100, x101, x102, x103, x104, x105, x106, x107, x108, x109, x110, x111], []⟩ W := by
    intro W hb a5 c5 hA a6 c6 hB b3 h3 k3
    refine wpAny_ready (rs := [9]) (by kernel_rfl) (by simp) ?_
    refine AllReady.cons ho9 (fun K hK => ?_) AllReady.nil
    · go_simp
      refine hK _ _ ?_
      exact st0_1_2_3_4_5_6_7_8_9_ W hb a5 c5 hA a6 c6 hB b3 h3 k3
  have st0_1_2_3_4_5_6_7_ : ∀ (W : World) (hb : Below w.heap.size w W) (a5 : Option Addr) (c5 : Nat) (hA : OwAdv W (.agg #[.int .i64 2, .slice a5 1 c5]) 2 (alw1 rdF)) (a6 : Option Addr) (c6 : Nat) (hB : OwAdv W (.agg #[.int .i64 2, .slice a6 3 c6]) 2 [[rdF ++ [1]], [rdF ++ [2]], [rdH ++ [2]]]) (b3 : Nat) (h3 : w.heap.size ≤ b3) (k3 : BxZ W b3), wpAny Tryz.prog .any opsAw11 Q 2 #[true, true, true, true, true, true, true, true, false, false] ⟨#[x0, x1, x2, x3, .pointer (some ⟨p2, 0, none⟩), x5, x6, x7, x8, x9, x10, .pointer (some ⟨p1, 0, none⟩), x12, .pointer (some ⟨b3, 0, none⟩), x14, x15, x16, x17, x18, x19, x20, x21, x22, x23, x24, x25, x26, x27, x28, x29, x30, x31, x32, x33, x34, x35, x36, x37, x38, x39, x40, x41, x42, x43, x44, x45, x46, x47, x48, x49, x50, x51, x52, x53, x54, x55, .tuple #[.agg #[.int .i64 2, .slice a6 3 c6], .int .i64 0], .agg #[.int .i64 2, .int .i64 3, .int .i64 3, .int .i64 0, .int .i64 0, .int .i64 0, .int .i64 1], .agg #[.int .i64 2, .slice a5 1 c5], .agg #[.int .i64 2, .slice aB 1 cB], .tuple #[.agg #[.int .i64 2, .slice a6 3 c6], .int .i64 0], .agg #[.int .i64 2, .slice a6 3 c6], .int .i64 0, x63, x64, x65, x66, x67, x68, x69, x70, x71, x72, x73, x74, x75, x76, x77, x78, x79, x80, x81, x82, x83, x84, x85, x86, x87, x88, x89, x90, x91, x92, x93, x94, x95, x96, x97, x98, x99, x100, x101, x102, x103, x104, x105, x106, x107, x108, x109, x110, x111], []⟩ W := by
    intro W hb a5 c5 hA a6 c6 hB b3 h3 k3
    refine wpAny_ready (rs := [8]) (by kernel_rfl) (by simp) ?_
    refine AllReady.cons ho8 (fun K hK => ?_) AllReady.nil
    · obtain ⟨y0, y1, yf⟩ := BxZ.f k3
      go_simp
      refine hK _ _ ?_
      exact st0_1_2_3_4_5_6_7_8_ ((W.setCell ⟨b3, 0, none⟩ (.int .i64 2)).setCell ⟨b3, 1, none⟩ (.slice a6 3 c6)) (gS (gS hb h3 0 (.int .i64 2)) h3 1 (.slice a6 3 c6)) a5 c5 (hA.other ((KeepX.setCell (p := ⟨b3, 0, none⟩) k3 (.int .i64 2)).trans (KeepX.setCell (p := ⟨b3, 1, none⟩) (hS0 (u := .int .i64 2) k3) (.slice a6 3 c6)))) a6 c6 (hB.other ((KeepX.setCell (p := ⟨b3, 0, none⟩) k3 (.int .i64 2)).trans (KeepX.setCell (p := ⟨b3, 1, none⟩) (hS0 (u := .int .i64 2) k3) (.slice a6 3 c6)))) b3 h3 (boxSet2' (u := .int .i64 2) (v := .slice a6 3 c6) k3)
  have st0_1_2_3_4_5_7_8_ : ∀ (W : World) (hb : Below w.heap.size w W) (a5 : Option Addr) (c5 : Nat) (hA : OwAdv W (.agg #[.int .i64 2, .slice a5 1 c5]) 2 (alw1 rdF)) (a6 : Option Addr) (c6 : Nat) (hB : OwAdv W (.agg #[.int .i64 2, .slice a6 3 c6]) 2 [[rdF ++ [1]], [rdF ++ [2]], [rdH ++ [2]]]) (b3 : Nat) (h3 : w.heap.size ≤ b3) (k3 : W.heap[b3]? = some (.cells #[.int .i64 2, .slice a6 3 c6] 24)), wpAny Tryz.prog .any opsAw11 Q 2 #[true, true, true, true, true, true, false, true, true, false] ⟨#[x0, x1, x2, x3, .pointer (some ⟨p2, 0, none⟩), x5, x6, x7, x8, x9, x10, .pointer (some ⟨p1, 0, none⟩), x12, .pointer (some ⟨b3, 0, none⟩), x14, x15, x16, x17, x18, x19, x20, x21, x22, x23, x24, x25, x26, x27, x28, x29, x30, x31, x32, x33, x34, x35, x36, x37, x38, x39, x40, x41, x42, x43, x44, x45, x46, x47, x48, x49, x50, x51, x52, x53, x54, x55, .tuple #[.agg #[.int .i64 2, .slice a6 3 c6], .int .i64 0], .agg #[.int .i64 2, .int .i64 3, .int .i64 3, .int .i64 0, .int .i64 0, .int .i64 0, .int .i64 1], .agg #[.int .i64 2, .slice a5 1 c5], .agg #[.int .i64 2, .slice aB 1 cB], .tuple #[.agg #[.int .i64 2, .slice a6 3 c6], .int .i64 0], .agg #[.int .i64 2, .slice a6 3 c6], x62, x63, x64, x65, x66, x67, x68, x69, x70, x71, x72, x73, x74, x75, x76, x77, x78, x79, x80, x81, x82, x83, x84, x85, x86, x87, x88, x89, x90, x91, x92, x93, x94, x95, x96, x97, x98, x99, x100, x101, x102, x103, x104, x105, x106, x107, x108, x109, x110, x111], []⟩ W := by
    intro W hb a5 c5 hA a6 c6 hB b3 h3 k3
    refine wpAny_ready (rs := [6]) (by kernel_rfl) (by simp) ?_
    refine AllReady.cons ho6 (fun K hK => ?_) AllReady.nil
    · go_simp
      refine hK _ _ ?_
      exact st0_1_2_3_4_5_6_7_8_ W hb a5 c5 hA a6 c6 hB b3 h3 k3
  have st0_1_2_3_4_5_6_ : ∀ (W : World) (hb : Below w.heap.size w W) (a5 : Option Addr) (c5 : Nat) (hA : OwAdv W (.agg #[.int .i64 2, .slice a5 1 c5]) 2 (alw1 rdF)) (a6 : Option Addr) (c6 : Nat) (hB : OwAdv W (.agg #[.int .i64 2, .slice a6 3 c6]) 2 [[rdF ++ [1]], [rdF ++ [2]], [rdH ++ [2]]]), wpAny Tryz.prog .any opsAw11 Q 3 #[true, true, true, true, true, true, true, false, false, false] ⟨#[x0, x1, x2, x3, .pointer (some ⟨p2, 0, none⟩), x5, x6, x7, x8, x9, x10, .pointer (some ⟨p1, 0, none⟩), x12, x13, x14, x15, x16, x17, x18, x19, x20, x21, x22, x23, x24, x25, x26, x27, x28, x29, x30, x31, x32, x33, x34, x35, x36, x37, x38, x39, x40, x41, x42, x43, x44, x45, x46, x47, x48, x49, x50, x51, x52, x53, x54, x55, .tuple #[.agg #[.int .i64 2, .slice a6 3 c6], .int .i64 0], .agg #[.int .i64 2, .int .i64 3, .int .i64 3, .int .i64 0, .int .i64 0, .int .i64 0, .int .i64 1], .agg #[.int .i64 2, .slice a5 1 c5], .agg #[.int .i64 2, .slice aB 1 cB], .tuple #[.agg #[.int .i64 2, .slice a6 3 c6], .int .i64 0], .agg #[.int .i64 2, .slice a6 3 c6], .int .i64 0, x63, x64, x65, x66, x67, x68, x69, x70, x71, x72, x73, x74, x75, x76, x77, x78, x79, x80, x81, x82, x83, x84, x85, x86, x87, x88, x89, x90, x91, x92, x93, x94, x95, x96, x97, x98, x99, x100, x101, x102, x103, x104, x105, x106, x107, x108, x109, x110, x111], []⟩ W := by
    intro W hb a5 c5 hA a6 c6 hB
    refine wpAny_ready (rs := [7]) (by kernel_rfl) (by simp) ?_
    refine AllReady.cons ho7 (fun K hK => ?_) AllReady.nil
    · go_simp
      refine hK _ _ ?_
      exact st0_1_2_3_4_5_6_7_ (W.alloc (.cells #[.int .i64 0, .slice none 0 0] 24)) (gA hb _) a5 c5 (hA.keep (gA (Below.refl _ _) _)) a6 c6 (hB.keep (gA (Below.refl _ _) _)) W.heap.size hb.size (heap_alloc_new _ _)
  have st0_1_2_3_4_5_7_ : ∀ (W : World) (hb : Below w.heap.size w W) (a5 : Option Addr) (c5 : Nat) (hA : OwAdv W (.agg #[.int .i64 2, .slice a5 1 c5]) 2 (alw1 rdF)) (a6 : Option Addr) (c6 : Nat) (hB : OwAdv W (.agg #[.int .i64 2, .slice a6 3 c6]) 2 [[rdF ++ [1]], [rdF ++ [2]], [rdH ++ [2]]]) (b3 : Nat) (h3 : w.heap.size ≤ b3) (k3 : BxZ W b3), wpAny Tryz.prog .any opsAw11 Q 3 #[true, true, true, true, true, true, false, true, false, false] ⟨#[x0, x1, x2, x3, .pointer (some ⟨p2, 0, none⟩), x5, x6, x7, x8, x9, x10, .pointer (some ⟨p1, 0, none⟩), x12, .pointer (some ⟨b3, 0, none⟩), x14, x15, x16, x17, x18, x19, x20, x21, x22, x23, x24, x25, x26, x27, x28, x29, x30, x31, x32, x33, x34, x35, x36, x37, x38, x39, x40, x41, x42, x43, x44, x45, x46, x47, x48, x49, x50, x51, x52, x53, x54, x55, .tuple #[.agg #[.int .i64 2, .slice a6 3 c6], .int .i64 0], .agg #[.int .i64 2, .int .i64 3, .int .i64 3, .int .i64 0, .int .i64 0, .int .i64 0, .int .i64 1], .agg #[.int .i64 2, .slice a5 1 c5], .agg #[.int .i64 2, .slice aB 1 cB], .tuple #[.agg #[.int .i64 2, .slice a6 3 c6], .int .i64 0], .agg #[.int .i64 2, .slice a6 3 c6], x62, x63, x64, x65, x66, x67, x68, x69, x70, x71, x72, x73, x74, x75, x76, x77, x78, x79, x80, x81, x82, x83, x84, x85, x86, x87, x88, x89, x90, x91, x92, x93, x94, x95, x96, x97, x98, x99, x100, x101, x102, x103, x104, x105, x106, x107, x108, x109, x110, x111], []⟩ W := by
    intro W hb a5 c5 hA a6 c6 hB b3 h3 k3
    refine wpAny_ready (rs := [6, 8]) (by kernel_rfl) (by simp) ?_
    refine AllReady.cons ho6 (fun K hK => ?_) (AllReady.cons ho8 (fun K hK => ?_) AllReady.nil)
    · go_simp
      refine hK _ _ ?_
      exact st0_1_2_3_4_5_6_7_ W hb a5 c5 hA a6 c6 hB b3 h3 k3
    · obtain ⟨y0, y1, yf⟩ := BxZ.f k3
      go_simp
      refine hK _ _ ?_
      exact st0_1_2_3_4_5_7_8_ ((W.setCell ⟨b3, 0, none⟩ (.int .i64 2)).setCell ⟨b3, 1, none⟩ (.slice a6 3 c6)) (gS (gS hb h3 0 (.int .i64 2)) h3 1 (.slice a6 3 c6)) a5 c5 (hA.other ((KeepX.setCell (p := ⟨b3, 0, none⟩) k3 (.int .i64 2)).trans (KeepX.setCell (p := ⟨b3, 1, none⟩) (hS0 (u := .int .i64 2) k3) (.slice a6 3 c6)))) a6 c6 (hB.other ((KeepX.setCell (p := ⟨b3, 0, none⟩) k3 (.int .i64 2)).trans (KeepX.setCell (p := ⟨b3, 1, none⟩) (hS0 (u := .int .i64 2) k3) (.slice a6 3 c6)))) b3 h3 (boxSet2' (u := .int .i64 2) (v := .slice a6 3 c6) k3)
  have st0_1_2_3_4_6_7_ : ∀ (W : World) (hb : Below w.heap.size w W) (a5 : Option Addr) (c5 : Nat) (hA : OwAdv W (.agg #[.int .i64 2, .slice a5 1 c5]) 2 (alw1 rdF)) (a6 : Option Addr) (c6 : Nat) (hB : OwAdv W (.agg #[.int .i64 2, .slice a6 3 c6]) 2 [[rdF ++ [1]], [rdF ++ [2]], [rdH ++ [2]]]) (b3 : Nat) (h3 : w.heap.size ≤ b3) (k3 : BxZ W b3), wpAny Tryz.prog .any opsAw11 Q 3 #[true, true, true, true, true, false, true, true, false, false] ⟨#[x0, x1, x2, x3, .pointer (some ⟨p2, 0, none⟩), x5, x6, x7, x8, x9, x10, .pointer (some ⟨p1, 0, none⟩), x12, .pointer (some ⟨b3, 0, none⟩), x14, x15, x16, x17, x18, x19, x20, x21, x22, x23, x24, x25, x26, x27, x28, x29, x30, x31, x32, x33, x34, x35, x36, x37, x38, x39, x40, x41, x42, x43, x44, x45, x46, x47, x48, x49, x50, x51, x52, x53, x54, x55, .tuple #[.agg #[.int .i64 2, .slice a6 3 c6], .int .i64 0], .agg #[.int .i64 2, .int .i64 3, .int .i64 3, .int .i64 0, .int .i64 0, .int .i64 0, .int .i64 1], .agg #[.int .i64 2, .slice a5 1 c5], .agg #[.int .i64 2, .slice aB 1 cB], .tuple #[.agg #[.int .i64 2, .slice a6 3 c6], .int .i64 0], x61, .int .i64 0, x63, x64, x65, x66, x67, x68, x69, x70, x71, x72, x73, x74, x75, x76, x77, x78, x79, x80, x81, x82, x83, x84, x85, x86, x87, x88, x89, x90, x91, x92, x93, x94, x95, x96, x97, x98, x99, x100, x101, x102, x103, x104, x105, x106, x107, x108, x109, x110, x111], []⟩ W := by
    intro W hb a5 c5 hA a6 c6 hB b3 h3 k3
    refine wpAny_ready (rs := [5]) (by kernel_rfl) (by simp) ?_
    refine AllReady.cons ho5 (fun K hK => ?_) AllReady.nil
    · go_simp
      refine hK _ _ ?_
      exact st0_1_2_3_4_5_6_7_ W hb a5 c5 hA a6 c6 hB b3 h3 k3
  have st0_1_2_3_4_5_ : ∀ (W : World) (hb : Below w.heap.size w W) (a5 : Option Addr) (c5 : Nat) (hA : OwAdv W (.agg #[.int .i64 2, .slice a5 1 c5]) 2 (alw1 rdF)) (a6 : Option Addr) (c6 : Nat) (hB : OwAdv W (.agg #[.int .i64 2, .slice a6 3 c6]) 2 [[rdF ++ [1]], [rdF ++ [2]], [rdH ++ [2]]]), wpAny Tryz.prog .any opsAw11 Q 4 #[true, true, true, true, true, true, false, false, false, false] ⟨#[x0, x1, x2, x3, .pointer (some ⟨p2, 0, none⟩), x5, x6, x7, x8, x9, x10, .pointer (some ⟨p1, 0, none⟩), x12, x13, x14, x15, x16, x17, x18, x19, x20, x21, x22, x23, x24, x25, x26, x27, x28, x29, x30, x31, x32, x33, x34, x35, x36, x37, x38, x39, x40, x41, x42, x43, x44, x45, x46, x47, x48, x49, x50, x51, x52, x53, x54, x55, .tuple #[.agg #[.int .i64 2, .slice a6 3 c6], .int .i64 0], .agg #[.int .i64 2, .int .i64 3, .int .i64 3, .int .i64 0, .int .i64 0, .int .i64 0, .int .i64 1], .agg #[.int .i64 2, .slice a5 1 c5], .agg #[.int .i64 2, .slice aB 1 cB], .tuple #[.agg #[.int .i64 2, .slice a6 3 c6], .int .i64 0], .agg #[.int .i64 2, .slice a6 3 c6], x62, x63, x64, x65, x66, x67, x68, x69, x70, x71, x72, x73, x74, x75, x76, x77, x78, x79, x80, x81, x82, x83, x84, x85, x86, x87, x88, x89, x90, x91, x92, x93, x94, x95, x96, x97, x98, x99, x100, x101, x102, x103, x104, x105, x106, x107, x108, x109, x110, x111], []⟩ W := by
    intro W hb a5 c5 hA a6 c6 hB
    refine wpAny_ready (rs := [6, 7]) (by kernel_rfl) (by simp) ?_
    refine AllReady.cons ho6 (fun K hK => ?_) (AllReady.cons ho7 (fun K hK => ?_) AllReady.nil)
    · go_simp
      refine hK _ _ ?_
      exact st0_1_2_3_4_5_6_ W hb a5 c5 hA a6 c6 hB
    · go_simp
      refine hK _ _ ?_
      exact st0_1_2_3_4_5_7_ (W.alloc (.cells #[.int .i64 0, .slice none 0 0] 24)) (gA hb _) a5 c5 (hA.keep (gA (Below.refl _ _) _)) a6 c6 (hB.keep (gA (Below.refl _ _) _)) W.heap.size hb.size (heap_alloc_new _ _)
  have st0_1_2_3_4_6_ : ∀ (W : World) (hb : Below w.heap.size w W) (a5 : Option Addr) (c5 : Nat) (hA : OwAdv W (.agg #[.int .i64 2, .slice a5 1 c5]) 2 (alw1 rdF)) (a6 : Option Addr) (c6 : Nat) (hB : OwAdv W (.agg #[.int .i64 2, .slice a6 3 c6]) 2 [[rdF ++ [1]], [rdF ++ [2]], [rdH ++ [2]]]), wpAny Tryz.prog .any opsAw11 Q 4 #[true, true, true, true, true, false, true, false, false, false] ⟨#[x0, x1, x2, x3, .pointer (some ⟨p2, 0, none⟩), x5, x6, x7, x8, x9, x10, .pointer (some ⟨p1, 0, none⟩), x12, x13, x14, x15, x16, x17, x18, x19, x20, x21, x22, x23, x24, x25, x26, x27, x28, x29, x30, x31, x32, x33, x34, x35, x36, x37, x38, x39, x40, x41, x42, x43, x44, x45, x46, x47, x48, x49, x50, x51, x52, x53, x54, x55, .tuple #[.agg #[.int .i64 2, .slice a6 3 c6], .int .i64 0], .agg #[.int .i64 2, .int .i64 3, .int .i64 3, .int .i64 0, .int .i64 0, .int .i64 0, .int .i64 1], .agg #[.int .i64 2, .slice a5 1 c5], .agg #[.int .i64 2, .slice aB 1 cB], .tuple #[.agg #[.int .i64 2, .slice a6 3 c6], .int .i64 0], x61, .int .i64 0, x63, x64, x65, x66, x67, x68, x69, x70, x71, x72, x73, x74, x75, x76, x77, x78, x79, x80, x81, x82, x83, x84, x85, x86, x87, x88, x89, x90, x91, x92, x93, x94, x95, x96, x97, x98, x99, x100, x101, x102, x103, x104, x105, x106, x107, x108, x109, x110, x111], []⟩ W := by
    intro W hb a5 c5 hA a6 c6 hB
    refine wpAny_ready (rs := [5, 7]) (by kernel_rfl) (by simp) ?_
    refine AllReady.cons ho5 (fun K hK => ?_) (AllReady.cons ho7 (fun K hK => ?_) AllReady.nil)
    · go_simp
      refine hK _ _ ?_
      exact st0_1_2_3_4_5_6_ W hb a5 c5 hA a6 c6 hB
    · go_simp
      refine hK _ _ ?_
      exact st0_1_2_3_4_6_7_ (W.alloc (.cells #[.int .i64 0, .slice none 0 0] 24)) (gA hb _) a5 c5 (hA.keep (gA (Below.refl _ _) _)) a6 c6 (hB.keep (gA (Below.refl _ _) _)) W.heap.size hb.size (heap_alloc_new _ _)
  have st0_1_2_3_4_7_ : ∀ (W : World) (hb : Below w.heap.size w W) (a5 : Option Addr) (c5 : Nat) (hA : OwAdv W (.agg #[.int .i64 2, .slice a5 1 c5]) 2 (alw1 rdF)) (a6 : Option Addr) (c6 : Nat) (hB : OwAdv W (.agg #[.int .i64 2, .slice a6 3 c6]) 2 [[rdF ++ [1]], [rdF ++ [2]], [rdH ++ [2]]]) (b3 : Nat) (h3 : w.heap.size ≤ b3) (k3 : BxZ W b3), wpAny Tryz.prog .any opsAw11 Q 4 #[true, true, true, true, true, false, false, true, false, false] ⟨#[x0, x1, x2, x3, .pointer (some ⟨p2, 0, none⟩), x5, x6, x7, x8, x9, x10, .pointer (some ⟨p1, 0, none⟩), x12, .pointer (some ⟨b3, 0, none⟩), x14, x15, x16, x17, x18, x19, x20, x21, x22, x23, x24, x25, x26, x27, x28, x29, x30, x31, x32, x33, x34, x35, x36, x37, x38, x39, x40, x41, x42, x43, x44, x45, x46, x47, x48, x49, x50, x51, x52, x53, x54, x55, .tuple #[.agg #[.int .i64 2, .slice a6 3 c6], .int .i64 0], .agg #[.int .i64 2, .int .i64 3, .int .i64 3, .int .i64 0, .int .i64 0, .int .i64 0, .int .i64 1], .agg #[.int .i64 2, .slice a5 1 c5], .agg #[.int .i64 2, .slice aB 1 cB], .tuple #[.agg #[.int .i64 2, .slice a6 3 c6], .int .i64 0], x61, x62, x63, x64, x65, x66, x67, x68, x69, x70, x71, x72, x73, x74, x75, x76, x77, x78, x79, x80, x81, x82, x83, x84, x85, x86, x87, x88, x89, x90, x91, x92, x93, x94, x95, x96, x97, x98, x99, x100, x101, x102, x103, x104, x105, x106, x107, x108, x109, x110, x111], []⟩ W := by
    intro W hb a5 c5 hA a6 c6 hB b3 h3 k3
    refine wpAny_ready (rs := [5, 6]) (by kernel_rfl) (by simp) ?_
    refine AllReady.cons ho5 (fun K hK => ?_) (AllReady.cons ho6 (fun K hK => ?_) AllReady.nil)
    · go_simp
      refine hK _ _ ?_
      exact st0_1_2_3_4_5_7_ W hb a5 c5 hA a6 c6 hB b3 h3 k3
    · go_simp
      refine hK _ _ ?_
      exact st0_1_2_3_4_6_7_ W hb a5 c5 hA a6 c6 hB b3 h3 k3
  have st0_1_2_3_4_ : ∀ (W : World) (hb : Below w.heap.size w W) (a5 : Option Addr) (c5 : Nat) (hA : OwAdv W (.agg #[.int .i64 2, .slice a5 1 c5]) 2 (alw1 rdF)) (a6 : Option Addr) (c6 : Nat) (hB : OwAdv W (.agg #[.int .i64 2, .slice a6 3 c6]) 2 [[rdF ++ [1]], [rdF ++ [2]], [rdH ++ [2]]]), wpAny Tryz.prog .any opsAw11 Q 5 #[true, true, true, true, true, false, false, false, false, false] ⟨#[x0, x1, x2, x3, .pointer (some ⟨p2, 0, none⟩), x5, x6, x7, x8, x9, x10, .pointer (some ⟨p1, 0, none⟩), x12, x13, x14, x15, x16, x17, x18, x19, x20, x21, x22, x23, x24, x25, x26, x27, x28, x29, x30, x31, x32, x33, x34, x35, x36, x37, x38, x39, x40, x41, x42, x43, x44, x45, x46, x47, x48, x49, x50, x51, x52, x53, x54, x55, .tuple #[.agg #[.int .i64 2, .slice a6 3 c6], .int .i64 0], .agg #[.int .i64 2, .int .i64 3, .int .i64 3, .int .i64 0, .int .i64 0, .int .i64 0, .int .i64 1], .agg #[.int .i64 2, .slice a5 1 c5], .agg #[.int .i64 2, .slice aB 1 cB], .tuple #[.agg #[.int .i64 2, .slice a6 3 c6], .int .i64 0], x61, x62, x63, x64, x65, x66, x67, x68, x69, x70, x71, x72, x73, x74, x75, x76, x77, x78, x79, x80, x81, x82, x83, x84, x85, x86, x87, x88, x89, x90, x91, x92, x93, x94, x95, x96, x97, x98, x99, x100, x101, x102, x103, x104, x105, x106, x107, x108, x109, x110, x111], []⟩ W := by
    intro W hb a5 c5 hA a6 c6 hB
    refine wpAny_ready (rs := [5, 6, 7]) (by kernel_rfl) (by simp) ?_
    refine AllReady.cons ho5 (fun K hK => ?_) (AllReady.cons ho6 (fun K hK => ?_) (AllReady.cons ho7 (fun K hK => ?_) AllReady.nil))
    · go_simp
      refine hK _ _ ?_
      exact st0_1_2_3_4_5_ W hb a5 c5 hA a6 c6 hB
    · go_simp
      refine hK _ _ ?_
      exact st0_1_2_3_4_6_ W hb a5 c5 hA a6 c6 hB
    · go_simp
      refine hK _ _ ?_
      exact st0_1_2_3_4_7_ (W.alloc (.cells #[.int .i64 0, .slice none 0 0] 24)) (gA hb _) a5 c5 (hA.keep (gA (Below.refl _ _) _)) a6 c6 (hB.keep (gA (Below.refl _ _) _)) W.heap.size hb.size (heap_alloc_new _ _)
  have st0_1_2_3_7_ : ∀ (W : World) (hb : Below w.heap.size w W) (a5 : Option Addr) (c5 : Nat) (hA : OwAdv W (.agg #[.int .i64 2, .slice a5 1 c5]) 2 (alw1 rdF)) (a6 : Option Addr) (c6 : Nat) (hB : OwAdv W (.agg #[.int .i64 2, .slice a6 3 c6]) 2 [[rdF ++ [1]], [rdF ++ [2]], [rdH ++ [2]]]) (b3 : Nat) (h3 : w.heap.size ≤ b3) (k3 : BxZ W b3), wpAny Tryz.prog .any opsAw11 Q 5 #[true, true, true, true, false, false, false, true, false, false] ⟨#[x0, x1, x2, x3, .pointer (some ⟨p2, 0, none⟩), x5, x6, x7, x8, x9, x10, .pointer (some ⟨p1, 0, none⟩), x12, .pointer (some ⟨b3, 0, none⟩), x14, x15, x16, x17, x18, x19, x20, x21, x22, x23, x24, x25, x26, x27, x28, x29, x30, x31, x32, x33, x34, x35, x36, x37, x38, x39, x40, x41, x42, x43, x44, x45, x46, x47, x48, x49, x50, x51, x52, x53, x54, x55, x56, .agg #[.int .i64 2, .int .i64 3, .int .i64 3, .int .i64 0, .int .i64 0, .int .i64 0, .int .i64 1], .agg #[.int .i64 2, .slice a5 1 c5], .agg #[.int .i64 2, .slice aB 1 cB], .tuple #[.agg #[.int .i64 2, .slice a6 3 c6], .int .i64 0], x61, x62, x63, x64, x65, x66, x67, x68, x69, x70, x71, x72, x73, x74, x75, x76, x77, x78, x79, x80, x81, x82, x83, x84, x85, x86, x87, x88, x89, x90, x91, x92, x93, x94, x95, x96, x97, x98, x99, x100, x101, x102, x103, x104, x105, x106, x107, x108, x109, x110, x111], []⟩ W := by
    intro W hb a5 c5 hA a6 c6 hB b3 h3 k3
    refine wpAny_ready (rs := [4]) (by kernel_rfl) (by simp) ?_
    refine AllReady.cons ho4 (fun K hK => ?_) AllReady.nil
    · go_simp
      refine hK _ _ ?_
      exact st0_1_2_3_4_7_ W hb a5 c5 hA a6 c6 hB b3 h3 k3
  have st0_1_2_3_ : ∀ (W : World) (hb : Below w.heap.size w W) (a5 : Option Addr) (c5 : Nat) (hA : OwAdv W (.agg #[.int .i64 2, .slice a5 1 c5]) 2 (alw1 rdF)) (a6 : Option Addr) (c6 : Nat) (hB : OwAdv W (.agg #[.int .i64 2, .slice a6 3 c6]) 2 [[rdF ++ [1]], [rdF ++ [2]], [rdH ++ [2]]]), wpAny Tryz.prog .any opsAw11 Q 6 #[true, true, true, true, false, false, false, false, false, false] ⟨#[x0, x1, x2, x3, .pointer (some ⟨p2, 0, none⟩), x5, x6, x7, x8, x9, x10, .pointer (some ⟨p1, 0, none⟩), x12, x13, x14, x15, x16, x17, x18, x19, x20, x21, x22, x23, x24, x25, x26, x27, x28, x29, x30, x31, x32, x33, x34, x35, x36, x37, x38, x39, x40, x41, x42, x43, x44, x45, x46, x47, x48, x49, x50, x51, x52, x53, x54, x55, x56, .agg #[.int .i64 2, .int .i64 3, .int .i64 3, .int .i64 0, .int .i64 0, .int .i64 0, .int .i64 1], .agg #[.int .i64 2, .slice a5 1 c5], .agg #[.int .i64 2, .slice aB 1 cB], .tuple #[.agg #[.int .i64 2, .slice a6 3 c6], .int .i64 0], x61, x62, x63, x64, x65, x66, x67, x68, x69, x70, x71, x72, x73, x74, x75, x76, x77, x78, x79, x80, x81, x82, x83, x84, x85, x86, x87, x88, x89, x90, x91, x92, x93, x94, x95, x96, x97, x98, x99, x100, x101, x102, x103, x104, x105, x106, x107, x108, x109, x110, x111], []⟩ W := by
    intro W hb a5 c5 hA a6 c6 hB
    refine wpAny_ready (rs := [4, 7]) (by kernel_rfl) (by simp) ?_
    refine AllReady.cons ho4 (fun K hK => ?_) (AllReady.cons ho7 (fun K hK => ?_) AllReady.nil)
    · go_simp
      refine hK _ _ ?_
      exact st0_1_2_3_4_ W hb a5 c5 hA a6 c6 hB
    · go_simp
      refine hK _ _ ?_
      exact st0_1_2_3_7_ (W.alloc (.cells #[.int .i64 0, .slice none 0 0] 24)) (gA hb _) a5 c5 (hA.keep (gA (Below.refl _ _) _)) a6 c6 (hB.keep (gA (Below.refl _ _) _)) W.heap.size hb.size (heap_alloc_new _ _)
  have st0_1_2_7_ : ∀ (W : World) (hb : Below w.heap.size w W) (a5 : Option Addr) (c5 : Nat) (hA : OwAdv W (.agg #[.int .i64 2, .slice a5 1 c5]) 2 (alw1 rdF)) (b3 : Nat) (h3 : w.heap.size ≤ b3) (k3 : BxZ W b3), wpAny Tryz.prog .any opsAw11 Q 6 #[true, true, true, false, false, false, false, true, false, false] ⟨#[x0, x1, x2, x3, .pointer (some ⟨p2, 0, none⟩), x5, x6, x7, x8, x9, x10, .pointer (some ⟨p1, 0, none⟩), x12, .pointer (some ⟨b3, 0, none⟩), x14, x15, x16, x17, x18, x19, x20, x21, x22, x23, x24, x25, x26, x27, x28, x29, x30, x31, x32, x33, x34, x35, x36, x37, x38, x39, x40, x41, x42, x43, x44, x45, x46, x47, x48, x49, x50, x51, x52, x53, x54, x55, x56, .agg #[.int .i64 2, .int .i64 3, .int .i64 3, .int .i64 0, .int .i64 0, .int .i64 0, .int .i64 1], .agg #[.int .i64 2, .slice a5 1 c5], .agg #[.int .i64 2, .slice aB 1 cB], x60, x61, x62, x63, x64, x65, x66, x67, x68, x69, x70, x71, x72, x73, x74, x75, x76, x77, x78, x79, x80, x81, x82, x83, x84, x85, x86, x87, x88, x89, x90, x91, x92, x93, x94, x95, x96, x97, x98, x99, x100, x101, x102, x103, x104, x105, x106, x107, x108, x109, x110, x111], []⟩ W := by
    intro W hb a5 c5 hA b3 h3 k3
    refine wpAny_ready (rs := [3]) (by kernel_rfl) (by simp) ?_
    refine AllReady.cons ho3 (fun K hK => ?_) AllReady.nil
    · have HT := Lib.hid (thenEx hA.adv (hR.out W hb).2.2.2)
      go_simp
      go_at_call 15
      (with_reducible refine HT.out.mono ?_)
      rintro e W9 ⟨a6, c6, rfl, hB9, hb9⟩
      dsimp only
      refine hK _ _ ?_
      exact st0_1_2_3_7_ W9 (gT hb9 hb) a5 c5 (hA.keep hb9) a6 c6 hB9 b3 h3 (kept hb9 k3)
  have st0_1_2_ : ∀ (W : World) (hb : Below w.heap.size w W) (a5 : Option Addr) (c5 : Nat) (hA : OwAdv W (.agg #[.int .i64 2, .slice a5 1 c5]) 2 (alw1 rdF)), wpAny Tryz.prog .any opsAw11 Q 7 #[true, true, true, false, false, false, false, false, false, false] ⟨#[x0, x1, x2, x3, .pointer (some ⟨p2, 0, none⟩), x5, x6, x7, x8, x9, x10, .pointer (some ⟨p1, 0, none⟩), x12, x13, x14, x15, x16, x17, x18, x19, x20, x21, x22, x23, x24, x25, x26, x27, x28, x29, x30, x31, x32, x33, x34, x35, x36, x37, x38, x39, x40, x41, x42, x43, x44, x45, x46, x47, x48, x49, x50, x51, x52, x53, x54, x55, x56, .agg #[.int .i64 2, .int .i64 3, .int .i64 3, .int .i64 0, .int .i64 0, .int .i64 0, .int .i64 1], .agg #[.int .i64 2, .slice a5 1 c5], .agg #[.int .i64 2, .slice aB 1 cB], x60, x61, x62, x63, x64, x65, x66, x67, x68, x69, x70, x71, x72, x73, x74, x75, x76, x77, x78, x79, x80, x81, x82, x83, x84, x85, x86, x87, x88, x89, x90, x91, x92, x93, x94, x95, x96, x97, x98, x99, x100, x101, x102, x103, x104, x105, x106, x107, x108, x109, x110, x111], []⟩ W := by
    intro W hb a5 c5 hA
    refine wpAny_ready (rs := [3, 7]) (by kernel_rfl) (by simp) ?_
    refine AllReady.cons ho3 (fun K hK => ?_) (AllReady.cons ho7 (fun K hK => ?_) AllReady.nil)
    · have HT := Lib.hid (thenEx hA.adv (hR.out W hb).2.2.2)
      go_simp
      go_at_call 15
      (with_reducible refine HT.out.mono ?_)
      rintro e W9 ⟨a6, c6, rfl, hB9, hb9⟩
      dsimp only
      refine hK _ _ ?_
      exact st0_1_2_3_ W9 (gT hb9 hb) a5 c5 (hA.keep hb9) a6 c6 hB9
    · go_simp
      refine hK _ _ ?_
      exact st0_1_2_7_ (W.alloc (.cells #[.int .i64 0, .slice none 0 0] 24)) (gA hb _) a5 c5 (hA.keep (gA (Below.refl _ _) _)) W.heap.size hb.size (heap_alloc_new _ _)
  have st0_1_7_ : ∀ (W : World) (hb : Below w.heap.size w W) (a5 : Option Addr) (c5 : Nat) (hA : OwAdv W (.agg #[.int .i64 2, .slice a5 1 c5]) 2 (alw1 rdF)) (b3 : Nat) (h3 : w.heap.size ≤ b3) (k3 : BxZ W b3), wpAny Tryz.prog .any opsAw11 Q 7 #[true, true, false, false, false, false, false, true, false, false] ⟨#[x0, x1, x2, x3, .pointer (some ⟨p2, 0, none⟩), x5, x6, x7, x8, x9, x10, .pointer (some ⟨p1, 0, none⟩), x12, .pointer (some ⟨b3, 0, none⟩), x14, x15, x16, x17, x18, x19, x20, x21, x22, x23, x24, x25, x26, x27, x28, x29, x30, x31, x32, x33, x34, x35, x36, x37, x38, x39, x40, x41, x42, x43, x44, x45, x46, x47, x48, x49, x50, x51, x52, x53, x54, x55, x56, .agg #[.int .i64 2, .int .i64 3, .int .i64 3, .int .i64 0, .int .i64 0, .int .i64 0, .int .i64 1], .agg #[.int .i64 2, .slice a5 1 c5], x59, x60, x61, x62, x63, x64, x65, x66, x67, x68, x69, x70, x71, x72, x73, x74, x75, x76, x77, x78, x79, x80, x81, x82, x83, x84, x85, x86, x87, x88, x89, x90, x91, x92, x93, x94, x95, x96, x97, x98, x99, x100, x101, x102, x103, x104, x105, x106, x107, x108, x109, x110, x111], []⟩ W := by
    intro W hb a5 c5 hA b3 h3 k3
    refine wpAny_ready (rs := [2]) (by kernel_rfl) (by simp) ?_
    refine AllReady.cons ho2 (fun K hK => ?_) AllReady.nil
    · obtain ⟨⟨_, s0, s1, s2, s3, s4, s5, s6⟩, q0, q1, _⟩ := hR.out W hb
      go_simp
      refine hK _ _ ?_
      exact st0_1_2_7_ W hb a5 c5 hA b3 h3 k3
  have st0_2_7_ : ∀ (W : World) (hb : Below w.heap.size w W) (b3 : Nat) (h3 : w.heap.size ≤ b3) (k3 : BxZ W b3), wpAny Tryz.prog .any opsAw11 Q 7 #[true, false, true, false, false, false, false, true, false, false] ⟨#[x0, x1, x2, x3, .pointer (some ⟨p2, 0, none⟩), x5, x6, x7, x8, x9, x10, .pointer (some ⟨p1, 0, none⟩), x12, .pointer (some ⟨b3, 0, none⟩), x14, x15, x16, x17, x18, x19, x20, x21, x22, x23, x24, x25, x26, x27, x28, x29, x30, x31, x32, x33, x34, x35, x36, x37, x38, x39, x40, x41, x42, x43, x44, x45, x46, x47, x48, x49, x50, x51, x52, x53, x54, x55, x56, .agg #[.int .i64 2, .int .i64 3, .int .i64 3, .int .i64 0, .int .i64 0, .int .i64 0, .int .i64 1], x58, .agg #[.int .i64 2, .slice aB 1 cB], x60, x61, x62, x63, x64, x65, x66, x67, x68, x69, x70, x71, x72, x73, x74, x75, x76, x77, x78, x79, x80, x81, x82, x83, x84, x85, x86, x87, x88, x89, x90, x91, x92, x93, x94, x95, x96, x97, x98, x99, x100, x101, x102, x103, x104, x105, x106, x107, x108, x109, x110, x111], []⟩ W := by
    intro W hb b3 h3 k3
    refine wpAny_ready (rs := [1]) (by kernel_rfl) (by simp) ?_
    refine AllReady.cons ho1 (fun K hK => ?_) AllReady.nil
    · go_simp
      go_at_call 28
      (with_reducible refine (HC1.out W).mono ?_)
      rintro e W9 ⟨a5, c5, rfl, hA9, hb9⟩
      dsimp only
      refine hK _ _ ?_
      exact st0_1_2_7_ W9 (gT hb9 hb) a5 c5 hA9 b3 h3 (kept hb9 k3)
  have st0_1_ : ∀ (W : World) (hb : Below w.heap.size w W) (a5 : Option Addr) (c5 : Nat) (hA : OwAdv W (.agg #[.int .i64 2, .slice a5 1 c5]) 2 (alw1 rdF)), wpAny Tryz.prog .any opsAw11 Q 8 #[true, true, false, false, false, false, false, false, false, false] ⟨#[x0, x1, x2, x3, .pointer (some ⟨p2, 0, none⟩), x5, x6, x7, x8, x9, x10, .pointer (some ⟨p1, 0, none⟩), x12, x13, x14, x15, x16, x17, x18, x19, x20, x21, x22, x23, x24, x25, x26, x27, x28, x29, x30, x31, x32, x33, x34, x35, x36, x37, x38, x39, x40, x41, x42, x43, x44, x45, x46, x47, x48, x49, x50, x51, x52, x53, x54, x55, x56, .agg #[.int .i64 2, .int .i64 3, .int .i64 3, .int .i64 0, .int .i64 0, .int .i64 0, .int .i64 1], .agg #[.int .i64 2, .slice a5 1 c5], x59, x60, x61, x62, x63, x64, x65, x66, x67, x68, x69, x70, x71, x72, x73, x74, x75, x76, x77, x78, x79, x80, x81, x82, x83, x84, x85, x86, x87, x88, x89, x90, x91, x92, x93, x94, x95, x96, x97, x98, x99, x100, x101, x102, x103, x104, x105, x106, x107, x108, x109, x110, x111], []⟩ W := by
    intro W hb a5 c5 hA
    refine wpAny_ready (rs := [2, 7]) (by kernel_rfl) (by simp) ?_
    refine AllReady.cons ho2 (fun K hK => ?_) (AllReady.cons ho7 (fun K hK => ?_) AllReady.nil)
    · obtain ⟨⟨_, s0, s1, s2, s3, s4, s5, s6⟩, q0, q1, _⟩ := hR.out W hb
      go_simp
      refine hK _ _ ?_
      exact st0_1_2_ W hb a5 c5 hA
    · go_simp
      refine hK _ _ ?_
      exact st0_1_7_ (W.alloc (.cells #[.int .i64 0, .slice none 0 0] 24)) (gA hb _) a5 c5 (hA.keep (gA (Below.refl _ _) _)) W.heap.size hb.size (heap_alloc_new _ _)
  have st0_2_ : ∀ (W : World) (hb : Below w.heap.size w W), wpAny Tryz.prog .any opsAw11 Q 8 #[true, false, true, false, false, false, false, false, false, false] ⟨#[x0, x1, x2, x3, .pointer (some ⟨p2, 0, none⟩), x5, x6, x7, x8, x9, x10, .pointer (some ⟨p1, 0, none⟩), x12, x13, x14, x15, x16, x17, x18, x19, x20, x21, x22, x23, x24, x25, x26, x27, x28, x29, x30, x31, x32, x33, x34, x35, x36, x37, x38, x39, x40, x41, x42, x43, x44, x45, x46, x47, x48, x49, x50, x51, x52, x53, x54, x55, x56, .agg #[.int .i64 2, .int .i64 3, .int .i64 3, .int .i64 0, .int .i64 0, .int .i64 0, .int .i64 1], x58, .agg #[.int .i64 2, .slice aB 1 cB], x60, x61, x62, x63, x64, x65, x66, x67, x68, x69, x70, x71, x72, x73, x74, x75, x76, x77, x78, x79, x80, x81, x82, x83, x84, x85, x86, x87, x88, x89, x90, x91, x92, x93, x94, x95, x96, x97, x98, x99, x100, x101, x102, x103, x104, x105, x106, x107, x108, x109, x110, x111], []⟩ W := by
    intro W hb
    refine wpAny_ready (rs := [1, 7]) (by kernel_rfl) (by simp) ?_
    refine AllReady.cons ho1 (fun K hK => ?_) (AllReady.cons ho7 (fun K hK => ?_) AllReady.nil)
    · go_simp
      go_at_call 28
      (with_reducible refine (HC1.out W).mono ?_)
      rintro e W9 ⟨a5, c5, rfl, hA9, hb9⟩
      dsimp only
      refine hK _ _ ?_
      exact st0_1_2_ W9 (gT hb9 hb) a5 c5 hA9
    · go_simp
      refine hK _ _ ?_
      exact st0_2_7_ (W.alloc (.cells #[.int .i64 0, .slice none 0 0] 24)) (gA hb _) W.heap.size hb.size (heap_alloc_new _ _)
  have st0_7_ : ∀ (W : World) (hb : Below w.heap.size w W) (b3 : Nat) (h3 : w.heap.size ≤ b3) (k3 : BxZ W b3), wpAny Tryz.prog .any opsAw11 Q 8 #[true, false, false, false, false, false, false, true, false, false] ⟨#[x0, x1, x2, x3, .pointer (some ⟨p2, 0, none⟩), x5, x6, x7, x8, x9, x10, .pointer (some ⟨p1, 0, none⟩), x12, .pointer (some ⟨b3, 0, none⟩), x14, x15, x16, x17, x18, x19, x20, x21, x22, x23, x24, x25, x26, x27, x28, x29, x30, x31, x32, x33, x34, x35, x36, x37, x38, x39, x40, x41, x42, x43, x44, x45, x46, x47, x48, x49, x50, x51, x52, x53, x54, x55, x56, .agg #[.int .i64 2, .int .i64 3, .int .i64 3, .int .i64 0, .int .i64 0, .int .i64 0, .int .i64 1], x58, x59, x60, x61, x62, x63, x64, x65, x66, x67, x68, x69, x70, x71, x72, x73, x74, x75, x76, x77, x78, x79, x80, x81, x82, x83, x84, x85, x86, x87, x88, x89, x90, x91, x92, x93, x94, x95, x96, x97, x98, x99, x100, x101, x102, x103, x104, x105, x106, x107, x108, x109, x110, x111], []⟩ W := by
    intro W hb b3 h3 k3
    refine wpAny_ready (rs := [1, 2]) (by kernel_rfl) (by simp) ?_
    refine AllReady.cons ho1 (fun K hK => ?_) (AllReady.cons ho2 (fun K hK => ?_) AllReady.nil)
    · go_simp
      go_at_call 28
      (with_reducible refine (HC1.out W).mono ?_)
      rintro e W9 ⟨a5, c5, rfl, hA9, hb9⟩
      dsimp only
      refine hK _ _ ?_
      exact st0_1_7_ W9 (gT hb9 hb) a5 c5 hA9 b3 h3 (kept hb9 k3)
    · obtain ⟨⟨_, s0, s1, s2, s3, s4, s5, s6⟩, q0, q1, _⟩ := hR.out W hb
      go_simp
      refine hK _ _ ?_
      exact st0_2_7_ W hb b3 h3 k3
  have st2_7_ : ∀ (W : World) (hb : Below w.heap.size w W) (b3 : Nat) (h3 : w.heap.size ≤ b3) (k3 : BxZ W b3), wpAny Tryz.prog .any opsAw11 Q 8 #[false, false, true, false, false, false, false, true, false, false] ⟨#[x0, x1, x2, x3, .pointer (some ⟨p2, 0, none⟩), x5, x6, x7, x8, x9, x10, .pointer (some ⟨p1, 0, none⟩), x12, .pointer (some ⟨b3, 0, none⟩), x14, x15, x16, x17, x18, x19, x20, x21, x22, x23, x24, x25, x26, x27, x28, x29, x30, x31, x32, x33, x34, x35, x36, x37, x38, x39, x40, x41, x42, x43, x44, x45, x46, x47, x48, x49, x50, x51, x52, x53, x54, x55, x56, x57, x58, .agg #[.int .i64 2, .slice aB 1 cB], x60, x61, x62, x63, x64, x65, x66, x67, x68, x69, x70, x71, x72, x73, x74, x75, x76, x77, x78, x79, x80, x81, x82, x83, x84, x85, x86, x87, x88, x89, x90, x91, x92, x93, x94, x95, x96, x97, x98, x99, x100, x101, x102, x103, x104, x105, x106, x107, x108, x109, x110, x111], []⟩ W := by
    intro W hb b3 h3 k3
    refine wpAny_ready (rs := [0]) (by kernel_rfl) (by simp) ?_
    refine AllReady.cons ho0 (fun K hK => ?_) AllReady.nil
    · obtain ⟨⟨_, s0, s1, s2, s3, s4, s5, s6⟩, q0, q1, _⟩ := hR.out W hb
      go_simp
      refine hK _ _ ?_
      exact st0_2_7_ W hb b3 h3 k3
  have st0_ : ∀ (W : World) (hb : Below w.heap.size w W), wpAny Tryz.prog .any opsAw11 Q 9 #[true, false, false, false, false, false, false, false, false, false] ⟨#[x0, x1, x2, x3, .pointer (some ⟨p2, 0, none⟩), x5, x6, x7, x8, x9, x10, .pointer (some ⟨p1, 0, none⟩), x12, x13, x14, x15, x16, x17, x18, x19, x20, x21, x22, x23, x24, x25, x26, x27, x28, x29, x30, x31, x32, x33, x34, x35, x36, x37, x38, x39, x40, x41, x42, x43, x44, x45, x46, x47, x48, x49, x50, x51, x52, x53, x54, x55, x56, .agg #[.int .i64 2, .int .i64 3, .int .i64 3, .int .i64 0, .int .i64 0, .int .i64 0, .int .i64 1], x58, x59, x60, x61, x62, x63, x64, x65, x66, x67, x68, x69, x70, x71, x72, x73, x74, x75, x76, x77, x78, x79, x80, x81, x82, x83, x84, x85, x86, x87, x88, x89, x90, x91, x92, x93, x94, x95, x96, x97, x98, x99, x100, x101, x102, x103, x104, x105, x106, x107, x108, x109, x110, x111], []⟩ W := by
    intro W hb
    refine wpAny_ready (rs := [1, 2, 7]) (by kernel_rfl) (by simp) ?_
    refine AllReady.cons ho1 (fun K hK => ?_) (AllReady.cons ho2 (fun K hK => ?_) (AllReady.cons ho7 (fun K hK => ?_) AllReady.nil))
    · go_simp
      go_at_call 28
      (with_reducible refine (HC1.out W).mono ?_)
      rintro e W9 ⟨a5, c5, rfl, hA9, hb9⟩
      dsimp only
      refine hK _ _ ?_
      exact st0_1_ W9 (gT hb9 hb) a5 c5 hA9
    · obtain ⟨⟨_, s0, s1, s2, s3, s4, s5, s6⟩, q0, q1, _⟩ := hR.out W hb
      go_simp
      refine hK _ _ ?_
      exact st0_2_ W hb
    · go_simp
      refine hK _ _ ?_
      exact st0_7_ (W.alloc (.cells #[.int .i64 0, .slice none 0 0] 24)) (gA hb _) W.heap.size hb.size (heap_alloc_new _ _)
  have st2_ : ∀ (W : World) (hb : Below w.heap.size w W), wpAny Tryz.prog .any opsAw11 Q 9 #[false, false, true, false, false, false, false, false, false, false] ⟨#[x0, x1, x2, x3, .pointer (some ⟨p2, 0, none⟩), x5, x6, x7, x8, x9, x10, .pointer (some ⟨p1, 0, none⟩), x12, x13, x14, x15, x16, x17, x18, x19, x20, x21, x22, x23, x24, x25, x26, x27, x28, x29, x30, x31, x32, x33, x34, x35, x36, x37, x38, x39, x40, x41, x42, x43, x44, x45, x46, x47, x48, x49, x50, x51, x52, x53, x54, x55, x56, x57, x58, .agg #[.int .i64 2, .slice aB 1 cB], x60, x61, x62, x63, x64, x65, x66, x67, x68, x69, x70, x71, x72, x73, x74, x75, x76, x77, x78, x79, x80, x81, x82, x83, x84, x85, x86, x87, x88, x89, x90, x91, x92, x93, x94, x95, x96, x97, x98, x99, x100, x101, x102, x103, x104, x105, x106, x107, x108, x109, x110, x111], []⟩ W := by
    intro W hb
    refine wpAny_ready (rs := [0, 7]) (by kernel_rfl) (by simp) ?_
    refine AllReady.cons ho0 (fun K hK => ?_) (AllReady.cons ho7 (fun K hK => ?_) AllReady.nil)
    · obtain ⟨⟨_, s0, s1, s2, s3, s4, s5, s6⟩, q0, q1, _⟩ := hR.out W hb
      go_simp
      refine hK _ _ ?_
      exact st0_2_ W hb
    · go_simp
      refine hK _ _ ?_
      exact st2_7_ (W.alloc (.cells #[.int .i64 0, .slice none 0 0] 24)) (gA hb _) W.heap.size hb.size (heap_alloc_new _ _)
  have st7_ : ∀ (W : World) (hb : Below w.heap.size w W) (b3 : Nat) (h3 : w.heap.size ≤ b3) (k3 : BxZ W b3), wpAny Tryz.prog .any opsAw11 Q 9 #[false, false, false, false, false, false, false, true, false, false] ⟨#[x0, x1, x2, x3, .pointer (some ⟨p2, 0, none⟩), x5, x6, x7, x8, x9, x10, .pointer (some ⟨p1, 0, none⟩), x12, .pointer (some ⟨b3, 0, none⟩), x14, x15, x16, x17, x18, x19, x20, x21, x22, x23, x24, x25, x26, x27, x28, x29, x30, x31, x32, x33, x34, x35, x36, x37, x38, x39, x40, x41, x42, x43, x44, x45, x46, x47, x48, x49, x50, x51, x52, x53, x54, x55, x56, x57, x58, x59, x60, x61, x62, x63, x64, x65, x66, x67, x68, x69, x70, x71, x72, x73, x74, x75, x76, x77, x78, x79, x80, x81, x82, x83, x84, x85, x86, x87, x88, x89, x90, x91, x92, x93, x94, x95, x96, x97, x98, x99, x100, x101, x102, x103, x104, x105, x106, x107, x108, x109, x110, x111], []⟩ W := by
    intro W hb b3 h3 k3
    refine wpAny_ready (rs := [0, 2]) (by kernel_rfl) (by simp) ?_
    refine AllReady.cons ho0 (fun K hK => ?_) (AllReady.cons ho2 (fun K hK => ?_) AllReady.nil)
    · obtain ⟨⟨_, s0, s1, s2, s3, s4, s5, s6⟩, q0, q1, _⟩ := hR.out W hb
      go_simp
      refine hK _ _ ?_
      exact st0_7_ W hb b3 h3 k3
    · obtain ⟨⟨_, s0, s1, s2, s3, s4, s5, s6⟩, q0, q1, _⟩ := hR.out W hb
      go_simp
      refine hK _ _ ?_
      exact st2_7_ W hb b3 h3 k3
  have st_ : ∀ (W : World) (hb : Below w.heap.size w W), wpAny Tryz.prog .any opsAw11 Q 10 #[false, false, false, false, false, false, false, false, false, false] ⟨#[x0, x1, x2, x3, .pointer (some ⟨p2, 0, none⟩), x5, x6, x7, x8, x9, x10, .pointer (some ⟨p1, 0, none⟩), x12, x13, x14, x15, x16, x17, x18, x19, x20, x21, x22, x23, x24, x25, x26, x27, x28, x29, x30, x31, x32, x33, x34, x35, x36, x37, x38, x39, x40, x41, x42, x43, x44, x45, x46, x47, x48, x49, x50, x51, x52, x53, x54, x55, x56, x57, x58, x59, x60, x61, x62, x63, x64, x65, x66, x67, x68, x69, x70, x71, x72, x73, x74, x75, x76, x77, x78, x79, x80, x81, x82, x83, x84, x85, x86, x87, x88, x89, x90, x91, x92, x93, x94, x95, x96, x97, x98, x99, x100, x101, x102, x103, x104, x105, x106, x107, x108, x109, x110, x111], []⟩ W := by
    intro W hb
    refine wpAny_ready (rs := [0, 2, 7]) (by kernel_rfl) (by simp) ?_
    refine AllReady.cons ho0 (fun K hK => ?_) (AllReady.cons ho2 (fun K hK => ?_) (AllReady.cons ho7 (fun K hK => ?_) AllReady.nil))
    · obtain ⟨⟨_, s0, s1, s2, s3, s4, s5, s6⟩, q0, q1, _⟩ := hR.out W hb
      go_simp
      refine hK _ _ ?_
      exact st0_ W hb
    · obtain ⟨⟨_, s0, s1, s2, s3, s4, s5, s6⟩, q0, q1, _⟩ := hR.out W hb
      go_simp
      refine hK _ _ ?_
      exact st2_ W hb
    · go_simp
      refine hK _ _ ?_
      exact st7_ (W.alloc (.cells #[.int .i64 0, .slice none 0 0] 24)) (gA hb _) W.heap.size hb.size (heap_alloc_new _ _)
  exact st_ _ (below_drewN (Below.refl _ w) 1)
end Go.Proofs.YtiiiegflobihjaaGreat

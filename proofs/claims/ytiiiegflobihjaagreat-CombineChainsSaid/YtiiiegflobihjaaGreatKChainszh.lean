/- Texts of this claim, put together: FT1 FT3 FT2. -/
import Derived.Test.YtiiiegflobihjaaGreatKChainszg
import Derived.Deep.RegionHeld3
import Derived.Deep.DeepCutAuto

/- The reference: Then, its region 18 as a law of its own. -/
namespace Go.Proofs.YtiiiegflobihjaaGreat
open Go.RowKit

theorem kep15 {a b c d e f g h i j k l m n o : Prop} (z : a ∧ b ∧ c ∧ d ∧ e ∧ f ∧ g ∧ h ∧ i ∧ j ∧ k ∧ l ∧ m ∧ n ∧ o) : a ∧ b ∧ c ∧ d ∧ e ∧ f ∧ g ∧ h ∧ i ∧ j ∧ k ∧ l ∧ m ∧ n ∧ o := z
set_option maxRecDepth 100000 in
set_option maxHeartbeats 6400000 in
theorem regTh18 {w : World} {x0 x2 x4 x6 x7 x8 x10 x13 x15 x16 x17 x18 x19 x20 x21 x22 x23 x24 x25 x26 x27 x28 x29 x30 x31 x32 x33 x34 x35 x36 x37 x38 x39 x40 x41 x42 x43 x44 x45 x46 x47 x48 x49 x50 x51 x52 x53 x54 x55 x56 x57 x58 x59 x60 x61 x62 x63 x64 x65 x66 x67 x68 x69 x70 x71 x72 x73 x74 x75 x76 x77 x78 x79 x80 x81 x82 x83 x84 x85 x86 x87 x88 x89 x90 x91 x92 x93 x94 x95 x96 x97 x98 x99 x100 x101 x102 x103 x104 x105 x106 : Value} {Q : Exit → Act → World → Prop} {p3 p5 g2 gr i j al ac bl bc nf cf nr cr xl vc yl : Nat} {aa ba va : Option Addr} {k m n s0 s1 s2 r0 r1 r2 r3 r4 r5 r6 y0 ys yf : Int} {Yl : List Int}
    (hkp : Hid (∀ W : World, Below w.heap.size w W → W.cell? ⟨p3, 0, none⟩ = some (.int .i64 m) ∧ W.cell? ⟨p3, 1, none⟩ = some (.slice aa al ac) ∧ W.cell? ⟨p5, 0, none⟩ = some (.int .i64 n) ∧ W.cell? ⟨p5, 1, none⟩ = some (.slice ba bl bc) ∧ W.cell? ⟨g2, i * 4, none⟩ = some (.int .i64 s0) ∧ W.cell? ⟨g2, i * 4 + 1, none⟩ = some (.int .i64 s1) ∧ W.cell? ⟨g2, i * 4 + 2, none⟩ = some (.int .i64 s2) ∧ W.cell? ⟨g2, i * 4 + 3, none⟩ = some (.slice va xl vc) ∧ W.cell? ⟨gr, j * 7, none⟩ = some (.int .i64 r0) ∧ W.cell? ⟨gr, j * 7 + 1, none⟩ = some (.int .i64 r1) ∧ W.cell? ⟨gr, j * 7 + 2, none⟩ = some (.int .i64 r2) ∧ W.cell? ⟨gr, j * 7 + 3, none⟩ = some (.int .i64 r3) ∧ W.cell? ⟨gr, j * 7 + 4, none⟩ = some (.int .i64 r4) ∧ W.cell? ⟨gr, j * 7 + 5, none⟩ = some (.int .i64 r5) ∧ W.cell? ⟨gr, j * 7 + 6, none⟩ = some (.int .i64 r6))) (hi : (i : Int) < (nf : Int)) (hj : (j : Int) < (nr : Int))
    (HL : Hid (∀ W : World, Below w.heap.size w W → Calls Tryz.prog 45 #[.agg #[.int .i64 m, .slice aa al ac], .agg #[.int .i64 n, .slice ba bl bc], .int .i64 k, .agg #[.int .i64 s0, .int .i64 s1, .int .i64 s2, .slice va xl vc], .agg #[.int .i64 r0, .int .i64 r1, .int .i64 r2, .int .i64 r3, .int .i64 r4, .int .i64 r5, .int .i64 r6]] W (fun e w' => ∃ v, e = .returned (.agg #[.int .i64 y0, .int .i64 ys, .int .i64 yf, v]) ∧ OI w' 0 v yl Yl ∧ Below W.heap.size W w')))
    (h : ∀ (W : World) (b : Nat) (ya : Option Addr) (yc : Nat) y60 y61 y62 y63 y64 y65 y66 y67 y68 y69 y70 y71, W.heap[b]? = some (.cells #[.int .i64 y0, .int .i64 ys, .int .i64 yf, .slice ya yl yc] 82) → OI W 0 (.slice ya yl yc) yl Yl → Below w.heap.size w W → w.heap.size ≤ b → Q .normal ⟨#[x0, .int .i64 k, x2, .pointer (some ⟨p3, 0, none⟩), x4, .pointer (some ⟨p5, 0, none⟩), x6, x7, x8, .slice (some ⟨g2, 0, none⟩) nf cf, x10, .int .i64 (i : Int), .slice (some ⟨gr, 0, none⟩) nr cr, x13, .int .i64 (j : Int), .pointer (some ⟨b, 0, none⟩), x16, x17, x18, x19, x20, x21, x22, x23, x24, x25, x26, x27, x28, x29, x30, x31, x32, x33, x34, x35, x36, x37, x38, x39, x40, x41, x42, x43, x44, x45, x46, x47, x48, x49, x50, x51, x52, x53, x54, x55, x56, x57, x58, x59, y60, y61, y62, y63, y64, y65, y66, y67, y68, y69, y70, y71, x72, x73, x74, x75, x76, x77, x78, x79, x80, x81, x82, x83, x84, x85, x86, x87, x88, x89, x90, x91, x92, x93, x94, x95, x96, x97, x98, x99, x100, x101, x102, x103, x104, x105, x106], []⟩ W) :
    (Code.region 18 #[{ dst := some 60, op := Op.load 24 (Operand.tmp 3), type := 24, pos := "ref.go:280", after := #[], guard := none }, { dst := some 61, op := Op.load 24 (Operand.tmp 5), type := 24, pos := "ref.go:280", after := #[], guard := none }, { dst := some 62, op := Op.move (Operand.tmp 1), type := 3, pos := "ref.go:280", after := #[], guard := none }, { dst := some 63, op := Op.move (Operand.tmp 9), type := 83, pos := "ref.go:280", after := #[], guard := none }, { dst := some 64, op := Op.move (Operand.tmp 11), type := 3, pos := "ref.go:280", after := #[], guard := none }, { dst := some 65, op := Op.indexAddr 83 (Operand.tmp 63) (Operand.tmp 64), type := 0, pos := "ref.go:280", after := #[{ on := 3, ground := Ground.data }, { on := 4, ground := Ground.data }], guard := none }, { dst := some 66, op := Op.load 82 (Operand.tmp 65), type := 82, pos := "ref.go:280", after := #[{ on := 5, ground := Ground.data }], guard := none }, { dst := some 67, op := Op.move (Operand.tmp 12), type := 44, pos := "ref.go:280", after := #[], guard := none }, { dst := some 68, op := Op.move (Operand.tmp 14), type := 3, pos := "ref.go:280", after := #[], guard := none }, { dst := some 69, op := Op.indexAddr 44 (Operand.tmp 67) (Operand.tmp 68), type := 0, pos := "ref.go:280", after := #[{ on := 7, ground := Ground.data }, { on := 8, ground := Ground.data }], guard := none }, { dst := some 70, op := Op.load 51 (Operand.tmp 69), type := 51, pos := "ref.go:280", after := #[{ on := 9, ground := Ground.data }], guard := none }, { dst := some 71, op := Op.call { callee := Callee.value (Operand.func 45), args := #[Operand.tmp 60, Operand.tmp 61, Operand.tmp 62, Operand.tmp 66, Operand.tmp 70], argTypes := #[24, 24, 3, 82, 51] }, type := 82, pos := "ref.go:280", after := #[{ on := 0, ground := Ground.data }, { on := 1, ground := Ground.data }, { on := 2, ground := Ground.data }, { on := 6, ground := Ground.data }, { on := 10, ground := Ground.data }], guard := none }, { dst := some 15, op := Op.alloc 82, type := 0, pos := "ref.go:280", after := #[], guard := none }, { dst := none, op := Op.store 82 (Operand.tmp 15) (Operand.tmp 71), type := 0, pos := "ref.go:280", after := #[{ on := 12, ground := Ground.data }, { on := 11, ground := Ground.data }, { on := 11, ground := Ground.chain }, { on := 0, ground := Ground.phase }, { on := 1, ground := Ground.phase }, { on := 2, ground := Ground.phase }, { on := 3, ground := Ground.phase }, { on := 4, ground := Ground.phase }, { on := 5, ground := Ground.phase }, { on := 6, ground := Ground.phase }, { on := 7, ground := Ground.phase }, { on := 8, ground := Ground.phase }, { on := 9, ground := Ground.phase }, { on := 10, ground := Ground.phase }, { on := 11, ground := Ground.phase }, { on := 12, ground := Ground.phase }], guard := none }] true).wp Tryz.prog Q ⟨#[x0, .int .i64 k, x2, .pointer (some ⟨p3, 0, none⟩), x4, .pointer (some ⟨p5, 0, none⟩), x6, x7, x8, .slice (some ⟨g2, 0, none⟩) nf cf, x10, .int .i64 (i : Int), .slice (some ⟨gr, 0, none⟩) nr cr, x13, .int .i64 (j : Int), x15, x16, x17, x18, x19, x20, x21, x22, x23, x24, x25, x26, x27, x28, x29, x30, x31, x32, x33, x34, x35, x36, x37, x38, x39, x40, x41, x42, x43, x44, x45, x46, x47, x48, x49, x50, x51, x52, x53, x54, x55, x56, x57, x58, x59, x60, x61, x62, x63, x64, x65, x66, x67, x68, x69, x70, x71, x72, x73, x74, x75, x76, x77, x78, x79, x80, x81, x82, x83, x84, x85, x86, x87, x88, x89, x90, x91, x92, x93, x94, x95, x96, x97, x98, x99, x100, x101, x102, x103, x104, x105, x106], []⟩ w := by
  have hi0 : (0 : Int) ≤ (i : Int) := by omega
  have hj0 : (0 : Int) ≤ (j : Int) := by omega
  have kd := hkp.out w.drew (Qt.mk1 w).below
  go_region_held3 (fun w' => w'.cell? ⟨p3, 0, none⟩ = some (.int .i64 m) ∧ w'.cell? ⟨p3, 1, none⟩ = some (.slice aa al ac) ∧ w'.cell? ⟨p5, 0, none⟩ = some (.int .i64 n) ∧ w'.cell? ⟨p5, 1, none⟩ = some (.slice ba bl bc) ∧ w'.cell? ⟨g2, i * 4, none⟩ = some (.int .i64 s0) ∧ w'.cell? ⟨g2, i * 4 + 1, none⟩ = some (.int .i64 s1) ∧ w'.cell? ⟨g2, i * 4 + 2, none⟩ = some (.int .i64 s2) ∧ w'.cell? ⟨g2, i * 4 + 3, none⟩ = some (.slice va xl vc) ∧ w'.cell? ⟨gr, j * 7, none⟩ = some (.int .i64 r0) ∧ w'.cell? ⟨gr, j * 7 + 1, none⟩ = some (.int .i64 r1) ∧ w'.cell? ⟨gr, j * 7 + 2, none⟩ = some (.int .i64 r2) ∧ w'.cell? ⟨gr, j * 7 + 3, none⟩ = some (.int .i64 r3) ∧ w'.cell? ⟨gr, j * 7 + 4, none⟩ = some (.int .i64 r4) ∧ w'.cell? ⟨gr, j * 7 + 5, none⟩ = some (.int .i64 r5) ∧ w'.cell? ⟨gr, j * 7 + 6, none⟩ = some (.int .i64 r6))
    (first
      | (exact kep15 kd)
      | (exact kep15 (hkp.out _ hR5))
      | (exact kep15 (hkp.out _ (hR5.alloc hR5.size _)))
      | (exact kep15 (hkp.out _ ((Below.refl _ _).alloc (Nat.le_refl _) _).drew))
      | (exact kep15 (hkp.out _ (below4 hR5 (Nat.le_refl _) _ _ _ _)))
      | go_keep)
    (first
      | (go_at_call 45; (with_reducible refine (HL.out _ (by first | exact (Below.refl _ _).drew | exact ((Below.refl _ _).alloc (Nat.le_refl _) _).drew)).mono ?_); rintro e w6 ⟨yv, rfl, hyv, hb6⟩; obtain ⟨ya, yc, hyvs⟩ := hyv.shape; subst hyvs; have hR5 : Below w.heap.size w w6 := (by first | exact below_of_drew hb6 | exact bt ((Below.refl _ w).alloc (Nat.le_refl _) _).drew hb6 ((Below.refl _ w).alloc (Nat.le_refl _) _).drew.size); (first | (have kN5 : w6.heap[w.heap.size]? = some (.cells #[.int .i64 0, .int .i64 0, .int .i64 0, .slice none 0 0] 82) := (hb6.block w.heap.size (by rw [World.size_drew, World.size_alloc]; omega)).trans (heap_alloc_new w _); have n60 := box_cell (j := 0) kN5 rfl; have n61 := box_cell (j := 1) kN5 rfl; have n62 := box_cell (j := 2) kN5 rfl; have n63 := box_cell (j := 3) kN5 rfl; have nf := row_free kN5) | skip)))
  all_goals go_wp2
  all_goals
    first
      | exact h _ w6.heap.size ya yc _ _ _ _ _ _ _ _ _ _ _ _ (heap_alloc_new _ _) (hyv.keep ((Below.refl _ _).alloc (Nat.le_refl _) _)) (hR5.alloc hR5.size _) hR5.size
      | exact h _ w.heap.size ya yc _ _ _ _ _ _ _ _ _ _ _ _ (boxSet4 kN5) (hyv.other (E := 82) (by decide) (fun k cs t hk ht => keep4 (fun e => by subst e; rw [kN5] at hk; injection hk with hk; injection hk with _ hk; exact ht hk.symm) _ _ _ _)) (below4 hR5 (Nat.le_refl _) _ _ _ _) (Nat.le_refl _)
end Go.Proofs.YtiiiegflobihjaaGreat

/- The reference: Then, its region 21 as a law of its own. -/
namespace Go.Proofs.YtiiiegflobihjaaGreat
open Go.RowKit

set_option maxRecDepth 100000 in
set_option maxHeartbeats 6400000 in
theorem regTh21 {w : World} {x0 x1 x2 x3 x4 x5 x6 x7 x8 x10 x11 x16 x17 x18 x19 x20 x21 x22 x23 x24 x25 x26 x27 x28 x29 x30 x31 x32 x33 x34 x35 x36 x37 x38 x39 x40 x41 x42 x43 x44 x45 x46 x47 x48 x49 x50 x51 x52 x53 x54 x55 x56 x57 x58 x59 x60 x61 x62 x63 x64 x65 x66 x67 x68 x69 x70 x71 x72 x73 x74 x75 x76 x77 x78 x79 x80 x81 x82 x83 x84 x85 x86 x87 x88 x89 x90 x91 x92 x93 x94 x95 x96 x97 x98 x99 x100 x101 x102 x103 x104 x105 x106 : Value} {Q : Exit → Act → World → Prop} {bn gr j nl nr cr lc nc yl yc base q : Nat} {na la ya : Option Addr} {r0 r1 r2 r3 r4 r5 r6 y0 ys yf : Int} {ml : List (List Int)}
    (hkp : Hid (∀ V W : World, Below w.heap.size w V → KeepX 58 V W → W.cell? ⟨bn, 0, none⟩ = some (.int .i64 y0) ∧ W.cell? ⟨bn, 1, none⟩ = some (.int .i64 ys) ∧ W.cell? ⟨bn, 2, none⟩ = some (.int .i64 yf) ∧ W.cell? ⟨bn, 3, none⟩ = some (.slice ya yl yc) ∧ W.cell? ⟨gr, j * 7, none⟩ = some (.int .i64 r0) ∧ W.cell? ⟨gr, j * 7 + 1, none⟩ = some (.int .i64 r1) ∧ W.cell? ⟨gr, j * 7 + 2, none⟩ = some (.int .i64 r2) ∧ W.cell? ⟨gr, j * 7 + 3, none⟩ = some (.int .i64 r3) ∧ W.cell? ⟨gr, j * 7 + 4, none⟩ = some (.int .i64 r4) ∧ W.cell? ⟨gr, j * 7 + 5, none⟩ = some (.int .i64 r5) ∧ W.cell? ⟨gr, j * 7 + 6, none⟩ = some (.int .i64 r6))) (hj : (j : Int) < (nr : Int)) (hj9 : j ≤ 1000000000000) (hbase : base ≤ w.heap.size)
    (hml : Hid (OwX 58 8 EI w base (.slice la j lc) j ml))
    (HP : Hid (∀ W : World, Below w.heap.size w W → Calls Tryz.prog 46 #[.slice na nl nc, .agg #[.int .i64 y0, .int .i64 ys, .int .i64 yf, .slice ya yl yc]] W (fun e w' => e = .returned (.int .i64 (q : Int)) ∧ Below W.heap.size W w')))
    (h : ∀ (W V : World) (a9 : Option Addr) (c9 : Nat) y80 y81 y82 y83 y84 y85 y86 y87 y88 y89 y90, OwX 58 8 EI W base (.slice a9 (j + 1) c9) (j + 1) (ml ++ [[r0, r1, r2, r3, r4, r5, r6, (q : Int)]]) → Below w.heap.size w V → base ≤ V.heap.size → Below base V W → KeepX 58 V W → Q .normal ⟨#[x0, x1, x2, x3, x4, x5, x6, x7, x8, .slice na nl nc, x10, x11, .slice (some ⟨gr, 0, none⟩) nr cr, .slice a9 (j + 1) c9, .int .i64 (j : Int), .pointer (some ⟨bn, 0, none⟩), x16, x17, x18, x19, x20, x21, x22, x23, x24, x25, x26, x27, x28, x29, x30, x31, x32, x33, x34, x35, x36, x37, x38, x39, x40, x41, x42, x43, x44, x45, x46, x47, x48, x49, x50, x51, x52, x53, x54, x55, x56, x57, x58, x59, x60, x61, x62, x63, x64, x65, x66, x67, x68, x69, x70, x71, x72, x73, x74, x75, x76, x77, x78, x79, y80, y81, y82, y83, y84, y85, y86, y87, y88, y89, y90, x91, x92, x93, x94, x95, x96, x97, x98, x99, x100, x101, x102, x103, x104, x105, x106], []⟩ W) :
    (Code.region 21 #[{ dst := some 80, op := Op.move (Operand.tmp 13), type := 59, pos := "ref.go:284", after := #[], guard := none }, { dst := some 81, op := Op.move (Operand.tmp 12), type := 44, pos := "ref.go:284", after := #[], guard := none }, { dst := some 82, op := Op.move (Operand.tmp 14), type := 3, pos := "ref.go:284", after := #[], guard := none }, { dst := some 83, op := Op.indexAddr 44 (Operand.tmp 81) (Operand.tmp 82), type := 0, pos := "ref.go:284", after := #[{ on := 1, ground := Ground.data }, { on := 2, ground := Ground.data }], guard := none }, { dst := some 84, op := Op.load 51 (Operand.tmp 83), type := 51, pos := "ref.go:284", after := #[{ on := 3, ground := Ground.data }], guard := none }, { dst := some 85, op := Op.move (Operand.tmp 9), type := 83, pos := "ref.go:284", after := #[], guard := none }, { dst := some 86, op := Op.load 82 (Operand.tmp 15), type := 82, pos := "ref.go:284", after := #[], guard := none }, { dst := some 87, op := Op.call { callee := Callee.value (Operand.func 46), args := #[Operand.tmp 85, Operand.tmp 86], argTypes := #[83, 82] }, type := 3, pos := "ref.go:284", after := #[{ on := 5, ground := Ground.data }, { on := 6, ground := Ground.data }], guard := none }, { dst := some 88, op := Op.build 58 #[(0, Operand.tmp 84), (1, Operand.tmp 87)], type := 58, pos := "ref.go:284", after := #[{ on := 4, ground := Ground.data }, { on := 7, ground := Ground.data }], guard := none }, { dst := some 89, op := Op.buildSlice 59 1 #[(0, Operand.tmp 88)], type := 59, pos := "ref.go:284", after := #[{ on := 8, ground := Ground.data }], guard := none }, { dst := some 90, op := Op.call { callee := Callee.builtin Builtin.append, args := #[Operand.tmp 80, Operand.tmp 89], argTypes := #[59, 59] }, type := 59, pos := "ref.go:284", after := #[{ on := 0, ground := Ground.data }, { on := 9, ground := Ground.data }, { on := 7, ground := Ground.chain }], guard := none }, { dst := some 13, op := Op.assign (Operand.tmp 90), type := 59, pos := "ref.go:284", after := #[{ on := 10, ground := Ground.data }, { on := 10, ground := Ground.chain }, { on := 0, ground := Ground.phase }, { on := 1, ground := Ground.phase }, { on := 2, ground := Ground.phase }, { on := 3, ground := Ground.phase }, { on := 4, ground := Ground.phase }, { on := 5, ground := Ground.phase }, { on := 6, ground := Ground.phase }, { on := 7, ground := Ground.phase }, { on := 8, ground := Ground.phase }, { on := 9, ground := Ground.phase }, { on := 10, ground := Ground.phase }], guard := none }] true).wp Tryz.prog Q ⟨#[x0, x1, x2, x3, x4, x5, x6, x7, x8, .slice na nl nc, x10, x11, .slice (some ⟨gr, 0, none⟩) nr cr, .slice la j lc, .int .i64 (j : Int), .pointer (some ⟨bn, 0, none⟩), x16, x17, x18, x19, x20, x21, x22, x23, x24, x25, x26, x27, x28, x29, x30, x31, x32, x33, x34, x35, x36, x37, x38, x39, x40, x41, x42, x43, x44, x45, x46, x47, x48, x49, x50, x51, x52, x53, x54, x55, x56, x57, x58, x59, x60, x61, x62, x63, x64, x65, x66, x67, x68, x69, x70, x71, x72, x73, x74, x75, x76, x77, x78, x79, x80, x81, x82, x83, x84, x85, x86, x87, x88, x89, x90, x91, x92, x93, x94, x95, x96, x97, x98, x99, x100, x101, x102, x103, x104, x105, x106], []⟩ w := by
  have hj0 : (0 : Int) ≤ (j : Int) := by omega
  have kd := hkp.out w.drew w.drew (Qt.mk1 w).below (KeepX.refl _ _)
  have hc8 : Hid (∀ u ∈ [Value.int .i64 r0, .int .i64 r1, .int .i64 r2, .int .i64 r3, .int .i64 r4, .int .i64 r5, .int .i64 r6, .int .i64 (q : Int)], u.oneCell' = true) := fun u hu => by
    simp only [List.mem_cons, List.not_mem_nil, or_false] at hu
    rcases hu with rfl | rfl | rfl | rfl | rfl | rfl | rfl | rfl <;> rfl
  go_region_held3 (fun w' => w'.cell? ⟨bn, 0, none⟩ = some (.int .i64 y0) ∧ w'.cell? ⟨bn, 1, none⟩ = some (.int .i64 ys) ∧ w'.cell? ⟨bn, 2, none⟩ = some (.int .i64 yf) ∧ w'.cell? ⟨bn, 3, none⟩ = some (.slice ya yl yc) ∧ w'.cell? ⟨gr, j * 7, none⟩ = some (.int .i64 r0) ∧ w'.cell? ⟨gr, j * 7 + 1, none⟩ = some (.int .i64 r1) ∧ w'.cell? ⟨gr, j * 7 + 2, none⟩ = some (.int .i64 r2) ∧ w'.cell? ⟨gr, j * 7 + 3, none⟩ = some (.int .i64 r3) ∧ w'.cell? ⟨gr, j * 7 + 4, none⟩ = some (.int .i64 r4) ∧ w'.cell? ⟨gr, j * 7 + 5, none⟩ = some (.int .i64 r5) ∧ w'.cell? ⟨gr, j * 7 + 6, none⟩ = some (.int .i64 r6))
    (first
      | (exact kep11 kd)
      | (exact kep11 (hkp.out _ _ hB9 (KeepX.refl _ _)))
      | (exact kep11 (hkp.out _ _ hB10 hx10))
      | go_keep)
    (first
      | (go_at_call 46; (with_reducible refine (HP.out _ (Below.refl _ _).drew).mono ?_); rintro e w9 ⟨rfl, hb9⟩; have hB9 : Below w.heap.size w w9 := below_of_drew hb9; have hB10 := hB9.alloc hB9.size (.cells #[.int .i64 r0, .int .i64 r1, .int .i64 r2, .int .i64 r3, .int .i64 r4, .int .i64 r5, .int .i64 r6, .int .i64 (q : Int)] 58); have hml9 := hml.out.keep (EI.stab _) hB10; have hs9 : base ≤ (w9.alloc (.cells #[.int .i64 r0, .int .i64 r1, .int .i64 r2, .int .i64 r3, .int .i64 r4, .int .i64 r5, .int .i64 r6, .int .i64 (q : Int)] 58)).heap.size := Nat.le_trans hbase hB10.size)
      | ((refine step_appX (cs := [.int .i64 r0, .int .i64 r1, .int .i64 r2, .int .i64 r3, .int .i64 r4, .int .i64 r5, .int .i64 r6, .int .i64 (q : Int)]) (x := [r0, r1, r2, r3, r4, r5, r6, (q : Int)]) elemMv (by decide) (by decide) (EI.stab _) (by rfl) _ _ (by rfl) (by rfl) hml9 ⟨w9.heap.size, 0, none⟩ 1 (by rfl) rfl newCells hc8.out rfl hj9 hs9 ?_; intro lv w10 hml10 hg10 hn10 hb10 hx10; obtain ⟨a9, c9, hlv⟩ := hml10.shape; subst hlv)))
  all_goals go_wp2
  all_goals exact h _ _ _ _ _ _ _ _ _ _ _ _ _ _ _ hml10 hB10 hs9 hb10 hx10
end Go.Proofs.YtiiiegflobihjaaGreat

/- The reference's Then at well-formed adversaries. -/
namespace Go.Proofs.YtiiiegflobihjaaGreat
open Go.RowKit

set_option maxRecDepth 100000 in
set_option maxHeartbeats 25600000 in
theorem refThenGood {w : World} {u v : Value} {m n k : Int} {az bz : List (List (List Int))} (hx : AdvV w u m az) (hy : AdvV w v n bz) (h0 : eqErr m n az bz = 0) (sA : AdS az) (sB : AdS bz) (hk : 0 ≤ k ∧ k ≤ 6) :
    Calls Tryz.prog 16 #[u, .int .i64 k, v] w (BdOut w m (thA az bz k)) := by
  obtain ⟨aa, ac, hu⟩ := advShape' hx
  obtain ⟨ba, bc, hv⟩ := advShape' hy
  subst hu hv
  obtain ⟨W1, hW1⟩ : ∃ W1, W1 = ((w.alloc (.cells #[.int .i64 m, .slice aa az.length ac] 24)).alloc (.cells #[.int .i64 n, .slice ba bz.length bc] 24)).alloc (.cells #[.int .i64 0, .slice none 0 0] 24) := ⟨_, rfl⟩
  obtain ⟨hb1, kA, kB, kR, hz1⟩ := thBox3 hW1
  have HC := Lib.hid (refBoth18 (hx.keep hb1) (hy.keep hb1))
  rw [h0] at HC
  obtain ⟨a0, a1⟩ := box2 kA
  obtain ⟨b0, b1⟩ := box2 kB
  rw [hW1] at a0 a1 b0 b1
  have HAV := Lib.hid (fun W (hb : Below w.heap.size w W) => hx.keep hb)
  have HBV := Lib.hid (fun W (hb : Below w.heap.size w W) => hy.keep hb)
  have hP0 := PT.first sA sB hk.1
  have hR := thA_eq az bz k
  obtain ⟨R, hRR⟩ : ∃ R, thA az bz k = R := ⟨_, rfl⟩
  rw [hRR] at hR ⊢
  have hK0 : Hid (exG (thSt az bz k) 300 0 [thFs k] [] = some R) := hR
  replace hRR := Lib.hid hRR
  have hk0 := hk.1
  have hk6 := hk.2
  clear hx hy h0 hR
  go_enter Tryz.func16, Tryz.ntmps16
  go_wp2_with fail
  rw [← hW1]
  clear a0 a1 b0 b1
  replace hW1 := Lib.hid hW1
  refine HC.out.mono ?_
  rintro e W2 ⟨rfl, hb2⟩
  have kA2 := kept hb2 kA
  have kB2 := kept hb2 kB
  have kR2 := kept hb2 kR
  have hbw2 := bt hb1 hb2 hb1.size
  have hz2 : w.heap.size + 1 + 1 + 1 ≤ W2.heap.size := by rw [← hz1]; exact hb2.size
  replace hz1 := Lib.hid hz1
  clear kA kB kR
  go_upto_if 33 with fail
  go_cut [9] (fun fv wx => ∃ g, fv = .slice (some ⟨g, 0, none⟩) 1 1 ∧ OwX 82 4 ESg wx w.heap.size (.slice (some ⟨g, 0, none⟩) 1 1) 1 [thFs k] ∧ Below W2.heap.size W2 wx)
  case first =>
    obtain ⟨W3, hW3⟩ : ∃ W3, W3 = W2.alloc (.cells #[.int .i64 0, .int .i64 0, .int .i64 0, .slice none 0 0] 82) := ⟨_, rfl⟩
    have hb3 : Below W2.heap.size W2 W3 := by rw [hW3]; exact (Below.refl _ _).alloc (Nat.le_refl _) _
    have k3 : W3.heap[W2.heap.size]? = some (.cells #[.int .i64 0, .int .i64 0, .int .i64 0, .slice none 0 0] 82) := by rw [hW3]; exact heap_alloc_new _ _
    have hz3 : W3.heap.size = W2.heap.size + 1 := by rw [hW3, World.size_alloc]
    by_cases hk00 : k = 0
    · subst hk00
      obtain ⟨W4, hW4⟩ : ∃ W4, W4 = W3.alloc (.cells #[.int .i64 0] 3) := ⟨_, rfl⟩
      have k4 : W4.heap[W2.heap.size + 1]? = some (.cells #[.int .i64 0] 3) := by rw [hW4, ← hz3]; exact heap_alloc_new _ _
      have hz4 : W4.heap.size = W2.heap.size + 1 + 1 := by rw [hW4, World.size_alloc, hz3]
      obtain ⟨W5, hW5⟩ : ∃ W5, W5 = W4.alloc (.cells #[.int .i64 0, .int .i64 0, .int .i64 0, .slice (some ⟨W2.heap.size + 1, 0, none⟩) 1 1] 82) := ⟨_, rfl⟩
      have k5 : W5.heap[W2.heap.size + 1 + 1]? = some (.cells #[.int .i64 0, .int .i64 0, .int .i64 0, .slice (some ⟨W2.heap.size + 1, 0, none⟩) 1 1] 82) := by rw [hW5, ← hz4]; exact heap_alloc_new _ _
      have hb4 : Below W3.heap.size W3 W4 := by rw [hW4]; exact (Below.refl _ _).alloc (Nat.le_refl _) _
      have hb5 : Below W4.heap.size W4 W5 := by rw [hW5]; exact (Below.refl _ _).alloc (Nat.le_refl _) _
      have hOI : OI W5 0 (.slice (some ⟨W2.heap.size + 1, 0, none⟩) 1 1) 1 (natI [0]) := ⟨rfl, .inr ⟨_, 1, _, rfl, Nat.zero_le _, kept hb5 k4, Nat.le_refl _, by unfold maxLen; omega, rfl, rfl⟩⟩
      have hrow : OwX 82 4 ESg W5 w.heap.size (.slice (some ⟨W2.heap.size + 1 + 1, 0, none⟩) 1 1) 1 [thFs 0] := by
        refine ⟨[.int .i64 0, .int .i64 0, .int .i64 0, .slice (some ⟨W2.heap.size + 1, 0, none⟩) 1 1], ⟨rfl, .inr ⟨_, 1, _, rfl, by omega, k5, Nat.le_refl _, by unfold maxLen; omega, rfl, rfl⟩⟩, rfl, ?_, ?_⟩
        · intro u hu; simp only [List.mem_cons, List.not_mem_nil, or_false] at hu; rcases hu with rfl | rfl | rfl | rfl <;> rfl
        · intro j x hj
          cases j with
          | zero => simp only [List.getElem?_cons_zero, Option.some.injEq] at hj; subst hj; exact ⟨_, rfl, hOI⟩
          | succ j => simp at hj
      have hbf := btt hb3 (btt hb4 hb5)
      replace hz3 := Lib.hid hz3
      replace hz4 := Lib.hid hz4
      replace hW3 := Lib.hid hW3
      replace hW4 := Lib.hid hW4
      replace hW5 := Lib.hid hW5
      clear k3 k4 k5 kA2 kB2 kR2
      go_wp2
      go_meet
      rw [← hW3.out, ← hW4.out, ← hW5.out]
      exact ⟨_, rfl, hrow, hbf⟩
    · have hke : (k == 0) = false := by simp [hk00]
      have hrow : OwX 82 4 ESg W3 w.heap.size (.slice (some ⟨W2.heap.size, 0, none⟩) 1 1) 1 [thFs k] := by
        refine ⟨[.int .i64 0, .int .i64 0, .int .i64 0, .slice none 0 0], ⟨rfl, .inr ⟨_, 1, _, rfl, by omega, k3, Nat.le_refl _, by unfold maxLen; omega, rfl, rfl⟩⟩, rfl, ?_, ?_⟩
        · intro u hu; simp only [List.mem_cons, List.not_mem_nil, or_false] at hu; rcases hu with rfl | rfl | rfl | rfl <;> rfl
        · intro j x hj
          cases j with
          | zero => simp only [List.getElem?_cons_zero, Option.some.injEq] at hj; subst hj; rw [thFs, if_neg hk00]; exact ⟨_, rfl, OI.nil _ _⟩
          | succ j => simp at hj
      replace hz3 := Lib.hid hz3
      replace hk00 := Lib.hid hk00
      replace hW3 := Lib.hid hW3
      clear k3 kA2 kB2 kR2
      go_wp2
      go_meet
      rw [← hW3.out]
      exact ⟨_, rfl, hrow, hb3⟩
  case rest =>
    obtain ⟨g, rfl, hfo0, hbc⟩ := hcut
    have kAc := kept hbc kA2
    have kBc := kept hbc kB2
    have kRc := kept hbc kR2
    have hbwc := bt hbw2 hbc hbw2.size
    have hzc : w.heap.size + 1 + 1 + 1 ≤ wc.heap.size := Nat.le_trans hz2 hbc.size
    obtain ⟨bo, hbo⟩ : ∃ bo, wc.heap.size = bo := ⟨_, rfl⟩
    obtain ⟨W3, hW3⟩ : ∃ W3, W3 = wc.alloc (.cells #[.int .i64 m, .slice none 0 0] 24) := ⟨_, rfl⟩
    have hb3 : Below wc.heap.size wc W3 := by rw [hW3]; exact (Below.refl _ _).alloc (Nat.le_refl _) _
    have kO : W3.heap[bo]? = some (.cells #[.int .i64 m, .slice none 0 0] 24) := by rw [hW3, ← hbo]; exact heap_alloc_new _ _
    have kA := kept hb3 kAc
    have kB := kept hb3 kBc
    have kR := kept hb3 kRc
    have hbw3 := bt hbwc hb3 hbwc.size
    have hnd1 := hfo0.keep (ESg.stab (by decide)) hb3
    have hbo3 : w.heap.size + 1 + 1 < bo := by omega
    obtain ⟨a0, a1⟩ := box2 kAc
    replace hW3 := Lib.hid hW3
    replace hbo := Lib.hid hbo
    clear kAc kBc kRc kA2 kB2 kR2 hfo0
    go_wp2_with fail
    rw [hbo.out, ← hW3.out]
    clear a0 a1
    go_loopg [9, 11] 300 (fun f nv iv wr => ∃ (i : Nat) (nodes : List Nd) (out : List (List (List Int))) (sv : Value), iv = .int .i64 i ∧ OwX 82 4 ESg wr w.heap.size nv nodes.length nodes ∧ wr.heap[bo]? = some (.cells #[.int .i64 m, sv] 24) ∧
      OwX 59 1 ESt wr w.heap.size sv out.length out ∧ Below w.heap.size w wr ∧ wr.heap[w.heap.size]? = some (.cells #[.int .i64 m, .slice aa az.length ac] 24) ∧ wr.heap[w.heap.size + 1]? = some (.cells #[.int .i64 n, .slice ba bz.length bc] 24) ∧ wr.heap[w.heap.size + 1 + 1]? = some (.cells #[.int .i64 0, .slice none 0 0] 24) ∧
      Hid (exG (thSt az bz k) f i nodes out = some R) ∧ i ≤ nodes.length ∧ nodes.length ≤ 256 ∧ movesN out ≤ 4096 ∧ Hid (out.length = i) ∧ Hid ((∀ x ∈ nodes, PT az bz k x) ∧ nodes.Nodup))
    case atStart => exact ⟨0, [thFs k], [], .slice none 0 0, rfl, hnd1, kO, OwX.nil _ _, hbw3, kA, kB, kR, hK0, by simp, by simp, by simp [movesN], rfl, ⟨by intro x hx; rw [List.mem_singleton.1 hx]; exact hP0, by simp⟩⟩
    case round =>
      clear hK0 hnd1 kO hbw3 kA kB kR
      obtain ⟨i, nodes, out, sv, rfl, hnd, kO, hst, hbw, kA, kB, kR, hg, hi, hn256, hm4, hol, hPn⟩ := hrel
      obtain ⟨f, rfl⟩ : ∃ f, gk = f + 1 := by
        cases gk with
        | zero => exact absurd hg.out (by simp [exG])
        | succ f => exact ⟨f, rfl⟩
      have hol9 : out.length ≤ 256 := by rw [hol.out]; omega
      obtain ⟨sva, svc, hsv⟩ := hst.shape
      subst hsv
      obtain ⟨wo, hwo⟩ : ∃ wo, wo = wr := ⟨_, rfl⟩
      subst hwo
      by_cases hlt : i < nodes.length
      · obtain ⟨gn, cn, hnv, _⟩ := hnd.form (by omega)
        subst hnv
        obtain ⟨x, hxi⟩ : ∃ x, nodes[i]? = some x := ⟨_, List.getElem?_eq_getElem hlt⟩
        have hPx := hPn.out.1 x (List.mem_of_getElem? hxi)
        obtain ⟨xv, e0, e1, e2, e3, hxv⟩ := sgCells hnd hxi
        have hps := Lib.hid (thSt_ok sA sB hPx).1
        have hsl := (thSt_ok sA sB hPx).2
        have hst2 := thSt_ref (bz := bz) sA hPx
        obtain ⟨st, hstp⟩ : ∃ st, thSt az bz k x = st := ⟨_, rfl⟩
        rw [hstp] at hps hsl hst2
        have hRl : (rfRs az bz k x).length = st.length := by rw [hst2, List.length_map]
        have HN := Lib.hid (fun W (hb : Below wo.heap.size wo W) => rfThen (HAV.out W (bt hbw hb hbw.size)) (HBV.out W (bt hbw hb hbw.size)) sA sB hPx (hxv.keep hb))
        have HLd := Lib.hid (fun W (hb : Below w.heap.size w W) xv' (hv' : OI W 0 xv' x.2.2.length (natI x.2.2)) r0 r1 r2 r3 r4 r5 r6 hr => rfLead (HAV.out W hb) (HBV.out W hb) sB ⟨hk0, by omega⟩ hPx hv' r0 r1 r2 r3 r4 r5 r6 hr)
        obtain ⟨RS, hRS⟩ : ∃ RS, rfRs az bz k x = RS := ⟨_, rfl⟩
        simp only [hRS] at HN HLd
        rw [hRS] at hst2 hRl
        obtain ⟨x0, hx0⟩ : ∃ a, x.1 = a := ⟨_, rfl⟩
        obtain ⟨xs, hxs⟩ : ∃ a, sgS x = a := ⟨_, rfl⟩
        obtain ⟨xf, hxf⟩ : ∃ a, sgF x = a := ⟨_, rfl⟩
        simp only [hx0, hxs, hxf] at HN HLd
        rw [hx0] at e0
        rw [hxs] at e1
        rw [hxf] at e2
        obtain ⟨va, vc, hvx⟩ := hxv.shape
        subst hvx
        have hii : (i : Int) < (nodes.length : Int) := by omega
        obtain ⟨p0, p1⟩ := box2 kA
        obtain ⟨q0, q1⟩ := box2 kB
        have hkp := Lib.hid (fun (W : World) (hb : Below wo.heap.size wo W) => show W.cell? ⟨w.heap.size, 0, none⟩ = some (.int .i64 m) ∧ W.cell? ⟨w.heap.size, 1, none⟩ = some (.slice aa az.length ac) ∧ W.cell? ⟨w.heap.size + 1, 0, none⟩ = some (.int .i64 n) ∧ W.cell? ⟨w.heap.size + 1, 1, none⟩ = some (.slice ba bz.length bc) ∧ W.cell? ⟨gn, i * 4, none⟩ = some (.int .i64 x0) ∧ W.cell? ⟨gn, i * 4 + 1, none⟩ = some (.int .i64 xs) ∧ W.cell? ⟨gn, i * 4 + 2, none⟩ = some (.int .i64 xf) ∧ W.cell? ⟨gn, i * 4 + 3, none⟩ = some (.slice va x.2.2.length vc) from ⟨cell_kept hb p0, cell_kept hb p1, cell_kept hb q0, cell_kept hb q1, cell_kept hb e0, cell_kept hb e1, cell_kept hb e2, cell_kept hb e3⟩)
        have kd := hkp.out wo.drew (Qt.mk1 wo).below
        have HN1 := Lib.hid (HN.out wo.drew (Qt.mk1 wo).below)
        replace hxi := Lib.hid hxi
        replace hPx := Lib.hid hPx
        replace hstp := Lib.hid hstp
        replace hst2 := Lib.hid hst2
        replace hRl := Lib.hid hRl
        replace hRS := Lib.hid hRS
        replace hx0 := Lib.hid hx0
        replace hxs := Lib.hid hxs
        replace hxf := Lib.hid hxf
        obtain ⟨xl, hxl⟩ : ∃ l, x.2.2.length = l := ⟨_, rfl⟩
        rw [hxl] at HN1 hkp kd e3
        replace hxl := Lib.hid hxl
        clear p0 p1 q0 q1 e0 e1 e2 e3
        go_wp2_with fail
        go_region_held3 (fun w' => w'.cell? ⟨w.heap.size, 0, none⟩ = some (.int .i64 m) ∧ w'.cell? ⟨w.heap.size, 1, none⟩ = some (.slice aa az.length ac) ∧ w'.cell? ⟨w.heap.size + 1, 0, none⟩ = some (.int .i64 n) ∧ w'.cell? ⟨w.heap.size + 1, 1, none⟩ = some (.slice ba bz.length bc) ∧ w'.cell? ⟨gn, i * 4, none⟩ = some (.int .i64 x0) ∧ w'.cell? ⟨gn, i * 4 + 1, none⟩ = some (.int .i64 xs) ∧ w'.cell? ⟨gn, i * 4 + 2, none⟩ = some (.int .i64 xf) ∧ w'.cell? ⟨gn, i * 4 + 3, none⟩ = some (.slice va xl vc))
          (first
            | (exact kep8 kd)
            | (exact kep8 (hkp.out _ hB5))
            | go_keep)
          (first
            | (go_at_call 44; (with_reducible refine HN1.out.mono ?_); rintro e w5 ⟨v5, rfl, hRo, hb5⟩; have hB5 : Below wo.heap.size wo w5 := btt (Qt.mk1 wo).below hb5))
        obtain ⟨ra, rc, hv5⟩ := hRo.shape
        subst hv5
        have hnd5 := hnd.keep (ESg.stab (by decide)) hB5
        have hst5 := hst.keep (ESt.stab (by decide)) hB5
        have kA5 := kept hB5 kA
        have kB5 := kept hB5 kB
        have kR5 := kept hB5 kR
        have kO5 := kept hB5 kO
        have hbw5 := bt hbw hB5 hbw.size
        have hl0 : OwX 58 8 EI w5 w5.heap.size (.slice none 0 0) 0 ((exL nodes st).take 0) := OwX.nil _ _
        have hX0 : KeepX 82 w5 w5 := KeepX.refl _ _
        have hell : (exL nodes st).length = st.length := exL_length
        have hnP : Hid (∀ q z, z ∈ exN nodes (st.take q) → PT az bz k z) := fun q z hz => by
          rcases exN_mem hz with hz | ⟨a, ha, rfl⟩
          · exact hPn.out.1 z hz
          · exact (hps.out a (List.mem_of_mem_take ha)).1
        have hnL : Hid (∀ q, (exN nodes (st.take q)).length ≤ 1056) := fun q => by
          have h1 := exN_len (nodes := nodes) (az := st.take q)
          have h2 := List.length_take_le' q st
          omega
        have hRc := Lib.hid (fun W (hX : KeepX 82 w5 W) => hRo.other (E' := 82) (EI.stab _) (by decide) hX)
        replace hell := Lib.hid hell
        clear hRo hnd hst kA kB kR kO kd HN HN1 hkp hxv hB5 hb5
        go_wp2_with fail
        go_loopw [9, 13, 14] (fun nv lv jv wr => ∃ j : Nat, jv = .int .i64 j ∧ j ≤ RS.length ∧ OwX 82 4 ESg wr w.heap.size nv (exN nodes (st.take j)).length (exN nodes (st.take j)) ∧ OwX 58 8 EI wr w5.heap.size lv j ((exL nodes st).take j) ∧
          KeepX 82 w5 wr ∧ Below w.heap.size w wr ∧ w5.heap.size ≤ wr.heap.size) (fun _ _ jv _ => RS.length - (intOf jv).toNat)
        case atStart => exact ⟨0, rfl, by omega, hnd5, hl0, hX0, hbw5, Nat.le_refl _⟩
        case round =>
          clear hnd5 hl0 hX0
          obtain ⟨j, rfl, hj, hnd, hml, hX, hbr, hsz⟩ := hrel
          obtain ⟨la, lc, hlv⟩ := hml.shape
          subst hlv
          have hRo := hRc.out wr hX
          by_cases hltj : j < RS.length
          · have hji : (j : Int) < (RS.length : Int) := by omega
            obtain ⟨gr, cr, hre, _⟩ := hRo.form (by omega)
            obtain ⟨rfl, rfl⟩ : ra = some ⟨gr, 0, none⟩ ∧ rc = cr := by injection hre with h1 h2 h3; exact ⟨h1, h3⟩
            obtain ⟨hm7, hmc⟩ := hRo.intCells hltj
            obtain ⟨r, hr⟩ : ∃ r, RS.getD j [] = r := ⟨_, rfl⟩
            rw [hr] at hm7 hmc
            have hRj : RS[j]? = some r := by rw [← hr, getD_eq hltj]; exact List.getElem?_eq_getElem hltj
            have hsj : st[j]? = some (r, rfTo az bz k x r) := by rw [hst2.out, List.getElem?_map, hRj]; rfl
            have hrm : r ∈ RS := List.mem_of_getElem? hRj
            obtain ⟨r0, r1, r2, r3, r4, r5, r6, rfl⟩ := seven hm7
            obtain ⟨y, hy⟩ : ∃ y, rfTo az bz k x [r0, r1, r2, r3, r4, r5, r6] = y := ⟨_, rfl⟩
            have hPy := (hps.out _ (List.mem_of_getElem? hsj)).1
            rw [hy] at hPy hsj
            have hPy : PT az bz k y := hPy
            have hy8 := hPy.setLen sB
            obtain ⟨FF, hFF⟩ : ∃ FF, exN nodes (st.take j) = FF := ⟨_, rfl⟩
            rw [hFF] at hnd
            have hFi : FF[i]? = some x := by
              obtain ⟨tl, htl⟩ := dd_pre ((st.take j).map Prod.snd) nodes
              have htl : exN nodes (st.take j) = nodes ++ tl := htl
              rw [← hFF, htl, List.getElem?_append_left hlt]; exact hxi.out
            have hFl : i < FF.length := (List.getElem?_eq_some_iff.1 hFi).1
            have hFL : FF.length ≤ 1056 := by rw [← hFF]; exact hnL.out j
            have hFP : Hid (∀ z ∈ FF, z.2.2.length ≤ 1000) := fun z hz => by
              rw [← hFF] at hz
              exact Nat.le_trans ((hnP.out j z hz).setLen sB) (by decide)
            obtain ⟨g2, c2, hnv, _⟩ := hnd.form (by omega)
            subst hnv
            obtain ⟨xv2, e0, e1, e2, e3, hxv2⟩ := sgCells hnd hFi
            rw [hx0.out] at e0
            rw [hxs.out] at e1
            rw [hxf.out] at e2
            obtain ⟨y0, hy0⟩ : ∃ a, y.1 = a := ⟨_, rfl⟩
            obtain ⟨ys, hys⟩ : ∃ a, sgS y = a := ⟨_, rfl⟩
            obtain ⟨yf, hyf⟩ : ∃ a, sgF y = a := ⟨_, rfl⟩
            obtain ⟨yl, hyl⟩ : ∃ l, y.2.2.length = l := ⟨_, rfl⟩
            have HL2 : ∀ W (hb : Below wr.heap.size wr W), Calls Tryz.prog 45 #[.agg #[.int .i64 m, .slice aa az.length ac], .agg #[.int .i64 n, .slice ba bz.length bc], .int .i64 k, .agg #[.int .i64 x0, .int .i64 xs, .int .i64 xf, xv2], .agg #[.int .i64 r0, .int .i64 r1, .int .i64 r2, .int .i64 r3, .int .i64 r4, .int .i64 r5, .int .i64 r6]] W (fun e w' => ∃ v, e = .returned (.agg #[.int .i64 y0, .int .i64 ys, .int .i64 yf, v]) ∧ OI w' 0 v yl (natI y.2.2) ∧ Below W.heap.size W w') := fun W hb =>
              (HLd.out W (bt hbr hb hbr.size) xv2 (hxv2.keep hb) r0 r1 r2 r3 r4 r5 r6 hrm).mono (by
                rintro e w' ⟨v, h1, h2, h3⟩
                rw [hy] at h1 h2
                exact ⟨v, by rw [h1, sgV, hy0, hys, hyf], by rw [← hyl]; exact h2, h3⟩)
            obtain ⟨va2, vc2, hvx⟩ := hxv2.shape
            subst hvx
            rw [hxl.out] at HL2 e3
            replace HL2 := Lib.hid HL2
            obtain ⟨c0, c1, c2', c3, c4, c5, c6⟩ := hmc.all7
            have kA := hX.size kA5 (by decide)
            have kB := hX.size kB5 (by decide)
            obtain ⟨p0, p1⟩ := box2 kA
            obtain ⟨q0, q1⟩ := box2 kB
            have hkp := Lib.hid (fun (W : World) (hb : Below wr.heap.size wr W) => show W.cell? ⟨w.heap.size, 0, none⟩ = some (.int .i64 m) ∧ W.cell? ⟨w.heap.size, 1, none⟩ = some (.slice aa az.length ac) ∧ W.cell? ⟨w.heap.size + 1, 0, none⟩ = some (.int .i64 n) ∧ W.cell? ⟨w.heap.size + 1, 1, none⟩ = some (.slice ba bz.length bc) ∧ W.cell? ⟨g2, i * 4, none⟩ = some (.int .i64 x0) ∧ W.cell? ⟨g2, i * 4 + 1, none⟩ = some (.int .i64 xs) ∧ W.cell? ⟨g2, i * 4 + 2, none⟩ = some (.int .i64 xf) ∧ W.cell? ⟨g2, i * 4 + 3, none⟩ = some (.slice va2 xl vc2) ∧ W.cell? ⟨gr, j * 7, none⟩ = some (.int .i64 r0) ∧ W.cell? ⟨gr, j * 7 + 1, none⟩ = some (.int .i64 r1) ∧ W.cell? ⟨gr, j * 7 + 2, none⟩ = some (.int .i64 r2) ∧ W.cell? ⟨gr, j * 7 + 3, none⟩ = some (.int .i64 r3) ∧ W.cell? ⟨gr, j * 7 + 4, none⟩ = some (.int .i64 r4) ∧ W.cell? ⟨gr, j * 7 + 5, none⟩ = some (.int .i64 r5) ∧ W.cell? ⟨gr, j * 7 + 6, none⟩ = some (.int .i64 r6) from ⟨cell_kept hb p0, cell_kept hb p1, cell_kept hb q0, cell_kept hb q1, cell_kept hb e0, cell_kept hb e1, cell_kept hb e2, cell_kept hb e3, cell_kept hb c0, cell_kept hb c1, cell_kept hb c2', cell_kept hb c3, cell_kept hb c4, cell_kept hb c5, cell_kept hb c6⟩)
            have hiF : (i : Int) < (FF.length : Int) := by omega
            replace hRj := Lib.hid hRj
            replace hr := Lib.hid hr
            replace hsj := Lib.hid hsj
            replace hFi := Lib.hid hFi
            replace hFF := Lib.hid hFF
            replace hy := Lib.hid hy
            replace hy0 := Lib.hid hy0
            replace hys := Lib.hid hys
            replace hyf := Lib.hid hyf
            replace hyl := Lib.hid hyl
            replace hPy := Lib.hid hPy
            clear hmc hm7 hRo hre p0 p1 q0 q1 e0 e1 e2 e3 c0 c1 c2' c3 c4 c5 c6 hxv2 kA kB
            go_upto_region 18 with fail
            refine regTh18 hkp hiF hji HL2 ?_
            intro wx bn ya yc _ _ _ _ _ _ _ _ _ _ _ _ kN hyv hbn hbnl
            have hndc := hnd.keep (ESg.stab (by decide)) hbn
            have hmlc := hml.keep (EI.stab _) hbn
            have hXc := hX.trans (KeepX.below hbn)
            have hbrc := bt hbr hbn hbr.size
            have hszc := Nat.le_trans hsz hbn.size
            have hyl1 : yl ≤ 1000 := by rw [← hyl.out]; omega
            have hj9 : j ≤ 1000000000000 := by
              have h1 := hRl.out
              omega
            have hneN := hnd.ownLt hbnl
            have HPl := Lib.hid (fun W (NN : List Nd) (v : Value) (hO : OwX 82 4 ESg W w.heap.size v NN.length NN) (hl : NN.length ≤ 1000000) (hN : ∀ z ∈ NN, z.2.2.length ≤ 1000) (hv : OI W 0 (.slice ya yl yc) yl (natI y.2.2)) => show Calls Tryz.prog 46 #[v, .agg #[.int .i64 y0, .int .i64 ys, .int .i64 yf, .slice ya yl yc]] W (fun e w' => e = .returned (.int .i64 (fndI NN y)) ∧ Below W.heap.size W w') from by
              have h := refPlace hO hl hN (y := y) (by rw [hyl.out]; exact hv) (by rw [hyl.out]; exact hyl1)
              rw [sgV, hy0.out, hys.out, hyf.out] at h
              exact h)
            have HP0 := Lib.hid (HPl.out wx FF _ hndc (by omega) hFP.out hyv)
            obtain ⟨n0, n1, n2, n3⟩ := box4 kN
            clear hnd hml hX hbr hsz hkp
            by_cases hin : y ∈ FF
            · obtain ⟨q, hq⟩ : ∃ q, ixOf FF y = q := ⟨_, rfl⟩
              have hfq0 : fndI FF y = (q : Int) := by rw [fndI, if_pos hin, hq]
              rw [hfq0] at HP0
              have hdq : decide ((q : Int) < 0) = false := decide_eq_false (by omega)
              have hsn0 := exL_in' (nodes := nodes) hsj.out (by rw [hFF.out]; exact hin)
              have hnn0 := exN_in' (nodes := nodes) hsj.out (by rw [hFF.out]; exact hin)
              rw [hFF.out, hq] at hsn0
              rw [hFF.out] at hnn0
              have hsn := Lib.hid (show (exL nodes st).take (j + 1) = (exL nodes st).take j ++ [[r0, r1, r2, r3, r4, r5, r6, (q : Int)]] from hsn0)
              replace hnn0 := Lib.hid hnn0
              replace hfq0 := Lib.hid hfq0
              replace hin := Lib.hid hin
              replace hq := Lib.hid hq
              clear hsn0
              go_wp2_with fail
              refine HP0.out.mono ?_
              rintro e w8 ⟨rfl, hb8⟩
              have hnd8 := hndc.keep (ESg.stab (by decide)) hb8
              have kN8 := kept hb8 kN
              have hyv8 := hyv.keep hb8
              have hml8 := Lib.hid (hmlc.keep (EI.stab _) hb8)
              have hX8 := hXc.trans (KeepX.below hb8)
              have hbr8 := bt hbrc hb8 hbrc.size
              have hsz8 := Nat.le_trans hszc hb8.size
              have HP8 := Lib.hid (fun W (hb : Below w8.heap.size w8 W) => show Calls Tryz.prog 46 #[.slice (some ⟨g2, 0, none⟩) FF.length c2, .agg #[.int .i64 y0, .int .i64 ys, .int .i64 yf, .slice ya yl yc]] W (fun e w' => e = .returned (.int .i64 (q : Int)) ∧ Below W.heap.size W w') from by
                have h := HPl.out W FF _ (hnd8.keep (ESg.stab (by decide)) hb) (by omega) hFP.out (hyv8.keep hb)
                rw [hfq0.out] at h; exact h)
              have hK8 := Lib.hid (fun (V W : World) (hB : Below w8.heap.size w8 V) (hx : KeepX 58 V W) => let h1 := box4 (hx.size (kept hB kN8) (by decide)); let h2 := (show CI W gr (j * 7) [r0, r1, r2, r3, r4, r5, r6] from by (have h := ((((hRc.out w8 hX8).keep (EI.stab _) hB).other (E' := 58) (EI.stab _) (by decide) hx).intCells hltj).2; rw [hr.out] at h; exact h)).all7; And.intro h1.1 (And.intro h1.2.1 (And.intro h1.2.2.1 (And.intro h1.2.2.2 h2))))
              clear hndc kN hmlc n0 n1 n2 n3
              go_upto_region 21 with fail
              refine regTh21 (q := q) hK8 hji hj9 hsz8 hml8 HP8 ?_
              intro W V a9 c9 _ _ _ _ _ _ _ _ _ _ _ hml10 hB10 hs9 hb10 hx10
              have hnd10 := (hnd8.keep (ESg.stab (by decide)) hB10).other (E' := 58) (ESg.stab (by decide)) (by decide) hx10
              have hX10 := (hX8.trans (KeepX.below hB10)).behind hb10
              have hbr10 := (bt hbr8 hB10 hbr8.size).trans (hb10.mono hbw5.size)
              have hsz10 := Nat.le_trans hs9 hb10.size
              rw [← hsn.out] at hml10
              clear hnd8 hml8 kN8 hX8 hbr8 hsz8 HP8 hK8
              go_wp2
              go_roundw
              case rel => exact ⟨j + 1, by go_num, hltj, by rw [hnn0.out]; exact hnd10, hml10, hX10, hbr10, hsz10⟩
              case measure => simp [intOf]; omega
            · have hfq0 : fndI FF y = -1 := by rw [fndI, if_neg hin]
              rw [hfq0] at HP0
              obtain ⟨q, hq⟩ : ∃ q, FF.length = q := ⟨_, rfl⟩
              have hfq : fndI (FF ++ [y]) y = (q : Int) := by
                rw [fndI, if_pos (by simp)]
                simp [ixOf, List.idxOf_append, hin, hq]
              have hnl8 : (FF ++ [y]).length ≤ 1000000 := by rw [List.length_append]; show _ + 1 ≤ _; omega
              have hsn0 := exL_out' (nodes := nodes) hsj.out (by rw [hFF.out]; exact hin)
              have hnn0 := exN_out' (nodes := nodes) hsj.out (by rw [hFF.out]; exact hin)
              rw [hFF.out, hq] at hsn0
              rw [hFF.out] at hnn0
              have hsn := Lib.hid (show (exL nodes st).take (j + 1) = (exL nodes st).take j ++ [[r0, r1, r2, r3, r4, r5, r6, (q : Int)]] from hsn0)
              have hnP8 : ∀ z ∈ FF ++ [y], z.2.2.length ≤ 1000 := fun z hz => by
                rcases List.mem_append.1 hz with hz | hz
                · exact hFP.out z hz
                · rw [List.mem_singleton.1 hz, hyl.out]; exact hyl1
              have hq9 : FF.length ≤ 1000000000000 := by omega
              obtain ⟨N8, hN8⟩ : ∃ N8, FF ++ [y] = N8 := ⟨_, rfl⟩
              rw [hN8] at hfq hnl8 hnn0 hnP8
              have hFl8 : FF.length + 1 = N8.length := by rw [← hN8, List.length_append]; rfl
              replace hnn0 := Lib.hid hnn0
              replace hnP8 := Lib.hid hnP8
              replace hN8 := Lib.hid hN8
              replace hin := Lib.hid hin
              replace hq := Lib.hid hq
              replace hfq := Lib.hid hfq
              replace hnl8 := Lib.hid hnl8
              replace hFl8 := Lib.hid hFl8
              clear hsn0 hfq0
              go_wp2_with fail
              refine HP0.out.mono ?_
              rintro e w7 ⟨rfl, hb7⟩
              have hA7 := hb7.alloc hb7.size (.cells #[.int .i64 y0, .int .i64 ys, .int .i64 yf, .slice ya yl yc] 82)
              have hnd7 := hndc.keep (ESg.stab (by decide)) hA7
              have kN7 := kept hb7 kN
              obtain ⟨p0, p1, p2, p3⟩ := box4 kN7
              have kN7a := kept hA7 kN
              have hyv7 := hyv.keep hA7
              have hc2 : ∀ u ∈ [Value.int .i64 y0, .int .i64 ys, .int .i64 yf, .slice ya yl yc], u.oneCell' = true := fun u hu => by
                simp only [List.mem_cons, List.not_mem_nil, or_false] at hu
                rcases hu with rfl | rfl | rfl | rfl <;> rfl
              have hEn : ESg (w7.alloc (.cells #[.int .i64 y0, .int .i64 ys, .int .i64 yf, .slice ya yl yc] 82)) [.int .i64 y0, .int .i64 ys, .int .i64 yf, .slice ya yl yc] y := ⟨.slice ya yl yc, by rw [hy0.out, hys.out, hyf.out], by rw [hyl.out]; exact hyv7⟩
              have hB9 : w.heap.size ≤ (w7.alloc (.cells #[.int .i64 y0, .int .i64 ys, .int .i64 yf, .slice ya yl yc] 82)).heap.size := Nat.le_trans hbrc.size hA7.size
              replace hc2 := Lib.hid hc2
              replace hEn := Lib.hid hEn
              clear n0 n1 n2 n3
              go_wp2_with (at_builtin; refine wpList_appX (x := y) (cs := [.int .i64 y0, .int .i64 ys, .int .i64 yf, .slice ya yl yc]) elemSg (by decide) (by decide) (ESg.stab (by decide)) rfl _ _ rfl rfl hnd7 ⟨w7.heap.size, 0, none⟩ 1 rfl rfl newCells hc2.out hEn.out hq9 hB9 ?_)
              intro nv2 w8 ho8 hg8 hn8 hb8 hx8
              have hnd8 : OwX 82 4 ESg w8 w.heap.size nv2 N8.length N8 := by rw [← hN8.out, List.length_append]; exact ho8
              obtain ⟨na2, nc2, hnv2⟩ := hnd8.shape
              subst hnv2
              have kN8 := grown_keep hg8 hneN kN7a
              have hyv8 := hyv7.other (by decide) hx8
              have hml8 := Lib.hid ((hmlc.keep (EI.stab _) hA7).other (E' := 82) (EI.stab _) (by decide) hx8)
              have hX8 := (hXc.trans (KeepX.below hA7)).trans hx8
              have hbr8 := (bt hbrc hA7 hbrc.size).trans hb8
              have hsz8 := Nat.le_trans (Nat.le_trans hszc hA7.size) hb8.size
              clear hndc kN hmlc p0 p1 p2 p3 hnd7 kN7 kN7a ho8 hB9 hyv7
              have HP8 := Lib.hid (fun W (hb : Below w8.heap.size w8 W) => show Calls Tryz.prog 46 #[.slice na2 N8.length nc2, .agg #[.int .i64 y0, .int .i64 ys, .int .i64 yf, .slice ya yl yc]] W (fun e w' => e = .returned (.int .i64 (q : Int)) ∧ Below W.heap.size W w') from by
                have h := HPl.out W N8 _ (hnd8.keep (ESg.stab (by decide)) hb) hnl8.out hnP8.out (hyv8.keep hb)
                rw [hfq.out] at h; exact h)
              have hK8 := Lib.hid (fun (V W : World) (hB : Below w8.heap.size w8 V) (hx : KeepX 58 V W) => let h1 := box4 (hx.size (kept hB kN8) (by decide)); let h2 := (show CI W gr (j * 7) [r0, r1, r2, r3, r4, r5, r6] from by (have h := ((((hRc.out w8 hX8).keep (EI.stab _) hB).other (E' := 58) (EI.stab _) (by decide) hx).intCells hltj).2; rw [hr.out] at h; exact h)).all7; And.intro h1.1 (And.intro h1.2.1 (And.intro h1.2.2.1 (And.intro h1.2.2.2 h2))))
              go_upto_region 21 with fail
              refine regTh21 (q := q) hK8 hji hj9 hsz8 hml8 HP8 ?_
              intro W V a9 c9 _ _ _ _ _ _ _ _ _ _ _ hml10 hB10 hs9 hb10 hx10
              have hnd10 := (hnd8.keep (ESg.stab (by decide)) hB10).other (E' := 58) (ESg.stab (by decide)) (by decide) hx10
              have hX10 := (hX8.trans (KeepX.below hB10)).behind hb10
              have hbr10 := (bt hbr8 hB10 hbr8.size).trans (hb10.mono hbw5.size)
              have hsz10 := Nat.le_trans hs9 hb10.size
              rw [← hsn.out] at hml10
              clear hnd8 hml8 kN8 hX8 hbr8 hsz8 HP8 hK8
              go_wp2
              go_roundw
              case rel => exact ⟨j + 1, by go_num, hltj, by rw [hnn0.out]; exact hnd10, hml10, hX10, hbr10, hsz10⟩
              case measure => simp [intOf]; omega
          · obtain rfl : j = RS.length := by omega
            have hge : ¬ ((RS.length : Int) < (RS.length : Int)) := by omega
            have hrl : RS.length = st.length := hRl.out
            rw [hrl] at hml hnd
            obtain ⟨na, nc, hnv⟩ := hnd.shape
            subst hnv
            have hlt2 : (exL nodes st).take st.length = exL nodes st := by rw [← hell.out, List.take_length]
            rw [hlt2] at hml
            rw [List.take_length] at hnd ⊢
            have hNP := Lib.hid (fun z (hz : z ∈ exN nodes st) => by have := hnP.out st.length z; rw [List.take_length] at this; exact this hz)
            have hND : Hid ((exN nodes st).Nodup) := exN_nodup hPn.out.2
            have hNL : (exN nodes st).length ≤ 1056 := by have := hnL.out st.length; rwa [List.take_length] at this
            have hst' := hst5.other (E' := 82) (ESt.stab (by decide)) (by decide) hX
            have kA := hX.size kA5 (by decide)
            have kB := hX.size kB5 (by decide)
            have kO := hX.size kO5 (by decide)
            have kR := hX.size kR5 (by decide)
            have hES : ESt wr [.slice la st.length lc] (exL nodes st) := ⟨_, rfl, by rw [hell.out]; exact hml.base (Nat.zero_le _)⟩
            have hmN := movesN_snoc out (exL nodes st)
            have hNg : nodes.length ≤ (exN nodes st).length := exN_ge
            rw [hell.out] at hmN
            have hgo := Lib.hid (fun (hb : ¬ (256 < (exN nodes st).length ∨ 4096 < movesN (out ++ [exL nodes st]))) => show exG (thSt az bz k) f (i + 1) (exN nodes st) (out ++ [exL nodes st]) = some R by
              rw [← hg.out]
              have h := exG_step (step := thSt az bz k) (f := f) (out := out) hxi.out (by rw [hstp.out]; exact hb)
              rw [hstp.out] at h
              exact h.symm)
            have hno := Lib.hid (fun (hb : 256 < (exN nodes st).length ∨ 4096 < movesN (out ++ [exL nodes st])) => show R = none by
              have h := exG_big (step := thSt az bz k) (f := f) (out := out) hxi.out (by rw [hstp.out]; exact hb)
              have h2 := hg.out
              rw [h] at h2
              injection h2 with h2
              exact h2.symm)
            rw [hmN] at hgo hno
            obtain ⟨Nn, hNn⟩ : ∃ Nn, exN nodes st = Nn := ⟨_, rfl⟩
            obtain ⟨l, hl⟩ : ∃ l, exL nodes st = l := ⟨_, rfl⟩
            rw [hNn] at hnd hNP hND hNL hgo hno hNg ⊢
            rw [hl] at hml hES hgo hmN
            obtain ⟨M, hM⟩ : ∃ M, movesN out = M := ⟨_, rfl⟩
            rw [hM] at hgo hno hmN hm4
            have hll : l.length = st.length := by rw [← hl]; exact hell.out
            have hc1 : ∀ u ∈ (#[.slice la st.length lc] : Array Value).toList, u.oneCell' = true := fun u hu => by
              rw [List.mem_singleton.1 hu]; rfl
            have hn9 : out.length ≤ 1000000000000 := by omega
            have d1 := box_cell (j := 1) kO rfl
            have hB9 : w.heap.size ≤ wr.heap.size := hbr.size
            have holi := hol.out
            have hol6 : out.length + 1 ≤ 256 := by omega
            replace hc1 := Lib.hid hc1
            replace hES := Lib.hid hES
            replace hmN := Lib.hid hmN
            replace hNn := Lib.hid hNn
            replace hl := Lib.hid hl
            replace hell := Lib.hid hell
            replace holi := Lib.hid holi
            replace hM := Lib.hid hM
            replace hll := Lib.hid hll
            clear hlt2 hnP hnL hX kA5 kB5 kR5 kO5 hst5 hg hRc hRo hst2 hRS hstp
            go_wp2_with (at_builtin; refine wpAppX (x := l) elemSt (by decide) (by decide) (ESt.stab (by decide)) rfl _ _ rfl rfl hst' rfl rfl rfl hc1.out hES.out hn9 hB9 ?_)
            intro sv2 w2 hst2 hg2 hb2 hx2
            obtain ⟨v2a, v2c, hsv2⟩ := hst2.shape
            subst hsv2
            have kA2 := hx2.size kA (by decide)
            have kB2 := hx2.size kB (by decide)
            have kO2 := hx2.size kO (by decide)
            have kR2 := hx2.size kR (by decide)
            have hnd2 := hnd.other (E' := 59) (ESg.stab (by decide)) (by decide) hx2
            have hbr2 := hbr.trans hb2
            obtain ⟨e0, e1⟩ := box2 kO2
            have ef1 := row_free kO2 1
            obtain ⟨w3, hw3⟩ : ∃ w3, w3 = w2.setCell ⟨bo, 1, none⟩ (.slice v2a (out.length + 1) v2c) := ⟨_, rfl⟩
            have kO3 : w3.heap[bo]? = some (.cells #[.int .i64 m, .slice v2a (out.length + 1) v2c] 24) := by rw [hw3]; exact two_setCell kO2
            have hX3 : KeepX 24 w2 w3 := by rw [hw3]; exact KeepX.setCell (p := ⟨bo, 1, none⟩) kO2 _
            have hst3 := hst2.other (E' := 24) (ESt.stab (by decide)) (by decide) hX3
            have hnd3 := hnd2.other (E' := 24) (ESg.stab (by decide)) (by decide) hX3
            have kA3 : w3.heap[w.heap.size]? = some (.cells #[.int .i64 m, .slice aa az.length ac] 24) := by rw [hw3]; exact (Below.heap_setCell _ _ _ _ (by show w.heap.size ≠ bo; omega)).trans kA2
            have kB3 : w3.heap[w.heap.size + 1]? = some (.cells #[.int .i64 n, .slice ba bz.length bc] 24) := by rw [hw3]; exact (Below.heap_setCell _ _ _ _ (by show w.heap.size + 1 ≠ bo; omega)).trans kB2
            have kR3 : w3.heap[w.heap.size + 1 + 1]? = some (.cells #[.int .i64 0, .slice none 0 0] 24) := by rw [hw3]; exact (Below.heap_setCell _ _ _ _ (by show w.heap.size + 1 + 1 ≠ bo; omega)).trans kR2
            have hbr3 : Below w.heap.size w w3 := by rw [hw3]; exact Below.setCell (p := ⟨bo, 1, none⟩) hbr2 (by show w.heap.size ≤ bo; omega) _
            have hmo : movesN (out ++ [l]) = M + st.length := hmN.out
            have hAd3 : AdvV w3 (.agg #[.int .i64 m, .slice v2a (out.length + 1) v2c]) m (out ++ [l]) := OwAdv.adv (show OwAdv w3 _ m (out ++ [l]) from ⟨_, rfl, by rw [List.length_append]; exact hst3.base (Nat.zero_le _), by rw [List.length_append]; show _ + 1 ≤ _; omega, fun x hx => by
              have h1 := mem_movesN hx
              rw [hmo] at h1; omega⟩)
            have HMv := Lib.hid (fun W (hb : Below w3.heap.size w3 W) => refMoves (hAd3.keep hb) (by rw [List.length_append]; exact hol6))
            rw [hmo] at HMv
            replace hmo := Lib.hid hmo
            have hK3 := Lib.hid (fun W (hb : Below w3.heap.size w3 W) => And.intro (hnd3.keep (ESg.stab (by decide)) hb) (And.intro (hst3.keep (ESt.stab (by decide)) hb) (And.intro (bt hbr3 hb hbr3.size) (And.intro ((hb.block _ (Array.getElem?_eq_some_iff.1 kO3).1).trans kO3) (And.intro ((hb.block _ (Array.getElem?_eq_some_iff.1 kA3).1).trans kA3) (And.intro ((hb.block _ (Array.getElem?_eq_some_iff.1 kB3).1).trans kB3) ((hb.block _ (Array.getElem?_eq_some_iff.1 kR3).1).trans kR3)))))))
            obtain ⟨o0, o1⟩ := box2 kO3
            obtain ⟨y0, y1⟩ := box2 kR3
            have yf0 := row_free kR3 0
            have yf1 := row_free kR3 1
            have z0 : w3.setCell ⟨w.heap.size + 1 + 1, 0, none⟩ (.int .i64 0) = w3 := setSame y0
            have z1 : w3.setCell ⟨w.heap.size + 1 + 1, 1, none⟩ (.slice none 0 0) = w3 := setSame y1
            replace hw3 := Lib.hid hw3.symm
            clear kA kB kO kR hst' hnd kA2 kB2 kO2 kR2 hst2 hnd2 d1 hAd3 hst3 hnd3
            by_cases h1 : 256 < Nn.length
            · have hd : decide (256 < (Nn.length : Int)) = true := decide_eq_true (by omega)
              have hRn := hno.out (.inl h1)
              subst hRn
              replace h1 := Lib.hid h1
              rw [← hw3.out] at y0 y1 yf0 yf1 z0 z1
              go_wp2
              refine bodyPost_ret (v := .tuple #[.agg #[.int .i64 0, .slice none 0 0], .int .i64 17]) (by simp [results, Tryz.results16, go_sem, y0, y1]) rfl ?_
              rw [hw3.out]
              exact BdOut.no hbr3
            · have hd : decide (256 < (Nn.length : Int)) = false := decide_eq_false (by omega)
              rw [← hw3.out] at o0 o1
              clear y0 y1 yf0 yf1 z0 z1
              go_wp2_with fail
              rw [hw3.out]
              refine (HMv.out w3 (Below.refl _ _)).mono ?_
              rintro e w4 ⟨rfl, hb4⟩
              obtain ⟨hnd4, hst4, hbr4, kO4, kA4, kB4, kR4⟩ := hK3.out w4 hb4
              by_cases h2 : 4096 < M + st.length
              · have hd2 : decide (4096 < (M : Int) + (st.length : Int)) = true := decide_eq_true (by omega)
                have hRn := hno.out (.inr h2)
                subst hRn
                replace h1 := Lib.hid h1
                replace h2 := Lib.hid h2
                obtain ⟨y0, y1⟩ := box2 kR4
                have yf0 := row_free kR4 0
                have yf1 := row_free kR4 1
                have z0 : w4.setCell ⟨w.heap.size + 1 + 1, 0, none⟩ (.int .i64 0) = w4 := setSame y0
                have z1 : w4.setCell ⟨w.heap.size + 1 + 1, 1, none⟩ (.slice none 0 0) = w4 := setSame y1
                go_wp2
                refine bodyPost_ret (v := .tuple #[.agg #[.int .i64 0, .slice none 0 0], .int .i64 17]) (by simp [results, Tryz.results16, go_sem, y0, y1]) rfl ?_
                exact BdOut.no hbr4
              · have hd2 : decide (4096 < (M : Int) + (st.length : Int)) = false := decide_eq_false (by omega)
                have hg3 := hgo.out (fun h => by rcases h with h | h; exact h1 h; exact h2 h)
                replace hg3 := Lib.hid hg3
                have hn3 : Nn.length ≤ 256 := by omega
                have hi3 : i + 1 ≤ Nn.length := by omega
                have hm3 : movesN (out ++ [l]) ≤ 4096 := by rw [hmo.out]; omega
                have hol3 : (out ++ [l]).length = i + 1 := by rw [List.length_append, holi.out]; rfl
                replace hol3 := Lib.hid hol3
                replace hm3 := Lib.hid hm3
                go_wp2
                go_roundg f
                case measure => omega
                case rel => exact ⟨i + 1, Nn, out ++ [l], .slice v2a (out.length + 1) v2c, by go_num, hnd4, kO4, by rw [List.length_append]; exact hst4, hbr4, kA4, kB4, kR4, hg3, hi3, hn3, hm3.out, hol3, ⟨hNP.out, hND.out⟩⟩
      · have hRs : R = some out := by
          have h := exG_end (step := thSt az bz k) (f := f) (out := out) hlt
          have h2 := hg.out
          rw [h] at h2
          injection h2 with h2
          exact h2.symm
        subst hRs
        obtain rfl : i = nodes.length := by omega
        obtain ⟨na, nc, hnv⟩ := hnd.shape
        subst hnv
        have hge : ¬ ((nodes.length : Int) < (nodes.length : Int)) := by omega
        obtain ⟨d0, d1⟩ := box2 kO
        obtain ⟨y0, y1⟩ := box2 kR
        have yf := row_free kR
        have hr1 := heap_setCell_same wo (w.heap.size + 1 + 1) 0 _ _ (.int .i64 m) kR
        have hr2 := two_setCell (u := .slice sva out.length svc) hr1
        have hx2 := (KeepX.setCell (p := ⟨w.heap.size + 1 + 1, 0, none⟩) kR (.int .i64 m)).trans (KeepX.setCell (p := ⟨w.heap.size + 1 + 1, 1, none⟩) hr1 (.slice sva out.length svc))
        have hbe := (hbw.setCell (p := ⟨w.heap.size + 1 + 1, 0, none⟩) (by show w.heap.size ≤ w.heap.size + 1 + 1; omega) (.int .i64 m)).setCell (p := ⟨w.heap.size + 1 + 1, 1, none⟩) (by show w.heap.size ≤ w.heap.size + 1 + 1; omega) (.slice sva out.length svc)
        obtain ⟨z0, z1⟩ := box2 hr2
        have hfin : OwAdv ((wo.setCell ⟨w.heap.size + 1 + 1, 0, none⟩ (.int .i64 m)).setCell ⟨w.heap.size + 1 + 1, 1, none⟩ (.slice sva out.length svc)) (.agg #[.int .i64 m, .slice sva out.length svc]) m out :=
          ⟨_, rfl, (hst.other (E' := 24) (ESt.stab (by decide)) (by decide) hx2).base (Nat.zero_le _), by omega, fun x hx => by have := mem_movesN hx; omega⟩
        replace hfin := Lib.hid hfin
        clear hr1 hr2 hx2 hst hnd kO kA kB
        go_wp2
        obtain ⟨W8, hW8⟩ : ∃ W8, W8 = (wo.setCell ⟨w.heap.size + 1 + 1, 0, none⟩ (.int .i64 m)).setCell ⟨w.heap.size + 1 + 1, 1, none⟩ (.slice sva out.length svc) := ⟨_, rfl⟩
        rw [← hW8] at z0 z1 hfin hbe ⊢
        clear hW8
        refine bodyPost_ret (v := .tuple #[.agg #[.int .i64 m, .slice sva out.length svc], .int .i64 0]) (by simp [results, Tryz.results16, go_sem, z0, z1]) rfl ?_
        exact BdOut.yes hfin.out hbe
end Go.Proofs.YtiiiegflobihjaaGreat

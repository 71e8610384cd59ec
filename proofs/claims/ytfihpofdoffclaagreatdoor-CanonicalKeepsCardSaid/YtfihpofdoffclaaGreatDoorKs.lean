/- Texts of this claim, put together: J5 J6 J7 J4. -/
import Derived.Test.YtfihpofdoffclaaGreatDoorKr
import Derived.Test.YtfihpofdoffclaaGreatDoorKp

/- canonical.distinguish: append(slices.Clone(x.word), r), as a law of its own. -/
namespace Go.Proofs.YtfihpofdoffclaaGreatDoor
open Go.RowKit

theorem below_of {B : Nat} {a b c : World} (h : Below B a b) (k : Below b.heap.size b c) (hB : B ≤ a.heap.size) : Below B a c := bt h k (Nat.le_trans hB h.size)
theorem zkeep {W w' : World} {o : Obj} (h : Below ((W.alloc o).drew).heap.size ((W.alloc o).drew) w') : w'.heap[W.heap.size]? = some o := (h.block _ (by simp)).trans (heap_alloc_new W o)
theorem zkeep2 {W w' : World} {o : Obj} (h : Below (W.alloc o).heap.size (W.alloc o) w') : w'.heap[W.heap.size]? = some o := (h.block _ (by simp)).trans (heap_alloc_new W o)
set_option maxRecDepth 100000 in
set_option maxHeartbeats 1600000 in
theorem appClone {w : World} {x0 x1 x2 x3 x4 x5 x6 x7 x8 x9 x10 x11 x13 x14 x15 x16 x18 x19 x20 x21 x22 x23 x24 x25 x26 x27 x28 x29 x30 x31 x32 x33 x34 x35 x36 x37 x38 x39 x40 x41 x42 x43 x44 x45 x46 x47 x48 x49 x50 x51 x52 x53 x54 x55 x56 x57 x58 x59 x60 x61 x62 x63 x64 x65 x66 x67 x68 x69 x70 x71 x72 x73 x74 x75 x76 x77 x78 x79 x80 x81 x82 x83 x84 x85 x86 x87 x88 x89 x90 x91 x92 x93 x94 x95 x96 x97 x98 x99 x100 x101 x102 x103 x104 x105 x106 x107 x108 x109 x110 x111 x112 x113 x114 x115 x116 x117 x118 x119 x120 x121 x122 x123 x124 : Value} {Q : Exit → Act → World → Prop} {bx br : Nat} {xua : Option Addr} {xuc : Nat} {wd : List (List Int)} {r0 r1 r2 r3 r4 r5 r6 : Int}
    (xw : w.cell? ⟨bx, 2, none⟩ = some (.slice xua wd.length xuc)) (k0 : w.cell? ⟨br, 0, none⟩ = some (.int .i64 r0)) (k1 : w.cell? ⟨br, 1, none⟩ = some (.int .i64 r1)) (k2 : w.cell? ⟨br, 2, none⟩ = some (.int .i64 r2)) (k3 : w.cell? ⟨br, 3, none⟩ = some (.int .i64 r3)) (k4 : w.cell? ⟨br, 4, none⟩ = some (.int .i64 r4)) (k5 : w.cell? ⟨br, 5, none⟩ = some (.int .i64 r5)) (k6 : w.cell? ⟨br, 6, none⟩ = some (.int .i64 r6))
    (hxu : OwX 79 7 EI w 0 (.slice xua wd.length xuc) wd.length wd) (hl : wd.length ≤ 1000000)
    (h : ∀ v7 w7 y88 y89 y90 y91 y92 y93, OwX 79 7 EI w7 w.heap.size v7 (wd.length + 1) (wd ++ [[r0, r1, r2, r3, r4, r5, r6]]) → Below w.heap.size w w7 → Q .normal ⟨#[x0, x1, x2, x3, x4, x5, x6, x7, x8, x9, x10, x11, .pointer (some ⟨bx, 0, none⟩), x13, x14, x15, x16, .pointer (some ⟨br, 0, none⟩), x18, v7, x20, x21, x22, x23, x24, x25, x26, x27, x28, x29, x30, x31, x32, x33, x34, x35, x36, x37, x38, x39, x40, x41, x42, x43, x44, x45, x46, x47, x48, x49, x50, x51, x52, x53, x54, x55, x56, x57, x58, x59, x60, x61, x62, x63, x64, x65, x66, x67, x68, x69, x70, x71, x72, x73, x74, x75, x76, x77, x78, x79, x80, x81, x82, x83, x84, x85, x86, x87, y88, y89, y90, y91, y92, y93, x94, x95, x96, x97, x98, x99, x100, x101, x102, x103, x104, x105, x106, x107, x108, x109, x110, x111, x112, x113, x114, x115, x116, x117, x118, x119, x120, x121, x122, x123, x124], []⟩ w7) :
    (Code.region 19 #[{ dst := some 88, op := Op.fieldAddr 136 (Operand.tmp 12) 1, type := 0, pos := "canonical.go:147", after := #[], guard := none }, { dst := some 89, op := Op.load 45 (Operand.tmp 88), type := 45, pos := "canonical.go:147", after := #[{ on := 0, ground := Ground.data }], guard := none }, { dst := some 90, op := Op.call { callee := Callee.value (Operand.func 62), args := #[Operand.tmp 89], argTypes := #[45] }, type := 45, pos := "canonical.go:147", after := #[{ on := 1, ground := Ground.data }], guard := none }, { dst := some 91, op := Op.load 79 (Operand.tmp 17), type := 79, pos := "canonical.go:147", after := #[], guard := none }, { dst := some 92, op := Op.buildSlice 45 1 #[(0, Operand.tmp 91)], type := 45, pos := "canonical.go:147", after := #[{ on := 3, ground := Ground.data }], guard := none }, { dst := some 93, op := Op.call { callee := Callee.builtin Builtin.append, args := #[Operand.tmp 90, Operand.tmp 92], argTypes := #[45, 45] }, type := 45, pos := "canonical.go:147", after := #[{ on := 2, ground := Ground.data }, { on := 4, ground := Ground.data }, { on := 2, ground := Ground.chain }], guard := none }, { dst := some 19, op := Op.assign (Operand.tmp 93), type := 45, pos := "canonical.go:147", after := #[{ on := 5, ground := Ground.data }, { on := 5, ground := Ground.chain }, { on := 0, ground := Ground.phase }, { on := 1, ground := Ground.phase }, { on := 2, ground := Ground.phase }, { on := 3, ground := Ground.phase }, { on := 4, ground := Ground.phase }, { on := 5, ground := Ground.phase }], guard := none }] true).wp Tryz.prog Q ⟨#[x0, x1, x2, x3, x4, x5, x6, x7, x8, x9, x10, x11, .pointer (some ⟨bx, 0, none⟩), x13, x14, x15, x16, .pointer (some ⟨br, 0, none⟩), x18, x19, x20, x21, x22, x23, x24, x25, x26, x27, x28, x29, x30, x31, x32, x33, x34, x35, x36, x37, x38, x39, x40, x41, x42, x43, x44, x45, x46, x47, x48, x49, x50, x51, x52, x53, x54, x55, x56, x57, x58, x59, x60, x61, x62, x63, x64, x65, x66, x67, x68, x69, x70, x71, x72, x73, x74, x75, x76, x77, x78, x79, x80, x81, x82, x83, x84, x85, x86, x87, x88, x89, x90, x91, x92, x93, x94, x95, x96, x97, x98, x99, x100, x101, x102, x103, x104, x105, x106, x107, x108, x109, x110, x111, x112, x113, x114, x115, x116, x117, x118, x119, x120, x121, x122, x123, x124], []⟩ w := by
  have KS2 : Hid (∀ X, Below w.heap.size w X → X.cell? ⟨bx, 2, none⟩ = some (.slice xua wd.length xuc) ∧ X.cell? ⟨br, 0, none⟩ = some (.int .i64 r0) ∧ X.cell? ⟨br, 1, none⟩ = some (.int .i64 r1) ∧ X.cell? ⟨br, 2, none⟩ = some (.int .i64 r2) ∧ X.cell? ⟨br, 3, none⟩ = some (.int .i64 r3) ∧ X.cell? ⟨br, 4, none⟩ = some (.int .i64 r4) ∧ X.cell? ⟨br, 5, none⟩ = some (.int .i64 r5) ∧ X.cell? ⟨br, 6, none⟩ = some (.int .i64 r6)) := fun X hX => ⟨cell_kept hX xw, cell_kept hX k0, cell_kept hX k1, cell_kept hX k2, cell_kept hX k3, cell_kept hX k4, cell_kept hX k5, cell_kept hX k6⟩
  have HCl := Lib.hid (fun W (hW : Below w.heap.size w W) => cloneRdK (OwX.ks (OwX.keep (EI.stab _) hxu hW) (by omega)) hl)
  have hc7 : ∀ u ∈ ([.int .i64 r0, .int .i64 r1, .int .i64 r2, .int .i64 r3, .int .i64 r4, .int .i64 r5, .int .i64 r6] : List Value), u.oneCell' = true := fun u hu => by
    simp only [List.mem_cons, List.not_mem_nil, or_false] at hu
    rcases hu with rfl | rfl | rfl | rfl | rfl | rfl | rfl <;> rfl
  have hw9 : wd.length ≤ 1000000000000 := by omega
  have hbA : Below w.heap.size w w.drew := (Below.refl _ w).drew
  have hbB : Below w.heap.size w (w.alloc (.cells #[.int .i64 r0, .int .i64 r1, .int .i64 r2, .int .i64 r3, .int .i64 r4, .int .i64 r5, .int .i64 r6] 79)).drew := ((Below.refl _ w).alloc (Nat.le_refl _) _).drew
  go_region_held3 (fun w' => w'.cell? ⟨bx, 2, none⟩ = some (.slice xua wd.length xuc) ∧ w'.cell? ⟨br, 0, none⟩ = some (.int .i64 r0) ∧ w'.cell? ⟨br, 1, none⟩ = some (.int .i64 r1) ∧ w'.cell? ⟨br, 2, none⟩ = some (.int .i64 r2) ∧ w'.cell? ⟨br, 3, none⟩ = some (.int .i64 r3) ∧ w'.cell? ⟨br, 4, none⟩ = some (.int .i64 r4) ∧ w'.cell? ⟨br, 5, none⟩ = some (.int .i64 r5) ∧ w'.cell? ⟨br, 6, none⟩ = some (.int .i64 r6))
    (first
      | go_keep
      | (refine KS2.out _ ?_; repeat (first | with_reducible exact hP7 | with_reducible exact hP6 | with_reducible exact Below.refl _ _ | refine Below.drew ?_ | refine Below.alloc ?_ (by first | exact hP6.size | (simp; done)) _)))
    (first
      | (go_at_call 62; (with_reducible refine (HCl.out w.drew hbA).mono ?_); rintro e w6 ⟨u6, rfl, ho6, hb6⟩; obtain ⟨a6, c6, rfl⟩ := ho6.shape; have hP6 : Below w.heap.size w w6 := below_of hbA hb6 (Nat.le_refl _); have ho6b := ho6.base (B' := w.heap.size) hbA.size; have ho6A := OwX.keep (EI.stab _) ho6b ((Below.refl w6.heap.size w6).alloc (Nat.le_refl _) (.cells #[.int .i64 r0, .int .i64 r1, .int .i64 r2, .int .i64 r3, .int .i64 r4, .int .i64 r5, .int .i64 r6] 79)); have hnA := World.news_of_block (heap_alloc_new w6 (.cells #[.int .i64 r0, .int .i64 r1, .int .i64 r2, .int .i64 r3, .int .i64 r4, .int .i64 r5, .int .i64 r6] 79)); have hBA : w.heap.size ≤ (w6.alloc (.cells #[.int .i64 r0, .int .i64 r1, .int .i64 r2, .int .i64 r3, .int .i64 r4, .int .i64 r5, .int .i64 r6] 79)).heap.size := (by rw [World.size_alloc]; exact Nat.le_succ_of_le hP6.size))
      | (go_at_call 62; (with_reducible refine (HCl.out (w.alloc (.cells #[.int .i64 r0, .int .i64 r1, .int .i64 r2, .int .i64 r3, .int .i64 r4, .int .i64 r5, .int .i64 r6] 79)).drew hbB).mono ?_); rintro e w6 ⟨u6, rfl, ho6, hb6⟩; obtain ⟨a6, c6, rfl⟩ := ho6.shape; have hP6 : Below w.heap.size w w6 := below_of hbB hb6 (Nat.le_refl _); have ho6b := ho6.base (B' := w.heap.size) hbB.size; have ho6B := ho6b; have hnB := World.news_of_block (zkeep hb6); have hBB := hP6.size)
      | ((refine step_appX (B := w.heap.size) (cs := [.int .i64 r0, .int .i64 r1, .int .i64 r2, .int .i64 r3, .int .i64 r4, .int .i64 r5, .int .i64 r6]) (x := [r0, r1, r2, r3, r4, r5, r6]) elemRd (by decide) (by decide) (EI.stab _) (by rfl) _ _ (by rfl) (by rfl) ho6B ⟨w.heap.size, 0, none⟩ 1 (by rfl) rfl hnB hc7 rfl hw9 hBB ?_; intro v7 w7 ho7 hg7 hn7 hb7 hx7; have hP7 : Below w.heap.size w w7 := hP6.trans hb7))
      | ((refine step_appX (B := w.heap.size) (cs := [.int .i64 r0, .int .i64 r1, .int .i64 r2, .int .i64 r3, .int .i64 r4, .int .i64 r5, .int .i64 r6]) (x := [r0, r1, r2, r3, r4, r5, r6]) elemRd (by decide) (by decide) (EI.stab _) (by rfl) _ _ (by rfl) (by rfl) ho6A ⟨w6.heap.size, 0, none⟩ 1 (by rfl) rfl hnA hc7 rfl hw9 hBA ?_; intro v7 w7 ho7 hg7 hn7 hb7 hx7; have hP7 : Below w.heap.size w w7 := (Below.alloc hP6 hP6.size _).trans hb7)))
  all_goals exact h _ _ _ _ _ _ _ _ ho7 hP7
end Go.Proofs.YtfihpofdoffclaaGreatDoor

/- canonical.distinguish: a pair is put into the queue: what stands behind it. -/
namespace Go.Proofs.YtfihpofdoffclaaGreatDoor
open Go.RowKit Go.ChangeMaps Go.MapKept Go.WideMaps

theorem SNP.ne {w : World} {b g : Nat} {K : List (Nat × Nat)} (h : SNP w b K) {cs : Array Value} {t : TypeId} (hg : w.heap[g]? = some (.cells cs t)) : b ≠ g := fun e => by
  obtain ⟨es, clock, hb, _⟩ := h
  rw [e, hg] at hb
  cases hb
theorem push_all {W8 Wb w9 : World} {o : Obj} {b B n m i : Nat} {K : List (Nat × Nat)} {nv nv' wv : Value} {xs ys : List It} {cs : Array Value} (hWb : Wb = W8.alloc o)
    (hSN : SNP W8 b K) (hnx : OwX 136 3 EIt W8 B nv n xs) (hwt : OwX 136 3 EIt W8 B wv m ys) (hAp : Apart nv wv)
    (hbox : W8.heap[i]? = some (.cells cs 136)) (hnb : ∀ g, nv.ownBlock = some g → g ≠ i) (hg : Wb.grownBy w9 nv.ownBlock) (hn : NewAt Wb nv nv') :
    SNP w9 b K ∧ OwX 136 3 EIt w9 B wv m ys ∧ Apart nv' wv ∧ (∀ g, nv'.ownBlock = some g → g ≠ i) ∧ w9.heap[i]? = some (.cells cs 136) := by
  have hb8 : Below W8.heap.size W8 Wb := by rw [hWb]; exact (Below.refl _ _).alloc (Nat.le_refl _) _
  have hty : ∀ g, nv.ownBlock = some g → ∃ cs, Wb.heap[g]? = some (.cells cs 136) := fun g hgg => by
    obtain ⟨vs, h1, _⟩ := hnx
    obtain ⟨cs', h2⟩ := ownsRow_ty h1 g hgg
    exact ⟨cs', (hb8.block g (Array.getElem?_eq_some_iff.1 h2).1).trans h2⟩
  have hs : W8.heap.size < Wb.heap.size := by rw [hWb]; simp
  have hSNb : SNP Wb b K := hSN.keep (hb8.block _ hSN.lt)
  have hi8 := (Array.getElem?_eq_some_iff.1 hbox).1
  have hboxb := (hb8.block i hi8).trans hbox
  refine ⟨hSNb.keep (hg.block b hSNb.lt fun e => ?_), OwX.grown (EIt.stab (by decide)) (OwX.keep (EIt.stab (by decide)) hwt hb8) hg hty ?_, fun a c ha hc e => ?_, fun g hgg e => ?_, (hg.block i (by omega) fun e => ?_).trans hboxb⟩
  · obtain ⟨cs', h2⟩ := hty b e.symm
    exact SNP.ne hSNb h2 rfl
  · cases h : wv.ownBlock with
    | none => exact .inl rfl
    | some c => exact .inr fun e => hAp c c e.symm h rfl
  · have hcl : c < W8.heap.size := by
      obtain ⟨vs, h1, _⟩ := hwt
      exact (World.ownsRow.lt h1 c hc).2
    rcases hn with h | h
    · exact hAp a c (h ▸ ha) hc e
    · rw [h] at ha
      simp only [Option.some.injEq] at ha
      omega
  · rcases hn with h | h
    · exact hnb g (h ▸ hgg) e
    · rw [h] at hgg
      simp only [Option.some.injEq] at hgg
      omega
  · exact hnb i e.symm rfl
theorem drop_snoc {α : Type} {Q : List α} {n : Nat} {x : α} (h : n ≤ Q.length) : Q.drop n ++ [x] = (Q ++ [x]).drop n := by rw [List.drop_append_of_le_length h]
end Go.Proofs.YtfihpofdoffclaaGreatDoor

/- canonical.distinguish: append(next, item{p, word}), as a law of its own. -/
namespace Go.Proofs.YtfihpofdoffclaaGreatDoor
open Go.RowKit

set_option maxRecDepth 100000 in
set_option maxHeartbeats 1600000 in
theorem appItem {W8 : World} {x0 x1 x2 x3 x4 x5 x6 x7 x8 x9 x11 x12 x13 x14 x15 x16 x17 x20 x21 x22 x23 x24 x25 x26 x27 x28 x29 x30 x31 x32 x33 x34 x35 x36 x37 x38 x39 x40 x41 x42 x43 x44 x45 x46 x47 x48 x49 x50 x51 x52 x53 x54 x55 x56 x57 x58 x59 x60 x61 x62 x63 x64 x65 x66 x67 x68 x69 x70 x71 x72 x73 x74 x75 x76 x77 x78 x79 x80 x81 x82 x83 x84 x85 x86 x87 x88 x89 x90 x91 x92 x93 x94 x95 x96 x97 x98 x99 x100 x101 x102 x103 x104 x105 x106 x107 x108 x109 x110 x111 x112 x113 x114 x115 x116 x117 x118 x119 x120 x121 x122 x123 x124 nv : Value} {Q : Exit → Act → World → Prop} {bp pa pc l vc B n : Nat} {va : Option Addr} {wd : List (List Int)} {xs : List It}
    (e0 : W8.cell? ⟨bp, 0, none⟩ = some (.int .i64 (pa : Int))) (e1 : W8.cell? ⟨bp, 1, none⟩ = some (.int .i64 (pc : Int)))
    (hnx : OwX 136 3 EIt W8 B nv n xs) (hn : n ≤ 1000000000000) (hB : B ≤ W8.heap.size) (hwd : OwX 79 7 EI W8 0 (.slice va l vc) wd.length wd)
    (h : ∀ v7 w9 y116 y117 y118 y119 y120 y121, OwX 136 3 EIt w9 B v7 (n + 1) (xs ++ [((pa, pc), wd)]) → (W8.alloc (.cells #[.int .i64 (pa : Int), .int .i64 (pc : Int), .slice va l vc] 136)).grownBy w9 nv.ownBlock → NewAt (W8.alloc (.cells #[.int .i64 (pa : Int), .int .i64 (pc : Int), .slice va l vc] 136)) nv v7 → Below B (W8.alloc (.cells #[.int .i64 (pa : Int), .int .i64 (pc : Int), .slice va l vc] 136)) w9 → KeepX 136 (W8.alloc (.cells #[.int .i64 (pa : Int), .int .i64 (pc : Int), .slice va l vc] 136)) w9 → Q .normal ⟨#[x0, x1, x2, x3, x4, x5, x6, x7, x8, x9, v7, x11, x12, x13, x14, x15, x16, x17, .pointer (some ⟨bp, 0, none⟩), .slice va l vc, x20, x21, x22, x23, x24, x25, x26, x27, x28, x29, x30, x31, x32, x33, x34, x35, x36, x37, x38, x39, x40, x41, x42, x43, x44, x45, x46, x47, x48, x49, x50, x51, x52, x53, x54, x55, x56, x57, x58, x59, x60, x61, x62, x63, x64, x65, x66, x67, x68, x69, x70, x71, x72, x73, x74, x75, x76, x77, x78, x79, x80, x81, x82, x83, x84, x85, x86, x87, x88, x89, x90, x91, x92, x93, x94, x95, x96, x97, x98, x99, x100, x101, x102, x103, x104, x105, x106, x107, x108, x109, x110, x111, x112, x113, x114, x115, y116, y117, y118, y119, y120, y121, x122, x123, x124], []⟩ w9) :
    (Code.region 24 #[{ dst := some 116, op := Op.move (Operand.tmp 10), type := 137, pos := "canonical.go:153", after := #[], guard := none }, { dst := some 117, op := Op.load 133 (Operand.tmp 18), type := 133, pos := "canonical.go:153", after := #[], guard := none }, { dst := some 118, op := Op.move (Operand.tmp 19), type := 45, pos := "canonical.go:153", after := #[], guard := none }, { dst := some 119, op := Op.build 136 #[(0, Operand.tmp 117), (1, Operand.tmp 118)], type := 136, pos := "canonical.go:153", after := #[{ on := 1, ground := Ground.data }, { on := 2, ground := Ground.data }], guard := none }, { dst := some 120, op := Op.buildSlice 137 1 #[(0, Operand.tmp 119)], type := 137, pos := "canonical.go:153", after := #[{ on := 3, ground := Ground.data }], guard := none }, { dst := some 121, op := Op.call { callee := Callee.builtin Builtin.append, args := #[Operand.tmp 116, Operand.tmp 120], argTypes := #[137, 137] }, type := 137, pos := "canonical.go:153", after := #[{ on := 0, ground := Ground.data }, { on := 4, ground := Ground.data }], guard := none }, { dst := some 10, op := Op.assign (Operand.tmp 121), type := 137, pos := "canonical.go:153", after := #[{ on := 5, ground := Ground.data }, { on := 5, ground := Ground.chain }, { on := 0, ground := Ground.phase }, { on := 1, ground := Ground.phase }, { on := 2, ground := Ground.phase }, { on := 3, ground := Ground.phase }, { on := 4, ground := Ground.phase }, { on := 5, ground := Ground.phase }], guard := none }] false).wp Tryz.prog Q ⟨#[x0, x1, x2, x3, x4, x5, x6, x7, x8, x9, nv, x11, x12, x13, x14, x15, x16, x17, .pointer (some ⟨bp, 0, none⟩), .slice va l vc, x20, x21, x22, x23, x24, x25, x26, x27, x28, x29, x30, x31, x32, x33, x34, x35, x36, x37, x38, x39, x40, x41, x42, x43, x44, x45, x46, x47, x48, x49, x50, x51, x52, x53, x54, x55, x56, x57, x58, x59, x60, x61, x62, x63, x64, x65, x66, x67, x68, x69, x70, x71, x72, x73, x74, x75, x76, x77, x78, x79, x80, x81, x82, x83, x84, x85, x86, x87, x88, x89, x90, x91, x92, x93, x94, x95, x96, x97, x98, x99, x100, x101, x102, x103, x104, x105, x106, x107, x108, x109, x110, x111, x112, x113, x114, x115, x116, x117, x118, x119, x120, x121, x122, x123, x124], []⟩ W8 := by
  have hEl8 : EIt (W8.alloc (.cells #[.int .i64 (pa : Int), .int .i64 (pc : Int), .slice va l vc] 136)) [.int .i64 (pa : Int), .int .i64 (pc : Int), .slice va l vc] ((pa, pc), wd) := ⟨_, rfl, OwX.keep (EI.stab _) hwd ((Below.refl _ _).alloc (Nat.le_refl _) _)⟩
  have hc3 : ∀ u ∈ ([.int .i64 (pa : Int), .int .i64 (pc : Int), .slice va l vc] : List Value), u.oneCell' = true := fun u hu => by
    simp only [List.mem_cons, List.not_mem_nil, or_false] at hu
    rcases hu with rfl | rfl | rfl <;> rfl
  obtain ⟨na, nc, hnv⟩ := hnx.shape
  subst hnv
  have hnxb := OwX.keep (EIt.stab (by decide)) hnx ((Below.refl W8.heap.size W8).alloc (Nat.le_refl _) (.cells #[.int .i64 (pa : Int), .int .i64 (pc : Int), .slice va l vc] 136))
  have hBb : B ≤ (W8.alloc (.cells #[.int .i64 (pa : Int), .int .i64 (pc : Int), .slice va l vc] 136)).heap.size := by rw [World.size_alloc]; omega
  go_wp2_with (at_builtin; refine wpList_appX (B := B) (cs := [.int .i64 (pa : Int), .int .i64 (pc : Int), .slice va l vc]) (x := ((pa, pc), wd)) elemIt (by decide) (by decide) (EIt.stab (by decide)) rfl _ _ rfl rfl hnxb ⟨W8.heap.size, 0, none⟩ 1 rfl rfl (World.news_of_block (heap_alloc_new W8 _)) hc3 hEl8 hn hBb ?_)
  intro nv9 w9 hnx9 hg9 hn9 hb9 hX9
  go_wp2
  exact h _ _ _ _ _ _ _ _ hnx9 hg9 hn9 hb9 hX9
end Go.Proofs.YtfihpofdoffclaaGreatDoor

/- canonical.distinguish. -/
namespace Go.Proofs.YtfihpofdoffclaaGreatDoor
open Go.RowKit Go.ChangeMaps Go.MapKept Go.WideMaps

theorem QB.one {ss : List (List (List Int))} {s t : Nat} (hs : s < ss.length) (ht : t < ss.length) : QB ss [((s, t), [])] := ⟨⟨by simp, by simp [hs, ht]⟩, fun j => by
  match j with
  | 0 => simp
  | _ + 1 => simp⟩
/-- A box of three cells as a row of one item. -/
theorem owItem {w : World} {g B : Nat} {a b : Nat} (hg : w.heap[g]? = some (.cells #[.int .i64 (a : Int), .int .i64 (b : Int), .slice none 0 0] 136)) (hB : B ≤ g) : OwX 136 3 EIt w B (.slice (some ⟨g, 0, none⟩) 1 1) 1 [((a, b), [])] := by
  refine ⟨[.int .i64 (a : Int), .int .i64 (b : Int), .slice none 0 0], ⟨rfl, .inr ⟨g, 1, _, rfl, hB, hg, Nat.le_refl _, by unfold maxLen; omega, rfl, rfl⟩⟩, rfl, ?_, ?_⟩
  · intro u hu
    simp only [List.mem_cons, List.not_mem_nil, or_false] at hu
    rcases hu with rfl | rfl | rfl <;> rfl
  · intro j x hj
    match j, hj with
    | 0, hj =>
      simp only [List.getElem?_cons_zero, Option.some.injEq] at hj
      subst hj
      exact ⟨_, rfl, OwX.nil _ _⟩
    | _ + 1, hj => simp at hj
theorem pairCells {w : World} {g : Nat} {x y : Value} {t : TypeId} (h : w.heap[g]? = some (.cells #[x, y] t)) : w.cell? ⟨g, 0, none⟩ = some x ∧ w.cell? ⟨g, 1, none⟩ = some y ∧ w.frozen? ⟨g, 0, none⟩ = false ∧ w.frozen? ⟨g, 1, none⟩ = false :=
  ⟨by rw [cell_of_row _ _ 0 _ _ _ h]; rfl, by rw [cell_of_row _ _ 1 _ _ _ h]; rfl, row_free h 0, row_free h 1⟩
theorem pairSet {w : World} {g : Nat} {x y u v : Value} {t : TypeId} (h : w.heap[g]? = some (.cells #[x, y] t)) : ((w.setCell ⟨g, 0, none⟩ u).setCell ⟨g, 1, none⟩ v).heap[g]? = some (.cells #[u, v] t) := by
  have h1 := heap_setCell_same w g 0 _ t u h
  exact two_setCell h1
set_option maxRecDepth 100000 in
set_option maxHeartbeats 6400000 in
theorem distinguishA {w : World} {v : Value} {n : Int} {ss : List (List (List Int))} (hA : AdvV w v n ss) (hO : ClsOK ss) (hAsc : ∀ s ∈ ss, AscL (s.map rdOf)) {s t : Nat} (hs : s < ss.length) (ht : t < ss.length) :
    Calls Tryz.prog 55 #[v, .int .i64 (s : Int), .int .i64 (t : Int)] w (DisOut w (dist ss s t)) := by
  obtain ⟨hl90, hmv90, hl0, hst⟩ := hO
  have hM : LeadOK ss := fun s hs m hm => ((hst s hs).2 m hm).2.2
  have hD := dist_prog hM hs ht
  obtain ⟨R, hR⟩ : ∃ R, dist ss s t = R := ⟨_, rfl⟩
  rw [hR] at hD ⊢
  obtain ⟨F, hF⟩ : ∃ F, ss.length * ss.length + 1 = F := ⟨_, rfl⟩
  rw [hF] at hD
  have HT := Lib.hid (fun W (hb : Below w.heap.size w W) j (hj : j < ss.length) r0 r1 r2 r3 r4 r5 r6 => toA (hA.keep hb) hj r0 r1 r2 r3 r4 r5 r6)
  obtain ⟨sv, rfl, hK⟩ := hA
  obtain ⟨sa, sc, sb, so, rfl, hsa, hsc, _⟩ := hK
  obtain rfl := hsa hl0
  obtain ⟨W1, hW1⟩ : ∃ W1, W1 = w.alloc (.cells #[.int .i64 n, .slice (some ⟨sb, so, none⟩) ss.length sc] 24) := ⟨_, rfl⟩
  obtain ⟨hb1, p0, p1, _⟩ := boxAdv hW1
  have hs1 : W1.heap.size = w.heap.size + 1 := by rw [hW1]; simp
  have hsc := Lib.hid (fun W (hb : Below W1.heap.size W1 W) j (hj : j < ss.length) => show ∃ u, W1.cell? ⟨sb, so + j, none⟩ = some u ∧ W.cell? ⟨sb, so + j, none⟩ = some u ∧ KS 8 W u (ss.getD j []) from
    let ⟨u, h1, h2⟩ := hsc j hj; ⟨u, cell_kept hb1 h1, cell_kept (bt hb1 hb hb1.size) h1, h2.keep (bt hb1 hb hb1.size)⟩)
  -- the map with the first pair, and the first item
  obtain ⟨W2, hW2⟩ : ∃ W2, W2 = W1.alloc (.map #[] 0) := ⟨_, rfl⟩
  have hs2 : W2.heap.size = W1.heap.size + 1 := by rw [hW2]; simp
  have hb2 : Below W1.heap.size W1 W2 := by rw [hW2]; exact (Below.refl _ _).alloc (Nat.le_refl _) _
  have hSN0 : SNP W2 W1.heap.size [] := by
    have h := MX.made (kv := prV) (vv := Value.bool) W1
    rw [hW2]; exact h
  obtain ⟨ob, hput, hSN1⟩ := SNP.put hSN0 (by simp) (x := (s, t)) ⟨by omega, by omega⟩ (by simp)
  obtain ⟨W3, hW3⟩ : ∃ W3, W3 = setBlock W2 W1.heap.size ob := ⟨_, rfl⟩
  rw [← hW3] at hput hSN1
  have hs3 : W3.heap.size = W2.heap.size := by rw [hW3]; simp [setBlock]
  have hb3 : Below W1.heap.size W1 W3 := by rw [hW3]; exact setBlock_below hb2 (Nat.le_refl _) ob
  obtain ⟨W4, hW4⟩ : ∃ W4, W4 = W3.alloc (.cells #[.int .i64 (s : Int), .int .i64 (t : Int), .slice none 0 0] 136) := ⟨_, rfl⟩
  have hb34 : Below W3.heap.size W3 W4 := by rw [hW4]; exact (Below.refl _ _).alloc (Nat.le_refl _) _
  have hb4 : Below W1.heap.size W1 W4 := bt hb3 hb34 hb3.size
  have hit : W4.heap[W3.heap.size]? = some (.cells #[.int .i64 (s : Int), .int .i64 (t : Int), .slice none 0 0] 136) := by rw [hW4]; exact heap_alloc_new _ _
  have hSN4 : SNP W4 W1.heap.size (([((s, t), [])] : List It).map Prod.fst) := hSN1.keep (hb34.block _ hSN1.lt)
  have hOw4 := owItem (B := W1.heap.size) hit (by omega)
  have hQ0 : Hid (QB ss [((s, t), [])]) := QB.one hs ht
  have hD0 := Lib.hid hD
  have hmm := @run_makeMap Tryz.prog
  replace hput : (Instr.mapUpdate 134 (.map (some W1.heap.size)) (.agg #[.int .i64 (s : Int), .int .i64 (t : Int)]) (.bool true)).run Tryz.prog W2 = .ok () W3 := hput
  rw [hW2, hW1] at hput
  rw [World.size_alloc] at hput
  rw [hs1] at hSN4
  have hmx : Tryz.prog.follows .mixedOrders = true := by kernel_rfl
  have hB12 : w.heap.size + 1 ≤ W1.heap.size := by omega
  replace hAsc := Lib.hid hAsc
  replace hst := Lib.hid hst
  replace hM := Lib.hid hM
  replace hs1 := Lib.hid hs1
  replace hs2 := Lib.hid hs2
  replace hs3 := Lib.hid hs3
  replace hW2 := Lib.hid hW2
  replace hF := Lib.hid hF
  have hOw4' : OwX 136 3 EIt W4 W1.heap.size (.slice (some ⟨W3.heap.size, 0, none⟩) 1 1) (([((s, t), [])] : List It).length - 0) (([((s, t), [])] : List It).drop 0) := hOw4
  clear hD hR hb2 hb3 hit hSN0 hSN1 hOw4 hW3 hW1
  go_enter Tryz.func55, Tryz.ntmps55
  go_wp2_with fail
  rw [← hW4]
  replace hW4 := Lib.hid hW4
  clear hput
  go_loopg [9] F (fun f wv wr => ∃ (b : Nat) (Q : List It), b ≤ Q.length ∧ SNP wr (w.heap.size + 1) (Q.map Prod.fst) ∧ OwX 136 3 EIt wr W1.heap.size wv (Q.length - b) (Q.drop b) ∧ Below W1.heap.size W1 wr ∧ Hid (dGo false ss f b Q = some R) ∧ Hid (QB ss Q))
  case atStart => exact ⟨0, _, by simp, hSN4, hOw4', hb4, hD0, hQ0⟩
  case round =>
    clear hSN4 hOw4' hb4 hD0 hQ0 hb34
    obtain ⟨b, Q, hbQ, hSN, hwt, hbr, hg, hQB⟩ := hrel
    obtain ⟨wa, wc, hwv⟩ := hwt.shape
    subst hwv
    have hQl := hQB.out.len hl90
    by_cases hlt : b < Q.length
    · obtain ⟨m, hm⟩ : ∃ m, Q.length - b = m := ⟨_, rfl⟩
      rw [hm] at hwt ⊢
      have hm0 : 0 < m := by omega
      have hQbm : Q.length = b + m := by omega
      obtain ⟨gw, cw, hwe, _⟩ := hwt.form hm0
      obtain ⟨rfl, rfl⟩ : wa = some ⟨gw, 0, none⟩ ∧ wc = cw := by injection hwe with h1 h2 h3; exact ⟨h1, h3⟩
      have hd1 : decide ((0 : Int) < (m : Int)) = true := decide_eq_true (by omega)
      have hAp0 : Apart (.slice none 0 0) (.slice (some ⟨gw, 0, none⟩) m wc) := fun a b ha _ => by cases ha
      have hT0 : Hid (∃ T, Q = Q ++ T) := ⟨[], by simp⟩
      have hn0 : OwX 136 3 EIt wr W1.heap.size (.slice none 0 0) (Q.length - Q.length) (Q.drop Q.length) := by
        rw [Nat.sub_self, List.drop_length]; exact OwX.nil _ _
      obtain ⟨wo, hwo⟩ : ∃ wo, wo = wr := ⟨_, rfl⟩
      subst hwo
      have hmh := Lib.hid hm
      have hQbmh := Lib.hid hQbm
      obtain ⟨G, hG⟩ : ∃ G, G = gk := ⟨_, rfl⟩
      rw [← hG] at hg
      replace hG := Lib.hid hG
      clear hm hQbm hwe
      go_wp2_with fail
      go_loopg [10, 35] G (fun f nv jv wr => ∃ (j : Nat) (Q' : List It), jv = .int .i64 j ∧ j ≤ m ∧ f + j = G ∧ SNP wr (w.heap.size + 1) (Q'.map Prod.fst) ∧ OwX 136 3 EIt wr W1.heap.size nv (Q'.length - Q.length) (Q'.drop Q.length) ∧
        OwX 136 3 EIt wr W1.heap.size (.slice (some ⟨gw, 0, none⟩) m wc) m (Q.drop b) ∧ Apart nv (.slice (some ⟨gw, 0, none⟩) m wc) ∧ Below W1.heap.size W1 wr ∧ Hid (dGo false ss f (b + j) Q' = some R) ∧ Hid (QB ss Q') ∧ Hid (∃ T, Q' = Q ++ T))
      case atStart => exact ⟨0, Q, rfl, by omega, by omega, hSN, hn0, hwt, hAp0, hbr, hg, hQB, hT0⟩
      case round =>
        clear hSN hn0 hwt hAp0 hbr hg hQB hT0
        obtain ⟨j, Q', rfl, hj, hfj, hSN, hnx, hwt, hAp, hbr, hg, hQB, hT⟩ := hrel
        obtain ⟨na, nc, hnv⟩ := hnx.shape
        subst hnv
        by_cases hltj : j < m
        · obtain ⟨f, rfl⟩ : ∃ f, gk = f + 1 := by
            cases gk with
            | zero => exact absurd hg (by intro h; simp [Hid, dGo] at h)
            | succ f => exact ⟨f, rfl⟩
          -- the item
          have hQT : Q.length ≤ Q'.length := by obtain ⟨T, rfl⟩ := hT.out; simp
          obtain ⟨⟨⟨p, q⟩, wd⟩, hx⟩ : ∃ x, (Q.drop b).getD j ((0, 0), []) = x := ⟨_, rfl⟩
          have hbj : b + j < Q.length := by have := hQbmh.out; omega
          have hxQ : Q.getD (b + j) ((0, 0), []) = ((p, q), wd) := by rw [← hx, List.getD_eq_getElem?_getD, List.getD_eq_getElem?_getD, List.getElem?_drop]
          have hxQ' : Q'.getD (b + j) ((0, 0), []) = ((p, q), wd) := by
            obtain ⟨T, rfl⟩ := hT.out
            rw [List.getD_eq_getElem?_getD, List.getElem?_append_left hbj, ← List.getD_eq_getElem?_getD]; exact hxQ
          have hgi : Hid (dIn false ss (dGo false ss f (b + j + 1)) ((p, q), wd) (ltr ss p q) Q' = some R) := by
            have h1 := hg.out
            rw [dGo, if_pos (by omega), hxQ'] at h1
            exact h1
          have hxm : ((p, q), wd) ∈ Q' := by rw [← hxQ', getD_eq (by omega)]; exact List.getElem_mem _
          obtain ⟨hp, hq⟩ := hQB.out.1.2 _ hxm
          simp only at hp hq
          have hwdl : wd.length ≤ b + j := by have := hQB.out.2 (b + j); rw [hxQ'] at this; exact this
          have hQl' := hQB.out.len hl90
          obtain ⟨cs, hcl, ⟨xu, hcs, hxu⟩, hcc⟩ := hwt.cells (j := j) (x := ((p, q), wd)) (by
            rw [← hx, getD_eq (by rw [List.length_drop]; omega)]; exact List.getElem?_eq_some_iff.2 ⟨by rw [List.length_drop]; omega, rfl⟩)
          subst hcs
          obtain ⟨xua, xuc, hxus⟩ := hxu.shape
          subst hxus
          have hxu : OwX 79 7 EI wr 0 (.slice xua wd.length xuc) wd.length wd := hxu
          have cx0 : wr.cell? ⟨gw, j * 3, none⟩ = some (.int .i64 (p : Int)) := hcc 0 _ rfl
          have cx1 : wr.cell? ⟨gw, j * 3 + 1, none⟩ = some (.int .i64 (q : Int)) := hcc 1 _ rfl
          have cx2 : wr.cell? ⟨gw, j * 3 + 2, none⟩ = some (.slice xua wd.length xuc) := hcc 2 _ rfl
          have hjm : (j : Int) < (m : Int) := by omega
          -- its states
          obtain ⟨u1, d1, e1, k1⟩ := hsc.out wr hbr p hp
          obtain ⟨u2, d2, e2, k2⟩ := hsc.out wr hbr q hq
          obtain ⟨xs, hxs⟩ : ∃ xs, ss.getD p [] = xs := ⟨_, rfl⟩
          obtain ⟨ys, hys⟩ : ∃ ys, ss.getD q [] = ys := ⟨_, rfl⟩
          rw [hxs] at k1
          rw [hys] at k2
          have hxmem : xs ∈ ss := by rw [← hxs, getD_eq hp]; exact List.getElem_mem hp
          have hymem : ys ∈ ss := by rw [← hys, getD_eq hq]; exact List.getElem_mem hq
          have hx0 := (hst.out xs hxmem).1
          have hy0 := (hst.out ys hymem).1
          have hxl : xs.length ≤ 90 := by have h1 := mem_movesN hxmem; omega
          have hyl : ys.length ≤ 90 := by have h1 := mem_movesN hymem; omega
          have hltr : Hid (∀ l : List (List Int), l.Perm ((xs ++ ys).map rdOf) → l.Pairwise (fun a b => ¬ cmpL b a < 0) → cmpc l = ltr ss p q) := fun l h1 h2 =>
            ltr_eq (by rw [hxs]; exact hAsc.out xs hxmem) (by rw [hys]; exact hAsc.out ys hymem) (by rw [hxs, hys]; exact h1) h2
          have hlen8 : Hid (∀ x ∈ xs ++ ys, x.length = 8) := fun x hx => by
            rcases List.mem_append.1 hx with h | h
            · exact ((hst.out xs hxmem).2 x h).2.1
            · exact ((hst.out ys hymem).2 x h).2.1
          have hr1 := cell_kept hbr p1
          have hr0 := cell_kept hbr p0
          obtain ⟨Wx, hWx⟩ : ∃ Wx, Wx = wr.alloc (.cells #[.int .i64 (p : Int), .int .i64 (q : Int), .slice xua wd.length xuc] 136) := ⟨_, rfl⟩
          have hbx : Below wr.heap.size wr Wx := by rw [hWx]; exact (Below.refl _ _).alloc (Nat.le_refl _) _
          have hxb : Wx.heap[wr.heap.size]? = some (.cells #[.int .i64 (p : Int), .int .i64 (q : Int), .slice xua wd.length xuc] 136) := by rw [hWx]; exact heap_alloc_new _ _
          obtain ⟨u1a, u1c, hu1⟩ := k1.shape
          obtain ⟨u2a, u2c, hu2⟩ := k2.shape
          subst hu1 hu2
          have g1 := cell_kept hbx hr1
          have g0 := cell_kept hbx hr0
          have f1 := cell_kept hbx e1
          have f2 := cell_kept hbx e2
          have b0 : Wx.cell? ⟨wr.heap.size, 0, none⟩ = some (.int .i64 (p : Int)) := by rw [cell_of_row _ _ 0 _ _ _ hxb]; rfl
          have b1 : Wx.cell? ⟨wr.heap.size, 1, none⟩ = some (.int .i64 (q : Int)) := by rw [cell_of_row _ _ 1 _ _ _ hxb]; rfl
          obtain ⟨Wd, hWd⟩ : ∃ Wd, Wd = (Wx.alloc (.cells #[.slice u1a xs.length u1c, .slice u2a ys.length u2c] 82)).drew := ⟨_, rfl⟩
          have hbd : Below Wx.heap.size Wx Wd := by rw [hWd]; exact ((Below.refl _ _).alloc (Nat.le_refl _) _).drew
          have hdb : Wd.heap[Wx.heap.size]? = some (.cells #[.slice u1a xs.length u1c, .slice u2a ys.length u2c] 82) := by rw [hWd]; exact heap_alloc_new _ _
          have HC := Lib.hid (concatMv (w := Wd) (b := Wx.heap.size) (by rw [cell_of_row _ _ 0 _ _ _ hdb]; rfl) (by rw [cell_of_row _ _ 1 _ _ _ hdb]; rfl) (k1.keep (btt hbx hbd)) (k2.keep (btt hbx hbd)) hx0 hy0 (by omega) (by omega))
          have hpi : (p : Int) < (ss.length : Int) := by omega
          have hqi : (q : Int) < (ss.length : Int) := by omega
          obtain ⟨N, hN⟩ : ∃ N, xs.length + ys.length = N := ⟨_, rfl⟩
          rw [hN] at HC
          have hNl : N ≤ 180 := by omega
          have hN0 : 0 < N := by omega
          have hCl : (xs ++ ys).length = N := by rw [List.length_append]; exact hN
          replace hN := Lib.hid hN
          replace hWd := Lib.hid hWd
          obtain ⟨C, hC⟩ : ∃ C, xs ++ ys = C := ⟨_, rfl⟩
          rw [hC] at HC hltr hlen8 hCl
          replace hC := Lib.hid hC
          replace hxs := Lib.hid hxs
          replace hys := Lib.hid hys
          replace hx := Lib.hid hx
          replace hxQ := Lib.hid hxQ
          replace hxQ' := Lib.hid hxQ'
          replace hCl := Lib.hid hCl
          clear hcc k1 k2 hg
          go_wp2_with fail
          rw [← hWx]
          replace hWx := Lib.hid hWx
          go_region_held3 (fun w' => w'.cell? ⟨w.heap.size, 1, none⟩ = some (.slice (some ⟨sb, so, none⟩) ss.length sc) ∧ w'.cell? ⟨wr.heap.size, 0, none⟩ = some (.int .i64 (p : Int)) ∧ w'.cell? ⟨wr.heap.size, 1, none⟩ = some (.int .i64 (q : Int)) ∧
              w'.cell? ⟨sb, so + p, none⟩ = some (.slice u1a xs.length u1c) ∧ w'.cell? ⟨sb, so + q, none⟩ = some (.slice u2a ys.length u2c))
            (first
              | go_keep
              | (exact ⟨cell_kept (btt hbd hbC) g1, cell_kept (btt hbd hbC) b0, cell_kept (btt hbd hbC) b1, cell_kept (btt hbd hbC) f1, cell_kept (btt hbd hbC) f2⟩))
            (first
              | (go_at_call 92; rw [← hWd.out]; refine HC.out.mono ?_; rintro e wC ⟨uC, rfl, hCo, hbC⟩; obtain ⟨gC, cC, rfl, _⟩ := hCo.form hN0))
          go_wp2_with fail
          have hbxC : Below wr.heap.size wr wC := btt hbx (btt hbd hbC)
          have hcc := Lib.hid (fun k (hk : k < N) => OwX.intCells hCo hk)
          obtain ⟨wi, hwi⟩ : ∃ wi, wi = wr := ⟨_, rfl⟩
          subst hwi
          go_loopg [13, 56] N (fun f lv kv wr => ∃ k : Nat, kv = .int .i64 k ∧ f + k = N ∧ OwX 79 7 EI wr wC.heap.size lv k ((C.map rdOf).take k) ∧ Below wC.heap.size wC wr)
          case atStart => exact ⟨0, rfl, by omega, by rw [List.take_zero]; exact OwX.nil _ _, Below.refl _ _⟩
          case round =>
            obtain ⟨k, rfl, hfk, hl, hbz⟩ := hrel
            obtain ⟨la, lc, hlv⟩ := hl.shape
            subst hlv
            by_cases hltk : k < N
            · obtain ⟨f3, rfl⟩ : ∃ f3, gk = f3 + 1 := ⟨gk - 1, by omega⟩
              obtain ⟨hm8, hmc⟩ := hcc.out k hltk
              have hmc := hmc.keep hbz
              obtain ⟨mv, hmv⟩ : ∃ mv, C.getD k [] = mv := ⟨_, rfl⟩
              have hsn := take_succ_snoc (xs := C.map rdOf) (i := k) (d := rdOf []) (x := rdOf mv) (by rw [List.length_map, hCl.out]; exact hltk) (by rw [getD_eq (by rw [List.length_map, hCl.out]; exact hltk), List.getElem_map, ← hmv, getD_eq (by rw [hCl.out]; exact hltk)])
              rw [hmv] at hm8 hmc
              obtain ⟨y0, y1, y2, y3, y4, y5, y6, y7, rfl⟩ := eight hm8
              obtain ⟨c0, c1, c2, c3, c4, c5, c6, c7⟩ := hmc.all8
              have hrd : rdOf [y0, y1, y2, y3, y4, y5, y6, y7] = [y0, y1, y2, y3, y4, y5, y6] := rfl
              rw [hrd] at hsn
              replace hsn := Lib.hid hsn
              have hlw := OwX.keep (EI.stab _) hl ((Below.refl wr.heap.size wr).alloc (Nat.le_refl _) (.cells #[.int .i64 y0, .int .i64 y1, .int .i64 y2, .int .i64 y3, .int .i64 y4, .int .i64 y5, .int .i64 y6, .int .i64 y7] 84))
              have hki : (k : Int) < (N : Int) := by omega
              have hc9 : ∀ u ∈ (#[.int .i64 y0, .int .i64 y1, .int .i64 y2, .int .i64 y3, .int .i64 y4, .int .i64 y5, .int .i64 y6] : Array Value).toList, u.oneCell' = true := fun u hu => by
                simp only [List.mem_cons, List.not_mem_nil, or_false] at hu
                rcases hu with rfl | rfl | rfl | rfl | rfl | rfl | rfl <;> rfl
              have hEI : EI (wr.alloc (.cells #[.int .i64 y0, .int .i64 y1, .int .i64 y2, .int .i64 y3, .int .i64 y4, .int .i64 y5, .int .i64 y6, .int .i64 y7] 84)) [.int .i64 y0, .int .i64 y1, .int .i64 y2, .int .i64 y3, .int .i64 y4, .int .i64 y5, .int .i64 y6] [y0, y1, y2, y3, y4, y5, y6] := rfl
              have hszz := hbz.size
              have hbzz : Below wC.heap.size wC (wr.alloc (.cells #[.int .i64 y0, .int .i64 y1, .int .i64 y2, .int .i64 y3, .int .i64 y4, .int .i64 y5, .int .i64 y6, .int .i64 y7] 84)) := hbz.alloc hszz _
              have hk9 : k ≤ 1000000000000 := by omega
              clear hmv hm8 hmc hrd
              go_wp2_with (at_builtin; refine wpAppX elemRd (by decide) (by decide) (EI.stab _) rfl _ _ rfl rfl hlw rfl (by simp) rfl hc9 hEI hk9 hbzz.size ?_)
              intro v' w2 hrow2 hgr2 hbl2 hx2
              rw [hsn.out] at hrow2
              go_wp2
              go_roundg f3
              case measure => omega
              case rel => exact ⟨k + 1, by go_num, by omega, hrow2, hbzz.trans hbl2⟩
            · obtain rfl : k = N := by omega
              rw [List.take_of_length_le (by rw [List.length_map, hCl.out]; exact Nat.le_refl _)] at hl
              obtain ⟨gl, cl, hle, hgl⟩ := hl.form hN0
              obtain ⟨rfl, rfl⟩ : la = some ⟨gl, 0, none⟩ ∧ lc = cl := by injection hle with h1 h2 h3; exact ⟨h1, h3⟩
              have HS := Lib.hid (sortRds hl (by omega))
              have hbz' := bt hbxC hbz hbxC.size
              clear hl hle hcc hCo
              go_wp2_with fail
              refine HS.out.mono ?_
              rintro e wS ⟨rfl, zs, hz1, hz2, hzo, hzb, hzx⟩
              have HK := Lib.hid (compactRd hzo (by omega))
              have hcz := hltr.out zs hz1 (hz2.imp fun h => by omega)
              rw [hcz] at HK
              have hrlN : (ltr ss p q).length ≤ 180 := by
                have h1 := cmpc_len_le zs
                have h2 := hz1.length_eq
                rw [hcz] at h1
                rw [List.length_map, hCl.out] at h2
                omega
              clear hz1 hz2 hzo hcz
              have hbS := hbz'.trans (hzb.mono hbxC.size)
              go_wp2_with fail
              refine HK.out.mono ?_
              rintro e wL ⟨rl, rfl, hRs, hbL, hxL⟩
              have hbrL : Below wi.heap.size wi wL := hbS.trans (hbL.mono hbxC.size)
              go_wp2_with fail
              have hbxL : Below Wx.heap.size Wx wL := (((btt hbd hbC).trans (hbz.mono (btt hbd hbC).size)).trans (hzb.mono (btt hbd hbC).size)).trans (hbL.mono (btt hbd hbC).size)
              have hxbL := (hbxL.block _ (Array.getElem?_eq_some_iff.1 hxb).1).trans hxb
              have hSNL := hSN.keep (hbrL.block _ hSN.lt)
              have hnxL := OwX.keep (EIt.stab (by decide)) hnx hbrL
              have hwtL := OwX.keep (EIt.stab (by decide)) hwt hbrL
              have hxuL := OwX.keep (EI.stab _) hxu hbrL
              have hbW1L := bt hbr hbrL hbr.size
              have hnb : ∀ g, (Value.slice na (Q'.length - Q.length) nc).ownBlock = some g → g ≠ wi.heap.size := fun g hg e => by
                obtain ⟨_, h1, _⟩ := hnx
                have := (World.ownsRow.lt h1 g hg).2
                omega
              have hrl : (ltr ss p q).length = rl := hRs.length
              have hg0 : Hid (dIn false ss (dGo false ss f (b + j + 1)) ((p, q), wd) ((ltr ss p q).drop 0) Q' = some R) := hgi
              have hrlh := Lib.hid hrl
              have hrl180 : rl ≤ 180 := by rw [← hrl]; exact hrlN
              have hszi : wi.heap.size ≤ wL.heap.size := hbrL.size
              have hrl0 : ∀ k, k < rl → ((ltr ss p q).getD k []).length = 7 := fun k hk => (hRs.intCells hk).1
              have hrl0h := Lib.hid hrl0
              obtain ⟨LT, hLT⟩ : ∃ LT, ltr ss p q = LT := ⟨_, rfl⟩
              rw [hLT] at hRs hg0 hrlh hrl0h
              clear hrlN hSN hnx hwt hxu hbr hbrL hbS hbz hzb hzx hbL hxL hbz' hrl hrl0 hLT hgi hltr hxb hbx cx0 cx1 cx2 hr1 hr0 g1 g0 f1 f2 b0 b1 e1 e2 d1 d2 hdb hbd hbC hbxC hbxL
              go_loopg [10, 71] rl (fun gg nv kv wr => ∃ (k : Nat) (Qk : List It), kv = .int .i64 k ∧ gg + k = rl ∧ SNP wr (w.heap.size + 1) (Qk.map Prod.fst) ∧ OwX 136 3 EIt wr W1.heap.size nv (Qk.length - Q.length) (Qk.drop Q.length) ∧
                OwX 136 3 EIt wr W1.heap.size (.slice (some ⟨gw, 0, none⟩) m wc) m (Q.drop b) ∧ Apart nv (.slice (some ⟨gw, 0, none⟩) m wc) ∧ (∀ g, nv.ownBlock = some g → g ≠ wi.heap.size) ∧
                wr.heap[wi.heap.size]? = some (.cells #[.int .i64 (p : Int), .int .i64 (q : Int), .slice xua wd.length xuc] 136) ∧ Below W1.heap.size W1 wr ∧ KeepX 136 wL wr ∧ wL.heap.size ≤ wr.heap.size ∧
                Hid (dIn false ss (dGo false ss f (b + j + 1)) ((p, q), wd) (LT.drop k) Qk = some R) ∧ Hid (QB ss Qk) ∧ Hid (∃ T, Qk = Q ++ T) ∧ Q'.length ≤ Qk.length)
              case atStart => exact ⟨0, Q', rfl, by omega, hSNL, hnxL, hwtL, hAp, hnb, hxbL, hbW1L, KeepX.refl _ _, Nat.le_refl _, hg0, hQB, hT, Nat.le_refl _⟩
              case round =>
                clear hSNL hnxL hwtL hAp hnb hxbL hbW1L hg0 hQB hT
                obtain ⟨k, Qk, rfl, hgk, hSN, hnx, hwt, hAp, hnb, hxb, hbr, hKX, hszL, hg, hQB, hT, hQQ⟩ := hrel
                obtain ⟨na, nc, hnv⟩ := hnx.shape
                subst hnv
                by_cases hltk : k < rl
                · obtain ⟨gg, rfl⟩ : ∃ gg, gk = gg + 1 := ⟨gk - 1, by omega⟩
                  have hRr := hRs.other (E' := 136) (EI.stab _) (by decide) hKX
                  obtain ⟨hr7, hrc⟩ := hRr.intCells hltk
                  obtain ⟨r, hr⟩ : ∃ r, LT.getD k [] = r := ⟨_, rfl⟩
                  have hg2 := hg.out
                  rw [drop_cons (show k < LT.length by rw [hrlh.out]; exact hltk) ([] : List Int), hr, dIn] at hg2
                  rw [hr] at hr7 hrc
                  obtain ⟨r0, r1, r2, r3, r4, r5, r6, rfl⟩ := seven hr7
                  obtain ⟨c0, c1, c2, c3, c4, c5, c6⟩ := hrc.all7
                  have hki : (k : Int) < (rl : Int) := by omega
                  obtain ⟨Wr, hWr⟩ : ∃ Wr, Wr = wr.alloc (.cells #[.int .i64 r0, .int .i64 r1, .int .i64 r2, .int .i64 r3, .int .i64 r4, .int .i64 r5, .int .i64 r6] 79) := ⟨_, rfl⟩
                  have hbWr : Below wr.heap.size wr Wr := by rw [hWr]; exact (Below.refl _ _).alloc (Nat.le_refl _) _
                  have hrb : Wr.heap[wr.heap.size]? = some (.cells #[.int .i64 r0, .int .i64 r1, .int .i64 r2, .int .i64 r3, .int .i64 r4, .int .i64 r5, .int .i64 r6] 79) := by rw [hWr]; exact heap_alloc_new _ _
                  obtain ⟨k0, k1, k2, k3, k4, k5, k6⟩ := (box7CI hrb).all7
                  simp only [Nat.zero_add] at k0 k1 k2 k3 k4 k5 k6
                  have hbwr : Below w.heap.size w wr := bt hb1 hbr hb1.size
                  have hbwR : Below w.heap.size w Wr := bt hbwr hbWr hbwr.size
                  have hszR : w.heap.size ≤ Wr.heap.size := hbwR.size
                  have a0 := cell_kept (bt hbr hbWr hbr.size) p0
                  have a1 := cell_kept (bt hbr hbWr hbr.size) p1
                  have hxbR := (hbWr.block _ (Array.getElem?_eq_some_iff.1 hxb).1).trans hxb
                  have b0 : Wr.cell? ⟨wi.heap.size, 0, none⟩ = some (.int .i64 (p : Int)) := by rw [cell_of_row _ _ 0 _ _ _ hxbR]; rfl
                  have b1 : Wr.cell? ⟨wi.heap.size, 1, none⟩ = some (.int .i64 (q : Int)) := by rw [cell_of_row _ _ 1 _ _ _ hxbR]; rfl
                  have b2 : Wr.cell? ⟨wi.heap.size, 2, none⟩ = some (.slice xua wd.length xuc) := by rw [cell_of_row _ _ 2 _ _ _ hxbR]; rfl
                  have HTp := Lib.hid (fun W hW => HT.out W hW p hp r0 r1 r2 r3 r4 r5 r6)
                  have HTq := Lib.hid (fun W hW => HT.out W hW q hq r0 r1 r2 r3 r4 r5 r6)
                  have hPp := toI_st hM.out hp [r0, r1, r2, r3, r4, r5, r6]
                  have hPq := toI_st hM.out hq [r0, r1, r2, r3, r4, r5, r6]
                  have hdP : dP ss [r0, r1, r2, r3, r4, r5, r6] (p, q) = ((toI [r0, r1, r2, r3, r4, r5, r6] (ss.getD p [])).toNat, (toI [r0, r1, r2, r3, r4, r5, r6] (ss.getD q [])).toNat) := rfl
                  rw [hdP] at hg2
                  obtain ⟨P1, hP1⟩ : ∃ P1, toI [r0, r1, r2, r3, r4, r5, r6] (ss.getD p []) = P1 := ⟨_, rfl⟩
                  obtain ⟨P2, hP2⟩ : ∃ P2, toI [r0, r1, r2, r3, r4, r5, r6] (ss.getD q []) = P2 := ⟨_, rfl⟩
                  simp only at hg2
                  rw [hP1, hP2] at hg2
                  rw [hP1] at hPp HTp
                  rw [hP2] at hPq HTq
                  replace hg2 := Lib.hid hg2
                  clear hr hr7 hrc hRr hP1 hP2 hdP hg
                  go_wp2_with fail
                  rw [← hWr]
                  clear c0 c1 c2 c3 c4 c5 c6
                  replace hWr := Lib.hid hWr
                  have KS : Hid (∀ X, Below Wr.heap.size Wr X → X.cell? ⟨w.heap.size, 0, none⟩ = some (.int .i64 n) ∧ X.cell? ⟨w.heap.size, 1, none⟩ = some (.slice (some ⟨sb, so, none⟩) ss.length sc) ∧ X.cell? ⟨wi.heap.size, 0, none⟩ = some (.int .i64 (p : Int)) ∧ X.cell? ⟨wi.heap.size, 1, none⟩ = some (.int .i64 (q : Int)) ∧ X.cell? ⟨wr.heap.size, 0, none⟩ = some (.int .i64 r0) ∧ X.cell? ⟨wr.heap.size, 1, none⟩ = some (.int .i64 r1) ∧ X.cell? ⟨wr.heap.size, 2, none⟩ = some (.int .i64 r2) ∧ X.cell? ⟨wr.heap.size, 3, none⟩ = some (.int .i64 r3) ∧ X.cell? ⟨wr.heap.size, 4, none⟩ = some (.int .i64 r4) ∧ X.cell? ⟨wr.heap.size, 5, none⟩ = some (.int .i64 r5) ∧ X.cell? ⟨wr.heap.size, 6, none⟩ = some (.int .i64 r6)) := fun X hX => ⟨cell_kept hX a0, cell_kept hX a1, cell_kept hX b0, cell_kept hX b1, cell_kept hX k0, cell_kept hX k1, cell_kept hX k2, cell_kept hX k3, cell_kept hX k4, cell_kept hX k5, cell_kept hX k6⟩
                  go_upto_region 18 with fail
                  go_cut [18] (fun pv wx => ∃ bp, pv = .pointer (some ⟨bp, 0, none⟩) ∧ wx.heap[bp]? = some (.cells #[.int .i64 P1, .int .i64 P2] 133) ∧ Below Wr.heap.size Wr wx)
                  case first =>
                    go_region_held3 (fun w' => w'.cell? ⟨w.heap.size, 0, none⟩ = some (.int .i64 n) ∧ w'.cell? ⟨w.heap.size, 1, none⟩ = some (.slice (some ⟨sb, so, none⟩) ss.length sc) ∧ w'.cell? ⟨wi.heap.size, 0, none⟩ = some (.int .i64 (p : Int)) ∧ w'.cell? ⟨wi.heap.size, 1, none⟩ = some (.int .i64 (q : Int)) ∧ w'.cell? ⟨wr.heap.size, 0, none⟩ = some (.int .i64 r0) ∧ w'.cell? ⟨wr.heap.size, 1, none⟩ = some (.int .i64 r1) ∧ w'.cell? ⟨wr.heap.size, 2, none⟩ = some (.int .i64 r2) ∧ w'.cell? ⟨wr.heap.size, 3, none⟩ = some (.int .i64 r3) ∧ w'.cell? ⟨wr.heap.size, 4, none⟩ = some (.int .i64 r4) ∧ w'.cell? ⟨wr.heap.size, 5, none⟩ = some (.int .i64 r5) ∧ w'.cell? ⟨wr.heap.size, 6, none⟩ = some (.int .i64 r6))
                      (first
                        | go_keep
                        | (refine KS.out _ ?_; repeat (first | exact hR6 | exact hR5 | exact Below.refl _ _ | refine Below.drew ?_ | refine Below.alloc ?_ (by first | exact hR6.size | exact hR5.size | (simp; done)) _ | refine Below.setCell ?_ (by first | exact hR5.size | exact Nat.le_refl _) _)))
                      (first
                        | (go_at_call 96; (with_reducible refine (HTp.out _ (hbwR.trans (Below.mono (B := Wr.heap.size) (by repeat (first | exact Below.refl _ _ | refine Below.drew ?_ | refine Below.alloc ?_ (by simp) _)) hszR))).mono ?_); rintro e w5 ⟨rfl, hb5⟩; have hR5 : Below Wr.heap.size Wr w5 := below_of (by repeat (first | exact Below.refl _ _ | refine Below.drew ?_ | refine Below.alloc ?_ (by simp) _)) hb5 (Nat.le_refl _); (try have hz5 := zkeep hb5))
                        | (go_at_call 96; (with_reducible refine (HTq.out _ (hbwR.trans (Below.mono (B := Wr.heap.size) (hR5.trans (Below.mono (B := w5.heap.size) (by repeat (first | exact Below.refl _ _ | refine Below.drew ?_ | refine Below.alloc ?_ (Nat.le_refl _) _)) hR5.size)) hszR))).mono ?_); rintro e w6 ⟨rfl, hb6⟩; have hR6 : Below Wr.heap.size Wr w6 := hR5.trans (below_of (Below.mono (B := w5.heap.size) (by repeat (first | exact Below.refl _ _ | refine Below.drew ?_ | refine Below.alloc ?_ (Nat.le_refl _) _)) hR5.size) hb6 hR5.size); (first | have hz6 := (hb6.block _ (Array.getElem?_eq_some_iff.1 hz5).1).trans hz5 | have hz6 := zkeep2 hb6 | skip); (try have z60 := (pairCells hz6).1); (try have z61 := (pairCells hz6).2.1); (try have z62 := (pairCells hz6).2.2.1); (try have z63 := (pairCells hz6).2.2.2)))
                    all_goals
                      go_wp2
                      go_meet
                      first
                        | exact ⟨w6.heap.size, rfl, heap_alloc_new w6 _, Below.alloc hR6 hR6.size _⟩
                        | exact ⟨w5.heap.size, rfl, pairSet hz6, Below.setCell (p := ⟨w5.heap.size, 1, none⟩) (Below.setCell (p := ⟨w5.heap.size, 0, none⟩) hR6 hR5.size _) hR5.size _⟩
                        | exact ⟨Wr.heap.size, rfl, pairSet hz6, Below.setCell (p := ⟨Wr.heap.size, 1, none⟩) (Below.setCell (p := ⟨Wr.heap.size, 0, none⟩) hR6 (Nat.le_refl _) _) (Nat.le_refl _) _⟩
                  case rest =>
                    obtain ⟨bp, rfl, hpb, hbP⟩ := hcut
                    obtain ⟨wp, hwp⟩ : ∃ wp, wp = wc := ⟨_, rfl⟩
                    subst hwp
                    obtain ⟨j0, j1, j2, j3, j4, j5, j6, j7, j8, j9, j10⟩ := KS.out wp hbP
                    have x2 := cell_kept hbP b2
                    have hbrp : Below wr.heap.size wr wp := bt hbWr hbP hbWr.size
                    have hxup := OwX.keep (EI.stab _) (hxuL.other (E' := 136) (EI.stab _) (by decide) hKX) hbrp
                    have hw9 : wd.length ≤ 1000000 := by omega
                    have hpbh := Lib.hid hpb
                    clear a0 a1 b0 b1 b2 k0 k1 k2 k3 k4 k5 k6 hpb
                    go_upto_region 19 with fail
                    refine appClone x2 j4 j5 j6 j7 j8 j9 j10 hxup hw9 ?_
                    intro v7 w7 y88 y89 y90 y91 y92 y93 ho7 hP7
                    obtain ⟨va, vc, hv7⟩ := ho7.shape
                    subst hv7
                    have hp7 := (hP7.block _ (Array.getElem?_eq_some_iff.1 hpbh.out).1).trans hpbh.out
                    obtain ⟨e0, e1, e2, e3⟩ := pairCells hp7
                    have hb7 : Below wr.heap.size wr w7 := bt hbrp hP7 hbrp.size
                    have hbW7 : Below W1.heap.size W1 w7 := bt hbr hb7 hbr.size
                    have hbw7 : Below w.heap.size w w7 := bt hb1 hbW7 hb1.size
                    clear j0 j1 j2 j3 j4 j5 j6 j7 j8 j9 j10 x2 hxup hbrp KS HTp HTq
                    by_cases hP1n : P1 < 0
                    · have hd1 : decide (P1 < 0) = true := decide_eq_true hP1n
                      have hRe : some (some (wd ++ [[r0, r1, r2, r3, r4, r5, r6]])) = some R := by rw [← hg2.out, if_pos (.inl hP1n)]
                      injection hRe with hRe
                      subst hRe
                      have hfin : OwX 79 7 EI w7 w.heap.size (.slice va (wd.length + 1) vc) ((some (wd ++ [[r0, r1, r2, r3, r4, r5, r6]])).getD []).length ((some (wd ++ [[r0, r1, r2, r3, r4, r5, r6]])).getD []) := by
                        simp only [Option.getD_some, List.length_append, List.length_cons, List.length_nil]
                        exact ho7.base (by have := hbwR.size; have := hbP.size; omega)
                      clear hg2 ho7
                      go_wp2_with fail
                      go_ret2
                      exact ⟨_, rfl, hfin, hbw7⟩
                    · have hd1 : decide (P1 < 0) = false := decide_eq_false hP1n
                      by_cases hP2n : P2 < 0
                      · have hd2 : decide (P2 < 0) = true := decide_eq_true hP2n
                        have hRe : some (some (wd ++ [[r0, r1, r2, r3, r4, r5, r6]])) = some R := by rw [← hg2.out, if_pos (.inr hP2n)]
                        injection hRe with hRe
                        subst hRe
                        have hfin : OwX 79 7 EI w7 w.heap.size (.slice va (wd.length + 1) vc) ((some (wd ++ [[r0, r1, r2, r3, r4, r5, r6]])).getD []).length ((some (wd ++ [[r0, r1, r2, r3, r4, r5, r6]])).getD []) := by
                          simp only [Option.getD_some, List.length_append, List.length_cons, List.length_nil]
                          exact ho7.base (by have := hbwR.size; have := hbP.size; omega)
                        clear hg2 ho7
                        go_wp2_with fail
                        go_ret2
                        exact ⟨_, rfl, hfin, hbw7⟩
                      · have hd2 : decide (P2 < 0) = false := decide_eq_false hP2n
                        obtain ⟨pa, rfl⟩ : ∃ a : Nat, P1 = (a : Int) := ⟨P1.toNat, by omega⟩
                        obtain ⟨pc, rfl⟩ : ∃ a : Nat, P2 = (a : Int) := ⟨P2.toNat, by omega⟩
                        have hpa : pa < ss.length := by omega
                        have hpc : pc < ss.length := by omega
                        have hg3 := hg2.out
                        rw [if_neg (by omega), Int.toNat_natCast, Int.toNat_natCast] at hg3
                        have hSN7 := hSN.keep (hb7.block _ hSN.lt)
                        have hnx7 := OwX.keep (EIt.stab (by decide)) hnx hb7
                        have hwt7 := OwX.keep (EIt.stab (by decide)) hwt hb7
                        have hxb7 := (hb7.block _ (Array.getElem?_eq_some_iff.1 hxb).1).trans hxb
                        have hKX7 : KeepX 136 wL w7 := hKX.trans (KeepX.below hb7)
                        have hsz7 := hb7.size
                        have hlook := SNP.look hSN7 (hQB.out.sm hl90) (x := (pa, pc)) ⟨by omega, by omega⟩
                        by_cases hin : (pa, pc) ∈ Qk.map Prod.fst
                        · rw [if_pos (.inl hin)] at hg3
                          rw [decide_eq_true hin] at hlook
                          replace hg3 := Lib.hid hg3
                          clear hg2 ho7 hin
                          go_wp2_with fail
                          go_roundg gg
                          case measure => omega
                          case rel => exact ⟨k + 1, Qk, by go_num, by omega, hSN7, hnx7, hwt7, hAp, hnb, hxb7, hbW7, hKX7, by omega, hg3, hQB, hT, hQQ⟩
                        · by_cases hac : pa = pc
                          · rw [if_pos (.inr ⟨trivial, hac⟩)] at hg3
                            rw [decide_eq_false hin] at hlook
                            have hne : ((pa : Int) == (pc : Int)) = true := by simp [hac]
                            replace hg3 := Lib.hid hg3
                            clear hg2 ho7 hin hac
                            go_wp2_with fail
                            go_roundg gg
                            case measure => omega
                            case rel => exact ⟨k + 1, Qk, by go_num, by omega, hSN7, hnx7, hwt7, hAp, hnb, hxb7, hbW7, hKX7, by omega, hg3, hQB, hT, hQQ⟩
                          · rw [if_neg (by rintro (h | ⟨_, h⟩); exact hin h; exact hac h)] at hg3
                            rw [decide_eq_false hin] at hlook
                            have hne : ((pa : Int) == (pc : Int)) = false := by simp; omega
                            obtain ⟨ob8, hput8, hSN8⟩ := SNP.put hSN7 (hQB.out.sm hl90) (x := (pa, pc)) ⟨by omega, by omega⟩ hin
                            have hKX78 := hSN7.keepX 24 ob8
                            have hKX78i := hSN7.keepX 136 ob8
                            have hp8 := (hKX78 _ _ _ hp7 (by decide)).trans hp7
                            have hxb8 := (hKX78 _ _ _ hxb7 (by decide)).trans hxb7
                            have hnx8 := hnx7.other (E' := 24) (EIt.stab (by decide)) (by decide) hKX78
                            have hwt8 := hwt7.other (E' := 24) (EIt.stab (by decide)) (by decide) hKX78
                            have ho8 := ho7.other (E' := 24) (EI.stab _) (by decide) hKX78
                            have hbW8 : Below W1.heap.size W1 (setBlock w7 (w.heap.size + 1) ob8) := setBlock_below hbW7 (by have := hs1.out; omega) ob8
                            have hs8 : (setBlock w7 (w.heap.size + 1) ob8).heap.size = w7.heap.size := by simp [setBlock]
                            obtain ⟨W8, hW8⟩ : ∃ W8, W8 = setBlock w7 (w.heap.size + 1) ob8 := ⟨_, rfl⟩
                            rw [← hW8] at hput8 hSN8 hKX78 hKX78i hp8 hxb8 hnx8 hwt8 ho8 hbW8 hs8
                            replace hW8 := Lib.hid hW8
                            obtain ⟨e0, e1, e2, e3⟩ := pairCells hp8
                            have hQB' : Hid (QB ss (Qk ++ [((pa, pc), wd ++ [[r0, r1, r2, r3, r4, r5, r6]])])) := hQB.out.snoc (t := ((pa, pc), wd ++ [[r0, r1, r2, r3, r4, r5, r6]])) hin ⟨hpa, hpc⟩ (by simp only [List.length_append, List.length_cons, List.length_nil]; omega)
                            have hT' : Hid (∃ T, Qk ++ [((pa, pc), wd ++ [[r0, r1, r2, r3, r4, r5, r6]])] = Q ++ T) := by
                              obtain ⟨T, hT⟩ := hT.out
                              exact ⟨T ++ [((pa, pc), wd ++ [[r0, r1, r2, r3, r4, r5, r6]])], by rw [hT, List.append_assoc]⟩
                            have hQk9 : Qk.length - Q.length ≤ 1000000000000 := by have := hQB.out.len hl90; omega
                            have hQle : Q.length ≤ Qk.length := by have := hQQ; have := hQT; omega
                            have hdr := drop_snoc (x := ((pa, pc), wd ++ [[r0, r1, r2, r3, r4, r5, r6]])) hQle
                            replace hg3 := Lib.hid hg3
                            replace hdr := Lib.hid hdr
                            clear hg2 ho7 hin hac hp7 hp8
                            go_upto_region 24 with fail
                            refine appItem (wd := wd ++ [[r0, r1, r2, r3, r4, r5, r6]]) e0 e1 hnx8 hQk9 hbW8.size ho8.own ?_
                            intro nv9 w9 y116 y117 y118 y119 y120 y121 hnx9 hg9 hn9 hb9 hX9
                            obtain ⟨q1, q2, q3, q4, q5⟩ := push_all rfl hSN8 hnx8 hwt8 hAp hxb8 hnb hg9 hn9
                            have hb89 : Below W1.heap.size W1 w9 := (Below.alloc hbW8 hbW8.size _).trans hb9
                            have hKX9 : KeepX 136 wL w9 := ((hKX7.trans hKX78i).trans (KeepX.below ((Below.refl _ _).alloc (Nat.le_refl _) _))).trans hX9
                            have hs9 := hb9.size
                            rw [hdr.out, show Qk.length - Q.length + 1 = (Qk ++ [((pa, pc), wd ++ [[r0, r1, r2, r3, r4, r5, r6]])]).length - Q.length by rw [List.length_append, List.length_cons, List.length_nil]; omega] at hnx9
                            rw [World.size_alloc] at hs9
                            have hmap : SNP w9 (w.heap.size + 1) ((Qk ++ [((pa, pc), wd ++ [[r0, r1, r2, r3, r4, r5, r6]])]).map Prod.fst) := by rw [List.map_append]; exact q1
                            have hlen9 : Q'.length ≤ (Qk ++ [((pa, pc), wd ++ [[r0, r1, r2, r3, r4, r5, r6]])]).length := by rw [List.length_append]; omega
                            have hsz9 : wL.heap.size ≤ w9.heap.size := by omega
                            go_wp2_with fail
                            go_roundg gg
                            case measure => omega
                            case rel => exact ⟨k + 1, _, by go_num, by omega, hmap, hnx9, q2, q3, q4, q5, hb89, hKX9, hsz9, hg3, hQB', hT', hlen9⟩
                · obtain rfl : k = rl := by omega
                  have hg2 := hg.out
                  rw [List.drop_eq_nil_of_le (by rw [hrlh.out]; exact Nat.le_refl _), dIn] at hg2
                  have hg3 : Hid (dGo false ss f (b + (j + 1)) Qk = some R) := hg2
                  clear hg hg2
                  go_wp2_with fail
                  go_roundg f
                  case measure => omega
                  case rel => exact ⟨j + 1, Qk, by go_num, by omega, by omega, hSN, hnx, hwt, hAp, hbr, hg3, hQB, hT⟩
        · obtain rfl : j = m := by omega
          have hg3 : Hid (dGo false ss gk Q.length Q' = some R) := by
            show _ = _
            rw [← hg.out, hQbmh.out]
          have hQle : Q.length ≤ Q'.length := by obtain ⟨T, rfl⟩ := hT.out; simp
          clear hg
          go_wp2_with fail
          go_roundg gk
          case measure => have := hG.out; omega
          case rel => exact ⟨Q.length, Q', hQle, hSN, hnx, hbr, hg3, hQB⟩
    · have hRe : some (none : Option (List (List Int))) = some R := by
        have h1 := hg.out
        cases gk with
        | zero => simp [dGo] at h1
        | succ f => rw [dGo, if_neg hlt] at h1; exact h1
      injection hRe with hRe
      subst hRe
      have hbw := bt hb1 hbr hb1.size
      have hzero : Q.length - b = 0 := by omega
      rw [hzero] at *
      clear hg hQB hwt
      go_wp2_with fail
      go_ret2
      exact ⟨_, rfl, OwX.nil _ _, hbw⟩
end Go.Proofs.YtfihpofdoffclaaGreatDoor

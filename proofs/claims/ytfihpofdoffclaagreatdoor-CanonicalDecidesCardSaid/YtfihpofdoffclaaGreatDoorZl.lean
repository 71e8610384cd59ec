/- Texts of this claim, put together: E5 E7 E8 H0. -/
import Derived.Test.YtfihpofdoffclaaGreatDoorZi
import Derived.Test.YtfihpofdoffclaaGreatDoorZj
import Derived.Test.YtfihpofdoffclaaGreatDoorZk

/- Classes, Canonical, Is and Equal. -/
namespace Go.Proofs.YtfihpofdoffclaaGreatDoor
open Go.RowKit Go.ChangeMaps Go.MapKept

/-- canonical.canonical, of an adversary that is well-formed. -/
theorem canonC {w : World} {v : Value} {n : Int} {ss : List (List (List Int))} (hA : AdvV w v n ss) (hO : ClsOK ss) :
    Calls Tryz.prog 51 #[v] w fun e w' => ∃ u, e = .returned u ∧ OwAdv w' u n (canS ss) ∧ Below w.heap.size w w' := by
  obtain ⟨h1, h2, h3⟩ := ordC_eq hO
  have hl := hO.1
  exact canonW hA hO (clsGo_part hO) (part_len ss) (fun x hx => part_mem (by omega) hx) h1 (by omega) h3
/-- An adversary in a box. -/
theorem boxAdv {w : World} {n : Int} {a : Option Addr} {l c : Nat} {w1 : World} (hw : w1 = w.alloc (.cells #[.int .i64 n, .slice a l c] 24)) :
    Below w.heap.size w w1 ∧ w1.cell? ⟨w.heap.size, 0, none⟩ = some (.int .i64 n) ∧ w1.cell? ⟨w.heap.size, 1, none⟩ = some (.slice a l c) ∧ w1.heap[w.heap.size]? = some (.cells #[.int .i64 n, .slice a l c] 24) := by
  have h := heap_alloc_new w (.cells #[.int .i64 n, .slice a l c] 24)
  rw [← hw] at h
  refine ⟨by rw [hw]; exact (Below.refl _ w).alloc (Nat.le_refl _) _, ?_, ?_, h⟩
  · rw [cell_of_row _ _ 0 _ _ _ h]; rfl
  · rw [cell_of_row _ _ 1 _ _ _ h]; rfl

set_option maxRecDepth 100000 in
set_option maxHeartbeats 800000 in
theorem classesGood {w : World} {v : Value} {n : Int} {ss : List (List (List Int))} (hA : AdvV w v n ss) (hl : ss.length ≤ 90) (hm : movesN ss ≤ 90) (h0 : chkA n ss = 0) :
    Calls Tryz.prog 13 #[v] w fun e w' => ∃ u, e = .returned (.tuple #[u, .int .i64 0]) ∧ OI w' w.heap.size u ss.length (natI (part ss)) ∧ Below w.heap.size w w' := by
  have hO := clsOK_of hA.len8 h0 hl hm
  have hA' := hA
  obtain ⟨sv, rfl, hK⟩ := hA'
  obtain ⟨sa, sc, hsv⟩ := hK.shape
  subst hsv
  obtain ⟨W1, hW1⟩ : ∃ W1, W1 = w.alloc (.cells #[.int .i64 n, .slice sa ss.length sc] 24) := ⟨_, rfl⟩
  obtain ⟨hb1, p0, p1, _⟩ := boxAdv hW1
  have HC := checkA (hA.keep hb1) (by omega)
  rw [h0] at HC
  have HL := Lib.hid (fun W (hb : Below w.heap.size w W) => classesCall (hK.keep hb) hO (clsGo_part hO))
  have hpl := part_len ss
  have h0l := hO.2.2.1
  replace HC := Lib.hid HC
  replace hO := Lib.hid hO
  obtain ⟨L, hL⟩ : ∃ L, part ss = L := ⟨_, rfl⟩
  have hLL : lbl L = L := by rw [← hL]; exact part_lbl h0l
  have hLb : Hid (∀ x ∈ L, x ≤ 1000000) := fun x hx => part_mem (ss := ss) (by omega) (by rw [hL]; exact hx)
  rw [hL] at HL hpl ⊢
  replace hLL := Lib.hid hLL
  clear hA hK h0
  go_enter Tryz.func13, Tryz.ntmps13
  go_wp2_with fail
  rw [← hW1]
  refine HC.out.mono ?_
  rintro e W2 ⟨rfl, hb2⟩
  have hb02 := bt hb1 hb2 hb1.size
  have q1 := cell_kept hb2 p1
  go_wp2_with fail
  refine (HL.out W2 hb02).mono ?_
  rintro e W3 ⟨u, rfl, h1, h2⟩
  have hs2 := hb02.size
  have HP := Lib.hid (partOf (ks := L) (h1.ints (by omega)) (by omega) (by omega) hLb.out)
  rw [hLL.out] at HP
  have hb03 := bt hb02 h2 hb02.size
  have hsz := hb03.size
  go_wp2_with fail
  refine HP.out.mono ?_
  rintro e W4 ⟨u2, rfl, h3, h4⟩
  have hfin : OI W4 w.heap.size u2 ss.length (natI L) := by rw [← hpl]; exact h3.base hsz
  have hb04 := bt hb03 h4 hsz
  replace hfin := Lib.hid hfin
  go_wp2
  go_ret2
  exact ⟨_, rfl, hfin.out, hb04⟩
set_option maxRecDepth 100000 in
set_option maxHeartbeats 800000 in
theorem classesBad {w : World} {v : Value} {n : Int} {ss : List (List (List Int))} (hA : AdvV w v n ss) (hm : movesN ss ≤ 1000000000) (h0 : chkA n ss ≠ 0) :
    Calls Tryz.prog 13 #[v] w fun e w' => e = .returned (.tuple #[.slice none 0 0, .int .i64 (chkA n ss)]) ∧ Below w.heap.size w w' := by
  have hA' := hA
  obtain ⟨sv, rfl, hK⟩ := hA'
  obtain ⟨sa, sc, hsv⟩ := hK.shape
  subst hsv
  obtain ⟨W1, hW1⟩ : ∃ W1, W1 = w.alloc (.cells #[.int .i64 n, .slice sa ss.length sc] 24) := ⟨_, rfl⟩
  obtain ⟨hb1, p0, p1, _⟩ := boxAdv hW1
  have HC := Lib.hid (checkA (hA.keep hb1) hm)
  obtain ⟨E, hE⟩ : ∃ E, chkA n ss = E := ⟨_, rfl⟩
  rw [hE] at HC h0 ⊢
  have h1 : (E == 0) = false := by simp [h0]
  clear hA hK hE
  go_enter Tryz.func13, Tryz.ntmps13
  go_wp2_with fail
  rw [← hW1]
  refine HC.out.mono ?_
  rintro e W2 ⟨rfl, hb2⟩
  have hb02 := bt hb1 hb2 hb1.size
  go_wp2_with fail
  go_ret2
  exact ⟨rfl, hb02⟩
set_option maxRecDepth 100000 in
set_option maxHeartbeats 800000 in
theorem canonGood {w : World} {v : Value} {n : Int} {ss : List (List (List Int))} (hA : AdvV w v n ss) (hl : ss.length ≤ 90) (hm : movesN ss ≤ 90) (h0 : chkA n ss = 0) :
    Calls Tryz.prog 15 #[v] w fun e w' => ∃ u, e = .returned (.tuple #[u, .int .i64 0]) ∧ OwAdv w' u n (canS ss) ∧ Below w.heap.size w w' := by
  have hO := clsOK_of hA.len8 h0 hl hm
  have hA' := hA
  obtain ⟨sv, rfl, hK⟩ := hA'
  obtain ⟨sa, sc, hsv⟩ := hK.shape
  subst hsv
  obtain ⟨W1, hW1⟩ : ∃ W1, W1 = w.alloc (.cells #[.int .i64 n, .slice sa ss.length sc] 24) := ⟨_, rfl⟩
  obtain ⟨hb1, p0, p1, _⟩ := boxAdv hW1
  obtain ⟨W1', hW1'⟩ : ∃ W1', W1' = W1.alloc (.cells #[.int .i64 0, .slice none 0 0] 24) := ⟨_, rfl⟩
  obtain ⟨hb1', z0, z1, m1⟩ := boxAdv hW1'
  have hs1 : W1.heap.size = w.heap.size + 1 := by rw [hW1]; simp
  have hb11 := bt hb1 hb1' hb1.size
  rw [hs1] at z0 z1 m1
  have p0' := cell_kept hb1' p0
  have p1' := cell_kept hb1' p1
  have HC := checkA (hA.keep hb11) (by omega)
  rw [h0] at HC
  have HL := Lib.hid (fun W (hb : Below w.heap.size w W) => canonC (hA.keep hb) hO)
  replace HC := Lib.hid HC
  clear hA hK h0 hO
  obtain ⟨C, hC⟩ : ∃ C, canS ss = C := ⟨_, rfl⟩
  rw [hC] at HL ⊢
  rw [hW1] at hW1'
  go_enter Tryz.func15, Tryz.ntmps15
  go_wp2_with fail
  rw [← hW1']
  refine HC.out.mono ?_
  rintro e W2 ⟨rfl, hb2⟩
  have hb02 := bt hb11 hb2 hb11.size
  have q0 := cell_kept hb2 p0'
  have q1 := cell_kept hb2 p1'
  go_wp2_with fail
  refine (HL.out W2 hb02).mono ?_
  rintro e W3 ⟨u, rfl, h1, h2⟩
  obtain ⟨su, rfl, hsu, hsl⟩ := h1
  obtain ⟨ua, uc, hua⟩ := hsu.shape
  subst hua
  have m3 := ((btt hb2 h2).block _ (Array.getElem?_eq_some_iff.1 m1).1).trans m1
  have y0 : W3.cell? ⟨w.heap.size + 1, 0, none⟩ = some (.int .i64 0) := by rw [cell_of_row _ _ 0 _ _ _ m3]; rfl
  have y1 : W3.cell? ⟨w.heap.size + 1, 1, none⟩ = some (.slice none 0 0) := by rw [cell_of_row _ _ 1 _ _ _ m3]; rfl
  have hfr := row_free m3
  have hb03 := bt hb02 h2 hb02.size
  have hrw1 : (W3.setCell ⟨w.heap.size + 1, 0, none⟩ (.int .i64 n)).heap[w.heap.size + 1]? = some (.cells #[.int .i64 n, .slice none 0 0] 24) := heap_setCell_same W3 _ 0 _ _ _ m3
  have hrw2 := two_setCell (u := .slice ua C.length uc) hrw1
  have hx2 := (KeepX.setCell (p := ⟨w.heap.size + 1, 0, none⟩) m3 (.int .i64 n)).trans (KeepX.setCell (p := ⟨w.heap.size + 1, 1, none⟩) hrw1 (.slice ua C.length uc))
  have hfin := OwAdv.other (v := .agg #[.int .i64 n, .slice ua C.length uc]) ⟨_, rfl, hsu, hsl⟩ hx2
  have hbe := (hb03.setCell (p := ⟨w.heap.size + 1, 0, none⟩) (Nat.le_succ _) (.int .i64 n)).setCell (p := ⟨w.heap.size + 1, 1, none⟩) (Nat.le_succ _) (.slice ua C.length uc)
  have e0 : ((W3.setCell ⟨w.heap.size + 1, 0, none⟩ (.int .i64 n)).setCell ⟨w.heap.size + 1, 1, none⟩ (.slice ua C.length uc)).cell? ⟨w.heap.size + 1, 0, none⟩ = some (.int .i64 n) := by rw [cell_of_row _ _ 0 _ _ _ hrw2]; rfl
  have e1 : ((W3.setCell ⟨w.heap.size + 1, 0, none⟩ (.int .i64 n)).setCell ⟨w.heap.size + 1, 1, none⟩ (.slice ua C.length uc)).cell? ⟨w.heap.size + 1, 1, none⟩ = some (.slice ua C.length uc) := by rw [cell_of_row _ _ 1 _ _ _ hrw2]; rfl
  replace hfin := Lib.hid hfin
  clear hrw1 hrw2 hx2 hsu m3 hC
  go_wp2
  obtain ⟨W8, hW8⟩ : ∃ W8, W8 = (W3.setCell ⟨w.heap.size + 1, 0, none⟩ (.int .i64 n)).setCell ⟨w.heap.size + 1, 1, none⟩ (.slice ua C.length uc) := ⟨_, rfl⟩
  rw [← hW8] at e0 e1 hfin hbe ⊢
  clear hW8
  refine bodyPost_ret (v := .tuple #[.agg #[.int .i64 n, .slice ua C.length uc], .int .i64 0]) (by simp [results, Tryz.results15, go_sem, e0, e1]) rfl ?_
  exact ⟨_, rfl, hfin.out, hbe⟩
set_option maxRecDepth 100000 in
set_option maxHeartbeats 800000 in
theorem canonBad {w : World} {v : Value} {n : Int} {ss : List (List (List Int))} (hA : AdvV w v n ss) (hm : movesN ss ≤ 1000000000) (h0 : chkA n ss ≠ 0) :
    Calls Tryz.prog 15 #[v] w fun e w' => e = .returned (.tuple #[.agg #[.int .i64 0, .slice none 0 0], .int .i64 (chkA n ss)]) ∧ Below w.heap.size w w' := by
  have hA' := hA
  obtain ⟨sv, rfl, hK⟩ := hA'
  obtain ⟨sa, sc, hsv⟩ := hK.shape
  subst hsv
  obtain ⟨W1, hW1⟩ : ∃ W1, W1 = w.alloc (.cells #[.int .i64 n, .slice sa ss.length sc] 24) := ⟨_, rfl⟩
  obtain ⟨hb1, p0, p1, _⟩ := boxAdv hW1
  obtain ⟨W1', hW1'⟩ : ∃ W1', W1' = W1.alloc (.cells #[.int .i64 0, .slice none 0 0] 24) := ⟨_, rfl⟩
  obtain ⟨hb1', z0, z1, m1⟩ := boxAdv hW1'
  have hs1 : W1.heap.size = w.heap.size + 1 := by rw [hW1]; simp
  have hb11 := bt hb1 hb1' hb1.size
  rw [hs1] at z0 z1 m1
  have p0' := cell_kept hb1' p0
  have p1' := cell_kept hb1' p1
  have HC := Lib.hid (checkA (hA.keep hb11) hm)
  obtain ⟨E, hE⟩ : ∃ E, chkA n ss = E := ⟨_, rfl⟩
  rw [hE] at HC h0 ⊢
  have h1 : (E == 0) = false := by simp [h0]
  clear hA hK hE
  rw [hW1] at hW1'
  go_enter Tryz.func15, Tryz.ntmps15
  go_wp2_with fail
  rw [← hW1']
  refine HC.out.mono ?_
  rintro e W2 ⟨rfl, hb2⟩
  have hb02 := bt hb11 hb2 hb11.size
  have m3 := (hb2.block _ (Array.getElem?_eq_some_iff.1 m1).1).trans m1
  have y0 : W2.cell? ⟨w.heap.size + 1, 0, none⟩ = some (.int .i64 0) := by rw [cell_of_row _ _ 0 _ _ _ m3]; rfl
  have y1 : W2.cell? ⟨w.heap.size + 1, 1, none⟩ = some (.slice none 0 0) := by rw [cell_of_row _ _ 1 _ _ _ m3]; rfl
  have hfr := row_free m3
  have hrw1 : (W2.setCell ⟨w.heap.size + 1, 0, none⟩ (.int .i64 0)).heap[w.heap.size + 1]? = some (.cells #[.int .i64 0, .slice none 0 0] 24) := heap_setCell_same W2 _ 0 _ _ _ m3
  have hrw2 := two_setCell (u := .slice none 0 0) hrw1
  have hbe := (hb02.setCell (p := ⟨w.heap.size + 1, 0, none⟩) (Nat.le_succ _) (.int .i64 0)).setCell (p := ⟨w.heap.size + 1, 1, none⟩) (Nat.le_succ _) (.slice none 0 0)
  have e0 : ((W2.setCell ⟨w.heap.size + 1, 0, none⟩ (.int .i64 0)).setCell ⟨w.heap.size + 1, 1, none⟩ (.slice none 0 0)).cell? ⟨w.heap.size + 1, 0, none⟩ = some (.int .i64 0) := by rw [cell_of_row _ _ 0 _ _ _ hrw2]; rfl
  have e1 : ((W2.setCell ⟨w.heap.size + 1, 0, none⟩ (.int .i64 0)).setCell ⟨w.heap.size + 1, 1, none⟩ (.slice none 0 0)).cell? ⟨w.heap.size + 1, 1, none⟩ = some (.slice none 0 0) := by rw [cell_of_row _ _ 1 _ _ _ hrw2]; rfl
  clear hrw1 hrw2 m3
  go_wp2
  obtain ⟨W8, hW8⟩ : ∃ W8, W8 = (W2.setCell ⟨w.heap.size + 1, 0, none⟩ (.int .i64 0)).setCell ⟨w.heap.size + 1, 1, none⟩ (.slice none 0 0) := ⟨_, rfl⟩
  rw [← hW8] at e0 e1 hbe ⊢
  clear hW8
  refine bodyPost_ret (v := .tuple #[.agg #[.int .i64 0, .slice none 0 0], .int .i64 E]) (by simp [results, Tryz.results15, go_sem, e0, e1]) rfl ?_
  exact ⟨rfl, hbe⟩
end Go.Proofs.YtfihpofdoffclaaGreatDoor

/- canonical.to and canonical.after. -/
namespace Go.Proofs.YtfihpofdoffclaaGreatDoor
open Go.RowKit

/-- The state to which a round leads, or -1. -/
def toI (r : List Int) : List (List Int) → Int
  | [] => -1
  | m :: ms => if rdOf m = r then m.getD 7 0 else toI r ms
theorem box7CI {w : World} {b : Nat} {x0 x1 x2 x3 x4 x5 x6 : Int} {t : TypeId} (h : w.heap[b]? = some (.cells #[.int .i64 x0, .int .i64 x1, .int .i64 x2, .int .i64 x3, .int .i64 x4, .int .i64 x5, .int .i64 x6] t)) : CI w b 0 [x0, x1, x2, x3, x4, x5, x6] := by
  intro j hj
  rw [cell_of_row w b (0 + j) _ _ _ h]
  match j, hj with
  | 0, _ => rfl
  | 1, _ => rfl
  | 2, _ => rfl
  | 3, _ => rfl
  | 4, _ => rfl
  | 5, _ => rfl
  | 6, _ => rfl
set_option maxRecDepth 100000 in
set_option maxHeartbeats 1600000 in
theorem toA {w : World} {v : Value} {n : Int} {ss : List (List (List Int))} (hA : AdvV w v n ss) {i : Nat} (hi : i < ss.length) (r0 r1 r2 r3 r4 r5 r6 : Int) :
    Calls Tryz.prog 96 #[v, .int .i64 (i : Int), .agg #[.int .i64 r0, .int .i64 r1, .int .i64 r2, .int .i64 r3, .int .i64 r4, .int .i64 r5, .int .i64 r6]] w fun e w' =>
      e = .returned (.int .i64 (toI [r0, r1, r2, r3, r4, r5, r6] (ss.getD i []))) ∧ Below w.heap.size w w' := by
  obtain ⟨sv, rfl, hK⟩ := hA
  obtain ⟨sa, sc, sb, so, rfl, hsa, hsc, _⟩ := hK
  obtain rfl := hsa (by omega)
  obtain ⟨W1, hW1⟩ : ∃ W1, W1 = w.alloc (.cells #[.int .i64 n, .slice (some ⟨sb, so, none⟩) ss.length sc] 24) := ⟨_, rfl⟩
  obtain ⟨hb1, p0, p1, _⟩ := boxAdv hW1
  have hs1 : W1.heap.size = w.heap.size + 1 := by rw [hW1]; simp
  obtain ⟨W2, hW2⟩ : ∃ W2, W2 = W1.alloc (.cells #[.int .i64 r0, .int .i64 r1, .int .i64 r2, .int .i64 r3, .int .i64 r4, .int .i64 r5, .int .i64 r6] 79) := ⟨_, rfl⟩
  have hb2 : Below W1.heap.size W1 W2 := by rw [hW2]; exact (Below.refl _ _).alloc (Nat.le_refl _) _
  have m2 : W2.heap[W1.heap.size]? = some (.cells #[.int .i64 r0, .int .i64 r1, .int .i64 r2, .int .i64 r3, .int .i64 r4, .int .i64 r5, .int .i64 r6] 79) := by rw [hW2]; exact heap_alloc_new _ _
  have hc2 := box7CI m2
  rw [hs1] at hc2
  have hb02 := bt hb1 hb2 hb1.size
  have q1 := cell_kept hb2 p1
  obtain ⟨u, hcu, hu⟩ := hsc i hi
  have hcu := cell_kept hb02 hcu
  have hu := hu.keep hb02
  obtain ⟨ms, hms⟩ : ∃ ms, ss.getD i [] = ms := ⟨_, rfl⟩
  rw [hms] at hu ⊢
  obtain ⟨ma, mc, mb, mo, rfl, hma, hmc, _⟩ := hu
  replace hmc := Lib.hid hmc
  replace hc2 := Lib.hid hc2
  obtain ⟨z, hz⟩ : ∃ z, toI [r0, r1, r2, r3, r4, r5, r6] ms = z := ⟨_, rfl⟩
  have hz0 : Hid (toI [r0, r1, r2, r3, r4, r5, r6] (ms.drop 0) = z) := by show _ = _; rw [List.drop_zero]; exact hz
  rw [hz]
  have hs2a : W2.heap.size ≤ w.heap.size + 2 := by rw [hW2]; simp; omega
  have hs2b : w.heap.size + 2 ≤ W2.heap.size := by rw [hW2]; simp; omega
  rw [hW1] at hW2
  clear hsc hms hz m2 p0 p1 hb1
  have q1' := q1
  have hcu' := hcu
  rw [hW2] at q1' hcu'
  go_enter Tryz.func96, Tryz.ntmps96
  go_wp2
  rw [← hW2]
  replace hW2 := Lib.hid hW2
  go_loopw [15] (fun jv wr => ∃ k : Nat, jv = .int .i64 k ∧ k ≤ ms.length ∧ Hid (toI [r0, r1, r2, r3, r4, r5, r6] (ms.drop k) = z) ∧ Below W2.heap.size W2 wr) (fun jv _ => ms.length - (intOf jv).toNat)
  case atStart => exact ⟨0, rfl, by omega, hz0, Below.refl _ _⟩
  case round =>
    clear hz0
    obtain ⟨k, rfl, hk, hzk, hbr⟩ := hrel
    by_cases hlt : k < ms.length
    · obtain rfl := hma (by omega)
      obtain ⟨hx8, hxi⟩ := hmc.out k hlt
      obtain ⟨x, hx⟩ : ∃ x, ms.getD k [] = x := ⟨_, rfl⟩
      have hdr := drop_cons hlt ([] : List Int)
      rw [hx] at hx8 hxi hdr
      rw [hdr] at hzk
      obtain ⟨x0, x1, x2, x3, x4, x5, x6, x7, rfl⟩ := eight hx8
      obtain ⟨c0, c1, c2, c3, c4, c5, c6, c7⟩ := (hxi.keep hbr).all8
      obtain ⟨W3, hW3⟩ : ∃ W3, W3 = wr.alloc (.cells #[.int .i64 x0, .int .i64 x1, .int .i64 x2, .int .i64 x3, .int .i64 x4, .int .i64 x5, .int .i64 x6, .int .i64 x7] 84) := ⟨_, rfl⟩
      have hb3 : Below wr.heap.size wr W3 := by rw [hW3]; exact (Below.refl _ _).alloc (Nat.le_refl _) _
      have m3 : W3.heap[wr.heap.size]? = some (.cells #[.int .i64 x0, .int .i64 x1, .int .i64 x2, .int .i64 x3, .int .i64 x4, .int .i64 x5, .int .i64 x6, .int .i64 x7] 84) := by rw [hW3]; exact heap_alloc_new _ _
      have hb23 := btt hbr hb3
      obtain ⟨d0, d1, d2, d3, d4, d5, d6⟩ := (hc2.out.keep hb23).all7
      obtain ⟨e0, e1, e2, e3, e4, e5, e6, e7⟩ := box8 m3
      rw [hW3] at d0 d1 d2 d3 d4 d5 d6 e0 e1 e2 e3 e4 e5 e6 e7
      simp only [Nat.zero_add] at d0 d1 d2 d3 d4 d5 d6
      clear hxi hx8 hx m3 hdr
      by_cases he : [x0, x1, x2, x3, x4, x5, x6] = [r0, r1, r2, r3, r4, r5, r6]
      · have hE : eqL [x0, x1, x2, x3, x4, x5, x6] [r0, r1, r2, r3, r4, r5, r6] = true := eqL_true.2 he
        have hzx : x7 = z := by
          have h := hzk.out
          rw [toI, if_pos (show rdOf [x0, x1, x2, x3, x4, x5, x6, x7] = _ from he)] at h
          exact h
        subst hzx
        clear he hzk
        go_wp2
        rw [← hW3]
        go_ret
        exact ⟨rfl, hb02.trans (hb23.mono (by omega))⟩
      · have hE : eqL [x0, x1, x2, x3, x4, x5, x6] [r0, r1, r2, r3, r4, r5, r6] = false := eqL_false.2 he
        have hz2 : Hid (toI [r0, r1, r2, r3, r4, r5, r6] (ms.drop (k + 1)) = z) := by
          have h := hzk.out
          rwa [toI, if_neg (show ¬ rdOf [x0, x1, x2, x3, x4, x5, x6, x7] = _ from he)] at h
        clear he hzk
        go_wp2
        rw [← hW3]
        go_roundw
        case rel => exact ⟨k + 1, by go_num, hlt, hz2, hb23⟩
        case measure => simp [intOf]; omega
    · have hzx : -1 = z := by
        have h := hzk.out
        rw [List.drop_eq_nil_of_le (by omega), toI] at h
        exact h
      subst hzx
      clear hzk
      go_wp2
      go_ret
      exact ⟨rfl, hb02.trans (hbr.mono (by omega))⟩
end Go.Proofs.YtfihpofdoffclaaGreatDoor

/- canonical.after. -/
namespace Go.Proofs.YtfihpofdoffclaaGreatDoor
open Go.RowKit

/-- The state behind a word, or -1. -/
def afterI (ss : List (List (List Int))) : List (List Int) → Nat → Int
  | [], s => (s : Int)
  | r :: rs, s => if toI r (ss.getD s []) < 0 then -1 else afterI ss rs (toI r (ss.getD s [])).toNat
/-- All moves lead to states. -/
def LeadOK (ss : List (List (List Int))) : Prop := ∀ s ∈ ss, ∀ m ∈ s, 0 ≤ m.getD 7 0 ∧ m.getD 7 0 < (ss.length : Int)
theorem toI_ge (r : List Int) {n : Int} : ∀ {ms : List (List Int)}, (∀ m ∈ ms, 0 ≤ m.getD 7 0 ∧ m.getD 7 0 < n) → 0 < n → -1 ≤ toI r ms ∧ toI r ms < n
  | [], _, _ => by simp only [toI]; omega
  | m :: ms, h, hn => by
    unfold toI
    split
    · have := h m (by simp); omega
    · exact toI_ge r (fun x hx => h x (by simp [hx])) hn
theorem toI_st {ss : List (List (List Int))} (h : LeadOK ss) {s : Nat} (hs : s < ss.length) (r : List Int) : -1 ≤ toI r (ss.getD s []) ∧ toI r (ss.getD s []) < (ss.length : Int) :=
  toI_ge r (fun m hm => h _ (by rw [getD_eq hs] at hm; exact List.getElem_mem hs) m (by rw [getD_eq hs] at hm; exact hm)) (by omega)

theorem advShape' {w : World} {v : Value} {n : Int} {ss : List (List (List Int))} (h : AdvV w v n ss) : ∃ a c, v = .agg #[.int .i64 n, .slice a ss.length c] := by
  obtain ⟨sv, rfl, hK⟩ := h
  obtain ⟨a, c, rfl⟩ := hK.shape
  exact ⟨a, c, rfl⟩
set_option maxRecDepth 100000 in
set_option maxHeartbeats 1600000 in
theorem afterA {w : World} {v wv : Value} {n : Int} {ss : List (List (List Int))} {rs : List (List Int)} (hA : AdvV w v n ss) (hM : LeadOK ss) {i : Nat} (hi : i < ss.length) (hw : KS 7 w wv rs) :
    Calls Tryz.prog 64 #[v, .int .i64 (i : Int), wv] w fun e w' => e = .returned (.int .i64 (afterI ss rs i)) ∧ Below w.heap.size w w' := by
  obtain ⟨sa, sc, hv⟩ := advShape' hA
  subst hv
  obtain ⟨ra, rc, rb, ro, rfl, hra, hrc, _⟩ := hw
  obtain ⟨W1, hW1⟩ : ∃ W1, W1 = w.alloc (.cells #[.int .i64 n, .slice sa ss.length sc] 24) := ⟨_, rfl⟩
  obtain ⟨hb1, p0, p1, _⟩ := boxAdv hW1
  have HT := Lib.hid (fun W (hb : Below w.heap.size w W) j (hj : j < ss.length) r0 r1 r2 r3 r4 r5 r6 => toA (hA.keep hb) hj r0 r1 r2 r3 r4 r5 r6)
  obtain ⟨z, hz⟩ : ∃ z, afterI ss rs i = z := ⟨_, rfl⟩
  have hz0 : Hid (afterI ss (rs.drop 0) i = z) := by show _ = _; rw [List.drop_zero]; exact hz
  rw [hz]
  replace hrc := Lib.hid hrc
  replace hM := Lib.hid hM
  clear hA hz
  go_enter Tryz.func64, Tryz.ntmps64
  go_wp2
  rw [← hW1]
  replace hW1 := Lib.hid hW1
  go_loopw [1, 11] (fun sv jv wr => ∃ s k : Nat, sv = .int .i64 s ∧ s < ss.length ∧ jv = .int .i64 k ∧ k ≤ rs.length ∧ Hid (afterI ss (rs.drop k) s = z) ∧ Below W1.heap.size W1 wr) (fun _ jv _ => rs.length - (intOf jv).toNat)
  case atStart => exact ⟨i, 0, rfl, hi, rfl, by omega, hz0, Below.refl _ _⟩
  case round =>
    clear hz0 hi i
    obtain ⟨s, k, rfl, hs, rfl, hk, hzk, hbr⟩ := hrel
    by_cases hlt : k < rs.length
    · obtain rfl := hra (by omega)
      obtain ⟨hx7, hxi⟩ := hrc.out k hlt
      obtain ⟨x, hx⟩ : ∃ x, rs.getD k [] = x := ⟨_, rfl⟩
      have hdr := drop_cons hlt ([] : List Int)
      rw [hx] at hx7 hxi hdr
      rw [hdr] at hzk
      obtain ⟨x0, x1, x2, x3, x4, x5, x6, rfl⟩ := seven hx7
      have hb1r := bt hb1 hbr hb1.size
      obtain ⟨c0, c1, c2, c3, c4, c5, c6⟩ := (hxi.keep hb1r).all7
      obtain ⟨W3, hW3⟩ : ∃ W3, W3 = wr.alloc (.cells #[.int .i64 x0, .int .i64 x1, .int .i64 x2, .int .i64 x3, .int .i64 x4, .int .i64 x5, .int .i64 x6] 79) := ⟨_, rfl⟩
      have hb3 : Below wr.heap.size wr W3 := by rw [hW3]; exact (Below.refl _ _).alloc (Nat.le_refl _) _
      have m3 : W3.heap[wr.heap.size]? = some (.cells #[.int .i64 x0, .int .i64 x1, .int .i64 x2, .int .i64 x3, .int .i64 x4, .int .i64 x5, .int .i64 x6] 79) := by rw [hW3]; exact heap_alloc_new _ _
      obtain ⟨e0, e1, e2, e3, e4, e5, e6⟩ := (box7CI m3).all7
      have d0 := cell_kept (btt hbr hb3) p0
      have d1 := cell_kept (btt hbr hb3) p1
      have hbw := bt hb1r hb3 hb1r.size
      have H := HT.out W3 hbw s hs x0 x1 x2 x3 x4 x5 x6
      obtain ⟨hge, hlq⟩ := toI_st hM.out hs [x0, x1, x2, x3, x4, x5, x6]
      obtain ⟨t, ht⟩ : ∃ t, toI [x0, x1, x2, x3, x4, x5, x6] (ss.getD s []) = t := ⟨_, rfl⟩
      rw [ht] at H hge hlq
      have hz2 := hzk.out
      rw [afterI, ht] at hz2
      replace H := Lib.hid H
      rw [hW3] at e0 e1 e2 e3 e4 e5 e6 d0 d1
      simp only [Nat.zero_add] at e0 e1 e2 e3 e4 e5 e6
      clear hxi hx7 hx m3 hdr ht hzk
      by_cases hneg : t < 0
      · rw [if_pos hneg] at hz2
        have hd : decide (t < 0) = true := decide_eq_true hneg
        subst hz2
        clear hneg
        go_wp2_with fail
        rw [← hW3]
        refine H.out.mono ?_
        rintro e W4 ⟨rfl, hb4⟩
        go_wp2
        go_ret
        exact ⟨rfl, bt hbw hb4 hbw.size⟩
      · rw [if_neg hneg] at hz2
        have hz3 : Hid (afterI ss (rs.drop (k + 1)) t.toNat = z) := hz2
        obtain ⟨q, rfl⟩ : ∃ q : Nat, t = (q : Int) := ⟨t.toNat, by omega⟩
        rw [show ((q : Int)).toNat = q by omega] at hz3
        have hd : decide ((q : Int) < 0) = false := decide_eq_false hneg
        have hq : q < ss.length := by omega
        clear hneg hz2
        go_wp2_with fail
        rw [← hW3]
        refine H.out.mono ?_
        rintro e W4 ⟨rfl, hb4⟩
        go_wp2
        go_roundw
        case rel => exact ⟨q, k + 1, rfl, hq, by go_num, hlt, hz3, (btt hbr hb3).trans (hb4.mono (Nat.le_trans hbr.size hb3.size))⟩
        case measure => simp [intOf]; omega
    · have hzx : (s : Int) = z := by
        have h := hzk.out
        rw [List.drop_eq_nil_of_le (by omega), afterI] at h
        exact h
      subst hzx
      clear hzk
      go_wp2
      go_ret
      exact ⟨rfl, bt hb1 hbr hb1.size⟩
end Go.Proofs.YtfihpofdoffclaaGreatDoor

/- The first word that tells two states apart: plain lists. -/
namespace Go.Proofs.YtfihpofdoffclaaGreatDoor

theorem cmpL_cons (a b : Int) (xs ys : List Int) : cmpL (a :: xs) (b :: ys) < 0 ↔ a < b ∨ (a = b ∧ cmpL xs ys < 0) := by
  simp only [cmpL, cmpI]
  by_cases h1 : a < b
  · simp [h1]
  · by_cases h2 : b < a
    · simp [h1, h2, show a ≠ b by omega]
    · obtain rfl : a = b := by omega
      simp
theorem cmpL_nil_cons (b : Int) (ys : List Int) : cmpL [] (b :: ys) < 0 := by simp [cmpL]
theorem cmpL_any_nil : ∀ xs : List Int, ¬ cmpL xs [] < 0
  | [] => by simp [cmpL]
  | _ :: _ => by simp [cmpL]
theorem cmpL_asymm : ∀ a b : List Int, cmpL a b < 0 → ¬ cmpL b a < 0
  | xs, [], h => absurd h (cmpL_any_nil xs)
  | [], _ :: _, _ => cmpL_any_nil _
  | a :: xs, b :: ys, h => by
    rw [cmpL_cons] at h ⊢
    rintro (h2 | ⟨h2, h3⟩)
    · rcases h with h | ⟨h, _⟩ <;> omega
    · rcases h with h | ⟨_, h⟩
      · omega
      · exact cmpL_asymm xs ys h h3
theorem cmpL_trans : ∀ a b c : List Int, cmpL a b < 0 → cmpL b c < 0 → cmpL a c < 0
  | xs, [], _, h, _ => absurd h (cmpL_any_nil xs)
  | _, ys, [], _, h => absurd h (cmpL_any_nil ys)
  | [], _ :: _, c :: zs, _, _ => cmpL_nil_cons c zs
  | a :: xs, b :: ys, c :: zs, h, k => by
    rw [cmpL_cons] at h k ⊢
    rcases h with h | ⟨rfl, h⟩ <;> rcases k with k | ⟨rfl, k⟩
    · left; omega
    · exact .inl h
    · exact .inl k
    · exact .inr ⟨rfl, cmpL_trans xs ys zs h k⟩
theorem cmpL_total : ∀ a b : List Int, cmpL a b < 0 ∨ a = b ∨ cmpL b a < 0
  | [], [] => .inr (.inl rfl)
  | [], b :: ys => .inl (cmpL_nil_cons b ys)
  | a :: xs, [] => .inr (.inr (cmpL_nil_cons a xs))
  | a :: xs, b :: ys => by
    rw [cmpL_cons, cmpL_cons]
    rcases Int.lt_trichotomy a b with h | rfl | h
    · exact .inl (.inl h)
    · rcases cmpL_total xs ys with h | rfl | h
      · exact .inl (.inr ⟨rfl, h⟩)
      · exact .inr (.inl rfl)
      · exact .inr (.inr (.inr ⟨rfl, h⟩))
    · exact .inr (.inr (.inl h))
theorem cmpL_ntrans (a b c : List Int) (h : ¬ cmpL a b < 0) (k : ¬ cmpL b c < 0) : ¬ cmpL a c < 0 := by
  intro hc
  rcases cmpL_total a b with h1 | rfl | h1
  · exact h h1
  · exact k hc
  · exact k (cmpL_trans b a c h1 hc)
theorem sorted_unique {α : Type} {lt : α → α → Prop} (has : ∀ a b, lt a b → ¬ lt b a) : ∀ {l1 l2 : List α}, l1.Pairwise lt → l2.Pairwise lt → (∀ x, x ∈ l1 ↔ x ∈ l2) → l1 = l2
  | [], [], _, _, _ => rfl
  | [], b :: t2, _, _, h => absurd ((h b).2 (List.mem_cons_self ..)) (by simp)
  | a :: t1, [], _, _, h => absurd ((h a).1 (List.mem_cons_self ..)) (by simp)
  | a :: t1, b :: t2, h1, h2, h => by
    rw [List.pairwise_cons] at h1 h2
    have hab : a = b := by
      rcases List.mem_cons.1 ((h a).1 (List.mem_cons_self ..)) with h3 | h3
      · exact h3
      · rcases List.mem_cons.1 ((h b).2 (List.mem_cons_self ..)) with h4 | h4
        · exact h4.symm
        · exact absurd (h2.1 a h3) (has _ _ (h1.1 b h4))
    subst hab
    rw [sorted_unique has h1.2 h2.2 fun x => ⟨fun hx => ?_, fun hx => ?_⟩]
    · rcases List.mem_cons.1 ((h x).1 (List.mem_cons_of_mem _ hx)) with h3 | h3
      · subst h3; exact absurd (h1.1 x hx) (fun h => has _ _ h h)
      · exact h3
    · rcases List.mem_cons.1 ((h x).2 (List.mem_cons_of_mem _ hx)) with h3 | h3
      · subst h3; exact absurd (h2.1 x hx) (fun h => has _ _ h h)
      · exact h3

/-- Strictly ascending. -/
def AscL (l : List (List Int)) : Prop := l.Pairwise fun a b => cmpL a b < 0
/-- The merge of two ascending lists; what is in both is taken once. -/
def mgIn (k : List (List Int) → List (List Int)) (x : List Int) : List (List Int) → List (List Int)
  | [] => x :: k []
  | y :: ys => if cmpL x y < 0 then x :: k (y :: ys) else if x = y then y :: k ys else y :: mgIn k x ys
def mg : List (List Int) → List (List Int) → List (List Int)
  | [], ys => ys
  | x :: xs, ys => mgIn (mg xs) x ys
theorem mgIn_mem {k : List (List Int) → List (List Int)} {xs : List (List Int)} {x : List Int} (hk : ∀ ys z, z ∈ k ys ↔ z ∈ xs ∨ z ∈ ys) : ∀ (ys : List (List Int)) (z : List Int), z ∈ mgIn k x ys ↔ z ∈ x :: xs ∨ z ∈ ys
  | [], z => by rw [mgIn, List.mem_cons, hk, List.mem_cons]; simp
  | y :: ys, z => by
    rw [mgIn]
    split
    · rw [List.mem_cons, hk, List.mem_cons (a := z) (b := x), or_assoc]
    · split
      · rename_i h; subst h
        rw [List.mem_cons, hk, List.mem_cons, List.mem_cons]
        exact ⟨fun h => by rcases h with h | h | h; exact .inl (.inl h); exact .inl (.inr h); exact .inr (.inr h), fun h => by rcases h with (h | h) | (h | h); exact .inl h; exact .inr (.inl h); exact .inl h; exact .inr (.inr h)⟩
      · rw [List.mem_cons, mgIn_mem hk ys, List.mem_cons (a := z) (b := y)]
        exact ⟨fun h => by rcases h with h | h | h; exact .inr (.inl h); exact .inl h; exact .inr (.inr h), fun h => by rcases h with h | (h | h); exact .inr (.inl h); exact .inl h; exact .inr (.inr h)⟩
theorem mg_mem : ∀ (xs ys : List (List Int)) (z : List Int), z ∈ mg xs ys ↔ z ∈ xs ∨ z ∈ ys
  | [], ys, z => by simp [mg]
  | x :: xs, ys, z => by rw [mg]; exact mgIn_mem (mg_mem xs) ys z
theorem mgIn_asc {xs : List (List Int)} {x : List Int} (hx : AscL (x :: xs)) (hk : ∀ ys, AscL ys → AscL (mg xs ys)) : ∀ ys, AscL ys → AscL (mgIn (mg xs) x ys)
  | [], _ => by
    rw [mgIn]
    refine List.pairwise_cons.2 ⟨fun z hz => ?_, hk _ List.Pairwise.nil⟩
    rcases (mg_mem _ _ _).1 hz with h | h
    · exact (List.pairwise_cons.1 hx).1 z h
    · cases h
  | y :: ys, hy => by
    rw [mgIn]
    split
    · rename_i hlt
      refine List.pairwise_cons.2 ⟨fun z hz => ?_, hk _ hy⟩
      rcases (mg_mem _ _ _).1 hz with h | h
      · exact (List.pairwise_cons.1 hx).1 z h
      · rcases List.mem_cons.1 h with rfl | h
        · exact hlt
        · exact cmpL_trans _ _ _ hlt ((List.pairwise_cons.1 hy).1 z h)
    · split
      · rename_i h; subst h
        refine List.pairwise_cons.2 ⟨fun z hz => ?_, hk _ (List.pairwise_cons.1 hy).2⟩
        rcases (mg_mem _ _ _).1 hz with h | h
        · exact (List.pairwise_cons.1 hx).1 z h
        · exact (List.pairwise_cons.1 hy).1 z h
      · rename_i h1 h2
        have hyx : cmpL y x < 0 := by rcases cmpL_total x y with h | h | h; exact absurd h h1; exact absurd h h2; exact h
        refine List.pairwise_cons.2 ⟨fun z hz => ?_, mgIn_asc hx hk ys (List.pairwise_cons.1 hy).2⟩
        rcases (mgIn_mem (mg_mem xs) ys z).1 hz with h | h
        · rcases List.mem_cons.1 h with rfl | h
          · exact hyx
          · exact cmpL_trans _ _ _ hyx ((List.pairwise_cons.1 hx).1 z h)
        · exact (List.pairwise_cons.1 hy).1 z h
theorem mg_asc : ∀ {xs ys : List (List Int)}, AscL xs → AscL ys → AscL (mg xs ys)
  | [], _, _, h => h
  | x :: xs, ys, hx, hy => by
    rw [mg]; exact mgIn_asc hx (fun ys hy => mg_asc (List.pairwise_cons.1 hx).2 hy) ys hy
/-- Neighbours that are equal are put together. -/
def cmpc : List (List Int) → List (List Int)
  | [] => []
  | [x] => [x]
  | x :: y :: r => if x = y then cmpc (y :: r) else x :: cmpc (y :: r)
theorem cmpc_mem : ∀ (l : List (List Int)) (z : List Int), z ∈ cmpc l ↔ z ∈ l
  | [], z => by simp [cmpc]
  | [x], z => by simp [cmpc]
  | x :: y :: r, z => by
    rw [cmpc]
    split
    · rename_i h; subst h
      rw [cmpc_mem (x :: r)]; simp
    · rw [List.mem_cons, cmpc_mem (y :: r), List.mem_cons (a := z) (b := x)]
theorem cmpc_asc : ∀ {l : List (List Int)}, l.Pairwise (fun a b => ¬ cmpL b a < 0) → AscL (cmpc l)
  | [], _ => by simp [cmpc, AscL]
  | [x], _ => by simp [cmpc, AscL]
  | x :: y :: r, h => by
    rw [List.pairwise_cons] at h
    rw [cmpc]
    split
    · exact cmpc_asc h.2
    · rename_i hne
      refine List.pairwise_cons.2 ⟨fun z hz => ?_, cmpc_asc h.2⟩
      have hz := (cmpc_mem _ _).1 hz
      have hxy : cmpL x y < 0 := by
        rcases cmpL_total x y with h1 | h1 | h1
        · exact h1
        · exact absurd h1 hne
        · exact absurd h1 (h.1 y (by simp))
      rcases List.mem_cons.1 hz with rfl | hz
      · exact hxy
      · rcases cmpL_total y z with h1 | rfl | h1
        · exact cmpL_trans _ _ _ hxy h1
        · exact hxy
        · exact absurd h1 ((List.pairwise_cons.1 h.2).1 z hz)
/-- What the program sorts is what the reference merges. -/
theorem cmpc_mg {xs ys l : List (List Int)} (hx : AscL xs) (hy : AscL ys) (hp : l.Perm (xs ++ ys)) (hs : l.Pairwise fun a b => ¬ cmpL b a < 0) : cmpc l = mg xs ys :=
  sorted_unique (lt := fun a b => cmpL a b < 0) cmpL_asymm (cmpc_asc hs) (mg_asc hx hy) fun x => by rw [cmpc_mem, mg_mem, hp.mem_iff, List.mem_append]

/-- A pair of states, and the word that leads to it. -/
abbrev It := (Nat × Nat) × List (List Int)
/-- The rounds of two states. -/
def ltr (ss : List (List (List Int))) (s t : Nat) : List (List Int) := mg ((ss.getD s []).map rdOf) ((ss.getD t []).map rdOf)
def dP (ss : List (List (List Int))) (r : List Int) (x : Nat × Nat) : Nat × Nat := ((toI r (ss.getD x.1 [])).toNat, (toI r (ss.getD x.2 [])).toNat)
/-- The pairs behind one pair; pairs of equal states are left out if dg is false. -/
def dIn (dg : Bool) (ss : List (List (List Int))) (k : List It → Option (Option (List (List Int)))) (x : It) : List (List Int) → List It → Option (Option (List (List Int)))
  | [], Q => k Q
  | r :: rs, Q => if toI r (ss.getD x.1.1 []) < 0 ∨ toI r (ss.getD x.1.2 []) < 0 then some (some (x.2 ++ [r]))
    else if dP ss r x.1 ∈ Q.map Prod.fst ∨ (dg = false ∧ (dP ss r x.1).1 = (dP ss r x.1).2) then dIn dg ss k x rs Q
    else dIn dg ss k x rs (Q ++ [(dP ss r x.1, x.2 ++ [r])])
def dGo (dg : Bool) (ss : List (List (List Int))) : Nat → Nat → List It → Option (Option (List (List Int)))
  | 0, _, _ => none
  | f + 1, n, Q => if n < Q.length then dIn dg ss (dGo dg ss f (n + 1)) (Q.getD n ((0, 0), [])) (ltr ss (Q.getD n ((0, 0), [])).1.1 (Q.getD n ((0, 0), [])).1.2) Q else some none

theorem toI_self {r : List Int} : ∀ {ms : List (List Int)}, (∀ m ∈ ms, 0 ≤ m.getD 7 0) → r ∈ ms.map rdOf → 0 ≤ toI r ms
  | [], _, h => by cases h
  | m :: ms, h, hr => by
    unfold toI
    split
    · exact h m (by simp)
    · rename_i hne
      rw [List.map_cons] at hr
      rcases List.mem_cons.1 hr with hr | hr
      · exact absurd hr.symm hne
      · exact toI_self (fun x hx => h x (by simp [hx])) hr
theorem lead_mem {ss : List (List (List Int))} (hL : LeadOK ss) (u : Nat) : ∀ m ∈ ss.getD u [], 0 ≤ m.getD 7 0 := fun m hm => by
  by_cases hu : u < ss.length
  · rw [getD_eq hu] at hm; exact (hL _ (List.getElem_mem hu) m hm).1
  · rw [List.getD_eq_getElem?_getD, List.getElem?_eq_none (by omega)] at hm; cases hm
/-- Diagonal pairs lead to such pairs alone. -/
theorem dIn_diag {ss : List (List (List Int))} (hL : LeadOK ss) {k : List It → Option (Option (List (List Int)))} {u : Nat} {wd : List (List Int)} : ∀ (rs : List (List Int)) (Q : List It) {R : Option (List (List Int))}, (∀ r ∈ rs, r ∈ (ss.getD u []).map rdOf) →
    dIn true ss k ((u, u), wd) rs Q = some R → ∃ T : List It, (∀ t ∈ T, t.1.1 = t.1.2) ∧ k (Q ++ T) = some R
  | [], Q, R, _, h => ⟨[], by simp, by simpa [dIn] using h⟩
  | r :: rs, Q, R, hr, h => by
    have h0 : 0 ≤ toI r (ss.getD u []) := toI_self (lead_mem hL u) (hr r (by simp))
    rw [dIn, if_neg (by simp only; omega)] at h
    split at h
    · exact dIn_diag hL rs Q (fun x hx => hr x (by simp [hx])) h
    · obtain ⟨T, h1, h2⟩ := dIn_diag hL rs _ (fun x hx => hr x (by simp [hx])) h
      refine ⟨(dP ss r (u, u), wd ++ [r]) :: T, fun t ht => ?_, by rw [List.append_assoc] at h2; exact h2⟩
      rcases List.mem_cons.1 ht with rfl | ht
      · rfl
      · exact h1 t ht
theorem dIn_diag2 {ss : List (List (List Int))} (hL : LeadOK ss) {k : List It → Option (Option (List (List Int)))} {u : Nat} {wd : List (List Int)} : ∀ (rs : List (List Int)) (Q : List It), (∀ r ∈ rs, r ∈ (ss.getD u []).map rdOf) → dIn false ss k ((u, u), wd) rs Q = k Q
  | [], Q, _ => by rw [dIn]
  | r :: rs, Q, hr => by
    have h0 : 0 ≤ toI r (ss.getD u []) := toI_self (lead_mem hL u) (hr r (by simp))
    rw [dIn, if_neg (by simp only; omega), if_pos (.inr ⟨rfl, rfl⟩)]
    exact dIn_diag2 hL rs Q (fun x hx => hr x (by simp [hx]))
def nd (t : It) : Bool := decide (t.1.1 ≠ t.1.2)
theorem nd_fst {Q : List It} {p : Nat × Nat} (h : p.1 ≠ p.2) : p ∈ (Q.filter nd).map Prod.fst ↔ p ∈ Q.map Prod.fst := by
  rw [List.mem_map, List.mem_map]
  constructor
  · rintro ⟨a, ha, rfl⟩; exact ⟨a, (List.mem_filter.1 ha).1, rfl⟩
  · rintro ⟨a, ha, rfl⟩; exact ⟨a, List.mem_filter.2 ⟨ha, by simpa [nd] using h⟩, rfl⟩
theorem dIn_two {ss : List (List (List Int))} {k k' : List It → Option (Option (List (List Int)))} {x : It} : ∀ (rs : List (List Int)) (Q : List It) {R R' : Option (List (List Int))}, dIn true ss k' x rs Q = some R' → dIn false ss k x rs (Q.filter nd) = some R →
    (∀ T : List It, k' (Q ++ T) = some R' → k ((Q ++ T).filter nd) = some R → R' = R) → R' = R
  | [], Q, R, R', h1, h2, hk => hk [] (by simpa [dIn] using h1) (by simpa [dIn] using h2)
  | r :: rs, Q, R, R', h1, h2, hk => by
    rw [dIn] at h1 h2
    by_cases h0 : toI r (ss.getD x.1.1 []) < 0 ∨ toI r (ss.getD x.1.2 []) < 0
    · rw [if_pos h0] at h1 h2
      injection h1 with h1; injection h2 with h2
      rw [← h1, ← h2]
    · rw [if_neg h0] at h1 h2
      by_cases hd : (dP ss r x.1).1 = (dP ss r x.1).2
      · rw [if_pos (.inr ⟨rfl, hd⟩)] at h2
        by_cases hm : dP ss r x.1 ∈ Q.map Prod.fst
        · rw [if_pos (.inl hm)] at h1
          exact dIn_two rs Q h1 h2 hk
        · rw [if_neg (by rintro (h | h); exact hm h; exact absurd h.1 (by decide))] at h1
          refine dIn_two (k := k) rs (Q ++ [(dP ss r x.1, x.2 ++ [r])]) h1 ?_ fun T => ?_
          · rw [List.filter_append, List.filter_cons_of_neg (by simp [nd, hd]), List.filter_nil, List.append_nil]; exact h2
          · rw [List.append_assoc]; exact hk _
      · by_cases hm : dP ss r x.1 ∈ Q.map Prod.fst
        · rw [if_pos (.inl hm)] at h1
          rw [if_pos (.inl ((nd_fst hd).2 hm))] at h2
          exact dIn_two rs Q h1 h2 hk
        · rw [if_neg (by rintro (h | h); exact hm h; exact absurd h.1 (by decide))] at h1
          rw [if_neg (by rintro (h | h); exact hm ((nd_fst hd).1 h); exact hd h.2)] at h2
          refine dIn_two (k := k) rs (Q ++ [(dP ss r x.1, x.2 ++ [r])]) h1 ?_ fun T => ?_
          · rw [List.filter_append, List.filter_cons_of_pos (by simp [nd, hd]), List.filter_nil]; exact h2
          · rw [List.append_assoc]; exact hk _
theorem filter_at {α : Type} {p : α → Bool} {d : α} : ∀ {l : List α} {n : Nat}, n < l.length → p (l.getD n d) = true → ((l.take n).filter p).length < (l.filter p).length ∧ (l.filter p).getD ((l.take n).filter p).length d = l.getD n d
  | [], n, h, _ => by simp at h
  | a :: l, 0, _, hp => by
    simp only [List.getD_cons_zero] at hp
    simp [hp]
  | a :: l, n + 1, h, hp => by
    simp only [List.getD_cons_succ] at hp
    simp only [List.length_cons] at h
    have ih := filter_at (p := p) (d := d) (l := l) (n := n) (by omega) hp
    rw [List.take_succ_cons, List.filter_cons, List.filter_cons]
    by_cases ha : p a = true
    · rw [if_pos ha, if_pos ha, List.length_cons, List.length_cons, List.getD_cons_succ, List.getD_cons_succ]
      exact ⟨by omega, ih.2⟩
    · rw [if_neg ha, if_neg ha, List.getD_cons_succ]; exact ih
theorem dGo_two {ss : List (List (List Int))} (hL : LeadOK ss) : ∀ (f' f n : Nat) (Q : List It) {R R' : Option (List (List Int))}, n ≤ Q.length → dGo true ss f' n Q = some R' → dGo false ss f ((Q.take n).filter nd).length (Q.filter nd) = some R → R' = R
  | 0, _, _, _, _, _, _, h, _ => by cases h
  | f' + 1, f, n, Q, R, R', hn, h1, h2 => by
    rw [dGo] at h1
    by_cases hlt : n < Q.length
    · rw [if_pos hlt] at h1
      obtain ⟨⟨⟨s, t⟩, wd⟩, hx⟩ : ∃ x, Q.getD n ((0, 0), []) = x := ⟨_, rfl⟩
      rw [hx] at h1
      by_cases hst : s = t
      · subst hst
        obtain ⟨T, hT, hk⟩ := dIn_diag hL _ _ (fun r hr => by
          rcases (mg_mem _ _ _).1 hr with h | h <;> exact h) h1
        have hfT : T.filter nd = [] := List.filter_eq_nil_iff.2 fun a ha => by simp [nd, hT a ha]
        refine dGo_two hL f' f (n + 1) (Q ++ T) (by simp; omega) hk ?_
        rw [List.filter_append, hfT, List.append_nil, List.take_append_of_le_length (by omega), take_snoc hlt ((0, 0), []), hx, List.filter_append, List.filter_cons_of_neg (by simp [nd]), List.filter_nil, List.append_nil]
        exact h2
      · cases f with
        | zero => cases h2
        | succ f =>
          obtain ⟨g1, g2⟩ := filter_at (p := nd) (d := ((0, 0), [])) hlt (by rw [hx]; simp [nd, hst])
          rw [hx] at g2
          rw [dGo, if_pos g1, g2] at h2
          refine dIn_two _ Q h1 h2 fun T k1 k2 => ?_
          refine dGo_two hL f' f (n + 1) (Q ++ T) (by simp; omega) k1 ?_
          rw [List.take_append_of_le_length (by omega), take_snoc hlt ((0, 0), []), hx, List.filter_append, List.length_append, List.filter_cons_of_pos (by simp [nd, hst]), List.filter_nil]
          exact k2
    · rw [if_neg hlt] at h1
      injection h1 with h1
      subst h1
      obtain rfl : n = Q.length := by omega
      rw [List.take_length] at h2
      cases f with
      | zero => cases h2
      | succ f =>
        rw [dGo, if_neg (by omega)] at h2
        injection h2
/-- The search ends. -/
theorem pairs_le {N : Nat} {l : List (Nat × Nat)} (hn : l.Nodup) (h : ∀ p ∈ l, p.1 < N ∧ p.2 < N) : l.length ≤ N * N := by
  have hi : ∀ p ∈ l, ∀ q ∈ l, p.1 * N + p.2 = q.1 * N + q.2 → p = q := fun p hp q hq e => by
    obtain ⟨p1, p2⟩ := h p hp
    obtain ⟨q1, q2⟩ := h q hq
    have a1 : (p.1 * N + p.2) / N = p.1 := by rw [Nat.mul_comm, Nat.mul_add_div (by omega), Nat.div_eq_of_lt p2, Nat.add_zero]
    have a2 : (q.1 * N + q.2) / N = q.1 := by rw [Nat.mul_comm, Nat.mul_add_div (by omega), Nat.div_eq_of_lt q2, Nat.add_zero]
    have e1 : p.1 = q.1 := by rw [← a1, ← a2, e]
    have e2 : p.2 = q.2 := by rw [e1] at e; omega
    exact Prod.ext e1 e2
  have hm : (l.map fun p => p.1 * N + p.2).Nodup := by
    clear h
    induction l with
    | nil => exact List.nodup_nil
    | cons a r ih =>
      rw [List.nodup_cons] at hn
      rw [List.map_cons, List.nodup_cons]
      refine ⟨fun hm => ?_, ih hn.2 fun p hp q hq => hi p (by simp [hp]) q (by simp [hq])⟩
      obtain ⟨b, hb, e⟩ := List.mem_map.1 hm
      have := hi b (by simp [hb]) a (by simp) e
      exact hn.1 (this ▸ hb)
  have := nodup_lt_le (n := N * N) hm fun x hx => by
    obtain ⟨p, hp, rfl⟩ := List.mem_map.1 hx
    obtain ⟨p1, p2⟩ := h p hp
    have : (p.1 + 1) * N ≤ N * N := Nat.mul_le_mul_right _ p1
    rw [Nat.add_mul, Nat.one_mul] at this
    omega
  rwa [List.length_map] at this
def QOK (ss : List (List (List Int))) (Q : List It) : Prop := (Q.map Prod.fst).Nodup ∧ ∀ t ∈ Q, t.1.1 < ss.length ∧ t.1.2 < ss.length
theorem dP_lt {ss : List (List (List Int))} (hL : LeadOK ss) {r : List Int} {x : Nat × Nat} (h1 : x.1 < ss.length) (h2 : x.2 < ss.length) : (dP ss r x).1 < ss.length ∧ (dP ss r x).2 < ss.length := by
  have a := toI_st hL h1 r
  have b := toI_st hL h2 r
  simp only [dP]
  omega
theorem QOK.snoc {ss : List (List (List Int))} {Q : List It} (h : QOK ss Q) {t : It} (hm : t.1 ∉ Q.map Prod.fst) (hb : t.1.1 < ss.length ∧ t.1.2 < ss.length) : QOK ss (Q ++ [t]) := by
  refine ⟨?_, fun x hx => ?_⟩
  · rw [List.map_append, List.nodup_append]
    refine ⟨h.1, by simp, fun a ha b hb e => ?_⟩
    rw [List.map_cons, List.map_nil, List.mem_singleton] at hb
    exact hm (by rw [← hb, ← e]; exact ha)
  · rcases List.mem_append.1 hx with hx | hx
    · exact h.2 x hx
    · rw [List.mem_singleton.1 hx]; exact hb
theorem dIn_some {dg : Bool} {ss : List (List (List Int))} (hL : LeadOK ss) {k : List It → Option (Option (List (List Int)))} {x : It} (h1 : x.1.1 < ss.length) (h2 : x.1.2 < ss.length) : ∀ (rs : List (List Int)) (Q : List It), QOK ss Q → (∀ T : List It, QOK ss (Q ++ T) → ∃ R, k (Q ++ T) = some R) → ∃ R, dIn dg ss k x rs Q = some R
  | [], Q, hQ, hk => by
    have := hk [] (by rwa [List.append_nil])
    rw [List.append_nil] at this
    exact this
  | r :: rs, Q, hQ, hk => by
    rw [dIn]
    by_cases h0 : toI r (ss.getD x.1.1 []) < 0 ∨ toI r (ss.getD x.1.2 []) < 0
    · rw [if_pos h0]; exact ⟨_, rfl⟩
    · rw [if_neg h0]
      split
      · exact dIn_some hL h1 h2 rs Q hQ hk
      · rename_i hm
        refine dIn_some hL h1 h2 rs _ (hQ.snoc (fun h => hm (.inl h)) (dP_lt hL h1 h2)) fun T => ?_
        rw [List.append_assoc]
        exact hk _
theorem dGo_some {dg : Bool} {ss : List (List (List Int))} (hL : LeadOK ss) : ∀ (f n : Nat) (Q : List It), QOK ss Q → ss.length * ss.length + 1 ≤ n + f → n ≤ Q.length → ∃ R, dGo dg ss f n Q = some R
  | 0, n, Q, hQ, hf, hn => by
    have := pairs_le hQ.1 fun p hp => by
      obtain ⟨t, ht, rfl⟩ := List.mem_map.1 hp
      exact hQ.2 t ht
    rw [List.length_map] at this
    omega
  | f + 1, n, Q, hQ, hf, hn => by
    rw [dGo]
    split
    · rename_i hlt
      have hx : Q.getD n ((0, 0), []) ∈ Q := by rw [getD_eq hlt]; exact List.getElem_mem hlt
      obtain ⟨b1, b2⟩ := hQ.2 _ hx
      exact dIn_some hL b1 b2 _ Q hQ fun T hT => dGo_some hL f (n + 1) (Q ++ T) hT (by omega) (by simp; omega)
    · exact ⟨_, rfl⟩
/-- The first word that tells two states apart. -/
def dist (ss : List (List (List Int))) (s t : Nat) : Option (List (List Int)) := (dGo true ss (ss.length * ss.length + 1) 0 [((s, t), [])]).getD none
theorem dist_ref {ss : List (List (List Int))} (hL : LeadOK ss) {s t : Nat} (hs : s < ss.length) (ht : t < ss.length) : dGo true ss (ss.length * ss.length + 1) 0 [((s, t), [])] = some (dist ss s t) := by
  obtain ⟨R, hR⟩ := dGo_some (dg := true) hL (ss.length * ss.length + 1) 0 [((s, t), [])] ⟨by simp, by simp [hs, ht]⟩ (by omega) (by simp)
  rw [dist, hR]; rfl
theorem dist_prog {ss : List (List (List Int))} (hL : LeadOK ss) {s t : Nat} (hs : s < ss.length) (ht : t < ss.length) : dGo false ss (ss.length * ss.length + 1) 0 [((s, t), [])] = some (dist ss s t) := by
  have h1 := dist_ref hL hs ht
  by_cases hst : s = t
  · subst hst
    have h2 := dGo_two hL _ 1 0 [((s, s), [])] (by simp) h1 (R := none) (by simp [nd, dGo])
    rw [h2, dGo, if_pos (by simp)]
    simp only [List.getD_cons_zero]
    rw [dIn_diag2 hL _ _ (fun r hr => by rcases (mg_mem _ _ _).1 hr with h | h <;> exact h)]
    have : 0 < ss.length * ss.length := Nat.mul_pos (by omega) (by omega)
    obtain ⟨m, hm⟩ : ∃ m, ss.length * ss.length = m + 1 := ⟨ss.length * ss.length - 1, by omega⟩
    rw [hm, dGo, if_neg (by simp)]
  · obtain ⟨R, hR⟩ := dGo_some (dg := false) hL (ss.length * ss.length + 1) 0 [((s, t), [])] ⟨by simp, by simp [hs, ht]⟩ (by omega) (by simp)
    have h2 := dGo_two hL _ (ss.length * ss.length + 1) 0 [((s, t), [])] (by simp) h1 (R := R) (by simpa [nd, hst] using hR)
    rw [hR, h2]
/-- The rounds of a well-formed state ascend. -/
theorem ltr_eq {ss : List (List (List Int))} {s t : Nat} {l : List (List Int)} (hx : AscL ((ss.getD s []).map rdOf)) (hy : AscL ((ss.getD t []).map rdOf)) (hp : l.Perm ((ss.getD s [] ++ ss.getD t []).map rdOf)) (hs : l.Pairwise fun a b => ¬ cmpL b a < 0) : cmpc l = ltr ss s t := by
  rw [List.map_append] at hp
  exact cmpc_mg hx hy hp hs
end Go.Proofs.YtfihpofdoffclaaGreatDoor

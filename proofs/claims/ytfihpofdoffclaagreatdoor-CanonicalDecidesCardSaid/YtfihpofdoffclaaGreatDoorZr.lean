/- Texts of this claim, put together: G3 F2 G4. -/
import Derived.Test.YtfihpofdoffclaaGreatDoorZm
import Derived.Test.YtfihpofdoffclaaGreatDoorZl

/- The reference: Partition. -/
namespace Go.Proofs.YtfihpofdoffclaaGreatDoor
open Go.RowKit

theorem LeadOK.toOK {ss : List (List (List Int))} (h : LeadOK ss) : ToOK ss := fun s hs m hm => by
  have := h s hs m hm
  unfold mvTo; omega
theorem LeadOK.ofCls {ss : List (List (List Int))} (h : ClsOK ss) : LeadOK ss := fun s hs m hm => ((h.2.2.2 s hs).2 m hm).2.2
set_option maxRecDepth 100000 in
set_option maxHeartbeats 1600000 in
theorem refPartition {w : World} {v : Value} {n : Int} {ss : List (List (List Int))} (hA : AdvV w v n ss) (hM : LeadOK ss) (hl : ss.length ≤ 1000) :
    Calls Tryz.prog 50 #[v] w fun e w' => ∃ u, e = .returned u ∧ OI w' w.heap.size u ss.length (natI (part ss)) ∧ Below w.heap.size w w' := by
  obtain ⟨sa, sc, hv⟩ := advShape' hA
  subst hv
  have HR := Lib.hid (fun W (hb : Below w.heap.size w W) L lv (hL : Ints W lv (natI L)) (hLl : L.length = ss.length) => refinedCall (hA.keep hb) hM hL hLl hl)
  have hT := hM.toOK
  obtain ⟨W1, hW1⟩ : ∃ W1, W1 = w.alloc (.cells #[.int .i64 n, .slice sa ss.length sc] 24) := ⟨_, rfl⟩
  obtain ⟨hb1, p0, p1, _⟩ := boxAdv hW1
  have hstep := Lib.hid (fun k => prs_stL hT k)
  have hlen := Lib.hid (fun k => stL_len ss k)
  have h00 : Hid (List.replicate ss.length (0 : Int) = natI (stL ss 0)) := by show _ = _; simp [stL, natI]
  have hend : Hid (part ss = stL ss ss.length) := rfl
  obtain ⟨N, hN⟩ : ∃ N, ss.length = N := ⟨_, rfl⟩
  rw [hN] at hW1 HR p1 hl h00 hend ⊢
  replace hN := Lib.hid hN
  clear hA hM hT
  go_enter Tryz.func50, Tryz.ntmps50
  go_wp2_with (at_make; rw [← hW1]; refine wpMakeI (B := W1.heap.size) rfl _ _ rfl N rfl rfl (by omega) (Nat.le_refl _) ?_; intro W2 ho hgr hb2; replace hW1 := Lib.hid hW1)
  rw [h00.out] at ho
  have q0 := cell_kept hb2 p0
  have q1 := cell_kept hb2 p1
  clear hgr h00
  go_loopw [3, 4] (fun ov iv wr => ∃ k : Nat, k ≤ N ∧ iv = .int .i64 k ∧ OI wr W1.heap.size ov N (natI (stL ss k)) ∧ Below W2.heap.size W2 wr) (fun _ iv _ => N - (intOf iv).toNat)
  case atStart => exact ⟨0, by omega, rfl, ho, Below.refl _ _⟩
  case round =>
    clear ho
    obtain ⟨k, hk, rfl, hO, hbr⟩ := hrel
    have hb02 := bt hb1 hb2 hb1.size
    have hbw := bt hb02 hbr hb02.size
    have r0 := cell_kept hbr q0
    have r1 := cell_kept hbr q1
    by_cases hlt : k < N
    · have HC := HR.out wr hbw (stL ss k) _ (hO.ints (by omega)) ((hlen.out k).trans hN.out)
      rw [hstep.out k] at HC
      have hz1 := hb1.size
      have hz2 := hb2.size
      have hz3 := hbr.size
      go_wp2_with fail
      refine HC.mono ?_
      rintro e w2 ⟨u, rfl, hO2, hb3⟩
      have hO3 := hO2.base (B' := W1.heap.size) (by omega)
      clear HC hO2
      go_wp2
      go_roundw
      case rel => exact ⟨k + 1, hlt, by go_num, hO3, btt hbr hb3⟩
      case measure => simp [intOf]; omega
    · obtain rfl : N = k := by omega
      rw [← hend.out] at hO
      go_wp2
      go_ret
      exact ⟨_, rfl, hO.base hb1.size, hbw⟩
end Go.Proofs.YtfihpofdoffclaaGreatDoor

/- The reference: find; the program: Prove's first function. -/
namespace Go.Proofs.YtfihpofdoffclaaGreatDoor
open Go.RowKit

set_option maxRecDepth 100000 in
theorem keyProve (W : World) (i : Int) : Calls Tryz.prog 60 #[.int .i64 i] W fun e W' => e = .returned (.int .i64 i) ∧ W' = W := by
  go_enter Tryz.func60, Tryz.ntmps60
  go_wp2
  go_ret
  exact ⟨rfl, rfl⟩
/-- The place of a number, or -1. -/
def findI (l : List Nat) (n : Nat) : Int := if n ∈ l then (ixOf l n : Nat) else -1
def findGo (n : Nat) : Nat → List Nat → Int
  | _, [] => -1
  | i, x :: r => if x = n then (i : Int) else findGo n (i + 1) r
theorem findGo_eq (n : Nat) : ∀ (l : List Nat) (i : Nat), findGo n i l = if n ∈ l then ((i + ixOf l n : Nat) : Int) else -1
  | [], i => by simp [findGo]
  | x :: r, i => by
    unfold findGo
    by_cases h : x = n
    · subst h; simp [ixOf]
    · rw [if_neg h, findGo_eq n r (i + 1)]
      have h1 : ixOf (x :: r) n = ixOf r n + 1 := by
        show List.idxOf n (x :: r) = _
        rw [List.idxOf_cons, show (x == n) = false by simpa using h]; rfl
      by_cases hm : n ∈ r
      · rw [if_pos hm, if_pos (by simp [hm]), h1]; omega
      · rw [if_neg hm, if_neg (by simp [hm]; exact fun e => h e.symm)]
theorem find_eq (n : Nat) (l : List Nat) : findGo n 0 l = findI l n := by rw [findGo_eq, findI, Nat.zero_add]
set_option maxRecDepth 100000 in
set_option maxHeartbeats 800000 in
theorem findCall {w : World} {v : Value} {l : List Nat} (h : Ints w v (natI l)) (n : Nat) :
    Calls Tryz.prog 88 #[v, .int .i64 (n : Int)] w fun e w' => e = .returned (.int .i64 (findI l n)) ∧ w' = w := by
  obtain ⟨aa, ac, ab, off, rfl, ha, hc, hl⟩ := h
  rw [natI_len] at ha hl ⊢
  obtain ⟨z, hz⟩ : ∃ z, findI l n = z := ⟨_, rfl⟩
  have hz0 : Hid (findGo n 0 (l.drop 0) = z) := by show _ = _; rw [List.drop_zero, find_eq]; exact hz
  rw [hz]
  replace hc := Lib.hid hc
  clear hz
  go_enter Tryz.func88, Tryz.ntmps88
  go_wp2
  go_loop [5] (fun iv => ∃ i : Nat, iv = .int .i64 i ∧ i ≤ l.length ∧ Hid (findGo n i (l.drop i) = z)) (fun iv => l.length - (intOf iv).toNat)
  case atStart => exact ⟨0, rfl, by omega, hz0⟩
  case round =>
    clear hz0
    obtain ⟨i, rfl, hi, hg⟩ := hrel
    by_cases hlt : i < l.length
    · obtain rfl := ha (by omega)
      have hci := hc.out i (by rw [natI_len]; exact hlt)
      rw [natI_getD] at hci
      obtain ⟨q, hq⟩ : ∃ q, l.getD i 0 = q := ⟨_, rfl⟩
      have hg2 := hg.out
      rw [drop_cons hlt 0, hq, findGo] at hg2
      rw [hq] at hci
      clear hg hq
      by_cases hqn : q = n
      · rw [if_pos hqn] at hg2
        subst hqn hg2
        go_wp2
        go_ret
        exact ⟨rfl, rfl⟩
      · rw [if_neg hqn] at hg2
        have hg3 : Hid (findGo n (i + 1) (l.drop (i + 1)) = z) := hg2
        have hne : ((q : Int) == (n : Int)) = false := by simp; omega
        clear hg2
        go_wp2
        go_round
        case rel => exact ⟨i + 1, by go_num, hlt, hg3⟩
        case measure => simp [intOf]; omega
    · have hg2 := hg.out
      rw [List.drop_eq_nil_of_le (by omega), findGo] at hg2
      subst hg2
      clear hg
      go_wp2
      go_ret
      exact ⟨rfl, rfl⟩
end Go.Proofs.YtfihpofdoffclaaGreatDoor

/- The reference: Form. -/
namespace Go.Proofs.YtfihpofdoffclaaGreatDoor
open Go.RowKit Go.ChangeMaps Go.MapKept

theorem findI_in {l : List Nat} {n : Nat} (h : n ∈ l) : findI l n = (ixOf l n : Nat) := by rw [findI, if_pos h]
theorem findI_out {l : List Nat} {n : Nat} (h : n ∉ l) : findI l n = -1 := by rw [findI, if_neg h]
theorem numK_pre {K t : List Nat} {x : Nat} (h : x ∈ K) : numK (K ++ t) x = ixOf K x := by
  rw [numK, if_pos (List.mem_append_left _ h)]
  exact idxOf_pre h
theorem formMv_eq {L K : List Nat} {y0 y1 y2 y3 y4 y5 y6 : Int} {q : Nat} : formMv L K [y0, y1, y2, y3, y4, y5, y6, (q : Int)] = [y0, y1, y2, y3, y4, y5, y6, ((numK K (L.getD q 0) : Nat) : Int)] := by
  have : mvTo [y0, y1, y2, y3, y4, y5, y6, (q : Int)] = q := by show ((q : Int)).toNat = q; omega
  rw [formMv, this]; rfl
theorem natI_app (a b : List Nat) : natI (a ++ b) = natI a ++ natI b := by simp [natI]
theorem keepX_step {E : TypeId} {a b c : World} (h : KeepX E a b) (k : Below a.heap.size b c) : KeepX E a c := fun i cs t hi ht => (k.block i (Array.getElem?_eq_some_iff.1 hi).1).trans (h i cs t hi ht)
set_option maxRecDepth 100000 in
set_option maxHeartbeats 6400000 in
theorem refForm {w : World} {v : Value} {n : Int} {ss : List (List (List Int))} (hA : AdvV w v n ss) (hO : ClsOK ss) :
    Calls Tryz.prog 52 #[v] w fun e w' => ∃ u, e = .returned u ∧ OwAdv w' u n (canS ss) ∧ Below w.heap.size w w' := by
  obtain ⟨hR, hRl, hRb⟩ := ordC_eq hO
  obtain ⟨R, hRR⟩ : ∃ R, ordC ss = R := ⟨_, rfl⟩
  have hFm0 : canS ss = formC ss (part ss) R.1 := by rw [canS, hRR]
  rw [hRR] at hR hRl hRb
  obtain ⟨hl90, hmv90, hl0, hst⟩ := hO
  have hM : LeadOK ss := fun s hs m hm => ((hst s hs).2 m hm).2.2
  have HP := Lib.hid (fun W (hb : Below w.heap.size w W) => refPartition (hA.keep hb) hM (by omega))
  obtain ⟨sv, rfl, hK⟩ := hA
  obtain ⟨sa, sc, sb, so, rfl, hsa, hsc, _⟩ := hK
  obtain rfl := hsa hl0
  obtain ⟨L, hL⟩ : ∃ L, part ss = L := ⟨_, rfl⟩
  have hLl : L.length = ss.length := by rw [← hL]; exact stL_len ss _
  have hLb : ∀ x ∈ L, x ≤ 1000000 := by rw [← hL]; exact fun x hx => part_mem (by omega) hx
  rw [hL] at hFm0 hR
  simp only [hL] at HP
  replace HP := Lib.hid HP
  rw [hFm0]
  obtain ⟨K, hKK⟩ : ∃ K, R.1.map (keyL L) = K := ⟨_, rfl⟩
  obtain ⟨Fm, hFm⟩ : ∃ Fm, formC ss L R.1 = Fm := ⟨_, rfl⟩
  rw [hFm]
  have hFml : Fm.length = R.1.length := by rw [← hFm, formC, List.length_map]
  have hFmi : Hid (∀ i, i < R.1.length → Fm.getD i [] = (ss.getD (R.1.getD i 0) []).map (formMv L K)) := fun i hi => by
    rw [← hFm, formC, List.getD_eq_getElem?_getD, List.getElem?_map, List.getElem?_eq_some_iff.2 ⟨hi, rfl⟩, hKK]
    simp only [Option.map_some, Option.getD_some, formSt]
    rw [getD_eq hi]
  obtain ⟨F, hF⟩ : ∃ F, ss.length + 1 = F := ⟨_, rfl⟩
  rw [hF] at hR
  obtain ⟨W1, hW1⟩ : ∃ W1, W1 = (w.alloc (.cells #[.int .i64 n, .slice (some ⟨sb, so, none⟩) ss.length sc] 24)).alloc (.cells #[.int .i64 0, .slice none 0 0] 24) := ⟨_, rfl⟩
  have hb1 : Below w.heap.size w W1 := by rw [hW1]; exact ((Below.refl _ w).alloc (Nat.le_refl _) _).alloc (by simp) _
  have m0 : W1.heap[w.heap.size]? = some (.cells #[.int .i64 n, .slice (some ⟨sb, so, none⟩) ss.length sc] 24) := by rw [hW1]; exact (Below.heap_alloc _ _ _ (by simp)).trans (heap_alloc_new _ _)
  have m1 : W1.heap[w.heap.size + 1]? = some (.cells #[.int .i64 0, .slice none 0 0] 24) := by
    have h := heap_alloc_new (w.alloc (.cells #[.int .i64 n, .slice (some ⟨sb, so, none⟩) ss.length sc] 24)) (.cells #[.int .i64 0, .slice none 0 0] 24)
    rw [World.size_alloc] at h
    rw [hW1]; exact h
  have hs1 : W1.heap.size = w.heap.size + 2 := by rw [hW1]; simp
  have p0 : W1.cell? ⟨w.heap.size, 0, none⟩ = some (.int .i64 n) := by rw [cell_of_row _ _ 0 _ _ _ m0]; rfl
  have p1 : W1.cell? ⟨w.heap.size, 1, none⟩ = some (.slice (some ⟨sb, so, none⟩) ss.length sc) := by rw [cell_of_row _ _ 1 _ _ _ m0]; rfl
  have z0 : W1.cell? ⟨w.heap.size + 1, 0, none⟩ = some (.int .i64 0) := by rw [cell_of_row _ _ 0 _ _ _ m1]; rfl
  have z1 : W1.cell? ⟨w.heap.size + 1, 1, none⟩ = some (.slice none 0 0) := by rw [cell_of_row _ _ 1 _ _ _ m1]; rfl
  have hsc := Lib.hid (fun W (hb : Below W1.heap.size W1 W) j (hj : j < ss.length) => show ∃ u, W.cell? ⟨sb, so + j, none⟩ = some u ∧ KS 8 W u (ss.getD j []) from
    let ⟨u, h1, h2⟩ := hsc j hj; ⟨u, cell_kept (bt hb1 hb hb1.size) h1, h2.keep (bt hb1 hb hb1.size)⟩)
  have HP1 := Lib.hid (HP.out W1 hb1)
  have hmx : Tryz.prog.follows .mixedOrders = true := by kernel_rfl
  replace hst := Lib.hid hst
  replace hRb := Lib.hid hRb
  replace hLb := Lib.hid hLb
  have hR0 := Lib.hid hR
  replace hKK := Lib.hid hKK
  replace hF := Lib.hid hF
  clear HP hM hL hFm hFm0 hRR m0 hR
  go_enter Tryz.func52, Tryz.ntmps52
  go_wp2_with fail
  rw [← hW1]
  refine HP1.out.mono ?_
  rintro e W2 ⟨lv, rfl, hOL, hb2⟩
  obtain ⟨lg, lcap, rfl, _⟩ := OI.form hOL (by omega)
  have c0 := hOL.cell (j := 0) (by omega)
  rw [natI_getD] at c0
  obtain ⟨q0, hq0⟩ : ∃ q, L.getD 0 0 = q := ⟨_, rfl⟩
  rw [hq0] at c0
  have q0' := cell_kept hb2 p0
  have q1' := cell_kept hb2 p1
  replace hW1 := Lib.hid hW1
  -- behind Partition
  obtain ⟨W3, hW3⟩ : ∃ W3, W3 = ((W2.alloc (.cells #[.int .i64 (q0 : Int)] 3)).alloc (.cells #[.int .i64 0] 3)).alloc (.cells #[.int .i64 n, .slice none 0 0] 24) := ⟨_, rfl⟩
  have hb3 : Below W2.heap.size W2 W3 := by rw [hW3]; exact (((Below.refl _ _).alloc (Nat.le_refl _) _).alloc (by simp) _).alloc (by simp; omega) _
  have b0 : W3.heap[W2.heap.size]? = some (.cells #[.int .i64 (q0 : Int)] 3) := by rw [hW3]; exact (Below.heap_alloc _ _ _ (by simp; omega)).trans ((Below.heap_alloc _ _ _ (by simp)).trans (heap_alloc_new _ _))
  have b1 : W3.heap[W2.heap.size + 1]? = some (.cells #[.int .i64 0] 3) := by
    have h := heap_alloc_new (W2.alloc (.cells #[.int .i64 (q0 : Int)] 3)) (.cells #[.int .i64 0] 3)
    rw [World.size_alloc] at h
    rw [hW3]; exact (Below.heap_alloc _ _ _ (by simp)).trans h
  have b2 : W3.heap[W2.heap.size + 2]? = some (.cells #[.int .i64 n, .slice none 0 0] 24) := by
    have h := heap_alloc_new ((W2.alloc (.cells #[.int .i64 (q0 : Int)] 3)).alloc (.cells #[.int .i64 0] 3)) (.cells #[.int .i64 n, .slice none 0 0] 24)
    rw [World.size_alloc, World.size_alloc] at h
    rw [hW3]; exact h
  have hM3 : OI W3 W2.heap.size (.slice (some ⟨W2.heap.size, 0, none⟩) 1 1) ([0] : List Nat).length (natI (([0] : List Nat).map (keyL L))) := by
    show OI _ _ _ 1 [((keyL L 0 : Nat) : Int)]
    unfold keyL
    rw [hq0]
    exact ⟨rfl, .inr ⟨W2.heap.size, 1, _, rfl, Nat.le_refl _, b0, Nat.le_refl _, by unfold maxLen; omega, rfl, rfl⟩⟩
  have hF3 : OI W3 W2.heap.size (.slice (some ⟨W2.heap.size + 1, 0, none⟩) 1 1) ([0] : List Nat).length (natI [0]) := ⟨rfl, .inr ⟨W2.heap.size + 1, 1, _, rfl, Nat.le_succ _, b1, Nat.le_refl _, by unfold maxLen; omega, rfl, rfl⟩⟩
  have hAp3 : Apart (.slice (some ⟨W2.heap.size, 0, none⟩) 1 1) (.slice (some ⟨W2.heap.size + 1, 0, none⟩) 1 1) := fun a b ha hb => by
    simp only [Value.ownBlock, Option.some.injEq] at ha hb; omega
  have hob3 : Hid (∀ x ∈ ([0] : List Nat), x < ss.length) := fun x hx => by simp at hx; omega
  have hb12 := bt hb1 hb2 hb1.size
  replace hq0 := Lib.hid hq0
  replace hLl := Lib.hid hLl
  have hsz2 : w.heap.size + 2 ≤ W2.heap.size := by have := hb2.size; omega
  replace hs1 := Lib.hid hs1
  have xq := cell_kept (((Below.refl _ W2).alloc (Nat.le_refl _) (.cells #[.int .i64 (q0 : Int)] 3)).alloc (by simp) (.cells #[.int .i64 0] 3)) q0'
  clear b0 b1
  go_wp2_with fail
  rw [← hW3]
  clear xq
  replace hW3 := Lib.hid hW3
  go_loopg [4, 5, 7] F (fun f mv fv iv wr => ∃ (i : Nat) (o : List Nat) (fs : List (Nat × List Int)) (sv : Value), iv = .int .i64 i ∧ OI wr W2.heap.size mv o.length (natI (o.map (keyL L))) ∧ OI wr W2.heap.size fv o.length (natI o) ∧ Apart mv fv ∧
    wr.heap[W2.heap.size + 2]? = some (.cells #[.int .i64 n, sv] 24) ∧ OwX 82 1 ESt wr W2.heap.size sv i (Fm.take i) ∧ Below W2.heap.size W2 wr ∧ Hid (srch (keyL L) ss f i (o, fs) = some R) ∧ i ≤ o.length ∧ Hid (∀ x ∈ o, x < ss.length))
  case atStart => exact ⟨0, [0], [], .slice none 0 0, rfl, hM3, hF3, hAp3, b2, by rw [List.take_zero]; exact OwX.nil _ _, hb3, hR0, by simp, hob3⟩
  case round =>
    clear hM3 hF3 hAp3 b2 hR0 hob3 hb3 c0
    obtain ⟨i, o, fs, sv, rfl, hMr, hFr, hAp, hbo, hrow, hbr, hg, hio, hob⟩ := hrel
    obtain ⟨f, rfl⟩ : ∃ f, gk = f + 1 := by
      cases gk with
      | zero => exact absurd hg (by intro h; simp [Hid, srch] at h)
      | succ f => exact ⟨f, rfl⟩
    have hol : o.length ≤ 90 := Nat.le_trans (Nat.le_trans (srch_le hg.out) hRl) hl90
    obtain ⟨sva, svc, hsv⟩ := hrow.shape
    subst hsv
    have hbw := bt hb12 hbr hb12.size
    have hb1r : Below W1.heap.size W1 wr := bt hb2 hbr hb2.size
    have r0 := cell_kept hbr q0'
    have r1 := cell_kept hbr q1'
    by_cases hlt : i < o.length
    · obtain ⟨mg, mc, rfl, _⟩ := hMr.form (by omega)
      obtain ⟨fg, fc, rfl, _⟩ := hFr.form (by omega)
      have hci := hFr.cell hlt
      rw [natI_getD] at hci
      obtain ⟨s, hs⟩ : ∃ s, o.getD i 0 = s := ⟨_, rfl⟩
      have hsl : s < ss.length := hob.out s (by rw [← hs, getD_eq hlt]; exact List.getElem_mem hlt)
      have hg3 : Hid (srch (keyL L) ss f (i + 1) (exts (keyL L) s (ss.getD s []) (o, fs)) = some R) := by
        have h1 := hg.out
        rw [srch, if_pos hlt] at h1
        rw [← hs]; exact h1
      rw [hs] at hci
      have hoi : Hid (o.getD i 0 = s) := hs
      obtain ⟨u, hcu, hu⟩ := hsc.out W1 (Below.refl _ _) s hsl
      replace hcu := cell_kept hb1r hcu
      obtain ⟨ms, hms⟩ : ∃ ms, ss.getD s [] = ms := ⟨_, rfl⟩
      have hmem : ms ∈ ss := by rw [← hms, getD_eq hsl]; exact List.getElem_mem hsl
      have hmst := Lib.hid (hst.out ms hmem)
      have hml : ms.length ≤ 90 := by have h1 := mem_movesN hmem; omega
      rw [hms] at hu hg3
      obtain ⟨E, hE⟩ : ∃ E, exts (keyL L) s ms (o, fs) = E := ⟨_, rfl⟩
      have hE0 : Hid (exts (keyL L) s (ms.drop 0) (o, fs) = E) := by show _ = _; rw [List.drop_zero]; exact hE
      rw [hE] at hg3
      have hEl : E.1.length ≤ 90 := Nat.le_trans (Nat.le_trans (srch_le hg3.out) hRl) hl90
      obtain ⟨Kt, hKt⟩ : ∃ t, R.1 = E.1 ++ t := srch_pre hg3.out
      have hiR : i < R.1.length := by
        have h1 := exts_le (keyL L) s ms (o, fs)
        rw [hE] at h1
        have h2 := srch_le hg3.out
        have h1 : o.length ≤ E.1.length := h1
        have h2 : E.1.length ≤ R.1.length := h2
        omega
      have hRi : R.1.getD i 0 = s := by
        obtain ⟨t2, ht2⟩ := exts_pre (kf := keyL L) (s := s) ms (o, fs)
        rw [hE] at ht2
        rw [hKt, ht2, List.append_assoc, List.getD_eq_getElem?_getD, List.getElem?_append_left hlt, ← List.getD_eq_getElem?_getD]; exact hs
      have hFi : Hid (Fm.getD i [] = ms.map (formMv L K)) := by show _ = _; rw [hFmi.out i hiR, hRi, hms]
      obtain ⟨ma, mc', mb, mo, rfl, hma, hmc, _⟩ := hu
      have hmsc := Lib.hid (fun W (hb : Below W1.heap.size W1 W) j (hj : j < ms.length) => (hmc j hj).2.keep hb)
      have hm0 : 0 < ms.length := hmst.out.1
      obtain rfl := hma hm0
      have hix1 : (s : Int) < (ss.length : Int) := by omega
      have hix2 : (i : Int) < (o.length : Int) := by omega
      obtain ⟨wo, hwo⟩ : ∃ wo, wo = wr := ⟨_, rfl⟩
      subst hwo
      have hEk : Hid (K = E.1.map (keyL L) ++ Kt.map (keyL L)) := by show _ = _; rw [← hKK.out, hKt, List.map_append]
      replace hms := Lib.hid hms
      clear hs hg hE hmc hRi hKt
      go_wp2_with fail
      go_quiet (fail)
      have hWo0 : W2.heap.size ≤ wo.heap.size := hbr.size
      have hMq : OI (wo.drewN nq) W2.heap.size (.slice (some ⟨mg, 0, none⟩) o.length mc) o.length (natI (o.map (keyL L))) := hMr
      have hFq : OI (wo.drewN nq) W2.heap.size (.slice (some ⟨fg, 0, none⟩) o.length fc) o.length (natI o) := hFr
      have hbq : Below W2.heap.size W2 (wo.drewN nq) := below_drewN hbr nq
      have hkq : KeepX 3 wo (wo.drewN nq) := KeepX.below (below_drewN (Below.refl _ _) nq)
      go_wp2_with fail
      go_loopg [4, 5, 8, 10] ms.length (fun g mv fv vv jv wr => ∃ (j : Nat) (o : List Nat) (fs : List (Nat × List Int)), jv = .int .i64 j ∧ j + g = ms.length ∧ j ≤ ms.length ∧ OI wr W2.heap.size mv o.length (natI (o.map (keyL L))) ∧ OI wr W2.heap.size fv o.length (natI o) ∧ Apart mv fv ∧
        OwX 84 8 EI wr wo.heap.size vv j ((ms.map (formMv L K)).take j) ∧ KeepX 3 wo wr ∧ Below W2.heap.size W2 wr ∧ wo.heap.size ≤ wr.heap.size ∧ Hid (exts (keyL L) s (ms.drop j) (o, fs) = E) ∧ Hid (∀ x ∈ o, x < ss.length) ∧ i < o.length)
      case atStart => exact ⟨0, o, fs, rfl, by omega, by omega, hMq, hFq, hAp, by rw [List.take_zero]; exact OwX.nil _ _, hkq, hbq, Nat.le_refl _, hE0, hob, hlt⟩
      case round =>
        clear hMr hFr hMq hFq hAp hE0 hob hlt hkq hbq hci hix2 hol hio hoi
        obtain ⟨j, o, fs, rfl, hjg, hj, hMr, hFr, hAp, hrowM, hkx, hbi, hsz, hEx, hob, hio⟩ := hrel
        obtain ⟨va, vc, hvv⟩ := hrowM.shape
        subst hvv
        have hol : o.length ≤ 90 := by
          have h1 := exts_le (keyL L) s (ms.drop j) (o, fs)
          rw [hEx.out] at h1
          exact Nat.le_trans h1 hEl
        obtain ⟨mg, mc, rfl, _⟩ := hMr.form (by omega)
        obtain ⟨fg, fc, rfl, _⟩ := hFr.form (by omega)
        have hb1i : Below W1.heap.size W1 wr := bt hb2 hbi hb2.size
        by_cases hltj : j < ms.length
        · obtain ⟨g, rfl⟩ : ∃ g, gk = g + 1 := ⟨gk - 1, by omega⟩
          obtain ⟨x, hx⟩ : ∃ x, ms.getD j [] = x := ⟨_, rfl⟩
          have hxm : x ∈ ms := by rw [← hx, getD_eq hltj]; exact List.getElem_mem hltj
          obtain ⟨_, hx8, ht0, ht1⟩ := hmst.out.2 x hxm
          have hdr := drop_cons hltj ([] : List Int)
          rw [hx] at hdr
          have hxc : CI wr mb (mo + j * 8) x := by
            have := hmsc.out wr hb1i j hltj
            rwa [hx] at this
          have hsn := take_succ_snoc (xs := ms.map (formMv L K)) (i := j) (d := formMv L K []) (x := formMv L K x) (by rw [List.length_map]; exact hltj) (by rw [getD_eq (by rw [List.length_map]; exact hltj), List.getElem_map, ← hx, getD_eq hltj])
          obtain ⟨y0, y1, y2, y3, y4, y5, y6, y7, rfl⟩ := eight hx8
          replace ht0 : 0 ≤ y7 := ht0
          replace ht1 : y7 < (ss.length : Int) := ht1
          obtain ⟨q, rfl⟩ : ∃ q : Nat, y7 = (q : Int) := ⟨y7.toNat, by omega⟩
          have hq : q < ss.length := by omega
          have hmq : mvTo [y0, y1, y2, y3, y4, y5, y6, (q : Int)] = q := by show ((q : Int)).toNat = q; omega
          obtain ⟨x0, x1, x2, x3, x4, x5, x6, x7⟩ := hxc.all8
          have hlc := cell_kept hbi (hOL.cell hq)
          rw [natI_getD] at hlc
          have hex2 := hEx.out
          rw [hdr] at hex2
          obtain ⟨lq, hlq⟩ : ∃ lq, L.getD q 0 = lq := ⟨_, rfl⟩
          have hkq : keyL L q = lq := hlq
          rw [hlq] at hlc
          rw [formMv_eq, hlq] at hsn
          have hKx : Hid (∀ (O : List Nat) (FS : List (Nat × List Int)), exts (keyL L) s (ms.drop (j + 1)) (O, FS) = E → lq ∈ O.map (keyL L) → numK K lq = ixOf (O.map (keyL L)) lq) := fun O FS h1 h2 => by
            obtain ⟨t, ht⟩ := exts_pre (kf := keyL L) (s := s) (ms.drop (j + 1)) (O, FS)
            rw [h1] at ht
            rw [hEk.out, ht, List.map_append, List.append_assoc]
            exact numK_pre h2
          have hj9 : j ≤ 1000000000000 := by omega
          have hmbB : mb < wo.heap.size := by
            have := World.block_lt_of_cell? W1 _ ((hmsc.out W1 (Below.refl _ _) j hltj) 0 (by rw [hx]; exact Nat.zero_lt_succ _))
            have h2 := hb1r.size
            exact Nat.lt_of_lt_of_le this h2
          have hc9 : ∀ p : Nat, ∀ u ∈ (#[.int .i64 y0, .int .i64 y1, .int .i64 y2, .int .i64 y3, .int .i64 y4, .int .i64 y5, .int .i64 y6, .int .i64 ((p : Nat) : Int)] : Array Value).toList, u.oneCell' = true := fun p u hu => by
            simp only [List.mem_cons, List.not_mem_nil, or_false] at hu
            rcases hu with rfl | rfl | rfl | rfl | rfl | rfl | rfl | rfl <;> rfl
          have hjx : (j : Int) < (ms.length : Int) := by omega
          have hqx : (q : Int) < (ss.length : Int) := by omega
          have HF1 : Calls Tryz.prog 88 #[.slice (some ⟨mg, 0, none⟩) o.length mc, .int .i64 (lq : Int)] wr fun e w' => e = .returned (.int .i64 (findI (o.map (keyL L)) lq)) ∧ w' = wr := findCall (hMr.ints (by omega)) lq
          by_cases hin : lq ∈ o.map (keyL L)
          · rw [exts_in (by rw [hmq, hkq]; exact hin)] at hex2
            have hpq := hKx.out o fs hex2 hin
            rw [hpq] at hsn
            have hfnd0 := findI_in hin
            obtain ⟨pq, hpp⟩ : ∃ p, ixOf (o.map (keyL L)) lq = p := ⟨_, rfl⟩
            rw [hpp] at hsn hfnd0
            rw [hfnd0] at HF1
            have hstep := Lib.hid hsn
            have hfnd := Lib.hid hfnd0
            replace HF1 := Lib.hid HF1
            replace hc9 := hc9 pq
            have hMC := hMr
            have hFC := hFr
            have hApC := hAp
            have hrowC := hrowM
            have hKXC := hkx
            have hBC := hbi
            have hszC := hsz
            have hEC := Lib.hid hex2
            have hobC := hob
            have hioC := hio
            have hMl : (o.map (keyL L)).length ≤ 90 := by rw [List.length_map]; exact hol
            have hdp : decide ((pq : Int) < 0) = false := decide_eq_false (by omega)
            clear hsn hfnd0 hpq hpp hEx hex2 hKx hdr hx hxc hx8 hxm hmq hlq hkq hin ht0 ht1
            go_wp2_with fail
            refine HF1.out.mono ?_
            rintro e w' ⟨rfl, hw'⟩
            replace hw' := hw'.symm
            subst hw'
            have HFd : Calls Tryz.prog 88 #[.slice (some ⟨mg, 0, none⟩) o.length mc, .int .i64 (lq : Int)] wr.drew fun e w' => e = .returned (.int .i64 ((pq : Nat) : Int)) ∧ w' = wr.drew := by
              have h := findCall (w := wr.drew) (hMC.ints (by rw [List.length_map] at hMl; omega)) lq
              rw [hfnd.out] at h
              exact h
            replace HFd := Lib.hid HFd
            go_wp2_with fail
            go_region_held3 (fun w' => w'.cell? ⟨mb, mo + j * 8, none⟩ = some (.int .i64 y0) ∧ w'.cell? ⟨mb, mo + j * 8 + 1, none⟩ = some (.int .i64 y1) ∧ w'.cell? ⟨mb, mo + j * 8 + 2, none⟩ = some (.int .i64 y2) ∧ w'.cell? ⟨mb, mo + j * 8 + 3, none⟩ = some (.int .i64 y3) ∧ w'.cell? ⟨mb, mo + j * 8 + 4, none⟩ = some (.int .i64 y4) ∧ w'.cell? ⟨mb, mo + j * 8 + 5, none⟩ = some (.int .i64 y5) ∧ w'.cell? ⟨mb, mo + j * 8 + 6, none⟩ = some (.int .i64 y6))
              (first
                | go_keep
                | (go_split_ands
                   refine ⟨?_, ?_, ?_, ?_, ?_, ?_, ?_⟩
                   all_goals (exact (hbl2.cell hmbB).trans (by assumption))))
              (first
                | (go_at_call 88; refine HFd.out.mono ?_; rintro e w' ⟨rfl, rfl⟩)
                | ((refine step_appX (cs := [.int .i64 y0, .int .i64 y1, .int .i64 y2, .int .i64 y3, .int .i64 y4, .int .i64 y5, .int .i64 y6, .int .i64 ((pq : Nat) : Int)]) (x := [y0, y1, y2, y3, y4, y5, y6, ((pq : Nat) : Int)]) elemMv (by decide) (by decide) (EI.stab _) (by rfl) _ _ (by rfl) (by rfl) (hrowC.allocD (EI.stab _) _) ⟨wr.heap.size, 0, none⟩ 1 (by rfl) rfl (World.news_of_block (heap_alloc_new wr _)) hc9 rfl hj9 (by simp; omega) ?_; intro v' w2 hrow2 hgr2 hnw2 hbl2 hx2)))
            have hbl2' : Below wo.heap.size wr w2 := ((Below.refl _ wr).alloc hszC _).drew.trans hbl2
            have hx2' : KeepX 84 wr w2 := (KeepX.below ((Below.refl _ wr).alloc (Nat.le_refl _) _).drew).trans hx2
            rw [hstep.out] at hrow2
            go_wp2
            go_roundg g
            case measure => omega
            case rel => exact ⟨j + 1, o, fs, by go_num, by omega, hltj, hMC.other (by decide) hx2', hFC.other (by decide) hx2', hApC, hrow2, keepX_step hKXC hbl2', (hBC.trans (hbl2'.mono hWo0)), by have := hbl2'.size; omega, hEC, hobC, hioC⟩
          · rw [exts_out (by rw [hmq, hkq]; exact hin), hmq] at hex2
            have hin2 : lq ∈ (o ++ [q]).map (keyL L) := by simp [hkq]
            have hpq := hKx.out (o ++ [q]) _ hex2 hin2
            rw [hpq] at hsn
            have hfnd0 := findI_in hin2
            obtain ⟨pq, hpp⟩ : ∃ p, ixOf ((o ++ [q]).map (keyL L)) lq = p := ⟨_, rfl⟩
            rw [hpp] at hsn hfnd0
            rw [findI_out hin] at HF1
            have hstep := Lib.hid hsn
            have hfnd := Lib.hid hfnd0
            replace HF1 := Lib.hid HF1
            replace hc9 := hc9 pq
            have hEC := Lib.hid hex2
            have ho9 : o.length ≤ 1000000000000 := by omega
            have hWr : W2.heap.size ≤ wr.heap.size := hbi.size
            have hmgl : mg < wr.heap.size := (World.ownsRow.lt hMr mg rfl).2
            have hfgl : fg < wr.heap.size := (World.ownsRow.lt hFr fg rfl).2
            have hmgA : (some wr.heap.size : Option Nat) ≠ (Value.slice (some ⟨mg, 0, none⟩) o.length mc).ownBlock := by simp [Value.ownBlock]; omega
            have hfgA : (some wr.heap.size : Option Nat) ≠ (Value.slice (some ⟨fg, 0, none⟩) o.length fc).ownBlock := by simp [Value.ownBlock]; omega
            have hmgA1 : (some (wr.heap.size + 1) : Option Nat) ≠ (Value.slice (some ⟨mg, 0, none⟩) o.length mc).ownBlock := by simp [Value.ownBlock]; omega
            have hfgA1 : (some (wr.heap.size + 1) : Option Nat) ≠ (Value.slice (some ⟨fg, 0, none⟩) o.length fc).ownBlock := by simp [Value.ownBlock]; omega
            have hmbW : mb < W2.heap.size := by
              have := World.block_lt_of_cell? W1 _ ((hmsc.out W1 (Below.refl _ _) j hltj) 0 (by rw [hx]; exact Nat.zero_lt_succ _))
              have h2 := hb2.size
              exact Nat.lt_of_lt_of_le this h2
            have hnat : Hid (natI ((o ++ [q]).map (keyL L)) = natI (o.map (keyL L)) ++ [((lq : Nat) : Int)]) := by show _ = _; rw [List.map_append, natI_app, List.map_cons, hkq]; rfl
            have hnat2 : Hid (natI (o ++ [q]) = natI o ++ [((q : Nat) : Int)]) := natI_app _ _
            have hobC : Hid (∀ x ∈ o ++ [q], x < ss.length) := fun x hx => by
              rcases List.mem_append.1 hx with h | h
              · exact hob.out x h
              · rw [List.mem_singleton.1 h]; exact hq
            have hioC : i < (o ++ [q]).length := by rw [List.length_append]; omega
            have hMl : ((o ++ [q]).map (keyL L)).length ≤ 91 := by rw [List.length_map, List.length_append]; simp; omega
            have hol1 : (o ++ [q]).length = o.length + 1 := by simp
            replace hol1 := Lib.hid hol1
            clear hsn hfnd0 hpq hpp hEx hex2 hKx hdr hx hxc hx8 hxm hmq hlq hkq hin hin2 ht0 ht1
            go_wp2_with fail
            refine HF1.out.mono ?_
            rintro e w' ⟨rfl, hw'⟩
            replace hw' := hw'.symm
            subst hw'
            go_upto_region 14 with fail
            go_cut [4, 5] (fun mv fv wx => Two W2.heap.size wr (o.length + 1) (natI (o.map (keyL L)) ++ [((lq : Nat) : Int)]) (natI o ++ [((q : Nat) : Int)]) mv fv wx)
            case first =>
              go_region_held3 (fun w' => w'.cell? ⟨mb, mo + j * 8 + 7, none⟩ = some (.int .i64 (q : Int)))
                (first
                  | go_keep
                  | (exact (hbA.cell hmbW).trans (by assumption))
                  | (exact (hbB.cell hmbW).trans (by assumption)))
                (first
                  | ((refine step_appI (y := (lq : Int)) (by rfl) _ _ (by rfl) (by rfl) (v := .slice (some ⟨mg, 0, none⟩) o.length mc) (by first | exact hMr.allocD _ | exact hMr.allocD2 _ _ | exact OI.kept (hMr.allocD2 _ _) hgB hAp.ne | exact OI.alloc1 (OI.kept (hMr.allocD _) hgB hAp.ne) _) _ _ (by rfl) (by first | exact cellN1 _ _ _ | exact cellN2 _ _ _ _ | exact cellN3 _ _ _ _ | exact cellN4 _ _ _ | exact hgB.cell (cellN2 _ _ _ _) hfgA | exact hgB.cell (cellN3 _ _ _ _) hfgA1) ho9 (by first | (simp; omega) | (have hzz := hgB.size; simp at hzz ⊢; omega)) ?_; intro vA wA hA hgA hnA hbA hxA))
                  | ((refine step_appI (y := (q : Int)) (by rfl) _ _ (by rfl) (by rfl) (v := .slice (some ⟨fg, 0, none⟩) o.length fc) (by first | exact hFr.allocD _ | exact hFr.allocD2 _ _ | exact OI.kept (hFr.allocD2 _ _) hgA hAp.symm.ne | exact OI.alloc1 (OI.kept (hFr.allocD _) hgA hAp.symm.ne) _) _ _ (by rfl) (by first | exact cellN1 _ _ _ | exact cellN2 _ _ _ _ | exact cellN3 _ _ _ _ | exact cellN4 _ _ _ | exact hgA.cell (cellN2 _ _ _ _) hmgA | exact hgA.cell (cellN3 _ _ _ _) hmgA1) ho9 (by first | (simp; omega) | (have hzz := hgA.size; simp at hzz ⊢; omega)) ?_; intro vB wB hB hgB hnB hbB hxB)))
              all_goals
                go_wp2
                go_meet
                first
                  | exact two_fin hWr hAp hMr hFr (by repeat (first | exact Below.refl _ _ | refine Below.drew ?_ | refine Below.alloc ?_ (by simp) _)) hA hgA hnA hbA hxA (by repeat (first | exact Below.refl _ _ | refine Below.drew ?_ | refine Below.alloc ?_ (by simp) _)) hB hgB hnB hbB hxB
                  | exact (two_fin hWr hAp.symm hFr hMr (by repeat (first | exact Below.refl _ _ | refine Below.drew ?_ | refine Below.alloc ?_ (by simp) _)) hB hgB hnB hbB hxB (by repeat (first | exact Below.refl _ _ | refine Below.drew ?_ | refine Below.alloc ?_ (by simp) _)) hA hgA hnA hbA hxA).swap
            case rest =>
              obtain ⟨hM2, hF2, hApC, hK2, hB2⟩ := hcut
              obtain ⟨O, hO⟩ : ∃ O, o ++ [q] = O := ⟨_, rfl⟩
              rw [hO] at hnat hnat2 hobC hioC hMl hol1 hEC hfnd
              rw [← hnat.out, ← hol1.out] at hM2
              rw [← hnat2.out, ← hol1.out] at hF2
              have hMC := hM2
              have hFC := hF2
              obtain ⟨mg2, mc2, rfl, _⟩ := hM2.form (by rw [hol1.out]; omega)
              obtain ⟨fg2, fc2, rfl, _⟩ := hF2.form (by rw [hol1.out]; omega)
              replace x0 := (hB2.cell (p := ⟨mb, mo + j * 8, none⟩) hmbW).trans x0
              replace x1 := (hB2.cell (p := ⟨mb, mo + j * 8 + 1, none⟩) hmbW).trans x1
              replace x2 := (hB2.cell (p := ⟨mb, mo + j * 8 + 2, none⟩) hmbW).trans x2
              replace x3 := (hB2.cell (p := ⟨mb, mo + j * 8 + 3, none⟩) hmbW).trans x3
              replace x4 := (hB2.cell (p := ⟨mb, mo + j * 8 + 4, none⟩) hmbW).trans x4
              replace x5 := (hB2.cell (p := ⟨mb, mo + j * 8 + 5, none⟩) hmbW).trans x5
              replace x6 := (hB2.cell (p := ⟨mb, mo + j * 8 + 6, none⟩) hmbW).trans x6
              have hrowC := hrowM.other (E' := 3) (EI.stab _) (by decide) hK2
              have hKXC := hkx.trans hK2
              have hBC := hbi.trans hB2
              have hszC : wo.heap.size ≤ wc.heap.size := by have := hB2.size; omega
              clear hM2 hF2 hK2 hB2 hMr hFr hAp hrowM hkx hbi x7 hO hnat hnat2
              have HFd : Calls Tryz.prog 88 #[.slice (some ⟨mg2, 0, none⟩) O.length mc2, .int .i64 (lq : Int)] wc.drew fun e w' => e = .returned (.int .i64 ((pq : Nat) : Int)) ∧ w' = wc.drew := by
                have h := findCall (w := wc.drew) (hMC.ints (by rw [List.length_map] at hMl; omega)) lq
                rw [hfnd.out] at h
                exact h
              replace HFd := Lib.hid HFd
              go_wp2_with fail
              go_region_held3 (fun w' => w'.cell? ⟨mb, mo + j * 8, none⟩ = some (.int .i64 y0) ∧ w'.cell? ⟨mb, mo + j * 8 + 1, none⟩ = some (.int .i64 y1) ∧ w'.cell? ⟨mb, mo + j * 8 + 2, none⟩ = some (.int .i64 y2) ∧ w'.cell? ⟨mb, mo + j * 8 + 3, none⟩ = some (.int .i64 y3) ∧ w'.cell? ⟨mb, mo + j * 8 + 4, none⟩ = some (.int .i64 y4) ∧ w'.cell? ⟨mb, mo + j * 8 + 5, none⟩ = some (.int .i64 y5) ∧ w'.cell? ⟨mb, mo + j * 8 + 6, none⟩ = some (.int .i64 y6))
                (first
                  | go_keep
                  | (go_split_ands
                     refine ⟨?_, ?_, ?_, ?_, ?_, ?_, ?_⟩
                     all_goals (exact (hbl2.cell hmbB).trans (by assumption))))
                (first
                  | (go_at_call 88; refine HFd.out.mono ?_; rintro e w' ⟨rfl, rfl⟩)
                  | ((refine step_appX (cs := [.int .i64 y0, .int .i64 y1, .int .i64 y2, .int .i64 y3, .int .i64 y4, .int .i64 y5, .int .i64 y6, .int .i64 ((pq : Nat) : Int)]) (x := [y0, y1, y2, y3, y4, y5, y6, ((pq : Nat) : Int)]) elemMv (by decide) (by decide) (EI.stab _) (by rfl) _ _ (by rfl) (by rfl) (hrowC.allocD (EI.stab _) _) ⟨wc.heap.size, 0, none⟩ 1 (by rfl) rfl (World.news_of_block (heap_alloc_new wc _)) hc9 rfl hj9 (by simp; omega) ?_; intro v' w2 hrow2 hgr2 hnw2 hbl2 hx2)))
              have hbl2' : Below wo.heap.size wc w2 := ((Below.refl _ wc).alloc hszC _).drew.trans hbl2
              have hx2' : KeepX 84 wc w2 := (KeepX.below ((Below.refl _ wc).alloc (Nat.le_refl _) _).drew).trans hx2
              rw [hstep.out] at hrow2
              go_wp2
              go_roundg g
              case measure => omega
              case rel => exact ⟨j + 1, O, _, by go_num, by omega, hltj, hMC.other (by decide) hx2', hFC.other (by decide) hx2', hApC, hrow2, keepX_step hKXC hbl2', (hBC.trans (hbl2'.mono hWo0)), by have := hbl2'.size; omega, hEC, hobC, hioC⟩
        · obtain rfl : j = ms.length := by omega
          have hE1 := hEx.out
          rw [List.drop_eq_nil_of_le (Nat.le_refl _), exts] at hE1
          subst hE1
          rw [List.take_of_length_le (by rw [List.length_map]; exact Nat.le_refl _)] at hrowM
          have hES : ESt wr [.slice va ms.length vc] (ms.map (formMv L K)) := ⟨_, rfl, by rw [List.length_map]; exact hrowM.base (Nat.zero_le _)⟩
          have hrow2 := hrow.other (E' := 3) (ESt.stab (by decide)) (by decide) hkx
          have hbo2 := (hkx _ _ _ hbo (by decide)).trans hbo
          have x1i : wr.cell? ⟨W2.heap.size + 2, 1, none⟩ = some (.slice sva i svc) := by rw [cell_of_row _ _ 1 _ _ _ hbo2]; rfl
          have hB1 : W2.heap.size ≤ wr.heap.size := hbi.size
          have hi9 : i ≤ 1000000000000 := by omega
          have hc9 : ∀ u ∈ (#[.slice va ms.length vc] : Array Value).toList, u.oneCell' = true := fun u hu => by rw [List.mem_singleton.1 hu]; rfl
          have hSt : Stab 82 ESt := ESt.stab (by decide)
          clear hrow hbo hrowM hEx r0 r1 hcu
          go_wp2_with (at_builtin; refine wpAppX elemSt (by decide) (by decide) hSt rfl _ _ rfl rfl hrow2 rfl rfl rfl hc9 hES hi9 hB1 ?_)
          intro v' w2 hrow3 hgr3 hb3' hx3
          have hbx2 := (hx3 _ _ _ hbo2 (by decide)).trans hbo2
          have hfr2 := row_free hbx2 1
          have x2 : w2.cell? ⟨W2.heap.size + 2, 1, none⟩ = some (.slice sva i svc) := by rw [cell_of_row _ _ 1 _ _ _ hbx2]; rfl
          obtain ⟨va', vc', hv'⟩ := hrow3.shape
          subst hv'
          have hset := two_setCell (u := .slice va' (i + 1) vc') hbx2
          have hKS : KeepX 24 w2 (w2.setCell ⟨W2.heap.size + 2, 1, none⟩ (.slice va' (i + 1) vc')) := KeepX.setCell (p := ⟨W2.heap.size + 2, 1, none⟩) hbx2 _
          rw [take_succ_snoc (by omega) hFi.out] at hrow3
          have hrow4 := hrow3.other (E' := 24) (ESt.stab (by decide)) (by decide) hKS
          have hbf : Below W2.heap.size W2 (w2.setCell ⟨W2.heap.size + 2, 1, none⟩ (.slice va' (i + 1) vc')) := (hbi.trans hb3').setCell (p := ⟨W2.heap.size + 2, 1, none⟩) (Nat.le_add_right _ _) _
          have hM4 := (hMr.other (by decide) hx3).other (by decide) hKS
          have hF4 := (hFr.other (by decide) hx3).other (by decide) hKS
          clear hrow2 hrow3 hgr3 hx3 hES hb3' hMr hFr hKS x1i
          go_wp2
          go_roundg f
          case measure => omega
          case rel => exact ⟨i + 1, o, fs, .slice va' (i + 1) vc', by go_num, hM4, hF4, hAp, hset, hrow4, hbf, hg3, hio, hob⟩
    · obtain rfl : i = o.length := by omega
      obtain ⟨ma1, mc1, rfl⟩ := hMr.shape
      have hR1 := hg.out
      rw [srch, if_neg (by omega)] at hR1
      injection hR1 with hR1
      subst hR1
      have r1c : wr.cell? ⟨W2.heap.size + 2, 0, none⟩ = some (.int .i64 n) := by rw [cell_of_row _ _ 0 _ _ _ hbo]; rfl
      have r1d : wr.cell? ⟨W2.heap.size + 2, 1, none⟩ = some (.slice sva o.length svc) := by rw [cell_of_row _ _ 1 _ _ _ hbo]; rfl
      have k0 := cell_kept hb1r z0
      have k1 := cell_kept hb1r z1
      have kf := row_free (hb1r.block _ (Array.getElem?_eq_some_iff.1 m1).1 |>.trans m1)
      have hrw := (hb1r.block _ (Array.getElem?_eq_some_iff.1 m1).1).trans m1
      have hx1 : KeepX 24 wr (wr.setCell ⟨w.heap.size + 1, 0, none⟩ (.int .i64 n)) := KeepX.setCell (p := ⟨w.heap.size + 1, 0, none⟩) hrw _
      have hrw1 : (wr.setCell ⟨w.heap.size + 1, 0, none⟩ (.int .i64 n)).heap[w.heap.size + 1]? = some (.cells #[.int .i64 n, .slice none 0 0] 24) := heap_setCell_same wr _ 0 _ _ _ hrw
      have hx2 := KeepX.setCell (p := ⟨w.heap.size + 1, 1, none⟩) hrw1 (.slice sva o.length svc)
      have hrw2 := two_setCell (u := .slice sva o.length svc) hrw1
      have hfin := hrow.other (E' := 24) (ESt.stab (by decide)) (by decide) (hx1.trans hx2)
      rw [List.take_of_length_le (by rw [hFml]; exact Nat.le_refl _)] at hfin
      have hbe := (hbw.setCell (p := ⟨w.heap.size + 1, 0, none⟩) (Nat.le_succ _) (.int .i64 n)).setCell (p := ⟨w.heap.size + 1, 1, none⟩) (Nat.le_succ _) (.slice sva o.length svc)
      have hkss : OwX 82 1 ESt _ 0 (.slice sva o.length svc) Fm.length Fm ∧ Fm.length ≤ 5864062014805 ∧ ∀ x ∈ Fm, x.length ≤ 2199023255552 := ⟨by rw [hFml]; exact hfin.base (Nat.zero_le _), by rw [hFml]; show o.length ≤ _; omega, (fun x hx => by
        obtain ⟨j, hj, rfl⟩ := List.getElem_of_mem hx
        rw [← getD_eq hj [], hFmi.out j (by omega), List.length_map]
        have hjs : o.getD j 0 < ss.length := hob.out _ (by rw [getD_eq (by rw [hFml] at hj; exact hj)]; exact List.getElem_mem _)
        have h1 := mem_movesN (ss := ss) (ms := ss.getD (o.getD j 0) []) (by rw [getD_eq hjs]; exact List.getElem_mem hjs)
        have h2 : (ss.getD (o.getD j 0) []).length ≤ 90 := by omega
        show (ss.getD (o.getD j 0) []).length ≤ _
        omega)⟩
      have e0 : ((wr.setCell ⟨w.heap.size + 1, 0, none⟩ (.int .i64 n)).setCell ⟨w.heap.size + 1, 1, none⟩ (.slice sva o.length svc)).cell? ⟨w.heap.size + 1, 0, none⟩ = some (.int .i64 n) := by rw [cell_of_row _ _ 0 _ _ _ hrw2]; rfl
      have e1 : ((wr.setCell ⟨w.heap.size + 1, 0, none⟩ (.int .i64 n)).setCell ⟨w.heap.size + 1, 1, none⟩ (.slice sva o.length svc)).cell? ⟨w.heap.size + 1, 1, none⟩ = some (.slice sva o.length svc) := by rw [cell_of_row _ _ 1 _ _ _ hrw2]; rfl
      clear hfin hx1 hx2 hrw2 hrw1 hrw hrow hg hio hlt
      go_wp2
      obtain ⟨W8, hW8⟩ : ∃ W8, W8 = (wr.setCell ⟨w.heap.size + 1, 0, none⟩ (.int .i64 n)).setCell ⟨w.heap.size + 1, 1, none⟩ (.slice sva o.length svc) := ⟨_, rfl⟩
      rw [← hW8] at e0 e1 hkss hbe ⊢
      clear hW8
      refine bodyPost_ret (v := .agg #[.int .i64 n, .slice sva o.length svc]) (by simp [results, Tryz.results52, go_sem, e0, e1]) rfl ?_
      exact ⟨_, rfl, ⟨_, rfl, hkss⟩, hbe⟩
end Go.Proofs.YtfihpofdoffclaaGreatDoor

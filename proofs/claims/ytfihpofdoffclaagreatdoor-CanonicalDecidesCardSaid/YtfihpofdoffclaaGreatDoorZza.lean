/- Texts of this claim, put together: N0 X3 Y1. -/
import Derived.Test.YtfihpofdoffclaaGreatDoorZt
import Derived.Test.YtfihpofdoffclaaGreatDoorZv
import Derived.Test.YtfihpofdoffclaaGreatDoorZm
import Derived.Test.YtfihpofdoffclaaGreatDoorZn
import Derived.Deep.OwnRows
import Derived.Test.YtfihpofdoffclaaGreatDoorZx

/- The law's own function split. -/
namespace Go.Proofs.YtfihpofdoffclaaGreatDoor
open Go.RowKit

/-- A slice value of bytes. -/
def U8s (w : World) (v : Value) (ps : List Int) : Prop :=
  ∃ a c b off, v = .slice a ps.length c ∧ (0 < ps.length → a = some ⟨b, off, none⟩) ∧ (∀ j, j < ps.length → w.cell? ⟨b, off + j, none⟩ = some (.int .u8 (ps.getD j 0))) ∧ (∀ x ∈ ps, 0 ≤ x ∧ x ≤ 255) ∧ ps.length ≤ 140737488355328
theorem U8s.keep {w w' : World} {v : Value} {ps : List Int} (h : U8s w v ps) (hb : Below w.heap.size w w') : U8s w' v ps := by
  obtain ⟨a, c, b, off, hv, ha, hc, hl⟩ := h
  exact ⟨a, c, b, off, hv, ha, fun j hj => cell_kept hb (hc j hj), hl⟩
def btOf (ps : List Int) (k : Nat) : Int := if k < ps.length then ps.getD k 0 % 2 else 0
theorem btOf_le (ps : List Int) (k : Nat) : 0 ≤ btOf ps k ∧ btOf ps k ≤ 1 := by unfold btOf; split <;> omega
theorem and1b_ok : ((List.range 256).all fun x => decide (bits .and .i64 (x : Int) 1 = (x : Int) % 2)) = true := by decide +kernel
theorem and1b {x : Int} (h0 : 0 ≤ x) (h1 : x ≤ 255) : bits .and .i64 x 1 = x % 2 := by
  have := List.all_eq_true.1 and1b_ok x.toNat (List.mem_range.2 (by omega))
  have h := of_decide_eq_true this
  rwa [Int.toNat_of_nonneg h0] at h
/-- A store of a one-cell element. -/
theorem OwX.store1 {α : Type} {E : TypeId} {El : World → List Value → α → Prop} (hS : Stab E El) {w : World} {B g n cap : Nat} {xs : List α} (h : OwX E 1 El w B (.slice (some ⟨g, 0, none⟩) n cap) n xs) {j : Nat} (hj : j < n) {u : Value} (hu : u.oneCell' = true) {x : α} (hEl : El w [u] x) :
    OwX E 1 El (w.setCell ⟨g, j, none⟩ u) B (.slice (some ⟨g, 0, none⟩) n cap) n (xs.set j x) ∧ w.grownBy (w.setCell ⟨g, j, none⟩ u) (some g) := by
  obtain ⟨vs, h1, h2, h3, h4⟩ := h
  obtain ⟨k1, k2⟩ := World.ownsRow.stored h1 j u
  have hX := KeepX.grown k2 (ownsRow_ty h1)
  have hvl : vs.length = n := by have := h1.1; simpa using this
  refine ⟨⟨vs.set j u, k1, by rw [List.length_set]; exact h2, fun y hy => ?_, fun i y hi => ?_⟩, k2⟩
  · rcases List.mem_or_eq_of_mem_set hy with hy | rfl
    · exact h3 y hy
    · exact hu
  · have hil : i < xs.length := by
      have := (List.getElem?_eq_some_iff.1 hi).1
      rwa [List.length_set] at this
    rw [Nat.mul_one]
    have e1 : ((vs.set j u).drop i).take 1 = [(vs.set j u)[i]'(by rw [List.length_set]; omega)] := by
      rw [List.drop_eq_getElem_cons (by rw [List.length_set]; omega), List.take_succ_cons, List.take_zero]
    rw [e1]
    by_cases e : i = j
    · subst e
      rw [List.getElem?_set_self (by omega)] at hi
      injection hi with hi
      subst hi
      rw [List.getElem_set_self]
      exact hS _ _ _ _ hEl hX
    · rw [List.getElem?_set_ne (fun h => e h.symm)] at hi
      rw [List.getElem_set_ne (fun h => e h.symm)]
      have h5 := h4 i y hi
      rw [Nat.mul_one, List.drop_eq_getElem_cons (by omega), List.take_succ_cons, List.take_zero] at h5
      exact hS _ _ _ _ h5 hX
/-- A row of nil slices, just made. -/
theorem owMade {w : World} {B N : Nat} (hB : B ≤ w.heap.size) (hN : N ≤ 1000000) :
    OwX 82 1 ESt (w.alloc (.cells (madeCells #[.slice none 0 0] N) 82)) B (.slice (some ⟨w.heap.size, 0, none⟩) N N) N (List.replicate N []) := by
  have h1 := World.ownsRow_lit (base := B) (e := 82) (size := 1) w (madeCells #[(.slice none 0 0 : Value)] N) N hB (by unfold maxLen; omega) (by rw [size_madeCells, Nat.mul_one])
  rw [toList_madeCells_one] at h1
  refine ⟨_, h1, by simp, fun u hu => ?_, fun j x hj => ?_⟩
  · rw [List.eq_of_mem_replicate hu]; rfl
  · have hjl : j < N := by
      have := (List.getElem?_eq_some_iff.1 hj).1
      rwa [List.length_replicate] at this
    rw [List.getElem?_replicate, if_pos hjl] at hj
    injection hj with hj
    subst hj
    rw [Nat.mul_one, List.drop_replicate, List.take_replicate, show min 1 (N - j) = 1 by omega]
    exact ⟨_, rfl, OwX.nil _ _⟩
theorem runMade (N : Nat) (hN : N ≤ 1000000) (x : Int) (hx : x = (N : Int)) (w : World) : (Instr.makeSlice 22 (.int .i64 x) (.int .i64 x)).run Tryz.prog w = .ok (.slice (some ⟨w.heap.size, 0, none⟩) N N) (w.alloc (.cells (madeCells #[.slice none 0 0] N) 82)) := by
  subst hx
  exact run_make_row' 22 82 (.slice none 0 0) 24 elemSt.1 elemSt.2.1 rfl .i64 .i64 N (by omega) (by omega) w

set_option maxRecDepth 100000 in
set_option maxHeartbeats 3200000 in
theorem splitCall {w : World} {v pv : Value} {n : Int} {ss : List (List (List Int))} {ps : List Int} (hA : AdvV w v n ss) (hM : LeadOK ss) (hl : ss.length ≤ 45) (hm : movesN ss ≤ 45) (hp : U8s w pv ps) :
    Calls Tryz.prog 27 #[v, pv] w fun e w' => ∃ u, e = .returned u ∧ OwAdv w' u n (splitS ss (btOf ps)) ∧ Below w.heap.size w w' := by
  have h8 := hA.len8
  have hlen : ∀ j, (ss.getD j []).length ≤ 45 := fun j => by
    by_cases hj : j < ss.length
    · rw [getD_eq hj]
      have := mem_movesN (List.getElem_mem hj)
      omega
    · rw [List.getD_eq_getElem?_getD, List.getElem?_eq_none (by omega)]; simp
  obtain ⟨N, hN⟩ : ∃ N, 2 * ss.length = N := ⟨_, rfl⟩
  have hNi : (2 : Int) * (ss.length : Int) = (N : Int) := by omega
  have hmk := runMade N (by omega) (N : Int) rfl
  have hwr : IntKind.i64.wrap (N : Int) = (N : Int) := IntWalk.i64_in _ (by omega)
  have hA' := hA
  obtain ⟨sv, rfl, hK⟩ := hA'
  obtain ⟨sa, sc, sb, so, rfl, hsa, hsc, _⟩ := hK
  obtain ⟨pa, pc, pb, po, rfl, hpa, hpc, hpb, hpl⟩ := hp
  obtain ⟨W1, hW1⟩ : ∃ W1, W1 = w.alloc (.cells #[.int .i64 n, .slice sa ss.length sc] 24) := ⟨_, rfl⟩
  obtain ⟨hb1, p0, p1, _⟩ := boxAdv hW1
  obtain ⟨W2, hW2⟩ : ∃ W2, W2 = W1.alloc (.cells #[.int .i64 0, .slice none 0 0] 24) := ⟨_, rfl⟩
  obtain ⟨hb2, z0, z1, m2⟩ := boxAdv hW2
  have hs1 : W1.heap.size = w.heap.size + 1 := by rw [hW1]; simp
  have hb12 := bt hb1 hb2 hb1.size
  rw [hs1] at z0 z1 m2
  have p0' := cell_kept hb2 p0
  have p1' := cell_kept hb2 p1
  have hsl : (ss.length : Int) ≤ 45 := by omega
  rw [hW1] at hW2
  replace hlen := Lib.hid hlen
  replace h8 := Lib.hid h8
  replace hM := Lib.hid hM
  replace hN := Lib.hid hN
  replace hsc := Lib.hid hsc
  replace hpc := Lib.hid hpc
  replace hpb := Lib.hid hpb
  replace hW1 := Lib.hid hW1
  clear hA p0 p1
  go_enter Tryz.func27, Tryz.ntmps27
  go_wp2_with fail
  rw [← hW2]
  replace hW2 := Lib.hid hW2
  have hszW2 : w.heap.size + 1 < W2.heap.size := World.block_lt_of_cell? _ _ z0
  go_upto_region 2 with fail
  go_cut [6] (fun pv wx => ∃ bo g, pv = .pointer (some ⟨bo, 0, none⟩) ∧ wx.heap[bo]? = some (.cells #[.int .i64 n, .slice (some ⟨g, 0, none⟩) N N] 24) ∧ OwX 82 1 ESt wx W2.heap.size (.slice (some ⟨g, 0, none⟩) N N) N (List.replicate N []) ∧ W2.heap.size ≤ bo ∧ Below W2.heap.size W2 wx)
  case first =>
    go_region_held3 (fun w' => w'.cell? ⟨w.heap.size, 0, none⟩ = some (.int .i64 n))
      (first
        | go_keep)
      (fail)
    all_goals
      go_wp2
      go_meet
      first
        | exact ⟨W2.heap.size + 1, W2.heap.size, rfl, ha_new (by rw [World.size_alloc]), OwX.keep (ESt.stab (by decide)) (owMade (B := W2.heap.size) (Nat.le_refl _) (by omega)) ((Below.refl _ _).alloc (Nat.le_refl _) _).drew, by omega, (((Below.refl _ _).alloc (Nat.le_refl _) _).alloc (by rw [World.size_alloc]; omega) _).drew⟩
        | exact ⟨W2.heap.size, W2.heap.size + 1, rfl, ha_old (by rw [World.size_alloc]; omega) (ha_new rfl), OwX.keep (ESt.stab (by decide)) (by have h := owMade (w := W2.alloc (.cells #[.int .i64 n, .slice (some ⟨W2.heap.size + 1, 0, none⟩) N N] 24)) (B := W2.heap.size) (N := N) (by rw [World.size_alloc]; omega) (by omega); rw [World.size_alloc] at h; exact h) (Below.refl _ _).drew, Nat.le_refl _, (((Below.refl _ _).alloc (Nat.le_refl _) _).alloc (by rw [World.size_alloc]; omega) _).drew⟩
  case rest =>
    obtain ⟨bo, g, rfl, hbo, hrow, hbo2, hbx⟩ := hcut
    obtain ⟨wp, hwp⟩ : ∃ wp, wp = wc := ⟨_, rfl⟩
    subst hwp
    have h0s : Hid (([] : List (List (List Int))) ++ spGo ss (btOf ps) 0 (N - 0) 0 = splitS ss (btOf ps)) := by
      show _ = _
      rw [List.nil_append, Nat.sub_zero, ← hN.out]; rfl
    have hrow0 : OwX 82 1 ESt wp W2.heap.size (.slice (some ⟨g, 0, none⟩) N N) N (([] : List (List (List Int))) ++ List.replicate (N - 0) []) := hrow
    have q0 := cell_kept hbx p0'
    have q1 := cell_kept hbx p1'
    clear hrow
    go_wp2_with fail
    go_loopw [7, 24] (fun kv iv wr => ∃ (s kc : Nat) (D : List (List (List Int))), iv = .int .i64 s ∧ kv = .int .i64 kc ∧ s ≤ N ∧ kc ≤ 45 * s ∧ D.length = s ∧ OwX 82 1 ESt wr W2.heap.size (.slice (some ⟨g, 0, none⟩) N N) N (D ++ List.replicate (N - s) []) ∧
      wr.heap[bo]? = some (.cells #[.int .i64 n, .slice (some ⟨g, 0, none⟩) N N] 24) ∧ Below W2.heap.size W2 wr ∧ Hid (D ++ spGo ss (btOf ps) s (N - s) kc = splitS ss (btOf ps))) (fun _ iv _ => N - (intOf iv).toNat)
    case atStart => exact ⟨0, 0, [], rfl, rfl, by omega, by omega, rfl, hrow0, hbo, hbx, h0s⟩
    case round =>
      clear hrow0 hbo hbx h0s q0 q1
      obtain ⟨s, kc, D, rfl, rfl, hs, hkc, hD, hrow, hbo, hbr, hg⟩ := hrel
      have hbw := bt hb12 hbr hb12.size
      by_cases hlt : s < N
      · obtain ⟨i, hi⟩ : ∃ i, s / 2 = i := ⟨_, rfl⟩
        have hil : i < ss.length := by have := hN.out; omega
        have hq : (s : Int).tdiv 2 = (i : Int) := by rw [← hi, Int.tdiv_eq_ediv_of_nonneg (by omega)]; omega
        have hqw : IntKind.i64.wrap (i : Int) = (i : Int) := IntWalk.i64_in _ (by omega)
        have hii : (i : Int) < (ss.length : Int) := by omega
        obtain ⟨u, hu, hk⟩ := hsc.out i hil
        obtain rfl := hsa (by omega)
        obtain ⟨ms, hms⟩ : ∃ ms, ss.getD i [] = ms := ⟨_, rfl⟩
        rw [hms] at hk
        have hm45 : ms.length ≤ 45 := by rw [← hms]; exact hlen.out i
        have hmd : ∀ m ∈ ms, m.length = 8 ∧ 0 ≤ m.getD 7 0 ∧ m.getD 7 0 < (ss.length : Int) := fun m hmm => by
          have hmem : ms ∈ ss := by rw [← hms, getD_eq hil]; exact List.getElem_mem hil
          exact ⟨h8.out _ hmem m hmm, hM.out _ hmem m hmm⟩
        obtain ⟨ua, uc, ub, uo, hus, hua, hmc, _⟩ := hk
        subst hus
        have hur := cell_kept hbw hu
        have q1 := cell_kept hbr p1'
        have hg2 := hg.out
        rw [show N - s = (N - (s + 1)) + 1 by omega, spGo, hi, hms] at hg2
        obtain ⟨X, hX⟩ : ∃ X, spMs (btOf ps) kc ms = X := ⟨_, rfl⟩
        rw [hX] at hg2
        have hX0 : Hid (([] : List (List Int)) ++ spMs (btOf ps) (kc + 0) (ms.drop 0) = X) := hX
        obtain ⟨wo, hwo⟩ : ∃ wo, wo = wr := ⟨_, rfl⟩
        subst hwo
        have hmcw := Lib.hid (fun W (hW : Below wo.heap.size wo W) j (hj : j < ms.length) => And.intro (hmc j hj).1 ((hmc j hj).2.keep (bt hbw hW hbw.size)))
        have hpw := Lib.hid (fun W (hW : Below wo.heap.size wo W) j (hj : j < ps.length) => cell_kept (bt hbw hW hbw.size) (hpc.out j hj))
        have hnil : OwX 84 8 EI wo wo.heap.size (.slice none 0 0) 0 [] := OwX.nil _ _
        replace hg2 := Lib.hid hg2
        replace hms := Lib.hid hms
        replace hmd := Lib.hid hmd
        replace hX := Lib.hid hX
        replace hi := Lib.hid hi
        have hsi : (s : Int) < (N : Int) := by omega
        clear hg hmc hu
        go_wp2_with fail
        go_loopw [7, 9, 34] (fun kv mv jv wr => ∃ (j : Nat) (M : List (List Int)), jv = .int .i64 j ∧ kv = .int .i64 ((kc + j : Nat) : Int) ∧ j ≤ ms.length ∧ OwX 84 8 EI wr wo.heap.size mv j M ∧ Below wo.heap.size wo wr ∧ Hid (M ++ spMs (btOf ps) (kc + j) (ms.drop j) = X)) (fun _ _ jv _ => ms.length - (intOf jv).toNat)
        case atStart => exact ⟨0, [], rfl, rfl, by omega, hnil, Below.refl _ _, hX0⟩
        case round =>
          clear hnil hX0 hur q1
          obtain ⟨j, M, rfl, rfl, hj, hmv, hbm, hgm⟩ := hrel
          obtain ⟨ma, mc, hmvs⟩ := hmv.shape
          subst hmvs
          by_cases hltj : j < ms.length
          · obtain ⟨hm8, hmc⟩ := hmcw.out wr hbm j hltj
            obtain ⟨m, hmm⟩ : ∃ m, ms.getD j [] = m := ⟨_, rfl⟩
            have hmt := hmd.out m (by rw [← hmm, getD_eq hltj]; exact List.getElem_mem hltj)
            have hgm2 := hgm.out
            rw [drop_cons hltj ([] : List Int), hmm, spMs] at hgm2
            rw [hmm] at hm8 hmc
            obtain ⟨y0, y1, y2, y3, y4, y5, y6, y7, rfl⟩ := eight hm8
            obtain ⟨c0, c1, c2, c3, c4, c5, c6, c7⟩ := hmc.all8
            have hrd : rdOf [y0, y1, y2, y3, y4, y5, y6, y7] = [y0, y1, y2, y3, y4, y5, y6] := rfl
            have hg7 : ([y0, y1, y2, y3, y4, y5, y6, y7] : List Int).getD 7 0 = y7 := rfl
            rw [hg7] at hmt
            rw [hrd, hg7] at hgm2
            obtain ⟨_, ht0, ht1⟩ := hmt
            obtain rfl := hua (by omega)
            have hji : (j : Int) < (ms.length : Int) := by omega
            obtain ⟨k, hk⟩ : ∃ k, kc + j = k := ⟨_, rfl⟩
            rw [hk] at hgm2 ⊢
            have hk9 : k ≤ 100000 := by omega
            have hw2 : IntKind.i64.wrap (2 * y7) = 2 * y7 := IntWalk.i64_in _ (by omega)
            have hkw : IntKind.i64.wrap ((k : Int) + 1) = (k : Int) + 1 := IntWalk.i64_in _ (by omega)
            obtain ⟨Wb, hWb⟩ : ∃ Wb, Wb = wr.alloc (.cells #[.int .i64 y0, .int .i64 y1, .int .i64 y2, .int .i64 y3, .int .i64 y4, .int .i64 y5, .int .i64 y6, .int .i64 y7] 84) := ⟨_, rfl⟩
            have hsWb := Lib.hid (show wr.heap.size + 1 = Wb.heap.size by rw [hWb]; simp)
            have hbb : Below wr.heap.size wr Wb := by rw [hWb]; exact (Below.refl _ _).alloc (Nat.le_refl _) _
            have hmvb := OwX.keep (EI.stab _) hmv hbb
            have hbmb := bt hbm hbb hbm.size
            replace hk := Lib.hid hk
            have hmm := Lib.hid hmm
            have hc8 : ∀ (z : Int), ∀ u ∈ (#[.int .i64 y0, .int .i64 y1, .int .i64 y2, .int .i64 y3, .int .i64 y4, .int .i64 y5, .int .i64 y6, .int .i64 z] : Array Value).toList, u.oneCell' = true := fun z u hu => by
              simp only [List.mem_cons, List.not_mem_nil, or_false] at hu
              rcases hu with rfl | rfl | rfl | rfl | rfl | rfl | rfl | rfl <;> rfl
            have hEI : ∀ (z : Int), EI Wb [.int .i64 y0, .int .i64 y1, .int .i64 y2, .int .i64 y3, .int .i64 y4, .int .i64 y5, .int .i64 y6, .int .i64 z] [y0, y1, y2, y3, y4, y5, y6, z] := fun z => rfl
            have hszb := hbmb.size
            have hj9 : j ≤ 1000000000000 := by omega
            replace hc8 := Lib.hid hc8
            replace hEI := Lib.hid hEI
            by_cases hkp : k < ps.length
            · have hkpi : (k : Int) < (ps.length : Int) := by omega
              obtain rfl := hpa (by omega)
              obtain ⟨b, hb⟩ : ∃ b, ps.getD k 0 = b := ⟨_, rfl⟩
              have hpk := hpw.out wr hbm k hkp
              rw [hb] at hpk
              have hbr2 := hpb.out b (by rw [← hb, getD_eq hkp]; exact List.getElem_mem hkp)
              have hbw1 : IntKind.i64.wrap b = b := IntWalk.i64_in _ (by omega)
              have hband := and1b hbr2.1 hbr2.2
              have hbt : btOf ps k = b % 2 := by rw [btOf, if_pos hkp, hb]
              rw [hbt] at hgm2
              have hw3 : IntKind.i64.wrap (2 * y7 + b % 2) = 2 * y7 + b % 2 := IntWalk.i64_in _ (by omega)
              have hpkb := cell_kept hbb hpk
              rw [hWb] at hpkb
              replace hgm2 := Lib.hid hgm2
              replace hb := Lib.hid hb
              clear hbt hpk hgm hmm
              go_wp2_with (at_builtin; rw [← hWb]; refine wpAppX (x := [y0, y1, y2, y3, y4, y5, y6, 2 * y7 + b % 2]) elemMv (by decide) (by decide) (EI.stab _) rfl _ _ rfl rfl hmvb rfl hsWb.out rfl (hc8.out _) (hEI.out _) hj9 hszb ?_)
              intro mv2 w2 hrow2 hgr2 hbl2 hx2
              rw [← hWb] at hbl2
              have hbf := hbmb.trans hbl2
              have hgf : Hid ((M ++ [[y0, y1, y2, y3, y4, y5, y6, 2 * y7 + b % 2]]) ++ spMs (btOf ps) (kc + (j + 1)) (ms.drop (j + 1)) = X) := by
                show _ = _
                rw [← hgm2.out, List.append_assoc, ← Nat.add_assoc, hk.out]; rfl
              clear hgm2 hmvb hmv
              go_wp2
              go_roundw
              case rel => exact ⟨j + 1, M ++ [[y0, y1, y2, y3, y4, y5, y6, 2 * y7 + b % 2]], by go_num, by rw [← Nat.add_assoc, hk.out]; go_num, hltj, hrow2, hbf, hgf⟩
              case measure => simp [intOf]; omega
            · have hkpi : ¬ ((k : Int) < (ps.length : Int)) := by omega
              have hbt : btOf ps k = 0 := by rw [btOf, if_neg hkp]
              rw [hbt, Int.add_zero] at hgm2
              replace hgm2 := Lib.hid hgm2
              clear hbt hgm hmm
              go_wp2_with (at_builtin; rw [← hWb]; refine wpAppX (x := [y0, y1, y2, y3, y4, y5, y6, 2 * y7]) elemMv (by decide) (by decide) (EI.stab _) rfl _ _ rfl rfl hmvb rfl hsWb.out rfl (hc8.out _) (hEI.out _) hj9 hszb ?_)
              intro mv2 w2 hrow2 hgr2 hbl2 hx2
              rw [← hWb] at hbl2
              have hbf := hbmb.trans hbl2
              have hgf : Hid ((M ++ [[y0, y1, y2, y3, y4, y5, y6, 2 * y7]]) ++ spMs (btOf ps) (kc + (j + 1)) (ms.drop (j + 1)) = X) := by
                show _ = _
                rw [← hgm2.out, List.append_assoc, ← Nat.add_assoc, hk.out]; rfl
              clear hgm2 hmvb hmv
              go_wp2
              go_roundw
              case rel => exact ⟨j + 1, M ++ [[y0, y1, y2, y3, y4, y5, y6, 2 * y7]], by go_num, by rw [← Nat.add_assoc, hk.out]; go_num, hltj, hrow2, hbf, hgf⟩
              case measure => simp [intOf]; omega
          · obtain rfl : j = ms.length := by omega
            have hM := hgm.out
            rw [List.drop_eq_nil_of_le (Nat.le_refl _), spMs, List.append_nil] at hM
            subst hM
            have hbo' := (hbm.block _ (Array.getElem?_eq_some_iff.1 hbo).1).trans hbo
            have hrow' := OwX.keep (ESt.stab (by decide)) hrow hbm
            have hbrm := bt hbr hbm hbr.size
            have d1 : wr.cell? ⟨bo, 1, none⟩ = some (.slice (some ⟨g, 0, none⟩) N N) := by rw [cell_of_row _ _ 1 _ _ _ hbo']; rfl
            have hfr := OwX.frozen hrow' s
            have hml := hmv.length
            obtain ⟨u0, hc0⟩ : ∃ u0, wr.cell? ⟨g, s, none⟩ = some u0 := by
              obtain ⟨cs, h1, _, h3⟩ := hrow'.cells (j := s) (x := []) (by rw [List.getElem?_append_right (by omega), hD, Nat.sub_self, List.getElem?_replicate, if_pos (by omega)])
              have h4 := h3 0 (cs[0]'(by omega)) (List.getElem?_eq_getElem _)
              rw [Nat.mul_one, Nat.add_zero] at h4
              exact ⟨_, h4⟩
            obtain ⟨r1, r2⟩ := OwX.store1 (ESt.stab (by decide)) hrow' hlt (u := .slice ma ms.length mc) rfl (x := M) ⟨_, rfl, by rw [hml]; exact hmv.base (Nat.zero_le _)⟩
            have hgb : W2.heap.size ≤ g := by
              obtain ⟨vs, h1, _⟩ := hrow'
              exact (World.ownsRow.lt h1 g rfl).1
            have hbs : Below W2.heap.size W2 (wr.setCell ⟨g, s, none⟩ (.slice ma ms.length mc)) := Below.setCell (p := ⟨g, s, none⟩) hbrm hgb _
            have hset : (D ++ List.replicate (N - s) []).set s M = (D ++ [M]) ++ List.replicate (N - (s + 1)) [] := by
              rw [List.set_append_right _ _ (by omega), hD, Nat.sub_self, show N - s = (N - (s + 1)) + 1 by omega, List.replicate_succ, List.set_cons_zero, List.append_assoc]; rfl
            rw [hset] at r1
            have hbo3 : (wr.setCell ⟨g, s, none⟩ (.slice ma ms.length mc)).heap[bo]? = some (.cells #[.int .i64 n, .slice (some ⟨g, 0, none⟩) N N] 24) := by
              obtain ⟨vs, h1, _⟩ := hrow'
              have hX := KeepX.grown r2 (ownsRow_ty h1)
              rw [hX _ _ _ hbo' (by decide)]; exact hbo'
            have hgf : Hid ((D ++ [M]) ++ spGo ss (btOf ps) (s + 1) (N - (s + 1)) (kc + ms.length) = splitS ss (btOf ps)) := by
              show _ = _
              rw [← hg2.out, List.append_assoc]; rfl
            have hD1 : (D ++ [M]).length = s + 1 := by rw [List.length_append, hD]; rfl
            clear hgm hmv hrow' hrow hbo' hset hg2
            go_wp2
            go_roundw
            case rel => exact ⟨s + 1, kc + ms.length, D ++ [M], by go_num, rfl, hlt, by omega, hD1, r1, hbo3, hbs, hgf⟩
            case measure => simp [intOf]; omega
      · obtain rfl : s = N := by omega
        have hD2 := hg.out
        rw [Nat.sub_self, spGo, List.append_nil] at hD2
        subst hD2
        rw [Nat.sub_self, List.replicate_zero, List.append_nil] at hrow
        have d0 : wr.cell? ⟨bo, 0, none⟩ = some (.int .i64 n) := by rw [cell_of_row _ _ 0 _ _ _ hbo]; rfl
        have d1 : wr.cell? ⟨bo, 1, none⟩ = some (.slice (some ⟨g, 0, none⟩) s s) := by rw [cell_of_row _ _ 1 _ _ _ hbo]; rfl
        have m3 := (hbr.block _ (Array.getElem?_eq_some_iff.1 m2).1).trans m2
        have hfr := row_free m3
        have y0 : wr.cell? ⟨w.heap.size + 1, 0, none⟩ = some (.int .i64 0) := by rw [cell_of_row _ _ 0 _ _ _ m3]; rfl
        have y1 : wr.cell? ⟨w.heap.size + 1, 1, none⟩ = some (.slice none 0 0) := by rw [cell_of_row _ _ 1 _ _ _ m3]; rfl
        have hrw1 : (wr.setCell ⟨w.heap.size + 1, 0, none⟩ (.int .i64 n)).heap[w.heap.size + 1]? = some (.cells #[.int .i64 n, .slice none 0 0] 24) := heap_setCell_same wr _ 0 _ _ _ m3
        have hrw2 := two_setCell (u := .slice (some ⟨g, 0, none⟩) s s) hrw1
        have hx2 := (KeepX.setCell (p := ⟨w.heap.size + 1, 0, none⟩) m3 (.int .i64 n)).trans (KeepX.setCell (p := ⟨w.heap.size + 1, 1, none⟩) hrw1 (.slice (some ⟨g, 0, none⟩) s s))
        have hlx : ∀ x ∈ splitS ss (btOf ps), x.length ≤ 2199023255552 := fun x hx => by
          have h1 := mem_movesN hx
          have h2 := splitS_moves ss (btOf ps)
          omega
        have hfin : OwAdv ((wr.setCell ⟨w.heap.size + 1, 0, none⟩ (.int .i64 n)).setCell ⟨w.heap.size + 1, 1, none⟩ (.slice (some ⟨g, 0, none⟩) s s)) (.agg #[.int .i64 n, .slice (some ⟨g, 0, none⟩) s s]) n (splitS ss (btOf ps)) := by
          refine OwAdv.other (w := wr) ⟨_, rfl, ?_, by omega, hlx⟩ hx2
          have := hrow.base (B' := 0) (Nat.zero_le _)
          rw [hD]; exact this
        have hbe := ((bt hb12 hbr hb12.size).setCell (p := ⟨w.heap.size + 1, 0, none⟩) (Nat.le_succ _) (.int .i64 n)).setCell (p := ⟨w.heap.size + 1, 1, none⟩) (Nat.le_succ _) (.slice (some ⟨g, 0, none⟩) s s)
        have e0 : ((wr.setCell ⟨w.heap.size + 1, 0, none⟩ (.int .i64 n)).setCell ⟨w.heap.size + 1, 1, none⟩ (.slice (some ⟨g, 0, none⟩) s s)).cell? ⟨w.heap.size + 1, 0, none⟩ = some (.int .i64 n) := by rw [cell_of_row _ _ 0 _ _ _ hrw2]; rfl
        have e1 : ((wr.setCell ⟨w.heap.size + 1, 0, none⟩ (.int .i64 n)).setCell ⟨w.heap.size + 1, 1, none⟩ (.slice (some ⟨g, 0, none⟩) s s)).cell? ⟨w.heap.size + 1, 1, none⟩ = some (.slice (some ⟨g, 0, none⟩) s s) := by rw [cell_of_row _ _ 1 _ _ _ hrw2]; rfl
        replace hfin := Lib.hid hfin
        have hge : ¬ ((s : Int) < (s : Int)) := by omega
        clear hrw1 hrw2 hx2 hrow m3 hg
        go_wp2
        obtain ⟨W8, hW8⟩ : ∃ W8, W8 = (wr.setCell ⟨w.heap.size + 1, 0, none⟩ (.int .i64 n)).setCell ⟨w.heap.size + 1, 1, none⟩ (.slice (some ⟨g, 0, none⟩) s s) := ⟨_, rfl⟩
        rw [← hW8] at e0 e1 hfin hbe ⊢
        clear hW8
        refine bodyPost_ret (v := .agg #[.int .i64 n, .slice (some ⟨g, 0, none⟩) s s]) (by simp [results, Tryz.results27, go_sem, e0, e1]) rfl ?_
        exact ⟨_, rfl, hfin.out, hbe⟩
end Go.Proofs.YtfihpofdoffclaaGreatDoor

/- The law CanonicalMerges. -/
namespace Go.Proofs.YtfihpofdoffclaaGreatDoor
open Go.RowKit

set_option maxRecDepth 100000 in
set_option maxHeartbeats 3200000 in
theorem lawMerges {w : World} {u pv : Value} {m : Int} {xs : List (List (List Int))} {ps : List Int} (hx : AdvV w u m xs) (hp : U8s w pv ps) :
    Calls Tryz.prog 6 #[u, pv] w fun e w' => e = .returned (.bool true) ∧ Below w.heap.size w w' := by
  have h8 := hx.len8
  obtain ⟨xa, xc, hu⟩ := advShape' hx
  subst hu
  obtain ⟨pa, pc, hpv⟩ : ∃ pa pc, pv = .slice pa ps.length pc := by obtain ⟨a, c, _, _, h, _⟩ := hp; exact ⟨a, c, h⟩
  subst hpv
  obtain ⟨W1, hW1⟩ : ∃ W1, W1 = w.alloc (.cells #[.int .i64 m, .slice xa xs.length xc] 24) := ⟨_, rfl⟩
  obtain ⟨hb1, p0, p1, hs1⟩ := boxAdv hW1
  replace hs1 := Lib.hid hs1
  have HX := Lib.hid (fun W (hb : Below W1.heap.size W1 W) => (hx.keep hb1).keep hb)
  have HP := Lib.hid (fun W (hb : Below W1.heap.size W1 W) => (hp.keep hb1).keep hb)
  have HF := Lib.hid (refFew (HX.out W1 (Below.refl _ _)))
  have HC := Lib.hid (fun W (hb : Below W1.heap.size W1 W) => refCheckA (HX.out W hb))
  have HK := Lib.hid (fun W (hb : Below W1.heap.size W1 W) => And.intro (cell_kept hb p0) (cell_kept hb p1))
  have hfx : Hid (fewA xs = true → xs.length ≤ 45 ∧ movesN xs ≤ 45) := fun h => by simp [fewA] at h; omega
  obtain ⟨fx, hfx1⟩ : ∃ fx, fewA xs = fx := ⟨_, rfl⟩
  rw [hfx1] at HF hfx
  replace hfx1 := Lib.hid hfx1
  have hpl : ps.length ≤ 140737488355328 := by obtain ⟨_, _, _, _, _, _, _, _, h⟩ := hp; exact h
  replace h8 := Lib.hid h8
  clear hx hp
  cases fx
  · go_enter Tryz.func6, Tryz.ntmps6
    go_wp2_with fail
    rw [← hW1]
    refine HF.out.mono ?_
    rintro e W2 ⟨rfl, hb2⟩
    go_wp2_with fail
    refine (awakeK W2 (bt hb1 hb2 hb1.size) (Nat.le_trans hb1.size hb2.size)).mono ?_
    rintro e W3 ⟨rfl, hb3⟩
    go_wp2
    go_ret
    exact ⟨rfl, hb3⟩
  · obtain ⟨x1, x2⟩ := hfx.out rfl
    by_cases h0 : chkA m xs = 0
    · rw [h0] at HC
      by_cases hk : 100 < ps.length
      · have hki : decide ((100 : Int) < (ps.length : Int)) = true := decide_eq_true (by omega)
        replace h0 := Lib.hid h0
        go_enter Tryz.func6, Tryz.ntmps6
        go_wp2_with fail
        rw [← hW1]
        refine HF.out.mono ?_
        rintro e W2 ⟨rfl, hb2⟩
        obtain ⟨a0, a1⟩ := HK.out W2 hb2
        go_wp2_with fail
        refine (HC.out W2 hb2).mono ?_
        rintro e W3 ⟨rfl, hb3⟩
        have B3 := btt hb2 hb3
        go_wp2_with fail
        refine (awakeK W3 (bt hb1 B3 hb1.size) (Nat.le_trans hb1.size B3.size)).mono ?_
        rintro e W4 ⟨rfl, hb4⟩
        go_wp2
        go_ret
        exact ⟨rfl, hb4⟩
      · have hki : decide ((100 : Int) < (ps.length : Int)) = false := decide_eq_false (by omega)
        have hmx : Tryz.prog.follows .mixedOrders = true := by kernel_rfl
        have hSp : SpA xs (btOf ps) := ⟨btOf_le ps, LeadOK.ofCls (clsOK_of h8.out h0 (by omega) (by omega)), h8.out⟩
        obtain ⟨tt, htt⟩ : ∃ tt, splitS xs (btOf ps) = tt := ⟨_, rfl⟩
        have ht0 := splitS_chk hSp h0 x1 x2
        have htc := splitS_can hSp h0 x1 x2
        have htl := splitS_len xs (btOf ps)
        have htm := splitS_moves xs (btOf ps)
        have htp := Lib.hid (fun s (hs : s < xs.length) => splitS_part hSp h0 x1 x2 hs)
        have H1 := Lib.hid (fun W (hb : Below W1.heap.size W1 W) => splitCall (HX.out W hb) hSp.2.1 x1 x2 (HP.out W hb))
        have H2 := Lib.hid (fun W (hb : Below W1.heap.size W1 W) => canonGood (HX.out W hb) (by omega) (by omega) h0)
        rw [htt] at ht0 htc htl htm htp H1
        have H3 := Lib.hid (fun W v (hv : AdvV W v m tt) => canonGood hv (by omega) (by omega) ht0)
        have H4 := Lib.hid (fun W v (hb : Below W1.heap.size W1 W) (hv : AdvV W v m tt) => equalA (HX.out W hb) hv (by omega) (by omega) (by omega) (by omega))
        have H5 := Lib.hid (fun W v (hv : AdvV W v m tt) => classesGood hv (by omega) (by omega) ht0)
        have hEr : eqErr m m xs tt = 0 := by rw [eqErr, if_neg (fun k => k h0), if_neg (fun k => k ht0), if_neg (fun k => k rfl)]
        have hRe : eqRes m m xs tt = true := by rw [eqRes, hEr, htc]; simp
        rw [hEr, hRe] at H4
        rw [htc] at H3
        obtain ⟨C, hC⟩ : ∃ C, canS xs = C := ⟨_, rfl⟩
        rw [hC] at H2 H3
        have hpt : (part tt).length = tt.length := part_len tt
        obtain ⟨PL, hPL⟩ : ∃ PL, natI (part tt) = PL := ⟨_, rfl⟩
        have hPl : PL.length = tt.length := by rw [← hPL, natI_len, hpt]
        have hPe : Hid (∀ s, s < xs.length → PL.getD (2 * s) 0 = PL.getD (2 * s + 1) 0) := fun s hs => by rw [← hPL, natI_getD, natI_getD, htp.out s hs]
        rw [hPL] at H5
        obtain ⟨T, hT⟩ : ∃ T, tt.length = T := ⟨_, rfl⟩
        rw [hT] at hPl htl H5
        replace hC := Lib.hid hC
        replace hPL := Lib.hid hPL
        replace htt := Lib.hid htt
        replace hT := Lib.hid hT
        replace h0 := Lib.hid h0
        replace htc := Lib.hid htc
        have hT9 : T ≤ 90 := by omega
        replace htl := Lib.hid htl
        clear hSp ht0 htm hpt hEr hRe
        go_enter Tryz.func6, Tryz.ntmps6
        go_wp2_with fail
        rw [← hW1]
        refine HF.out.mono ?_
        rintro e W2 ⟨rfl, hb2⟩
        obtain ⟨a0, a1⟩ := HK.out W2 hb2
        go_wp2_with fail
        refine (HC.out W2 hb2).mono ?_
        rintro e W3 ⟨rfl, hb3⟩
        have B3 := btt hb2 hb3
        clear a0 a1
        obtain ⟨a0, a1⟩ := HK.out W3 B3
        go_wp2_with fail
        refine (H1.out W3 B3).mono ?_
        rintro e W4 ⟨bv, rfl, hB, hb4⟩
        obtain ⟨ba, bc, hbs⟩ := hB.shape hT.out
        subst hbs
        have B4 := btt B3 hb4
        obtain ⟨W5, hW5⟩ : ∃ W5, W5 = W4.alloc (.cells #[.int .i64 m, .slice ba T bc] 24) := ⟨_, rfl⟩
        obtain ⟨hb5, g0, g1, _⟩ := boxAdv hW5
        have B5 := btt B4 hb5
        clear a0 a1
        obtain ⟨a0, a1⟩ := HK.out W5 B5
        rw [hW5] at a0 a1
        go_wp2_with fail
        rw [← hW5]
        replace hW5 := Lib.hid hW5
        clear a0 a1
        have KB := Lib.hid (fun X (hX1 : Below W5.heap.size W5 X) => And.intro ((hB.keep hb5).keep hX1) (And.intro (cell_kept hX1 g0) (cell_kept hX1 g1)))
        clear hB g0 g1 hb3 hb4 hb5
        refine (H2.out W5 B5).mono ?_
        rintro e W6 ⟨cx, rfl, hX, hb6⟩
        obtain ⟨ca, cc, hcs⟩ := hX.shape'
        subst hcs
        have B6 := btt B5 hb6
        obtain ⟨W7, hW7⟩ : ∃ W7, W7 = W6.alloc (.cells #[.int .i64 m, .slice ca C.length cc] 24) := ⟨_, rfl⟩
        obtain ⟨hb7, g0, g1, _⟩ := boxAdv hW7
        have b57 := btt hb6 hb7
        have B7 := btt B5 b57
        obtain ⟨hB7, k0, k1⟩ := KB.out W7 b57
        have k0' := k0
        have k1' := k1
        rw [hW7] at k0' k1'
        go_wp2_with fail
        rw [← hW7]
        replace hW7 := Lib.hid hW7
        clear k0' k1' k0 k1
        have KX := Lib.hid (fun X (hX1 : Below W7.heap.size W7 X) => And.intro ((hX.keep hb7).keep hX1) (And.intro (cell_kept hX1 g0) (cell_kept hX1 g1)))
        clear hX g0 g1 hb6 hb7
        refine (H3.out W7 _ hB7.adv).mono ?_
        rintro e W8 ⟨cy, rfl, hY, hb8⟩
        obtain ⟨da, dc, hds⟩ := hY.shape'
        subst hds
        have B8 := btt B7 hb8
        obtain ⟨W9, hW9⟩ : ∃ W9, W9 = W8.alloc (.cells #[.int .i64 m, .slice da C.length dc] 24) := ⟨_, rfl⟩
        obtain ⟨hb9, g0, g1, _⟩ := boxAdv hW9
        have b79 := btt hb8 hb9
        have b59 := btt b57 b79
        have B9 := btt B7 b79
        obtain ⟨hB9, k0, k1⟩ := KB.out W9 b59
        obtain ⟨a0, a1⟩ := HK.out W9 B9
        rw [hW9] at k0 k1 a0 a1
        go_wp2_with fail
        rw [← hW9]
        replace hW9 := Lib.hid hW9
        clear k0 k1 a0 a1
        have KY := Lib.hid (fun X (hX1 : Below W9.heap.size W9 X) => And.intro ((hY.keep hb9).keep hX1) (And.intro (cell_kept hX1 g0) (cell_kept hX1 g1)))
        clear hY g0 g1 hb8 hb9 hB7
        refine (H4.out W9 _ B9 hB9.adv).mono ?_
        rintro e W10 ⟨rfl, hb10⟩
        have B10 := btt B9 hb10
        have b510 := btt b59 hb10
        have b710 := btt b79 hb10
        obtain ⟨hB10, k0, k1⟩ := KB.out W10 b510
        go_wp2_with fail
        clear k0 k1 hB9
        refine (H5.out W10 _ hB10.adv).mono ?_
        rintro e W11 ⟨lv, rfl, hl, hb11⟩
        obtain ⟨la, lc, hls⟩ := hl.shape
        subst hls
        have B11 := btt B10 hb11
        have b511 := btt b510 hb11
        obtain ⟨hX11, x0', x1'⟩ := KX.out W11 (btt b710 hb11)
        obtain ⟨hY11, y0', y1'⟩ := KY.out W11 (btt hb10 hb11)
        go_wp2_with fail
        refine (sameRef hX11.adv hY11.adv).mono ?_
        rintro e W12 ⟨rfl, hb12⟩
        rw [show (decide (m = m) && decide (C = C)) = true by simp]
        have B12 := btt B11 hb12
        obtain ⟨_, k0, k1⟩ := KB.out W12 (btt b511 hb12)
        obtain ⟨a0, a1⟩ := HK.out W12 B12
        have hl12 := (hl.keep hb12).ints (by omega)
        have hTT : ((T : Int) == (T : Int)) = true := by simp
        clear x0' x1' y0' y1' hX11 hY11 hl hB10
        obtain ⟨_, _, lb, lo, hle, hla, hlc, _⟩ := hl12
        rw [hPl] at hle hla
        obtain ⟨rfl, rfl⟩ : la = _ ∧ lc = _ := by injection hle with h1 h2 h3; exact ⟨h1, h3⟩
        replace hlc := Lib.hid hlc
        go_wp2_with fail
        go_loopw [82] (fun iv wr => ∃ s : Nat, iv = .int .i64 s ∧ s ≤ xs.length ∧ Below W12.heap.size W12 wr) (fun iv _ => xs.length - (intOf iv).toNat)
        case atStart => exact ⟨0, rfl, by omega, Below.refl _ _⟩
        case round =>
          obtain ⟨s, rfl, hs, hr⟩ := hrel
          by_cases hlt : s < xs.length
          · obtain ⟨t, ht⟩ : ∃ t, 2 * s = t := ⟨_, rfl⟩
            have hti : (2 : Int) * (s : Int) = (t : Int) := by omega
            have htT : t + 1 < T := by have := htl.out; omega
            have e1 : IntKind.i64.wrap (t : Int) = (t : Int) := IntWalk.i64_in _ (by omega)
            obtain ⟨t2, ht2⟩ : ∃ t2, t + 1 = t2 := ⟨_, rfl⟩
            have hti2 : (t : Int) + 1 = (t2 : Int) := by omega
            have e2 : IntKind.i64.wrap (t2 : Int) = (t2 : Int) := IntWalk.i64_in _ (by omega)
            obtain rfl := hla (by omega)
            obtain ⟨q, hq⟩ : ∃ q, PL.getD t 0 = q := ⟨_, rfl⟩
            have c1 := hlc.out t (by omega)
            have c2 := hlc.out (t + 1) (by omega)
            have hpe := hPe.out s hlt
            rw [ht, ht2] at hpe
            rw [ht2] at c2
            rw [← hpe, hq] at c2
            rw [hq] at c1
            have hf := Lib.hid (fun wq (hC : Below wr.heap.size wr wq) => And.intro (cell_kept (hr.trans (hC.mono hr.size)) c1) (cell_kept (hr.trans (hC.mono hr.size)) c2))
            have hsi : (s : Int) < (xs.length : Int) := by omega
            have b1 : (t : Int) < (T : Int) := by omega
            have b2 : (t2 : Int) < (T : Int) := by omega
            have hqq : (q == q) = true := by simp
            replace hq := Lib.hid hq
            replace hpe := Lib.hid hpe
            replace ht := Lib.hid ht
            replace ht2 := Lib.hid ht2
            clear c1 c2
            go_wp2_with fail
            refine wp_region_bw hmx (by kernel_rfl) ?_
            repeat (refine WQ.step (fun K hK => ?_)
                    go_simp
                    first
                      | (refine hK _ ?_; clear hK K)
                      | (apply Exists.intro
                         refine ⟨fun wq hC => ?_, hK _ ?_⟩
                         · (first | with_reducible rfl | (obtain ⟨f0, f1⟩ := hf.out wq hC; go_simp; first | done | with_reducible rfl | with_reducible exact ⟨rfl, rfl⟩))
                         clear hK K))
            refine WQ.nil ?_
            intro w4 hb4
            go_wp2_with fail
            go_roundw
            case rel => exact ⟨s + 1, by go_num, hlt, hr.trans (hb4.mono hr.size)⟩
            case measure => simp [intOf]; omega
          · have hge : ¬ ((s : Int) < (xs.length : Int)) := by omega
            have B13 := btt B12 hr
            go_wp2_with fail
            refine (awakeK wr (bt hb1 B13 hb1.size) (Nat.le_trans hb1.size B13.size)).mono ?_
            rintro e W6 ⟨rfl, hb6⟩
            go_wp2
            go_ret
            exact ⟨rfl, hb6⟩
    · obtain ⟨E, hE⟩ : ∃ E, chkA m xs = E := ⟨_, rfl⟩
      rw [hE] at HC
      rw [hE] at h0
      have h1 : (E == 0) = false := by simp [h0]
      replace hE := Lib.hid hE
      go_enter Tryz.func6, Tryz.ntmps6
      go_wp2_with fail
      rw [← hW1]
      refine HF.out.mono ?_
      rintro e W2 ⟨rfl, hb2⟩
      obtain ⟨a0, a1⟩ := HK.out W2 hb2
      go_wp2_with fail
      refine (HC.out W2 hb2).mono ?_
      rintro e W3 ⟨rfl, hb3⟩
      have B3 := btt hb2 hb3
      go_wp2_with fail
      refine (awakeK W3 (bt hb1 B3 hb1.size) (Nat.le_trans hb1.size B3.size)).mono ?_
      rintro e W4 ⟨rfl, hb4⟩
      go_wp2
      go_ret
      exact ⟨rfl, hb4⟩
end Go.Proofs.YtfihpofdoffclaaGreatDoor

/- Readers of arguments: bytes, and lists of words. -/
namespace Go.Proofs.YtfihpofdoffclaaGreatDoor
open Go.RowKit Go.ChangeShapes Go.WideShapes Go.ChangeAt Go.Deep Go.WideElems

section
variable {H : Type} {enc : TypeId × Value → H} {w : World} {base : Nat} {spare : Nat → Bool} {held : Bool}

theorem u8_wf {n : Int} (h : (Lit.int .u8 n).wf = true) : 0 ≤ n ∧ n ≤ 255 := by
  simp [Lit.wf] at h
  have h1 : IntKind.u8.min = 0 := rfl
  have h2 : IntKind.u8.max = 255 := rfl
  omega
/-- Lists of elements of k cells, of any length. -/
def KSN (k : Nat) (w : World) (v : Value) (xs : List (List Int)) : Prop := ∃ a c b off, v = .slice a xs.length c ∧ (0 < xs.length → a = some ⟨b, off, none⟩) ∧ CK k w b off xs ∧ xs.length ≤ 140737488355328
theorem KSN.keep {k : Nat} {w w' : World} {v : Value} {xs : List (List Int)} (h : KSN k w v xs) (hb : Below w.heap.size w w') : KSN k w' v xs := by
  obtain ⟨a, c, b, off, h1, h2, h3, h4⟩ := h; exact ⟨a, c, b, off, h1, h2, h3.keep hb, h4⟩
theorem KSN.ks {k : Nat} {w : World} {v : Value} {xs : List (List Int)} (h : KSN k w v xs) (hl : xs.length ≤ 2199023255552) : KS k w v xs := by
  obtain ⟨a, c, b, off, h1, h2, h3, _⟩ := h; exact ⟨a, c, b, off, h1, h2, h3, hl⟩
theorem KSN.shape {k : Nat} {w : World} {v : Value} {xs : List (List Int)} (h : KSN k w v xs) : ∃ a c, v = .slice a xs.length c := by
  obtain ⟨a, c, _, _, h1, _⟩ := h; exact ⟨a, c, h1⟩
def KSSN (k : Nat) (w : World) (v : Value) (xs : List (List (List Int))) : Prop :=
  ∃ a c b off, v = .slice a xs.length c ∧ (0 < xs.length → a = some ⟨b, off, none⟩) ∧ (∀ j, j < xs.length → ∃ u, w.cell? ⟨b, off + j, none⟩ = some u ∧ KSN k w u (xs.getD j [])) ∧ xs.length ≤ 5864062014805
theorem KSSN.keep {k : Nat} {w w' : World} {v : Value} {xs : List (List (List Int))} (h : KSSN k w v xs) (hb : Below w.heap.size w w') : KSSN k w' v xs := by
  obtain ⟨a, c, b, off, h1, h2, h3, h4⟩ := h
  exact ⟨a, c, b, off, h1, h2, fun j hj => let ⟨u, g1, g2⟩ := h3 j hj; ⟨u, cell_kept hb g1, g2.keep hb⟩, h4⟩
theorem KSSN.kss {k : Nat} {w : World} {v : Value} {xs : List (List (List Int))} (h : KSSN k w v xs) (hl : ∀ x ∈ xs, x.length ≤ 2199023255552) : KSS k w v xs := by
  obtain ⟨a, c, b, off, h1, h2, h3, h4⟩ := h
  exact ⟨a, c, b, off, h1, h2, fun j hj => let ⟨u, g1, g2⟩ := h3 j hj; ⟨u, g1, g2.ks (hl _ (by rw [getD_eq hj]; exact List.getElem_mem hj))⟩, h4⟩
theorem KSSN.shape {k : Nat} {w : World} {v : Value} {xs : List (List (List Int))} (h : KSSN k w v xs) : ∃ a c, v = .slice a xs.length c := by
  obtain ⟨a, c, _, _, h1, _⟩ := h; exact ⟨a, c, h1⟩
theorem u8s_of_trod {v : Value} {d : DataW H} {ps : List MemPlace} {fuel : Nat} (h : DataW.trod enc Tryz.prog w 0 (fun _ => true) true fuel 52 [v] = some (d, ps)) (hw : ∀ n ∈ d.weights Tryz.prog 52, n ≤ reachBytes) : ∃ xs, U8s w v xs := by
  have ht : Tryz.prog.underlying 52 = some (.slice 5) := Tryz.underlying52
  have he : Tryz.prog.underlying 5 = some (.int .u8) := Tryz.underlying5
  have hc : Tryz.prog.cellsOf 5 = 1 := by kernel_rfl
  have hby : Tryz.prog.bytesOf 5 = 1 := by kernel_rfl
  rcases open_slice1 ht hc h with ⟨h1, h2⟩ | ⟨a, len, cap, m, n, V, D, Pl, h1, _, hl, hm, hmm, h2, hx⟩
  · obtain rfl : v = .slice none 0 0 := by simpa using h1
    exact ⟨[], none, 0, 0, 0, rfl, by simp, by intro j hj; simp at hj, by simp, by simp⟩
  · obtain rfl : v = .slice (some a) len cap := by simpa using h1
    simp only [if_true] at hmm
    subst hmm
    obtain ⟨rfl, _⟩ := Prod.mk.injEq .. ▸ h2
    have hsz := hw ((len + (m - len)) * 1) (by simp [DataW.weights, ht, hby])
    unfold reachBytes at hsz
    obtain ⟨X, hX⟩ := choose_lt (α := Int) (n := len) (p := fun i k => (0 ≤ k ∧ k ≤ 255) ∧ w.cell? (a.add i) = some (.int .u8 k)) (fun i hi => by
      obtain ⟨g1, g2⟩ := hx i (by omega)
      obtain ⟨k, hk, _, hwf⟩ := DataW.trod_int he g2
      obtain hk : V i = .int .u8 k := by simpa using hk
      exact ⟨k, u8_wf hwf, by rw [g1, hk]⟩)
    refine ⟨(List.range len).map X, some a, m, a.block, a.off, by simp, fun h0 => ?_, fun j hj => ?_, fun x hx => ?_, by simp; omega⟩
    · have hk := (hX 0 (by simpa using h0)).2
      rw [show a.add 0 = a by simp [Addr.add]] at hk
      rw [← addr_spot hk]
    · have hj' : j < len := by simpa using hj
      have hk0 := (hX 0 (by omega)).2
      rw [show a.add 0 = a by simp [Addr.add]] at hk0
      have hk := (hX j hj').2
      have e : a.add j = ⟨a.block, a.off + j, none⟩ := by
        rw [addr_spot hk0]
        exact add_plain _ _ _
      rw [← e, hk]
      simp [hj']
    · obtain ⟨i, hi, rfl⟩ := List.mem_map.1 hx
      exact (hX i (List.mem_range.1 hi)).1
set_option maxRecDepth 10000 in
theorem roundInts {fuel : Nat} {cs : List Value} {x : DataW H × List MemPlace} (h : DataW.trod enc Tryz.prog w base spare held fuel 79 cs = some x) : ∃ xs : List Int, xs.length = 7 ∧ cs = xs.map (Value.int .i64) := by
  have k79 : Tryz.prog.cellsOf 79 = 7 := by kernel_rfl
  have k77 : Tryz.prog.cellsOf 77 = 6 := by kernel_rfl
  have k75 : Tryz.prog.cellsOf 75 = 5 := by kernel_rfl
  have k3 : Tryz.prog.cellsOf 3 = 1 := by kernel_rfl
  obtain ⟨z0, z1, n2, _, hl, g0, g1⟩ := trod_struct2 Tryz.underlying79 h
  rw [k79] at hl
  obtain ⟨c0, c1, c2, c3, c4, c5, c6, rfl⟩ : ∃ a b c d e f g, cs = [a, b, c, d, e, f, g] := by
    match cs, hl with
    | [a, b, c, d, e, f, g], _ => exact ⟨a, b, c, d, e, f, g, rfl⟩
  simp only [k77, k3, List.drop_zero, List.take_succ_cons, List.take_zero, List.drop_succ_cons] at g0 g1
  obtain ⟨i6, e6, _⟩ := DataW.trod_int Tryz.underlying3 g1
  obtain ⟨q0, q1, n3, _, _, f0, f1⟩ := trod_struct2 Tryz.underlying77 g0
  simp only [k75, k3, List.drop_zero, List.take_succ_cons, List.take_zero, List.drop_succ_cons] at f0 f1
  obtain ⟨i0, e0, _⟩ := DataW.trod_int Tryz.underlying3 f0
  obtain ⟨xs, m, _, _, _, hxl, hx⟩ := DataW.trod_array Tryz.underlying75 f1
  have hj : ∀ (i : Nat) (c : Value), i < 5 → (([c1, c2, c3, c4, c5] : List Value).drop i).take 1 = [c] → ∃ k, c = .int .i64 k := fun i c hi hc => by
    have := hx i hi
    rw [k3, Nat.mul_one, hc, List.getElem?_eq_getElem (by omega)] at this
    obtain ⟨k, e, _⟩ := DataW.trod_int Tryz.underlying3 this
    exact ⟨k, by simpa using e⟩
  obtain ⟨i1, rfl⟩ := hj 0 c1 (by omega) rfl
  obtain ⟨i2, rfl⟩ := hj 1 c2 (by omega) rfl
  obtain ⟨i3, rfl⟩ := hj 2 c3 (by omega) rfl
  obtain ⟨i4, rfl⟩ := hj 3 c4 (by omega) rfl
  obtain ⟨i5, rfl⟩ := hj 4 c5 (by omega) rfl
  obtain rfl : c0 = .int .i64 i0 := by simpa using e0
  obtain rfl : c6 = .int .i64 i6 := by simpa using e6
  exact ⟨[i0, i1, i2, i3, i4, i5, i6], rfl, rfl⟩
theorem ks7_of_trod {v : Value} {d : DataW H} {ps : List MemPlace} {fuel : Nat} (h : DataW.trod enc Tryz.prog w 0 (fun _ => true) true fuel 45 [v] = some (d, ps)) (hw : ∀ n ∈ d.weights Tryz.prog 45, n ≤ reachBytes) : ∃ xs, KSN 7 w v xs := by
  have k79 : Tryz.prog.cellsOf 79 = 7 := by kernel_rfl
  have b79 : Tryz.prog.bytesOf 79 = 56 := by kernel_rfl
  rcases open_slice Tryz.underlying45 h with ⟨h1, _⟩ | ⟨a, len, cap, m, n, D, Pl, h1, _, hl, hm, hmm, h2, hx⟩
  · obtain rfl : v = .slice none 0 0 := by simpa using h1
    exact ⟨[], none, 0, 0, 0, rfl, by simp, by intro j hj; simp at hj, by simp⟩
  · obtain rfl : v = .slice (some a) len cap := by simpa using h1
    simp only [if_true] at hmm
    subst hmm
    obtain ⟨rfl, _⟩ := Prod.mk.injEq .. ▸ h2
    have hsz := hw ((len + (m - len)) * 56) (by simp [DataW.weights, Tryz.underlying45, b79])
    unfold reachBytes at hsz
    rw [k79] at hx
    obtain ⟨X, hX⟩ := choose_lt (α := List Int) (n := len) (p := fun i xs => xs.length = 7 ∧ ∀ j, j < 7 → w.cell? (a.add (i * 7 + j)) = some (.int .i64 (xs.getD j 0))) (fun i hi => by
      obtain ⟨cs', g1, g2⟩ := hx i (by omega)
      obtain ⟨xs, hx7, rfl⟩ := roundInts g2
      obtain ⟨_, _, hcell⟩ := World.cells?_some g1
      refine ⟨xs, hx7, fun j hj => ?_⟩
      have := hcell j (by omega)
      rw [add_add] at this
      rw [this, List.getElem?_map, List.getElem?_eq_getElem (by omega), getD_eq (by omega)]; rfl)
    have hlen : len ≤ 140737488355328 := by omega
    have hall : ∀ j, j < len → ((List.range len).map X).getD j [] = X j := fun j hj => by simp [hj]
    refine ⟨(List.range len).map X, some a, m, a.block, a.off, by simp, fun h0 => ?_, fun j hj => ?_, by simpa using hlen⟩
    · have hk := (hX 0 (by simpa using h0)).2 0 (by omega)
      rw [show a.add (0 * 7 + 0) = a by simp [Addr.add]] at hk
      rw [← addr_spot hk]
    · have hj' : j < len := by simpa using hj
      rw [hall j hj']
      have hk0 := (hX 0 (by omega)).2 0 (by omega)
      rw [show a.add (0 * 7 + 0) = a by simp [Addr.add]] at hk0
      refine ⟨(hX j hj').1, fun i hi => ?_⟩
      have h3 := (hX j hj').2 i (by have := (hX j hj').1; omega)
      have e : a.add (j * 7 + i) = ⟨a.block, a.off + j * 7 + i, none⟩ := by
        rw [addr_spot hk0, Nat.add_assoc]
        exact add_plain _ _ _
      rw [← e]; exact h3
theorem kss7_of_trod {v : Value} {d : DataW H} {ps : List MemPlace} {fuel : Nat} (h : DataW.trod enc Tryz.prog w 0 (fun _ => true) true fuel 56 [v] = some (d, ps)) (hw : ∀ n ∈ d.weights Tryz.prog 56, n ≤ reachBytes) : ∃ xs, KSSN 7 w v xs := by
  have k45 : Tryz.prog.cellsOf 45 = 1 := by kernel_rfl
  have b45 : Tryz.prog.bytesOf 45 = 24 := by kernel_rfl
  rcases open_slice1 Tryz.underlying56 k45 h with ⟨h2, _⟩ | ⟨a, len, cap, m, n, V, D, Pl, h2, _, hl, hm, hmm, h3, hx⟩
  · obtain rfl : v = .slice none 0 0 := by simpa using h2
    exact ⟨[], none, 0, 0, 0, rfl, by simp, by intro j hj; simp at hj, by simp⟩
  · obtain rfl : v = .slice (some a) len cap := by simpa using h2
    simp only [if_true] at hmm
    subst hmm
    obtain ⟨rfl, _⟩ := Prod.mk.injEq .. ▸ h3
    have hsz := hw ((len + (m - len)) * 24) (by simp [DataW.weights, Tryz.underlying56, b45])
    unfold reachBytes at hsz
    obtain ⟨X, hX⟩ := choose_lt (α := List (List Int)) (n := len) (p := fun i xs => KSN 7 w (V i) xs) (fun i hi => by
      obtain ⟨g1, g2⟩ := hx i (by omega)
      refine ks7_of_trod g2 fun n hn => hw n ?_
      simp only [DataW.weights, Tryz.underlying56, List.mem_cons, List.mem_append]
      right; left
      exact weightsAll_mem (List.mem_map_of_mem (List.mem_range.2 hi)) n hn)
    have hlen : len ≤ 5864062014805 := by omega
    refine ⟨(List.range len).map X, some a, m, a.block, a.off, by simp, fun h0 => ?_, fun j hj => ?_, by simpa using hlen⟩
    · have hk := (hx 0 (by have : 0 < len := by simpa using h0
                           omega)).1
      rw [show a.add 0 = a by simp [Addr.add]] at hk
      rw [← addr_spot hk]
    · have hj' : j < len := by simpa using hj
      have hk0 := (hx 0 (by omega)).1
      rw [show a.add 0 = a by simp [Addr.add]] at hk0
      have e1 : a.add j = ⟨a.block, a.off + j, none⟩ := by
        rw [addr_spot hk0]
        exact add_plain _ _ _
      refine ⟨V j, by rw [← e1]; exact (hx j (by omega)).1, ?_⟩
      have : ((List.range len).map X).getD j [] = X j := by simp [hj']
      rw [this]
      exact hX j hj'
end
end Go.Proofs.YtfihpofdoffclaaGreatDoor

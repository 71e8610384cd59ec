/- The walk of the reference's Closure. -/
import Derived.Test.YtpjlaaldepfnkaaDoorPa
import Derived.Deep.LoopGhost
namespace Go.Proofs.YtpjlaaldepfnkaaDoor
open Go.RowKit

theorem OII.open' {w : World} {B : Nat} {v : Value} {n : Nat} {xss : List (List Int)} (h : OII w B v n xss) :
    ∃ a c b, v = .slice a n c ∧ (0 < n → a = some ⟨b, 0, none⟩) ∧ ∀ j, j < n → ∃ u, w.cell? ⟨b, j, none⟩ = some u ∧ OI w 0 u (xss.getD j []).length (xss.getD j []) := by
  obtain ⟨vs, h1, h2, _, h3⟩ := h
  have hvl : vs.length = n := by have := h1.1; omega
  rcases h1.2 with ⟨rfl, rfl⟩ | ⟨g, cap, cur, rfl, _, h4, h5, h6, h7, h8⟩
  · exact ⟨none, 0, 0, rfl, by simp, by simp⟩
  · refine ⟨_, cap, g, rfl, fun _ => rfl, fun j hj => ⟨vs.getD j undef, ?_, h3 j hj⟩⟩
    rw [cell_of_row w g j cur 22 (0, 0) h4]
    have : (cur.toList.take (n * 1))[j]? = some (vs.getD j undef) := by rw [h8]; simp [show j < vs.length by omega]
    rw [List.getElem?_take, if_pos (by omega)] at this
    simpa using this

theorem clIn_step {y : List Int} {l g : List (List Int)} {k : Nat} (h : k < l.length) {a : List Int} (ha : l.getD k [] = a) :
    clIn y (l.drop k) g = clIn y (l.drop (k + 1)) (if timesL a y ∈ g then g else g ++ [timesL a y]) := by
  rw [drop_cons h [], clIn, ha]
theorem clIn_end {y : List Int} {l g : List (List Int)} {k : Nat} (h : ¬ k < l.length) : clIn y (l.drop k) g = g := by
  rw [List.drop_eq_nil_of_le (by omega), clIn]
theorem IsP.len5 {n : Nat} (hn : n ≤ 5) {g : List (List Int)} (h : InvG n g) : ∀ x ∈ g, x.length ≤ 17592186044416 := fun x hx => by have := (h.2 x hx).1; omega

theorem below_of_drew {w w' : World} (h : Below w.drew.heap.size w.drew w') : Below w.heap.size w w' := ((Below.refl _ w).drew).trans h
theorem filt_snoc {all G : List (List Int)} {k : Nat} (h : k < all.length) {x : List Int} (hx : all.getD k [] = x) :
    (all.take (k + 1)).filter (fun x => decide (x ∈ G)) = (all.take k).filter (fun x => decide (x ∈ G)) ++ if x ∈ G then [x] else [] := by
  rw [take_snoc h [], hx, List.filter_append]
  congr 1
  by_cases hm : x ∈ G <;> simp [hm]
theorem filt_le (all G : List (List Int)) (k : Nat) : ((all.take k).filter (fun x => decide (x ∈ G))).length ≤ all.length :=
  Nat.le_trans (List.length_filter_le _ _) (by rw [List.length_take]; omega)
theorem everyL_le (n : Nat) (hn : n ≤ 5) : (everyL n).length ≤ 3125 := furF_small n n hn hn []

set_option maxRecDepth 100000 in
set_option maxHeartbeats 3200000 in
theorem refClosure {w : World} {v : Value} {l : List (List Int)} (n : Nat) (hn : n ≤ 5) (h : Intss w v l) (hl : ∀ a ∈ l, IsP n a) {G : List (List Int)} (hG : clGo l 3126 0 [oneL n] = some G) (hGi : InvG n G) :
    Calls Tryd.prog 60 #[.int .i64 n, v] w fun e w' => ∃ r, e = .returned r ∧ OII w' w.heap.size r ((everyL n).filter (fun x => decide (x ∈ G))).length ((everyL n).filter (fun x => decide (x ∈ G))) ∧ Below w.heap.size w w' := by
  have h0 := h
  obtain ⟨la, lc, lb, lo, rfl, ha, hc, hll⟩ := h
  replace hG := Lib.hid hG
  go_enter Tryd.func60, Tryd.ntmps60
  go_wp2_with (go_at_call 36; refine (refOne n _ (by omega)).mono ?_; rintro e w1 ⟨r, rfl, ho, hb⟩; have hO := OII.one (by rw [oneL_length]; exact ho); have hbO := hb.alloc hb.size (.cells #[r] 22); obtain ⟨a1, c1, rfl⟩ := ho.shape)
  obtain ⟨w2, hw2⟩ : ∃ w2, w2 = w1.alloc (.cells #[.slice a1 n c1] 22) := ⟨_, rfl⟩
  obtain ⟨g0, hg0⟩ : ∃ g0, g0 = w1.heap.size := ⟨_, rfl⟩
  have hg1 : w.heap.size ≤ g0 := by have := hb.size; omega
  rw [← hw2, ← hg0] at hO ⊢
  rw [← hw2] at hbO
  clear hw2 hg0 ho hb
  go_loopg [5, 6] 3126 (fun f gv iv wr => ∃ (i : Nat) (g : List (List Int)), iv = .int .i64 i ∧ i ≤ g.length ∧ OII wr w.heap.size gv g.length g ∧ InvG n g ∧ Hid (clGo l f i g = some G) ∧ Below w.heap.size w wr)
  case atStart => exact ⟨0, [oneL n], rfl, by simp, hO.base hg1, ⟨by simp, fun y hy => by rw [List.mem_singleton.1 hy]; exact IsP.one n⟩, hG.out, hbO⟩
  case round =>
    clear hO hbO hG hg1
    obtain ⟨i, g, rfl, hi, ho, hI, hg, hb⟩ := hrel
    obtain ⟨f, rfl⟩ : ∃ f, gk = f + 1 := by
      cases gk with
      | zero => have := hg.out; simp [clGo] at this
      | succ f => exact ⟨f, rfl⟩
    have hgl := hI.le hn
    obtain ⟨ga, gc, gb, rfl, hga, hgc⟩ := ho.open'
    by_cases hlt : i < g.length
    · have hg' := hg.out
      rw [clGo, if_pos hlt] at hg'
      replace hg' := Lib.hid hg'
      obtain ⟨y, hy⟩ : ∃ y, g.getD i [] = y := ⟨_, rfl⟩
      have hyP : IsP n y := by rw [← hy, getD_eq hlt]; exact hI.2 _ (List.getElem_mem hlt)
      rw [hy] at hg'
      replace hy := Lib.hid hy
      clear hg hga hgc
      go_wp2
      obtain ⟨wo, hwo⟩ : ∃ wo, wo = wr := ⟨_, rfl⟩
      rw [← hwo] at ho hb ⊢
      clear hwo
      go_loopw [5, 7] (fun gv kv wr => ∃ (k : Nat) (g' : List (List Int)), k ≤ l.length ∧ kv = .int .i64 k ∧ i < g'.length ∧ Hid (g'.getD i [] = y) ∧ OII wr w.heap.size gv g'.length g' ∧ InvG n g' ∧ Hid (clIn y (l.drop k) g' = clIn y l g) ∧ Below w.heap.size w wr) (fun _ kv _ => l.length - (intOf kv).toNat)
      case atStart => exact ⟨0, g, by omega, rfl, hlt, hy, ho, hI, rfl, hb⟩
      case round =>
        clear ho hb hy hI hgl hlt hi
        obtain ⟨k, g', hk, rfl, hi, hy, ho, hI, hin, hb⟩ := hrel
        have hgl := hI.le hn
        by_cases hlt : k < l.length
        · obtain rfl := ha (by omega)
          obtain ⟨u, hcu, hu⟩ := hc.keep hb k hlt
          obtain ⟨ga, gc, gb, rfl, hga, hgc⟩ := ho.open'
          obtain rfl := hga (by omega)
          obtain ⟨u2, hcu2, hu2⟩ := hgc i hi
          rw [hy.out] at hu2
          obtain ⟨a, hka⟩ : ∃ a, l.getD k [] = a := ⟨_, rfl⟩
          have haP : IsP n a := by rw [← hka, getD_eq hlt]; exact hl _ (List.getElem_mem hlt)
          rw [hka] at hu
          have hst := Lib.hid (clIn_step (y := y) (g := g') hlt hka)
          clear hka hga hgc
          have HT := fun (W : World) (hW : Qt wr W) => refTimes (w := W) (hu.qt hW) ((hu2.ints (by have := hyP.1; omega)).qt hW) (by rw [haP.1]; exact hyP.good) (by have := hyP.1; omega)
          replace HT := Lib.hid HT
          by_cases hm : timesL a y ∈ g'
          · rw [if_pos hm] at hst
            have hmb := Lib.hid (show amongB g' (timesL a y) = true by simp [amongB, hm])
            clear hm
            go_wp2
            go_still_tail 8, (by kernel_rfl)
            go_wp2_with (first | (go_at_call 52; refine (HT.out _ (Qt.mk1 _)).mono ?_; rintro e w3 ⟨x, rfl, hx, hb3⟩; replace hb3 := below_of_drew hb3; have HA := Lib.hid (refAmong ((ho.keep hb3).intss (by omega) (IsP.len5 hn hI)) (hx.ints (by have := hyP.1; omega))); rw [hmb.out] at HA; obtain ⟨xa, xc, rfl⟩ := hx.shape) | (go_at_call 35; refine HA.out.mono ?_; rintro e w4 ⟨rfl, hq4⟩))
            go_roundw
            case rel => exact ⟨k + 1, g', by omega, by go_num, hi, hy, (ho.keep hb3).keep hq4.below, hI, by show _ = _; rw [← hin.out, hst.out], (bt hb hb3 hb.size).trans (hq4.belowB _)⟩
            case measure => simp [intOf]; omega
          · rw [if_neg hm] at hst
            have hmb := Lib.hid (show amongB g' (timesL a y) = false by simp [amongB, hm])
            have hI2 := hI.step haP hyP
            rw [if_neg hm] at hI2
            clear hm
            go_wp2
            go_still_tail 8, (by kernel_rfl)
            go_wp2_with (first | (go_at_call 52; refine (HT.out _ (Qt.mk1 _)).mono ?_; rintro e w3 ⟨x, rfl, hx, hb3⟩; replace hb3 := below_of_drew hb3; have ho3 := ho.keep hb3; have hbw := bt hb hb3 hb.size; have HA := Lib.hid (refAmong (ho3.intss (by omega) (IsP.len5 hn hI)) (hx.ints (by have := hyP.1; omega))); rw [hmb.out] at HA; obtain ⟨xa, xc, rfl⟩ := hx.shape) | (go_at_call 35; refine HA.out.mono ?_; rintro e w4 ⟨rfl, hq4⟩; have ho4 := ho3.keep hq4.below; have hx4 := (hx.keep hq4.below).own; have hbw4 := hbw.trans (hq4.belowB w.heap.size); have hs4 := hbw4.size; clear ho3 hx hbw HA) | (at_builtin; refine wpApp1S rfl _ _ rfl rfl ho4 rfl hx4 rfl (by omega) hs4 ?_; intro v5 w5 ho5 hb5 _; have hbw5 := hbw4.trans hb5))
            go_roundw
            case rel => exact ⟨k + 1, g' ++ [timesL a y], by omega, by go_num, by simp; omega, by show _ = _; rw [getD_append_left' hi]; exact hy.out, by rw [List.length_append]; exact ho5, hI2, by show _ = _; rw [← hin.out, hst.out], hbw5⟩
            case measure => simp [intOf]; omega
        · have he := Lib.hid (clIn_end (y := y) (g := g') hlt)
          have hlen := clIn_le y l g
          obtain rfl : k = l.length := by omega
          clear ha hc
          go_wp2
          go_roundg f
          case measure => omega
          case rel =>
            have e1 := hin.out
            rw [he.out] at e1
            exact ⟨i + 1, g', by go_num, by omega, ho, hI, by show _ = _; rw [e1]; exact hg'.out, hb⟩
    · have hg' := hg.out
      rw [clGo, if_neg hlt] at hg'
      obtain rfl : g = G := Option.some.inj hg'
      clear hg hg' ha hc hga hgc
      go_wp2_with (go_at_call 63; refine (every n hn _).mono ?_; rintro e w3 ⟨al, rfl, hal, hb3⟩)
      have hbw := bt hb hb3 hb.size
      replace ho := ho.keep hb3
      clear hb hb3
      have hGl := hGi.le hn
      have hal5 := everyL_le n hn
      have hfl := filt_le (everyL n) g
      generalize hE : everyL n = A at *
      have hA : ∀ x ∈ A, IsP n x := fun x hx => mem_everyL.1 (hE ▸ hx)
      replace hE := Lib.hid hE
      have hal0 := hal
      obtain ⟨aa, ac, ab, rfl, haa, hac⟩ := hal.open'
      clear hal hlt hgl hi hI
      obtain ⟨w4, hw4⟩ : ∃ w4, w4 = w3 := ⟨_, rfl⟩
      rw [← hw4] at ho hbw hal0 hac ⊢
      clear hw4
      go_loopw [9, 11] (fun ov iv wr => ∃ k : Nat, k ≤ A.length ∧ iv = .int .i64 k ∧ OII wr w4.heap.size ov ((A.take k).filter (fun x => decide (x ∈ g))).length ((A.take k).filter (fun x => decide (x ∈ g))) ∧ Below w4.heap.size w4 wr) (fun _ iv _ => A.length - (intOf iv).toNat)
      case atStart => exact ⟨0, by omega, rfl, OII.nil _ _, Below.refl _ _⟩
      case round =>
        obtain ⟨k, hk, rfl, hv, hb⟩ := hrel
        by_cases hlt : k < A.length
        · obtain rfl := haa (by omega)
          obtain ⟨u, hcu, hu⟩ := hac k hlt
          replace hcu := cell_kept hb hcu
          replace hu := hu.keep hb
          obtain ⟨x, hx⟩ : ∃ x, A.getD k [] = x := ⟨_, rfl⟩
          have hxP : IsP n x := by rw [← hx, getD_eq hlt]; exact hA _ (List.getElem_mem hlt)
          rw [hx] at hu
          have hfs := Lib.hid (filt_snoc (G := g) hlt hx)
          have hle := hfl k
          have HA := Lib.hid (refAmong ((ho.keep hb).intss (by omega) (IsP.len5 hn hGi)) (hu.ints (by have := hxP.1; omega)))
          obtain ⟨ua, uc, rfl⟩ := hu.shape
          clear hx haa hac hA hfl
          by_cases hm : x ∈ g
          · rw [if_pos hm] at hfs
            rw [show amongB g x = true by simp [amongB, hm]] at HA
            clear hm
            go_wp2_with (first | (go_at_call 35; refine HA.out.mono ?_; rintro e w5 ⟨rfl, hq5⟩; have hv5 := hv.keep hq5.below; have hu5 := hu.keep hq5.below; have hcu5 := cell_kept hq5.below hcu; have hb5 := hb.trans (hq5.belowB w4.heap.size); have hs5 := hb5.size) | (at_builtin; refine wpApp1S rfl _ _ rfl rfl hv5 rfl hu5 rfl (by omega) hs5 ?_; intro v6 w6 hv6 hb6 _; have hb7 := hb5.trans hb6))
            go_roundw
            case rel => exact ⟨k + 1, by omega, by go_num, by rw [hfs.out, List.length_append]; exact hv6, hb7⟩
            case measure => simp [intOf]; omega
          · rw [if_neg hm, List.append_nil] at hfs
            rw [show amongB g x = false by simp [amongB, hm]] at HA
            clear hm
            go_wp2_with (first | (go_at_call 35; refine HA.out.mono ?_; rintro e w5 ⟨rfl, hq5⟩))
            go_roundw
            case rel => exact ⟨k + 1, by omega, by go_num, by rw [hfs.out]; exact hv.keep hq5.below, hb.trans (hq5.belowB _)⟩
            case measure => simp [intOf]; omega
        · obtain rfl : k = A.length := by omega
          clear haa hac hA hfl
          rw [List.take_length, ← hE.out] at hv
          go_wp2
          go_ret
          exact ⟨_, rfl, hv.base hbw.size, bt hbw hb hbw.size⟩
end Go.Proofs.YtpjlaaldepfnkaaDoor

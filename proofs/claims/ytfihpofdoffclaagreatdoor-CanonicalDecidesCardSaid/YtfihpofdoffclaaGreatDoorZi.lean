/- Texts of this claim, put together: D2a E3. -/
import Derived.Test.YtfihpofdoffclaaGreatDoorZh
import Derived.RangeFuncBox

/- The walk of the search, with one pair of functions. -/
namespace Go.Proofs.YtfihpofdoffclaaGreatDoor
open Go.RowKit Go.ChangeMaps Go.MapKept

set_option maxRecDepth 100000 in
set_option maxHeartbeats 6400000 in
theorem searchA {w : World} {v : Value} {ss : List (List (List Int))} {D0 : Nat → Prop} {kf : Nat → Nat} {J : List (Nat × List Int) → (Nat → Prop) → World → Prop} {bl bn : Nat}
    {wA : World} (hK : KSS 8 wA v ss) (hbA : Below wA.heap.size wA w) (hDA : ∀ k, D0 k → wA.heap.size ≤ k) (hl : 0 < ss.length ∧ ss.length ≤ 1000) (hkf : ∀ i, i < ss.length → kf i ≤ 1000000) (hto : ∀ s ∈ ss, ∀ m ∈ s, m.length = 8 ∧ 0 ≤ m.getD 7 0 ∧ m.getD 7 0 < (ss.length : Int))
    (hkey : ∀ W (i : Nat), Only D0 w W → i < ss.length → Calls Tryz.prog 85 #[.int .i64 (i : Int), .pointer (some ⟨bl, 0, none⟩)] W fun e W' => e = .returned (.int .i64 (kf i : Nat)) ∧ W' = W)
    (hJ : Stable J) (hD0 : Bd D0 w) (h0 : J [] D0 w)
    (hfound : ∀ W fs D (s : Nat) y0 y1 y2 y3 y4 y5 y6 y7, J fs D W → Bd D W → Only D0 w W → Gr D0 w D → s < ss.length → [y0, y1, y2, y3, y4, y5, y6, y7] ∈ ss.getD s [] → kf (mvTo [y0, y1, y2, y3, y4, y5, y6, y7]) ∉ (0 :: fs.map fun f => mvTo f.2).map kf →
      Calls Tryz.prog 86 #[.int .i64 (s : Int), .agg #[.int .i64 y0, .int .i64 y1, .int .i64 y2, .int .i64 y3, .int .i64 y4, .int .i64 y5, .int .i64 y6, .int .i64 y7], .pointer (some ⟨bn, 0, none⟩), .pointer (some ⟨bl, 0, none⟩)] W fun e W' => e = .returned (.tuple #[]) ∧
        ∃ D', Only D W W' ∧ Gr D W D' ∧ Bd D' W' ∧ J (fs ++ [(s, [y0, y1, y2, y3, y4, y5, y6, y7])]) D' W')
    {F : Nat} {R : List Nat × List (Nat × List Int)} (hR : srch kf ss F 0 ([0], []) = some R) (hRl : R.1.length ≤ 1000) :
    Calls Tryz.prog 59 #[v, .func (.func 85) #[] #[.pointer (some ⟨bl, 0, none⟩)], .func (.func 86) #[] #[.pointer (some ⟨bn, 0, none⟩), .pointer (some ⟨bl, 0, none⟩)]] w fun e W' =>
      ∃ u D', e = .returned u ∧ OI W' w.heap.size u R.1.length (natI R.1) ∧ J R.2 D' W' ∧ Bd D' W' ∧ Only D0 w W' ∧ Gr D0 w D' ∧ (∀ k, u.ownBlock = some k → ¬ D' k) := by
  obtain ⟨hl0, hl1⟩ := hl
  obtain ⟨sa, sc, sb, so, rfl, hsa, hsc, _⟩ := hK
  obtain rfl := hsa hl0
  clear hsa
  have hmm := @run_makeMap Tryz.prog
  replace hsc := Lib.hid hsc
  replace hkey := Lib.hid hkey
  replace hfound := Lib.hid hfound
  replace hkf := Lib.hid hkf
  replace hto := Lib.hid hto
  replace hJ := Lib.hid hJ
  obtain ⟨W0, hW0⟩ : ∃ W0, W0 = (w.alloc (.cells #[.int .i64 0] 3)).alloc (.map #[] 0) := ⟨_, rfl⟩
  have hbw : Below w.heap.size w W0 := by rw [hW0]; exact ((Below.refl _ w).alloc (Nat.le_refl _) _).alloc (by simp) _
  have hs0 : W0.heap.size = w.heap.size + 2 := by rw [hW0]; simp
  have hO0 : Only D0 w W0 := Only.of_below hbw
  have hrow0 : W0.heap[w.heap.size]? = some (.cells #[.int .i64 0] 3) := by rw [hW0]; exact (Below.heap_alloc _ _ _ (by simp)).trans (heap_alloc_new _ _)
  have hmade : SN kf W0 (w.heap.size + 1) [] := by
    have h := MX.made (kv := intV) (vv := Value.bool) (w.alloc (.cells #[.int .i64 0] 3))
    rw [World.size_alloc] at h
    rw [hW0]; exact h
  have hk0b := hkf.out 0 hl0
  obtain ⟨ob, hput, hSN1⟩ := SN.put hmade (by simp) hk0b (by simp)
  have hkc := hkey.out W0 0 hO0 hl0
  obtain ⟨q0, hq0⟩ : ∃ q, kf 0 = q := ⟨_, rfl⟩
  rw [hq0] at hput hkc
  obtain ⟨W1, hW1⟩ : ∃ W1, W1 = setBlock W0 (w.heap.size + 1) ob := ⟨_, rfl⟩
  rw [← hW1] at hput hSN1
  have hs1 : W1.heap.size = w.heap.size + 2 := by rw [hW1]; simpa [setBlock] using hs0
  have hO1 : Only D0 w W1 := ⟨by rw [hW1]; exact hO0.os, by rw [hW1]; exact hO0.tape, by rw [hW1]; exact hO0.output, by omega, fun k hk hd => by rw [hW1]; exact (setBlock_keep ob (by omega)).trans (hO0.same k hk hd)⟩
  have hrow1 : W1.heap[w.heap.size]? = some (.cells #[.int .i64 0] 3) := by rw [hW1]; exact (setBlock_keep ob (by omega)).trans hrow0
  have hOI1 : OI W1 w.heap.size (.slice (some ⟨w.heap.size, 0, none⟩) 1 1) ([0] : List Nat).length (natI [0]) := ⟨rfl, .inr ⟨w.heap.size, 1, _, rfl, Nat.le_refl _, hrow1, Nat.le_refl _, by unfold maxLen; omega, rfl, rfl⟩⟩
  have hJ1 : J [] D0 W1 := hJ.out _ _ _ _ h0 (by omega) (fun k hk => by
    have h1 := hD0 k hk
    rw [hW1]
    exact (setBlock_keep ob (by omega)).trans (hbw.block k h1))
  have hBd1 : Bd D0 W1 := fun k hk => by have := hD0 k hk; omega
  have hnS : ¬ D0 (w.heap.size + 1) := fun h => by have := hD0 _ h; omega
  have hnR : ∀ k, (Value.slice (some ⟨w.heap.size, 0, none⟩) 1 1).ownBlock = some k → ¬ D0 k := fun k hk h => by
    simp only [Value.ownBlock, Option.some.injEq] at hk
    have := hD0 _ h; omega
  have hb0 : Hid (∀ x ∈ ([0] : List Nat), x < ss.length) := fun x hx => by simp at hx; omega
  have hR0 : Hid (srch kf ss F 0 ([0], []) = some R) := hR
  replace hW0 := Lib.hid hW0
  replace hW1 := Lib.hid hW1
  replace hq0 := Lib.hid hq0
  replace hkc := Lib.hid hkc
  go_enter Tryz.func59, Tryz.ntmps59
  go_wp2_with fail
  rw [← hW0.out]
  refine (show Calls _ _ _ _ _ from hkc.out).mono ?_
  rintro e w' ⟨rfl, rfl⟩
  go_wp2_with fail
  clear hput hkc hmade hrow0 hrow1 hW0 hW1 hq0 hO0 hbw hR h0
  go_loopg [7, 9] F (fun f ov iv wr => ∃ (i : Nat) (o : List Nat) (fs : List (Nat × List Int)) (D : Nat → Prop), iv = .int .i64 i ∧ OI wr w.heap.size ov o.length (natI o) ∧ SN kf wr (w.heap.size + 1) o ∧ J fs D wr ∧ Bd D wr ∧ Only D0 w wr ∧ Gr D0 w D ∧
    (∀ k, ov.ownBlock = some k → ¬ D k) ∧ ¬ D (w.heap.size + 1) ∧ Hid (∀ x ∈ o, x < ss.length) ∧ Hid (srch kf ss f i (o, fs) = some R) ∧ i ≤ o.length ∧ Hid (o = 0 :: fs.map fun f => mvTo f.2))
  case atStart => exact ⟨0, [0], [], D0, rfl, hOI1, hSN1, hJ1, hBd1, hO1, Gr.refl _ _, hnR, hnS, hb0, hR0, by simp, rfl⟩
  case round =>
    clear hOI1 hSN1 hJ1 hBd1 hO1 hnR hnS hb0 hR0
    obtain ⟨i, o, fs, D, rfl, hOI, hSN, hJr, hBd, hO, hGr, hnR, hnS, hob, hg, hio, hofs⟩ := hrel
    obtain ⟨f, rfl⟩ : ∃ f, gk = f + 1 := by
      cases gk with
      | zero => exact absurd hg (by intro h; simp [Hid, srch] at h)
      | succ f => exact ⟨f, rfl⟩
    have hol : o.length ≤ 1000 := Nat.le_trans (srch_le hg.out) hRl
    obtain ⟨ga, gc, hov⟩ := hOI.shape
    subst hov
    by_cases hlt : i < o.length
    · obtain ⟨g, hg2⟩ : ∃ g, ga = some ⟨g, 0, none⟩ := by
        rcases hOI.2 with ⟨h1, h2⟩ | ⟨g, cap, cur, h1, _⟩
        · omega
        · injection h1 with h1; exact ⟨g, h1⟩
      subst hg2
      have hci := hOI.cell hlt
      rw [natI_getD] at hci
      obtain ⟨s, hs⟩ : ∃ s, o.getD i 0 = s := ⟨_, rfl⟩
      have hs' := hs
      have hsl : s < ss.length := hob.out s (by rw [← hs, getD_eq hlt]; exact List.getElem_mem hlt)
      have hg3 : Hid (srch kf ss f (i + 1) (exts kf s (ss.getD s []) (o, fs)) = some R) := by
        have h1 := hg.out
        rw [srch, if_pos hlt] at h1
        rw [← hs]; exact h1
      rw [hs] at hci
      have hbW : Below wA.heap.size wA wr := hbA.trans (hO.below hbA.size hDA)
      obtain ⟨u, hcu, hu⟩ := hsc.out s hsl
      replace hcu := cell_kept hbW hcu
      obtain ⟨ms, hms⟩ : ∃ ms, ss.getD s [] = ms := ⟨_, rfl⟩
      have hmem : ms ∈ ss := by rw [← hms, getD_eq hsl]; exact List.getElem_mem hsl
      have hmv := Lib.hid (hto.out ms hmem)
      rw [hms] at hu hg3
      obtain ⟨E, hE⟩ : ∃ E, exts kf s ms (o, fs) = E := ⟨_, rfl⟩
      have hE0 : Hid (exts kf s (ms.drop 0) (o, fs) = E) := by show _ = _; rw [List.drop_zero]; exact hE
      rw [hE] at hg3
      have hEl : E.1.length ≤ 1000 := Nat.le_trans (srch_le hg3.out) hRl
      obtain ⟨ma, mc, mb, mo, rfl, hma, hmc, hml⟩ := hu
      replace hmc := Lib.hid hmc
      replace hms := Lib.hid hms
      clear hs hg hE
      go_wp2
      go_loopw [7, 31] (fun ov jv wr => ∃ (j : Nat) (o : List Nat) (fs : List (Nat × List Int)) (D : Nat → Prop), jv = .int .i64 j ∧ j ≤ ms.length ∧ OI wr w.heap.size ov o.length (natI o) ∧ SN kf wr (w.heap.size + 1) o ∧ J fs D wr ∧ Bd D wr ∧ Only D0 w wr ∧ Gr D0 w D ∧
        (∀ k, ov.ownBlock = some k → ¬ D k) ∧ ¬ D (w.heap.size + 1) ∧ Hid (∀ x ∈ o, x < ss.length) ∧ Hid (exts kf s (ms.drop j) (o, fs) = E) ∧ i < o.length ∧ o.getD i 0 = s ∧ Hid (o = 0 :: fs.map fun f => mvTo f.2)) (fun _ jv _ => ms.length - (intOf jv).toNat)
      case atStart => exact ⟨0, o, fs, D, rfl, by omega, hOI, hSN, hJr, hBd, hO, hGr, hnR, hnS, hob, hE0, hlt, hs', hofs⟩
      case round =>
        clear hOI hSN hJr hBd hO hGr hnR hnS hob hE0 hlt hs' hofs hci hcu hio hol hbW
        obtain ⟨j, o, fs, D, rfl, hj, hOI, hSN, hJr, hBd, hO, hGr, hnR, hnS, hob, hg, hio, his, hofs⟩ := hrel
        have hol : o.length ≤ 1000 := by
          have h1 := exts_le kf s (ms.drop j) (o, fs)
          rw [hg.out] at h1
          exact Nat.le_trans h1 hEl
        obtain ⟨g, gc, hov⟩ : ∃ g gc, u7 = .slice (some ⟨g, 0, none⟩) o.length gc := by
          rcases hOI.2 with ⟨h1, h2⟩ | ⟨g, cap, cur, h1, _⟩
          · omega
          · exact ⟨g, cap, h1⟩
        subst hov
        by_cases hltj : j < ms.length
        · obtain rfl := hma (by omega)
          have hbW : Below wA.heap.size wA wr := hbA.trans (hO.below hbA.size hDA)
          obtain ⟨hx8, hxc⟩ := hmc.out j hltj
          obtain ⟨x, hx⟩ : ∃ x, ms.getD j [] = x := ⟨_, rfl⟩
          have hxm : x ∈ ms := by rw [← hx, getD_eq hltj]; exact List.getElem_mem hltj
          obtain ⟨_, ht0, ht1⟩ := hmv.out x hxm
          have hdr := drop_cons hltj ([] : List Int)
          rw [hx] at hx8 hxc hdr
          obtain ⟨y0, y1, y2, y3, y4, y5, y6, y7, rfl⟩ := eight hx8
          replace ht0 : 0 ≤ y7 := ht0
          replace ht1 : y7 < (ss.length : Int) := ht1
          obtain ⟨q, rfl⟩ : ∃ q : Nat, y7 = (q : Int) := ⟨y7.toNat, by omega⟩
          have hq : q < ss.length := by omega
          obtain ⟨c0, c1, c2, c3, c4, c5, c6, c7⟩ := (hxc.keep hbW).all8
          have hmq : mvTo [y0, y1, y2, y3, y4, y5, y6, (q : Int)] = q := by show ((q : Int)).toNat = q; omega
          have hxm2 : Hid ([y0, y1, y2, y3, y4, y5, y6, (q : Int)] ∈ ss.getD s []) := by show _ ∈ _; rw [hms.out]; exact hxm
          rw [hdr] at hg
          obtain ⟨W2, hW2⟩ : ∃ W2, W2 = wr.alloc (.cells #[.int .i64 y0, .int .i64 y1, .int .i64 y2, .int .i64 y3, .int .i64 y4, .int .i64 y5, .int .i64 y6, .int .i64 (q : Int)] 84) := ⟨_, rfl⟩
          have hb2 : Below wr.heap.size wr W2 := by rw [hW2]; exact (Below.refl _ _).alloc (Nat.le_refl _) _
          have m2 : W2.heap[wr.heap.size]? = some (.cells #[.int .i64 y0, .int .i64 y1, .int .i64 y2, .int .i64 y3, .int .i64 y4, .int .i64 y5, .int .i64 y6, .int .i64 (q : Int)] 84) := by rw [hW2]; exact heap_alloc_new _ _
          have hs2a : W2.heap.size ≤ wr.heap.size + 1 := by rw [hW2]; simp
          have hs2b : wr.heap.size + 1 ≤ W2.heap.size := by rw [hW2]; simp
          have hO2 := hO.thenBelow (hb2.mono hO.size)
          have hJ2 := hJ.out _ _ _ _ hJr hb2.size (fun k hk => hb2.block k (hBd k hk))
          have hBd2 : Bd D W2 := fun k hk => Nat.lt_of_lt_of_le (hBd k hk) hb2.size
          have hOI2 := hOI.keep hb2
          have hSN2 : SN kf W2 (w.heap.size + 1) o := MX.keep hSN (hb2.block _ (MX.lt hSN))
          have hkc := hkey.out W2 q hO2 hq
          have hkq := hkf.out q hq
          have hkall : ∀ y ∈ o, kf y ≤ 1000000 := fun y hy => hkf.out y (hob.out y hy)
          have hlk := hSN2.look hkall hkq
          have hbSw : w.heap.size + 1 < wr.heap.size := MX.lt hSN
          have hgw : g < wr.heap.size := by
            rcases hOI.2 with ⟨h1, _⟩ | ⟨g', cap, cur, h1, _, h3, _⟩
            · cases h1
            · injection h1 with h1; injection h1 with h1; injection h1 with h1
              rw [h1]; exact (Array.getElem?_eq_some_iff.1 h3).1
          obtain ⟨p0, p1, p2, p3, p4, p5, p6, p7⟩ := box8 m2
          replace hW2 := Lib.hid hW2
          clear hx8 hxc hxm hdr hOI hSN hJr hBd hO hx
          by_cases hin : kf q ∈ o.map kf
          · rw [decide_eq_true hin] at hlk
            have hg2 : Hid (exts kf s (ms.drop (j + 1)) (o, fs) = E) := by
              show _ = _; rw [← hg.out]; exact (exts_in (by rw [hmq]; exact hin)).symm
            obtain ⟨qk, hqk⟩ : ∃ qk, kf q = qk := ⟨_, rfl⟩
            rw [hqk] at hlk hkc
            replace hkc := Lib.hid hkc
            clear hin hqk hg
            go_wp2_with fail
            rw [← hW2.out]
            refine (show Calls _ _ _ _ _ from hkc.out).mono ?_
            rintro e w' ⟨rfl, rfl⟩
            go_wp2_with fail
            go_roundw
            case rel => exact ⟨j + 1, o, fs, D, by go_num, hltj, hOI2, hSN2, hJ2, hBd2, hO2, hGr, hnR, hnS, hob, hg2, hio, his, hofs⟩
            case measure => simp [intOf]; omega
          · rw [decide_eq_false hin] at hlk
            have hg2 : Hid (exts kf s (ms.drop (j + 1)) (o ++ [q], fs ++ [(s, [y0, y1, y2, y3, y4, y5, y6, (q : Int)])]) = E) := by
              show _ = _; rw [← hg.out]
              have h1 := exts_out (kf := kf) (s := s) (m := [y0, y1, y2, y3, y4, y5, y6, (q : Int)]) (r := ms.drop (j + 1)) (o := o) (fs := fs) (by rw [hmq]; exact hin)
              rw [hmq] at h1; exact h1.symm
            obtain ⟨ob, hput, hSN3⟩ := hSN2.put hkall hkq hin
            obtain ⟨qk, hqk⟩ : ∃ qk, kf q = qk := ⟨_, rfl⟩
            rw [hqk] at hlk hkc hput
            replace hkc := Lib.hid hkc
            obtain ⟨W3, hW3⟩ : ∃ W3, W3 = setBlock W2 (w.heap.size + 1) ob := ⟨_, rfl⟩
            rw [← hW3] at hput hSN3
            have hkp : ∀ k, k ≠ w.heap.size + 1 → W3.heap[k]? = W2.heap[k]? := fun k hk => by rw [hW3]; exact setBlock_keep ob hk
            have hs3a : W3.heap.size ≤ W2.heap.size := by rw [hW3]; simp [setBlock]
            have hs3b : W2.heap.size ≤ W3.heap.size := by rw [hW3]; simp [setBlock]
            have hb3 : Below w.heap.size W2 W3 := by rw [hW3]; exact setBlock_below (Below.refl _ _) (by omega) ob
            have hOI3 : OI W3 w.heap.size (.slice (some ⟨g, 0, none⟩) o.length gc) o.length (natI o) := by
              refine ⟨hOI2.1, ?_⟩
              rcases hOI2.2 with h' | ⟨g', cap, cur, h1, h2, h3, h4⟩
              · exact .inl h'
              · refine .inr ⟨g', cap, cur, h1, h2, Eq.trans (hkp g' ?_) h3, h4⟩
                rintro rfl
                obtain ⟨es, cl, hm, _⟩ := hSN2
                rw [hm] at h3; cases h3
            have hgS : g ≠ w.heap.size + 1 := by
              rintro rfl
              obtain ⟨es, cl, hm, _⟩ := hSN2
              rcases hOI2.2 with ⟨h1, _⟩ | ⟨g', cap, cur, h1, _, h3, _⟩
              · cases h1
              · injection h1 with h1; injection h1 with h1; injection h1 with h1
                rw [← h1, hm] at h3; cases h3
            have hgB : w.heap.size ≤ g := hOI2.ge
            have hnG : ¬ D g := hnR g rfl
            have m3 := (hkp wr.heap.size (by omega)).trans m2
            have hF := fun W h1 h2 h3 => hfound.out W fs D s y0 y1 y2 y3 y4 y5 y6 (q : Int) h1 h2 h3 hGr hsl hxm2.out (by rw [hmq, ← hofs.out]; exact hin)
            replace hF := Lib.hid hF
            have hbnd : w.heap.size ≤ W3.heap.size := by omega
            have p0' := box8 m3
            obtain ⟨r0, r1, r2, r3, r4, r5, r6, r7⟩ := p0'
            have hofs5 : Hid (o ++ [q] = 0 :: (fs ++ [(s, [y0, y1, y2, y3, y4, y5, y6, (q : Int)])]).map fun f => mvTo f.2) := by
              show _ = _
              rw [List.map_append, ← List.cons_append, ← hofs.out]
              show _ = o ++ [mvTo [y0, y1, y2, y3, y4, y5, y6, (q : Int)]]
              rw [hmq]
            replace hW3 := Lib.hid hW3
            clear hqk hg hin
            go_wp2_with fail
            rw [← hW2.out]
            refine (show Calls _ _ _ _ _ from hkc.out).mono ?_
            rintro e w' ⟨rfl, hw'⟩
            replace hw' := hw'.symm
            subst hw'
            go_wp2_with fail
            refine (show Calls _ _ _ _ _ from hkc.out).mono ?_
            rintro e w' ⟨rfl, hw'⟩
            replace hw' := hw'.symm
            subst hw'
            clear p0 p1 p2 p3 p4 p5 p6 p7
            go_wp2_with (at_builtin; refine wpApp1I rfl _ _ rfl rfl hOI3 rfl (by omega) hbnd ?_; intro v' w4 ho4 hgr4 hnb4 hb4; obtain ⟨g', cap', rfl⟩ := ownsRow_succ ho4)
            obtain ⟨N, hN⟩ : ∃ N, N = o.length + 1 := ⟨_, rfl⟩
            rw [← hN] at ho4 hnb4 ⊢
            have hb24 : Below w.heap.size W2 w4 := hb3.trans hb4
            have hO4 := hO2.thenBelow hb24
            have hgr4' : W3.grownBy w4 (some g) := hgr4
            have hne4 : ∀ k, k < W3.heap.size → k ≠ g → k ≠ w.heap.size + 1 → w4.heap[k]? = W2.heap[k]? := fun k hk h1 h2 => (hgr4'.block k hk (fun e => h1 (by injection e))).trans (hkp k h2)
            have hJ4 : J fs D w4 := hJ.out _ _ _ _ hJ2 (by have := hgr4'.size; omega) (fun k hk => hne4 k (by have := hBd2 k hk; omega) (fun e => hnG (e ▸ hk)) (fun e => hnS (e ▸ hk)))
            have hBd4 : Bd D w4 := fun k hk => by have := hBd2 k hk; have := hgr4'.size; omega
            have m4 := (hgr4'.block wr.heap.size (by omega) (fun e => by injection e; omega)).trans m3
            have hSN4 : SN kf w4 (w.heap.size + 1) (o ++ [q]) := MX.keep hSN3 (hgr4'.block _ (by omega) (fun e => by injection e with e; exact hgS e.symm))
            have hio4 : i < N := by omega
            replace hN := Lib.hid hN
            have hci4 := ho4.cell hio4
            have hnat : natI o ++ [(q : Int)] = natI (o ++ [q]) := by simp [natI]
            have his4 : (o ++ [q]).getD i 0 = s := by rw [List.getD_eq_getElem?_getD, List.getElem?_append_left hio, ← List.getD_eq_getElem?_getD]; exact his
            rw [hnat] at ho4 hci4
            rw [natI_getD, his4] at hci4
            obtain ⟨r0, r1, r2, r3, r4, r5, r6, r7⟩ := box8 m4
            have hg'4 : g' < w4.heap.size := by
              rcases ho4.2 with ⟨h1, _⟩ | ⟨g2, cap, cur, h1, _, h3, _⟩
              · cases h1
              · injection h1 with h1; injection h1 with h1; injection h1 with h1
                rw [h1]; exact (Array.getElem?_eq_some_iff.1 h3).1
            have hg'D : ¬ D g' := by
              rcases hnb4 with e | e
              · have : some g' = some g := e
                injection this with this
                rw [this]; exact hnG
              · have h1 := e g' rfl
                intro h; have := hBd2 g' h; omega
            have hg'S : g' ≠ w.heap.size + 1 := by
              rcases hnb4 with e | e
              · have : some g' = some g := e
                injection this with this
                rw [this]; exact hgS
              · have h1 := e g' rfl
                omega
            have hmx : Tryz.prog.follows .mixedOrders = true := by kernel_rfl
            clear hput hlk hOI3 hOI2 hSN2 hSN3 hJ2 hgr4 hgr4' hO2 m2 m3 hb2 hb3 hb4 hkp hne4 hkc c0 c1 c2 c3 c4 c5 c6 c7
            refine wp_region_qtail 6 hmx (by kernel_rfl) (by kernel_rfl) ?_ ?_
            · rintro ⟨a, wx, h⟩
              obtain ⟨_, _, h, _⟩ := h
              cases h
            · intro ops'
              simp only [List.take_succ_cons, List.take_zero, List.drop_succ_cons, List.drop_zero]
              repeat (quiet_step (fail))
              refine wpQuiet_nil ?_
              intro k
              have hOk : Only D0 w (w4.drewN k) := hO4.drewN k
              go_wp2_with fail
              have hJk : J fs D (w4.drewN k) := hJ.out _ _ _ _ hJ4 (Nat.le_refl _) (fun _ _ => rfl)
              refine (show Calls _ _ _ _ _ from hF.out (w4.drewN k) hJk (fun x hx => hBd4 x hx) hOk).mono ?_
              rintro e W5 ⟨rfl, D5, hO5, hGr5, hBd5, hJ5⟩
              have hOn5 : Only D0 w W5 := hOk.trans hO5 hGr
              have hGrn5 := hGr.trans hGr5 hOk.size
              have hSN5 : SN kf W5 (w.heap.size + 1) (o ++ [q]) := MX.keep hSN4 (hO5.same _ (MX.lt hSN4) hnS)
              have ho5 : OI W5 w.heap.size (.slice (some ⟨g', 0, none⟩) N cap') N (natI (o ++ [q])) := by
                refine ⟨ho4.1, ?_⟩
                rcases ho4.2 with h' | ⟨g2, cap, cur, h1, h2, h3, h4⟩
                · exact .inl h'
                · have hg2 : g2 = g' := by injection h1 with h1; injection h1 with h1; injection h1 with h1; exact h1.symm
                  refine .inr ⟨g2, cap, cur, h1, h2, Eq.trans (hO5.same g2 (Array.getElem?_eq_some_iff.1 h3).1 (by rw [hg2]; exact hg'D)) h3, h4⟩
              have hnew : ∀ k, D5 k → D k ∨ w4.heap.size ≤ k := hGr5
              have hnR5 : ∀ k, (Value.slice (some ⟨g', 0, none⟩) N cap').ownBlock = some k → ¬ D5 k := fun k hk h => by
                simp only [Value.ownBlock, Option.some.injEq] at hk
                subst hk
                rcases hnew _ h with h' | h'
                · exact hg'D h'
                · omega
              have hnS5 : ¬ D5 (w.heap.size + 1) := fun h => by
                rcases hnew _ h with h' | h'
                · exact hnS h'
                · have := MX.lt hSN4; omega
              have hob5 : Hid (∀ x ∈ o ++ [q], x < ss.length) := fun x hx => by
                rcases List.mem_append.1 hx with h | h
                · exact hob.out x h
                · rw [List.mem_singleton.1 h]; exact hq
              have hl1' : (o ++ [q]).length = N := by rw [hN.out]; simp
              have ho6 : OI W5 w.heap.size (.slice (some ⟨g', 0, none⟩) N cap') (o ++ [q]).length (natI (o ++ [q])) := by rw [hl1']; exact ho5
              have hi5 : i < (o ++ [q]).length := by rw [hl1']; exact hio4
              clear hF hl1'
              go_wp2
              go_roundw
              case rel => exact ⟨j + 1, o ++ [q], _, D5, by go_num, hltj, ho6, hSN5, hJ5, hBd5, hOn5, hGrn5, hnR5, hnS5, hob5, hg2, hi5, his4, hofs5⟩
              case measure => simp [intOf]; omega
        · obtain rfl : j = ms.length := by omega
          have hE1 : Hid (srch kf ss f (i + 1) (o, fs) = some R) := by
            show _ = _
            have h1 := hg.out
            rw [List.drop_length, exts] at h1
            rw [h1]; exact hg3.out
          clear hg hg3
          go_wp2
          go_roundg f
          case measure => omega
          case rel => exact ⟨i + 1, o, fs, D, by go_num, hOI, hSN, hJr, hBd, hO, hGr, hnR, hnS, hob, hE1, by omega, hofs⟩
    · have hRe : R = (o, fs) := by
        have h1 := hg.out
        rw [srch, if_neg hlt] at h1
        exact (Option.some.inj h1).symm
      subst hRe
      clear hg
      go_wp2
      go_ret
      exact ⟨_, rfl, hOI, D, hJr, hBd, hO, hGr, hnR⟩
end Go.Proofs.YtfihpofdoffclaaGreatDoor

/- canonical.canonical. -/
namespace Go.Proofs.YtfihpofdoffclaaGreatDoor
open Go.RowKit Go.ChangeMaps Go.MapKept

theorem OI.only {D : Nat → Prop} {w w' : World} {B : Nat} {v : Value} {n : Nat} {xs : List Int} (h : OI w B v n xs) (ho : Only D w w') (hd : ∀ k, v.ownBlock = some k → ¬ D k) : OI w' B v n xs := by
  refine ⟨h.1, ?_⟩
  rcases h.2 with h' | ⟨g, cap, cur, h1, h2, h3, h4⟩
  · exact .inl h'
  · exact .inr ⟨g, cap, cur, h1, h2, (ho.same g (Array.getElem?_eq_some_iff.1 h3).1 (hd g (by rw [h1]; rfl))).trans h3, h4⟩
theorem row_free {w : World} {b : Nat} {cs : Array Value} {t : TypeId} (h : w.heap[b]? = some (.cells cs t)) (j : Nat) : w.frozen? ⟨b, j, none⟩ = false := by simp [World.frozen?, h]
theorem two_setCell {w : World} {b : Nat} {x y u : Value} {t : TypeId} (h : w.heap[b]? = some (.cells #[x, y] t)) : (w.setCell ⟨b, 1, none⟩ u).heap[b]? = some (.cells #[x, u] t) := by
  rw [heap_setCell_same w b 1 _ t u h]; rfl
theorem take_succ_snoc {α : Type} {xs : List α} {i : Nat} (h : i < xs.length) {d x : α} (hx : xs.getD i d = x) : xs.take i ++ [x] = xs.take (i + 1) := by rw [take_snoc h d, hx]
set_option maxRecDepth 100000 in
set_option maxHeartbeats 6400000 in
theorem canonW {w : World} {v : Value} {n : Int} {ss : List (List (List Int))} {L : List Nat} {F G : Nat} {R : List Nat × List (Nat × List Int)} (hA : AdvV w v n ss) (hO : ClsOK ss)
    (hL : clsGo ss (dd [] (allRd ss)) F (List.replicate ss.length 0) 0 = some L) (hLl : L.length = ss.length) (hLb : ∀ x ∈ L, x ≤ 1000000) (hR : srch (keyL L) ss G 0 ([0], []) = some R) (hRl : R.1.length ≤ 1000) (hRb : ∀ x ∈ R.1, x < ss.length) :
    Calls Tryz.prog 51 #[v] w fun e w' => ∃ u, e = .returned u ∧ OwAdv w' u n (formC ss L R.1) ∧ Below w.heap.size w w' := by
  obtain ⟨sv, rfl, hK⟩ := hA
  obtain ⟨hl90, hmv90, hl0, hst⟩ := hO
  have hOk : ClsOK ss := ⟨hl90, hmv90, hl0, hst⟩
  have hto : ∀ s ∈ ss, ∀ m ∈ s, m.length = 8 ∧ 0 ≤ m.getD 7 0 ∧ m.getD 7 0 < (ss.length : Int) := fun s hs m hm => ((hst s hs).2 m hm).2
  obtain ⟨sa, sc, hsv⟩ := hK.shape
  subst hsv
  obtain ⟨W1, hW1⟩ : ∃ W1, W1 = (w.alloc (.cells #[.int .i64 n, .slice sa ss.length sc] 24)).alloc (.cells #[.int .i64 0, .slice none 0 0] 24) := ⟨_, rfl⟩
  have hb1 : Below w.heap.size w W1 := by rw [hW1]; exact ((Below.refl _ w).alloc (Nat.le_refl _) _).alloc (by simp) _
  have m0 : W1.heap[w.heap.size]? = some (.cells #[.int .i64 n, .slice sa ss.length sc] 24) := by rw [hW1]; exact (Below.heap_alloc _ _ _ (by simp)).trans (heap_alloc_new _ _)
  have m1 : W1.heap[w.heap.size + 1]? = some (.cells #[.int .i64 0, .slice none 0 0] 24) := by
    have h := heap_alloc_new (w.alloc (.cells #[.int .i64 n, .slice sa ss.length sc] 24)) (.cells #[.int .i64 0, .slice none 0 0] 24)
    rw [World.size_alloc] at h
    rw [hW1]; exact h
  have hs1 : W1.heap.size = w.heap.size + 2 := by rw [hW1]; simp
  have hK1 := hK.keep hb1
  have HC := Lib.hid (classesCall hK1 hOk hL)
  have p0 : W1.cell? ⟨w.heap.size, 0, none⟩ = some (.int .i64 n) := by rw [cell_of_row _ _ 0 _ _ _ m0]; rfl
  have p1 : W1.cell? ⟨w.heap.size, 1, none⟩ = some (.slice sa ss.length sc) := by rw [cell_of_row _ _ 1 _ _ _ m0]; rfl
  have hmm := @run_makeMap Tryz.prog
  go_enter Tryz.func51, Tryz.ntmps51
  go_wp2_with fail
  rw [← hW1]
  refine HC.out.mono ?_
  rintro e W2 ⟨u, rfl, hOI, hb2⟩
  obtain ⟨g, cap, hu⟩ : ∃ g cap, u = .slice (some ⟨g, 0, none⟩) L.length cap := by
    rcases hOI.2 with ⟨_, h2⟩ | ⟨g, cap, cur, h1, _⟩
    · omega
    · exact ⟨g, cap, h1⟩
  subst hu
  have hc0 := hOI.cell (j := 0) (by omega)
  rw [natI_getD] at hc0
  obtain ⟨q0, hq0⟩ : ∃ q, L.getD 0 0 = q := ⟨_, rfl⟩
  rw [hq0] at hc0
  have hgW : g < W2.heap.size := World.block_lt_of_cell? W2 ⟨g, 0, none⟩ hc0
  obtain ⟨W3, hW3⟩ : ∃ W3, W3 = (W2.alloc (.cells #[.slice (some ⟨g, 0, none⟩) L.length cap] 27)).alloc (.map #[] 0) := ⟨_, rfl⟩
  have hb3 : Below W2.heap.size W2 W3 := by rw [hW3]; exact ((Below.refl _ _).alloc (Nat.le_refl _) _).alloc (by simp) _
  have hs3a : W3.heap.size ≤ W2.heap.size + 2 := by rw [hW3]; simp
  have hs3b : W2.heap.size + 2 ≤ W3.heap.size := by rw [hW3]; simp
  have hc3 := cell_kept hb3 hc0
  have n0 : W3.heap[W2.heap.size]? = some (.cells #[.slice (some ⟨g, 0, none⟩) L.length cap] 27) := by rw [hW3]; exact (Below.heap_alloc _ _ _ (by simp)).trans (heap_alloc_new _ _)
  have hM0 : IM intV W3 (W2.heap.size + 1) [] := by
    have h := MX.made (kv := intV) (vv := intV) (W2.alloc (.cells #[.slice (some ⟨g, 0, none⟩) L.length cap] 27))
    rw [World.size_alloc] at h
    rw [hW3]; exact h
  have hqb : q0 ≤ 1000000 := by
    rw [← hq0, getD_eq (by omega : 0 < L.length)]; exact hLb _ (List.getElem_mem _)
  obtain ⟨ob, hput, hM1⟩ := IM.put keyX_int umInt hM0 (by simp) hqb (by simp)
  obtain ⟨W4, hW4⟩ : ∃ W4, W4 = setBlock W3 (W2.heap.size + 1) ob := ⟨_, rfl⟩
  rw [← hW4] at hput hM1
  have hkp4 : ∀ k, k ≠ W2.heap.size + 1 → W4.heap[k]? = W3.heap[k]? := fun k hk => by rw [hW4]; exact setBlock_keep ob hk
  have hs4a : W4.heap.size ≤ W3.heap.size := by rw [hW4]; simp [setBlock]
  have hs4b : W3.heap.size ≤ W4.heap.size := by rw [hW4]; simp [setBlock]
  have hb4 : Below W2.heap.size W3 W4 := by rw [hW4]; exact setBlock_below (Below.refl _ _) (by omega) ob
  have hb24 : Below W2.heap.size W2 W4 := hb3.trans hb4
  obtain ⟨W5, hW5⟩ : ∃ W5, W5 = W4.alloc (.cells #[.map (some (W2.heap.size + 1))] 127) := ⟨_, rfl⟩
  have hb5 : Below W4.heap.size W4 W5 := by rw [hW5]; exact (Below.refl _ _).alloc (Nat.le_refl _) _
  have n5 : W5.heap[W4.heap.size]? = some (.cells #[.map (some (W2.heap.size + 1))] 127) := by rw [hW5]; exact heap_alloc_new _ _
  have hs5 : W4.heap.size + 1 ≤ W5.heap.size := by rw [hW5]; simp
  have hb25 : Below W2.heap.size W2 W5 := bt hb24 hb5 (by omega)
  have hM5 := hM1.keep (w' := W5) (hb5.block _ hM1.lt)
  have n35 : W5.heap[W2.heap.size]? = some (.cells #[.slice (some ⟨g, 0, none⟩) L.length cap] 27) := (hb5.block _ (by omega)).trans ((hkp4 _ (by omega)).trans n0)
  have hOI5 := hOI.keep hb25
  have hL5 : Ints W5 (.slice (some ⟨g, 0, none⟩) L.length cap) (natI L) := hOI5.ints (by omega)
  replace hput : (Instr.mapUpdate 127 (.map (some (W2.heap.size + 1))) (.int .i64 (q0 : Int)) (.int .i64 0)).run Tryz.prog W3 = .ok () W4 := hput
  rw [hW3] at hput hc3
  have hb15 : Below W1.heap.size W1 W5 := bt hb2 hb25 hb2.size
  have hK5 := hK1.keep hb15
  obtain ⟨bM, hbM⟩ : ∃ bM, bM = W2.heap.size + 1 := ⟨_, rfl⟩
  have hpm : W5.cell? ⟨w.heap.size, 1, none⟩ = some (.slice sa ss.length sc) := cell_kept hb15 p1
  have hp4 := hpm
  rw [hW5] at hp4
  have hgM : ∀ k, (Value.slice (some ⟨g, 0, none⟩) L.length cap).ownBlock = some k → ¬ (fun k => k = bM) k := fun k hk h => by
    simp only [Value.ownBlock, Option.some.injEq] at hk
    have h : k = bM := h
    omega
  have hS := Lib.hid (searchA (w := W5) (wA := W1) (D0 := fun k => k = bM) (kf := keyL L) (J := JC (keyL L) bM) (bl := W2.heap.size) (bn := W4.heap.size) hK1 hb15 (fun k hk => by have := hb2.size; subst hk; omega) ⟨hl0, by omega⟩
    (fun i hi => by unfold keyL; rw [getD_eq (by omega)]; exact hLb _ (List.getElem_mem _)) hto
    (fun W i hW hi => keyCanon ((hW.same _ (by omega) (by omega)).trans n35) (v := .slice (some ⟨g, 0, none⟩) L.length cap) ((hOI5.only hW hgM).ints (by omega)) (by omega))
    (JC.stable _ _) (fun k hk => by subst hk; rw [hbM]; exact hM5.lt) ⟨fun k => Iff.rfl, by rw [hbM]; show IM intV W5 _ [keyL L 0]; unfold keyL; rw [hq0]; exact hM5⟩
    (fun W fs D s y0 y1 y2 y3 y4 y5 y6 y7 hJ hBd hO hGr hs hm hn => by
      have h8 := hto _ (by rw [getD_eq hs]; exact List.getElem_mem hs) _ hm
      obtain ⟨q, rfl⟩ : ∃ q : Nat, y7 = (q : Int) := ⟨y7.toNat, by have := h8.2.1; simp at this; omega⟩
      have hq : q < L.length := by have := h8.2.2; simp at this; omega
      have hmq : mvTo [y0, y1, y2, y3, y4, y5, y6, (q : Int)] = q := by show ((q : Int)).toNat = q; omega
      rw [hmq] at hn
      exact foundCanon hJ ((hO.same _ (by omega) (by omega)).trans n35) ((hOI5.only hO hgM).ints (by omega)) ((hO.same _ (by omega) (by omega)).trans (by rw [hbM]; exact n5)) hLb hq hn) hR hRl)
  obtain ⟨N, hN⟩ : ∃ N, N = L.length := ⟨_, rfl⟩
  rw [← hN] at hput hc3 ⊢
  have hN0 : 0 < N := by omega
  replace hN := Lib.hid hN
  have hRh := Lib.hid hR
  have hK1h := Lib.hid hK1
  have hsth := Lib.hid hst
  have n55 := n5
  have m1h := m1
  have z0 : W1.cell? ⟨w.heap.size + 1, 0, none⟩ = some (.int .i64 0) := by rw [cell_of_row _ _ 0 _ _ _ m1]; rfl
  have z1 : W1.cell? ⟨w.heap.size + 1, 1, none⟩ = some (.slice none 0 0) := by rw [cell_of_row _ _ 1 _ _ _ m1]; rfl
  clear HC hK hK1 hOk hto hst hL hR hW1 hW3 hW4
  go_wp2_with fail
  rw [← hW5]
  refine hS.out.mono ?_
  rintro e W6 ⟨o, D6, rfl, hOI6, hJ6, hBd6, hO6, hGr6, hoD6⟩
  have hb16 : Below W1.heap.size W1 W6 := hb15.trans (hO6.below hb15.size (fun k hk => by have hk : k = bM := hk; have := hb2.size; omega))
  have hK6 := Lib.hid (hK1h.out.keep hb16)
  have r0 := cell_kept hb16 p0
  have r1 := cell_kept hb16 p1
  have n36 := (hO6.same W2.heap.size (by omega) (by omega)).trans n35
  have n56 := (hO6.same W4.heap.size (by omega) (by omega)).trans n55
  have hOIL := hOI5.only hO6 hgM
  have hM6 := hJ6.2
  rw [← srch_ord hRh.out rfl] at hM6
  obtain ⟨K, hKK⟩ : ∃ K, R.1.map (keyL L) = K := ⟨_, rfl⟩
  rw [hKK] at hM6
  obtain ⟨Fm, hFm⟩ : ∃ Fm, formC ss L R.1 = Fm := ⟨_, rfl⟩
  have hFml : Fm.length = R.1.length := by rw [← hFm, formC, List.length_map]
  have hKl : K.length = R.1.length := by rw [← hKK, List.length_map]
  have hKn : Hid K.Nodup := by show K.Nodup; rw [← hKK]; exact srch_nodup hRh.out (by simp)
  have hKb : Hid (∀ y ∈ K, y ≤ 1000000) := fun y hy => by
    rw [← hKK] at hy
    obtain ⟨x, hx, rfl⟩ := List.mem_map.1 hy
    unfold keyL
    rw [getD_eq (by have := hRb x hx; omega)]; exact hLb _ (List.getElem_mem _)
  have hFmi : Hid (∀ i, i < R.1.length → Fm.getD i [] = (ss.getD (R.1.getD i 0) []).map (formMv L K)) := fun i hi => by
    rw [← hFm, formC, List.getD_eq_getElem?_getD, List.getElem?_map, List.getElem?_eq_some_iff.2 ⟨hi, rfl⟩, hKK]
    simp only [Option.map_some, Option.getD_some, formSt]
    rw [getD_eq hi]
  obtain ⟨go, oc, hov⟩ : ∃ go oc, o = .slice (some ⟨go, 0, none⟩) R.1.length oc := by
    have h1 := srch_le hRh.out
    rcases hOI6.2 with ⟨_, h2⟩ | ⟨g, cap, cur, h1, _⟩
    · simp only [List.length_singleton] at h1; omega
    · exact ⟨g, cap, h1⟩
  subst hov
  have hb26 : W1.heap.size ≤ W6.heap.size := hb16.size
  have hS6 : ∀ wr, Below W6.heap.size W6 wr → wr.cell? ⟨w.heap.size, 1, none⟩ = some (.slice sa ss.length sc) := fun wr h => cell_kept h r1
  replace hFm := Lib.hid hFm
  replace hRb := Lib.hid hRb
  replace hLb := Lib.hid hLb
  replace hst := hsth
  obtain ⟨W7, hW7⟩ : ∃ W7, W7 = W6.alloc (.cells #[.int .i64 n, .slice none 0 0] 24) := ⟨_, rfl⟩
  have hb7 : Below W6.heap.size W6 W7 := by rw [hW7]; exact (Below.refl _ _).alloc (Nat.le_refl _) _
  have n7 : W7.heap[W6.heap.size]? = some (.cells #[.int .i64 n, .slice none 0 0] 24) := by rw [hW7]; exact heap_alloc_new _ _
  replace hW7 := Lib.hid hW7
  clear hput hc3 hS hO6 hJ6 hBd6 hGr6 hoD6 hM0 hM1 hM5 hL5 hOI5 hK5 hc0 hOI hgM n35 n55 hkp4 hp4 hpm hb24 hb25 hb15 hb3 hb4 hb5 hW5 m0 m1 hRh hK1h hsth n0
  go_wp2_with fail
  rw [← hW7.out]
  go_loopw [31] (fun iv wr => ∃ (i : Nat) (sv : Value), iv = .int .i64 i ∧ i ≤ R.1.length ∧ Below W6.heap.size W6 wr ∧ wr.heap[W6.heap.size]? = some (.cells #[.int .i64 n, sv] 24) ∧
    OwX 82 1 ESt wr (W6.heap.size + 1) sv i (Fm.take i)) (fun iv _ => R.1.length - (intOf iv).toNat)
  case atStart => exact ⟨0, _, rfl, by omega, hb7, n7, by rw [List.take_zero]; exact OwX.nil _ _⟩
  case round =>
    clear n7 hb7 hW7
    obtain ⟨i, sv, rfl, hi, hbr, hbx, hrow⟩ := hrel
    obtain ⟨va, vc, hsv⟩ := hrow.shape
    subst hsv
    have x1 : wr.cell? ⟨W6.heap.size, 1, none⟩ = some (.slice va i vc) := by rw [cell_of_row _ _ 1 _ _ _ hbx]; rfl
    by_cases hlt : i < R.1.length
    · have hci := cell_kept hbr (hOI6.cell hlt)
      rw [natI_getD] at hci
      obtain ⟨s, hs⟩ : ∃ s, R.1.getD i 0 = s := ⟨_, rfl⟩
      have hsl : s < ss.length := hRb.out s (by rw [← hs, getD_eq hlt]; exact List.getElem_mem hlt)
      have hFi := hFmi.out i hlt
      rw [hs] at hci hFi
      have hcs := hS6 wr hbr
      obtain ⟨aa, ac, ab, ao, hav, hab, hacc, _⟩ := hK6.out.keep hbr
      injection hav with hav1 hav2 hav3
      have hab := hab hl0
      rw [← hav1] at hab
      subst hab
      obtain ⟨um, hcu, hu⟩ := hacc s hsl
      obtain ⟨ms, hms⟩ : ∃ ms, ss.getD s [] = ms := ⟨_, rfl⟩
      have hmem : ms ∈ ss := by rw [← hms, getD_eq hsl]; exact List.getElem_mem hsl
      rw [hms] at hu hFi
      have hmst := Lib.hid (hst.out ms hmem)
      have hml : ms.length ≤ 90 := by
        have h1 := mem_movesN hmem
        omega
      have hC := Lib.hid (cloneMvK hu (by omega))
      obtain ⟨ma, mc, hum⟩ := hu.shape
      subst hum
      clear hav1 hav2 hav3 hacc
      go_wp2_with fail
      refine hC.out.mono ?_
      rintro e w1 ⟨uc, rfl, hcl, hbc⟩
      have hm0 : 0 < ms.length := hmst.out.1
      obtain ⟨g1, cap1, huc, hg1⟩ := hcl.form hm0
      subst huc
      have hcl0 : OwX 84 8 EI w1 wr.heap.size (.slice (some ⟨g1, 0, none⟩) ms.length cap1) ms.length (mvPart L K ms 0) := by rw [mvPart_zero]; exact hcl
      clear hcl hC hci hcu hcs hu
      obtain ⟨wo, hwo⟩ : ∃ wo, wo = wr := ⟨_, rfl⟩
      subst hwo
      go_wp2_with fail
      go_loopw [43] (fun jv wr => ∃ (k : Nat), jv = .int .i64 k ∧ k ≤ ms.length ∧ OwX 84 8 EI wr wo.heap.size (.slice (some ⟨g1, 0, none⟩) ms.length cap1) ms.length (mvPart L K ms k) ∧ Below wo.heap.size wo wr) (fun jv _ => ms.length - (intOf jv).toNat)
      case atStart => exact ⟨0, rfl, by omega, hcl0, hbc⟩
      case round =>
        clear hcl0 hbc
        obtain ⟨k, rfl, hk, hcl, hbi⟩ := hrel
        by_cases hltk : k < ms.length
        · have hb6i : Below W6.heap.size W6 wr := btt hbr hbi
          have b5 := cell_of_one ((hb6i.block _ (Array.getElem?_eq_some_iff.1 n56).1).trans n56)
          have b3 := cell_of_one ((hb6i.block _ (Array.getElem?_eq_some_iff.1 n36).1).trans n36)
          obtain ⟨x, hx⟩ : ∃ x, ms.getD k [] = x := ⟨_, rfl⟩
          have hxm : x ∈ ms := by rw [← hx, getD_eq hltk]; exact List.getElem_mem hltk
          obtain ⟨_, hx8, ht0, ht1⟩ := hmst.out.2 x hxm
          obtain ⟨hx8', hxc⟩ := hcl.intCells hltk
          have hst8 := fun y d => (hcl.keep (EI.stab _) (below_drewN (Below.refl _ _) d)).storeI hltk (i := 7) (by decide) y
          rw [mvPart_at hltk, hx] at hxc
          simp only [mvPart_at hltk, hx] at hst8
          obtain ⟨y0, y1, y2, y3, y4, y5, y6, y7, rfl⟩ := eight hx8
          replace ht0 : 0 ≤ y7 := ht0
          replace ht1 : y7 < (ss.length : Int) := ht1
          obtain ⟨q, rfl⟩ : ∃ q : Nat, y7 = (q : Int) := ⟨y7.toNat, by omega⟩
          have hq : q < L.length := by omega
          have hmq : mvTo [y0, y1, y2, y3, y4, y5, y6, (q : Int)] = q := by show ((q : Int)).toNat = q; omega
          have hstep := Lib.hid (mvPart_step (L := L) (K := K) hltk hx)
          obtain ⟨c0, c1, c2, c3, c4, c5, c6, c7⟩ := hxc.all8
          have hlc := cell_kept hb6i (hOIL.cell hq)
          rw [natI_getD] at hlc
          have hlqb : L.getD q 0 ≤ 1000000 := by rw [getD_eq hq]; exact hLb.out _ (List.getElem_mem _)
          have hlk : ∀ d, (Instr.lookup 127 (.map (some (W2.heap.size + 1))) (.int .i64 (L.getD q 0 : Nat)) false).run Tryz.prog (wr.drewN d) = .ok (.int .i64 (numK K (L.getD q 0) : Nat)) (wr.drewN d) := fun d => by
            have hMd : IM intV (wr.drewN d) (W2.heap.size + 1) K := by rw [hbM] at hM6; exact hM6.keep ((hb6i.block _ hM6.lt))
            unfold numK
            rcases IM.look keyX_int umInt zInt hMd hKn.out hKb.out hlqb with ⟨hin, hl1, _⟩ | ⟨hin, hl1, _⟩
            · rw [if_neg hin]; exact hl1
            · rw [if_pos hin]; exact hl1
          have hform : formMv L K [y0, y1, y2, y3, y4, y5, y6, (q : Int)] = [y0, y1, y2, y3, y4, y5, y6, (q : Int)].set 7 ((numK K (L.getD q 0) : Nat) : Int) := by unfold formMv; rw [hmq]
          rw [hform] at hstep
          obtain ⟨lq, hlq⟩ : ∃ lq, L.getD q 0 = lq := ⟨_, rfl⟩
          rw [hlq] at hlc hlk hstep
          obtain ⟨nq, hnq⟩ : ∃ nq, numK K lq = nq := ⟨_, rfl⟩
          simp only [hnq] at hlk hstep
          have hst8 := fun d => hst8 (nq : Int) d
          rw [hstep.out] at hst8
          replace hst8 := Lib.hid hst8
          have hfr := hcl.frozen (k * 8 + 7)
          have hmx : Tryz.prog.follows .mixedOrders = true := by kernel_rfl
          clear hxc hx8' hx8 hform hstep hcl c0 c1 c2 c3 c4 c5 c6
          go_wp2_with fail
          refine wp_region_qtail 14 hmx (by kernel_rfl) (by kernel_rfl) ?_ ?_
          · rintro ⟨a, wx, h⟩
            first
              | exact h
              | (obtain ⟨_, h, _⟩ := h; cases h; done)
              | (obtain ⟨_, _, h, _⟩ := h; cases h; done)
              | (obtain ⟨h, _⟩ := h; cases h; done)
          · intro ops'
            simp only [List.take_succ_cons, List.take_zero, List.drop_succ_cons, List.drop_zero]
            repeat (quiet_step (fail))
            refine wpQuiet_nil ?_
            intro d
            obtain ⟨hs1, hs2⟩ := hst8.out d
            go_wp2
            go_roundw
            case rel => exact ⟨k + 1, by go_num, hltk, hs1, (below_drewN hbi d).setCell hg1 _⟩
            case measure => simp [intOf]; omega
        · obtain rfl : k = ms.length := by omega
          rw [mvPart_all] at hcl
          have hb6i : Below W6.heap.size W6 wr := btt hbr hbi
          have hbxi := (hbi.block _ (Array.getElem?_eq_some_iff.1 hbx).1).trans hbx
          have x1i : wr.cell? ⟨W6.heap.size, 1, none⟩ = some (.slice va i vc) := by rw [cell_of_row _ _ 1 _ _ _ hbxi]; rfl
          have hrow2 := hrow.keep (ESt.stab (by decide)) hbi
          have hES : ESt wr [.slice (some ⟨g1, 0, none⟩) ms.length cap1] (ms.map (formMv L K)) := ⟨_, rfl, by rw [List.length_map]; exact hcl.base (Nat.zero_le _)⟩
          clear x1 hbx hrow hcl
          have hB1 : W6.heap.size + 1 ≤ wr.heap.size := (Array.getElem?_eq_some_iff.1 hbxi).1
          have hi9 : i ≤ 1000000000000 := by omega
          have hc9 : ∀ u ∈ (#[.slice (some ⟨g1, 0, none⟩) ms.length cap1] : Array Value).toList, u.oneCell' = true := fun u hu => by rw [List.mem_singleton.1 hu]; rfl
          have hSt : Stab 82 ESt := ESt.stab (by decide)
          go_wp2_with (at_builtin; refine wpAppX elemSt (by decide) (by decide) hSt rfl _ _ rfl rfl hrow2 rfl rfl rfl hc9 hES hi9 hB1 ?_)
          intro v' w2 hrow3 hgr3 hb3' hx3
          have hbx2 := (hb3'.block _ (Nat.lt_succ_self _)).trans hbxi
          have hfr2 := row_free hbx2 1
          have x2 : w2.cell? ⟨W6.heap.size, 1, none⟩ = some (.slice va i vc) := by rw [cell_of_row _ _ 1 _ _ _ hbx2]; rfl
          obtain ⟨va', vc', hv'⟩ := hrow3.shape
          subst hv'
          have hset := two_setCell (u := .slice va' (i + 1) vc') hbx2
          rw [take_succ_snoc (by omega) hFi] at hrow3
          have hrow4 := hrow3.other (E' := 24) (ESt.stab (by decide)) (by decide) (KeepX.setCell (p := ⟨W6.heap.size, 1, none⟩) hbx2 (.slice va' (i + 1) vc'))
          have hbf : Below W6.heap.size W6 (w2.setCell ⟨W6.heap.size, 1, none⟩ (.slice va' (i + 1) vc')) := (hb6i.trans (hb3'.mono (Nat.le_succ _))).setCell (p := ⟨W6.heap.size, 1, none⟩) (Nat.le_refl _) _
          clear hrow2 hrow3 hgr3 hx3 hES hb3' hFi
          go_wp2
          go_roundw
          case rel => exact ⟨i + 1, .slice va' (i + 1) vc', by go_num, hlt, hbf, hset, hrow4⟩
          case measure => simp [intOf]; omega
    · obtain rfl : i = R.1.length := by omega
      have r1c : wr.cell? ⟨W6.heap.size, 0, none⟩ = some (.int .i64 n) := by rw [cell_of_row _ _ 0 _ _ _ hbx]; rfl
      have hbf : Below W1.heap.size W1 wr := hb16.trans (hbr.mono hb26)
      have hb1' : Below w.heap.size w wr := bt hb1 hbf hb1.size
      have k0 := cell_kept hbf z0
      have k1 := cell_kept hbf z1
      have kf := row_free (hbf.block _ (Array.getElem?_eq_some_iff.1 m1h).1 |>.trans m1h)
      have hrw := (hbf.block _ (Array.getElem?_eq_some_iff.1 m1h).1).trans m1h
      have hx1 : KeepX 24 wr (wr.setCell ⟨w.heap.size + 1, 0, none⟩ (.int .i64 n)) := KeepX.setCell (p := ⟨w.heap.size + 1, 0, none⟩) hrw _
      have hrw1 : (wr.setCell ⟨w.heap.size + 1, 0, none⟩ (.int .i64 n)).heap[w.heap.size + 1]? = some (.cells #[.int .i64 n, .slice none 0 0] 24) := heap_setCell_same wr _ 0 _ _ _ hrw
      have hx2 := KeepX.setCell (p := ⟨w.heap.size + 1, 1, none⟩) hrw1 (.slice va R.1.length vc)
      have hrw2 := two_setCell (u := .slice va R.1.length vc) hrw1
      have hfin := hrow.other (E' := 24) (ESt.stab (by decide)) (by decide) (hx1.trans hx2)
      rw [List.take_of_length_le (by omega)] at hfin
      have hbe := (hb1'.setCell (p := ⟨w.heap.size + 1, 0, none⟩) (Nat.le_succ _) (.int .i64 n)).setCell (p := ⟨w.heap.size + 1, 1, none⟩) (Nat.le_succ _) (.slice va R.1.length vc)
      have hkss : OwX 82 1 ESt _ 0 (.slice va R.1.length vc) Fm.length Fm ∧ Fm.length ≤ 5864062014805 ∧ ∀ x ∈ Fm, x.length ≤ 2199023255552 := ⟨by rw [hFml]; exact hfin.base (Nat.zero_le _), by omega, (fun x hx => by
        obtain ⟨j, hj, rfl⟩ := List.getElem_of_mem hx
        rw [← getD_eq hj [], hFmi.out j (by omega), List.length_map]
        have hjs : R.1.getD j 0 < ss.length := hRb.out _ (by rw [getD_eq (by omega)]; exact List.getElem_mem _)
        have h1 := mem_movesN (ss := ss) (ms := ss.getD (R.1.getD j 0) []) (by rw [getD_eq hjs]; exact List.getElem_mem hjs)
        omega)⟩
      have e0 : ((wr.setCell ⟨w.heap.size + 1, 0, none⟩ (.int .i64 n)).setCell ⟨w.heap.size + 1, 1, none⟩ (.slice va R.1.length vc)).cell? ⟨w.heap.size + 1, 0, none⟩ = some (.int .i64 n) := by rw [cell_of_row _ _ 0 _ _ _ hrw2]; rfl
      have e1 : ((wr.setCell ⟨w.heap.size + 1, 0, none⟩ (.int .i64 n)).setCell ⟨w.heap.size + 1, 1, none⟩ (.slice va R.1.length vc)).cell? ⟨w.heap.size + 1, 1, none⟩ = some (.slice va R.1.length vc) := by rw [cell_of_row _ _ 1 _ _ _ hrw2]; rfl
      rw [← hFm.out] at hkss
      clear hfin hx1 hx2 hrw2 hrw1 hrw hrow hFmi hS6
      go_wp2
      obtain ⟨W8, hW8⟩ : ∃ W8, W8 = (wr.setCell ⟨w.heap.size + 1, 0, none⟩ (.int .i64 n)).setCell ⟨w.heap.size + 1, 1, none⟩ (.slice va R.1.length vc) := ⟨_, rfl⟩
      rw [← hW8] at e0 e1 hkss hbe ⊢
      clear hW8
      refine bodyPost_ret (v := .agg #[.int .i64 n, .slice va R.1.length vc]) (by simp [results, Tryz.results51, go_sem, e0, e1]) rfl ?_
      exact ⟨_, rfl, ⟨_, rfl, hkss⟩, hbe⟩
end Go.Proofs.YtfihpofdoffclaaGreatDoor

/- The walk of Generate, at a list of permutations. -/
import Derived.Test.YtpjlaaldepfnkaaDoorGb
namespace Go.Proofs.YtpjlaaldepfnkaaDoor
open Go.RowKit Go.ChangeMaps Go.MapKept Go.WideMaps

theorem keyI {n : Nat} (hn : n ≤ 5) {g : List (List Int)} (hg : InvG n g) {x : List Int} (hx : IsP n x) : ∀ y ∈ g, keyA y = keyA x → y = x :=
  fun y hy e => keyA_inj (hg.2 y hy).1 hx.1 hn e

set_option maxRecDepth 100000 in
set_option maxHeartbeats 6400000 in
theorem generateOk {w : World} {v : Value} {l : List (List Int)} (n : Nat) (hn1 : 1 ≤ n) (hn : n ≤ 5) (h : Intss w v l) (hl4 : l.length ≤ 1024) (hl : ∀ a ∈ l, IsP n a) {G : List (List Int)} (hG : clGo l 3126 0 [oneL n] = some G) (hGi : InvG n G) :
    Calls Tryd.prog 27 #[.int .i64 n, v] w fun e w' => ∃ r, e = .returned (.tuple #[r, .int .i64 0]) ∧ ∃ yss, yss.Perm G ∧ yss.Pairwise (fun a b => ¬ cmpL b a < 0) ∧ OII w' w.heap.size r G.length yss ∧ Below w.heap.size w w' := by
  have HN := Lib.hid (number n w)
  rw [show numE n = 0 by rw [numE, if_neg (by omega)]] at HN
  obtain ⟨la, lc, lb, lo, rfl, ha, hc, hll⟩ := h
  replace hG := Lib.hid hG
  have hmm := @run_makeMap Tryd.prog
  go_enter Tryd.func27, Tryd.ntmps27
  go_wp2_with (go_at_call 53; refine HN.out.mono ?_; rintro e w1 ⟨rfl, rfl⟩)
  go_loopw [26] (fun i wr => ∃ k : Nat, k ≤ l.length ∧ i = .int .i64 k ∧ Below w.heap.size w wr) (fun i _ => l.length - (intOf i).toNat)
  case atStart => exact ⟨0, by omega, rfl, Below.refl _ _⟩
  case round =>
    obtain ⟨k, hk, rfl, hb⟩ := hrel
    by_cases hlt : k < l.length
    · obtain rfl := ha (by omega)
      obtain ⟨u1, hck, hi⟩ := hc.keep hb k hlt
      have hxP : IsP n (l.getD k []) := by rw [getD_eq hlt]; exact hl _ (List.getElem_mem hlt)
      clear ha hc
      obtain ⟨x, hx⟩ : ∃ x, l.getD k [] = x := ⟨_, rfl⟩
      rw [hx] at hi hxP
      have hE : chk x = 0 := chk_iff.2 ⟨by have := hxP.1; omega, by rw [hxP.1]; exact hxP⟩
      have H := check hi
      rw [hE] at H
      replace H := Lib.hid H
      obtain ⟨a1, c1, b1, o1, rfl, _⟩ := hi
      obtain rfl : x.length = n := hxP.1
      clear hx hE
      go_wp2_with (go_at_call 19; refine H.out.mono ?_; rintro e w' ⟨rfl, hb2⟩)
      go_roundw
      case rel => exact ⟨k + 1, by omega, by go_num, bt hb hb2 hb.size⟩
      case measure => simp [intOf]; omega
    · clear hk
      have HI := fun W => identityCall n W (by omega)
      replace HI := Lib.hid HI
      go_wp2_with (go_at_call 56; refine (HI.out _).mono ?_; rintro e w1 ⟨r, rfl, ho, hb1⟩; have hO := OII.one (by rw [oneL_length]; exact ho); have hbO := hb1.alloc hb1.size (.cells #[r] 22); obtain ⟨a1, c1, rfl⟩ := ho.shape)

      clear HI HN
      have hMG := MG.made (w1.alloc (.cells #[.slice a1 n c1] 22))
      have hbM := hbO.alloc hbO.size (.map #[] 0)
      replace hO := hO.keep ((Below.refl _ _).alloc (Nat.le_refl _) (.map #[] 0))
      have ho1 := (ho.keep ((Below.refl _ _).alloc (Nat.le_refl _) (.cells #[.slice a1 n c1] 22))).keep ((Below.refl _ _).alloc (Nat.le_refl _) (.map #[] 0))
      have hg1 : w.heap.size ≤ w1.heap.size := Nat.le_trans hb.size hb1.size
      have hg0 : w.heap.size ≤ (w1.alloc (.cells #[.slice a1 n c1] 22)).heap.size := by simp; omega
      have hP1 := IsP.one n
      refine (keyCall (ho1.ints (by omega)) (by rw [hP1.1]; omega) (by rw [hP1.1]; omega)).mono ?_
      rintro e w2 ⟨rfl, hb2⟩
      replace hMG := hMG.keep hb2
      replace hO := hO.keep hb2
      have hw2 := bt (hb.trans (hbM.mono hb.size)) hb2 (by simp; omega)
      obtain ⟨o, hput, hMG2⟩ := MG.put hMG (by simp) (hP1.small hn) (by simp) (by simp)
      replace hO := (hO.map hMG o).base hg1
      have hbW := below_set hw2 hg0 o
      clear hMG hw2 hb2 hb1 hb hbO hbM ho ho1
      simp only [World.size_alloc] at hput hMG2 hO hbW hg0
      generalize hkA : keyA (oneL n) = kk at *
      obtain ⟨W3, hW3⟩ : ∃ W3, setBlock w2 (w1.heap.size + 1) o = W3 := ⟨_, rfl⟩
      rw [hW3] at hput hMG2 hO hbW
      clear hW3
      go_wp2
      clear hput hkA hmm
      obtain ⟨mb, hmb⟩ : ∃ mb, w1.heap.size + 1 = mb := ⟨_, rfl⟩
      obtain ⟨gb, hgb⟩ : ∃ gb, w1.heap.size = gb := ⟨_, rfl⟩
      rw [hmb] at hMG2 hg0
      rw [hmb]
      rw [hgb] at hO
      rw [hgb]
      rw [List.nil_append] at hMG2
      clear hmb hgb hg1
      go_loopg [10, 12] 3126 (fun f gv iv wr => ∃ (i : Nat) (g : List (List Int)), iv = .int .i64 i ∧ i ≤ g.length ∧ 0 < g.length ∧ OII wr w.heap.size gv g.length g ∧ InvG n g ∧ MG wr mb g ∧ Hid (clGo l f i g = some G) ∧ Below w.heap.size w wr)
      case atStart => exact ⟨0, [oneL n], rfl, by simp, by simp, hO, ⟨by simp, fun y hy => by rw [List.mem_singleton.1 hy]; exact hP1⟩, hMG2, hG.out, hbW⟩
      case round =>
        clear hO hMG2 hbW hG
        obtain ⟨i, g, rfl, hi, hgp, ho, hI, hm, hg, hb⟩ := hrel
        obtain ⟨f, rfl⟩ : ∃ f, gk = f + 1 := by
          cases gk with
          | zero => have := hg.out; simp [clGo] at this
          | succ f => exact ⟨f, rfl⟩
        have hgl := hI.le hn
        obtain ⟨ga, gc, gb, rfl, hga, hgc⟩ := ho.open'
        by_cases hlt2 : i < g.length
        · have hg' := hg.out
          rw [clGo, if_pos hlt2] at hg'
          replace hg' := Lib.hid hg'
          obtain ⟨y, hy⟩ : ∃ y, g.getD i [] = y := ⟨_, rfl⟩
          have hyP : IsP n y := by rw [← hy, getD_eq hlt2]; exact hI.2 _ (List.getElem_mem hlt2)
          rw [hy] at hg'
          replace hy := Lib.hid hy
          clear hg hga hgc
          go_wp2
          obtain ⟨wo, hwo⟩ : ∃ wo, wo = wr := ⟨_, rfl⟩
          rw [← hwo] at ho hb hm ⊢
          clear hwo
          go_loopw [10, 57] (fun gv kv wr => ∃ (k : Nat) (g' : List (List Int)), k ≤ l.length ∧ kv = .int .i64 k ∧ i < g'.length ∧ Hid (g'.getD i [] = y) ∧ OII wr w.heap.size gv g'.length g' ∧ InvG n g' ∧ MG wr mb g' ∧ Hid (clIn y (l.drop k) g' = clIn y l g) ∧ Below w.heap.size w wr) (fun _ kv _ => l.length - (intOf kv).toNat)
          case atStart => exact ⟨0, g, by omega, rfl, hlt2, hy, ho, hI, hm, rfl, hb⟩
          case round =>
            clear ho hb hy hI hgl hlt2 hi hm hlt
            obtain ⟨k, g', hk, rfl, hi, hy, ho, hI, hm, hin, hb⟩ := hrel
            have hgl := hI.le hn
            by_cases hlt : k < l.length
            · obtain rfl := ha (by omega)
              obtain ⟨u, hcu, hu⟩ := hc.keep hb k hlt
              obtain ⟨ga, gc, gb, rfl, hga, hgc⟩ := ho.open'
              obtain rfl := hga (by omega)
              obtain ⟨u2, hcu2, hu2⟩ := hgc i hi
              rw [hy.out] at hu2
              obtain ⟨a, hka⟩ : ∃ a, l.getD k [] = a := ⟨_, rfl⟩
              have haP : IsP n a := by rw [← hka, getD_eq hlt]; exact hl _ (List.getElem_mem hlt)
              rw [hka] at hu
              have hst := Lib.hid (clIn_step (y := y) (g := g') hlt hka)
              clear hka hga hgc
              have HT := composeCall hu (hu2.ints (by have := hyP.1; omega)) (by rw [haP.1]; exact hyP.good) (by have := hyP.1; omega)
              rw [hyP.1] at HT
              replace HT := Lib.hid HT
              have hxP : IsP n (timesL a y) := haP.times hyP
              obtain ⟨x, hx⟩ : ∃ x, timesL a y = x := ⟨_, rfl⟩
              have hI2 := hI.step haP hyP
              rw [hx] at HT hst hI2 hxP
              obtain rfl : x.length = n := hxP.1
              have hxs := hxP.small hn
              have hxi := Lib.hid (keyI hn hI hxP)
              have hgs := Lib.hid (fun y hy => (hI.2 y hy).small hn)
              have hgh : ∀ W, MG W mb g' → (Instr.lookup 91 (.map (some mb)) (.agg (keyA x)) false).run Tryd.prog W = .ok (.bool (decide (x ∈ g'))) W := fun W hW => hW.has hgs.out hxs hxi.out
              replace hgh := Lib.hid hgh
              have HK := fun W u (h : OI W 0 u x.length x) => keyCall (h.ints (by omega)) hn1 hn
              replace HK := Lib.hid HK
              clear hx
              by_cases hmx : x ∈ g'
              · rw [if_pos hmx] at hst
                have hd := Lib.hid (decide_eq_true hmx)
                clear hmx hI2
                go_wp2_with (first | (go_at_call 58; refine HT.out.mono ?_; rintro e w3 ⟨rr, rfl, hxo, hb3⟩; obtain ⟨xa, xc, rfl⟩ := hxo.shape) | (go_at_call 57; refine (HK.out _ _ (hxo.base (Nat.zero_le _))).mono ?_; rintro e w4 ⟨rfl, hb4⟩; have hlk := hgh.out w4 ((hm.keep hb3).keep hb4); rw [hd.out] at hlk))
                go_roundw
                case rel => exact ⟨k + 1, g', by omega, by go_num, hi, hy, (ho.keep hb3).keep hb4, hI, (hm.keep hb3).keep hb4, by show _ = _; rw [← hin.out, hst.out], bt (bt hb hb3 hb.size) hb4 (Nat.le_trans hb.size hb3.size)⟩
                case measure => simp [intOf]; omega
              · rw [if_neg hmx] at hst hI2
                have hd := Lib.hid (decide_eq_false hmx)
                replace hmx := Lib.hid hmx
                go_wp2_with (go_at_call 58; refine HT.out.mono ?_; rintro e w3 ⟨rr, rfl, hxo, hb3⟩; obtain ⟨xa, xc, rfl⟩ := hxo.shape)
                refine (HK.out _ _ (hxo.base (Nat.zero_le _))).mono ?_
                rintro e w4 ⟨rfl, hb4⟩
                have hlk := hgh.out w4 ((hm.keep hb3).keep hb4)
                rw [hd.out] at hlk
                go_wp2_with fail
                refine (HK.out _ _ ((hxo.keep hb4).base (Nat.zero_le _))).mono ?_
                rintro e w5 ⟨rfl, hb5⟩
                have hb345 := btt (btt hb3 hb4) hb5
                have hm5 := hm.keep hb345
                obtain ⟨o5, hput, hm6⟩ := hm5.put hgs.out hxs hxi.out hmx.out
                have ho6 := (ho.keep hb345).map hm5 o5
                have hx6 := ((hxo.keep (btt hb4 hb5)).map hm5 o5).base (Nat.zero_le _)
                have hb6 := below_set (bt hb hb345 hb.size) hg0 o5
                clear hm5 hb345 hb5 hb4 hb3 hxo hlk
                obtain ⟨W6, hW6⟩ : ∃ W6, ChangeMaps.setBlock w5 mb o5 = W6 := ⟨_, rfl⟩
                rw [hW6] at hput hm6 ho6 hx6 hb6
                clear hW6
                have hs6 := hb6.size
                go_wp2_with (at_builtin; refine wpApp1SM rfl _ _ rfl rfl ho6 rfl hx6 rfl hm6 (by omega) hs6 ?_; intro v7 w7 ho7 hb7 hm7; have hbw7 := hb6.trans hb7)
                go_roundw
                case rel => exact ⟨k + 1, g' ++ [x], by omega, by go_num, by simp; omega, by show _ = _; rw [getD_append_left' hi]; exact hy.out, by rw [List.length_append]; exact ho7, hI2, hm7, by show _ = _; rw [← hin.out, hst.out], hbw7⟩
                case measure => simp [intOf]; omega
            · have he := Lib.hid (clIn_end (y := y) (g := g') hlt)
              have hlen := clIn_le y l g
              obtain rfl : k = l.length := by omega
              clear ha hc
              go_wp2
              go_roundg f
              case measure => omega
              case rel =>
                have e1 := hin.out
                rw [he.out] at e1
                exact ⟨i + 1, g', by go_num, by omega, by omega, ho, hI, hm, by show _ = _; rw [e1]; exact hg'.out, hb⟩
        · have hg' := hg.out
          rw [clGo, if_neg hlt2] at hg'
          obtain rfl : g = G := Option.some.inj hg'
          clear hg hg' ha hc hga hgc
          have HS := sortOut ho hgp (by omega) (IsP.len5 hn hI)
          replace HS := Lib.hid HS
          go_wp2_with (go_at_call 59; refine HS.out.mono ?_; rintro e w8 ⟨rfl, yss, hy1, hy2, hy3, hy4⟩)
          go_ret2
          exact ⟨_, rfl, yss, hy1, hy2, hy3, hb.trans (hy4.mono (Nat.le_refl _))⟩
end Go.Proofs.YtpjlaaldepfnkaaDoor
